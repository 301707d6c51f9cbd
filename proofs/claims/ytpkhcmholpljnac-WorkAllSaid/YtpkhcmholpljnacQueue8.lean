/- A text of a claim (ours): what Push does to a list; conditions: none of ours. -/
import Derived.Test.YtpkhcmholpljnacProg
import Derived.Below
import Derived.Deep.Draws
import Derived.Deep.AppendLies
import Derived.Maps.AppendAt
import Derived.OwnWalk
import Derived.Laws.BytesArg
import Derived.Laws.MakeOwn
import Derived.Laws.OwnMore
import Derived.Deep.OwnRows
import Derived.Tactics
import Derived.Lib.ConvBytes
import Derived.Laws.Slices
import Derived.WalkKit
import Derived.KernelRfl
import Derived.RowKit3
import Derived.Deep.LoopGhost
import Derived.Deep.QuietTactic
import Derived.BigQuiet
import Derived.WideLaws
import Derived.Deep.DeepCutAuto
import Derived.Deep.CutBlock
import Derived.Deep.RegionHeld3
import Derived.Laws.Rows
import Derived.Lib.AppendStr
import Derived.ArgAppend
import Derived.Laws.IdiomCopy
import Derived.OrdersHeld
import Derived.Laws.BitsLemmas
import Derived.RowKit
import Derived.Test.YtpkhcmholpljnacWWords
import Derived.Test.YtpkhcmholpljnacWLast
import Derived.Test.YtpkhcmholpljnacWTab
import Derived.Test.YtpkhcmholpljnacWFour
import Derived.Test.YtpkhcmholpljnacWQPut
import Derived.Test.YtpkhcmholpljnacWApart
import Derived.Test.YtpkhcmholpljnacWArr
import Derived.Test.YtpkhcmholpljnacWZeros
import Derived.Test.YtpkhcmholpljnacWFoot
import Derived.Test.YtpkhcmholpljnacWKept
import Derived.Test.YtpkhcmholpljnacWShare
import Derived.Test.YtpkhcmholpljnacWN
import Derived.Test.YtpkhcmholpljnacWFootNe
import Derived.Test.YtpkhcmholpljnacWAt
import Derived.Test.YtpkhcmholpljnacWEqStruct
import Derived.Test.YtpkhcmholpljnacWRepsOne
import Derived.Test.YtpkhcmholpljnacWInv
import Derived.Test.YtpkhcmholpljnacWInvWords
import Derived.Test.YtpkhcmholpljnacWGuard
import Derived.Test.YtpkhcmholpljnacWNEv
import Derived.Test.YtpkhcmholpljnacWMore
import Derived.RegionTactic
import Derived.ChangeAlike
import Derived.BigRegion
import Derived.StillTailTactics
import Derived.Deep.RegionLaw
import Derived.WalkSpells
import Derived.Laws.EntriesVeiled
import Derived.Test.YtpkhcmholpljnacQueue7
namespace Go.Proofs.Ytpkhcmholpljnac.Q
open Go Go.RowKit Go.Proofs.Ytpkhcmholpljnac.Heap Go.Proofs.YtpkhcmholpljnacW.PrintWords Go.Proofs.YtpkhcmholpljnacW.PrintLast Go.Proofs.YtpkhcmholpljnacW.PrintMore
set_option linter.unusedVariables false
set_option linter.unusedSimpArgs false

def keyOf (picks : List Int) (k : Nat) : Int := if picks.length = 0 then 0 else rd picks ((k % picks.length : Nat) : Int)
def LPushed (W : World) (base l : Nat) (F : Nat → Prop) (picks : List Int) (pushed : Nat) (ms : List Th) (n : Int) (e : Ending) (W' : World) : Prop :=
  e = .returned (.tuple #[]) ∧ LI W' base (grow F W W') l picks (pushed + 1) (ms ++ [(keyOf picks pushed, (pushed : Int), n)]) ∧ Chg F W W'
theorem lpushed_mk (W w1 : World) (base l q : Nat) (F : Nat → Prop) (picks : List Int) (pushed : Nat) (ms : List Th) (n : Int) (pv : Value) (key : Int) (hk : key = keyOf picks pushed)
    (h1 : W.heap[l]? = some (.cells #[pv, .int .i64 pushed, fq 15 q, fq 16 q, fq 17 q] 42 (0, 0))) (h2 : Kd.R (Kd.int .i64) 3 W base F pv picks) (h3 : F l) (h4 : base ≤ l)
    (hp : HPushed W base (fun k => (F k ∧ k ≠ l) ∧ some k ≠ pv.ownBlock) q ms (key, (pushed : Int), n) (.returned (.tuple #[])) w1) :
    LPushed W base l F picks pushed ms n (.returned (.tuple #[])) (w1.setCell ⟨l, 1, none⟩ (.int .i64 ((pushed + 1 : Nat) : Int))) := by
  obtain ⟨_, g1, g2⟩ := hp
  have b1 := g2.heap h1 (fun e => e.1.2 rfl)
  have b2 := blk_set b1 1 (.int .i64 ((pushed + 1 : Nat) : Int))
  have C : Chg (fun k => k = l) w1 (w1.setCell ⟨l, 1, none⟩ (.int .i64 ((pushed + 1 : Nat) : Int))) := (Chg.refl (fun k => k = l) w1).setCell (p := ⟨l, 1, none⟩) rfl _
  have hR1 : Kd.R (Kd.int .i64) 3 w1 base (fun k => F k ∧ some k = pv.ownBlock) pv picks := by
    refine Kd.R_step (ok := fun k => F k ∧ some k = pv.ownBlock) ?_ (fun k ho hk => g2.block k hk (fun e => e.2 ho.2))
    exact Kd.R_mono (Kd.R_tight rfl h2) (fun k hk => ⟨h2.1 k hk.symm, hk⟩)
  subst hk
  refine ⟨rfl, ⟨q, pv, b2, ?_, .inl h3, h4, ?_⟩, (g2.mono (fun k e => e.1.1)).trans C (fun k hk e => by subst e; exact h3)⟩
  · refine Kd.R_mono (Kd.R_step (R_narrow hR1 b1 (by decide)) (fun k ho hk => C.block k hk ho.2)) (fun k hk => .inl hk.1.1)
  · refine ((g1.narrow b1 (by decide) (by decide)).far C (fun k hk e => e.2)).mono (fun k hk e => ?_)
    rcases e.1 with e | e
    · exact .inl e.1.1
    · exact .inr ⟨e.1, by rw [World.size_setCell]; exact e.2⟩
theorem HQ.narrowV {W : World} {base q : Nat} {F : Nat → Prop} {ms : List Th} (h : HQ W base F q ms) {pv : Value} {xs : List Int} (hv : Kd.R (Kd.int .i64) 3 W base F pv xs) : HQ W base (fun k => F k ∧ some k ≠ pv.ownBlock) q ms := by
  cases e : pv.ownBlock with
  | none => exact h.mono (fun k hk f => ⟨f, by simp⟩)
  | some b =>
    obtain ⟨inner, ho⟩ := Kd.R_own hv
    obtain ⟨cs, hb⟩ := own_typed ho b e
    exact (h.narrow hb (by decide) (by decide)).mono (fun k hk f => ⟨f.1, fun e2 => f.2 (Option.some.inj e2)⟩)
theorem narrow2 {W : World} {base l q pushed : Nat} {F : Nat → Prop} {picks : List Int} {ms : List Th} {pv : Value} (h1 : W.heap[l]? = some (.cells #[pv, .int .i64 pushed, fq 15 q, fq 16 q, fq 17 q] 42 (0, 0))) (h2 : Kd.R (Kd.int .i64) 3 W base F pv picks) (h5 : HQ W base F q ms) : HQ W base (fun k => (F k ∧ k ≠ l) ∧ some k ≠ pv.ownBlock) q ms :=
  (h5.narrow h1 (by decide) (by decide)).narrowV (R_narrow h2 h1 (by decide))
theorem LPushed.undrewN {W : World} {base l : Nat} {F : Nat → Prop} {picks : List Int} {pushed : Nat} {ms : List Th} {n : Int} {e : Ending} {W' : World} (m : Nat) (h : LPushed (W.drewN m) base l F picks pushed ms n e W') : LPushed W base l F picks pushed ms n e W' :=
  ⟨h.1, h.2.1, ⟨h.2.2.os, h.2.2.tape, h.2.2.output, h.2.2.size, h.2.2.block⟩⟩
theorem LPushed.undrew {W : World} {base l : Nat} {F : Nat → Prop} {picks : List Int} {pushed : Nat} {ms : List Th} {n : Int} {e : Ending} {W' : World} (h : LPushed W.drew base l F picks pushed ms n e W') : LPushed W base l F picks pushed ms n e W' :=
  ⟨h.1, h.2.1, ⟨h.2.2.os, h.2.2.tape, h.2.2.output, h.2.2.size, h.2.2.block⟩⟩
set_option maxHeartbeats 4000000 in
set_option maxRecDepth 100000 in
theorem push_none (W : World) (base l pushed : Nat) (F : Nat → Prop) (ms : List Th) (n : Int) (h : LI W base F l [] pushed ms) (hn : ms.length < 1000) (hp : pushed < 1000000) (hbase : base ≤ W.heap.size) :
    Calls Try.prog 9 #[.pointer (some ⟨l, 0, none⟩), .int .i64 n] W (LPushed W base l F [] pushed ms n) := by
  obtain ⟨q, pv, h1, h2, h3, h4, h5⟩ := h
  obtain ⟨A, c, rfl, _, _⟩ := Kd.R_reads h2
  have c0 : W.cell? ⟨l, 0, none⟩ = some (.slice A 0 c) := (blk_cell h1 0).trans rfl
  have c1 : W.cell? ⟨l, 1, none⟩ = some (.int .i64 pushed) := (blk_cell h1 1).trans rfl
  have c3 : W.cell? ⟨l, 3, none⟩ = some (.func (.func 16) #[.pointer (some ⟨q, 0, none⟩)] #[]) := (blk_cell h1 3).trans rfl
  have hp1 : (pushed : Int) ≤ 1000000 := by omega
  have hls := blk_lt h1
  have HH := Aside0.mk (And.intro h1 (And.intro h2 (And.intro h3 (And.intro h4 (narrow2 h1 h2 h5)))))
  clear h1 h2 h3 h4 h5
  go_enter Try.func9, Try.ntmps9
  go_wp2_with (first | ((with_reducible refine (ready_kept W l q _ _ HH.out.1).mono ?_); rintro e w1 ⟨rfl, rfl⟩))
  go_still_tail 11, (by kernel_rfl)
  have HB := Aside0.mk (show base ≤ W.drew.heap.size from hbase)
  have HQD := Aside0.mk (HH.out.2.2.2.2.below (below_drew (Below.refl W.heap.size W)))
  have HLD := Aside0.mk (blk_drew HH.out.1)
  have HK := Aside0.mk (fun w1 hp => LPushed.undrew (lpushed_mk W.drew w1 base l q F [] pushed ms n _ 0 rfl (blk_drew HH.out.1) (Kd.R_drew HH.out.2.1) HH.out.2.2.1 HH.out.2.2.2.1 hp))
  clear HH
  change wpList _ _ _ _ _ W.drew
  generalize W.drew = w2 at HB HQD HLD HK ⊢
  go_wp2_with fail
  refine (put w2 base q _ ms (0, (pushed : Int), n) HQD.out hn HB.out).mono ?_
  intro e w3 h3
  obtain rfl := h3.1
  have hl3 := h3.2.2.heap HLD.out (fun e => e.1.2 rfl)
  have e1 : w3.cell? ⟨l, 1, none⟩ = some (.int .i64 pushed) := (blk_cell hl3 1).trans rfl
  have ef := blk_frozen hl3
  have HZ := Aside0.mk (HK.out w3 h3)
  clear h3 hl3 HK HQD HLD HB
  go_wp2
  go_end0
  exact HZ.out
set_option maxHeartbeats 4000000 in
set_option maxRecDepth 100000 in
theorem push_some (W : World) (base l pushed : Nat) (F : Nat → Prop) (picks : List Int) (h0 : 0 < picks.length) (h1000 : picks.length ≤ 1000) (ms : List Th) (n : Int) (h : LI W base F l picks pushed ms) (hn : ms.length < 1000) (hp : pushed < 1000000) (hbase : base ≤ W.heap.size) :
    Calls Try.prog 9 #[.pointer (some ⟨l, 0, none⟩), .int .i64 n] W (LPushed W base l F picks pushed ms n) := by
  obtain ⟨q, pv, h1, h2, h3, h4, h5⟩ := h
  obtain ⟨A, c, rfl, hc, hC⟩ := Kd.R_reads h2
  have hm : pushed % picks.length < picks.length := Nat.mod_lt _ h0
  obtain ⟨ad, rfl, hcell⟩ := Kd.at_int hC ((pushed % picks.length : Nat) : Int) (by omega) (by omega)
  have ek : rd picks ((pushed % picks.length : Nat) : Int) = keyOf picks pushed := by unfold keyOf; rw [if_neg (by omega)]
  rw [ek, Int.toNat_natCast] at hcell
  have c0 : W.cell? ⟨l, 0, none⟩ = some (.slice (some ad) picks.length c) := (blk_cell h1 0).trans rfl
  have c1 : W.cell? ⟨l, 1, none⟩ = some (.int .i64 pushed) := (blk_cell h1 1).trans rfl
  have c3 : W.cell? ⟨l, 3, none⟩ = some (.func (.func 16) #[.pointer (some ⟨q, 0, none⟩)] #[]) := (blk_cell h1 3).trans rfl
  have hp1 : (pushed : Int) ≤ 1000000 := by omega
  have hls := blk_lt h1
  have HH := Aside0.mk (And.intro h1 (And.intro h2 (And.intro h3 (And.intro h4 (narrow2 h1 h2 h5)))))
  clear h1 h2 h3 h4 h5 hC hc ek
  have em : Int.tmod (pushed : Int) (picks.length : Int) = ((pushed % picks.length : Nat) : Int) := (Int.ofNat_tmod _ _).symm
  have em2 : (pushed : Int) % (picks.length : Int) = ((pushed % picks.length : Nat) : Int) := by omega
  generalize pushed % picks.length = m at hm hcell em em2
  obtain ⟨key, hkey⟩ : ∃ key, key = keyOf picks pushed := ⟨_, rfl⟩
  rw [← hkey] at hcell
  have HKY := Aside0.mk hkey
  clear hkey
  have d1 : decide (0 < (picks.length : Int)) = true := decide_eq_true (by omega)
  have d2 : decide (0 < picks.length) = true := decide_eq_true h0
  have d3 : ((picks.length : Int) == 0) = false := by rw [beq_eq_false_iff_ne]; omega
  have hp3 : (picks.length : Int) ≤ 1000 := by omega
  have hm3 : (m : Int) < (picks.length : Int) := by omega
  go_enter Try.func9, Try.ntmps9
  go_wp2_with (first | ((with_reducible refine (ready_kept W l q _ _ HH.out.1).mono ?_); rintro e w1 ⟨rfl, rfl⟩))
  go_quiet (fail)
  have HF := Aside0.mk (fun (e : Ending) (W' : World) (h : LPushed (W.drewN nq) base l F picks pushed ms n e W') => LPushed.undrewN nq h)
  have c1' : (W.drewN nq).cell? ⟨l, 1, none⟩ = some (.int .i64 pushed) := c1
  have c3' : (W.drewN nq).cell? ⟨l, 3, none⟩ = some (.func (.func 16) #[.pointer (some ⟨q, 0, none⟩)] #[]) := c3
  have hls' : l < (W.drewN nq).heap.size := hls
  have HHD := Aside0.mk (And.intro (blk_drewN HH.out.1 nq) (And.intro (Kd.R_drewN HH.out.2.1 nq) (And.intro HH.out.2.2.1 (And.intro HH.out.2.2.2.1 (HH.out.2.2.2.2.below (pw_below_drewN (Below.refl W.heap.size W) nq))))))
  have HBB := Aside0.mk (show base ≤ (W.drewN nq).heap.size from hbase)
  clear HH c0 c1 c3 hls hcell hbase
  have HH := HHD
  clear HHD
  generalize W.drewN nq = wd at HF c1' c3' hls' HH HBB ⊢
  go_wp2_with fail
  go_still_tail 11, (by kernel_rfl)
  have HB := Aside0.mk (show base ≤ wd.drew.heap.size from HBB.out)
  have HQD := Aside0.mk (HH.out.2.2.2.2.below (below_drew (Below.refl wd.heap.size wd)))
  have HLD := Aside0.mk (blk_drew HH.out.1)
  have HK := Aside0.mk (fun w1 hp => HF.out _ _ (LPushed.undrew (lpushed_mk wd.drew w1 base l q F picks pushed ms n _ key HKY.out (blk_drew HH.out.1) (Kd.R_drew HH.out.2.1) HH.out.2.2.1 HH.out.2.2.2.1 hp)))
  clear HH HF
  change wpList _ _ _ _ _ wd.drew
  generalize wd.drew = w2 at HB HQD HLD HK ⊢
  go_wp2_with fail
  refine (put w2 base q _ ms (key, (pushed : Int), n) HQD.out hn HB.out).mono ?_
  intro e w3 h3
  obtain rfl := h3.1
  have hl3 := h3.2.2.heap HLD.out (fun e => e.1.2 rfl)
  have e1 : w3.cell? ⟨l, 1, none⟩ = some (.int .i64 pushed) := (blk_cell hl3 1).trans rfl
  have ef := blk_frozen hl3
  have HZ := Aside0.mk (HK.out w3 h3)
  clear h3 hl3 HK HQD HLD HB
  go_wp2
  go_end0
  exact HZ.out
end Go.Proofs.Ytpkhcmholpljnac.Q
