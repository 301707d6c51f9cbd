/- A text of a claim (ours): what Pop does to a list, and what a list that is none answers; conditions: none of ours. -/
import Derived.Test.YtpkhcmholpljnacProg
import Derived.Below
import Derived.Deep.Draws
import Derived.Deep.AppendLies
import Derived.Maps.AppendAt
import Derived.OwnWalk
import Derived.Laws.BytesArg
import Derived.Laws.MakeOwn
import Derived.Laws.OwnMore
import Derived.Deep.OwnRows
import Derived.Tactics
import Derived.Lib.ConvBytes
import Derived.Laws.Slices
import Derived.WalkKit
import Derived.KernelRfl
import Derived.RowKit3
import Derived.Deep.LoopGhost
import Derived.Deep.QuietTactic
import Derived.BigQuiet
import Derived.WideLaws
import Derived.Deep.DeepCutAuto
import Derived.Deep.CutBlock
import Derived.Deep.RegionHeld3
import Derived.Laws.Rows
import Derived.Lib.AppendStr
import Derived.ArgAppend
import Derived.Laws.IdiomCopy
import Derived.OrdersHeld
import Derived.Laws.BitsLemmas
import Derived.RowKit
import Derived.Test.YtpkhcmholpljnacWWords
import Derived.Test.YtpkhcmholpljnacWLast
import Derived.Test.YtpkhcmholpljnacWTab
import Derived.Test.YtpkhcmholpljnacWFour
import Derived.Test.YtpkhcmholpljnacWQPut
import Derived.Test.YtpkhcmholpljnacWApart
import Derived.Test.YtpkhcmholpljnacWArr
import Derived.Test.YtpkhcmholpljnacWZeros
import Derived.Test.YtpkhcmholpljnacWFoot
import Derived.Test.YtpkhcmholpljnacWKept
import Derived.Test.YtpkhcmholpljnacWShare
import Derived.Test.YtpkhcmholpljnacWN
import Derived.Test.YtpkhcmholpljnacWFootNe
import Derived.Test.YtpkhcmholpljnacWAt
import Derived.Test.YtpkhcmholpljnacWEqStruct
import Derived.Test.YtpkhcmholpljnacWRepsOne
import Derived.Test.YtpkhcmholpljnacWInv
import Derived.Test.YtpkhcmholpljnacWInvWords
import Derived.Test.YtpkhcmholpljnacWGuard
import Derived.Test.YtpkhcmholpljnacWNEv
import Derived.Test.YtpkhcmholpljnacWMore
import Derived.RegionTactic
import Derived.ChangeAlike
import Derived.BigRegion
import Derived.StillTailTactics
import Derived.Deep.RegionLaw
import Derived.WalkSpells
import Derived.Laws.EntriesVeiled
import Derived.Test.YtpkhcmholpljnacQueue8
namespace Go.Proofs.Ytpkhcmholpljnac.Q
open Go Go.RowKit Go.Proofs.Ytpkhcmholpljnac.Heap Go.Proofs.YtpkhcmholpljnacW.PrintWords Go.Proofs.YtpkhcmholpljnacW.PrintLast Go.Proofs.YtpkhcmholpljnacW.PrintMore
set_option linter.unusedVariables false
set_option linter.unusedSimpArgs false

theorem push (W : World) (base l pushed : Nat) (F : Nat → Prop) (picks : List Int) (h1000 : picks.length ≤ 1000) (ms : List Th) (n : Int) (h : LI W base F l picks pushed ms) (hn : ms.length < 1000) (hp : pushed < 1000000) (hbase : base ≤ W.heap.size) :
    Calls Try.prog 9 #[.pointer (some ⟨l, 0, none⟩), .int .i64 n] W (LPushed W base l F picks pushed ms n) := by
  cases picks with
  | nil => exact push_none W base l pushed F ms n h hn hp hbase
  | cons p t => exact push_some W base l pushed F (p :: t) (by simp) h1000 ms n h hn hp hbase
set_option maxHeartbeats 4000000 in
set_option maxRecDepth 100000 in
theorem pop_none (W : World) (base l pushed : Nat) (F : Nat → Prop) (picks : List Int) (h : LI W base F l picks pushed []) :
    Calls Try.prog 11 #[.pointer (some ⟨l, 0, none⟩)] W fun e W' => e = .returned (.tuple #[.int .i64 0, .bool false]) ∧ W = W' := by
  have HL := Aside0.mk h
  clear h
  go_enter Try.func11, Try.ntmps11
  go_wp2_with fail
  refine (len_ W base l pushed F picks [] HL.out).mono ?_
  rintro e w1 ⟨rfl, rfl⟩
  have e0 : ((([] : List Th).length : Nat) : Int) = 0 := rfl
  rw [e0]
  go_wp2
  go_ret2
  exact ⟨rfl, rfl⟩
def LPopped (W : World) (base l : Nat) (F : Nat → Prop) (picks : List Int) (pushed : Nat) (ms : List Th) (e : Ending) (W' : World) : Prop :=
  ∃ (t : Th) (rest : List Th), e = .returned (.tuple #[.int .i64 t.2.2, .bool true]) ∧ LI W' base F l picks pushed rest ∧ (t :: rest).Perm ms ∧ (∀ u ∈ ms, le t u) ∧ Chg F W W'
theorem lpopped_mk (W w1 : World) (base l q : Nat) (F : Nat → Prop) (picks : List Int) (pushed : Nat) (ms : List Th) (pv : Value) (t : Th) (rest : List Th)
    (h1 : W.heap[l]? = some (.cells #[pv, .int .i64 pushed, fq 15 q, fq 16 q, fq 17 q] 42 (0, 0))) (h2 : Kd.R (Kd.int .i64) 3 W base F pv picks) (h3 : F l) (h4 : base ≤ l)
    (g1 : HQ w1 base (fun k => (F k ∧ k ≠ l) ∧ some k ≠ pv.ownBlock) q rest) (g2 : (t :: rest).Perm ms) (g3 : ∀ u ∈ ms, le t u) (g4 : Chg (fun k => (F k ∧ k ≠ l) ∧ some k ≠ pv.ownBlock) W w1) :
    LPopped W base l F picks pushed ms (.returned (.tuple #[.int .i64 t.2.2, .bool true])) w1 := by
  have b1 := g4.heap h1 (fun e => e.1.2 rfl)
  have hR1 : Kd.R (Kd.int .i64) 3 w1 base (fun k => F k ∧ some k = pv.ownBlock) pv picks := by
    refine Kd.R_step (ok := fun k => F k ∧ some k = pv.ownBlock) ?_ (fun k ho hk => g4.block k hk (fun e => e.2 ho.2))
    exact Kd.R_mono (Kd.R_tight rfl h2) (fun k hk => ⟨h2.1 k hk.symm, hk⟩)
  exact ⟨t, rest, rfl, ⟨q, pv, b1, Kd.R_mono hR1 (fun k hk => hk.1), h3, h4, g1.mono (fun k hk e => e.1.1)⟩, g2, g3, g4.mono (fun k e => e.1.1)⟩
set_option maxHeartbeats 4000000 in
set_option maxRecDepth 100000 in
theorem pop_some (W : World) (base l pushed : Nat) (F : Nat → Prop) (picks : List Int) (ms : List Th) (h : LI W base F l picks pushed ms) (h0 : 0 < ms.length) (hn : ms.length ≤ 1000) :
    Calls Try.prog 11 #[.pointer (some ⟨l, 0, none⟩)] W (LPopped W base l F picks pushed ms) := by
  have HL := Aside0.mk h
  obtain ⟨q, pv, h1, h2, h3, h4, h5⟩ := h
  have c4 : W.cell? ⟨l, 4, none⟩ = some (.func (.func 17) #[.pointer (some ⟨q, 0, none⟩)] #[]) := (blk_cell h1 4).trans rfl
  have HH := Aside0.mk (And.intro h1 (And.intro h2 (And.intro h3 (And.intro h4 (narrow2 h1 h2 h5)))))
  have d0 : (((ms.length : Nat) : Int) == 0) = false := by rw [beq_eq_false_iff_ne]; omega
  clear h1 h2 h3 h4 h5
  go_enter Try.func11, Try.ntmps11
  go_wp2_with fail
  refine (len_ W base l pushed F picks ms HL.out).mono ?_
  rintro e w1 ⟨rfl, rfl⟩
  go_wp2_with fail
  refine (take W base q _ ms HH.out.2.2.2.2 hn h0).mono ?_
  rintro e w3 ⟨⟨x0, x1, x2⟩, rest, rfl, g1, g2, g3, g4⟩
  have HZ := Aside0.mk (lpopped_mk W w3 base l q F picks pushed ms pv (x0, x1, x2) rest HH.out.1 HH.out.2.1 HH.out.2.2.1 HH.out.2.2.2.1 g1 g2 g3 g4)
  have hfd : ∀ w, (Instr.field 44 (.agg #[.int .i64 x0, .int .i64 x1, .int .i64 x2]) 2).run Try.prog w = .ok (.int .i64 x2) w := fun w => by kernel_rfl
  clear g1 g2 g3 g4
  go_wp2
  go_ret2
  exact HZ.out
set_option maxHeartbeats 4000000 in
set_option maxRecDepth 100000 in
theorem push_nil (W : World) (n : Int) : Calls Try.prog 9 #[.pointer none, .int .i64 n] W fun e W' => e = .returned (.tuple #[]) ∧ W = W' := by
  go_enter Try.func9, Try.ntmps9
  go_wp2
  refine bodyPost_ret (v := .tuple #[]) (by simp [results, Try.results9, go_sem]) rfl ⟨rfl, rfl⟩
set_option maxHeartbeats 4000000 in
set_option maxRecDepth 100000 in
theorem len_nil (W : World) : Calls Try.prog 12 #[.pointer none] W fun e W' => e = .returned (.int .i64 0) ∧ W = W' := by
  go_enter Try.func12, Try.ntmps12
  go_wp2
  go_ret
  exact ⟨rfl, rfl⟩
set_option maxHeartbeats 4000000 in
set_option maxRecDepth 100000 in
theorem pop_nil (W : World) : Calls Try.prog 11 #[.pointer none] W fun e W' => e = .returned (.tuple #[.int .i64 0, .bool false]) ∧ W = W' := by
  go_enter Try.func11, Try.ntmps11
  go_wp2_with (first | ((with_reducible refine (len_nil W).mono ?_); rintro e w1 ⟨rfl, rfl⟩))
  go_ret2
  exact ⟨rfl, rfl⟩
end Go.Proofs.Ytpkhcmholpljnac.Q
