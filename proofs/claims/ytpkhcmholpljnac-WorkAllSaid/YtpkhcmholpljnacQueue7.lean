/- A text of a claim (ours): a list's state; New and Len; conditions: none of ours. -/
import Derived.Test.YtpkhcmholpljnacProg
import Derived.Below
import Derived.Deep.Draws
import Derived.Deep.AppendLies
import Derived.Maps.AppendAt
import Derived.OwnWalk
import Derived.Laws.BytesArg
import Derived.Laws.MakeOwn
import Derived.Laws.OwnMore
import Derived.Deep.OwnRows
import Derived.Tactics
import Derived.Lib.ConvBytes
import Derived.Laws.Slices
import Derived.WalkKit
import Derived.KernelRfl
import Derived.RowKit3
import Derived.Deep.LoopGhost
import Derived.Deep.QuietTactic
import Derived.BigQuiet
import Derived.WideLaws
import Derived.Deep.DeepCutAuto
import Derived.Deep.CutBlock
import Derived.Deep.RegionHeld3
import Derived.Laws.Rows
import Derived.Lib.AppendStr
import Derived.ArgAppend
import Derived.Laws.IdiomCopy
import Derived.OrdersHeld
import Derived.Laws.BitsLemmas
import Derived.RowKit
import Derived.Test.YtpkhcmholpljnacWWords
import Derived.Test.YtpkhcmholpljnacWLast
import Derived.Test.YtpkhcmholpljnacWTab
import Derived.Test.YtpkhcmholpljnacWFour
import Derived.Test.YtpkhcmholpljnacWQPut
import Derived.Test.YtpkhcmholpljnacWApart
import Derived.Test.YtpkhcmholpljnacWArr
import Derived.Test.YtpkhcmholpljnacWZeros
import Derived.Test.YtpkhcmholpljnacWFoot
import Derived.Test.YtpkhcmholpljnacWKept
import Derived.Test.YtpkhcmholpljnacWShare
import Derived.Test.YtpkhcmholpljnacWN
import Derived.Test.YtpkhcmholpljnacWFootNe
import Derived.Test.YtpkhcmholpljnacWAt
import Derived.Test.YtpkhcmholpljnacWEqStruct
import Derived.Test.YtpkhcmholpljnacWRepsOne
import Derived.Test.YtpkhcmholpljnacWInv
import Derived.Test.YtpkhcmholpljnacWInvWords
import Derived.Test.YtpkhcmholpljnacWGuard
import Derived.Test.YtpkhcmholpljnacWNEv
import Derived.Test.YtpkhcmholpljnacWMore
import Derived.RegionTactic
import Derived.ChangeAlike
import Derived.BigRegion
import Derived.StillTailTactics
import Derived.Deep.RegionLaw
import Derived.WalkSpells
import Derived.Laws.EntriesVeiled
import Derived.Test.YtpkhcmholpljnacQueue6
namespace Go.Proofs.Ytpkhcmholpljnac.Q
open Go Go.RowKit Go.Proofs.Ytpkhcmholpljnac.Heap Go.Proofs.YtpkhcmholpljnacW.PrintWords Go.Proofs.YtpkhcmholpljnacW.PrintLast Go.Proofs.YtpkhcmholpljnacW.PrintMore
set_option linter.unusedVariables false
set_option linter.unusedSimpArgs false

/-! ### a list's state -/
def LI (W : World) (base : Nat) (F : Nat → Prop) (l : Nat) (picks : List Int) (pushed : Nat) (ms : List Th) : Prop :=
  ∃ q pv, W.heap[l]? = some (.cells #[pv, .int .i64 pushed, fq 15 q, fq 16 q, fq 17 q] 42 (0, 0)) ∧ Kd.R (Kd.int .i64) 3 W base F pv picks ∧ F l ∧ base ≤ l ∧ HQ W base F q ms
theorem LI.mono {W : World} {base l pushed : Nat} {F F' : Nat → Prop} {picks : List Int} {ms : List Th} (h : LI W base F l picks pushed ms) (hF : ∀ k, k < W.heap.size → F k → F' k) : LI W base F' l picks pushed ms := by
  obtain ⟨q, pv, h1, h2, h3, h4, h5⟩ := h
  exact ⟨q, pv, h1, Kd.R_mono (Kd.R_bound h2) (fun k hk => hF k hk.2.2.1 hk.1), hF l (blk_lt h1) h3, h4, h5.mono hF⟩
theorem LI.far {W W1 : World} {base l pushed : Nat} {F F1 : Nat → Prop} {picks : List Int} {ms : List Th} (h : LI W base F l picks pushed ms) (c : Chg F1 W W1) (hd : ∀ k, k < W.heap.size → F k → ¬ F1 k) : LI W1 base F l picks pushed ms := by
  obtain ⟨q, pv, h1, h2, h3, h4, h5⟩ := h
  exact ⟨q, pv, c.heap h1 (hd l (blk_lt h1) h3), Kd.R_step h2 (fun k ho hk => c.block k hk (hd k hk ho)), h3, h4, h5.far c hd⟩
theorem LI.below {W W1 : World} {base l pushed : Nat} {F : Nat → Prop} {picks : List Int} {ms : List Th} (h : LI W base F l picks pushed ms) (hb : Below W.heap.size W W1) : LI W1 base F l picks pushed ms :=
  h.far (Chg.of_below (F := fun _ => False) hb) (fun _ _ _ h => h)
/-- The queue's blocks are of two types: none of them is a block of another one. -/
theorem HQ.narrow {W : World} {base q : Nat} {F : Nat → Prop} {ms : List Th} (h : HQ W base F q ms) {b t : Nat} {cs : Array Value} (hb : W.heap[b]? = some (.cells cs t (0, 0))) (h1 : t ≠ 48) (h2 : t ≠ 44) : HQ W base (fun k => F k ∧ k ≠ b) q ms := by
  obtain ⟨ys, ⟨v, g1, g2, g3, g4, g5⟩, g6, g7⟩ := h
  refine ⟨ys, ⟨v, g1, g2, ⟨g3, fun e => ?_⟩, g4, fun k hk => ⟨g5 k hk, fun e => ?_⟩⟩, g6, g7⟩
  · subst e; rw [g1] at hb; simp only [Option.some.injEq, Obj.cells.injEq] at hb; exact h1 hb.2.1.symm
  · subst e; exact own_ne g2 hb (Ne.symm h2) hk.symm
theorem R_narrow {W : World} {base : Nat} {F : Nat → Prop} {v : Value} {xs : List Int} (h : Kd.R (Kd.int .i64) 3 W base F v xs) {b t : Nat} {cs : Array Value} (hb : W.heap[b]? = some (.cells cs t (0, 0))) (ht : t ≠ 3) : Kd.R (Kd.int .i64) 3 W base (fun k => F k ∧ k ≠ b) v xs :=
  Kd.R_types h hb (fun q hq => by simp [Kd.int, Kd.scalar] at hq; subst hq; exact Ne.symm ht)
def Newed (W : World) (picks : List Int) (e : Ending) (W' : World) : Prop :=
  ∃ l, e = .returned (.pointer (some ⟨l, 0, none⟩)) ∧ LI W' W.heap.size (fun k => W.heap.size ≤ k ∧ k < W'.heap.size) l picks 0 [] ∧ Below W.heap.size W W'
theorem newed_mk (W w1 w3 : World) (v : Value) (picks : List Int) (hR : Kd.R (Kd.int .i64) 3 w1 W.heap.size (fun _ => True) v picks) (hB : Below W.heap.size W w1)
    (h3 : Readied (w1.alloc (.cells #[v, .int .i64 0, .nilFunc, .nilFunc, .nilFunc] 42 (0, 0))) w1.heap.size v (.int .i64 0) (.returned (.tuple #[])) w3) : Newed W picks (.returned (.pointer (some ⟨w1.heap.size, 0, none⟩))) w3 := by
  obtain ⟨_, g1, g2, g3⟩ := h3
  have hb0 := below_alloc (Below.refl w1.heap.size w1) (.cells #[v, .int .i64 0, .nilFunc, .nilFunc, .nilFunc] 42 (0, 0))
  have hs : (w1.alloc (.cells #[v, .int .i64 0, .nilFunc, .nilFunc, .nilFunc] 42 (0, 0))).heap.size = w1.heap.size + 1 := by simp
  have hw1 := hB.size
  have C3 : Chg (fun _ => False) w1 w3 := (Chg.of_below hb0).trans g3 (fun k hk e => by omega)
  have B3 : Below w1.heap.size w1 w3 := C3.below (Nat.le_refl _) (fun k e => e.elim)
  rw [hs] at g1 g2
  refine ⟨w1.heap.size, rfl, ⟨w1.heap.size + 1, v, g1, ?_, ⟨hw1, blk_lt g1⟩, hw1, ⟨[], ⟨.slice none 0 0, g2, World.ownsRow_nil _ _ _ _, ⟨by omega, blk_lt g2⟩, by omega, fun k hk => by simp [Value.ownBlock] at hk⟩, fun i h0 h1 => by simp at h1, List.Perm.refl _⟩⟩, below_step hB B3⟩
  exact Kd.R_mono (Kd.R_bound (Kd.R_below hR B3)) (fun k hk => ⟨hk.2.1, hk.2.2.1⟩)
set_option maxHeartbeats 4000000 in
set_option maxRecDepth 100000 in
theorem new_ (W : World) (A : Option Addr) (c : Nat) (xs : List Int) (h : Kd.C (Kd.int .i64) W A xs.length xs) (hn : xs.length ≤ 1000) :
    Calls Try.prog 8 #[.slice A xs.length c] W (Newed W xs) := by
  have HC := Aside0.mk h
  have HX := Aside0.mk hn
  clear h hn
  go_enter Try.func8, Try.ntmps8
  go_wp2_with fail
  refine (clone W A c xs HC.out HX.out).mono ?_
  rintro e w1 ⟨v, rfl, hR, hB⟩
  obtain ⟨A1, c1, rfl, _⟩ := Kd.R_reads hR
  have HR := Aside0.mk hR
  have HB := Aside0.mk hB
  clear hR hB
  go_wp2_with fail
  refine (ready_make _ w1.heap.size (.slice A1 xs.length c1) (.int .i64 0) (heap_alloc_new w1 _)).mono ?_
  intro e w3 h3
  obtain rfl := h3.1
  have HN := Aside0.mk (newed_mk W w1 w3 _ xs HR.out HB.out h3)
  clear h3
  go_wp2
  go_ret
  exact HN.out
set_option maxHeartbeats 4000000 in
set_option maxRecDepth 100000 in
theorem len_ (W : World) (base l pushed : Nat) (F : Nat → Prop) (picks : List Int) (ms : List Th) (h : LI W base F l picks pushed ms) :
    Calls Try.prog 12 #[.pointer (some ⟨l, 0, none⟩)] W fun e W' => e = .returned (.int .i64 ms.length) ∧ W = W' := by
  obtain ⟨q, pv, h1, _, _, _, ⟨ys, hq, _, hp⟩⟩ := h
  have hc : W.cell? ⟨l, 2, none⟩ = some (.func (.func 15) #[.pointer (some ⟨q, 0, none⟩)] #[]) := (blk_cell h1 2).trans rfl
  have HQ := Aside0.mk hq
  have hl := hp.length_eq
  have HL := Aside0.mk hl
  clear h1 hq hp hl
  have f1 : ∀ w, (binOp .eql 33 (.func (.func 15) #[.pointer (some ⟨q, 0, none⟩)] #[]) .nilFunc).run Try.prog w = .ok (.bool false) w := fun w => rfl
  go_enter Try.func12, Try.ntmps12
  go_wp2_with fail
  refine (qlen W base q F ys HQ.out).mono ?_
  rintro e w1 ⟨rfl, hw⟩
  obtain rfl : W = w1 := hw.symm
  rw [HL.out]
  go_wp2
  go_ret
  exact ⟨rfl, rfl⟩
end Go.Proofs.Ytpkhcmholpljnac.Q
