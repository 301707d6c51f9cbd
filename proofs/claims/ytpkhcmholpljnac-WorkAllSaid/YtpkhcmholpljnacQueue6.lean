/- A text of a claim (ours): slices.Clone, and the list made ready; conditions: none of ours. -/
import Derived.Test.YtpkhcmholpljnacProg
import Derived.Below
import Derived.Deep.Draws
import Derived.Deep.AppendLies
import Derived.Maps.AppendAt
import Derived.OwnWalk
import Derived.Laws.BytesArg
import Derived.Laws.MakeOwn
import Derived.Laws.OwnMore
import Derived.Deep.OwnRows
import Derived.Tactics
import Derived.Lib.ConvBytes
import Derived.Laws.Slices
import Derived.WalkKit
import Derived.KernelRfl
import Derived.RowKit3
import Derived.Deep.LoopGhost
import Derived.Deep.QuietTactic
import Derived.BigQuiet
import Derived.WideLaws
import Derived.Deep.DeepCutAuto
import Derived.Deep.CutBlock
import Derived.Deep.RegionHeld3
import Derived.Laws.Rows
import Derived.Lib.AppendStr
import Derived.ArgAppend
import Derived.Laws.IdiomCopy
import Derived.OrdersHeld
import Derived.Laws.BitsLemmas
import Derived.RowKit
import Derived.Test.YtpkhcmholpljnacWWords
import Derived.Test.YtpkhcmholpljnacWLast
import Derived.Test.YtpkhcmholpljnacWTab
import Derived.Test.YtpkhcmholpljnacWFour
import Derived.Test.YtpkhcmholpljnacWQPut
import Derived.Test.YtpkhcmholpljnacWApart
import Derived.Test.YtpkhcmholpljnacWArr
import Derived.Test.YtpkhcmholpljnacWZeros
import Derived.Test.YtpkhcmholpljnacWFoot
import Derived.Test.YtpkhcmholpljnacWKept
import Derived.Test.YtpkhcmholpljnacWShare
import Derived.Test.YtpkhcmholpljnacWN
import Derived.Test.YtpkhcmholpljnacWFootNe
import Derived.Test.YtpkhcmholpljnacWAt
import Derived.Test.YtpkhcmholpljnacWEqStruct
import Derived.Test.YtpkhcmholpljnacWRepsOne
import Derived.Test.YtpkhcmholpljnacWInv
import Derived.Test.YtpkhcmholpljnacWInvWords
import Derived.Test.YtpkhcmholpljnacWGuard
import Derived.Test.YtpkhcmholpljnacWNEv
import Derived.Test.YtpkhcmholpljnacWMore
import Derived.RegionTactic
import Derived.ChangeAlike
import Derived.BigRegion
import Derived.StillTailTactics
import Derived.Deep.RegionLaw
import Derived.WalkSpells
import Derived.Laws.EntriesVeiled
import Derived.Test.YtpkhcmholpljnacQueue5
namespace Go.Proofs.Ytpkhcmholpljnac.Q
open Go Go.RowKit Go.Proofs.Ytpkhcmholpljnac.Heap Go.Proofs.YtpkhcmholpljnacW.PrintWords Go.Proofs.YtpkhcmholpljnacW.PrintLast Go.Proofs.YtpkhcmholpljnacW.PrintMore
set_option linter.unusedVariables false
set_option linter.unusedSimpArgs false

theorem info3 : (Try.prog.info? 3).map (fun i => (i.zero, i.size, i.bytes)) = some (some (.int .i64 0), 1, 8) := by kernel_rfl
def Cloned (W : World) (xs : List Int) (e : Ending) (W' : World) : Prop := ∃ v, e = .returned v ∧ Kd.R (Kd.int .i64) 3 W' W.heap.size (fun _ => True) v xs ∧ Below W.heap.size W W'
theorem lit0 (W : World) : Kd.R (Kd.int .i64) 3 (W.alloc (.cells #[] 3 (0, 0))) W.heap.size (fun _ => True) (.slice (some ⟨W.heap.size, 0, none⟩) 0 0) [] :=
  Kd.R_of_own (h1 := fun _ => rfl) ⟨rfl, .inr ⟨W.heap.size, 0, #[], rfl, Nat.le_refl _, heap_alloc_new W _, Nat.le_refl _, by decide, rfl, rfl⟩⟩ (fun _ _ => trivial)
set_option maxHeartbeats 4000000 in
set_option maxRecDepth 100000 in
theorem clone (W : World) (A : Option Addr) (c : Nat) (xs : List Int) (h : Kd.C (Kd.int .i64) W A xs.length xs) (hn : xs.length ≤ 1000) :
    Calls Try.prog 13 #[.slice A xs.length c] W (Cloned W xs) := by
  have qT : ∀ (w : World) (a : Option Addr) (n c n' c' : Nat), (binOp .eql 22 (.slice a n c) (.slice none n' c')).run Try.prog w = .ok (.bool a.isNone) w := fun w a n c n' c' => Lib.run_eql_slice_nil w _ _ a n c n' c' Try.underlying22
  have HX := Aside0.mk hn
  have HC := Aside0.mk h
  clear h hn
  cases A with
  | none =>
    have h0 : xs = [] := by
      obtain ⟨h1, h2, h3⟩ := HC.out
      cases xs with
      | nil => rfl
      | cons x t => obtain ⟨ad, e, _⟩ := h3 (by simp); cases e
    subst h0
    go_enter Try.func13, Try.ntmps13
    go_wp2
    go_ret
    exact ⟨_, rfl, Kd.R_nil _ _ _ _ _, Below.refl _ _⟩
  | some ad =>
    go_enter Try.func13, Try.ntmps13
    go_wp2_with (first | (at_builtin; refine Kd.R_append_rows (Kd.int .i64) (w0 := W) W.heap.size rfl (.tmp 5) (.tmp 6) 22 3 (.int .i64 0) 8 rfl Try.underlying22 info3 rfl (by decide) (by omega) (.slice (some ⟨W.heap.size, 0, none⟩) 0 0) [] xs _ _ _ (fun _ => True) (fun _ => False) rfl rfl (lit0 W) ?aR (fun _ _ h => h) (fun _ h => h.elim) (fun _ _ => trivial) (below_alloc (Below.refl _ _) _) (by simp) (by have := HX.out; simp; omega) ?_; (case aR => exact Kd.C_below HC.out (below_alloc (Below.refl _ _) _)); intro v1 w1 h1 h2 _ _; rw [List.nil_append] at h1; obtain ⟨A1, c1, rfl, _⟩ := Kd.R_reads h1; have HR := Aside0.mk h1; have HB := Aside0.mk h2; clear h1 h2))
    go_ret
    exact ⟨_, rfl, HR.out, HB.out⟩
/-- The three calls that are kept. -/
abbrev fq (n q : Nat) : Value := .func (.func n) #[.pointer (some ⟨q, 0, none⟩)] #[]
set_option maxHeartbeats 4000000 in
set_option maxRecDepth 100000 in
theorem ready_kept (W : World) (l q : Nat) (pv p1 : Value) (hl : W.heap[l]? = some (.cells #[pv, p1, fq 15 q, fq 16 q, fq 17 q] 42 (0, 0))) :
    Calls Try.prog 14 #[.pointer (some ⟨l, 0, none⟩)] W fun e W' => e = .returned (.tuple #[]) ∧ W = W' := by
  have hc : W.cell? ⟨l, 2, none⟩ = some (.func (.func 15) #[.pointer (some ⟨q, 0, none⟩)] #[]) := (blk_cell hl 2).trans rfl
  clear hl
  have f1 : ∀ w, (binOp .neq 33 (.func (.func 15) #[.pointer (some ⟨q, 0, none⟩)] #[]) .nilFunc).run Try.prog w = .ok (.bool true) w := fun w => rfl
  go_enter Try.func14, Try.ntmps14
  go_wp2
  refine bodyPost_ret (v := .tuple #[]) (by simp [results, Try.results14, go_sem]) rfl ⟨rfl, rfl⟩
def Readied (W : World) (l : Nat) (pv p1 : Value) (e : Ending) (W' : World) : Prop :=
  e = .returned (.tuple #[]) ∧ W'.heap[l]? = some (.cells #[pv, p1, fq 15 W.heap.size, fq 16 W.heap.size, fq 17 W.heap.size] 42 (0, 0)) ∧ W'.heap[W.heap.size]? = some (.cells #[.slice none 0 0] 48 (0, 0)) ∧ Chg (fun k => k = l) W W'
theorem readied_mk (W : World) (l : Nat) (pv p1 : Value) (hl : W.heap[l]? = some (.cells #[pv, p1, .nilFunc, .nilFunc, .nilFunc] 42 (0, 0))) :
    Readied W l pv p1 (.returned (.tuple #[])) ((((W.setCell ⟨l, 2, none⟩ (fq 15 W.heap.size)).setCell ⟨l, 3, none⟩ (fq 16 W.heap.size)).setCell ⟨l, 4, none⟩ (fq 17 W.heap.size)).alloc (.cells #[.slice none 0 0] 48 (0, 0))) := by
  have h1 := blk_set hl 2 (fq 15 W.heap.size)
  have h2 := blk_set h1 3 (fq 16 W.heap.size)
  have h3 := blk_set h2 4 (fq 17 W.heap.size)
  have k1 : Chg (fun k => k = l) W (W.setCell ⟨l, 2, none⟩ (fq 15 W.heap.size)) := (Chg.refl (fun k => k = l) W).setCell (p := ⟨l, 2, none⟩) rfl _
  have k2 := k1.setCell (p := ⟨l, 3, none⟩) rfl (fq 16 W.heap.size)
  have k3 := k2.setCell (p := ⟨l, 4, none⟩) rfl (fq 17 W.heap.size)
  have h5 := heap_alloc_new (((W.setCell ⟨l, 2, none⟩ (fq 15 W.heap.size)).setCell ⟨l, 3, none⟩ (fq 16 W.heap.size)).setCell ⟨l, 4, none⟩ (fq 17 W.heap.size)) (.cells #[.slice none 0 0] 48 (0, 0))
  refine ⟨rfl, blk_alloc h3 _, ?_, k3.alloc _⟩
  rw [World.size_setCell, World.size_setCell, World.size_setCell] at h5
  exact h5
set_option maxHeartbeats 4000000 in
set_option maxRecDepth 100000 in
theorem ready_make (W : World) (l : Nat) (pv p1 : Value) (hl : W.heap[l]? = some (.cells #[pv, p1, .nilFunc, .nilFunc, .nilFunc] 42 (0, 0))) :
    Calls Try.prog 14 #[.pointer (some ⟨l, 0, none⟩)] W (Readied W l pv p1) := by
  have hc2 : W.cell? ⟨l, 2, none⟩ = some .nilFunc := (blk_cell hl 2).trans rfl
  have hc3 : W.cell? ⟨l, 3, none⟩ = some .nilFunc := (blk_cell hl 3).trans rfl
  have hc4 : W.cell? ⟨l, 4, none⟩ = some .nilFunc := (blk_cell hl 4).trans rfl
  have hf := blk_frozen hl
  have hls := blk_lt hl
  have HM := Aside0.mk (readied_mk W l pv p1 hl)
  clear hl
  have f1 : ∀ w, (binOp .neq 33 .nilFunc .nilFunc).run Try.prog w = .ok (.bool false) w := fun w => rfl
  have hmf : ∀ (fn : Fn) (first cap : Array Value) (w : World), (Instr.makeFunc fn first cap).run Try.prog w = .ok (.func fn first cap) w := fun _ _ _ _ => rfl
  go_enter Try.func14, Try.ntmps14
  go_wp2
  go_end0
  exact HM.out
end Go.Proofs.Ytpkhcmholpljnac.Q
