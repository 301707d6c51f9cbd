/- A text of a claim (ours): a region with guards, in whatever order; conditions: none of ours. -/
import Derived.Test.YtlhbnbckanmaiaaM1V
namespace Go.Proofs.Ytlhbnbckanmaiaa.K
open Go Go.RowKit Go.Proofs.YtlhbnbckanmaiaaW.PrintWords Go.Proofs.YtlhbnbckanmaiaaW.PrintLast Go.Proofs.YtlhbnbckanmaiaaW.PrintMore Go.Proofs.Ytlhbnbckanmaiaa.PC1
set_option linter.unusedVariables false
set_option linter.unusedSimpArgs false
/-! ### a region in whatever order -/
def unl (l : Array Bool) : Nat := (l.toList.filter (fun b => !b)).length
theorem unl_set (l : Array Bool) (i : Nat) (hi : i < l.size) (h : l.getD i true = false) : unl (l.setIfInBounds i true) + 1 = unl l := by
  obtain ⟨l⟩ := l
  simp only [unl, List.setIfInBounds_toArray]
  simp at hi h
  have key : ∀ (l : List Bool) (i : Nat), i < l.length → l[i]?.getD true = false → ((l.set i true).filter (fun b => !b)).length + 1 = (l.filter (fun b => !b)).length := by
    intro l
    induction l with
    | nil => intro i hi; simp at hi
    | cons x xs ih =>
      intro i hi h
      cases i with
      | zero => simp at h; subst h; simp
      | succ i =>
        have := ih i (by simpa using hi) (by simpa using h)
        cases x <;> simp <;> omega
  exact key l i hi (by simpa using h)
theorem unl_zero (l : Array Bool) (h : unl l = 0) (i : Nat) (hi : i < l.size) : l.getD i false = true := by
  obtain ⟨l⟩ := l
  simp only [unl] at h
  have h2 := List.length_eq_zero_iff.1 h
  rw [List.filter_eq_nil_iff] at h2
  have := h2 l[i] (List.getElem_mem (by simpa using hi))
  simp at hi ⊢
  rw [List.getElem?_eq_getElem hi]
  simpa using this
def flag (l : Array Bool) : Nat → Bool := fun j => l.getD j false
def upd (f : Nat → Bool) (i : Nat) : Nat → Bool := fun j => if j = i then true else f j
theorem upd_ne (f : Nat → Bool) {i j : Nat} (h : j ≠ i) : upd f i j = f j := if_neg h
theorem upd_eq (f : Nat → Bool) (i : Nat) : upd f i i = true := if_pos rfl
theorem flag_set (l : Array Bool) (i : Nat) (hi : i < l.size) : flag (l.setIfInBounds i true) = upd (flag l) i := by
  funext j
  unfold flag upd
  by_cases e : j = i
  · subst e; rw [if_pos rfl]; simp [hi]
  · rw [if_neg e]; simp [Array.getElem?_setIfInBounds, Ne.symm e]
theorem wpAny_inv {md : Region.Mode} {ops : Array Oper} {Q : Exit → Act → World → Prop} {T : Bool × List (List Nat × List Nat)} (hT : rtab md ops = T)
    (hup : (List.range T.2.length).all (fun i => match T.2[i]? with | some r => r.1.all (fun j => decide (j < i)) | none => false) = true)
    (Inv : (Nat → Bool) → Act → World → Prop)
    (step : ∀ (f : Nat → Bool) a w i o r, Inv f a w → ops[i]? = some o → T.2[i]? = some r → f i = false → r.1.all f = true → o.guard = none ∧ ∀ K : Act → World → Prop, (∀ a' w', Inv (upd f i) a' w' → K a' w') → o.wp Try.prog a w K Q)
    (fin : ∀ f a w, Inv f a w → (∀ i, i < ops.size → f i = true) → Q .normal a w) :
    ∀ (fuel : Nat) (l : Array Bool) (a : Act) (w : World), l.size = ops.size → unl l ≤ fuel → Inv (flag l) a w → wpAny Try.prog md ops Q fuel l a w := by
  subst hT
  have hlen := rtab_length (md := md) (ops := ops)
  have hend : ∀ l : Array Bool, l.size = ops.size → Region.ready md ops l = [] → ∀ i, i < ops.size → flag l i = true := by
    intro l hl hr i
    induction i using Nat.strongRecOn with
    | _ i ih =>
      intro hi
      by_cases hf : flag l i = true
      · exact hf
      · exfalso
        rw [ready_eq] at hr
        unfold readyT at hr
        rw [List.filter_eq_nil_iff] at hr
        have hm := hr i (List.mem_range.2 (by omega))
        apply hm
        have hu := List.all_eq_true.1 hup i (List.mem_range.2 (by omega))
        have hi2 : i < (rtab md ops).2.length := by omega
        rw [List.getElem?_eq_getElem hi2] at hu
        unfold readyAt
        rw [List.getElem?_eq_getElem hi2]
        simp only [Bool.and_eq_true]
        refine ⟨?_, ?_⟩
        · unfold flag at hf
          simp at hf ⊢
          rw [Array.getElem?_eq_getElem (by omega)] at hf ⊢
          simpa using hf
        · rw [List.all_eq_true]
          intro j hj
          have hj2 : j < i := by simpa using List.all_eq_true.1 hu j hj
          have := ih j hj2 (by omega)
          unfold flag at this
          simpa using this
  intro fuel
  induction fuel with
  | zero =>
    intro l a w hl hu hI
    have hall : ∀ i, i < ops.size → flag l i = true := fun i hi => unl_zero l (by omega) i (by omega)
    refine ⟨?_, fin _ a w hI hall⟩
    rw [ready_eq]
    unfold readyT
    rw [List.filter_eq_nil_iff]
    intro i hi
    have hi := List.mem_range.1 hi
    have := hall i (by omega)
    unfold flag at this
    unfold readyAt
    simp at this ⊢
    rw [Array.getElem?_eq_getElem (by omega)] at this ⊢
    simp at this
    simp [this]
  | succ fuel ih =>
    intro l a w hl hu hI
    refine ⟨fun hr => fin _ a w hI (hend l hl hr), fun i hi => ?_⟩
    rw [ready_eq] at hi
    unfold readyT at hi
    rw [List.mem_filter] at hi
    obtain ⟨hi1, hi2⟩ := hi
    have hi1 := List.mem_range.1 hi1
    have hio : i < ops.size := by omega
    unfold readyAt at hi2
    rw [List.getElem?_eq_getElem hi1] at hi2
    simp only [Bool.and_eq_true] at hi2
    obtain ⟨h1, h2⟩ := hi2
    have h1' : l.getD i true = false := by
      simp at h1 ⊢
      exact h1
    have hf : flag l i = false := by
      unfold flag
      simp at h1' ⊢
      rw [Array.getElem?_eq_getElem (by omega)] at h1' ⊢
      simpa using h1'
    have h2' : ((rtab md ops).2[i]).1.all (flag l) = true := by
      rw [List.all_eq_true] at h2 ⊢
      intro j hj
      have := h2 j hj
      unfold flag
      simpa using this
    obtain ⟨hg, hw⟩ := step (flag l) a w i ops[i] _ hI (Array.getElem?_eq_getElem hio) (List.getElem?_eq_getElem hi1) hf h2'
    unfold wpOp
    rw [Array.getElem?_eq_getElem hio]
    have hwt : Region.wanted ops[i] (yielded ops a.tmps) = true := by unfold Region.wanted; rw [hg]
    simp only [hwt, if_true]
    refine .inl (hw _ (fun a' w' hI' => ?_))
    refine ih _ a' w' (by simpa using hl) ?_ (by rw [flag_set l i (by omega)]; exact hI')
    have := unl_set l i (by omega) h1'
    omega
/-! ### the rows of a table -/
def Get (es : Array MapEntry) (k : Int) (v : Value) : Prop := ∃ j, Instr.findNow (.int .i64) (.int .i64 k) es.toList 0 = some (some (j, v))
def Miss (es : Array MapEntry) (k : Int) : Prop := Instr.findNow (.int .i64) (.int .i64 k) es.toList 0 = some none
theorem find_snoc (k k0 : Int) (v0 : Value) (c : Nat) : ∀ (l : List MapEntry) (i : Nat) (r : Option (Nat × Value)), Instr.findNow (.int .i64) (.int .i64 k) l i = some r →
    Instr.findNow (.int .i64) (.int .i64 k) (l ++ [⟨.int .i64 k0, v0, c⟩]) i = some (match r with | some x => some x | none => if k = k0 then some (i + l.length, v0) else none)
  | [], i, r, h => by
    simp [Instr.findNow] at h
    subst h
    by_cases e : k = k0
    · subst e; simp [Instr.findNow, Instr.sameNow]
    · have e2 : (k == k0) = false := beq_eq_false_iff_ne.2 e
      simp [Instr.findNow, Instr.sameNow, e, e2]
  | x :: xs, i, r, h => by
    rw [List.cons_append]
    simp only [Instr.findNow] at h ⊢
    cases hs : Instr.sameNow (.int .i64) (.int .i64 k) x.key with
    | none => rw [hs] at h; simp at h
    | some b =>
      rw [hs] at h
      cases b with
      | true => simp at h ⊢; subst h; rfl
      | false =>
        simp only at h ⊢
        rw [find_snoc k k0 v0 c xs (i + 1) r h]
        cases r with
        | some x => rfl
        | none => rw [List.length_cons, show i + 1 + xs.length = i + (xs.length + 1) by omega]
theorem Get.push {es : Array MapEntry} {k : Int} {v : Value} (h : Get es k v) (k0 : Int) (v0 : Value) (c : Nat) : Get (es.push ⟨.int .i64 k0, v0, c⟩) k v := by
  obtain ⟨j, h⟩ := h
  refine ⟨j, ?_⟩
  rw [Array.toList_push]
  exact find_snoc k k0 v0 c es.toList 0 _ h
theorem Miss.push {es : Array MapEntry} {k k0 : Int} (h : Miss es k) (hn : k ≠ k0) (v0 : Value) (c : Nat) : Miss (es.push ⟨.int .i64 k0, v0, c⟩) k := by
  unfold Miss
  rw [Array.toList_push, find_snoc k k0 v0 c es.toList 0 _ h]
  simp [hn]
theorem Miss.put {es : Array MapEntry} {k : Int} (h : Miss es k) (v0 : Value) (c : Nat) : Get (es.push ⟨.int .i64 k, v0, c⟩) k v0 := by
  refine ⟨0 + es.toList.length, ?_⟩
  rw [Array.toList_push, find_snoc k k v0 c es.toList 0 _ h]
  simp
theorem Miss.nil (k : Int) : Miss #[] k := rfl
abbrev gt (a : Act) (s : Nat) : Value := a.tmps[s]?.getD undef
theorem gt_eq (t : Array Value) (ds : List Deferred) (d : Nat) (v : Value) (h : d < t.size) : gt ⟨t.setIfInBounds d v, ds⟩ d = v := by simp [gt, h]
theorem gt_ne (t : Array Value) (ds : List Deferred) (d s : Nat) (v : Value) (h : d ≠ s) : gt ⟨t.setIfInBounds d v, ds⟩ s = t[s]?.getD undef := by simp [gt, Array.getElem?_setIfInBounds, h]
end Go.Proofs.Ytlhbnbckanmaiaa.K
namespace Go.Proofs.Ytlhbnbckanmaiaa.K
open Go Go.RowKit Go.Proofs.YtlhbnbckanmaiaaW.PrintWords Go.Proofs.YtlhbnbckanmaiaaW.PrintLast Go.Proofs.YtlhbnbckanmaiaaW.PrintMore Go.Proofs.Ytlhbnbckanmaiaa.PC1
set_option linter.unusedVariables false
set_option linter.unusedSimpArgs false
structure Tb (aE b c : Nat) (p1 p2 p3 p4 p5 p6 p7 : Bool) (es : Array MapEntry) : Prop where
  g1 : p1 = true → Get es 1 (.agg #[.slice (some ⟨aE, 0, none⟩) 1 5, .int .i64 1, .bool true, .bool false, .bool false])
  n1 : p1 = false → Miss es 1
  g2 : p2 = true → Get es 2 (.agg #[.slice (some ⟨b, 0, none⟩) 3 3, .int .i64 0, .bool true, .bool true, .bool false])
  n2 : p2 = false → Miss es 2
  g3 : p3 = true → Get es 3 (.agg #[.slice (some ⟨c, 0, none⟩) 3 3, .int .i64 1, .bool false, .bool true, .bool false])
  n3 : p3 = false → Miss es 3
  g4 : p4 = true → Get es 4 (.agg #[.slice (some ⟨aE, 0, none⟩) 5 5, .int .i64 1, .bool true, .bool true, .bool false])
  n4 : p4 = false → Miss es 4
  g5 : p5 = true → Get es 5 (.agg #[.slice (some ⟨aE, 0, none⟩) 5 5, .int .i64 2, .bool true, .bool true, .bool false])
  n5 : p5 = false → Miss es 5
  g6 : p6 = true → Get es 6 (.agg #[.slice (some ⟨aE, 1, none⟩) 4 4, .int .i64 0, .bool false, .bool false, .bool false])
  n6 : p6 = false → Miss es 6
  g7 : p7 = true → Get es 7 (.agg #[.slice (some ⟨aE, 0, none⟩) 1 5, .int .i64 1, .bool false, .bool false, .bool true])
  n7 : p7 = false → Miss es 7
  ot : ∀ k : Int, k ≠ 1 → k ≠ 2 → k ≠ 3 → k ≠ 4 → k ≠ 5 → k ≠ 6 → k ≠ 7 → Miss es k
theorem Tb.ins1 {aE b c : Nat} {p2 p3 p4 p5 p6 p7 : Bool} {es : Array MapEntry} (h : Tb aE b c false p2 p3 p4 p5 p6 p7 es) (n : Nat) : Tb aE b c true p2 p3 p4 p5 p6 p7 (es.push ⟨.int .i64 1, .agg #[.slice (some ⟨aE, 0, none⟩) 1 5, .int .i64 1, .bool true, .bool false, .bool false], n⟩) where
  g1 _ := (h.n1 rfl).put _ _
  n1 h0 := by cases h0
  g2 h0 := (h.g2 h0).push _ _ _
  n2 h0 := (h.n2 h0).push (by decide) _ _
  g3 h0 := (h.g3 h0).push _ _ _
  n3 h0 := (h.n3 h0).push (by decide) _ _
  g4 h0 := (h.g4 h0).push _ _ _
  n4 h0 := (h.n4 h0).push (by decide) _ _
  g5 h0 := (h.g5 h0).push _ _ _
  n5 h0 := (h.n5 h0).push (by decide) _ _
  g6 h0 := (h.g6 h0).push _ _ _
  n6 h0 := (h.n6 h0).push (by decide) _ _
  g7 h0 := (h.g7 h0).push _ _ _
  n7 h0 := (h.n7 h0).push (by decide) _ _
  ot k h1 h2 h3 h4 h5 h6 h7 := (h.ot k h1 h2 h3 h4 h5 h6 h7).push h1 _ _
theorem Tb.ins2 {aE b c : Nat} {p1 p3 p4 p5 p6 p7 : Bool} {es : Array MapEntry} (h : Tb aE b c p1 false p3 p4 p5 p6 p7 es) (n : Nat) : Tb aE b c p1 true p3 p4 p5 p6 p7 (es.push ⟨.int .i64 2, .agg #[.slice (some ⟨b, 0, none⟩) 3 3, .int .i64 0, .bool true, .bool true, .bool false], n⟩) where
  g1 h0 := (h.g1 h0).push _ _ _
  n1 h0 := (h.n1 h0).push (by decide) _ _
  g2 _ := (h.n2 rfl).put _ _
  n2 h0 := by cases h0
  g3 h0 := (h.g3 h0).push _ _ _
  n3 h0 := (h.n3 h0).push (by decide) _ _
  g4 h0 := (h.g4 h0).push _ _ _
  n4 h0 := (h.n4 h0).push (by decide) _ _
  g5 h0 := (h.g5 h0).push _ _ _
  n5 h0 := (h.n5 h0).push (by decide) _ _
  g6 h0 := (h.g6 h0).push _ _ _
  n6 h0 := (h.n6 h0).push (by decide) _ _
  g7 h0 := (h.g7 h0).push _ _ _
  n7 h0 := (h.n7 h0).push (by decide) _ _
  ot k h1 h2 h3 h4 h5 h6 h7 := (h.ot k h1 h2 h3 h4 h5 h6 h7).push h2 _ _
theorem Tb.ins3 {aE b c : Nat} {p1 p2 p4 p5 p6 p7 : Bool} {es : Array MapEntry} (h : Tb aE b c p1 p2 false p4 p5 p6 p7 es) (n : Nat) : Tb aE b c p1 p2 true p4 p5 p6 p7 (es.push ⟨.int .i64 3, .agg #[.slice (some ⟨c, 0, none⟩) 3 3, .int .i64 1, .bool false, .bool true, .bool false], n⟩) where
  g1 h0 := (h.g1 h0).push _ _ _
  n1 h0 := (h.n1 h0).push (by decide) _ _
  g2 h0 := (h.g2 h0).push _ _ _
  n2 h0 := (h.n2 h0).push (by decide) _ _
  g3 _ := (h.n3 rfl).put _ _
  n3 h0 := by cases h0
  g4 h0 := (h.g4 h0).push _ _ _
  n4 h0 := (h.n4 h0).push (by decide) _ _
  g5 h0 := (h.g5 h0).push _ _ _
  n5 h0 := (h.n5 h0).push (by decide) _ _
  g6 h0 := (h.g6 h0).push _ _ _
  n6 h0 := (h.n6 h0).push (by decide) _ _
  g7 h0 := (h.g7 h0).push _ _ _
  n7 h0 := (h.n7 h0).push (by decide) _ _
  ot k h1 h2 h3 h4 h5 h6 h7 := (h.ot k h1 h2 h3 h4 h5 h6 h7).push h3 _ _
theorem Tb.ins4 {aE b c : Nat} {p1 p2 p3 p5 p6 p7 : Bool} {es : Array MapEntry} (h : Tb aE b c p1 p2 p3 false p5 p6 p7 es) (n : Nat) : Tb aE b c p1 p2 p3 true p5 p6 p7 (es.push ⟨.int .i64 4, .agg #[.slice (some ⟨aE, 0, none⟩) 5 5, .int .i64 1, .bool true, .bool true, .bool false], n⟩) where
  g1 h0 := (h.g1 h0).push _ _ _
  n1 h0 := (h.n1 h0).push (by decide) _ _
  g2 h0 := (h.g2 h0).push _ _ _
  n2 h0 := (h.n2 h0).push (by decide) _ _
  g3 h0 := (h.g3 h0).push _ _ _
  n3 h0 := (h.n3 h0).push (by decide) _ _
  g4 _ := (h.n4 rfl).put _ _
  n4 h0 := by cases h0
  g5 h0 := (h.g5 h0).push _ _ _
  n5 h0 := (h.n5 h0).push (by decide) _ _
  g6 h0 := (h.g6 h0).push _ _ _
  n6 h0 := (h.n6 h0).push (by decide) _ _
  g7 h0 := (h.g7 h0).push _ _ _
  n7 h0 := (h.n7 h0).push (by decide) _ _
  ot k h1 h2 h3 h4 h5 h6 h7 := (h.ot k h1 h2 h3 h4 h5 h6 h7).push h4 _ _
theorem Tb.ins5 {aE b c : Nat} {p1 p2 p3 p4 p6 p7 : Bool} {es : Array MapEntry} (h : Tb aE b c p1 p2 p3 p4 false p6 p7 es) (n : Nat) : Tb aE b c p1 p2 p3 p4 true p6 p7 (es.push ⟨.int .i64 5, .agg #[.slice (some ⟨aE, 0, none⟩) 5 5, .int .i64 2, .bool true, .bool true, .bool false], n⟩) where
  g1 h0 := (h.g1 h0).push _ _ _
  n1 h0 := (h.n1 h0).push (by decide) _ _
  g2 h0 := (h.g2 h0).push _ _ _
  n2 h0 := (h.n2 h0).push (by decide) _ _
  g3 h0 := (h.g3 h0).push _ _ _
  n3 h0 := (h.n3 h0).push (by decide) _ _
  g4 h0 := (h.g4 h0).push _ _ _
  n4 h0 := (h.n4 h0).push (by decide) _ _
  g5 _ := (h.n5 rfl).put _ _
  n5 h0 := by cases h0
  g6 h0 := (h.g6 h0).push _ _ _
  n6 h0 := (h.n6 h0).push (by decide) _ _
  g7 h0 := (h.g7 h0).push _ _ _
  n7 h0 := (h.n7 h0).push (by decide) _ _
  ot k h1 h2 h3 h4 h5 h6 h7 := (h.ot k h1 h2 h3 h4 h5 h6 h7).push h5 _ _
theorem Tb.ins6 {aE b c : Nat} {p1 p2 p3 p4 p5 p7 : Bool} {es : Array MapEntry} (h : Tb aE b c p1 p2 p3 p4 p5 false p7 es) (n : Nat) : Tb aE b c p1 p2 p3 p4 p5 true p7 (es.push ⟨.int .i64 6, .agg #[.slice (some ⟨aE, 1, none⟩) 4 4, .int .i64 0, .bool false, .bool false, .bool false], n⟩) where
  g1 h0 := (h.g1 h0).push _ _ _
  n1 h0 := (h.n1 h0).push (by decide) _ _
  g2 h0 := (h.g2 h0).push _ _ _
  n2 h0 := (h.n2 h0).push (by decide) _ _
  g3 h0 := (h.g3 h0).push _ _ _
  n3 h0 := (h.n3 h0).push (by decide) _ _
  g4 h0 := (h.g4 h0).push _ _ _
  n4 h0 := (h.n4 h0).push (by decide) _ _
  g5 h0 := (h.g5 h0).push _ _ _
  n5 h0 := (h.n5 h0).push (by decide) _ _
  g6 _ := (h.n6 rfl).put _ _
  n6 h0 := by cases h0
  g7 h0 := (h.g7 h0).push _ _ _
  n7 h0 := (h.n7 h0).push (by decide) _ _
  ot k h1 h2 h3 h4 h5 h6 h7 := (h.ot k h1 h2 h3 h4 h5 h6 h7).push h6 _ _
theorem Tb.ins7 {aE b c : Nat} {p1 p2 p3 p4 p5 p6 : Bool} {es : Array MapEntry} (h : Tb aE b c p1 p2 p3 p4 p5 p6 false es) (n : Nat) : Tb aE b c p1 p2 p3 p4 p5 p6 true (es.push ⟨.int .i64 7, .agg #[.slice (some ⟨aE, 0, none⟩) 1 5, .int .i64 1, .bool false, .bool false, .bool true], n⟩) where
  g1 h0 := (h.g1 h0).push _ _ _
  n1 h0 := (h.n1 h0).push (by decide) _ _
  g2 h0 := (h.g2 h0).push _ _ _
  n2 h0 := (h.n2 h0).push (by decide) _ _
  g3 h0 := (h.g3 h0).push _ _ _
  n3 h0 := (h.n3 h0).push (by decide) _ _
  g4 h0 := (h.g4 h0).push _ _ _
  n4 h0 := (h.n4 h0).push (by decide) _ _
  g5 h0 := (h.g5 h0).push _ _ _
  n5 h0 := (h.n5 h0).push (by decide) _ _
  g6 h0 := (h.g6 h0).push _ _ _
  n6 h0 := (h.n6 h0).push (by decide) _ _
  g7 _ := (h.n7 rfl).put _ _
  n7 h0 := by cases h0
  ot k h1 h2 h3 h4 h5 h6 h7 := (h.ot k h1 h2 h3 h4 h5 h6 h7).push h7 _ _
theorem run_makeMap_plain' (t : TypeId) (w : World) : (Instr.makeMap t none).run Try.prog w = .ok (.map (some w.heap.size)) (w.alloc (.map #[] 0)) := by
  simp [Instr.makeMap]
structure SR (W w : World) (aE r0 m b c : Nat) (f : Nat → Bool) (a : Act) (k : Int) : Prop where
  sz : a.tmps.size = 36
  df : a.defers = []
  s0 : gt a 0 = .int .i64 k
  s2 : gt a 2 = .pointer (some ⟨r0, 0, none⟩)
  s3 : gt a 3 = .bool false
  s4 : gt a 4 = .slice (some ⟨aE, 0, none⟩) 5 5
  c25_0 : f 25 = true → f 0 = true
  c26_25 : f 26 = true → f 25 = true
  c6_5 : f 6 = true → f 5 = true
  c7_6 : f 7 = true → f 6 = true
  c9_8 : f 9 = true → f 8 = true
  c10_9 : f 10 = true → f 9 = true
  c4_0 : f 4 = true → f 0 = true
  c7_0 : f 7 = true → f 0 = true
  c10_0 : f 10 = true → f 0 = true
  c13_0 : f 13 = true → f 0 = true
  c16_0 : f 16 = true → f 0 = true
  c20_0 : f 20 = true → f 0 = true
  c24_0 : f 24 = true → f 0 = true
  v1 : f 1 = true → gt a 10 = .slice (some ⟨aE, 0, none⟩) 5 5
  v2 : f 2 = true → gt a 11 = .slice (some ⟨aE, 0, none⟩) 1 5
  v3 : f 3 = true → gt a 12 = .agg #[.slice (some ⟨aE, 0, none⟩) 1 5, .int .i64 1, .bool true, .bool false, .bool false]
  v6 : f 6 = true → gt a 14 = .agg #[.slice (some ⟨b, 0, none⟩) 3 3, .int .i64 0, .bool true, .bool true, .bool false]
  v9 : f 9 = true → gt a 16 = .agg #[.slice (some ⟨c, 0, none⟩) 3 3, .int .i64 1, .bool false, .bool true, .bool false]
  v11 : f 11 = true → gt a 17 = .slice (some ⟨aE, 0, none⟩) 5 5
  v12 : f 12 = true → gt a 18 = .agg #[.slice (some ⟨aE, 0, none⟩) 5 5, .int .i64 1, .bool true, .bool true, .bool false]
  v14 : f 14 = true → gt a 19 = .slice (some ⟨aE, 0, none⟩) 5 5
  v15 : f 15 = true → gt a 20 = .agg #[.slice (some ⟨aE, 0, none⟩) 5 5, .int .i64 2, .bool true, .bool true, .bool false]
  v17 : f 17 = true → gt a 21 = .slice (some ⟨aE, 0, none⟩) 5 5
  v18 : f 18 = true → gt a 22 = .slice (some ⟨aE, 1, none⟩) 4 4
  v19 : f 19 = true → gt a 23 = .agg #[.slice (some ⟨aE, 1, none⟩) 4 4, .int .i64 0, .bool false, .bool false, .bool false]
  v21 : f 21 = true → gt a 24 = .slice (some ⟨aE, 0, none⟩) 5 5
  v22 : f 22 = true → gt a 25 = .slice (some ⟨aE, 0, none⟩) 1 5
  v23 : f 23 = true → gt a 26 = .agg #[.slice (some ⟨aE, 0, none⟩) 1 5, .int .i64 1, .bool false, .bool false, .bool true]
  v25 : f 25 = true → gt a 27 = .map (some m)
  v26 : f 26 = true → gt a 5 = .map (some m)
  v5 : f 5 = true → gt a 13 = .slice (some ⟨b, 0, none⟩) 3 3 ∧ w.heap[b]? = some (.cells #[.int .i64 0, .int .i64 1, .int .i64 4] 3 (0, 0))
  v8 : f 8 = true → gt a 15 = .slice (some ⟨c, 0, none⟩) 3 3 ∧ w.heap[c]? = some (.cells #[.int .i64 0, .int .i64 2, .int .i64 4] 3 (0, 0))
  v0 : f 0 = true → gt a 9 = .map (some m) ∧ W.heap.size ≤ m ∧ ∃ es n, w.heap[m]? = some (.map es n) ∧ Tb aE b c (f 4) (f 7) (f 10) (f 13) (f 16) (f 20) (f 24) es
  hE : w.heap[aE]? = some (.cells #[.int .i64 0, .int .i64 1, .int .i64 2, .int .i64 3, .int .i64 4] 3 (0, 0))
  hR : w.heap[r0]? = some (.cells #[.slice none 0 0, .int .i64 0, .bool false, .bool false, .bool false] 104 (0, 0))
  hb : Below W.heap.size W w
theorem heap_new {w : World} {k : Nat} {x : Obj} (h : w.heap[k]? = some x) (y : Obj) : (w.alloc y).heap[k]? = some x := blk_alloc h y
theorem heap_mput {w : World} {k r : Nat} {x : Array Value} {t : TypeId} {z : Nat × Nat} {es : Array MapEntry} {n : Nat} (h : w.heap[k]? = some (.cells x t z)) (hm : w.heap[r]? = some (.map es n)) (es' : Array MapEntry) (n' : Nat) : (mput w r es' n').heap[k]? = some (.cells x t z) := by
  rw [mput_ne w r k es' n' (by rintro rfl; rw [h] at hm; cases hm)]; exact h
theorem infoInt : (Try.prog.info? 3).map (fun i => (i.zero, i.size, i.bytes)) = some (some (.int .i64 0), 1, 8) := by kernel_rfl
theorem slice_tail1 (A : Addr) (W : World) : (Instr.slice 39 (.slice (some A) 5 5) (some (.int .i64 1)) none none).run Try.prog W = .ok (.slice (some (A.add 1)) 4 4) W := by
  obtain ⟨i0, hi0, hzz⟩ := Option.map_eq_some_iff.1 infoInt
  simp only [Prod.mk.injEq] at hzz
  have hsz := hzz.2.1
  have hel : Try.prog.elem 39 = 3 := by simp [Program.elem, Try.underlying39]
  rw [run_slice_l W 39 (some A) 5 5 (by rw [hel]; exact Try.underlying39) .i64 1 (by omega) (by omega), hel]
  simp [sizeOf, typeInfo, hi0, hsz, sliced, Result.andThen]
theorem shp_0 {W w : World} {aE r0 m b c : Nat} {f : Nat → Bool} {a : Act} {k : Int} {K : Act → World → Prop} {Q : Exit → Act → World → Prop} (o : Oper) (hop : o.op = .makeMap 132 none) (hd : o.dst = some 9) (h : SR W w aE r0 m b c f a k) (hf : f 0 = false)
    (hK : ∀ a' w', (∃ m b c, SR W w' aE r0 m b c (upd f 0) a' k) → K a' w') : o.wp Try.prog a w K Q := by
  have hmk := run_makeMap_plain' 132 w
  unfold Oper.wp
  simp [execOp, hop, hd, hmk, go_sem]
  refine hK _ _ ⟨w.heap.size, b, c, ?_⟩
  exact {
      sz := by rw [Array.size_setIfInBounds]; exact h.sz
      df := h.df
      s0 := (gt_ne _ _ _ _ _ (by decide)).trans h.s0
      s2 := (gt_ne _ _ _ _ _ (by decide)).trans h.s2
      s3 := (gt_ne _ _ _ _ _ (by decide)).trans h.s3
      s4 := (gt_ne _ _ _ _ _ (by decide)).trans h.s4
      c25_0 := fun _ => upd_eq f 0
      c26_25 := fun q => (upd_ne f (by decide)).trans (h.c26_25 ((upd_ne f (by decide)).symm.trans q))
      c6_5 := fun q => (upd_ne f (by decide)).trans (h.c6_5 ((upd_ne f (by decide)).symm.trans q))
      c7_6 := fun q => (upd_ne f (by decide)).trans (h.c7_6 ((upd_ne f (by decide)).symm.trans q))
      c9_8 := fun q => (upd_ne f (by decide)).trans (h.c9_8 ((upd_ne f (by decide)).symm.trans q))
      c10_9 := fun q => (upd_ne f (by decide)).trans (h.c10_9 ((upd_ne f (by decide)).symm.trans q))
      c4_0 := fun _ => upd_eq f 0
      c7_0 := fun _ => upd_eq f 0
      c10_0 := fun _ => upd_eq f 0
      c13_0 := fun _ => upd_eq f 0
      c16_0 := fun _ => upd_eq f 0
      c20_0 := fun _ => upd_eq f 0
      c24_0 := fun _ => upd_eq f 0
      v1 := fun q => (gt_ne _ _ _ _ _ (by decide)).trans (h.v1 ((upd_ne f (by decide)).symm.trans q))
      v2 := fun q => (gt_ne _ _ _ _ _ (by decide)).trans (h.v2 ((upd_ne f (by decide)).symm.trans q))
      v3 := fun q => (gt_ne _ _ _ _ _ (by decide)).trans (h.v3 ((upd_ne f (by decide)).symm.trans q))
      v6 := fun q => (gt_ne _ _ _ _ _ (by decide)).trans (h.v6 ((upd_ne f (by decide)).symm.trans q))
      v9 := fun q => (gt_ne _ _ _ _ _ (by decide)).trans (h.v9 ((upd_ne f (by decide)).symm.trans q))
      v11 := fun q => (gt_ne _ _ _ _ _ (by decide)).trans (h.v11 ((upd_ne f (by decide)).symm.trans q))
      v12 := fun q => (gt_ne _ _ _ _ _ (by decide)).trans (h.v12 ((upd_ne f (by decide)).symm.trans q))
      v14 := fun q => (gt_ne _ _ _ _ _ (by decide)).trans (h.v14 ((upd_ne f (by decide)).symm.trans q))
      v15 := fun q => (gt_ne _ _ _ _ _ (by decide)).trans (h.v15 ((upd_ne f (by decide)).symm.trans q))
      v17 := fun q => (gt_ne _ _ _ _ _ (by decide)).trans (h.v17 ((upd_ne f (by decide)).symm.trans q))
      v18 := fun q => (gt_ne _ _ _ _ _ (by decide)).trans (h.v18 ((upd_ne f (by decide)).symm.trans q))
      v19 := fun q => (gt_ne _ _ _ _ _ (by decide)).trans (h.v19 ((upd_ne f (by decide)).symm.trans q))
      v21 := fun q => (gt_ne _ _ _ _ _ (by decide)).trans (h.v21 ((upd_ne f (by decide)).symm.trans q))
      v22 := fun q => (gt_ne _ _ _ _ _ (by decide)).trans (h.v22 ((upd_ne f (by decide)).symm.trans q))
      v23 := fun q => (gt_ne _ _ _ _ _ (by decide)).trans (h.v23 ((upd_ne f (by decide)).symm.trans q))
      v25 := fun q => absurd (h.c25_0 ((upd_ne f (by decide)).symm.trans q)) (by rw [hf]; decide)
      v26 := fun q => absurd (h.c25_0 (h.c26_25 ((upd_ne f (by decide)).symm.trans q))) (by rw [hf]; decide)
      v5 := fun q => ⟨(gt_ne _ _ _ _ _ (by decide)).trans (h.v5 ((upd_ne f (by decide)).symm.trans q)).1, heap_new ((h.v5 ((upd_ne f (by decide)).symm.trans q)).2) _⟩
      v8 := fun q => ⟨(gt_ne _ _ _ _ _ (by decide)).trans (h.v8 ((upd_ne f (by decide)).symm.trans q)).1, heap_new ((h.v8 ((upd_ne f (by decide)).symm.trans q)).2) _⟩
      v0 := fun _ => ⟨gt_eq _ _ _ _ (by rw [h.sz]; decide), h.hb.size, #[], 0, blk_new w _, by
        rw [upd_ne f (show 4 ≠ 0 by decide), upd_ne f (show 7 ≠ 0 by decide), upd_ne f (show 10 ≠ 0 by decide), upd_ne f (show 13 ≠ 0 by decide), upd_ne f (show 16 ≠ 0 by decide), upd_ne f (show 20 ≠ 0 by decide), upd_ne f (show 24 ≠ 0 by decide)]
        exact { g1 := fun q => absurd (h.c4_0 q) (by rw [hf]; decide), n1 := fun _ => Miss.nil 1, g2 := fun q => absurd (h.c7_0 q) (by rw [hf]; decide), n2 := fun _ => Miss.nil 2, g3 := fun q => absurd (h.c10_0 q) (by rw [hf]; decide), n3 := fun _ => Miss.nil 3, g4 := fun q => absurd (h.c13_0 q) (by rw [hf]; decide), n4 := fun _ => Miss.nil 4, g5 := fun q => absurd (h.c16_0 q) (by rw [hf]; decide), n5 := fun _ => Miss.nil 5, g6 := fun q => absurd (h.c20_0 q) (by rw [hf]; decide), n6 := fun _ => Miss.nil 6, g7 := fun q => absurd (h.c24_0 q) (by rw [hf]; decide), n7 := fun _ => Miss.nil 7, ot := fun k _ _ _ _ _ _ _ => Miss.nil k }⟩
      hE := heap_new (h.hE) _
      hR := heap_new (h.hR) _
      hb := below_alloc h.hb _ }
theorem shp_1 {W w : World} {aE r0 m b c : Nat} {f : Nat → Bool} {a : Act} {k : Int} {K : Act → World → Prop} {Q : Exit → Act → World → Prop} (o : Oper) (hop : o.op = .move (.tmp 4)) (hd : o.dst = some 10) (h : SR W w aE r0 m b c f a k) (hf : f 1 = false)
    (hK : ∀ a' w', (∃ m b c, SR W w' aE r0 m b c (upd f 1) a' k) → K a' w') : o.wp Try.prog a w K Q := by
  have e := h.s4
  unfold Oper.wp
  simp [execOp, hop, hd, e, go_sem]
  refine hK _ _ ⟨m, b, c, ?_⟩
  exact {
      sz := by rw [Array.size_setIfInBounds]; exact h.sz
      df := h.df
      s0 := (gt_ne _ _ _ _ _ (by decide)).trans h.s0
      s2 := (gt_ne _ _ _ _ _ (by decide)).trans h.s2
      s3 := (gt_ne _ _ _ _ _ (by decide)).trans h.s3
      s4 := (gt_ne _ _ _ _ _ (by decide)).trans h.s4
      c25_0 := fun q => (upd_ne f (by decide)).trans (h.c25_0 ((upd_ne f (by decide)).symm.trans q))
      c26_25 := fun q => (upd_ne f (by decide)).trans (h.c26_25 ((upd_ne f (by decide)).symm.trans q))
      c6_5 := fun q => (upd_ne f (by decide)).trans (h.c6_5 ((upd_ne f (by decide)).symm.trans q))
      c7_6 := fun q => (upd_ne f (by decide)).trans (h.c7_6 ((upd_ne f (by decide)).symm.trans q))
      c9_8 := fun q => (upd_ne f (by decide)).trans (h.c9_8 ((upd_ne f (by decide)).symm.trans q))
      c10_9 := fun q => (upd_ne f (by decide)).trans (h.c10_9 ((upd_ne f (by decide)).symm.trans q))
      c4_0 := fun q => (upd_ne f (by decide)).trans (h.c4_0 ((upd_ne f (by decide)).symm.trans q))
      c7_0 := fun q => (upd_ne f (by decide)).trans (h.c7_0 ((upd_ne f (by decide)).symm.trans q))
      c10_0 := fun q => (upd_ne f (by decide)).trans (h.c10_0 ((upd_ne f (by decide)).symm.trans q))
      c13_0 := fun q => (upd_ne f (by decide)).trans (h.c13_0 ((upd_ne f (by decide)).symm.trans q))
      c16_0 := fun q => (upd_ne f (by decide)).trans (h.c16_0 ((upd_ne f (by decide)).symm.trans q))
      c20_0 := fun q => (upd_ne f (by decide)).trans (h.c20_0 ((upd_ne f (by decide)).symm.trans q))
      c24_0 := fun q => (upd_ne f (by decide)).trans (h.c24_0 ((upd_ne f (by decide)).symm.trans q))
      v1 := fun _ => gt_eq _ _ _ _ (by rw [h.sz]; decide)
      v2 := fun q => (gt_ne _ _ _ _ _ (by decide)).trans (h.v2 ((upd_ne f (by decide)).symm.trans q))
      v3 := fun q => (gt_ne _ _ _ _ _ (by decide)).trans (h.v3 ((upd_ne f (by decide)).symm.trans q))
      v6 := fun q => (gt_ne _ _ _ _ _ (by decide)).trans (h.v6 ((upd_ne f (by decide)).symm.trans q))
      v9 := fun q => (gt_ne _ _ _ _ _ (by decide)).trans (h.v9 ((upd_ne f (by decide)).symm.trans q))
      v11 := fun q => (gt_ne _ _ _ _ _ (by decide)).trans (h.v11 ((upd_ne f (by decide)).symm.trans q))
      v12 := fun q => (gt_ne _ _ _ _ _ (by decide)).trans (h.v12 ((upd_ne f (by decide)).symm.trans q))
      v14 := fun q => (gt_ne _ _ _ _ _ (by decide)).trans (h.v14 ((upd_ne f (by decide)).symm.trans q))
      v15 := fun q => (gt_ne _ _ _ _ _ (by decide)).trans (h.v15 ((upd_ne f (by decide)).symm.trans q))
      v17 := fun q => (gt_ne _ _ _ _ _ (by decide)).trans (h.v17 ((upd_ne f (by decide)).symm.trans q))
      v18 := fun q => (gt_ne _ _ _ _ _ (by decide)).trans (h.v18 ((upd_ne f (by decide)).symm.trans q))
      v19 := fun q => (gt_ne _ _ _ _ _ (by decide)).trans (h.v19 ((upd_ne f (by decide)).symm.trans q))
      v21 := fun q => (gt_ne _ _ _ _ _ (by decide)).trans (h.v21 ((upd_ne f (by decide)).symm.trans q))
      v22 := fun q => (gt_ne _ _ _ _ _ (by decide)).trans (h.v22 ((upd_ne f (by decide)).symm.trans q))
      v23 := fun q => (gt_ne _ _ _ _ _ (by decide)).trans (h.v23 ((upd_ne f (by decide)).symm.trans q))
      v25 := fun q => (gt_ne _ _ _ _ _ (by decide)).trans (h.v25 ((upd_ne f (by decide)).symm.trans q))
      v26 := fun q => (gt_ne _ _ _ _ _ (by decide)).trans (h.v26 ((upd_ne f (by decide)).symm.trans q))
      v5 := fun q => ⟨(gt_ne _ _ _ _ _ (by decide)).trans (h.v5 ((upd_ne f (by decide)).symm.trans q)).1, (h.v5 ((upd_ne f (by decide)).symm.trans q)).2⟩
      v8 := fun q => ⟨(gt_ne _ _ _ _ _ (by decide)).trans (h.v8 ((upd_ne f (by decide)).symm.trans q)).1, (h.v8 ((upd_ne f (by decide)).symm.trans q)).2⟩
      v0 := fun q => by
        obtain ⟨q1, q2, es, n, q3, q4⟩ := h.v0 ((upd_ne f (by decide)).symm.trans q)
        refine ⟨(gt_ne _ _ _ _ _ (by decide)).trans q1, q2, es, n, q3, ?_⟩
        rw [upd_ne f (show 4 ≠ 1 by decide), upd_ne f (show 7 ≠ 1 by decide), upd_ne f (show 10 ≠ 1 by decide), upd_ne f (show 13 ≠ 1 by decide), upd_ne f (show 16 ≠ 1 by decide), upd_ne f (show 20 ≠ 1 by decide), upd_ne f (show 24 ≠ 1 by decide)]
        exact q4
      hE := h.hE
      hR := h.hR
      hb := h.hb }
theorem shp_2 {W w : World} {aE r0 m b c : Nat} {f : Nat → Bool} {a : Act} {k : Int} {K : Act → World → Prop} {Q : Exit → Act → World → Prop} (o : Oper) (hop : o.op = .slice 39 (.tmp 10) none (some (.const (.int .i64 1))) none) (hd : o.dst = some 11) (h : SR W w aE r0 m b c f a k) (hf : f 2 = false) (d1 : f 1 = true)
    (hK : ∀ a' w', (∃ m b c, SR W w' aE r0 m b c (upd f 2) a' k) → K a' w') : o.wp Try.prog a w K Q := by
  have e := h.v1 d1
  have hs := slice_head 39 3 1 8 _ Try.underlying39 infoInt (some ⟨aE, 0, none⟩) 5 5 1 (by decide) w
  unfold Oper.wp
  simp [execOp, hop, hd, e, hs, go_sem]
  refine hK _ _ ⟨m, b, c, ?_⟩
  exact {
      sz := by rw [Array.size_setIfInBounds]; exact h.sz
      df := h.df
      s0 := (gt_ne _ _ _ _ _ (by decide)).trans h.s0
      s2 := (gt_ne _ _ _ _ _ (by decide)).trans h.s2
      s3 := (gt_ne _ _ _ _ _ (by decide)).trans h.s3
      s4 := (gt_ne _ _ _ _ _ (by decide)).trans h.s4
      c25_0 := fun q => (upd_ne f (by decide)).trans (h.c25_0 ((upd_ne f (by decide)).symm.trans q))
      c26_25 := fun q => (upd_ne f (by decide)).trans (h.c26_25 ((upd_ne f (by decide)).symm.trans q))
      c6_5 := fun q => (upd_ne f (by decide)).trans (h.c6_5 ((upd_ne f (by decide)).symm.trans q))
      c7_6 := fun q => (upd_ne f (by decide)).trans (h.c7_6 ((upd_ne f (by decide)).symm.trans q))
      c9_8 := fun q => (upd_ne f (by decide)).trans (h.c9_8 ((upd_ne f (by decide)).symm.trans q))
      c10_9 := fun q => (upd_ne f (by decide)).trans (h.c10_9 ((upd_ne f (by decide)).symm.trans q))
      c4_0 := fun q => (upd_ne f (by decide)).trans (h.c4_0 ((upd_ne f (by decide)).symm.trans q))
      c7_0 := fun q => (upd_ne f (by decide)).trans (h.c7_0 ((upd_ne f (by decide)).symm.trans q))
      c10_0 := fun q => (upd_ne f (by decide)).trans (h.c10_0 ((upd_ne f (by decide)).symm.trans q))
      c13_0 := fun q => (upd_ne f (by decide)).trans (h.c13_0 ((upd_ne f (by decide)).symm.trans q))
      c16_0 := fun q => (upd_ne f (by decide)).trans (h.c16_0 ((upd_ne f (by decide)).symm.trans q))
      c20_0 := fun q => (upd_ne f (by decide)).trans (h.c20_0 ((upd_ne f (by decide)).symm.trans q))
      c24_0 := fun q => (upd_ne f (by decide)).trans (h.c24_0 ((upd_ne f (by decide)).symm.trans q))
      v1 := fun q => (gt_ne _ _ _ _ _ (by decide)).trans (h.v1 ((upd_ne f (by decide)).symm.trans q))
      v2 := fun _ => gt_eq _ _ _ _ (by rw [h.sz]; decide)
      v3 := fun q => (gt_ne _ _ _ _ _ (by decide)).trans (h.v3 ((upd_ne f (by decide)).symm.trans q))
      v6 := fun q => (gt_ne _ _ _ _ _ (by decide)).trans (h.v6 ((upd_ne f (by decide)).symm.trans q))
      v9 := fun q => (gt_ne _ _ _ _ _ (by decide)).trans (h.v9 ((upd_ne f (by decide)).symm.trans q))
      v11 := fun q => (gt_ne _ _ _ _ _ (by decide)).trans (h.v11 ((upd_ne f (by decide)).symm.trans q))
      v12 := fun q => (gt_ne _ _ _ _ _ (by decide)).trans (h.v12 ((upd_ne f (by decide)).symm.trans q))
      v14 := fun q => (gt_ne _ _ _ _ _ (by decide)).trans (h.v14 ((upd_ne f (by decide)).symm.trans q))
      v15 := fun q => (gt_ne _ _ _ _ _ (by decide)).trans (h.v15 ((upd_ne f (by decide)).symm.trans q))
      v17 := fun q => (gt_ne _ _ _ _ _ (by decide)).trans (h.v17 ((upd_ne f (by decide)).symm.trans q))
      v18 := fun q => (gt_ne _ _ _ _ _ (by decide)).trans (h.v18 ((upd_ne f (by decide)).symm.trans q))
      v19 := fun q => (gt_ne _ _ _ _ _ (by decide)).trans (h.v19 ((upd_ne f (by decide)).symm.trans q))
      v21 := fun q => (gt_ne _ _ _ _ _ (by decide)).trans (h.v21 ((upd_ne f (by decide)).symm.trans q))
      v22 := fun q => (gt_ne _ _ _ _ _ (by decide)).trans (h.v22 ((upd_ne f (by decide)).symm.trans q))
      v23 := fun q => (gt_ne _ _ _ _ _ (by decide)).trans (h.v23 ((upd_ne f (by decide)).symm.trans q))
      v25 := fun q => (gt_ne _ _ _ _ _ (by decide)).trans (h.v25 ((upd_ne f (by decide)).symm.trans q))
      v26 := fun q => (gt_ne _ _ _ _ _ (by decide)).trans (h.v26 ((upd_ne f (by decide)).symm.trans q))
      v5 := fun q => ⟨(gt_ne _ _ _ _ _ (by decide)).trans (h.v5 ((upd_ne f (by decide)).symm.trans q)).1, (h.v5 ((upd_ne f (by decide)).symm.trans q)).2⟩
      v8 := fun q => ⟨(gt_ne _ _ _ _ _ (by decide)).trans (h.v8 ((upd_ne f (by decide)).symm.trans q)).1, (h.v8 ((upd_ne f (by decide)).symm.trans q)).2⟩
      v0 := fun q => by
        obtain ⟨q1, q2, es, n, q3, q4⟩ := h.v0 ((upd_ne f (by decide)).symm.trans q)
        refine ⟨(gt_ne _ _ _ _ _ (by decide)).trans q1, q2, es, n, q3, ?_⟩
        rw [upd_ne f (show 4 ≠ 2 by decide), upd_ne f (show 7 ≠ 2 by decide), upd_ne f (show 10 ≠ 2 by decide), upd_ne f (show 13 ≠ 2 by decide), upd_ne f (show 16 ≠ 2 by decide), upd_ne f (show 20 ≠ 2 by decide), upd_ne f (show 24 ≠ 2 by decide)]
        exact q4
      hE := h.hE
      hR := h.hR
      hb := h.hb }
theorem shp_3 {W w : World} {aE r0 m b c : Nat} {f : Nat → Bool} {a : Act} {k : Int} {K : Act → World → Prop} {Q : Exit → Act → World → Prop} (o : Oper) (hop : o.op = .build 104 #[(0, .tmp 11), (1, .const (.int .i64 1)), (2, .const (.bool true))]) (hd : o.dst = some 12) (h : SR W w aE r0 m b c f a k) (hf : f 3 = false) (d2 : f 2 = true)
    (hK : ∀ a' w', (∃ m b c, SR W w' aE r0 m b c (upd f 3) a' k) → K a' w') : o.wp Try.prog a w K Q := by
  have e := h.v2 d2
  unfold Oper.wp
  simp [execOp, hop, hd, e, go_sem]
  refine hK _ _ ⟨m, b, c, ?_⟩
  exact {
      sz := by rw [Array.size_setIfInBounds]; exact h.sz
      df := h.df
      s0 := (gt_ne _ _ _ _ _ (by decide)).trans h.s0
      s2 := (gt_ne _ _ _ _ _ (by decide)).trans h.s2
      s3 := (gt_ne _ _ _ _ _ (by decide)).trans h.s3
      s4 := (gt_ne _ _ _ _ _ (by decide)).trans h.s4
      c25_0 := fun q => (upd_ne f (by decide)).trans (h.c25_0 ((upd_ne f (by decide)).symm.trans q))
      c26_25 := fun q => (upd_ne f (by decide)).trans (h.c26_25 ((upd_ne f (by decide)).symm.trans q))
      c6_5 := fun q => (upd_ne f (by decide)).trans (h.c6_5 ((upd_ne f (by decide)).symm.trans q))
      c7_6 := fun q => (upd_ne f (by decide)).trans (h.c7_6 ((upd_ne f (by decide)).symm.trans q))
      c9_8 := fun q => (upd_ne f (by decide)).trans (h.c9_8 ((upd_ne f (by decide)).symm.trans q))
      c10_9 := fun q => (upd_ne f (by decide)).trans (h.c10_9 ((upd_ne f (by decide)).symm.trans q))
      c4_0 := fun q => (upd_ne f (by decide)).trans (h.c4_0 ((upd_ne f (by decide)).symm.trans q))
      c7_0 := fun q => (upd_ne f (by decide)).trans (h.c7_0 ((upd_ne f (by decide)).symm.trans q))
      c10_0 := fun q => (upd_ne f (by decide)).trans (h.c10_0 ((upd_ne f (by decide)).symm.trans q))
      c13_0 := fun q => (upd_ne f (by decide)).trans (h.c13_0 ((upd_ne f (by decide)).symm.trans q))
      c16_0 := fun q => (upd_ne f (by decide)).trans (h.c16_0 ((upd_ne f (by decide)).symm.trans q))
      c20_0 := fun q => (upd_ne f (by decide)).trans (h.c20_0 ((upd_ne f (by decide)).symm.trans q))
      c24_0 := fun q => (upd_ne f (by decide)).trans (h.c24_0 ((upd_ne f (by decide)).symm.trans q))
      v1 := fun q => (gt_ne _ _ _ _ _ (by decide)).trans (h.v1 ((upd_ne f (by decide)).symm.trans q))
      v2 := fun q => (gt_ne _ _ _ _ _ (by decide)).trans (h.v2 ((upd_ne f (by decide)).symm.trans q))
      v3 := fun _ => gt_eq _ _ _ _ (by rw [h.sz]; decide)
      v6 := fun q => (gt_ne _ _ _ _ _ (by decide)).trans (h.v6 ((upd_ne f (by decide)).symm.trans q))
      v9 := fun q => (gt_ne _ _ _ _ _ (by decide)).trans (h.v9 ((upd_ne f (by decide)).symm.trans q))
      v11 := fun q => (gt_ne _ _ _ _ _ (by decide)).trans (h.v11 ((upd_ne f (by decide)).symm.trans q))
      v12 := fun q => (gt_ne _ _ _ _ _ (by decide)).trans (h.v12 ((upd_ne f (by decide)).symm.trans q))
      v14 := fun q => (gt_ne _ _ _ _ _ (by decide)).trans (h.v14 ((upd_ne f (by decide)).symm.trans q))
      v15 := fun q => (gt_ne _ _ _ _ _ (by decide)).trans (h.v15 ((upd_ne f (by decide)).symm.trans q))
      v17 := fun q => (gt_ne _ _ _ _ _ (by decide)).trans (h.v17 ((upd_ne f (by decide)).symm.trans q))
      v18 := fun q => (gt_ne _ _ _ _ _ (by decide)).trans (h.v18 ((upd_ne f (by decide)).symm.trans q))
      v19 := fun q => (gt_ne _ _ _ _ _ (by decide)).trans (h.v19 ((upd_ne f (by decide)).symm.trans q))
      v21 := fun q => (gt_ne _ _ _ _ _ (by decide)).trans (h.v21 ((upd_ne f (by decide)).symm.trans q))
      v22 := fun q => (gt_ne _ _ _ _ _ (by decide)).trans (h.v22 ((upd_ne f (by decide)).symm.trans q))
      v23 := fun q => (gt_ne _ _ _ _ _ (by decide)).trans (h.v23 ((upd_ne f (by decide)).symm.trans q))
      v25 := fun q => (gt_ne _ _ _ _ _ (by decide)).trans (h.v25 ((upd_ne f (by decide)).symm.trans q))
      v26 := fun q => (gt_ne _ _ _ _ _ (by decide)).trans (h.v26 ((upd_ne f (by decide)).symm.trans q))
      v5 := fun q => ⟨(gt_ne _ _ _ _ _ (by decide)).trans (h.v5 ((upd_ne f (by decide)).symm.trans q)).1, (h.v5 ((upd_ne f (by decide)).symm.trans q)).2⟩
      v8 := fun q => ⟨(gt_ne _ _ _ _ _ (by decide)).trans (h.v8 ((upd_ne f (by decide)).symm.trans q)).1, (h.v8 ((upd_ne f (by decide)).symm.trans q)).2⟩
      v0 := fun q => by
        obtain ⟨q1, q2, es, n, q3, q4⟩ := h.v0 ((upd_ne f (by decide)).symm.trans q)
        refine ⟨(gt_ne _ _ _ _ _ (by decide)).trans q1, q2, es, n, q3, ?_⟩
        rw [upd_ne f (show 4 ≠ 3 by decide), upd_ne f (show 7 ≠ 3 by decide), upd_ne f (show 10 ≠ 3 by decide), upd_ne f (show 13 ≠ 3 by decide), upd_ne f (show 16 ≠ 3 by decide), upd_ne f (show 20 ≠ 3 by decide), upd_ne f (show 24 ≠ 3 by decide)]
        exact q4
      hE := h.hE
      hR := h.hR
      hb := h.hb }
theorem shp_4 {W w : World} {aE r0 m b c : Nat} {f : Nat → Bool} {a : Act} {k : Int} {K : Act → World → Prop} {Q : Exit → Act → World → Prop} (o : Oper) (hop : o.op = .insert 132 (.tmp 9) (.const (.int .i64 1)) (.tmp 12)) (hd : o.dst = none) (h : SR W w aE r0 m b c f a k) (hf : f 4 = false) (d0 : f 0 = true) (d3 : f 3 = true)
    (hK : ∀ a' w', (∃ m b c, SR W w' aE r0 m b c (upd f 4) a' k) → K a' w') : o.wp Try.prog a w K Q := by
  have e2 := h.v3 d3
  obtain ⟨e, hm0, es, n, hm, ht⟩ := h.v0 d0
  rw [hf] at ht
  have hr := run_ins 132 3 104 w m n es 1 (.agg #[.slice (some ⟨aE, 0, none⟩) 1 5, .int .i64 1, .bool true, .bool false, .bool false]) Try.underlying132 Try.underlying3 hm (ht.n1 rfl)
  unfold Oper.wp
  simp [execOp, hop, hd, e, e2, hr, go_sem]
  refine hK _ _ ⟨m, b, c, ?_⟩
  exact {
      sz := h.sz
      df := h.df
      s0 := h.s0
      s2 := h.s2
      s3 := h.s3
      s4 := h.s4
      c25_0 := fun q => (upd_ne f (by decide)).trans (h.c25_0 ((upd_ne f (by decide)).symm.trans q))
      c26_25 := fun q => (upd_ne f (by decide)).trans (h.c26_25 ((upd_ne f (by decide)).symm.trans q))
      c6_5 := fun q => (upd_ne f (by decide)).trans (h.c6_5 ((upd_ne f (by decide)).symm.trans q))
      c7_6 := fun q => (upd_ne f (by decide)).trans (h.c7_6 ((upd_ne f (by decide)).symm.trans q))
      c9_8 := fun q => (upd_ne f (by decide)).trans (h.c9_8 ((upd_ne f (by decide)).symm.trans q))
      c10_9 := fun q => (upd_ne f (by decide)).trans (h.c10_9 ((upd_ne f (by decide)).symm.trans q))
      c4_0 := fun _ => (upd_ne f (by decide)).trans d0
      c7_0 := fun q => (upd_ne f (by decide)).trans (h.c7_0 ((upd_ne f (by decide)).symm.trans q))
      c10_0 := fun q => (upd_ne f (by decide)).trans (h.c10_0 ((upd_ne f (by decide)).symm.trans q))
      c13_0 := fun q => (upd_ne f (by decide)).trans (h.c13_0 ((upd_ne f (by decide)).symm.trans q))
      c16_0 := fun q => (upd_ne f (by decide)).trans (h.c16_0 ((upd_ne f (by decide)).symm.trans q))
      c20_0 := fun q => (upd_ne f (by decide)).trans (h.c20_0 ((upd_ne f (by decide)).symm.trans q))
      c24_0 := fun q => (upd_ne f (by decide)).trans (h.c24_0 ((upd_ne f (by decide)).symm.trans q))
      v1 := fun q => h.v1 ((upd_ne f (by decide)).symm.trans q)
      v2 := fun q => h.v2 ((upd_ne f (by decide)).symm.trans q)
      v3 := fun q => h.v3 ((upd_ne f (by decide)).symm.trans q)
      v6 := fun q => h.v6 ((upd_ne f (by decide)).symm.trans q)
      v9 := fun q => h.v9 ((upd_ne f (by decide)).symm.trans q)
      v11 := fun q => h.v11 ((upd_ne f (by decide)).symm.trans q)
      v12 := fun q => h.v12 ((upd_ne f (by decide)).symm.trans q)
      v14 := fun q => h.v14 ((upd_ne f (by decide)).symm.trans q)
      v15 := fun q => h.v15 ((upd_ne f (by decide)).symm.trans q)
      v17 := fun q => h.v17 ((upd_ne f (by decide)).symm.trans q)
      v18 := fun q => h.v18 ((upd_ne f (by decide)).symm.trans q)
      v19 := fun q => h.v19 ((upd_ne f (by decide)).symm.trans q)
      v21 := fun q => h.v21 ((upd_ne f (by decide)).symm.trans q)
      v22 := fun q => h.v22 ((upd_ne f (by decide)).symm.trans q)
      v23 := fun q => h.v23 ((upd_ne f (by decide)).symm.trans q)
      v25 := fun q => h.v25 ((upd_ne f (by decide)).symm.trans q)
      v26 := fun q => h.v26 ((upd_ne f (by decide)).symm.trans q)
      v5 := fun q => ⟨(h.v5 ((upd_ne f (by decide)).symm.trans q)).1, heap_mput ((h.v5 ((upd_ne f (by decide)).symm.trans q)).2) hm _ _⟩
      v8 := fun q => ⟨(h.v8 ((upd_ne f (by decide)).symm.trans q)).1, heap_mput ((h.v8 ((upd_ne f (by decide)).symm.trans q)).2) hm _ _⟩
      v0 := fun q => by
        refine ⟨e, hm0, _, _, mput_at w m _ _ (blk_lt hm), ?_⟩
        rw [upd_eq f 4]
        rw [upd_ne f (show 7 ≠ 4 by decide), upd_ne f (show 10 ≠ 4 by decide), upd_ne f (show 13 ≠ 4 by decide), upd_ne f (show 16 ≠ 4 by decide), upd_ne f (show 20 ≠ 4 by decide), upd_ne f (show 24 ≠ 4 by decide)]
        exact ht.ins1 n
      hE := heap_mput (h.hE) hm _ _
      hR := heap_mput (h.hR) hm _ _
      hb := mput_below h.hb _ _ _ hm0 }
theorem shp_5 {W w : World} {aE r0 m b c : Nat} {f : Nat → Bool} {a : Act} {k : Int} {K : Act → World → Prop} {Q : Exit → Act → World → Prop} (o : Oper) (hop : o.op = .buildSlice 39 3 #[(0, .const (.int .i64 0)), (1, .const (.int .i64 1)), (2, .const (.int .i64 4))]) (hd : o.dst = some 13) (h : SR W w aE r0 m b c f a k) (hf : f 5 = false)
    (hK : ∀ a' w', (∃ m b c, SR W w' aE r0 m b c (upd f 5) a' k) → K a' w') : o.wp Try.prog a w K Q := by
  unfold Oper.wp
  simp [execOp, hop, hd, go_sem]
  refine hK _ _ ⟨m, w.heap.size, c, ?_⟩
  exact {
      sz := by rw [Array.size_setIfInBounds]; exact h.sz
      df := h.df
      s0 := (gt_ne _ _ _ _ _ (by decide)).trans h.s0
      s2 := (gt_ne _ _ _ _ _ (by decide)).trans h.s2
      s3 := (gt_ne _ _ _ _ _ (by decide)).trans h.s3
      s4 := (gt_ne _ _ _ _ _ (by decide)).trans h.s4
      c25_0 := fun q => (upd_ne f (by decide)).trans (h.c25_0 ((upd_ne f (by decide)).symm.trans q))
      c26_25 := fun q => (upd_ne f (by decide)).trans (h.c26_25 ((upd_ne f (by decide)).symm.trans q))
      c6_5 := fun _ => upd_eq f 5
      c7_6 := fun q => (upd_ne f (by decide)).trans (h.c7_6 ((upd_ne f (by decide)).symm.trans q))
      c9_8 := fun q => (upd_ne f (by decide)).trans (h.c9_8 ((upd_ne f (by decide)).symm.trans q))
      c10_9 := fun q => (upd_ne f (by decide)).trans (h.c10_9 ((upd_ne f (by decide)).symm.trans q))
      c4_0 := fun q => (upd_ne f (by decide)).trans (h.c4_0 ((upd_ne f (by decide)).symm.trans q))
      c7_0 := fun q => (upd_ne f (by decide)).trans (h.c7_0 ((upd_ne f (by decide)).symm.trans q))
      c10_0 := fun q => (upd_ne f (by decide)).trans (h.c10_0 ((upd_ne f (by decide)).symm.trans q))
      c13_0 := fun q => (upd_ne f (by decide)).trans (h.c13_0 ((upd_ne f (by decide)).symm.trans q))
      c16_0 := fun q => (upd_ne f (by decide)).trans (h.c16_0 ((upd_ne f (by decide)).symm.trans q))
      c20_0 := fun q => (upd_ne f (by decide)).trans (h.c20_0 ((upd_ne f (by decide)).symm.trans q))
      c24_0 := fun q => (upd_ne f (by decide)).trans (h.c24_0 ((upd_ne f (by decide)).symm.trans q))
      v1 := fun q => (gt_ne _ _ _ _ _ (by decide)).trans (h.v1 ((upd_ne f (by decide)).symm.trans q))
      v2 := fun q => (gt_ne _ _ _ _ _ (by decide)).trans (h.v2 ((upd_ne f (by decide)).symm.trans q))
      v3 := fun q => (gt_ne _ _ _ _ _ (by decide)).trans (h.v3 ((upd_ne f (by decide)).symm.trans q))
      v6 := fun q => absurd (h.c6_5 ((upd_ne f (by decide)).symm.trans q)) (by rw [hf]; decide)
      v9 := fun q => (gt_ne _ _ _ _ _ (by decide)).trans (h.v9 ((upd_ne f (by decide)).symm.trans q))
      v11 := fun q => (gt_ne _ _ _ _ _ (by decide)).trans (h.v11 ((upd_ne f (by decide)).symm.trans q))
      v12 := fun q => (gt_ne _ _ _ _ _ (by decide)).trans (h.v12 ((upd_ne f (by decide)).symm.trans q))
      v14 := fun q => (gt_ne _ _ _ _ _ (by decide)).trans (h.v14 ((upd_ne f (by decide)).symm.trans q))
      v15 := fun q => (gt_ne _ _ _ _ _ (by decide)).trans (h.v15 ((upd_ne f (by decide)).symm.trans q))
      v17 := fun q => (gt_ne _ _ _ _ _ (by decide)).trans (h.v17 ((upd_ne f (by decide)).symm.trans q))
      v18 := fun q => (gt_ne _ _ _ _ _ (by decide)).trans (h.v18 ((upd_ne f (by decide)).symm.trans q))
      v19 := fun q => (gt_ne _ _ _ _ _ (by decide)).trans (h.v19 ((upd_ne f (by decide)).symm.trans q))
      v21 := fun q => (gt_ne _ _ _ _ _ (by decide)).trans (h.v21 ((upd_ne f (by decide)).symm.trans q))
      v22 := fun q => (gt_ne _ _ _ _ _ (by decide)).trans (h.v22 ((upd_ne f (by decide)).symm.trans q))
      v23 := fun q => (gt_ne _ _ _ _ _ (by decide)).trans (h.v23 ((upd_ne f (by decide)).symm.trans q))
      v25 := fun q => (gt_ne _ _ _ _ _ (by decide)).trans (h.v25 ((upd_ne f (by decide)).symm.trans q))
      v26 := fun q => (gt_ne _ _ _ _ _ (by decide)).trans (h.v26 ((upd_ne f (by decide)).symm.trans q))
      v5 := fun _ => ⟨gt_eq _ _ _ _ (by rw [h.sz]; decide), blk_new w _⟩
      v8 := fun q => ⟨(gt_ne _ _ _ _ _ (by decide)).trans (h.v8 ((upd_ne f (by decide)).symm.trans q)).1, heap_new ((h.v8 ((upd_ne f (by decide)).symm.trans q)).2) _⟩
      v0 := fun q => by
        obtain ⟨q1, q2, es, n, q3, q4⟩ := h.v0 ((upd_ne f (by decide)).symm.trans q)
        refine ⟨(gt_ne _ _ _ _ _ (by decide)).trans q1, q2, es, n, heap_new q3 _, ?_⟩
        rw [upd_ne f (show 4 ≠ 5 by decide), upd_ne f (show 7 ≠ 5 by decide), upd_ne f (show 10 ≠ 5 by decide), upd_ne f (show 13 ≠ 5 by decide), upd_ne f (show 16 ≠ 5 by decide), upd_ne f (show 20 ≠ 5 by decide), upd_ne f (show 24 ≠ 5 by decide)]
        exact { q4 with g2 := fun q => absurd (h.c6_5 (h.c7_6 q)) (by rw [hf]; decide) }
      hE := heap_new (h.hE) _
      hR := heap_new (h.hR) _
      hb := below_alloc h.hb _ }
theorem shp_6 {W w : World} {aE r0 m b c : Nat} {f : Nat → Bool} {a : Act} {k : Int} {K : Act → World → Prop} {Q : Exit → Act → World → Prop} (o : Oper) (hop : o.op = .build 104 #[(0, .tmp 13), (2, .const (.bool true)), (3, .const (.bool true))]) (hd : o.dst = some 14) (h : SR W w aE r0 m b c f a k) (hf : f 6 = false) (d5 : f 5 = true)
    (hK : ∀ a' w', (∃ m b c, SR W w' aE r0 m b c (upd f 6) a' k) → K a' w') : o.wp Try.prog a w K Q := by
  have e := (h.v5 d5).1
  unfold Oper.wp
  simp [execOp, hop, hd, e, go_sem]
  refine hK _ _ ⟨m, b, c, ?_⟩
  exact {
      sz := by rw [Array.size_setIfInBounds]; exact h.sz
      df := h.df
      s0 := (gt_ne _ _ _ _ _ (by decide)).trans h.s0
      s2 := (gt_ne _ _ _ _ _ (by decide)).trans h.s2
      s3 := (gt_ne _ _ _ _ _ (by decide)).trans h.s3
      s4 := (gt_ne _ _ _ _ _ (by decide)).trans h.s4
      c25_0 := fun q => (upd_ne f (by decide)).trans (h.c25_0 ((upd_ne f (by decide)).symm.trans q))
      c26_25 := fun q => (upd_ne f (by decide)).trans (h.c26_25 ((upd_ne f (by decide)).symm.trans q))
      c6_5 := fun _ => (upd_ne f (by decide)).trans d5
      c7_6 := fun _ => upd_eq f 6
      c9_8 := fun q => (upd_ne f (by decide)).trans (h.c9_8 ((upd_ne f (by decide)).symm.trans q))
      c10_9 := fun q => (upd_ne f (by decide)).trans (h.c10_9 ((upd_ne f (by decide)).symm.trans q))
      c4_0 := fun q => (upd_ne f (by decide)).trans (h.c4_0 ((upd_ne f (by decide)).symm.trans q))
      c7_0 := fun q => (upd_ne f (by decide)).trans (h.c7_0 ((upd_ne f (by decide)).symm.trans q))
      c10_0 := fun q => (upd_ne f (by decide)).trans (h.c10_0 ((upd_ne f (by decide)).symm.trans q))
      c13_0 := fun q => (upd_ne f (by decide)).trans (h.c13_0 ((upd_ne f (by decide)).symm.trans q))
      c16_0 := fun q => (upd_ne f (by decide)).trans (h.c16_0 ((upd_ne f (by decide)).symm.trans q))
      c20_0 := fun q => (upd_ne f (by decide)).trans (h.c20_0 ((upd_ne f (by decide)).symm.trans q))
      c24_0 := fun q => (upd_ne f (by decide)).trans (h.c24_0 ((upd_ne f (by decide)).symm.trans q))
      v1 := fun q => (gt_ne _ _ _ _ _ (by decide)).trans (h.v1 ((upd_ne f (by decide)).symm.trans q))
      v2 := fun q => (gt_ne _ _ _ _ _ (by decide)).trans (h.v2 ((upd_ne f (by decide)).symm.trans q))
      v3 := fun q => (gt_ne _ _ _ _ _ (by decide)).trans (h.v3 ((upd_ne f (by decide)).symm.trans q))
      v6 := fun _ => gt_eq _ _ _ _ (by rw [h.sz]; decide)
      v9 := fun q => (gt_ne _ _ _ _ _ (by decide)).trans (h.v9 ((upd_ne f (by decide)).symm.trans q))
      v11 := fun q => (gt_ne _ _ _ _ _ (by decide)).trans (h.v11 ((upd_ne f (by decide)).symm.trans q))
      v12 := fun q => (gt_ne _ _ _ _ _ (by decide)).trans (h.v12 ((upd_ne f (by decide)).symm.trans q))
      v14 := fun q => (gt_ne _ _ _ _ _ (by decide)).trans (h.v14 ((upd_ne f (by decide)).symm.trans q))
      v15 := fun q => (gt_ne _ _ _ _ _ (by decide)).trans (h.v15 ((upd_ne f (by decide)).symm.trans q))
      v17 := fun q => (gt_ne _ _ _ _ _ (by decide)).trans (h.v17 ((upd_ne f (by decide)).symm.trans q))
      v18 := fun q => (gt_ne _ _ _ _ _ (by decide)).trans (h.v18 ((upd_ne f (by decide)).symm.trans q))
      v19 := fun q => (gt_ne _ _ _ _ _ (by decide)).trans (h.v19 ((upd_ne f (by decide)).symm.trans q))
      v21 := fun q => (gt_ne _ _ _ _ _ (by decide)).trans (h.v21 ((upd_ne f (by decide)).symm.trans q))
      v22 := fun q => (gt_ne _ _ _ _ _ (by decide)).trans (h.v22 ((upd_ne f (by decide)).symm.trans q))
      v23 := fun q => (gt_ne _ _ _ _ _ (by decide)).trans (h.v23 ((upd_ne f (by decide)).symm.trans q))
      v25 := fun q => (gt_ne _ _ _ _ _ (by decide)).trans (h.v25 ((upd_ne f (by decide)).symm.trans q))
      v26 := fun q => (gt_ne _ _ _ _ _ (by decide)).trans (h.v26 ((upd_ne f (by decide)).symm.trans q))
      v5 := fun q => ⟨(gt_ne _ _ _ _ _ (by decide)).trans (h.v5 ((upd_ne f (by decide)).symm.trans q)).1, (h.v5 ((upd_ne f (by decide)).symm.trans q)).2⟩
      v8 := fun q => ⟨(gt_ne _ _ _ _ _ (by decide)).trans (h.v8 ((upd_ne f (by decide)).symm.trans q)).1, (h.v8 ((upd_ne f (by decide)).symm.trans q)).2⟩
      v0 := fun q => by
        obtain ⟨q1, q2, es, n, q3, q4⟩ := h.v0 ((upd_ne f (by decide)).symm.trans q)
        refine ⟨(gt_ne _ _ _ _ _ (by decide)).trans q1, q2, es, n, q3, ?_⟩
        rw [upd_ne f (show 4 ≠ 6 by decide), upd_ne f (show 7 ≠ 6 by decide), upd_ne f (show 10 ≠ 6 by decide), upd_ne f (show 13 ≠ 6 by decide), upd_ne f (show 16 ≠ 6 by decide), upd_ne f (show 20 ≠ 6 by decide), upd_ne f (show 24 ≠ 6 by decide)]
        exact q4
      hE := h.hE
      hR := h.hR
      hb := h.hb }
theorem shp_7 {W w : World} {aE r0 m b c : Nat} {f : Nat → Bool} {a : Act} {k : Int} {K : Act → World → Prop} {Q : Exit → Act → World → Prop} (o : Oper) (hop : o.op = .insert 132 (.tmp 9) (.const (.int .i64 2)) (.tmp 14)) (hd : o.dst = none) (h : SR W w aE r0 m b c f a k) (hf : f 7 = false) (d0 : f 0 = true) (d6 : f 6 = true)
    (hK : ∀ a' w', (∃ m b c, SR W w' aE r0 m b c (upd f 7) a' k) → K a' w') : o.wp Try.prog a w K Q := by
  have e2 := h.v6 d6
  obtain ⟨e, hm0, es, n, hm, ht⟩ := h.v0 d0
  rw [hf] at ht
  have hr := run_ins 132 3 104 w m n es 2 (.agg #[.slice (some ⟨b, 0, none⟩) 3 3, .int .i64 0, .bool true, .bool true, .bool false]) Try.underlying132 Try.underlying3 hm (ht.n2 rfl)
  unfold Oper.wp
  simp [execOp, hop, hd, e, e2, hr, go_sem]
  refine hK _ _ ⟨m, b, c, ?_⟩
  exact {
      sz := h.sz
      df := h.df
      s0 := h.s0
      s2 := h.s2
      s3 := h.s3
      s4 := h.s4
      c25_0 := fun q => (upd_ne f (by decide)).trans (h.c25_0 ((upd_ne f (by decide)).symm.trans q))
      c26_25 := fun q => (upd_ne f (by decide)).trans (h.c26_25 ((upd_ne f (by decide)).symm.trans q))
      c6_5 := fun q => (upd_ne f (by decide)).trans (h.c6_5 ((upd_ne f (by decide)).symm.trans q))
      c7_6 := fun _ => (upd_ne f (by decide)).trans d6
      c9_8 := fun q => (upd_ne f (by decide)).trans (h.c9_8 ((upd_ne f (by decide)).symm.trans q))
      c10_9 := fun q => (upd_ne f (by decide)).trans (h.c10_9 ((upd_ne f (by decide)).symm.trans q))
      c4_0 := fun q => (upd_ne f (by decide)).trans (h.c4_0 ((upd_ne f (by decide)).symm.trans q))
      c7_0 := fun _ => (upd_ne f (by decide)).trans d0
      c10_0 := fun q => (upd_ne f (by decide)).trans (h.c10_0 ((upd_ne f (by decide)).symm.trans q))
      c13_0 := fun q => (upd_ne f (by decide)).trans (h.c13_0 ((upd_ne f (by decide)).symm.trans q))
      c16_0 := fun q => (upd_ne f (by decide)).trans (h.c16_0 ((upd_ne f (by decide)).symm.trans q))
      c20_0 := fun q => (upd_ne f (by decide)).trans (h.c20_0 ((upd_ne f (by decide)).symm.trans q))
      c24_0 := fun q => (upd_ne f (by decide)).trans (h.c24_0 ((upd_ne f (by decide)).symm.trans q))
      v1 := fun q => h.v1 ((upd_ne f (by decide)).symm.trans q)
      v2 := fun q => h.v2 ((upd_ne f (by decide)).symm.trans q)
      v3 := fun q => h.v3 ((upd_ne f (by decide)).symm.trans q)
      v6 := fun q => h.v6 ((upd_ne f (by decide)).symm.trans q)
      v9 := fun q => h.v9 ((upd_ne f (by decide)).symm.trans q)
      v11 := fun q => h.v11 ((upd_ne f (by decide)).symm.trans q)
      v12 := fun q => h.v12 ((upd_ne f (by decide)).symm.trans q)
      v14 := fun q => h.v14 ((upd_ne f (by decide)).symm.trans q)
      v15 := fun q => h.v15 ((upd_ne f (by decide)).symm.trans q)
      v17 := fun q => h.v17 ((upd_ne f (by decide)).symm.trans q)
      v18 := fun q => h.v18 ((upd_ne f (by decide)).symm.trans q)
      v19 := fun q => h.v19 ((upd_ne f (by decide)).symm.trans q)
      v21 := fun q => h.v21 ((upd_ne f (by decide)).symm.trans q)
      v22 := fun q => h.v22 ((upd_ne f (by decide)).symm.trans q)
      v23 := fun q => h.v23 ((upd_ne f (by decide)).symm.trans q)
      v25 := fun q => h.v25 ((upd_ne f (by decide)).symm.trans q)
      v26 := fun q => h.v26 ((upd_ne f (by decide)).symm.trans q)
      v5 := fun q => ⟨(h.v5 ((upd_ne f (by decide)).symm.trans q)).1, heap_mput ((h.v5 ((upd_ne f (by decide)).symm.trans q)).2) hm _ _⟩
      v8 := fun q => ⟨(h.v8 ((upd_ne f (by decide)).symm.trans q)).1, heap_mput ((h.v8 ((upd_ne f (by decide)).symm.trans q)).2) hm _ _⟩
      v0 := fun q => by
        refine ⟨e, hm0, _, _, mput_at w m _ _ (blk_lt hm), ?_⟩
        rw [upd_eq f 7]
        rw [upd_ne f (show 4 ≠ 7 by decide), upd_ne f (show 10 ≠ 7 by decide), upd_ne f (show 13 ≠ 7 by decide), upd_ne f (show 16 ≠ 7 by decide), upd_ne f (show 20 ≠ 7 by decide), upd_ne f (show 24 ≠ 7 by decide)]
        exact ht.ins2 n
      hE := heap_mput (h.hE) hm _ _
      hR := heap_mput (h.hR) hm _ _
      hb := mput_below h.hb _ _ _ hm0 }
theorem shp_8 {W w : World} {aE r0 m b c : Nat} {f : Nat → Bool} {a : Act} {k : Int} {K : Act → World → Prop} {Q : Exit → Act → World → Prop} (o : Oper) (hop : o.op = .buildSlice 39 3 #[(0, .const (.int .i64 0)), (1, .const (.int .i64 2)), (2, .const (.int .i64 4))]) (hd : o.dst = some 15) (h : SR W w aE r0 m b c f a k) (hf : f 8 = false)
    (hK : ∀ a' w', (∃ m b c, SR W w' aE r0 m b c (upd f 8) a' k) → K a' w') : o.wp Try.prog a w K Q := by
  unfold Oper.wp
  simp [execOp, hop, hd, go_sem]
  refine hK _ _ ⟨m, b, w.heap.size, ?_⟩
  exact {
      sz := by rw [Array.size_setIfInBounds]; exact h.sz
      df := h.df
      s0 := (gt_ne _ _ _ _ _ (by decide)).trans h.s0
      s2 := (gt_ne _ _ _ _ _ (by decide)).trans h.s2
      s3 := (gt_ne _ _ _ _ _ (by decide)).trans h.s3
      s4 := (gt_ne _ _ _ _ _ (by decide)).trans h.s4
      c25_0 := fun q => (upd_ne f (by decide)).trans (h.c25_0 ((upd_ne f (by decide)).symm.trans q))
      c26_25 := fun q => (upd_ne f (by decide)).trans (h.c26_25 ((upd_ne f (by decide)).symm.trans q))
      c6_5 := fun q => (upd_ne f (by decide)).trans (h.c6_5 ((upd_ne f (by decide)).symm.trans q))
      c7_6 := fun q => (upd_ne f (by decide)).trans (h.c7_6 ((upd_ne f (by decide)).symm.trans q))
      c9_8 := fun _ => upd_eq f 8
      c10_9 := fun q => (upd_ne f (by decide)).trans (h.c10_9 ((upd_ne f (by decide)).symm.trans q))
      c4_0 := fun q => (upd_ne f (by decide)).trans (h.c4_0 ((upd_ne f (by decide)).symm.trans q))
      c7_0 := fun q => (upd_ne f (by decide)).trans (h.c7_0 ((upd_ne f (by decide)).symm.trans q))
      c10_0 := fun q => (upd_ne f (by decide)).trans (h.c10_0 ((upd_ne f (by decide)).symm.trans q))
      c13_0 := fun q => (upd_ne f (by decide)).trans (h.c13_0 ((upd_ne f (by decide)).symm.trans q))
      c16_0 := fun q => (upd_ne f (by decide)).trans (h.c16_0 ((upd_ne f (by decide)).symm.trans q))
      c20_0 := fun q => (upd_ne f (by decide)).trans (h.c20_0 ((upd_ne f (by decide)).symm.trans q))
      c24_0 := fun q => (upd_ne f (by decide)).trans (h.c24_0 ((upd_ne f (by decide)).symm.trans q))
      v1 := fun q => (gt_ne _ _ _ _ _ (by decide)).trans (h.v1 ((upd_ne f (by decide)).symm.trans q))
      v2 := fun q => (gt_ne _ _ _ _ _ (by decide)).trans (h.v2 ((upd_ne f (by decide)).symm.trans q))
      v3 := fun q => (gt_ne _ _ _ _ _ (by decide)).trans (h.v3 ((upd_ne f (by decide)).symm.trans q))
      v6 := fun q => (gt_ne _ _ _ _ _ (by decide)).trans (h.v6 ((upd_ne f (by decide)).symm.trans q))
      v9 := fun q => absurd (h.c9_8 ((upd_ne f (by decide)).symm.trans q)) (by rw [hf]; decide)
      v11 := fun q => (gt_ne _ _ _ _ _ (by decide)).trans (h.v11 ((upd_ne f (by decide)).symm.trans q))
      v12 := fun q => (gt_ne _ _ _ _ _ (by decide)).trans (h.v12 ((upd_ne f (by decide)).symm.trans q))
      v14 := fun q => (gt_ne _ _ _ _ _ (by decide)).trans (h.v14 ((upd_ne f (by decide)).symm.trans q))
      v15 := fun q => (gt_ne _ _ _ _ _ (by decide)).trans (h.v15 ((upd_ne f (by decide)).symm.trans q))
      v17 := fun q => (gt_ne _ _ _ _ _ (by decide)).trans (h.v17 ((upd_ne f (by decide)).symm.trans q))
      v18 := fun q => (gt_ne _ _ _ _ _ (by decide)).trans (h.v18 ((upd_ne f (by decide)).symm.trans q))
      v19 := fun q => (gt_ne _ _ _ _ _ (by decide)).trans (h.v19 ((upd_ne f (by decide)).symm.trans q))
      v21 := fun q => (gt_ne _ _ _ _ _ (by decide)).trans (h.v21 ((upd_ne f (by decide)).symm.trans q))
      v22 := fun q => (gt_ne _ _ _ _ _ (by decide)).trans (h.v22 ((upd_ne f (by decide)).symm.trans q))
      v23 := fun q => (gt_ne _ _ _ _ _ (by decide)).trans (h.v23 ((upd_ne f (by decide)).symm.trans q))
      v25 := fun q => (gt_ne _ _ _ _ _ (by decide)).trans (h.v25 ((upd_ne f (by decide)).symm.trans q))
      v26 := fun q => (gt_ne _ _ _ _ _ (by decide)).trans (h.v26 ((upd_ne f (by decide)).symm.trans q))
      v5 := fun q => ⟨(gt_ne _ _ _ _ _ (by decide)).trans (h.v5 ((upd_ne f (by decide)).symm.trans q)).1, heap_new ((h.v5 ((upd_ne f (by decide)).symm.trans q)).2) _⟩
      v8 := fun _ => ⟨gt_eq _ _ _ _ (by rw [h.sz]; decide), blk_new w _⟩
      v0 := fun q => by
        obtain ⟨q1, q2, es, n, q3, q4⟩ := h.v0 ((upd_ne f (by decide)).symm.trans q)
        refine ⟨(gt_ne _ _ _ _ _ (by decide)).trans q1, q2, es, n, heap_new q3 _, ?_⟩
        rw [upd_ne f (show 4 ≠ 8 by decide), upd_ne f (show 7 ≠ 8 by decide), upd_ne f (show 10 ≠ 8 by decide), upd_ne f (show 13 ≠ 8 by decide), upd_ne f (show 16 ≠ 8 by decide), upd_ne f (show 20 ≠ 8 by decide), upd_ne f (show 24 ≠ 8 by decide)]
        exact { q4 with g3 := fun q => absurd (h.c9_8 (h.c10_9 q)) (by rw [hf]; decide) }
      hE := heap_new (h.hE) _
      hR := heap_new (h.hR) _
      hb := below_alloc h.hb _ }
theorem shp_9 {W w : World} {aE r0 m b c : Nat} {f : Nat → Bool} {a : Act} {k : Int} {K : Act → World → Prop} {Q : Exit → Act → World → Prop} (o : Oper) (hop : o.op = .build 104 #[(0, .tmp 15), (1, .const (.int .i64 1)), (3, .const (.bool true))]) (hd : o.dst = some 16) (h : SR W w aE r0 m b c f a k) (hf : f 9 = false) (d8 : f 8 = true)
    (hK : ∀ a' w', (∃ m b c, SR W w' aE r0 m b c (upd f 9) a' k) → K a' w') : o.wp Try.prog a w K Q := by
  have e := (h.v8 d8).1
  unfold Oper.wp
  simp [execOp, hop, hd, e, go_sem]
  refine hK _ _ ⟨m, b, c, ?_⟩
  exact {
      sz := by rw [Array.size_setIfInBounds]; exact h.sz
      df := h.df
      s0 := (gt_ne _ _ _ _ _ (by decide)).trans h.s0
      s2 := (gt_ne _ _ _ _ _ (by decide)).trans h.s2
      s3 := (gt_ne _ _ _ _ _ (by decide)).trans h.s3
      s4 := (gt_ne _ _ _ _ _ (by decide)).trans h.s4
      c25_0 := fun q => (upd_ne f (by decide)).trans (h.c25_0 ((upd_ne f (by decide)).symm.trans q))
      c26_25 := fun q => (upd_ne f (by decide)).trans (h.c26_25 ((upd_ne f (by decide)).symm.trans q))
      c6_5 := fun q => (upd_ne f (by decide)).trans (h.c6_5 ((upd_ne f (by decide)).symm.trans q))
      c7_6 := fun q => (upd_ne f (by decide)).trans (h.c7_6 ((upd_ne f (by decide)).symm.trans q))
      c9_8 := fun _ => (upd_ne f (by decide)).trans d8
      c10_9 := fun _ => upd_eq f 9
      c4_0 := fun q => (upd_ne f (by decide)).trans (h.c4_0 ((upd_ne f (by decide)).symm.trans q))
      c7_0 := fun q => (upd_ne f (by decide)).trans (h.c7_0 ((upd_ne f (by decide)).symm.trans q))
      c10_0 := fun q => (upd_ne f (by decide)).trans (h.c10_0 ((upd_ne f (by decide)).symm.trans q))
      c13_0 := fun q => (upd_ne f (by decide)).trans (h.c13_0 ((upd_ne f (by decide)).symm.trans q))
      c16_0 := fun q => (upd_ne f (by decide)).trans (h.c16_0 ((upd_ne f (by decide)).symm.trans q))
      c20_0 := fun q => (upd_ne f (by decide)).trans (h.c20_0 ((upd_ne f (by decide)).symm.trans q))
      c24_0 := fun q => (upd_ne f (by decide)).trans (h.c24_0 ((upd_ne f (by decide)).symm.trans q))
      v1 := fun q => (gt_ne _ _ _ _ _ (by decide)).trans (h.v1 ((upd_ne f (by decide)).symm.trans q))
      v2 := fun q => (gt_ne _ _ _ _ _ (by decide)).trans (h.v2 ((upd_ne f (by decide)).symm.trans q))
      v3 := fun q => (gt_ne _ _ _ _ _ (by decide)).trans (h.v3 ((upd_ne f (by decide)).symm.trans q))
      v6 := fun q => (gt_ne _ _ _ _ _ (by decide)).trans (h.v6 ((upd_ne f (by decide)).symm.trans q))
      v9 := fun _ => gt_eq _ _ _ _ (by rw [h.sz]; decide)
      v11 := fun q => (gt_ne _ _ _ _ _ (by decide)).trans (h.v11 ((upd_ne f (by decide)).symm.trans q))
      v12 := fun q => (gt_ne _ _ _ _ _ (by decide)).trans (h.v12 ((upd_ne f (by decide)).symm.trans q))
      v14 := fun q => (gt_ne _ _ _ _ _ (by decide)).trans (h.v14 ((upd_ne f (by decide)).symm.trans q))
      v15 := fun q => (gt_ne _ _ _ _ _ (by decide)).trans (h.v15 ((upd_ne f (by decide)).symm.trans q))
      v17 := fun q => (gt_ne _ _ _ _ _ (by decide)).trans (h.v17 ((upd_ne f (by decide)).symm.trans q))
      v18 := fun q => (gt_ne _ _ _ _ _ (by decide)).trans (h.v18 ((upd_ne f (by decide)).symm.trans q))
      v19 := fun q => (gt_ne _ _ _ _ _ (by decide)).trans (h.v19 ((upd_ne f (by decide)).symm.trans q))
      v21 := fun q => (gt_ne _ _ _ _ _ (by decide)).trans (h.v21 ((upd_ne f (by decide)).symm.trans q))
      v22 := fun q => (gt_ne _ _ _ _ _ (by decide)).trans (h.v22 ((upd_ne f (by decide)).symm.trans q))
      v23 := fun q => (gt_ne _ _ _ _ _ (by decide)).trans (h.v23 ((upd_ne f (by decide)).symm.trans q))
      v25 := fun q => (gt_ne _ _ _ _ _ (by decide)).trans (h.v25 ((upd_ne f (by decide)).symm.trans q))
      v26 := fun q => (gt_ne _ _ _ _ _ (by decide)).trans (h.v26 ((upd_ne f (by decide)).symm.trans q))
      v5 := fun q => ⟨(gt_ne _ _ _ _ _ (by decide)).trans (h.v5 ((upd_ne f (by decide)).symm.trans q)).1, (h.v5 ((upd_ne f (by decide)).symm.trans q)).2⟩
      v8 := fun q => ⟨(gt_ne _ _ _ _ _ (by decide)).trans (h.v8 ((upd_ne f (by decide)).symm.trans q)).1, (h.v8 ((upd_ne f (by decide)).symm.trans q)).2⟩
      v0 := fun q => by
        obtain ⟨q1, q2, es, n, q3, q4⟩ := h.v0 ((upd_ne f (by decide)).symm.trans q)
        refine ⟨(gt_ne _ _ _ _ _ (by decide)).trans q1, q2, es, n, q3, ?_⟩
        rw [upd_ne f (show 4 ≠ 9 by decide), upd_ne f (show 7 ≠ 9 by decide), upd_ne f (show 10 ≠ 9 by decide), upd_ne f (show 13 ≠ 9 by decide), upd_ne f (show 16 ≠ 9 by decide), upd_ne f (show 20 ≠ 9 by decide), upd_ne f (show 24 ≠ 9 by decide)]
        exact q4
      hE := h.hE
      hR := h.hR
      hb := h.hb }
theorem shp_10 {W w : World} {aE r0 m b c : Nat} {f : Nat → Bool} {a : Act} {k : Int} {K : Act → World → Prop} {Q : Exit → Act → World → Prop} (o : Oper) (hop : o.op = .insert 132 (.tmp 9) (.const (.int .i64 3)) (.tmp 16)) (hd : o.dst = none) (h : SR W w aE r0 m b c f a k) (hf : f 10 = false) (d0 : f 0 = true) (d9 : f 9 = true)
    (hK : ∀ a' w', (∃ m b c, SR W w' aE r0 m b c (upd f 10) a' k) → K a' w') : o.wp Try.prog a w K Q := by
  have e2 := h.v9 d9
  obtain ⟨e, hm0, es, n, hm, ht⟩ := h.v0 d0
  rw [hf] at ht
  have hr := run_ins 132 3 104 w m n es 3 (.agg #[.slice (some ⟨c, 0, none⟩) 3 3, .int .i64 1, .bool false, .bool true, .bool false]) Try.underlying132 Try.underlying3 hm (ht.n3 rfl)
  unfold Oper.wp
  simp [execOp, hop, hd, e, e2, hr, go_sem]
  refine hK _ _ ⟨m, b, c, ?_⟩
  exact {
      sz := h.sz
      df := h.df
      s0 := h.s0
      s2 := h.s2
      s3 := h.s3
      s4 := h.s4
      c25_0 := fun q => (upd_ne f (by decide)).trans (h.c25_0 ((upd_ne f (by decide)).symm.trans q))
      c26_25 := fun q => (upd_ne f (by decide)).trans (h.c26_25 ((upd_ne f (by decide)).symm.trans q))
      c6_5 := fun q => (upd_ne f (by decide)).trans (h.c6_5 ((upd_ne f (by decide)).symm.trans q))
      c7_6 := fun q => (upd_ne f (by decide)).trans (h.c7_6 ((upd_ne f (by decide)).symm.trans q))
      c9_8 := fun q => (upd_ne f (by decide)).trans (h.c9_8 ((upd_ne f (by decide)).symm.trans q))
      c10_9 := fun _ => (upd_ne f (by decide)).trans d9
      c4_0 := fun q => (upd_ne f (by decide)).trans (h.c4_0 ((upd_ne f (by decide)).symm.trans q))
      c7_0 := fun q => (upd_ne f (by decide)).trans (h.c7_0 ((upd_ne f (by decide)).symm.trans q))
      c10_0 := fun _ => (upd_ne f (by decide)).trans d0
      c13_0 := fun q => (upd_ne f (by decide)).trans (h.c13_0 ((upd_ne f (by decide)).symm.trans q))
      c16_0 := fun q => (upd_ne f (by decide)).trans (h.c16_0 ((upd_ne f (by decide)).symm.trans q))
      c20_0 := fun q => (upd_ne f (by decide)).trans (h.c20_0 ((upd_ne f (by decide)).symm.trans q))
      c24_0 := fun q => (upd_ne f (by decide)).trans (h.c24_0 ((upd_ne f (by decide)).symm.trans q))
      v1 := fun q => h.v1 ((upd_ne f (by decide)).symm.trans q)
      v2 := fun q => h.v2 ((upd_ne f (by decide)).symm.trans q)
      v3 := fun q => h.v3 ((upd_ne f (by decide)).symm.trans q)
      v6 := fun q => h.v6 ((upd_ne f (by decide)).symm.trans q)
      v9 := fun q => h.v9 ((upd_ne f (by decide)).symm.trans q)
      v11 := fun q => h.v11 ((upd_ne f (by decide)).symm.trans q)
      v12 := fun q => h.v12 ((upd_ne f (by decide)).symm.trans q)
      v14 := fun q => h.v14 ((upd_ne f (by decide)).symm.trans q)
      v15 := fun q => h.v15 ((upd_ne f (by decide)).symm.trans q)
      v17 := fun q => h.v17 ((upd_ne f (by decide)).symm.trans q)
      v18 := fun q => h.v18 ((upd_ne f (by decide)).symm.trans q)
      v19 := fun q => h.v19 ((upd_ne f (by decide)).symm.trans q)
      v21 := fun q => h.v21 ((upd_ne f (by decide)).symm.trans q)
      v22 := fun q => h.v22 ((upd_ne f (by decide)).symm.trans q)
      v23 := fun q => h.v23 ((upd_ne f (by decide)).symm.trans q)
      v25 := fun q => h.v25 ((upd_ne f (by decide)).symm.trans q)
      v26 := fun q => h.v26 ((upd_ne f (by decide)).symm.trans q)
      v5 := fun q => ⟨(h.v5 ((upd_ne f (by decide)).symm.trans q)).1, heap_mput ((h.v5 ((upd_ne f (by decide)).symm.trans q)).2) hm _ _⟩
      v8 := fun q => ⟨(h.v8 ((upd_ne f (by decide)).symm.trans q)).1, heap_mput ((h.v8 ((upd_ne f (by decide)).symm.trans q)).2) hm _ _⟩
      v0 := fun q => by
        refine ⟨e, hm0, _, _, mput_at w m _ _ (blk_lt hm), ?_⟩
        rw [upd_eq f 10]
        rw [upd_ne f (show 4 ≠ 10 by decide), upd_ne f (show 7 ≠ 10 by decide), upd_ne f (show 13 ≠ 10 by decide), upd_ne f (show 16 ≠ 10 by decide), upd_ne f (show 20 ≠ 10 by decide), upd_ne f (show 24 ≠ 10 by decide)]
        exact ht.ins3 n
      hE := heap_mput (h.hE) hm _ _
      hR := heap_mput (h.hR) hm _ _
      hb := mput_below h.hb _ _ _ hm0 }
theorem shp_11 {W w : World} {aE r0 m b c : Nat} {f : Nat → Bool} {a : Act} {k : Int} {K : Act → World → Prop} {Q : Exit → Act → World → Prop} (o : Oper) (hop : o.op = .move (.tmp 4)) (hd : o.dst = some 17) (h : SR W w aE r0 m b c f a k) (hf : f 11 = false)
    (hK : ∀ a' w', (∃ m b c, SR W w' aE r0 m b c (upd f 11) a' k) → K a' w') : o.wp Try.prog a w K Q := by
  have e := h.s4
  unfold Oper.wp
  simp [execOp, hop, hd, e, go_sem]
  refine hK _ _ ⟨m, b, c, ?_⟩
  exact {
      sz := by rw [Array.size_setIfInBounds]; exact h.sz
      df := h.df
      s0 := (gt_ne _ _ _ _ _ (by decide)).trans h.s0
      s2 := (gt_ne _ _ _ _ _ (by decide)).trans h.s2
      s3 := (gt_ne _ _ _ _ _ (by decide)).trans h.s3
      s4 := (gt_ne _ _ _ _ _ (by decide)).trans h.s4
      c25_0 := fun q => (upd_ne f (by decide)).trans (h.c25_0 ((upd_ne f (by decide)).symm.trans q))
      c26_25 := fun q => (upd_ne f (by decide)).trans (h.c26_25 ((upd_ne f (by decide)).symm.trans q))
      c6_5 := fun q => (upd_ne f (by decide)).trans (h.c6_5 ((upd_ne f (by decide)).symm.trans q))
      c7_6 := fun q => (upd_ne f (by decide)).trans (h.c7_6 ((upd_ne f (by decide)).symm.trans q))
      c9_8 := fun q => (upd_ne f (by decide)).trans (h.c9_8 ((upd_ne f (by decide)).symm.trans q))
      c10_9 := fun q => (upd_ne f (by decide)).trans (h.c10_9 ((upd_ne f (by decide)).symm.trans q))
      c4_0 := fun q => (upd_ne f (by decide)).trans (h.c4_0 ((upd_ne f (by decide)).symm.trans q))
      c7_0 := fun q => (upd_ne f (by decide)).trans (h.c7_0 ((upd_ne f (by decide)).symm.trans q))
      c10_0 := fun q => (upd_ne f (by decide)).trans (h.c10_0 ((upd_ne f (by decide)).symm.trans q))
      c13_0 := fun q => (upd_ne f (by decide)).trans (h.c13_0 ((upd_ne f (by decide)).symm.trans q))
      c16_0 := fun q => (upd_ne f (by decide)).trans (h.c16_0 ((upd_ne f (by decide)).symm.trans q))
      c20_0 := fun q => (upd_ne f (by decide)).trans (h.c20_0 ((upd_ne f (by decide)).symm.trans q))
      c24_0 := fun q => (upd_ne f (by decide)).trans (h.c24_0 ((upd_ne f (by decide)).symm.trans q))
      v1 := fun q => (gt_ne _ _ _ _ _ (by decide)).trans (h.v1 ((upd_ne f (by decide)).symm.trans q))
      v2 := fun q => (gt_ne _ _ _ _ _ (by decide)).trans (h.v2 ((upd_ne f (by decide)).symm.trans q))
      v3 := fun q => (gt_ne _ _ _ _ _ (by decide)).trans (h.v3 ((upd_ne f (by decide)).symm.trans q))
      v6 := fun q => (gt_ne _ _ _ _ _ (by decide)).trans (h.v6 ((upd_ne f (by decide)).symm.trans q))
      v9 := fun q => (gt_ne _ _ _ _ _ (by decide)).trans (h.v9 ((upd_ne f (by decide)).symm.trans q))
      v11 := fun _ => gt_eq _ _ _ _ (by rw [h.sz]; decide)
      v12 := fun q => (gt_ne _ _ _ _ _ (by decide)).trans (h.v12 ((upd_ne f (by decide)).symm.trans q))
      v14 := fun q => (gt_ne _ _ _ _ _ (by decide)).trans (h.v14 ((upd_ne f (by decide)).symm.trans q))
      v15 := fun q => (gt_ne _ _ _ _ _ (by decide)).trans (h.v15 ((upd_ne f (by decide)).symm.trans q))
      v17 := fun q => (gt_ne _ _ _ _ _ (by decide)).trans (h.v17 ((upd_ne f (by decide)).symm.trans q))
      v18 := fun q => (gt_ne _ _ _ _ _ (by decide)).trans (h.v18 ((upd_ne f (by decide)).symm.trans q))
      v19 := fun q => (gt_ne _ _ _ _ _ (by decide)).trans (h.v19 ((upd_ne f (by decide)).symm.trans q))
      v21 := fun q => (gt_ne _ _ _ _ _ (by decide)).trans (h.v21 ((upd_ne f (by decide)).symm.trans q))
      v22 := fun q => (gt_ne _ _ _ _ _ (by decide)).trans (h.v22 ((upd_ne f (by decide)).symm.trans q))
      v23 := fun q => (gt_ne _ _ _ _ _ (by decide)).trans (h.v23 ((upd_ne f (by decide)).symm.trans q))
      v25 := fun q => (gt_ne _ _ _ _ _ (by decide)).trans (h.v25 ((upd_ne f (by decide)).symm.trans q))
      v26 := fun q => (gt_ne _ _ _ _ _ (by decide)).trans (h.v26 ((upd_ne f (by decide)).symm.trans q))
      v5 := fun q => ⟨(gt_ne _ _ _ _ _ (by decide)).trans (h.v5 ((upd_ne f (by decide)).symm.trans q)).1, (h.v5 ((upd_ne f (by decide)).symm.trans q)).2⟩
      v8 := fun q => ⟨(gt_ne _ _ _ _ _ (by decide)).trans (h.v8 ((upd_ne f (by decide)).symm.trans q)).1, (h.v8 ((upd_ne f (by decide)).symm.trans q)).2⟩
      v0 := fun q => by
        obtain ⟨q1, q2, es, n, q3, q4⟩ := h.v0 ((upd_ne f (by decide)).symm.trans q)
        refine ⟨(gt_ne _ _ _ _ _ (by decide)).trans q1, q2, es, n, q3, ?_⟩
        rw [upd_ne f (show 4 ≠ 11 by decide), upd_ne f (show 7 ≠ 11 by decide), upd_ne f (show 10 ≠ 11 by decide), upd_ne f (show 13 ≠ 11 by decide), upd_ne f (show 16 ≠ 11 by decide), upd_ne f (show 20 ≠ 11 by decide), upd_ne f (show 24 ≠ 11 by decide)]
        exact q4
      hE := h.hE
      hR := h.hR
      hb := h.hb }
theorem shp_12 {W w : World} {aE r0 m b c : Nat} {f : Nat → Bool} {a : Act} {k : Int} {K : Act → World → Prop} {Q : Exit → Act → World → Prop} (o : Oper) (hop : o.op = .build 104 #[(0, .tmp 17), (1, .const (.int .i64 1)), (2, .const (.bool true)), (3, .const (.bool true))]) (hd : o.dst = some 18) (h : SR W w aE r0 m b c f a k) (hf : f 12 = false) (d11 : f 11 = true)
    (hK : ∀ a' w', (∃ m b c, SR W w' aE r0 m b c (upd f 12) a' k) → K a' w') : o.wp Try.prog a w K Q := by
  have e := h.v11 d11
  unfold Oper.wp
  simp [execOp, hop, hd, e, go_sem]
  refine hK _ _ ⟨m, b, c, ?_⟩
  exact {
      sz := by rw [Array.size_setIfInBounds]; exact h.sz
      df := h.df
      s0 := (gt_ne _ _ _ _ _ (by decide)).trans h.s0
      s2 := (gt_ne _ _ _ _ _ (by decide)).trans h.s2
      s3 := (gt_ne _ _ _ _ _ (by decide)).trans h.s3
      s4 := (gt_ne _ _ _ _ _ (by decide)).trans h.s4
      c25_0 := fun q => (upd_ne f (by decide)).trans (h.c25_0 ((upd_ne f (by decide)).symm.trans q))
      c26_25 := fun q => (upd_ne f (by decide)).trans (h.c26_25 ((upd_ne f (by decide)).symm.trans q))
      c6_5 := fun q => (upd_ne f (by decide)).trans (h.c6_5 ((upd_ne f (by decide)).symm.trans q))
      c7_6 := fun q => (upd_ne f (by decide)).trans (h.c7_6 ((upd_ne f (by decide)).symm.trans q))
      c9_8 := fun q => (upd_ne f (by decide)).trans (h.c9_8 ((upd_ne f (by decide)).symm.trans q))
      c10_9 := fun q => (upd_ne f (by decide)).trans (h.c10_9 ((upd_ne f (by decide)).symm.trans q))
      c4_0 := fun q => (upd_ne f (by decide)).trans (h.c4_0 ((upd_ne f (by decide)).symm.trans q))
      c7_0 := fun q => (upd_ne f (by decide)).trans (h.c7_0 ((upd_ne f (by decide)).symm.trans q))
      c10_0 := fun q => (upd_ne f (by decide)).trans (h.c10_0 ((upd_ne f (by decide)).symm.trans q))
      c13_0 := fun q => (upd_ne f (by decide)).trans (h.c13_0 ((upd_ne f (by decide)).symm.trans q))
      c16_0 := fun q => (upd_ne f (by decide)).trans (h.c16_0 ((upd_ne f (by decide)).symm.trans q))
      c20_0 := fun q => (upd_ne f (by decide)).trans (h.c20_0 ((upd_ne f (by decide)).symm.trans q))
      c24_0 := fun q => (upd_ne f (by decide)).trans (h.c24_0 ((upd_ne f (by decide)).symm.trans q))
      v1 := fun q => (gt_ne _ _ _ _ _ (by decide)).trans (h.v1 ((upd_ne f (by decide)).symm.trans q))
      v2 := fun q => (gt_ne _ _ _ _ _ (by decide)).trans (h.v2 ((upd_ne f (by decide)).symm.trans q))
      v3 := fun q => (gt_ne _ _ _ _ _ (by decide)).trans (h.v3 ((upd_ne f (by decide)).symm.trans q))
      v6 := fun q => (gt_ne _ _ _ _ _ (by decide)).trans (h.v6 ((upd_ne f (by decide)).symm.trans q))
      v9 := fun q => (gt_ne _ _ _ _ _ (by decide)).trans (h.v9 ((upd_ne f (by decide)).symm.trans q))
      v11 := fun q => (gt_ne _ _ _ _ _ (by decide)).trans (h.v11 ((upd_ne f (by decide)).symm.trans q))
      v12 := fun _ => gt_eq _ _ _ _ (by rw [h.sz]; decide)
      v14 := fun q => (gt_ne _ _ _ _ _ (by decide)).trans (h.v14 ((upd_ne f (by decide)).symm.trans q))
      v15 := fun q => (gt_ne _ _ _ _ _ (by decide)).trans (h.v15 ((upd_ne f (by decide)).symm.trans q))
      v17 := fun q => (gt_ne _ _ _ _ _ (by decide)).trans (h.v17 ((upd_ne f (by decide)).symm.trans q))
      v18 := fun q => (gt_ne _ _ _ _ _ (by decide)).trans (h.v18 ((upd_ne f (by decide)).symm.trans q))
      v19 := fun q => (gt_ne _ _ _ _ _ (by decide)).trans (h.v19 ((upd_ne f (by decide)).symm.trans q))
      v21 := fun q => (gt_ne _ _ _ _ _ (by decide)).trans (h.v21 ((upd_ne f (by decide)).symm.trans q))
      v22 := fun q => (gt_ne _ _ _ _ _ (by decide)).trans (h.v22 ((upd_ne f (by decide)).symm.trans q))
      v23 := fun q => (gt_ne _ _ _ _ _ (by decide)).trans (h.v23 ((upd_ne f (by decide)).symm.trans q))
      v25 := fun q => (gt_ne _ _ _ _ _ (by decide)).trans (h.v25 ((upd_ne f (by decide)).symm.trans q))
      v26 := fun q => (gt_ne _ _ _ _ _ (by decide)).trans (h.v26 ((upd_ne f (by decide)).symm.trans q))
      v5 := fun q => ⟨(gt_ne _ _ _ _ _ (by decide)).trans (h.v5 ((upd_ne f (by decide)).symm.trans q)).1, (h.v5 ((upd_ne f (by decide)).symm.trans q)).2⟩
      v8 := fun q => ⟨(gt_ne _ _ _ _ _ (by decide)).trans (h.v8 ((upd_ne f (by decide)).symm.trans q)).1, (h.v8 ((upd_ne f (by decide)).symm.trans q)).2⟩
      v0 := fun q => by
        obtain ⟨q1, q2, es, n, q3, q4⟩ := h.v0 ((upd_ne f (by decide)).symm.trans q)
        refine ⟨(gt_ne _ _ _ _ _ (by decide)).trans q1, q2, es, n, q3, ?_⟩
        rw [upd_ne f (show 4 ≠ 12 by decide), upd_ne f (show 7 ≠ 12 by decide), upd_ne f (show 10 ≠ 12 by decide), upd_ne f (show 13 ≠ 12 by decide), upd_ne f (show 16 ≠ 12 by decide), upd_ne f (show 20 ≠ 12 by decide), upd_ne f (show 24 ≠ 12 by decide)]
        exact q4
      hE := h.hE
      hR := h.hR
      hb := h.hb }
theorem shp_13 {W w : World} {aE r0 m b c : Nat} {f : Nat → Bool} {a : Act} {k : Int} {K : Act → World → Prop} {Q : Exit → Act → World → Prop} (o : Oper) (hop : o.op = .insert 132 (.tmp 9) (.const (.int .i64 4)) (.tmp 18)) (hd : o.dst = none) (h : SR W w aE r0 m b c f a k) (hf : f 13 = false) (d0 : f 0 = true) (d12 : f 12 = true)
    (hK : ∀ a' w', (∃ m b c, SR W w' aE r0 m b c (upd f 13) a' k) → K a' w') : o.wp Try.prog a w K Q := by
  have e2 := h.v12 d12
  obtain ⟨e, hm0, es, n, hm, ht⟩ := h.v0 d0
  rw [hf] at ht
  have hr := run_ins 132 3 104 w m n es 4 (.agg #[.slice (some ⟨aE, 0, none⟩) 5 5, .int .i64 1, .bool true, .bool true, .bool false]) Try.underlying132 Try.underlying3 hm (ht.n4 rfl)
  unfold Oper.wp
  simp [execOp, hop, hd, e, e2, hr, go_sem]
  refine hK _ _ ⟨m, b, c, ?_⟩
  exact {
      sz := h.sz
      df := h.df
      s0 := h.s0
      s2 := h.s2
      s3 := h.s3
      s4 := h.s4
      c25_0 := fun q => (upd_ne f (by decide)).trans (h.c25_0 ((upd_ne f (by decide)).symm.trans q))
      c26_25 := fun q => (upd_ne f (by decide)).trans (h.c26_25 ((upd_ne f (by decide)).symm.trans q))
      c6_5 := fun q => (upd_ne f (by decide)).trans (h.c6_5 ((upd_ne f (by decide)).symm.trans q))
      c7_6 := fun q => (upd_ne f (by decide)).trans (h.c7_6 ((upd_ne f (by decide)).symm.trans q))
      c9_8 := fun q => (upd_ne f (by decide)).trans (h.c9_8 ((upd_ne f (by decide)).symm.trans q))
      c10_9 := fun q => (upd_ne f (by decide)).trans (h.c10_9 ((upd_ne f (by decide)).symm.trans q))
      c4_0 := fun q => (upd_ne f (by decide)).trans (h.c4_0 ((upd_ne f (by decide)).symm.trans q))
      c7_0 := fun q => (upd_ne f (by decide)).trans (h.c7_0 ((upd_ne f (by decide)).symm.trans q))
      c10_0 := fun q => (upd_ne f (by decide)).trans (h.c10_0 ((upd_ne f (by decide)).symm.trans q))
      c13_0 := fun _ => (upd_ne f (by decide)).trans d0
      c16_0 := fun q => (upd_ne f (by decide)).trans (h.c16_0 ((upd_ne f (by decide)).symm.trans q))
      c20_0 := fun q => (upd_ne f (by decide)).trans (h.c20_0 ((upd_ne f (by decide)).symm.trans q))
      c24_0 := fun q => (upd_ne f (by decide)).trans (h.c24_0 ((upd_ne f (by decide)).symm.trans q))
      v1 := fun q => h.v1 ((upd_ne f (by decide)).symm.trans q)
      v2 := fun q => h.v2 ((upd_ne f (by decide)).symm.trans q)
      v3 := fun q => h.v3 ((upd_ne f (by decide)).symm.trans q)
      v6 := fun q => h.v6 ((upd_ne f (by decide)).symm.trans q)
      v9 := fun q => h.v9 ((upd_ne f (by decide)).symm.trans q)
      v11 := fun q => h.v11 ((upd_ne f (by decide)).symm.trans q)
      v12 := fun q => h.v12 ((upd_ne f (by decide)).symm.trans q)
      v14 := fun q => h.v14 ((upd_ne f (by decide)).symm.trans q)
      v15 := fun q => h.v15 ((upd_ne f (by decide)).symm.trans q)
      v17 := fun q => h.v17 ((upd_ne f (by decide)).symm.trans q)
      v18 := fun q => h.v18 ((upd_ne f (by decide)).symm.trans q)
      v19 := fun q => h.v19 ((upd_ne f (by decide)).symm.trans q)
      v21 := fun q => h.v21 ((upd_ne f (by decide)).symm.trans q)
      v22 := fun q => h.v22 ((upd_ne f (by decide)).symm.trans q)
      v23 := fun q => h.v23 ((upd_ne f (by decide)).symm.trans q)
      v25 := fun q => h.v25 ((upd_ne f (by decide)).symm.trans q)
      v26 := fun q => h.v26 ((upd_ne f (by decide)).symm.trans q)
      v5 := fun q => ⟨(h.v5 ((upd_ne f (by decide)).symm.trans q)).1, heap_mput ((h.v5 ((upd_ne f (by decide)).symm.trans q)).2) hm _ _⟩
      v8 := fun q => ⟨(h.v8 ((upd_ne f (by decide)).symm.trans q)).1, heap_mput ((h.v8 ((upd_ne f (by decide)).symm.trans q)).2) hm _ _⟩
      v0 := fun q => by
        refine ⟨e, hm0, _, _, mput_at w m _ _ (blk_lt hm), ?_⟩
        rw [upd_eq f 13]
        rw [upd_ne f (show 4 ≠ 13 by decide), upd_ne f (show 7 ≠ 13 by decide), upd_ne f (show 10 ≠ 13 by decide), upd_ne f (show 16 ≠ 13 by decide), upd_ne f (show 20 ≠ 13 by decide), upd_ne f (show 24 ≠ 13 by decide)]
        exact ht.ins4 n
      hE := heap_mput (h.hE) hm _ _
      hR := heap_mput (h.hR) hm _ _
      hb := mput_below h.hb _ _ _ hm0 }
theorem shp_14 {W w : World} {aE r0 m b c : Nat} {f : Nat → Bool} {a : Act} {k : Int} {K : Act → World → Prop} {Q : Exit → Act → World → Prop} (o : Oper) (hop : o.op = .move (.tmp 4)) (hd : o.dst = some 19) (h : SR W w aE r0 m b c f a k) (hf : f 14 = false)
    (hK : ∀ a' w', (∃ m b c, SR W w' aE r0 m b c (upd f 14) a' k) → K a' w') : o.wp Try.prog a w K Q := by
  have e := h.s4
  unfold Oper.wp
  simp [execOp, hop, hd, e, go_sem]
  refine hK _ _ ⟨m, b, c, ?_⟩
  exact {
      sz := by rw [Array.size_setIfInBounds]; exact h.sz
      df := h.df
      s0 := (gt_ne _ _ _ _ _ (by decide)).trans h.s0
      s2 := (gt_ne _ _ _ _ _ (by decide)).trans h.s2
      s3 := (gt_ne _ _ _ _ _ (by decide)).trans h.s3
      s4 := (gt_ne _ _ _ _ _ (by decide)).trans h.s4
      c25_0 := fun q => (upd_ne f (by decide)).trans (h.c25_0 ((upd_ne f (by decide)).symm.trans q))
      c26_25 := fun q => (upd_ne f (by decide)).trans (h.c26_25 ((upd_ne f (by decide)).symm.trans q))
      c6_5 := fun q => (upd_ne f (by decide)).trans (h.c6_5 ((upd_ne f (by decide)).symm.trans q))
      c7_6 := fun q => (upd_ne f (by decide)).trans (h.c7_6 ((upd_ne f (by decide)).symm.trans q))
      c9_8 := fun q => (upd_ne f (by decide)).trans (h.c9_8 ((upd_ne f (by decide)).symm.trans q))
      c10_9 := fun q => (upd_ne f (by decide)).trans (h.c10_9 ((upd_ne f (by decide)).symm.trans q))
      c4_0 := fun q => (upd_ne f (by decide)).trans (h.c4_0 ((upd_ne f (by decide)).symm.trans q))
      c7_0 := fun q => (upd_ne f (by decide)).trans (h.c7_0 ((upd_ne f (by decide)).symm.trans q))
      c10_0 := fun q => (upd_ne f (by decide)).trans (h.c10_0 ((upd_ne f (by decide)).symm.trans q))
      c13_0 := fun q => (upd_ne f (by decide)).trans (h.c13_0 ((upd_ne f (by decide)).symm.trans q))
      c16_0 := fun q => (upd_ne f (by decide)).trans (h.c16_0 ((upd_ne f (by decide)).symm.trans q))
      c20_0 := fun q => (upd_ne f (by decide)).trans (h.c20_0 ((upd_ne f (by decide)).symm.trans q))
      c24_0 := fun q => (upd_ne f (by decide)).trans (h.c24_0 ((upd_ne f (by decide)).symm.trans q))
      v1 := fun q => (gt_ne _ _ _ _ _ (by decide)).trans (h.v1 ((upd_ne f (by decide)).symm.trans q))
      v2 := fun q => (gt_ne _ _ _ _ _ (by decide)).trans (h.v2 ((upd_ne f (by decide)).symm.trans q))
      v3 := fun q => (gt_ne _ _ _ _ _ (by decide)).trans (h.v3 ((upd_ne f (by decide)).symm.trans q))
      v6 := fun q => (gt_ne _ _ _ _ _ (by decide)).trans (h.v6 ((upd_ne f (by decide)).symm.trans q))
      v9 := fun q => (gt_ne _ _ _ _ _ (by decide)).trans (h.v9 ((upd_ne f (by decide)).symm.trans q))
      v11 := fun q => (gt_ne _ _ _ _ _ (by decide)).trans (h.v11 ((upd_ne f (by decide)).symm.trans q))
      v12 := fun q => (gt_ne _ _ _ _ _ (by decide)).trans (h.v12 ((upd_ne f (by decide)).symm.trans q))
      v14 := fun _ => gt_eq _ _ _ _ (by rw [h.sz]; decide)
      v15 := fun q => (gt_ne _ _ _ _ _ (by decide)).trans (h.v15 ((upd_ne f (by decide)).symm.trans q))
      v17 := fun q => (gt_ne _ _ _ _ _ (by decide)).trans (h.v17 ((upd_ne f (by decide)).symm.trans q))
      v18 := fun q => (gt_ne _ _ _ _ _ (by decide)).trans (h.v18 ((upd_ne f (by decide)).symm.trans q))
      v19 := fun q => (gt_ne _ _ _ _ _ (by decide)).trans (h.v19 ((upd_ne f (by decide)).symm.trans q))
      v21 := fun q => (gt_ne _ _ _ _ _ (by decide)).trans (h.v21 ((upd_ne f (by decide)).symm.trans q))
      v22 := fun q => (gt_ne _ _ _ _ _ (by decide)).trans (h.v22 ((upd_ne f (by decide)).symm.trans q))
      v23 := fun q => (gt_ne _ _ _ _ _ (by decide)).trans (h.v23 ((upd_ne f (by decide)).symm.trans q))
      v25 := fun q => (gt_ne _ _ _ _ _ (by decide)).trans (h.v25 ((upd_ne f (by decide)).symm.trans q))
      v26 := fun q => (gt_ne _ _ _ _ _ (by decide)).trans (h.v26 ((upd_ne f (by decide)).symm.trans q))
      v5 := fun q => ⟨(gt_ne _ _ _ _ _ (by decide)).trans (h.v5 ((upd_ne f (by decide)).symm.trans q)).1, (h.v5 ((upd_ne f (by decide)).symm.trans q)).2⟩
      v8 := fun q => ⟨(gt_ne _ _ _ _ _ (by decide)).trans (h.v8 ((upd_ne f (by decide)).symm.trans q)).1, (h.v8 ((upd_ne f (by decide)).symm.trans q)).2⟩
      v0 := fun q => by
        obtain ⟨q1, q2, es, n, q3, q4⟩ := h.v0 ((upd_ne f (by decide)).symm.trans q)
        refine ⟨(gt_ne _ _ _ _ _ (by decide)).trans q1, q2, es, n, q3, ?_⟩
        rw [upd_ne f (show 4 ≠ 14 by decide), upd_ne f (show 7 ≠ 14 by decide), upd_ne f (show 10 ≠ 14 by decide), upd_ne f (show 13 ≠ 14 by decide), upd_ne f (show 16 ≠ 14 by decide), upd_ne f (show 20 ≠ 14 by decide), upd_ne f (show 24 ≠ 14 by decide)]
        exact q4
      hE := h.hE
      hR := h.hR
      hb := h.hb }
theorem shp_15 {W w : World} {aE r0 m b c : Nat} {f : Nat → Bool} {a : Act} {k : Int} {K : Act → World → Prop} {Q : Exit → Act → World → Prop} (o : Oper) (hop : o.op = .build 104 #[(0, .tmp 19), (1, .const (.int .i64 2)), (2, .const (.bool true)), (3, .const (.bool true))]) (hd : o.dst = some 20) (h : SR W w aE r0 m b c f a k) (hf : f 15 = false) (d14 : f 14 = true)
    (hK : ∀ a' w', (∃ m b c, SR W w' aE r0 m b c (upd f 15) a' k) → K a' w') : o.wp Try.prog a w K Q := by
  have e := h.v14 d14
  unfold Oper.wp
  simp [execOp, hop, hd, e, go_sem]
  refine hK _ _ ⟨m, b, c, ?_⟩
  exact {
      sz := by rw [Array.size_setIfInBounds]; exact h.sz
      df := h.df
      s0 := (gt_ne _ _ _ _ _ (by decide)).trans h.s0
      s2 := (gt_ne _ _ _ _ _ (by decide)).trans h.s2
      s3 := (gt_ne _ _ _ _ _ (by decide)).trans h.s3
      s4 := (gt_ne _ _ _ _ _ (by decide)).trans h.s4
      c25_0 := fun q => (upd_ne f (by decide)).trans (h.c25_0 ((upd_ne f (by decide)).symm.trans q))
      c26_25 := fun q => (upd_ne f (by decide)).trans (h.c26_25 ((upd_ne f (by decide)).symm.trans q))
      c6_5 := fun q => (upd_ne f (by decide)).trans (h.c6_5 ((upd_ne f (by decide)).symm.trans q))
      c7_6 := fun q => (upd_ne f (by decide)).trans (h.c7_6 ((upd_ne f (by decide)).symm.trans q))
      c9_8 := fun q => (upd_ne f (by decide)).trans (h.c9_8 ((upd_ne f (by decide)).symm.trans q))
      c10_9 := fun q => (upd_ne f (by decide)).trans (h.c10_9 ((upd_ne f (by decide)).symm.trans q))
      c4_0 := fun q => (upd_ne f (by decide)).trans (h.c4_0 ((upd_ne f (by decide)).symm.trans q))
      c7_0 := fun q => (upd_ne f (by decide)).trans (h.c7_0 ((upd_ne f (by decide)).symm.trans q))
      c10_0 := fun q => (upd_ne f (by decide)).trans (h.c10_0 ((upd_ne f (by decide)).symm.trans q))
      c13_0 := fun q => (upd_ne f (by decide)).trans (h.c13_0 ((upd_ne f (by decide)).symm.trans q))
      c16_0 := fun q => (upd_ne f (by decide)).trans (h.c16_0 ((upd_ne f (by decide)).symm.trans q))
      c20_0 := fun q => (upd_ne f (by decide)).trans (h.c20_0 ((upd_ne f (by decide)).symm.trans q))
      c24_0 := fun q => (upd_ne f (by decide)).trans (h.c24_0 ((upd_ne f (by decide)).symm.trans q))
      v1 := fun q => (gt_ne _ _ _ _ _ (by decide)).trans (h.v1 ((upd_ne f (by decide)).symm.trans q))
      v2 := fun q => (gt_ne _ _ _ _ _ (by decide)).trans (h.v2 ((upd_ne f (by decide)).symm.trans q))
      v3 := fun q => (gt_ne _ _ _ _ _ (by decide)).trans (h.v3 ((upd_ne f (by decide)).symm.trans q))
      v6 := fun q => (gt_ne _ _ _ _ _ (by decide)).trans (h.v6 ((upd_ne f (by decide)).symm.trans q))
      v9 := fun q => (gt_ne _ _ _ _ _ (by decide)).trans (h.v9 ((upd_ne f (by decide)).symm.trans q))
      v11 := fun q => (gt_ne _ _ _ _ _ (by decide)).trans (h.v11 ((upd_ne f (by decide)).symm.trans q))
      v12 := fun q => (gt_ne _ _ _ _ _ (by decide)).trans (h.v12 ((upd_ne f (by decide)).symm.trans q))
      v14 := fun q => (gt_ne _ _ _ _ _ (by decide)).trans (h.v14 ((upd_ne f (by decide)).symm.trans q))
      v15 := fun _ => gt_eq _ _ _ _ (by rw [h.sz]; decide)
      v17 := fun q => (gt_ne _ _ _ _ _ (by decide)).trans (h.v17 ((upd_ne f (by decide)).symm.trans q))
      v18 := fun q => (gt_ne _ _ _ _ _ (by decide)).trans (h.v18 ((upd_ne f (by decide)).symm.trans q))
      v19 := fun q => (gt_ne _ _ _ _ _ (by decide)).trans (h.v19 ((upd_ne f (by decide)).symm.trans q))
      v21 := fun q => (gt_ne _ _ _ _ _ (by decide)).trans (h.v21 ((upd_ne f (by decide)).symm.trans q))
      v22 := fun q => (gt_ne _ _ _ _ _ (by decide)).trans (h.v22 ((upd_ne f (by decide)).symm.trans q))
      v23 := fun q => (gt_ne _ _ _ _ _ (by decide)).trans (h.v23 ((upd_ne f (by decide)).symm.trans q))
      v25 := fun q => (gt_ne _ _ _ _ _ (by decide)).trans (h.v25 ((upd_ne f (by decide)).symm.trans q))
      v26 := fun q => (gt_ne _ _ _ _ _ (by decide)).trans (h.v26 ((upd_ne f (by decide)).symm.trans q))
      v5 := fun q => ⟨(gt_ne _ _ _ _ _ (by decide)).trans (h.v5 ((upd_ne f (by decide)).symm.trans q)).1, (h.v5 ((upd_ne f (by decide)).symm.trans q)).2⟩
      v8 := fun q => ⟨(gt_ne _ _ _ _ _ (by decide)).trans (h.v8 ((upd_ne f (by decide)).symm.trans q)).1, (h.v8 ((upd_ne f (by decide)).symm.trans q)).2⟩
      v0 := fun q => by
        obtain ⟨q1, q2, es, n, q3, q4⟩ := h.v0 ((upd_ne f (by decide)).symm.trans q)
        refine ⟨(gt_ne _ _ _ _ _ (by decide)).trans q1, q2, es, n, q3, ?_⟩
        rw [upd_ne f (show 4 ≠ 15 by decide), upd_ne f (show 7 ≠ 15 by decide), upd_ne f (show 10 ≠ 15 by decide), upd_ne f (show 13 ≠ 15 by decide), upd_ne f (show 16 ≠ 15 by decide), upd_ne f (show 20 ≠ 15 by decide), upd_ne f (show 24 ≠ 15 by decide)]
        exact q4
      hE := h.hE
      hR := h.hR
      hb := h.hb }
theorem shp_16 {W w : World} {aE r0 m b c : Nat} {f : Nat → Bool} {a : Act} {k : Int} {K : Act → World → Prop} {Q : Exit → Act → World → Prop} (o : Oper) (hop : o.op = .insert 132 (.tmp 9) (.const (.int .i64 5)) (.tmp 20)) (hd : o.dst = none) (h : SR W w aE r0 m b c f a k) (hf : f 16 = false) (d0 : f 0 = true) (d15 : f 15 = true)
    (hK : ∀ a' w', (∃ m b c, SR W w' aE r0 m b c (upd f 16) a' k) → K a' w') : o.wp Try.prog a w K Q := by
  have e2 := h.v15 d15
  obtain ⟨e, hm0, es, n, hm, ht⟩ := h.v0 d0
  rw [hf] at ht
  have hr := run_ins 132 3 104 w m n es 5 (.agg #[.slice (some ⟨aE, 0, none⟩) 5 5, .int .i64 2, .bool true, .bool true, .bool false]) Try.underlying132 Try.underlying3 hm (ht.n5 rfl)
  unfold Oper.wp
  simp [execOp, hop, hd, e, e2, hr, go_sem]
  refine hK _ _ ⟨m, b, c, ?_⟩
  exact {
      sz := h.sz
      df := h.df
      s0 := h.s0
      s2 := h.s2
      s3 := h.s3
      s4 := h.s4
      c25_0 := fun q => (upd_ne f (by decide)).trans (h.c25_0 ((upd_ne f (by decide)).symm.trans q))
      c26_25 := fun q => (upd_ne f (by decide)).trans (h.c26_25 ((upd_ne f (by decide)).symm.trans q))
      c6_5 := fun q => (upd_ne f (by decide)).trans (h.c6_5 ((upd_ne f (by decide)).symm.trans q))
      c7_6 := fun q => (upd_ne f (by decide)).trans (h.c7_6 ((upd_ne f (by decide)).symm.trans q))
      c9_8 := fun q => (upd_ne f (by decide)).trans (h.c9_8 ((upd_ne f (by decide)).symm.trans q))
      c10_9 := fun q => (upd_ne f (by decide)).trans (h.c10_9 ((upd_ne f (by decide)).symm.trans q))
      c4_0 := fun q => (upd_ne f (by decide)).trans (h.c4_0 ((upd_ne f (by decide)).symm.trans q))
      c7_0 := fun q => (upd_ne f (by decide)).trans (h.c7_0 ((upd_ne f (by decide)).symm.trans q))
      c10_0 := fun q => (upd_ne f (by decide)).trans (h.c10_0 ((upd_ne f (by decide)).symm.trans q))
      c13_0 := fun q => (upd_ne f (by decide)).trans (h.c13_0 ((upd_ne f (by decide)).symm.trans q))
      c16_0 := fun _ => (upd_ne f (by decide)).trans d0
      c20_0 := fun q => (upd_ne f (by decide)).trans (h.c20_0 ((upd_ne f (by decide)).symm.trans q))
      c24_0 := fun q => (upd_ne f (by decide)).trans (h.c24_0 ((upd_ne f (by decide)).symm.trans q))
      v1 := fun q => h.v1 ((upd_ne f (by decide)).symm.trans q)
      v2 := fun q => h.v2 ((upd_ne f (by decide)).symm.trans q)
      v3 := fun q => h.v3 ((upd_ne f (by decide)).symm.trans q)
      v6 := fun q => h.v6 ((upd_ne f (by decide)).symm.trans q)
      v9 := fun q => h.v9 ((upd_ne f (by decide)).symm.trans q)
      v11 := fun q => h.v11 ((upd_ne f (by decide)).symm.trans q)
      v12 := fun q => h.v12 ((upd_ne f (by decide)).symm.trans q)
      v14 := fun q => h.v14 ((upd_ne f (by decide)).symm.trans q)
      v15 := fun q => h.v15 ((upd_ne f (by decide)).symm.trans q)
      v17 := fun q => h.v17 ((upd_ne f (by decide)).symm.trans q)
      v18 := fun q => h.v18 ((upd_ne f (by decide)).symm.trans q)
      v19 := fun q => h.v19 ((upd_ne f (by decide)).symm.trans q)
      v21 := fun q => h.v21 ((upd_ne f (by decide)).symm.trans q)
      v22 := fun q => h.v22 ((upd_ne f (by decide)).symm.trans q)
      v23 := fun q => h.v23 ((upd_ne f (by decide)).symm.trans q)
      v25 := fun q => h.v25 ((upd_ne f (by decide)).symm.trans q)
      v26 := fun q => h.v26 ((upd_ne f (by decide)).symm.trans q)
      v5 := fun q => ⟨(h.v5 ((upd_ne f (by decide)).symm.trans q)).1, heap_mput ((h.v5 ((upd_ne f (by decide)).symm.trans q)).2) hm _ _⟩
      v8 := fun q => ⟨(h.v8 ((upd_ne f (by decide)).symm.trans q)).1, heap_mput ((h.v8 ((upd_ne f (by decide)).symm.trans q)).2) hm _ _⟩
      v0 := fun q => by
        refine ⟨e, hm0, _, _, mput_at w m _ _ (blk_lt hm), ?_⟩
        rw [upd_eq f 16]
        rw [upd_ne f (show 4 ≠ 16 by decide), upd_ne f (show 7 ≠ 16 by decide), upd_ne f (show 10 ≠ 16 by decide), upd_ne f (show 13 ≠ 16 by decide), upd_ne f (show 20 ≠ 16 by decide), upd_ne f (show 24 ≠ 16 by decide)]
        exact ht.ins5 n
      hE := heap_mput (h.hE) hm _ _
      hR := heap_mput (h.hR) hm _ _
      hb := mput_below h.hb _ _ _ hm0 }
theorem shp_17 {W w : World} {aE r0 m b c : Nat} {f : Nat → Bool} {a : Act} {k : Int} {K : Act → World → Prop} {Q : Exit → Act → World → Prop} (o : Oper) (hop : o.op = .move (.tmp 4)) (hd : o.dst = some 21) (h : SR W w aE r0 m b c f a k) (hf : f 17 = false)
    (hK : ∀ a' w', (∃ m b c, SR W w' aE r0 m b c (upd f 17) a' k) → K a' w') : o.wp Try.prog a w K Q := by
  have e := h.s4
  unfold Oper.wp
  simp [execOp, hop, hd, e, go_sem]
  refine hK _ _ ⟨m, b, c, ?_⟩
  exact {
      sz := by rw [Array.size_setIfInBounds]; exact h.sz
      df := h.df
      s0 := (gt_ne _ _ _ _ _ (by decide)).trans h.s0
      s2 := (gt_ne _ _ _ _ _ (by decide)).trans h.s2
      s3 := (gt_ne _ _ _ _ _ (by decide)).trans h.s3
      s4 := (gt_ne _ _ _ _ _ (by decide)).trans h.s4
      c25_0 := fun q => (upd_ne f (by decide)).trans (h.c25_0 ((upd_ne f (by decide)).symm.trans q))
      c26_25 := fun q => (upd_ne f (by decide)).trans (h.c26_25 ((upd_ne f (by decide)).symm.trans q))
      c6_5 := fun q => (upd_ne f (by decide)).trans (h.c6_5 ((upd_ne f (by decide)).symm.trans q))
      c7_6 := fun q => (upd_ne f (by decide)).trans (h.c7_6 ((upd_ne f (by decide)).symm.trans q))
      c9_8 := fun q => (upd_ne f (by decide)).trans (h.c9_8 ((upd_ne f (by decide)).symm.trans q))
      c10_9 := fun q => (upd_ne f (by decide)).trans (h.c10_9 ((upd_ne f (by decide)).symm.trans q))
      c4_0 := fun q => (upd_ne f (by decide)).trans (h.c4_0 ((upd_ne f (by decide)).symm.trans q))
      c7_0 := fun q => (upd_ne f (by decide)).trans (h.c7_0 ((upd_ne f (by decide)).symm.trans q))
      c10_0 := fun q => (upd_ne f (by decide)).trans (h.c10_0 ((upd_ne f (by decide)).symm.trans q))
      c13_0 := fun q => (upd_ne f (by decide)).trans (h.c13_0 ((upd_ne f (by decide)).symm.trans q))
      c16_0 := fun q => (upd_ne f (by decide)).trans (h.c16_0 ((upd_ne f (by decide)).symm.trans q))
      c20_0 := fun q => (upd_ne f (by decide)).trans (h.c20_0 ((upd_ne f (by decide)).symm.trans q))
      c24_0 := fun q => (upd_ne f (by decide)).trans (h.c24_0 ((upd_ne f (by decide)).symm.trans q))
      v1 := fun q => (gt_ne _ _ _ _ _ (by decide)).trans (h.v1 ((upd_ne f (by decide)).symm.trans q))
      v2 := fun q => (gt_ne _ _ _ _ _ (by decide)).trans (h.v2 ((upd_ne f (by decide)).symm.trans q))
      v3 := fun q => (gt_ne _ _ _ _ _ (by decide)).trans (h.v3 ((upd_ne f (by decide)).symm.trans q))
      v6 := fun q => (gt_ne _ _ _ _ _ (by decide)).trans (h.v6 ((upd_ne f (by decide)).symm.trans q))
      v9 := fun q => (gt_ne _ _ _ _ _ (by decide)).trans (h.v9 ((upd_ne f (by decide)).symm.trans q))
      v11 := fun q => (gt_ne _ _ _ _ _ (by decide)).trans (h.v11 ((upd_ne f (by decide)).symm.trans q))
      v12 := fun q => (gt_ne _ _ _ _ _ (by decide)).trans (h.v12 ((upd_ne f (by decide)).symm.trans q))
      v14 := fun q => (gt_ne _ _ _ _ _ (by decide)).trans (h.v14 ((upd_ne f (by decide)).symm.trans q))
      v15 := fun q => (gt_ne _ _ _ _ _ (by decide)).trans (h.v15 ((upd_ne f (by decide)).symm.trans q))
      v17 := fun _ => gt_eq _ _ _ _ (by rw [h.sz]; decide)
      v18 := fun q => (gt_ne _ _ _ _ _ (by decide)).trans (h.v18 ((upd_ne f (by decide)).symm.trans q))
      v19 := fun q => (gt_ne _ _ _ _ _ (by decide)).trans (h.v19 ((upd_ne f (by decide)).symm.trans q))
      v21 := fun q => (gt_ne _ _ _ _ _ (by decide)).trans (h.v21 ((upd_ne f (by decide)).symm.trans q))
      v22 := fun q => (gt_ne _ _ _ _ _ (by decide)).trans (h.v22 ((upd_ne f (by decide)).symm.trans q))
      v23 := fun q => (gt_ne _ _ _ _ _ (by decide)).trans (h.v23 ((upd_ne f (by decide)).symm.trans q))
      v25 := fun q => (gt_ne _ _ _ _ _ (by decide)).trans (h.v25 ((upd_ne f (by decide)).symm.trans q))
      v26 := fun q => (gt_ne _ _ _ _ _ (by decide)).trans (h.v26 ((upd_ne f (by decide)).symm.trans q))
      v5 := fun q => ⟨(gt_ne _ _ _ _ _ (by decide)).trans (h.v5 ((upd_ne f (by decide)).symm.trans q)).1, (h.v5 ((upd_ne f (by decide)).symm.trans q)).2⟩
      v8 := fun q => ⟨(gt_ne _ _ _ _ _ (by decide)).trans (h.v8 ((upd_ne f (by decide)).symm.trans q)).1, (h.v8 ((upd_ne f (by decide)).symm.trans q)).2⟩
      v0 := fun q => by
        obtain ⟨q1, q2, es, n, q3, q4⟩ := h.v0 ((upd_ne f (by decide)).symm.trans q)
        refine ⟨(gt_ne _ _ _ _ _ (by decide)).trans q1, q2, es, n, q3, ?_⟩
        rw [upd_ne f (show 4 ≠ 17 by decide), upd_ne f (show 7 ≠ 17 by decide), upd_ne f (show 10 ≠ 17 by decide), upd_ne f (show 13 ≠ 17 by decide), upd_ne f (show 16 ≠ 17 by decide), upd_ne f (show 20 ≠ 17 by decide), upd_ne f (show 24 ≠ 17 by decide)]
        exact q4
      hE := h.hE
      hR := h.hR
      hb := h.hb }
theorem shp_18 {W w : World} {aE r0 m b c : Nat} {f : Nat → Bool} {a : Act} {k : Int} {K : Act → World → Prop} {Q : Exit → Act → World → Prop} (o : Oper) (hop : o.op = .slice 39 (.tmp 21) (some (.const (.int .i64 1))) none none) (hd : o.dst = some 22) (h : SR W w aE r0 m b c f a k) (hf : f 18 = false) (d17 : f 17 = true)
    (hK : ∀ a' w', (∃ m b c, SR W w' aE r0 m b c (upd f 18) a' k) → K a' w') : o.wp Try.prog a w K Q := by
  have e := h.v17 d17
  have hs := slice_tail1 ⟨aE, 0, none⟩ w
  unfold Oper.wp
  simp [execOp, hop, hd, e, hs, go_sem]
  refine hK _ _ ⟨m, b, c, ?_⟩
  exact {
      sz := by rw [Array.size_setIfInBounds]; exact h.sz
      df := h.df
      s0 := (gt_ne _ _ _ _ _ (by decide)).trans h.s0
      s2 := (gt_ne _ _ _ _ _ (by decide)).trans h.s2
      s3 := (gt_ne _ _ _ _ _ (by decide)).trans h.s3
      s4 := (gt_ne _ _ _ _ _ (by decide)).trans h.s4
      c25_0 := fun q => (upd_ne f (by decide)).trans (h.c25_0 ((upd_ne f (by decide)).symm.trans q))
      c26_25 := fun q => (upd_ne f (by decide)).trans (h.c26_25 ((upd_ne f (by decide)).symm.trans q))
      c6_5 := fun q => (upd_ne f (by decide)).trans (h.c6_5 ((upd_ne f (by decide)).symm.trans q))
      c7_6 := fun q => (upd_ne f (by decide)).trans (h.c7_6 ((upd_ne f (by decide)).symm.trans q))
      c9_8 := fun q => (upd_ne f (by decide)).trans (h.c9_8 ((upd_ne f (by decide)).symm.trans q))
      c10_9 := fun q => (upd_ne f (by decide)).trans (h.c10_9 ((upd_ne f (by decide)).symm.trans q))
      c4_0 := fun q => (upd_ne f (by decide)).trans (h.c4_0 ((upd_ne f (by decide)).symm.trans q))
      c7_0 := fun q => (upd_ne f (by decide)).trans (h.c7_0 ((upd_ne f (by decide)).symm.trans q))
      c10_0 := fun q => (upd_ne f (by decide)).trans (h.c10_0 ((upd_ne f (by decide)).symm.trans q))
      c13_0 := fun q => (upd_ne f (by decide)).trans (h.c13_0 ((upd_ne f (by decide)).symm.trans q))
      c16_0 := fun q => (upd_ne f (by decide)).trans (h.c16_0 ((upd_ne f (by decide)).symm.trans q))
      c20_0 := fun q => (upd_ne f (by decide)).trans (h.c20_0 ((upd_ne f (by decide)).symm.trans q))
      c24_0 := fun q => (upd_ne f (by decide)).trans (h.c24_0 ((upd_ne f (by decide)).symm.trans q))
      v1 := fun q => (gt_ne _ _ _ _ _ (by decide)).trans (h.v1 ((upd_ne f (by decide)).symm.trans q))
      v2 := fun q => (gt_ne _ _ _ _ _ (by decide)).trans (h.v2 ((upd_ne f (by decide)).symm.trans q))
      v3 := fun q => (gt_ne _ _ _ _ _ (by decide)).trans (h.v3 ((upd_ne f (by decide)).symm.trans q))
      v6 := fun q => (gt_ne _ _ _ _ _ (by decide)).trans (h.v6 ((upd_ne f (by decide)).symm.trans q))
      v9 := fun q => (gt_ne _ _ _ _ _ (by decide)).trans (h.v9 ((upd_ne f (by decide)).symm.trans q))
      v11 := fun q => (gt_ne _ _ _ _ _ (by decide)).trans (h.v11 ((upd_ne f (by decide)).symm.trans q))
      v12 := fun q => (gt_ne _ _ _ _ _ (by decide)).trans (h.v12 ((upd_ne f (by decide)).symm.trans q))
      v14 := fun q => (gt_ne _ _ _ _ _ (by decide)).trans (h.v14 ((upd_ne f (by decide)).symm.trans q))
      v15 := fun q => (gt_ne _ _ _ _ _ (by decide)).trans (h.v15 ((upd_ne f (by decide)).symm.trans q))
      v17 := fun q => (gt_ne _ _ _ _ _ (by decide)).trans (h.v17 ((upd_ne f (by decide)).symm.trans q))
      v18 := fun _ => gt_eq _ _ _ _ (by rw [h.sz]; decide)
      v19 := fun q => (gt_ne _ _ _ _ _ (by decide)).trans (h.v19 ((upd_ne f (by decide)).symm.trans q))
      v21 := fun q => (gt_ne _ _ _ _ _ (by decide)).trans (h.v21 ((upd_ne f (by decide)).symm.trans q))
      v22 := fun q => (gt_ne _ _ _ _ _ (by decide)).trans (h.v22 ((upd_ne f (by decide)).symm.trans q))
      v23 := fun q => (gt_ne _ _ _ _ _ (by decide)).trans (h.v23 ((upd_ne f (by decide)).symm.trans q))
      v25 := fun q => (gt_ne _ _ _ _ _ (by decide)).trans (h.v25 ((upd_ne f (by decide)).symm.trans q))
      v26 := fun q => (gt_ne _ _ _ _ _ (by decide)).trans (h.v26 ((upd_ne f (by decide)).symm.trans q))
      v5 := fun q => ⟨(gt_ne _ _ _ _ _ (by decide)).trans (h.v5 ((upd_ne f (by decide)).symm.trans q)).1, (h.v5 ((upd_ne f (by decide)).symm.trans q)).2⟩
      v8 := fun q => ⟨(gt_ne _ _ _ _ _ (by decide)).trans (h.v8 ((upd_ne f (by decide)).symm.trans q)).1, (h.v8 ((upd_ne f (by decide)).symm.trans q)).2⟩
      v0 := fun q => by
        obtain ⟨q1, q2, es, n, q3, q4⟩ := h.v0 ((upd_ne f (by decide)).symm.trans q)
        refine ⟨(gt_ne _ _ _ _ _ (by decide)).trans q1, q2, es, n, q3, ?_⟩
        rw [upd_ne f (show 4 ≠ 18 by decide), upd_ne f (show 7 ≠ 18 by decide), upd_ne f (show 10 ≠ 18 by decide), upd_ne f (show 13 ≠ 18 by decide), upd_ne f (show 16 ≠ 18 by decide), upd_ne f (show 20 ≠ 18 by decide), upd_ne f (show 24 ≠ 18 by decide)]
        exact q4
      hE := h.hE
      hR := h.hR
      hb := h.hb }
theorem shp_19 {W w : World} {aE r0 m b c : Nat} {f : Nat → Bool} {a : Act} {k : Int} {K : Act → World → Prop} {Q : Exit → Act → World → Prop} (o : Oper) (hop : o.op = .build 104 #[(0, .tmp 22)]) (hd : o.dst = some 23) (h : SR W w aE r0 m b c f a k) (hf : f 19 = false) (d18 : f 18 = true)
    (hK : ∀ a' w', (∃ m b c, SR W w' aE r0 m b c (upd f 19) a' k) → K a' w') : o.wp Try.prog a w K Q := by
  have e := h.v18 d18
  unfold Oper.wp
  simp [execOp, hop, hd, e, go_sem]
  refine hK _ _ ⟨m, b, c, ?_⟩
  exact {
      sz := by rw [Array.size_setIfInBounds]; exact h.sz
      df := h.df
      s0 := (gt_ne _ _ _ _ _ (by decide)).trans h.s0
      s2 := (gt_ne _ _ _ _ _ (by decide)).trans h.s2
      s3 := (gt_ne _ _ _ _ _ (by decide)).trans h.s3
      s4 := (gt_ne _ _ _ _ _ (by decide)).trans h.s4
      c25_0 := fun q => (upd_ne f (by decide)).trans (h.c25_0 ((upd_ne f (by decide)).symm.trans q))
      c26_25 := fun q => (upd_ne f (by decide)).trans (h.c26_25 ((upd_ne f (by decide)).symm.trans q))
      c6_5 := fun q => (upd_ne f (by decide)).trans (h.c6_5 ((upd_ne f (by decide)).symm.trans q))
      c7_6 := fun q => (upd_ne f (by decide)).trans (h.c7_6 ((upd_ne f (by decide)).symm.trans q))
      c9_8 := fun q => (upd_ne f (by decide)).trans (h.c9_8 ((upd_ne f (by decide)).symm.trans q))
      c10_9 := fun q => (upd_ne f (by decide)).trans (h.c10_9 ((upd_ne f (by decide)).symm.trans q))
      c4_0 := fun q => (upd_ne f (by decide)).trans (h.c4_0 ((upd_ne f (by decide)).symm.trans q))
      c7_0 := fun q => (upd_ne f (by decide)).trans (h.c7_0 ((upd_ne f (by decide)).symm.trans q))
      c10_0 := fun q => (upd_ne f (by decide)).trans (h.c10_0 ((upd_ne f (by decide)).symm.trans q))
      c13_0 := fun q => (upd_ne f (by decide)).trans (h.c13_0 ((upd_ne f (by decide)).symm.trans q))
      c16_0 := fun q => (upd_ne f (by decide)).trans (h.c16_0 ((upd_ne f (by decide)).symm.trans q))
      c20_0 := fun q => (upd_ne f (by decide)).trans (h.c20_0 ((upd_ne f (by decide)).symm.trans q))
      c24_0 := fun q => (upd_ne f (by decide)).trans (h.c24_0 ((upd_ne f (by decide)).symm.trans q))
      v1 := fun q => (gt_ne _ _ _ _ _ (by decide)).trans (h.v1 ((upd_ne f (by decide)).symm.trans q))
      v2 := fun q => (gt_ne _ _ _ _ _ (by decide)).trans (h.v2 ((upd_ne f (by decide)).symm.trans q))
      v3 := fun q => (gt_ne _ _ _ _ _ (by decide)).trans (h.v3 ((upd_ne f (by decide)).symm.trans q))
      v6 := fun q => (gt_ne _ _ _ _ _ (by decide)).trans (h.v6 ((upd_ne f (by decide)).symm.trans q))
      v9 := fun q => (gt_ne _ _ _ _ _ (by decide)).trans (h.v9 ((upd_ne f (by decide)).symm.trans q))
      v11 := fun q => (gt_ne _ _ _ _ _ (by decide)).trans (h.v11 ((upd_ne f (by decide)).symm.trans q))
      v12 := fun q => (gt_ne _ _ _ _ _ (by decide)).trans (h.v12 ((upd_ne f (by decide)).symm.trans q))
      v14 := fun q => (gt_ne _ _ _ _ _ (by decide)).trans (h.v14 ((upd_ne f (by decide)).symm.trans q))
      v15 := fun q => (gt_ne _ _ _ _ _ (by decide)).trans (h.v15 ((upd_ne f (by decide)).symm.trans q))
      v17 := fun q => (gt_ne _ _ _ _ _ (by decide)).trans (h.v17 ((upd_ne f (by decide)).symm.trans q))
      v18 := fun q => (gt_ne _ _ _ _ _ (by decide)).trans (h.v18 ((upd_ne f (by decide)).symm.trans q))
      v19 := fun _ => gt_eq _ _ _ _ (by rw [h.sz]; decide)
      v21 := fun q => (gt_ne _ _ _ _ _ (by decide)).trans (h.v21 ((upd_ne f (by decide)).symm.trans q))
      v22 := fun q => (gt_ne _ _ _ _ _ (by decide)).trans (h.v22 ((upd_ne f (by decide)).symm.trans q))
      v23 := fun q => (gt_ne _ _ _ _ _ (by decide)).trans (h.v23 ((upd_ne f (by decide)).symm.trans q))
      v25 := fun q => (gt_ne _ _ _ _ _ (by decide)).trans (h.v25 ((upd_ne f (by decide)).symm.trans q))
      v26 := fun q => (gt_ne _ _ _ _ _ (by decide)).trans (h.v26 ((upd_ne f (by decide)).symm.trans q))
      v5 := fun q => ⟨(gt_ne _ _ _ _ _ (by decide)).trans (h.v5 ((upd_ne f (by decide)).symm.trans q)).1, (h.v5 ((upd_ne f (by decide)).symm.trans q)).2⟩
      v8 := fun q => ⟨(gt_ne _ _ _ _ _ (by decide)).trans (h.v8 ((upd_ne f (by decide)).symm.trans q)).1, (h.v8 ((upd_ne f (by decide)).symm.trans q)).2⟩
      v0 := fun q => by
        obtain ⟨q1, q2, es, n, q3, q4⟩ := h.v0 ((upd_ne f (by decide)).symm.trans q)
        refine ⟨(gt_ne _ _ _ _ _ (by decide)).trans q1, q2, es, n, q3, ?_⟩
        rw [upd_ne f (show 4 ≠ 19 by decide), upd_ne f (show 7 ≠ 19 by decide), upd_ne f (show 10 ≠ 19 by decide), upd_ne f (show 13 ≠ 19 by decide), upd_ne f (show 16 ≠ 19 by decide), upd_ne f (show 20 ≠ 19 by decide), upd_ne f (show 24 ≠ 19 by decide)]
        exact q4
      hE := h.hE
      hR := h.hR
      hb := h.hb }
theorem shp_20 {W w : World} {aE r0 m b c : Nat} {f : Nat → Bool} {a : Act} {k : Int} {K : Act → World → Prop} {Q : Exit → Act → World → Prop} (o : Oper) (hop : o.op = .insert 132 (.tmp 9) (.const (.int .i64 6)) (.tmp 23)) (hd : o.dst = none) (h : SR W w aE r0 m b c f a k) (hf : f 20 = false) (d0 : f 0 = true) (d19 : f 19 = true)
    (hK : ∀ a' w', (∃ m b c, SR W w' aE r0 m b c (upd f 20) a' k) → K a' w') : o.wp Try.prog a w K Q := by
  have e2 := h.v19 d19
  obtain ⟨e, hm0, es, n, hm, ht⟩ := h.v0 d0
  rw [hf] at ht
  have hr := run_ins 132 3 104 w m n es 6 (.agg #[.slice (some ⟨aE, 1, none⟩) 4 4, .int .i64 0, .bool false, .bool false, .bool false]) Try.underlying132 Try.underlying3 hm (ht.n6 rfl)
  unfold Oper.wp
  simp [execOp, hop, hd, e, e2, hr, go_sem]
  refine hK _ _ ⟨m, b, c, ?_⟩
  exact {
      sz := h.sz
      df := h.df
      s0 := h.s0
      s2 := h.s2
      s3 := h.s3
      s4 := h.s4
      c25_0 := fun q => (upd_ne f (by decide)).trans (h.c25_0 ((upd_ne f (by decide)).symm.trans q))
      c26_25 := fun q => (upd_ne f (by decide)).trans (h.c26_25 ((upd_ne f (by decide)).symm.trans q))
      c6_5 := fun q => (upd_ne f (by decide)).trans (h.c6_5 ((upd_ne f (by decide)).symm.trans q))
      c7_6 := fun q => (upd_ne f (by decide)).trans (h.c7_6 ((upd_ne f (by decide)).symm.trans q))
      c9_8 := fun q => (upd_ne f (by decide)).trans (h.c9_8 ((upd_ne f (by decide)).symm.trans q))
      c10_9 := fun q => (upd_ne f (by decide)).trans (h.c10_9 ((upd_ne f (by decide)).symm.trans q))
      c4_0 := fun q => (upd_ne f (by decide)).trans (h.c4_0 ((upd_ne f (by decide)).symm.trans q))
      c7_0 := fun q => (upd_ne f (by decide)).trans (h.c7_0 ((upd_ne f (by decide)).symm.trans q))
      c10_0 := fun q => (upd_ne f (by decide)).trans (h.c10_0 ((upd_ne f (by decide)).symm.trans q))
      c13_0 := fun q => (upd_ne f (by decide)).trans (h.c13_0 ((upd_ne f (by decide)).symm.trans q))
      c16_0 := fun q => (upd_ne f (by decide)).trans (h.c16_0 ((upd_ne f (by decide)).symm.trans q))
      c20_0 := fun _ => (upd_ne f (by decide)).trans d0
      c24_0 := fun q => (upd_ne f (by decide)).trans (h.c24_0 ((upd_ne f (by decide)).symm.trans q))
      v1 := fun q => h.v1 ((upd_ne f (by decide)).symm.trans q)
      v2 := fun q => h.v2 ((upd_ne f (by decide)).symm.trans q)
      v3 := fun q => h.v3 ((upd_ne f (by decide)).symm.trans q)
      v6 := fun q => h.v6 ((upd_ne f (by decide)).symm.trans q)
      v9 := fun q => h.v9 ((upd_ne f (by decide)).symm.trans q)
      v11 := fun q => h.v11 ((upd_ne f (by decide)).symm.trans q)
      v12 := fun q => h.v12 ((upd_ne f (by decide)).symm.trans q)
      v14 := fun q => h.v14 ((upd_ne f (by decide)).symm.trans q)
      v15 := fun q => h.v15 ((upd_ne f (by decide)).symm.trans q)
      v17 := fun q => h.v17 ((upd_ne f (by decide)).symm.trans q)
      v18 := fun q => h.v18 ((upd_ne f (by decide)).symm.trans q)
      v19 := fun q => h.v19 ((upd_ne f (by decide)).symm.trans q)
      v21 := fun q => h.v21 ((upd_ne f (by decide)).symm.trans q)
      v22 := fun q => h.v22 ((upd_ne f (by decide)).symm.trans q)
      v23 := fun q => h.v23 ((upd_ne f (by decide)).symm.trans q)
      v25 := fun q => h.v25 ((upd_ne f (by decide)).symm.trans q)
      v26 := fun q => h.v26 ((upd_ne f (by decide)).symm.trans q)
      v5 := fun q => ⟨(h.v5 ((upd_ne f (by decide)).symm.trans q)).1, heap_mput ((h.v5 ((upd_ne f (by decide)).symm.trans q)).2) hm _ _⟩
      v8 := fun q => ⟨(h.v8 ((upd_ne f (by decide)).symm.trans q)).1, heap_mput ((h.v8 ((upd_ne f (by decide)).symm.trans q)).2) hm _ _⟩
      v0 := fun q => by
        refine ⟨e, hm0, _, _, mput_at w m _ _ (blk_lt hm), ?_⟩
        rw [upd_eq f 20]
        rw [upd_ne f (show 4 ≠ 20 by decide), upd_ne f (show 7 ≠ 20 by decide), upd_ne f (show 10 ≠ 20 by decide), upd_ne f (show 13 ≠ 20 by decide), upd_ne f (show 16 ≠ 20 by decide), upd_ne f (show 24 ≠ 20 by decide)]
        exact ht.ins6 n
      hE := heap_mput (h.hE) hm _ _
      hR := heap_mput (h.hR) hm _ _
      hb := mput_below h.hb _ _ _ hm0 }
theorem shp_21 {W w : World} {aE r0 m b c : Nat} {f : Nat → Bool} {a : Act} {k : Int} {K : Act → World → Prop} {Q : Exit → Act → World → Prop} (o : Oper) (hop : o.op = .move (.tmp 4)) (hd : o.dst = some 24) (h : SR W w aE r0 m b c f a k) (hf : f 21 = false)
    (hK : ∀ a' w', (∃ m b c, SR W w' aE r0 m b c (upd f 21) a' k) → K a' w') : o.wp Try.prog a w K Q := by
  have e := h.s4
  unfold Oper.wp
  simp [execOp, hop, hd, e, go_sem]
  refine hK _ _ ⟨m, b, c, ?_⟩
  exact {
      sz := by rw [Array.size_setIfInBounds]; exact h.sz
      df := h.df
      s0 := (gt_ne _ _ _ _ _ (by decide)).trans h.s0
      s2 := (gt_ne _ _ _ _ _ (by decide)).trans h.s2
      s3 := (gt_ne _ _ _ _ _ (by decide)).trans h.s3
      s4 := (gt_ne _ _ _ _ _ (by decide)).trans h.s4
      c25_0 := fun q => (upd_ne f (by decide)).trans (h.c25_0 ((upd_ne f (by decide)).symm.trans q))
      c26_25 := fun q => (upd_ne f (by decide)).trans (h.c26_25 ((upd_ne f (by decide)).symm.trans q))
      c6_5 := fun q => (upd_ne f (by decide)).trans (h.c6_5 ((upd_ne f (by decide)).symm.trans q))
      c7_6 := fun q => (upd_ne f (by decide)).trans (h.c7_6 ((upd_ne f (by decide)).symm.trans q))
      c9_8 := fun q => (upd_ne f (by decide)).trans (h.c9_8 ((upd_ne f (by decide)).symm.trans q))
      c10_9 := fun q => (upd_ne f (by decide)).trans (h.c10_9 ((upd_ne f (by decide)).symm.trans q))
      c4_0 := fun q => (upd_ne f (by decide)).trans (h.c4_0 ((upd_ne f (by decide)).symm.trans q))
      c7_0 := fun q => (upd_ne f (by decide)).trans (h.c7_0 ((upd_ne f (by decide)).symm.trans q))
      c10_0 := fun q => (upd_ne f (by decide)).trans (h.c10_0 ((upd_ne f (by decide)).symm.trans q))
      c13_0 := fun q => (upd_ne f (by decide)).trans (h.c13_0 ((upd_ne f (by decide)).symm.trans q))
      c16_0 := fun q => (upd_ne f (by decide)).trans (h.c16_0 ((upd_ne f (by decide)).symm.trans q))
      c20_0 := fun q => (upd_ne f (by decide)).trans (h.c20_0 ((upd_ne f (by decide)).symm.trans q))
      c24_0 := fun q => (upd_ne f (by decide)).trans (h.c24_0 ((upd_ne f (by decide)).symm.trans q))
      v1 := fun q => (gt_ne _ _ _ _ _ (by decide)).trans (h.v1 ((upd_ne f (by decide)).symm.trans q))
      v2 := fun q => (gt_ne _ _ _ _ _ (by decide)).trans (h.v2 ((upd_ne f (by decide)).symm.trans q))
      v3 := fun q => (gt_ne _ _ _ _ _ (by decide)).trans (h.v3 ((upd_ne f (by decide)).symm.trans q))
      v6 := fun q => (gt_ne _ _ _ _ _ (by decide)).trans (h.v6 ((upd_ne f (by decide)).symm.trans q))
      v9 := fun q => (gt_ne _ _ _ _ _ (by decide)).trans (h.v9 ((upd_ne f (by decide)).symm.trans q))
      v11 := fun q => (gt_ne _ _ _ _ _ (by decide)).trans (h.v11 ((upd_ne f (by decide)).symm.trans q))
      v12 := fun q => (gt_ne _ _ _ _ _ (by decide)).trans (h.v12 ((upd_ne f (by decide)).symm.trans q))
      v14 := fun q => (gt_ne _ _ _ _ _ (by decide)).trans (h.v14 ((upd_ne f (by decide)).symm.trans q))
      v15 := fun q => (gt_ne _ _ _ _ _ (by decide)).trans (h.v15 ((upd_ne f (by decide)).symm.trans q))
      v17 := fun q => (gt_ne _ _ _ _ _ (by decide)).trans (h.v17 ((upd_ne f (by decide)).symm.trans q))
      v18 := fun q => (gt_ne _ _ _ _ _ (by decide)).trans (h.v18 ((upd_ne f (by decide)).symm.trans q))
      v19 := fun q => (gt_ne _ _ _ _ _ (by decide)).trans (h.v19 ((upd_ne f (by decide)).symm.trans q))
      v21 := fun _ => gt_eq _ _ _ _ (by rw [h.sz]; decide)
      v22 := fun q => (gt_ne _ _ _ _ _ (by decide)).trans (h.v22 ((upd_ne f (by decide)).symm.trans q))
      v23 := fun q => (gt_ne _ _ _ _ _ (by decide)).trans (h.v23 ((upd_ne f (by decide)).symm.trans q))
      v25 := fun q => (gt_ne _ _ _ _ _ (by decide)).trans (h.v25 ((upd_ne f (by decide)).symm.trans q))
      v26 := fun q => (gt_ne _ _ _ _ _ (by decide)).trans (h.v26 ((upd_ne f (by decide)).symm.trans q))
      v5 := fun q => ⟨(gt_ne _ _ _ _ _ (by decide)).trans (h.v5 ((upd_ne f (by decide)).symm.trans q)).1, (h.v5 ((upd_ne f (by decide)).symm.trans q)).2⟩
      v8 := fun q => ⟨(gt_ne _ _ _ _ _ (by decide)).trans (h.v8 ((upd_ne f (by decide)).symm.trans q)).1, (h.v8 ((upd_ne f (by decide)).symm.trans q)).2⟩
      v0 := fun q => by
        obtain ⟨q1, q2, es, n, q3, q4⟩ := h.v0 ((upd_ne f (by decide)).symm.trans q)
        refine ⟨(gt_ne _ _ _ _ _ (by decide)).trans q1, q2, es, n, q3, ?_⟩
        rw [upd_ne f (show 4 ≠ 21 by decide), upd_ne f (show 7 ≠ 21 by decide), upd_ne f (show 10 ≠ 21 by decide), upd_ne f (show 13 ≠ 21 by decide), upd_ne f (show 16 ≠ 21 by decide), upd_ne f (show 20 ≠ 21 by decide), upd_ne f (show 24 ≠ 21 by decide)]
        exact q4
      hE := h.hE
      hR := h.hR
      hb := h.hb }
theorem shp_22 {W w : World} {aE r0 m b c : Nat} {f : Nat → Bool} {a : Act} {k : Int} {K : Act → World → Prop} {Q : Exit → Act → World → Prop} (o : Oper) (hop : o.op = .slice 39 (.tmp 24) none (some (.const (.int .i64 1))) none) (hd : o.dst = some 25) (h : SR W w aE r0 m b c f a k) (hf : f 22 = false) (d21 : f 21 = true)
    (hK : ∀ a' w', (∃ m b c, SR W w' aE r0 m b c (upd f 22) a' k) → K a' w') : o.wp Try.prog a w K Q := by
  have e := h.v21 d21
  have hs := slice_head 39 3 1 8 _ Try.underlying39 infoInt (some ⟨aE, 0, none⟩) 5 5 1 (by decide) w
  unfold Oper.wp
  simp [execOp, hop, hd, e, hs, go_sem]
  refine hK _ _ ⟨m, b, c, ?_⟩
  exact {
      sz := by rw [Array.size_setIfInBounds]; exact h.sz
      df := h.df
      s0 := (gt_ne _ _ _ _ _ (by decide)).trans h.s0
      s2 := (gt_ne _ _ _ _ _ (by decide)).trans h.s2
      s3 := (gt_ne _ _ _ _ _ (by decide)).trans h.s3
      s4 := (gt_ne _ _ _ _ _ (by decide)).trans h.s4
      c25_0 := fun q => (upd_ne f (by decide)).trans (h.c25_0 ((upd_ne f (by decide)).symm.trans q))
      c26_25 := fun q => (upd_ne f (by decide)).trans (h.c26_25 ((upd_ne f (by decide)).symm.trans q))
      c6_5 := fun q => (upd_ne f (by decide)).trans (h.c6_5 ((upd_ne f (by decide)).symm.trans q))
      c7_6 := fun q => (upd_ne f (by decide)).trans (h.c7_6 ((upd_ne f (by decide)).symm.trans q))
      c9_8 := fun q => (upd_ne f (by decide)).trans (h.c9_8 ((upd_ne f (by decide)).symm.trans q))
      c10_9 := fun q => (upd_ne f (by decide)).trans (h.c10_9 ((upd_ne f (by decide)).symm.trans q))
      c4_0 := fun q => (upd_ne f (by decide)).trans (h.c4_0 ((upd_ne f (by decide)).symm.trans q))
      c7_0 := fun q => (upd_ne f (by decide)).trans (h.c7_0 ((upd_ne f (by decide)).symm.trans q))
      c10_0 := fun q => (upd_ne f (by decide)).trans (h.c10_0 ((upd_ne f (by decide)).symm.trans q))
      c13_0 := fun q => (upd_ne f (by decide)).trans (h.c13_0 ((upd_ne f (by decide)).symm.trans q))
      c16_0 := fun q => (upd_ne f (by decide)).trans (h.c16_0 ((upd_ne f (by decide)).symm.trans q))
      c20_0 := fun q => (upd_ne f (by decide)).trans (h.c20_0 ((upd_ne f (by decide)).symm.trans q))
      c24_0 := fun q => (upd_ne f (by decide)).trans (h.c24_0 ((upd_ne f (by decide)).symm.trans q))
      v1 := fun q => (gt_ne _ _ _ _ _ (by decide)).trans (h.v1 ((upd_ne f (by decide)).symm.trans q))
      v2 := fun q => (gt_ne _ _ _ _ _ (by decide)).trans (h.v2 ((upd_ne f (by decide)).symm.trans q))
      v3 := fun q => (gt_ne _ _ _ _ _ (by decide)).trans (h.v3 ((upd_ne f (by decide)).symm.trans q))
      v6 := fun q => (gt_ne _ _ _ _ _ (by decide)).trans (h.v6 ((upd_ne f (by decide)).symm.trans q))
      v9 := fun q => (gt_ne _ _ _ _ _ (by decide)).trans (h.v9 ((upd_ne f (by decide)).symm.trans q))
      v11 := fun q => (gt_ne _ _ _ _ _ (by decide)).trans (h.v11 ((upd_ne f (by decide)).symm.trans q))
      v12 := fun q => (gt_ne _ _ _ _ _ (by decide)).trans (h.v12 ((upd_ne f (by decide)).symm.trans q))
      v14 := fun q => (gt_ne _ _ _ _ _ (by decide)).trans (h.v14 ((upd_ne f (by decide)).symm.trans q))
      v15 := fun q => (gt_ne _ _ _ _ _ (by decide)).trans (h.v15 ((upd_ne f (by decide)).symm.trans q))
      v17 := fun q => (gt_ne _ _ _ _ _ (by decide)).trans (h.v17 ((upd_ne f (by decide)).symm.trans q))
      v18 := fun q => (gt_ne _ _ _ _ _ (by decide)).trans (h.v18 ((upd_ne f (by decide)).symm.trans q))
      v19 := fun q => (gt_ne _ _ _ _ _ (by decide)).trans (h.v19 ((upd_ne f (by decide)).symm.trans q))
      v21 := fun q => (gt_ne _ _ _ _ _ (by decide)).trans (h.v21 ((upd_ne f (by decide)).symm.trans q))
      v22 := fun _ => gt_eq _ _ _ _ (by rw [h.sz]; decide)
      v23 := fun q => (gt_ne _ _ _ _ _ (by decide)).trans (h.v23 ((upd_ne f (by decide)).symm.trans q))
      v25 := fun q => (gt_ne _ _ _ _ _ (by decide)).trans (h.v25 ((upd_ne f (by decide)).symm.trans q))
      v26 := fun q => (gt_ne _ _ _ _ _ (by decide)).trans (h.v26 ((upd_ne f (by decide)).symm.trans q))
      v5 := fun q => ⟨(gt_ne _ _ _ _ _ (by decide)).trans (h.v5 ((upd_ne f (by decide)).symm.trans q)).1, (h.v5 ((upd_ne f (by decide)).symm.trans q)).2⟩
      v8 := fun q => ⟨(gt_ne _ _ _ _ _ (by decide)).trans (h.v8 ((upd_ne f (by decide)).symm.trans q)).1, (h.v8 ((upd_ne f (by decide)).symm.trans q)).2⟩
      v0 := fun q => by
        obtain ⟨q1, q2, es, n, q3, q4⟩ := h.v0 ((upd_ne f (by decide)).symm.trans q)
        refine ⟨(gt_ne _ _ _ _ _ (by decide)).trans q1, q2, es, n, q3, ?_⟩
        rw [upd_ne f (show 4 ≠ 22 by decide), upd_ne f (show 7 ≠ 22 by decide), upd_ne f (show 10 ≠ 22 by decide), upd_ne f (show 13 ≠ 22 by decide), upd_ne f (show 16 ≠ 22 by decide), upd_ne f (show 20 ≠ 22 by decide), upd_ne f (show 24 ≠ 22 by decide)]
        exact q4
      hE := h.hE
      hR := h.hR
      hb := h.hb }
theorem shp_23 {W w : World} {aE r0 m b c : Nat} {f : Nat → Bool} {a : Act} {k : Int} {K : Act → World → Prop} {Q : Exit → Act → World → Prop} (o : Oper) (hop : o.op = .build 104 #[(0, .tmp 25), (1, .const (.int .i64 1)), (4, .const (.bool true))]) (hd : o.dst = some 26) (h : SR W w aE r0 m b c f a k) (hf : f 23 = false) (d22 : f 22 = true)
    (hK : ∀ a' w', (∃ m b c, SR W w' aE r0 m b c (upd f 23) a' k) → K a' w') : o.wp Try.prog a w K Q := by
  have e := h.v22 d22
  unfold Oper.wp
  simp [execOp, hop, hd, e, go_sem]
  refine hK _ _ ⟨m, b, c, ?_⟩
  exact {
      sz := by rw [Array.size_setIfInBounds]; exact h.sz
      df := h.df
      s0 := (gt_ne _ _ _ _ _ (by decide)).trans h.s0
      s2 := (gt_ne _ _ _ _ _ (by decide)).trans h.s2
      s3 := (gt_ne _ _ _ _ _ (by decide)).trans h.s3
      s4 := (gt_ne _ _ _ _ _ (by decide)).trans h.s4
      c25_0 := fun q => (upd_ne f (by decide)).trans (h.c25_0 ((upd_ne f (by decide)).symm.trans q))
      c26_25 := fun q => (upd_ne f (by decide)).trans (h.c26_25 ((upd_ne f (by decide)).symm.trans q))
      c6_5 := fun q => (upd_ne f (by decide)).trans (h.c6_5 ((upd_ne f (by decide)).symm.trans q))
      c7_6 := fun q => (upd_ne f (by decide)).trans (h.c7_6 ((upd_ne f (by decide)).symm.trans q))
      c9_8 := fun q => (upd_ne f (by decide)).trans (h.c9_8 ((upd_ne f (by decide)).symm.trans q))
      c10_9 := fun q => (upd_ne f (by decide)).trans (h.c10_9 ((upd_ne f (by decide)).symm.trans q))
      c4_0 := fun q => (upd_ne f (by decide)).trans (h.c4_0 ((upd_ne f (by decide)).symm.trans q))
      c7_0 := fun q => (upd_ne f (by decide)).trans (h.c7_0 ((upd_ne f (by decide)).symm.trans q))
      c10_0 := fun q => (upd_ne f (by decide)).trans (h.c10_0 ((upd_ne f (by decide)).symm.trans q))
      c13_0 := fun q => (upd_ne f (by decide)).trans (h.c13_0 ((upd_ne f (by decide)).symm.trans q))
      c16_0 := fun q => (upd_ne f (by decide)).trans (h.c16_0 ((upd_ne f (by decide)).symm.trans q))
      c20_0 := fun q => (upd_ne f (by decide)).trans (h.c20_0 ((upd_ne f (by decide)).symm.trans q))
      c24_0 := fun q => (upd_ne f (by decide)).trans (h.c24_0 ((upd_ne f (by decide)).symm.trans q))
      v1 := fun q => (gt_ne _ _ _ _ _ (by decide)).trans (h.v1 ((upd_ne f (by decide)).symm.trans q))
      v2 := fun q => (gt_ne _ _ _ _ _ (by decide)).trans (h.v2 ((upd_ne f (by decide)).symm.trans q))
      v3 := fun q => (gt_ne _ _ _ _ _ (by decide)).trans (h.v3 ((upd_ne f (by decide)).symm.trans q))
      v6 := fun q => (gt_ne _ _ _ _ _ (by decide)).trans (h.v6 ((upd_ne f (by decide)).symm.trans q))
      v9 := fun q => (gt_ne _ _ _ _ _ (by decide)).trans (h.v9 ((upd_ne f (by decide)).symm.trans q))
      v11 := fun q => (gt_ne _ _ _ _ _ (by decide)).trans (h.v11 ((upd_ne f (by decide)).symm.trans q))
      v12 := fun q => (gt_ne _ _ _ _ _ (by decide)).trans (h.v12 ((upd_ne f (by decide)).symm.trans q))
      v14 := fun q => (gt_ne _ _ _ _ _ (by decide)).trans (h.v14 ((upd_ne f (by decide)).symm.trans q))
      v15 := fun q => (gt_ne _ _ _ _ _ (by decide)).trans (h.v15 ((upd_ne f (by decide)).symm.trans q))
      v17 := fun q => (gt_ne _ _ _ _ _ (by decide)).trans (h.v17 ((upd_ne f (by decide)).symm.trans q))
      v18 := fun q => (gt_ne _ _ _ _ _ (by decide)).trans (h.v18 ((upd_ne f (by decide)).symm.trans q))
      v19 := fun q => (gt_ne _ _ _ _ _ (by decide)).trans (h.v19 ((upd_ne f (by decide)).symm.trans q))
      v21 := fun q => (gt_ne _ _ _ _ _ (by decide)).trans (h.v21 ((upd_ne f (by decide)).symm.trans q))
      v22 := fun q => (gt_ne _ _ _ _ _ (by decide)).trans (h.v22 ((upd_ne f (by decide)).symm.trans q))
      v23 := fun _ => gt_eq _ _ _ _ (by rw [h.sz]; decide)
      v25 := fun q => (gt_ne _ _ _ _ _ (by decide)).trans (h.v25 ((upd_ne f (by decide)).symm.trans q))
      v26 := fun q => (gt_ne _ _ _ _ _ (by decide)).trans (h.v26 ((upd_ne f (by decide)).symm.trans q))
      v5 := fun q => ⟨(gt_ne _ _ _ _ _ (by decide)).trans (h.v5 ((upd_ne f (by decide)).symm.trans q)).1, (h.v5 ((upd_ne f (by decide)).symm.trans q)).2⟩
      v8 := fun q => ⟨(gt_ne _ _ _ _ _ (by decide)).trans (h.v8 ((upd_ne f (by decide)).symm.trans q)).1, (h.v8 ((upd_ne f (by decide)).symm.trans q)).2⟩
      v0 := fun q => by
        obtain ⟨q1, q2, es, n, q3, q4⟩ := h.v0 ((upd_ne f (by decide)).symm.trans q)
        refine ⟨(gt_ne _ _ _ _ _ (by decide)).trans q1, q2, es, n, q3, ?_⟩
        rw [upd_ne f (show 4 ≠ 23 by decide), upd_ne f (show 7 ≠ 23 by decide), upd_ne f (show 10 ≠ 23 by decide), upd_ne f (show 13 ≠ 23 by decide), upd_ne f (show 16 ≠ 23 by decide), upd_ne f (show 20 ≠ 23 by decide), upd_ne f (show 24 ≠ 23 by decide)]
        exact q4
      hE := h.hE
      hR := h.hR
      hb := h.hb }
theorem shp_24 {W w : World} {aE r0 m b c : Nat} {f : Nat → Bool} {a : Act} {k : Int} {K : Act → World → Prop} {Q : Exit → Act → World → Prop} (o : Oper) (hop : o.op = .insert 132 (.tmp 9) (.const (.int .i64 7)) (.tmp 26)) (hd : o.dst = none) (h : SR W w aE r0 m b c f a k) (hf : f 24 = false) (d0 : f 0 = true) (d23 : f 23 = true)
    (hK : ∀ a' w', (∃ m b c, SR W w' aE r0 m b c (upd f 24) a' k) → K a' w') : o.wp Try.prog a w K Q := by
  have e2 := h.v23 d23
  obtain ⟨e, hm0, es, n, hm, ht⟩ := h.v0 d0
  rw [hf] at ht
  have hr := run_ins 132 3 104 w m n es 7 (.agg #[.slice (some ⟨aE, 0, none⟩) 1 5, .int .i64 1, .bool false, .bool false, .bool true]) Try.underlying132 Try.underlying3 hm (ht.n7 rfl)
  unfold Oper.wp
  simp [execOp, hop, hd, e, e2, hr, go_sem]
  refine hK _ _ ⟨m, b, c, ?_⟩
  exact {
      sz := h.sz
      df := h.df
      s0 := h.s0
      s2 := h.s2
      s3 := h.s3
      s4 := h.s4
      c25_0 := fun q => (upd_ne f (by decide)).trans (h.c25_0 ((upd_ne f (by decide)).symm.trans q))
      c26_25 := fun q => (upd_ne f (by decide)).trans (h.c26_25 ((upd_ne f (by decide)).symm.trans q))
      c6_5 := fun q => (upd_ne f (by decide)).trans (h.c6_5 ((upd_ne f (by decide)).symm.trans q))
      c7_6 := fun q => (upd_ne f (by decide)).trans (h.c7_6 ((upd_ne f (by decide)).symm.trans q))
      c9_8 := fun q => (upd_ne f (by decide)).trans (h.c9_8 ((upd_ne f (by decide)).symm.trans q))
      c10_9 := fun q => (upd_ne f (by decide)).trans (h.c10_9 ((upd_ne f (by decide)).symm.trans q))
      c4_0 := fun q => (upd_ne f (by decide)).trans (h.c4_0 ((upd_ne f (by decide)).symm.trans q))
      c7_0 := fun q => (upd_ne f (by decide)).trans (h.c7_0 ((upd_ne f (by decide)).symm.trans q))
      c10_0 := fun q => (upd_ne f (by decide)).trans (h.c10_0 ((upd_ne f (by decide)).symm.trans q))
      c13_0 := fun q => (upd_ne f (by decide)).trans (h.c13_0 ((upd_ne f (by decide)).symm.trans q))
      c16_0 := fun q => (upd_ne f (by decide)).trans (h.c16_0 ((upd_ne f (by decide)).symm.trans q))
      c20_0 := fun q => (upd_ne f (by decide)).trans (h.c20_0 ((upd_ne f (by decide)).symm.trans q))
      c24_0 := fun _ => (upd_ne f (by decide)).trans d0
      v1 := fun q => h.v1 ((upd_ne f (by decide)).symm.trans q)
      v2 := fun q => h.v2 ((upd_ne f (by decide)).symm.trans q)
      v3 := fun q => h.v3 ((upd_ne f (by decide)).symm.trans q)
      v6 := fun q => h.v6 ((upd_ne f (by decide)).symm.trans q)
      v9 := fun q => h.v9 ((upd_ne f (by decide)).symm.trans q)
      v11 := fun q => h.v11 ((upd_ne f (by decide)).symm.trans q)
      v12 := fun q => h.v12 ((upd_ne f (by decide)).symm.trans q)
      v14 := fun q => h.v14 ((upd_ne f (by decide)).symm.trans q)
      v15 := fun q => h.v15 ((upd_ne f (by decide)).symm.trans q)
      v17 := fun q => h.v17 ((upd_ne f (by decide)).symm.trans q)
      v18 := fun q => h.v18 ((upd_ne f (by decide)).symm.trans q)
      v19 := fun q => h.v19 ((upd_ne f (by decide)).symm.trans q)
      v21 := fun q => h.v21 ((upd_ne f (by decide)).symm.trans q)
      v22 := fun q => h.v22 ((upd_ne f (by decide)).symm.trans q)
      v23 := fun q => h.v23 ((upd_ne f (by decide)).symm.trans q)
      v25 := fun q => h.v25 ((upd_ne f (by decide)).symm.trans q)
      v26 := fun q => h.v26 ((upd_ne f (by decide)).symm.trans q)
      v5 := fun q => ⟨(h.v5 ((upd_ne f (by decide)).symm.trans q)).1, heap_mput ((h.v5 ((upd_ne f (by decide)).symm.trans q)).2) hm _ _⟩
      v8 := fun q => ⟨(h.v8 ((upd_ne f (by decide)).symm.trans q)).1, heap_mput ((h.v8 ((upd_ne f (by decide)).symm.trans q)).2) hm _ _⟩
      v0 := fun q => by
        refine ⟨e, hm0, _, _, mput_at w m _ _ (blk_lt hm), ?_⟩
        rw [upd_eq f 24]
        rw [upd_ne f (show 4 ≠ 24 by decide), upd_ne f (show 7 ≠ 24 by decide), upd_ne f (show 10 ≠ 24 by decide), upd_ne f (show 13 ≠ 24 by decide), upd_ne f (show 16 ≠ 24 by decide), upd_ne f (show 20 ≠ 24 by decide)]
        exact ht.ins7 n
      hE := heap_mput (h.hE) hm _ _
      hR := heap_mput (h.hR) hm _ _
      hb := mput_below h.hb _ _ _ hm0 }
theorem shp_25 {W w : World} {aE r0 m b c : Nat} {f : Nat → Bool} {a : Act} {k : Int} {K : Act → World → Prop} {Q : Exit → Act → World → Prop} (o : Oper) (hop : o.op = .move (.tmp 9)) (hd : o.dst = some 27) (h : SR W w aE r0 m b c f a k) (hf : f 25 = false) (d0 : f 0 = true)
    (hK : ∀ a' w', (∃ m b c, SR W w' aE r0 m b c (upd f 25) a' k) → K a' w') : o.wp Try.prog a w K Q := by
  have e := (h.v0 d0).1
  unfold Oper.wp
  simp [execOp, hop, hd, e, go_sem]
  refine hK _ _ ⟨m, b, c, ?_⟩
  exact {
      sz := by rw [Array.size_setIfInBounds]; exact h.sz
      df := h.df
      s0 := (gt_ne _ _ _ _ _ (by decide)).trans h.s0
      s2 := (gt_ne _ _ _ _ _ (by decide)).trans h.s2
      s3 := (gt_ne _ _ _ _ _ (by decide)).trans h.s3
      s4 := (gt_ne _ _ _ _ _ (by decide)).trans h.s4
      c25_0 := fun _ => (upd_ne f (by decide)).trans d0
      c26_25 := fun _ => upd_eq f 25
      c6_5 := fun q => (upd_ne f (by decide)).trans (h.c6_5 ((upd_ne f (by decide)).symm.trans q))
      c7_6 := fun q => (upd_ne f (by decide)).trans (h.c7_6 ((upd_ne f (by decide)).symm.trans q))
      c9_8 := fun q => (upd_ne f (by decide)).trans (h.c9_8 ((upd_ne f (by decide)).symm.trans q))
      c10_9 := fun q => (upd_ne f (by decide)).trans (h.c10_9 ((upd_ne f (by decide)).symm.trans q))
      c4_0 := fun q => (upd_ne f (by decide)).trans (h.c4_0 ((upd_ne f (by decide)).symm.trans q))
      c7_0 := fun q => (upd_ne f (by decide)).trans (h.c7_0 ((upd_ne f (by decide)).symm.trans q))
      c10_0 := fun q => (upd_ne f (by decide)).trans (h.c10_0 ((upd_ne f (by decide)).symm.trans q))
      c13_0 := fun q => (upd_ne f (by decide)).trans (h.c13_0 ((upd_ne f (by decide)).symm.trans q))
      c16_0 := fun q => (upd_ne f (by decide)).trans (h.c16_0 ((upd_ne f (by decide)).symm.trans q))
      c20_0 := fun q => (upd_ne f (by decide)).trans (h.c20_0 ((upd_ne f (by decide)).symm.trans q))
      c24_0 := fun q => (upd_ne f (by decide)).trans (h.c24_0 ((upd_ne f (by decide)).symm.trans q))
      v1 := fun q => (gt_ne _ _ _ _ _ (by decide)).trans (h.v1 ((upd_ne f (by decide)).symm.trans q))
      v2 := fun q => (gt_ne _ _ _ _ _ (by decide)).trans (h.v2 ((upd_ne f (by decide)).symm.trans q))
      v3 := fun q => (gt_ne _ _ _ _ _ (by decide)).trans (h.v3 ((upd_ne f (by decide)).symm.trans q))
      v6 := fun q => (gt_ne _ _ _ _ _ (by decide)).trans (h.v6 ((upd_ne f (by decide)).symm.trans q))
      v9 := fun q => (gt_ne _ _ _ _ _ (by decide)).trans (h.v9 ((upd_ne f (by decide)).symm.trans q))
      v11 := fun q => (gt_ne _ _ _ _ _ (by decide)).trans (h.v11 ((upd_ne f (by decide)).symm.trans q))
      v12 := fun q => (gt_ne _ _ _ _ _ (by decide)).trans (h.v12 ((upd_ne f (by decide)).symm.trans q))
      v14 := fun q => (gt_ne _ _ _ _ _ (by decide)).trans (h.v14 ((upd_ne f (by decide)).symm.trans q))
      v15 := fun q => (gt_ne _ _ _ _ _ (by decide)).trans (h.v15 ((upd_ne f (by decide)).symm.trans q))
      v17 := fun q => (gt_ne _ _ _ _ _ (by decide)).trans (h.v17 ((upd_ne f (by decide)).symm.trans q))
      v18 := fun q => (gt_ne _ _ _ _ _ (by decide)).trans (h.v18 ((upd_ne f (by decide)).symm.trans q))
      v19 := fun q => (gt_ne _ _ _ _ _ (by decide)).trans (h.v19 ((upd_ne f (by decide)).symm.trans q))
      v21 := fun q => (gt_ne _ _ _ _ _ (by decide)).trans (h.v21 ((upd_ne f (by decide)).symm.trans q))
      v22 := fun q => (gt_ne _ _ _ _ _ (by decide)).trans (h.v22 ((upd_ne f (by decide)).symm.trans q))
      v23 := fun q => (gt_ne _ _ _ _ _ (by decide)).trans (h.v23 ((upd_ne f (by decide)).symm.trans q))
      v25 := fun _ => gt_eq _ _ _ _ (by rw [h.sz]; decide)
      v26 := fun q => (gt_ne _ _ _ _ _ (by decide)).trans (h.v26 ((upd_ne f (by decide)).symm.trans q))
      v5 := fun q => ⟨(gt_ne _ _ _ _ _ (by decide)).trans (h.v5 ((upd_ne f (by decide)).symm.trans q)).1, (h.v5 ((upd_ne f (by decide)).symm.trans q)).2⟩
      v8 := fun q => ⟨(gt_ne _ _ _ _ _ (by decide)).trans (h.v8 ((upd_ne f (by decide)).symm.trans q)).1, (h.v8 ((upd_ne f (by decide)).symm.trans q)).2⟩
      v0 := fun q => by
        obtain ⟨q1, q2, es, n, q3, q4⟩ := h.v0 ((upd_ne f (by decide)).symm.trans q)
        refine ⟨(gt_ne _ _ _ _ _ (by decide)).trans q1, q2, es, n, q3, ?_⟩
        rw [upd_ne f (show 4 ≠ 25 by decide), upd_ne f (show 7 ≠ 25 by decide), upd_ne f (show 10 ≠ 25 by decide), upd_ne f (show 13 ≠ 25 by decide), upd_ne f (show 16 ≠ 25 by decide), upd_ne f (show 20 ≠ 25 by decide), upd_ne f (show 24 ≠ 25 by decide)]
        exact q4
      hE := h.hE
      hR := h.hR
      hb := h.hb }
theorem shp_26 {W w : World} {aE r0 m b c : Nat} {f : Nat → Bool} {a : Act} {k : Int} {K : Act → World → Prop} {Q : Exit → Act → World → Prop} (o : Oper) (hop : o.op = .assign (.tmp 27)) (hd : o.dst = some 5) (h : SR W w aE r0 m b c f a k) (hf : f 26 = false) (d25 : f 25 = true)
    (hK : ∀ a' w', (∃ m b c, SR W w' aE r0 m b c (upd f 26) a' k) → K a' w') : o.wp Try.prog a w K Q := by
  have e := h.v25 d25
  unfold Oper.wp
  simp [execOp, hop, hd, e, go_sem]
  refine hK _ _ ⟨m, b, c, ?_⟩
  exact {
      sz := by rw [Array.size_setIfInBounds]; exact h.sz
      df := h.df
      s0 := (gt_ne _ _ _ _ _ (by decide)).trans h.s0
      s2 := (gt_ne _ _ _ _ _ (by decide)).trans h.s2
      s3 := (gt_ne _ _ _ _ _ (by decide)).trans h.s3
      s4 := (gt_ne _ _ _ _ _ (by decide)).trans h.s4
      c25_0 := fun q => (upd_ne f (by decide)).trans (h.c25_0 ((upd_ne f (by decide)).symm.trans q))
      c26_25 := fun _ => (upd_ne f (by decide)).trans d25
      c6_5 := fun q => (upd_ne f (by decide)).trans (h.c6_5 ((upd_ne f (by decide)).symm.trans q))
      c7_6 := fun q => (upd_ne f (by decide)).trans (h.c7_6 ((upd_ne f (by decide)).symm.trans q))
      c9_8 := fun q => (upd_ne f (by decide)).trans (h.c9_8 ((upd_ne f (by decide)).symm.trans q))
      c10_9 := fun q => (upd_ne f (by decide)).trans (h.c10_9 ((upd_ne f (by decide)).symm.trans q))
      c4_0 := fun q => (upd_ne f (by decide)).trans (h.c4_0 ((upd_ne f (by decide)).symm.trans q))
      c7_0 := fun q => (upd_ne f (by decide)).trans (h.c7_0 ((upd_ne f (by decide)).symm.trans q))
      c10_0 := fun q => (upd_ne f (by decide)).trans (h.c10_0 ((upd_ne f (by decide)).symm.trans q))
      c13_0 := fun q => (upd_ne f (by decide)).trans (h.c13_0 ((upd_ne f (by decide)).symm.trans q))
      c16_0 := fun q => (upd_ne f (by decide)).trans (h.c16_0 ((upd_ne f (by decide)).symm.trans q))
      c20_0 := fun q => (upd_ne f (by decide)).trans (h.c20_0 ((upd_ne f (by decide)).symm.trans q))
      c24_0 := fun q => (upd_ne f (by decide)).trans (h.c24_0 ((upd_ne f (by decide)).symm.trans q))
      v1 := fun q => (gt_ne _ _ _ _ _ (by decide)).trans (h.v1 ((upd_ne f (by decide)).symm.trans q))
      v2 := fun q => (gt_ne _ _ _ _ _ (by decide)).trans (h.v2 ((upd_ne f (by decide)).symm.trans q))
      v3 := fun q => (gt_ne _ _ _ _ _ (by decide)).trans (h.v3 ((upd_ne f (by decide)).symm.trans q))
      v6 := fun q => (gt_ne _ _ _ _ _ (by decide)).trans (h.v6 ((upd_ne f (by decide)).symm.trans q))
      v9 := fun q => (gt_ne _ _ _ _ _ (by decide)).trans (h.v9 ((upd_ne f (by decide)).symm.trans q))
      v11 := fun q => (gt_ne _ _ _ _ _ (by decide)).trans (h.v11 ((upd_ne f (by decide)).symm.trans q))
      v12 := fun q => (gt_ne _ _ _ _ _ (by decide)).trans (h.v12 ((upd_ne f (by decide)).symm.trans q))
      v14 := fun q => (gt_ne _ _ _ _ _ (by decide)).trans (h.v14 ((upd_ne f (by decide)).symm.trans q))
      v15 := fun q => (gt_ne _ _ _ _ _ (by decide)).trans (h.v15 ((upd_ne f (by decide)).symm.trans q))
      v17 := fun q => (gt_ne _ _ _ _ _ (by decide)).trans (h.v17 ((upd_ne f (by decide)).symm.trans q))
      v18 := fun q => (gt_ne _ _ _ _ _ (by decide)).trans (h.v18 ((upd_ne f (by decide)).symm.trans q))
      v19 := fun q => (gt_ne _ _ _ _ _ (by decide)).trans (h.v19 ((upd_ne f (by decide)).symm.trans q))
      v21 := fun q => (gt_ne _ _ _ _ _ (by decide)).trans (h.v21 ((upd_ne f (by decide)).symm.trans q))
      v22 := fun q => (gt_ne _ _ _ _ _ (by decide)).trans (h.v22 ((upd_ne f (by decide)).symm.trans q))
      v23 := fun q => (gt_ne _ _ _ _ _ (by decide)).trans (h.v23 ((upd_ne f (by decide)).symm.trans q))
      v25 := fun q => (gt_ne _ _ _ _ _ (by decide)).trans (h.v25 ((upd_ne f (by decide)).symm.trans q))
      v26 := fun _ => gt_eq _ _ _ _ (by rw [h.sz]; decide)
      v5 := fun q => ⟨(gt_ne _ _ _ _ _ (by decide)).trans (h.v5 ((upd_ne f (by decide)).symm.trans q)).1, (h.v5 ((upd_ne f (by decide)).symm.trans q)).2⟩
      v8 := fun q => ⟨(gt_ne _ _ _ _ _ (by decide)).trans (h.v8 ((upd_ne f (by decide)).symm.trans q)).1, (h.v8 ((upd_ne f (by decide)).symm.trans q)).2⟩
      v0 := fun q => by
        obtain ⟨q1, q2, es, n, q3, q4⟩ := h.v0 ((upd_ne f (by decide)).symm.trans q)
        refine ⟨(gt_ne _ _ _ _ _ (by decide)).trans q1, q2, es, n, q3, ?_⟩
        rw [upd_ne f (show 4 ≠ 26 by decide), upd_ne f (show 7 ≠ 26 by decide), upd_ne f (show 10 ≠ 26 by decide), upd_ne f (show 13 ≠ 26 by decide), upd_ne f (show 16 ≠ 26 by decide), upd_ne f (show 20 ≠ 26 by decide), upd_ne f (show 24 ≠ 26 by decide)]
        exact q4
      hE := h.hE
      hR := h.hR
      hb := h.hb }
end Go.Proofs.Ytlhbnbckanmaiaa.K
namespace Go.Proofs.Ytlhbnbckanmaiaa.K
open Go Go.RowKit Go.Proofs.YtlhbnbckanmaiaaW.PrintWords Go.Proofs.YtlhbnbckanmaiaaW.PrintLast Go.Proofs.YtlhbnbckanmaiaaW.PrintMore Go.Proofs.Ytlhbnbckanmaiaa.PC1
set_option linter.unusedVariables false
set_option linter.unusedSimpArgs false
theorem arr36 (t : Array Value) (h : t.size = 36) : ∃ x0 x1 x2 x3 x4 x5 x6 x7 x8 x9 x10 x11 x12 x13 x14 x15 x16 x17 x18 x19 x20 x21 x22 x23 x24 x25 x26 x27 x28 x29 x30 x31 x32 x33 x34 x35, t = #[x0, x1, x2, x3, x4, x5, x6, x7, x8, x9, x10, x11, x12, x13, x14, x15, x16, x17, x18, x19, x20, x21, x22, x23, x24, x25, x26, x27, x28, x29, x30, x31, x32, x33, x34, x35] := by
  refine ⟨t[0], t[1], t[2], t[3], t[4], t[5], t[6], t[7], t[8], t[9], t[10], t[11], t[12], t[13], t[14], t[15], t[16], t[17], t[18], t[19], t[20], t[21], t[22], t[23], t[24], t[25], t[26], t[27], t[28], t[29], t[30], t[31], t[32], t[33], t[34], t[35], ?_⟩
  apply Array.ext
  · simp [h]
  · intro i h1 h2
    have hi : i < 36 := by omega
    rcases i with _ | i
    · simp
    rcases i with _ | i
    · simp
    rcases i with _ | i
    · simp
    rcases i with _ | i
    · simp
    rcases i with _ | i
    · simp
    rcases i with _ | i
    · simp
    rcases i with _ | i
    · simp
    rcases i with _ | i
    · simp
    rcases i with _ | i
    · simp
    rcases i with _ | i
    · simp
    rcases i with _ | i
    · simp
    rcases i with _ | i
    · simp
    rcases i with _ | i
    · simp
    rcases i with _ | i
    · simp
    rcases i with _ | i
    · simp
    rcases i with _ | i
    · simp
    rcases i with _ | i
    · simp
    rcases i with _ | i
    · simp
    rcases i with _ | i
    · simp
    rcases i with _ | i
    · simp
    rcases i with _ | i
    · simp
    rcases i with _ | i
    · simp
    rcases i with _ | i
    · simp
    rcases i with _ | i
    · simp
    rcases i with _ | i
    · simp
    rcases i with _ | i
    · simp
    rcases i with _ | i
    · simp
    rcases i with _ | i
    · simp
    rcases i with _ | i
    · simp
    rcases i with _ | i
    · simp
    rcases i with _ | i
    · simp
    rcases i with _ | i
    · simp
    rcases i with _ | i
    · simp
    rcases i with _ | i
    · simp
    rcases i with _ | i
    · simp
    rcases i with _ | i
    · simp
    omega
theorem C_cells {w : World} {r cap : Nat} {cur : Array Value} (xs : List Int) (hb : w.heap[r]? = some (.cells cur 3 (0, 0))) (hc : xs.length ≤ cap) (hm : cap ≤ maxLen) (hs : cur.size = cap) (ht : cur.toList.take xs.length = xs.map (Value.int .i64)) : Kd.C (Kd.int .i64) w (some ⟨r, 0, none⟩) xs.length xs := by
  have h : Kd.R (Kd.int .i64) 3 w 0 (fun _ => True) (.slice (some ⟨r, 0, none⟩) xs.length cap) xs :=
    Kd.R_of_own (h1 := fun _ => rfl) ⟨by simp [encs], .inr ⟨r, cap, cur, rfl, Nat.zero_le _, hb, hc, hm, by rw [hs]; exact (Nat.mul_one _).symm, by rw [Nat.mul_one]; exact ht⟩⟩ (fun _ _ => trivial)
  obtain ⟨A, c, he, _, hC⟩ := Kd.R_reads h
  injection he with h1 h2 h3
  rw [h1]; exact hC
def modesF (k : Int) : List Int := if k = 1 then [0] else if k = 2 then [0, 1, 4] else if k = 3 then [0, 2, 4] else if k = 4 then [0, 1, 2, 3, 4] else if k = 5 then [0, 1, 2, 3, 4] else if k = 6 then [1, 2, 3, 4] else if k = 7 then [0] else []
def argsF (k : Int) : Int := if k = 1 then 1 else if k = 2 then 0 else if k = 3 then 1 else if k = 4 then 1 else if k = 5 then 2 else if k = 6 then 0 else if k = 7 then 1 else 0
def regF (k : Int) : Bool := k == 1 || k == 2 || k == 4 || k == 5
def locF (k : Int) : Bool := k == 2 || k == 3 || k == 4 || k == 5
def bodyF (k : Int) : Bool := k == 7
def okF (k : Int) : Bool := decide (1 ≤ k) && decide (k ≤ 7)
def Shaped (k : Int) (W : World) (e : Ending) (W' : World) : Prop := ∃ A c, e = .returned (.tuple #[.agg #[.slice A (modesF k).length c, .int .i64 (argsF k), .bool (regF k), .bool (locF k), .bool (bodyF k)], .bool (okF k)]) ∧ Kd.C (Kd.int .i64) W' A (modesF k).length (modesF k) ∧ (modesF k).length ≤ c ∧ Below W.heap.size W W'
/-- What is there once the table is laid. -/
structure Laid (W w : World) (m : Nat) (es : Array MapEntry) (n aE b c : Nat) : Prop where
  hm : w.heap[m]? = some (.map es n)
  tb : Tb aE b c true true true true true true true es
  hE : w.heap[aE]? = some (.cells #[.int .i64 0, .int .i64 1, .int .i64 2, .int .i64 3, .int .i64 4] 3 (0, 0))
  hB : w.heap[b]? = some (.cells #[.int .i64 0, .int .i64 1, .int .i64 4] 3 (0, 0))
  hC : w.heap[c]? = some (.cells #[.int .i64 0, .int .i64 2, .int .i64 4] 3 (0, 0))
  hR : w.heap[W.heap.size]? = some (.cells #[.slice none 0 0, .int .i64 0, .bool false, .bool false, .bool false] 104 (0, 0))
  hb : Below W.heap.size W w
theorem Laid.fin {W w : World} {m n aE b c : Nat} {es : Array MapEntry} (h : Laid W w m es n aE b c) (cs : Array Value) : (W.heap.size ≠ aE) ∧ (W.heap.size ≠ b) ∧ (W.heap.size ≠ c) := by
  refine ⟨?_, ?_, ?_⟩ <;> (intro e; have h1 := h.hR; rw [e] at h1; first | (rw [h.hE] at h1; simp at h1; done) | (rw [h.hB] at h1; simp at h1; done) | (rw [h.hC] at h1; simp at h1; done))
set_option maxHeartbeats 4000000 in
set_option maxRecDepth 100000 in
theorem shape_core (W : World) (k : Int) (R : Ending → World → Prop)
    (look : ∀ (w : World) (m n aE b c : Nat) (es : Array MapEntry), Laid W w m es n aE b c → ∃ v ok, (Instr.lookup 132 (.map (some m)) (.int .i64 k) true).run Try.prog w = .ok (.tuple #[v, .bool ok]) w ∧ ∃ A l cp n1 b1 b2 b3, v = .agg #[.slice A l cp, .int .i64 n1, .bool b1, .bool b2, .bool b3] ∧
      R (.returned (.tuple #[v, .bool ok])) ((((((w.setCell ⟨W.heap.size, 0, none⟩ (.slice A l cp)).setCell ⟨W.heap.size, 1, none⟩ (.int .i64 n1)).setCell ⟨W.heap.size, 2, none⟩ (.bool b1)).setCell ⟨W.heap.size, 3, none⟩ (.bool b2)).setCell ⟨W.heap.size, 4, none⟩ (.bool b3)).alloc (.cells #[.slice A l cp, .int .i64 n1, .bool b1, .bool b2, .bool b3] 104 (0, 0)))) :
    Calls Try.prog 51 #[.int .i64 k] W R := by
  have HL := Aside0.mk look
  clear look
  go_enter Try.func51, Try.ntmps51
  go_wp2
  refine wp_region_any (by kernel_rfl) ?_
  refine wpAny_inv rfl (by kernel_rfl) (fun f a w => ∃ m b c, SR W w (W.heap.size + 1) W.heap.size m b c f a k) ?step ?fin _ _ _ _ (by simp) (by decide) ?init
  case init =>
    refine ⟨0, 0, 0, ?_⟩
    have hno : ∀ j, flag (Array.replicate 27 false) j = false := fun j => by
      unfold flag
      by_cases hj : j < 27 <;> simp [hj]
    exact {
      sz := rfl
      df := rfl
      s0 := rfl
      s2 := rfl
      s3 := rfl
      s4 := rfl
      c25_0 := fun q => absurd (q.symm.trans (hno _)) (by decide)
      c26_25 := fun q => absurd (q.symm.trans (hno _)) (by decide)
      c6_5 := fun q => absurd (q.symm.trans (hno _)) (by decide)
      c7_6 := fun q => absurd (q.symm.trans (hno _)) (by decide)
      c9_8 := fun q => absurd (q.symm.trans (hno _)) (by decide)
      c10_9 := fun q => absurd (q.symm.trans (hno _)) (by decide)
      c4_0 := fun q => absurd (q.symm.trans (hno _)) (by decide)
      c7_0 := fun q => absurd (q.symm.trans (hno _)) (by decide)
      c10_0 := fun q => absurd (q.symm.trans (hno _)) (by decide)
      c13_0 := fun q => absurd (q.symm.trans (hno _)) (by decide)
      c16_0 := fun q => absurd (q.symm.trans (hno _)) (by decide)
      c20_0 := fun q => absurd (q.symm.trans (hno _)) (by decide)
      c24_0 := fun q => absurd (q.symm.trans (hno _)) (by decide)
      v1 := fun q => absurd (q.symm.trans (hno _)) (by decide)
      v2 := fun q => absurd (q.symm.trans (hno _)) (by decide)
      v3 := fun q => absurd (q.symm.trans (hno _)) (by decide)
      v6 := fun q => absurd (q.symm.trans (hno _)) (by decide)
      v9 := fun q => absurd (q.symm.trans (hno _)) (by decide)
      v11 := fun q => absurd (q.symm.trans (hno _)) (by decide)
      v12 := fun q => absurd (q.symm.trans (hno _)) (by decide)
      v14 := fun q => absurd (q.symm.trans (hno _)) (by decide)
      v15 := fun q => absurd (q.symm.trans (hno _)) (by decide)
      v17 := fun q => absurd (q.symm.trans (hno _)) (by decide)
      v18 := fun q => absurd (q.symm.trans (hno _)) (by decide)
      v19 := fun q => absurd (q.symm.trans (hno _)) (by decide)
      v21 := fun q => absurd (q.symm.trans (hno _)) (by decide)
      v22 := fun q => absurd (q.symm.trans (hno _)) (by decide)
      v23 := fun q => absurd (q.symm.trans (hno _)) (by decide)
      v25 := fun q => absurd (q.symm.trans (hno _)) (by decide)
      v26 := fun q => absurd (q.symm.trans (hno _)) (by decide)
      v5 := fun q => absurd (q.symm.trans (hno _)) (by decide)
      v8 := fun q => absurd (q.symm.trans (hno _)) (by decide)
      v0 := fun q => absurd (q.symm.trans (hno _)) (by decide)
      hE := alloc_at _ _ _ (by simp)
      hR := blk_alloc (blk_new W _) _
      hb := below_drew (below_alloc (below_alloc (Below.refl _ _) _) _) }
  case step =>
    rintro f a w i o r ⟨m, b, c, hI⟩ ho hr hf hd
    have hi : i < 27 := (Array.getElem?_eq_some_iff.1 ho).1
    have hr2 := rtab_some (md := .any) ho
    rw [hr] at hr2
    obtain rfl := Option.some.inj hr2
    clear hr hr2
    match i, hi with
    | 0, _ =>
      obtain rfl := Option.some.inj ho
      exact ⟨rfl, fun K hK => shp_0 _ rfl rfl hI hf  hK⟩
    | 1, _ =>
      obtain rfl := Option.some.inj ho
      exact ⟨rfl, fun K hK => shp_1 _ rfl rfl hI hf  hK⟩
    | 2, _ =>
      obtain rfl := Option.some.inj ho
      have d1 : f 1 = true := List.all_eq_true.1 hd 1 (of_decide_eq_true (by kernel_rfl))
      exact ⟨rfl, fun K hK => shp_2 _ rfl rfl hI hf d1 hK⟩
    | 3, _ =>
      obtain rfl := Option.some.inj ho
      have d2 : f 2 = true := List.all_eq_true.1 hd 2 (of_decide_eq_true (by kernel_rfl))
      exact ⟨rfl, fun K hK => shp_3 _ rfl rfl hI hf d2 hK⟩
    | 4, _ =>
      obtain rfl := Option.some.inj ho
      have d0 : f 0 = true := List.all_eq_true.1 hd 0 (of_decide_eq_true (by kernel_rfl))
      have d3 : f 3 = true := List.all_eq_true.1 hd 3 (of_decide_eq_true (by kernel_rfl))
      exact ⟨rfl, fun K hK => shp_4 _ rfl rfl hI hf d0 d3 hK⟩
    | 5, _ =>
      obtain rfl := Option.some.inj ho
      exact ⟨rfl, fun K hK => shp_5 _ rfl rfl hI hf  hK⟩
    | 6, _ =>
      obtain rfl := Option.some.inj ho
      have d5 : f 5 = true := List.all_eq_true.1 hd 5 (of_decide_eq_true (by kernel_rfl))
      exact ⟨rfl, fun K hK => shp_6 _ rfl rfl hI hf d5 hK⟩
    | 7, _ =>
      obtain rfl := Option.some.inj ho
      have d0 : f 0 = true := List.all_eq_true.1 hd 0 (of_decide_eq_true (by kernel_rfl))
      have d6 : f 6 = true := List.all_eq_true.1 hd 6 (of_decide_eq_true (by kernel_rfl))
      exact ⟨rfl, fun K hK => shp_7 _ rfl rfl hI hf d0 d6 hK⟩
    | 8, _ =>
      obtain rfl := Option.some.inj ho
      exact ⟨rfl, fun K hK => shp_8 _ rfl rfl hI hf  hK⟩
    | 9, _ =>
      obtain rfl := Option.some.inj ho
      have d8 : f 8 = true := List.all_eq_true.1 hd 8 (of_decide_eq_true (by kernel_rfl))
      exact ⟨rfl, fun K hK => shp_9 _ rfl rfl hI hf d8 hK⟩
    | 10, _ =>
      obtain rfl := Option.some.inj ho
      have d0 : f 0 = true := List.all_eq_true.1 hd 0 (of_decide_eq_true (by kernel_rfl))
      have d9 : f 9 = true := List.all_eq_true.1 hd 9 (of_decide_eq_true (by kernel_rfl))
      exact ⟨rfl, fun K hK => shp_10 _ rfl rfl hI hf d0 d9 hK⟩
    | 11, _ =>
      obtain rfl := Option.some.inj ho
      exact ⟨rfl, fun K hK => shp_11 _ rfl rfl hI hf  hK⟩
    | 12, _ =>
      obtain rfl := Option.some.inj ho
      have d11 : f 11 = true := List.all_eq_true.1 hd 11 (of_decide_eq_true (by kernel_rfl))
      exact ⟨rfl, fun K hK => shp_12 _ rfl rfl hI hf d11 hK⟩
    | 13, _ =>
      obtain rfl := Option.some.inj ho
      have d0 : f 0 = true := List.all_eq_true.1 hd 0 (of_decide_eq_true (by kernel_rfl))
      have d12 : f 12 = true := List.all_eq_true.1 hd 12 (of_decide_eq_true (by kernel_rfl))
      exact ⟨rfl, fun K hK => shp_13 _ rfl rfl hI hf d0 d12 hK⟩
    | 14, _ =>
      obtain rfl := Option.some.inj ho
      exact ⟨rfl, fun K hK => shp_14 _ rfl rfl hI hf  hK⟩
    | 15, _ =>
      obtain rfl := Option.some.inj ho
      have d14 : f 14 = true := List.all_eq_true.1 hd 14 (of_decide_eq_true (by kernel_rfl))
      exact ⟨rfl, fun K hK => shp_15 _ rfl rfl hI hf d14 hK⟩
    | 16, _ =>
      obtain rfl := Option.some.inj ho
      have d0 : f 0 = true := List.all_eq_true.1 hd 0 (of_decide_eq_true (by kernel_rfl))
      have d15 : f 15 = true := List.all_eq_true.1 hd 15 (of_decide_eq_true (by kernel_rfl))
      exact ⟨rfl, fun K hK => shp_16 _ rfl rfl hI hf d0 d15 hK⟩
    | 17, _ =>
      obtain rfl := Option.some.inj ho
      exact ⟨rfl, fun K hK => shp_17 _ rfl rfl hI hf  hK⟩
    | 18, _ =>
      obtain rfl := Option.some.inj ho
      have d17 : f 17 = true := List.all_eq_true.1 hd 17 (of_decide_eq_true (by kernel_rfl))
      exact ⟨rfl, fun K hK => shp_18 _ rfl rfl hI hf d17 hK⟩
    | 19, _ =>
      obtain rfl := Option.some.inj ho
      have d18 : f 18 = true := List.all_eq_true.1 hd 18 (of_decide_eq_true (by kernel_rfl))
      exact ⟨rfl, fun K hK => shp_19 _ rfl rfl hI hf d18 hK⟩
    | 20, _ =>
      obtain rfl := Option.some.inj ho
      have d0 : f 0 = true := List.all_eq_true.1 hd 0 (of_decide_eq_true (by kernel_rfl))
      have d19 : f 19 = true := List.all_eq_true.1 hd 19 (of_decide_eq_true (by kernel_rfl))
      exact ⟨rfl, fun K hK => shp_20 _ rfl rfl hI hf d0 d19 hK⟩
    | 21, _ =>
      obtain rfl := Option.some.inj ho
      exact ⟨rfl, fun K hK => shp_21 _ rfl rfl hI hf  hK⟩
    | 22, _ =>
      obtain rfl := Option.some.inj ho
      have d21 : f 21 = true := List.all_eq_true.1 hd 21 (of_decide_eq_true (by kernel_rfl))
      exact ⟨rfl, fun K hK => shp_22 _ rfl rfl hI hf d21 hK⟩
    | 23, _ =>
      obtain rfl := Option.some.inj ho
      have d22 : f 22 = true := List.all_eq_true.1 hd 22 (of_decide_eq_true (by kernel_rfl))
      exact ⟨rfl, fun K hK => shp_23 _ rfl rfl hI hf d22 hK⟩
    | 24, _ =>
      obtain rfl := Option.some.inj ho
      have d0 : f 0 = true := List.all_eq_true.1 hd 0 (of_decide_eq_true (by kernel_rfl))
      have d23 : f 23 = true := List.all_eq_true.1 hd 23 (of_decide_eq_true (by kernel_rfl))
      exact ⟨rfl, fun K hK => shp_24 _ rfl rfl hI hf d0 d23 hK⟩
    | 25, _ =>
      obtain rfl := Option.some.inj ho
      have d0 : f 0 = true := List.all_eq_true.1 hd 0 (of_decide_eq_true (by kernel_rfl))
      exact ⟨rfl, fun K hK => shp_25 _ rfl rfl hI hf d0 hK⟩
    | 26, _ =>
      obtain rfl := Option.some.inj ho
      have d25 : f 25 = true := List.all_eq_true.1 hd 25 (of_decide_eq_true (by kernel_rfl))
      exact ⟨rfl, fun K hK => shp_26 _ rfl rfl hI hf d25 hK⟩
  case fin =>
    rintro f a w ⟨m, b, c, hI⟩ hall
    have ha : ∀ i, i < 27 → f i = true := hall
    clear hall
    obtain ⟨t, ds⟩ := a
    obtain rfl : ds = [] := hI.df
    obtain ⟨x0, x1, x2, x3, x4, x5, x6, x7, x8, x9, x10, x11, x12, x13, x14, x15, x16, x17, x18, x19, x20, x21, x22, x23, x24, x25, x26, x27, x28, x29, x30, x31, x32, x33, x34, x35, rfl⟩ := arr36 t hI.sz
    obtain rfl : x0 = _ := hI.s0
    obtain rfl : x2 = _ := hI.s2
    obtain rfl : x3 = _ := hI.s3
    obtain rfl : x5 = _ := hI.v26 (ha 26 (by decide))
    obtain ⟨-, -, es, n, hm, ht⟩ := hI.v0 (ha 0 (by decide))
    rw [ha 4 (by decide), ha 7 (by decide), ha 10 (by decide), ha 13 (by decide), ha 16 (by decide), ha 20 (by decide), ha 24 (by decide)] at ht
    have HLd : Laid W w m es n (W.heap.size + 1) b c := ⟨hm, ht, hI.hE, (hI.v5 (ha 5 (by decide))).2, (hI.v8 (ha 8 (by decide))).2, hI.hR, hI.hb⟩
    obtain ⟨v, ok, hlk, A, l, cp, n1, b1, b2, b3, rfl, hres⟩ := HL.out w m n _ b c es HLd
    have HD := Aside0.mk HLd
    have HR := Aside0.mk hres
    have hlt := blk_lt HLd.hR
    have hfr := fun i => blk_frozen HLd.hR i
    have y0 := (blk_cell HLd.hR 0).trans rfl
    have y1 := (blk_cell HLd.hR 1).trans rfl
    have y2 := (blk_cell HLd.hR 2).trans rfl
    have y3 := (blk_cell HLd.hR 3).trans rfl
    have y4 := (blk_cell HLd.hR 4).trans rfl
    clear hI ha hm ht HLd hres HL
    have HZ := blk_alloc (blk_put (blk_put (blk_put (blk_put (blk_put HD.out.hR 0 (.slice A l cp) rfl) 1 (.int .i64 n1) rfl) 2 (.bool b1) rfl) 3 (.bool b2) rfl) 4 (.bool b3) rfl) (.cells #[.slice A l cp, .int .i64 n1, .bool b1, .bool b2, .bool b3] 104 (0, 0))
    have z0 := (blk_cell HZ 0).trans rfl
    have z1 := (blk_cell HZ 1).trans rfl
    have z2 := (blk_cell HZ 2).trans rfl
    have z3 := (blk_cell HZ 3).trans rfl
    have z4 := (blk_cell HZ 4).trans rfl
    have HZZ := Aside0.mk HZ
    clear HZ
    go_wp2
    refine bodyPost_ret (v := .tuple #[.agg #[.slice A l cp, .int .i64 n1, .bool b1, .bool b2, .bool b3], .bool ok]) ?_ rfl HR.out
    simp [results, Try.results51, go_sem, z0, z1, z2, z3, z4]
theorem keep5 {w : World} {g r : Nat} {t : TypeId} {cs : Array Value} (h : w.heap[g]? = some (.cells cs t (0, 0))) (hne : r ≠ g) (v0 v1 v2 v3 v4 : Value) (o : Obj) : ((((((w.setCell ⟨r, 0, none⟩ v0).setCell ⟨r, 1, none⟩ v1).setCell ⟨r, 2, none⟩ v2).setCell ⟨r, 3, none⟩ v3).setCell ⟨r, 4, none⟩ v4).alloc o).heap[g]? = some (.cells cs t (0, 0)) :=
  blk_alloc (blk_far (blk_far (blk_far (blk_far (blk_far h (p := ⟨r, 0, none⟩) (Ne.symm hne) v0) (p := ⟨r, 1, none⟩) (Ne.symm hne) v1) (p := ⟨r, 2, none⟩) (Ne.symm hne) v2) (p := ⟨r, 3, none⟩) (Ne.symm hne) v3) (p := ⟨r, 4, none⟩) (Ne.symm hne) v4) o
theorem below5 {W w : World} (h : Below W.heap.size W w) (v0 v1 v2 v3 v4 : Value) (o : Obj) : Below W.heap.size W ((((((w.setCell ⟨W.heap.size, 0, none⟩ v0).setCell ⟨W.heap.size, 1, none⟩ v1).setCell ⟨W.heap.size, 2, none⟩ v2).setCell ⟨W.heap.size, 3, none⟩ v3).setCell ⟨W.heap.size, 4, none⟩ v4).alloc o) :=
  below_alloc (below_set (below_set (below_set (below_set (below_set h (Nat.le_refl _)) (Nat.le_refl _)) (Nat.le_refl _)) (Nat.le_refl _)) (Nat.le_refl _)) o
theorem C_nil0 (w : World) : Kd.C (Kd.int .i64) w none 0 [] := by
  obtain ⟨A, c, he, _, hC⟩ := Kd.R_reads (Kd.R_nil (Kd.int .i64) 3 w 0 (fun _ => True))
  injection he with h1 h2 h3
  rw [h1]; exact hC
theorem shape_1 (W : World) : Calls Try.prog 51 #[.int .i64 1] W (Shaped 1 W) := by
  refine shape_core W 1 _ (fun w m n aE b c es h => ?_)
  obtain ⟨j, hg⟩ := h.tb.g1 rfl
  refine ⟨_, true, run_look 132 3 104 w m n es 1 j _ Try.underlying132 Try.underlying3 h.hm hg, _, _, _, _, _, _, _, rfl, _, _, rfl, ?_, (by decide), below5 h.hb _ _ _ _ _ _⟩
  exact C_cells [0] (keep5 h.hE (h.fin #[] |>.1) _ _ _ _ _ _) (by decide) (show 5 ≤ maxLen by decide) rfl rfl
theorem shape_2 (W : World) : Calls Try.prog 51 #[.int .i64 2] W (Shaped 2 W) := by
  refine shape_core W 2 _ (fun w m n aE b c es h => ?_)
  obtain ⟨j, hg⟩ := h.tb.g2 rfl
  refine ⟨_, true, run_look 132 3 104 w m n es 2 j _ Try.underlying132 Try.underlying3 h.hm hg, _, _, _, _, _, _, _, rfl, _, _, rfl, ?_, (by decide), below5 h.hb _ _ _ _ _ _⟩
  exact C_cells [0, 1, 4] (keep5 h.hB (h.fin #[] |>.2.1) _ _ _ _ _ _) (by decide) (show 3 ≤ maxLen by decide) rfl rfl
theorem shape_3 (W : World) : Calls Try.prog 51 #[.int .i64 3] W (Shaped 3 W) := by
  refine shape_core W 3 _ (fun w m n aE b c es h => ?_)
  obtain ⟨j, hg⟩ := h.tb.g3 rfl
  refine ⟨_, true, run_look 132 3 104 w m n es 3 j _ Try.underlying132 Try.underlying3 h.hm hg, _, _, _, _, _, _, _, rfl, _, _, rfl, ?_, (by decide), below5 h.hb _ _ _ _ _ _⟩
  exact C_cells [0, 2, 4] (keep5 h.hC (h.fin #[] |>.2.2) _ _ _ _ _ _) (by decide) (show 3 ≤ maxLen by decide) rfl rfl
theorem shape_4 (W : World) : Calls Try.prog 51 #[.int .i64 4] W (Shaped 4 W) := by
  refine shape_core W 4 _ (fun w m n aE b c es h => ?_)
  obtain ⟨j, hg⟩ := h.tb.g4 rfl
  refine ⟨_, true, run_look 132 3 104 w m n es 4 j _ Try.underlying132 Try.underlying3 h.hm hg, _, _, _, _, _, _, _, rfl, _, _, rfl, ?_, (by decide), below5 h.hb _ _ _ _ _ _⟩
  exact C_cells [0, 1, 2, 3, 4] (keep5 h.hE (h.fin #[] |>.1) _ _ _ _ _ _) (by decide) (show 5 ≤ maxLen by decide) rfl rfl
theorem shape_5 (W : World) : Calls Try.prog 51 #[.int .i64 5] W (Shaped 5 W) := by
  refine shape_core W 5 _ (fun w m n aE b c es h => ?_)
  obtain ⟨j, hg⟩ := h.tb.g5 rfl
  refine ⟨_, true, run_look 132 3 104 w m n es 5 j _ Try.underlying132 Try.underlying3 h.hm hg, _, _, _, _, _, _, _, rfl, _, _, rfl, ?_, (by decide), below5 h.hb _ _ _ _ _ _⟩
  exact C_cells [0, 1, 2, 3, 4] (keep5 h.hE (h.fin #[] |>.1) _ _ _ _ _ _) (by decide) (show 5 ≤ maxLen by decide) rfl rfl
theorem shape_6 (W : World) : Calls Try.prog 51 #[.int .i64 6] W (Shaped 6 W) := by
  refine shape_core W 6 _ (fun w m n aE b c es h => ?_)
  obtain ⟨j, hg⟩ := h.tb.g6 rfl
  refine ⟨_, true, run_look 132 3 104 w m n es 6 j _ Try.underlying132 Try.underlying3 h.hm hg, _, _, _, _, _, _, _, rfl, _, _, rfl, ?_, (by decide), below5 h.hb _ _ _ _ _ _⟩
  exact Kd.C_drop (C_cells [0, 1, 2, 3, 4] (keep5 h.hE (h.fin #[] |>.1) _ _ _ _ _ _) (by decide) (show 5 ≤ maxLen by decide) rfl rfl) (m := 1) (c := 5) (by decide) (by decide)
theorem shape_7 (W : World) : Calls Try.prog 51 #[.int .i64 7] W (Shaped 7 W) := by
  refine shape_core W 7 _ (fun w m n aE b c es h => ?_)
  obtain ⟨j, hg⟩ := h.tb.g7 rfl
  refine ⟨_, true, run_look 132 3 104 w m n es 7 j _ Try.underlying132 Try.underlying3 h.hm hg, _, _, _, _, _, _, _, rfl, _, _, rfl, ?_, (by decide), below5 h.hb _ _ _ _ _ _⟩
  exact C_cells [0] (keep5 h.hE (h.fin #[] |>.1) _ _ _ _ _ _) (by decide) (show 5 ≤ maxLen by decide) rfl rfl
theorem shape_other (W : World) (k : Int) (h1 : k ≠ 1) (h2 : k ≠ 2) (h3 : k ≠ 3) (h4 : k ≠ 4) (h5 : k ≠ 5) (h6 : k ≠ 6) (h7 : k ≠ 7) : Calls Try.prog 51 #[.int .i64 k] W (Shaped k W) := by
  refine shape_core W k _ (fun w m n aE b c es h => ?_)
  refine ⟨_, false, run_look_no 132 3 104 w m n es k (.agg #[.slice none 0 0, .int .i64 0, .bool false, .bool false, .bool false]) Try.underlying132 Try.underlying3 h.hm (h.tb.ot k h1 h2 h3 h4 h5 h6 h7) ?_, _, _, _, _, _, _, _, rfl, ?_⟩
  · simp [go_sem]
  · refine ⟨none, 0, ?_, ?_, ?_, below5 h.hb _ _ _ _ _ _⟩
    · have e1 : okF k = false := by unfold okF; by_cases a : 1 ≤ k <;> by_cases b : k ≤ 7 <;> simp [a, b]; omega
      rw [e1]
      simp [modesF, argsF, regF, locF, bodyF, h1, h2, h3, h4, h5, h6, h7]
    · simp only [modesF, h1, h2, h3, h4, h5, h6, h7, if_false]; exact C_nil0 _
    · simp [modesF, h1, h2, h3, h4, h5, h6, h7]
theorem shape_any (W : World) (k : Int) : Calls Try.prog 51 #[.int .i64 k] W (Shaped k W) := by
  by_cases h1 : k = 1
  · subst h1; exact shape_1 W
  by_cases h2 : k = 2
  · subst h2; exact shape_2 W
  by_cases h3 : k = 3
  · subst h3; exact shape_3 W
  by_cases h4 : k = 4
  · subst h4; exact shape_4 W
  by_cases h5 : k = 5
  · subst h5; exact shape_5 W
  by_cases h6 : k = 6
  · subst h6; exact shape_6 W
  by_cases h7 : k = 7
  · subst h7; exact shape_7 W
  exact shape_other W k h1 h2 h3 h4 h5 h6 h7
end Go.Proofs.Ytlhbnbckanmaiaa.K
namespace Go.Proofs.Ytlhbnbckanmaiaa.K
open Go Go.RowKit Go.Proofs.YtlhbnbckanmaiaaW.PrintWords Go.Proofs.YtlhbnbckanmaiaaW.PrintLast Go.Proofs.YtlhbnbckanmaiaaW.PrintMore Go.Proofs.Ytlhbnbckanmaiaa.PC1
set_option linter.unusedVariables false
set_option linter.unusedSimpArgs false
/-! ### rows of texts that are the call's own -/
def rowS (xs : List ByteArray) : List Value := xs.map Value.string
theorem new_cell5 (W : World) (v0 v1 v2 v3 v4 : Value) (t : TypeId) : (W.alloc (.cells #[v0, v1, v2, v3, v4] t (0, 0))).cell? ⟨W.heap.size, 2, none⟩ = some v2 := (blk_cell (blk_new W _) 2).trans rfl
theorem infoStr : (Try.prog.info? 9).map (fun i => (i.zero, i.size, i.bytes)) = some (some (.string ⟨#[]⟩), 1, 16) := by kernel_rfl
theorem step_append_str {ops : Array Oper} {o : Oper} {a : Act} {w : World} {K : Act → World → Prop} {Q : Exit → Act → World → Prop} {E : Prop}
    (hg : o.guard = none) (s x : Operand) (ho : o.op = .call { callee := .builtin .append, args := #[s, x], argTypes := #[37, 37] }) (base : Nat)
    (v : Value) (xs : List ByteArray) (t : ByteArray) (hs : a.eval s = v) (hown : w.ownsRow base 9 1 v xs.length (rowS xs)) (b : Nat) (hx : a.eval x = .slice (some ⟨b, 0, none⟩) 1 1)
    (hb : w.heap[b]? = some (.cells #[.string t] 9 (0, 0))) (hn : xs.length < 1000000) (hbase : base ≤ w.heap.size)
    (h : ∀ v' w', w'.ownsRow base 9 1 v' (xs ++ [t]).length (rowS (xs ++ [t])) → w.grownBy w' v.ownBlock → (v'.ownBlock = v.ownBlock ∨ ∃ b, v'.ownBlock = some b ∧ w.heap.size ≤ b) → K (a.put o.dst v') w') :
    if Region.wanted o (yielded ops a.tmps) = true then Oper.wp Try.prog o a w K Q else E := by
  have hw : Region.wanted o (yielded ops a.tmps) = true := by simp [Region.wanted, hg]
  rw [if_pos hw]
  obtain ⟨i0, hi, hz0, hz1, hz2⟩ := info_parts infoStr
  obtain ⟨v1, w1, hr, h1, h2, _, hat⟩ := run_append_own_at (P := Try.prog) w base 37 o.type 9 i0 _ 1 16 Try.underlying37 hi hz0 hz1 hz2 rfl (by decide) v xs.length (rowS xs) hown ⟨b, 0, none⟩ 1 1 [.string t] rfl (fun j u hj => by
    rw [add_plain, blk_cell hb]
    match j, hj with
    | 0, h => exact h
    | j + 1, h => simp at h) (fun u hu => by
    simp only [List.mem_cons, List.not_mem_nil, or_false] at hu
    rcases hu with rfl; rfl) (by simp only [maxLen]; omega) (by omega) hbase
  unfold Oper.wp execOp
  simp only [ho, resolve, invoke, builtin, Sem.run_bind, Sem.run_pure, Result.andThen_ok, List.map_toArray, List.map_cons, List.map_nil, hs, hx, hr]
  refine h v1 w1 ?_ h2 ?_
  · rw [List.length_append, rowS, List.map_append]
    exact h1
  · rcases hat with hat | hat
    · exact .inl hat
    · exact .inr ⟨_, hat, Nat.le_refl _⟩
theorem rowS_slice {w : World} {base : Nat} {v : Value} {xs : List ByteArray} (h : w.ownsRow base 9 1 v xs.length (rowS xs)) : ∃ A c, v = .slice A xs.length c ∧ xs.length ≤ c ∧ Kd.C Kd.string w A xs.length xs := by
  have hR : Kd.R Kd.string 9 w base (fun _ => True) v xs := Kd.R_of_own (h1 := fun _ => rfl) h (fun _ _ => trivial)
  exact Kd.R_reads hR
/-! ### what was seen -/
structure SeenSt (W : World) (base x : Nat) (n : Int) (v : Value) (xs : List ByteArray) : Prop where
  blk : W.heap[x]? = some (.cells #[.int .i64 n, v] 80 (0, 0))
  own : W.ownsRow base 9 1 v xs.length (rowS xs)
  le : base ≤ W.heap.size
theorem SeenSt.step {W W1 : World} {base x : Nat} {n : Int} {v : Value} {xs : List ByteArray} (h : SeenSt W base x n v xs) (hb : Below W.heap.size W W1) : SeenSt W1 base x n v xs :=
  ⟨blk_below h.blk hb, pw_own_below h.own hb, Nat.le_trans h.le hb.size⟩
/-- What a call leaves of what was seen. -/
def Saw (W : World) (base x : Nat) (v : Value) (n' : Int) (xs' : List ByteArray) (e : Ending) (W' : World) : Prop :=
  e = .returned (.tuple #[]) ∧ ∃ v', SeenSt W' base x n' v' xs' ∧ (v'.ownBlock = v.ownBlock ∨ ∃ b, v'.ownBlock = some b ∧ W.heap.size ≤ b) ∧ Chg (fun k => k = x ∨ some k = v.ownBlock) W W'
theorem Saw.pre {W W1 : World} {base x : Nat} {v : Value} {n' : Int} {xs' : List ByteArray} {e : Ending} {W' : World} (hb : Below W.heap.size W W1) (h : Saw W1 base x v n' xs' e W') : Saw W base x v n' xs' e W' := by
  obtain ⟨h0, v', h1, h2, h3⟩ := h
  refine ⟨h0, v', h1, ?_, (Chg.of_below hb).step h3⟩
  rcases h2 with h2 | ⟨b, h2, h4⟩
  · exact .inl h2
  · exact .inr ⟨b, h2, Nat.le_trans hb.size h4⟩
theorem Saw.next {W W1 W2 : World} {base x : Nat} {v v1 : Value} {n' : Int} {xs' : List ByteArray} {e : Ending} (hv : v1.ownBlock = v.ownBlock ∨ ∃ b, v1.ownBlock = some b ∧ W.heap.size ≤ b) (hc : Chg (fun k => k = x ∨ some k = v.ownBlock) W W1)
    (h : Saw W1 base x v1 n' xs' e W2) : Saw W base x v n' xs' e W2 := by
  obtain ⟨h0, v', h1, h2, h3⟩ := h
  refine ⟨h0, v', h1, ?_, hc.trans h3 (fun k hk e => ?_)⟩
  · rcases h2 with h2 | ⟨b, h2, h4⟩
    · rcases hv with hv | ⟨b, hv, h5⟩
      · exact .inl (h2.trans hv)
      · exact .inr ⟨b, h2.trans hv, h5⟩
    · exact .inr ⟨b, h2, Nat.le_trans hc.size h4⟩
  · rcases e with e | e
    · exact .inl e
    · rcases hv with hv | ⟨b, hv, h5⟩
      · exact .inr (e.trans hv)
      · rw [hv] at e; injection e with e; omega
theorem Saw.keep {W W1 : World} {base x : Nat} {n : Int} {v : Value} {xs : List ByteArray} (hs : SeenSt W base x n v xs) (hc : Chg (fun k => k = x ∨ some k = v.ownBlock) W W1) {b t : Nat} {cs : Array Value} (hb : W.heap[b]? = some (.cells cs t (0, 0))) (h1 : t ≠ 80) (h2 : t ≠ 9) : W1.heap[b]? = some (.cells cs t (0, 0)) :=
  hc.heap hb (by
    rintro (e | e)
    · exact blk_ne hb hs.blk h1 e
    · exact own_ne hs.own hb (Ne.symm h2) e)
set_option maxHeartbeats 1000000 in
theorem seen_one (W : World) (base x : Nat) (n : Int) (v : Value) (xs : List ByteArray) (h : SeenSt W base x n v xs) (h0 : 0 ≤ n) (h1 : n ≤ 1000000) (cs : Array Value) :
    Calls Try.prog 32 #[.pointer (some ⟨x, 0, none⟩), .agg cs] W (Saw W base x v (n + 1) xs) := by
  have HS := Aside0.mk h
  have y0 := (blk_cell h.blk 0).trans rfl
  have hlt := blk_lt h.blk
  have hfr := blk_frozen h.blk 0
  clear h
  go_enter Try.func32, Try.ntmps32
  go_wp2
  go_end0
  have b1 := blk_put HS.out.blk 0 (.int .i64 (n + 1)) rfl
  refine ⟨rfl, v, ⟨blk_alloc b1 _, pw_own_below (own_setCell HS.out.own (fun e => own_ne HS.out.own HS.out.blk (by decide) e) _) (below_alloc (Below.refl _ _) _), ?_⟩, .inl rfl, ((Chg.refl (fun k => k = x ∨ some k = v.ownBlock) W).setCell (p := ⟨x, 0, none⟩) (.inl rfl) _).alloc _⟩
  have := HS.out.le
  simp
  omega
def regs1 (xs : List ByteArray) (k : Int) (r : ByteArray) : List ByteArray := if (regF k && !(hasB xs r)) = true then xs ++ [r] else xs
theorem saw_append (W W2 w1 : World) (base x : Nat) (n : Int) (v v' : Value) (xs : List ByteArray) (r : ByteArray) (hW : Below W.heap.size W W2) (h : SeenSt W base x n v xs) (h1 : w1.ownsRow base 9 1 v' (xs ++ [r]).length (rowS (xs ++ [r]))) (h2 : W2.grownBy w1 v.ownBlock)
    (h3 : v'.ownBlock = v.ownBlock ∨ ∃ b, v'.ownBlock = some b ∧ W2.heap.size ≤ b) : Saw W base x v n (xs ++ [r]) (.returned (.tuple #[])) (w1.setCell ⟨x, 1, none⟩ v') := by
  have hrx := own_ne h.own h.blk (by decide)
  have hx2 : w1.heap[x]? = some (.cells #[.int .i64 n, v] 80 (0, 0)) := blk_grown (blk_below h.blk hW) h2 hrx
  refine ⟨rfl, v', ⟨blk_put hx2 1 v' rfl, own_setCell h1 (fun e => own_ne h1 hx2 (by decide) e) v', ?_⟩, ?_, ((Chg.of_below hW).trans (Chg.grown (F := fun k => k = x ∨ some k = v.ownBlock) h2 (fun k hk => .inr hk.symm)) (fun _ _ e => e)).setCell (.inl rfl) v'⟩
  · have a := h.le; have b := hW.size; have c := h2.size; rw [World.size_setCell]; omega
  · rcases h3 with h | ⟨b, hb, hle⟩
    · exact .inl h
    · exact .inr ⟨b, hb, Nat.le_trans hW.size hle⟩
set_option maxHeartbeats 4000000 in
set_option maxRecDepth 100000 in
theorem seen_reg_no (W : World) (base x : Nat) (n : Int) (v : Value) (xs : List ByteArray) (h : SeenSt W base x n v xs) (hn : xs.length ≤ 1000) (k : Int) (r : ByteArray) (v1 v3 v4 v5 v6 : Value) (hr : regF k = false) :
    Calls Try.prog 33 #[.pointer (some ⟨x, 0, none⟩), .agg #[.int .i64 k, v1, .string r, v3, v4, v5, v6]] W (Saw W base x v n (xs)) := by
  have HS := Aside0.mk (And.intro h hn)
  have HH := Aside0.mk hr
  have hlt := blk_lt h.blk
  clear h hn
  go_enter Try.func33, Try.ntmps33
  go_wp2_with fail
  have HX := Aside0.mk (blk_new W (.cells #[.int .i64 k, v1, .string r, v3, v4, v5, v6] 55 (0, 0)))
  refine (shape_any _ k).mono ?_
  rintro e w1 ⟨A, c, rfl, hsc, hsl, hb⟩
  have HB := Aside0.mk (below_step (below_alloc (Below.refl _ _) _) hb)
  have HX := Aside0.mk (blk_below HX.out hb)
  rw [hr]
  clear hsc hsl hb hr
  go_wp2
  go_quiet (fail)
  go_wp2
  go_end0
  obtain ⟨A0, c0, rfl, _, _⟩ := rowS_slice HS.out.1.own
  exact ⟨rfl, _, HS.out.1.step (pw_below_drewN (below_alloc HB.out _) _), .inl rfl, Chg.of_below (pw_below_drewN (below_alloc HB.out _) _)⟩
set_option maxHeartbeats 4000000 in
set_option maxRecDepth 100000 in
theorem seen_reg_old (W : World) (base x : Nat) (n : Int) (v : Value) (xs : List ByteArray) (h : SeenSt W base x n v xs) (hn : xs.length ≤ 1000) (k : Int) (r : ByteArray) (v1 v3 v4 v5 v6 : Value) (hr : regF k = true) (hh : hasB xs r = true) :
    Calls Try.prog 33 #[.pointer (some ⟨x, 0, none⟩), .agg #[.int .i64 k, v1, .string r, v3, v4, v5, v6]] W (Saw W base x v n (xs)) := by
  have HS := Aside0.mk (And.intro h hn)
  have HH := Aside0.mk hr
  have hlt := blk_lt h.blk
  clear h hn
  have HK := Aside0.mk hh
  clear hh
  go_enter Try.func33, Try.ntmps33
  go_wp2_with fail
  have HX := Aside0.mk (blk_new W (.cells #[.int .i64 k, v1, .string r, v3, v4, v5, v6] 55 (0, 0)))
  refine (shape_any _ k).mono ?_
  rintro e w1 ⟨A, c, rfl, hsc, hsl, hb⟩
  have HB := Aside0.mk (below_step (below_alloc (Below.refl _ _) _) hb)
  have HX := Aside0.mk (blk_below HX.out hb)
  rw [hr]
  clear hsc hsl hb hr
  obtain ⟨A0, c0, hv, hc0, hC⟩ := rowS_slice (HS.out.1.step HB.out).own
  have x1 := (blk_cell (HS.out.1.step HB.out).blk 1).trans rfl
  have HV := Aside0.mk (And.intro hv (And.intro hc0 hC))
  rw [hv] at x1
  clear hv hc0 hC
  have x2 := (blk_cell HX.out 2).trans rfl
  have hx1 := World.block_lt_of_cell? _ _ x1
  have hx2 := World.block_lt_of_cell? _ _ x2
  dsimp only at hx1 hx2
  have x3 := new_cell5 w1 (.slice A (modesF k).length c) (.int .i64 (argsF k)) (.bool true) (.bool (locF k)) (.bool (bodyF k)) 104
  have hcon : ∀ m, Calls Try.prog 52 #[.slice A0 xs.length c0, .string r] ((w1.alloc (.cells #[.slice A (modesF k).length c, .int .i64 (argsF k), .bool true, .bool (locF k), .bool (bodyF k)] 104 (0, 0))).drewN m) fun e w' => e = .returned (.bool true) ∧ ∃ n, w' = ((w1.alloc (.cells #[.slice A (modesF k).length c, .int .i64 (argsF k), .bool true, .bool (locF k), .bool (bodyF k)] 104 (0, 0))).drewN m).drewN n := fun m =>
    (slices_Contains_string_string.calls 1002 A0 c0 xs r _ _ (Kd.C_drewN (Kd.C_alloc HV.out.2.2 _) _) HV.out.2.1 (by rw [contains_str xs r HS.out.2, HK.out])).mono fun _ _ ⟨h1, ⟨n, h2⟩⟩ => ⟨h1, n, h2⟩
  have HCN := Aside0.mk hcon
  clear hcon
  go_wp2
  go_quiet ((go_at_call 52; exact Calls.quiet_of (HCN.out _)))
  go_wp2
  go_end0
  exact ⟨rfl, v, HS.out.1.step (pw_below_drewN (below_alloc HB.out _) _), .inl rfl, Chg.of_below (pw_below_drewN (below_alloc HB.out _) _)⟩
set_option maxHeartbeats 4000000 in
set_option maxRecDepth 100000 in
theorem seen_reg_new (W : World) (base x : Nat) (n : Int) (v : Value) (xs : List ByteArray) (h : SeenSt W base x n v xs) (hn : xs.length ≤ 1000) (k : Int) (r : ByteArray) (v1 v3 v4 v5 v6 : Value) (hr : regF k = true) (hh : hasB xs r = false) :
    Calls Try.prog 33 #[.pointer (some ⟨x, 0, none⟩), .agg #[.int .i64 k, v1, .string r, v3, v4, v5, v6]] W (Saw W base x v n (xs ++ [r])) := by
  have HS := Aside0.mk (And.intro h hn)
  have HH := Aside0.mk hr
  have hlt := blk_lt h.blk
  clear h hn
  have HK := Aside0.mk hh
  clear hh
  go_enter Try.func33, Try.ntmps33
  go_wp2_with fail
  have HX := Aside0.mk (blk_new W (.cells #[.int .i64 k, v1, .string r, v3, v4, v5, v6] 55 (0, 0)))
  refine (shape_any _ k).mono ?_
  rintro e w1 ⟨A, c, rfl, hsc, hsl, hb⟩
  have HB := Aside0.mk (below_step (below_alloc (Below.refl _ _) _) hb)
  have HX := Aside0.mk (blk_below HX.out hb)
  rw [hr]
  clear hsc hsl hb hr
  obtain ⟨A0, c0, hv, hc0, hC⟩ := rowS_slice (HS.out.1.step HB.out).own
  have x1 := (blk_cell (HS.out.1.step HB.out).blk 1).trans rfl
  have HV := Aside0.mk (And.intro hv (And.intro hc0 hC))
  rw [hv] at x1
  clear hv hc0 hC
  have x2 := (blk_cell HX.out 2).trans rfl
  have hx1 := World.block_lt_of_cell? _ _ x1
  have hx2 := World.block_lt_of_cell? _ _ x2
  dsimp only at hx1 hx2
  have x3 := new_cell5 w1 (.slice A (modesF k).length c) (.int .i64 (argsF k)) (.bool true) (.bool (locF k)) (.bool (bodyF k)) 104
  have hcon : ∀ m, Calls Try.prog 52 #[.slice A0 xs.length c0, .string r] ((w1.alloc (.cells #[.slice A (modesF k).length c, .int .i64 (argsF k), .bool true, .bool (locF k), .bool (bodyF k)] 104 (0, 0))).drewN m) fun e w' => e = .returned (.bool false) ∧ ∃ n, w' = ((w1.alloc (.cells #[.slice A (modesF k).length c, .int .i64 (argsF k), .bool true, .bool (locF k), .bool (bodyF k)] 104 (0, 0))).drewN m).drewN n := fun m =>
    (slices_Contains_string_string.calls 1002 A0 c0 xs r _ _ (Kd.C_drewN (Kd.C_alloc HV.out.2.2 _) _) HV.out.2.1 (by rw [contains_str xs r HS.out.2, HK.out])).mono fun _ _ ⟨h1, ⟨n, h2⟩⟩ => ⟨h1, n, h2⟩
  have HCN := Aside0.mk hcon
  clear hcon
  go_wp2
  go_quiet ((go_at_call 52; exact Calls.quiet_of (HCN.out _)))
  go_wp2
  have HW := Aside0.mk (pw_below_drewN (below_alloc HB.out (.cells #[.slice A (modesF k).length c, .int .i64 (argsF k), .bool true, .bool (locF k), .bool (bodyF k)] 104 (0, 0))) nq)
  replace x1 := pw_cell_below (pw_below_drewN (below_alloc (Below.refl _ _) (.cells #[.slice A (modesF k).length c, .int .i64 (argsF k), .bool true, .bool (locF k), .bool (bodyF k)] 104 (0, 0))) nq) x1
  replace x2 := pw_cell_below (pw_below_drewN (below_alloc (Below.refl _ _) (.cells #[.slice A (modesF k).length c, .int .i64 (argsF k), .bool true, .bool (locF k), .bool (bodyF k)] 104 (0, 0))) nq) x2
  clear HCN x3 hx1 hx2
  generalize ((w1.alloc (.cells #[.slice A (modesF k).length c, .int .i64 (argsF k), .bool true, .bool (locF k), .bool (bodyF k)] 104 (0, 0))).drewN nq) = wd at HW x1 x2 ⊢
  have hx1 := World.block_lt_of_cell? _ _ x1
  have hx2 := World.block_lt_of_cell? _ _ x2
  dsimp only at hx1 hx2
  have HSD := Aside0.mk (HS.out.1.step HW.out)
  have hbs : base ≤ wd.heap.size := HSD.out.le
  have hn1 : xs.length < 1000000 := by have := HS.out.2; omega
  obtain ⟨v0, hv0⟩ : ∃ v0, v0 = v := ⟨_, rfl⟩
  have HV0 := Aside0.mk (And.intro hv0 HV.out.1)
  clear hv0
  go_region_law (refine step_append_str rfl (.tmp 28) (.tmp 31) rfl base (.slice A0 xs.length c0) xs r (by simp [Act.eval, Act.put]) (by rw [← HV.out.1]; exact pw_own_below HSD.out.own (below_drew (below_alloc (Below.refl _ _) _))) wd.heap.size (by simp [Act.eval, Act.put]) (by rw [drew_at]; exact blk_new wd _) hn1 (by simp; omega) ?_; intro v' w3 h1 h2 h3; obtain ⟨A1, c1, hva, _, _⟩ := rowS_slice h1; subst hva; rw [← HV.out.1] at h2 h3; have hq1 := blk_grown (blk_below HSD.out.blk (below_drew (below_alloc (Below.refl _ _) _))) h2 (own_ne HSD.out.own HSD.out.blk (by decide)); have hc1 := (blk_cell hq1 1).trans rfl; have hf1 := blk_frozen hq1 1; have HP := Aside0.mk (saw_append W _ w3 base x n v _ xs r (below_step HW.out (below_drew (below_alloc (Below.refl _ _) _))) HS.out.1 h1 h2 h3); clear h1 h2 h3 hq1)
  all_goals
    go_end0
    have hp := HP.out
    simp only [List.length_append, List.length_cons, List.length_nil, Nat.zero_add] at hp
    exact hp
theorem seen_reg (W : World) (base x : Nat) (n : Int) (v : Value) (xs : List ByteArray) (h : SeenSt W base x n v xs) (hn : xs.length ≤ 1000) (k : Int) (r : ByteArray) (v1 v3 v4 v5 v6 : Value) :
    Calls Try.prog 33 #[.pointer (some ⟨x, 0, none⟩), .agg #[.int .i64 k, v1, .string r, v3, v4, v5, v6]] W (Saw W base x v n (regs1 xs k r)) := by
  unfold regs1
  cases h1 : regF k with
  | false => rw [if_neg (by simp)]; exact seen_reg_no W base x n v xs h hn k r v1 v3 v4 v5 v6 h1
  | true =>
    cases h2 : hasB xs r with
    | true => rw [if_neg (by simp)]; exact seen_reg_old W base x n v xs h hn k r v1 v3 v4 v5 v6 h1 h2
    | false => rw [if_pos (by simp)]; exact seen_reg_new W base x n v xs h hn k r v1 v3 v4 v5 v6 h1 h2
/-! ### through statements -/
mutual
def cntS : TStmt → Nat
  | ⟨_, _, _, _, _, t, e⟩ => 1 + cntL t + cntL e
def cntL : List TStmt → Nat
  | [] => 0
  | s :: ss => cntS s + cntL ss
end
mutual
def regsS (xs : List ByteArray) : TStmt → List ByteArray
  | ⟨k, _, r, _, _, t, e⟩ => regsL (regsL (regs1 xs k r) t) e
def regsL (xs : List ByteArray) : List TStmt → List ByteArray
  | [] => xs
  | s :: ss => regsL (regsS xs s) ss
end
theorem regs1_len (xs : List ByteArray) (k : Int) (r : ByteArray) : (regs1 xs k r).length ≤ xs.length + 1 := by
  unfold regs1; split
  · simp
  · omega
mutual
theorem regsS_len : ∀ (xs : List ByteArray) (s : TStmt), (regsS xs s).length ≤ xs.length + cntS s
  | xs, ⟨k, _, r, _, _, t, e⟩ => by
    have h1 := regs1_len xs k r
    have h2 := regsL_len (regs1 xs k r) t
    have h3 := regsL_len (regsL (regs1 xs k r) t) e
    rw [regsS, cntS]
    omega
theorem regsL_len : ∀ (xs : List ByteArray) (l : List TStmt), (regsL xs l).length ≤ xs.length + cntL l
  | xs, [] => by rw [regsL]; omega
  | xs, s :: ss => by
    have h1 := regsS_len xs s
    have h2 := regsL_len (regsS xs s) ss
    rw [regsL, cntL]
    omega
end
theorem regsL_snoc : ∀ (l : List TStmt) (xs : List ByteArray) (s : TStmt), regsL xs (l ++ [s]) = regsS (regsL xs l) s
  | [], xs, s => by rw [List.nil_append, regsL, regsL, regsL]
  | y :: ys, xs, s => by rw [List.cons_append, regsL, regsL, regsL_snoc]
theorem regsL_take (l : List TStmt) (xs : List ByteArray) (i : Nat) (hi : i < l.length) : regsL xs (l.take (i + 1)) = regsS (regsL xs (l.take i)) l[i] := by
  rw [List.take_succ_eq_append_getElem hi, regsL_snoc]
theorem cntL_snoc : ∀ (l : List TStmt) (s : TStmt), cntL (l ++ [s]) = cntL l + cntS s
  | [], s => by rw [List.nil_append, cntL, cntL, cntL]; omega
  | y :: ys, s => by rw [List.cons_append, cntL, cntL, cntL_snoc]; omega
theorem cntL_app : ∀ (l m : List TStmt), cntL (l ++ m) = cntL l + cntL m
  | [], m => by rw [List.nil_append, cntL]; omega
  | y :: ys, m => by rw [List.cons_append, cntL, cntL, cntL_app]; omega
theorem cntL_take (l : List TStmt) (i : Nat) (hi : i < l.length) : cntL (l.take (i + 1)) = cntL (l.take i) + cntS l[i] ∧ cntL (l.take (i + 1)) ≤ cntL l := by
  refine ⟨by rw [List.take_succ_eq_append_getElem hi, cntL_snoc], ?_⟩
  have := cntL_app (l.take (i + 1)) (l.drop (i + 1))
  rw [List.take_append_drop] at this
  omega
theorem sizeS (l : List TStmt) (i : Nat) (hi : i < l.length) : SizeOf.sizeOf l[i].f5 < SizeOf.sizeOf l ∧ SizeOf.sizeOf l[i].f6 < SizeOf.sizeOf l ∧ SizeOf.sizeOf l[i].f4 < SizeOf.sizeOf l := by
  have h := List.sizeOf_lt_of_mem (List.getElem_mem hi)
  have k : ∀ s : TStmt, SizeOf.sizeOf s.f5 < SizeOf.sizeOf s ∧ SizeOf.sizeOf s.f6 < SizeOf.sizeOf s ∧ SizeOf.sizeOf s.f4 < SizeOf.sizeOf s := by
    rintro ⟨_, _, _, _, _, _, _⟩
    simp
    omega
  have := k l[i]
  omega
theorem cntS_def (s : TStmt) : cntS s = 1 + cntL s.f5 + cntL s.f6 := by cases s; rw [cntS]
theorem regsS_def (xs : List ByteArray) (s : TStmt) : regsS xs s = regsL (regsL (regs1 xs s.f0 s.f2) s.f5) s.f6 := by cases s; rw [regsS]
theorem Saw.below {w0 W W' : World} {base x : Nat} {n n' : Int} {v : Value} {xs xs' : List ByteArray} {e : Ending} (hB : base = w0.heap.size) (hx : base ≤ x) (hb : Below w0.heap.size w0 W) (hs : SeenSt W base x n v xs) (h : Saw W base x v n' xs' e W') : Below w0.heap.size w0 W' := by
  obtain ⟨_, v', _, _, h3⟩ := h
  refine hb.trans (h3.below hb.size (fun k hk => ?_))
  rcases hk with hk | hk
  · omega
  · have := (hs.own.lt k hk.symm).1; omega
/-- What going through statements leaves, for all lists of a size. -/
def WalkReg (w0 : World) (base x : Nat) (N : Nat) : Prop := ∀ (l : List TStmt), SizeOf.sizeOf l < N → ∀ (W : World) (n : Int) (v : Value) (xs : List ByteArray) (A : Option Addr) (c : Nat), SeenSt W base x n v xs → Below w0.heap.size w0 W → Kd.C kStmt w0 A l.length l → smSs l → l.length ≤ 1000 → xs.length + cntL l ≤ 1000 →
    Calls Try.prog 31 #[.slice A l.length c, .func (.func 33) #[.pointer (some ⟨x, 0, none⟩)] #[]] W (Saw W base x v n (regsL xs l))
set_option maxHeartbeats 8000000 in
set_option maxRecDepth 100000 in
theorem walkReg_step (w0 : World) (base x : Nat) (hbase : base = w0.heap.size) (hbx : base ≤ x) (N : Nat) (ih : WalkReg w0 base x N) : WalkReg w0 base x (N + 1) := by
  intro l hN W n v xs A c hs hb hC hsm hlen hcn
  have HI := Aside0.mk ih
  have HB := Aside0.mk (And.intro hbase hbx)
  have HS := Aside0.mk (And.intro hs hb)
  have HC := Aside0.mk (And.intro hC (And.intro hsm (And.intro hN hcn)))
  clear ih hbase hbx hs hb hC hsm hN hcn
  go_enter Try.func31, Try.ntmps31
  go_wp2
  go_loopw [8] (fun v8 wr => ∃ (i : Nat) (v' : Value), i ≤ l.length ∧ v8 = .int .i64 i ∧ Aside0 (SeenSt wr base x n v' (regsL xs (l.take i)) ∧ (v'.ownBlock = v.ownBlock ∨ ∃ b, v'.ownBlock = some b ∧ W.heap.size ≤ b) ∧ Chg (fun k => k = x ∨ some k = v.ownBlock) W wr ∧ Below w0.heap.size w0 wr)) (fun v8 _ => l.length - (intOf v8).toNat)
  case atStart => exact ⟨0, v, Nat.zero_le _, rfl, ⟨by rw [List.take_zero, regsL]; exact HS.out.1, .inl rfl, Chg.refl _ _, HS.out.2⟩⟩
  case round =>
    obtain ⟨i, v', hi, rfl, HR⟩ := hrel
    by_cases hlt : i < l.length
    · have e1 : decide ((i : Int) < (l.length : Int)) = true := decide_eq_true (by omega)
      have e2 : decide (i < l.length) = true := decide_eq_true hlt
      obtain ⟨ad, A4, c4, A5, c5, A6, c6, hA, h0, h1, h2, h3, h4, h5, h6, hl4, hk4, hl5, hk5, hl6, hk6⟩ := at_T55 HC.out.1 (i : Int) (by omega) (by omega)
      have HG := Aside0.mk (And.intro hk5 (And.intro hk6 (rdS_eq l i hlt)))
      have HM := Aside0.mk ((smS_def _).1 (smSs_get l i hlt HC.out.2.1))
      have HZ := Aside0.mk (sizeS l i hlt)
      have HT := Aside0.mk (cntL_take l i hlt)
      clear hl4 hk4 hl5 hk5 hl6 hk6
      subst hA
      rw [Int.toNat_natCast] at h0 h1 h2 h3 h4 h5 h6
      replace h0 := pw_cell_below HR.out.2.2.2 h0
      replace h1 := pw_cell_below HR.out.2.2.2 h1
      replace h2 := pw_cell_below HR.out.2.2.2 h2
      replace h3 := pw_cell_below HR.out.2.2.2 h3
      replace h4 := pw_cell_below HR.out.2.2.2 h4
      replace h5 := pw_cell_below HR.out.2.2.2 h5
      replace h6 := pw_cell_below HR.out.2.2.2 h6
      rw [HG.out.2.2] at h0 h1 h2 h3 h4 h5 h6
      go_wp2_with fail
      refine (seen_reg _ base x n v' (regsL xs (l.take i)) (HR.out.1.step (below_alloc (Below.refl _ _) _)) (by have := regsL_len xs (l.take i); have := HT.out; have := HC.out.2.2.2; omega) l[i].f0 l[i].f2 _ _ _ _ _).mono ?_
      rintro e w1 hw1
      obtain rfl := hw1.1
      have HR1 := Aside0.mk (Saw.next HR.out.2.1 HR.out.2.2.1 (Saw.pre (below_alloc (Below.refl _ _) _) hw1))
      have HX := Aside0.mk (Saw.keep (HR.out.1.step (below_alloc (Below.refl _ _) _)) (by obtain ⟨_, _, _, _, q⟩ := hw1; exact q) (blk_new wr _) (by decide) (by decide))
      have HB1 := Aside0.mk (Saw.below HB.out.1 HB.out.2 HR.out.2.2.2 HR.out.1 (Saw.pre (below_alloc (Below.refl _ _) _) hw1))
      clear hw1 h0 h1 h2 h3 h4 h5 h6
      obtain ⟨v1, s1, o1, g1⟩ := HR1.out.2
      have HS1 := Aside0.mk (And.intro s1 (And.intro o1 g1))
      clear s1 o1 g1 HR1
      have x5 := (blk_cell HX.out 5).trans rfl
      go_wp2_with fail
      refine (HI.out l[i].f5 (by have := HZ.out; have := HC.out.2.2.1; omega) w1 _ v1 _ A5 c5 HS1.out.1 HB1.out (by have q := HG.out.1; rw [HG.out.2.2] at q; exact q) HM.out.2.2.2.2.2.1 HM.out.2.2.2.2.1 (by have := regs1_len (regsL xs (l.take i)) l[i].f0 l[i].f2; have := regsL_len xs (l.take i); have := HT.out; have := HC.out.2.2.2; have q : cntS l[i] = 1 + cntL l[i].f5 + cntL l[i].f6 := cntS_def _; omega)).mono ?_
      rintro e w2 hw2
      obtain rfl := hw2.1
      have HR2 := Aside0.mk (Saw.next HS1.out.2.1 HS1.out.2.2 hw2)
      have HX := Aside0.mk (Saw.keep HS1.out.1 (by obtain ⟨_, _, _, _, q⟩ := hw2; exact q) HX.out (by decide) (by decide))
      have HB2 := Aside0.mk (Saw.below HB.out.1 HB.out.2 HB1.out HS1.out.1 hw2)
      clear hw2 x5
      obtain ⟨v2, s2, o2, g2⟩ := HR2.out.2
      have HS2 := Aside0.mk (And.intro s2 (And.intro o2 g2))
      clear s2 o2 g2 HR2
      have x6 := (blk_cell HX.out 6).trans rfl
      go_wp2_with fail
      refine (HI.out l[i].f6 (by have := HZ.out; have := HC.out.2.2.1; omega) w2 _ v2 _ A6 c6 HS2.out.1 HB2.out (by have q := HG.out.2.1; rw [HG.out.2.2] at q; exact q) HM.out.2.2.2.2.2.2.2 HM.out.2.2.2.2.2.2.1 (by have := regs1_len (regsL xs (l.take i)) l[i].f0 l[i].f2; have := regsL_len (regs1 (regsL xs (l.take i)) l[i].f0 l[i].f2) l[i].f5; have := regsL_len xs (l.take i); have := HT.out; have := HC.out.2.2.2; have q : cntS l[i] = 1 + cntL l[i].f5 + cntL l[i].f6 := cntS_def _; omega)).mono ?_
      rintro e w3 hw3
      obtain rfl := hw3.1
      have HR3 := Aside0.mk (Saw.next HS2.out.2.1 HS2.out.2.2 hw3)
      have HB3 := Aside0.mk (Saw.below HB.out.1 HB.out.2 HB2.out HS2.out.1 hw3)
      clear hw3 x6
      obtain ⟨v3, s3, o3, g3⟩ := HR3.out.2
      have HS3 := Aside0.mk (And.intro s3 (And.intro o3 (And.intro g3 HB3.out)))
      clear s3 o3 g3 HR3
      have HF : Aside0 (SeenSt w3 base x n v3 (regsL xs (l.take (i + 1)))) := ⟨by
        have q := HS3.out.1
        rw [regsL_take l xs i hlt, regsS_def]; exact q⟩
      go_wp2
      go_roundw
      case rel => exact ⟨i + 1, v3, by omega, by go_num, ⟨HF.out, HS3.out.2⟩⟩
      case measure => simp [intOf]; omega
    · have e1 : decide ((i : Int) < (l.length : Int)) = false := decide_eq_false (by omega)
      have e2 : decide (i < l.length) = false := decide_eq_false hlt
      obtain rfl : i = l.length := by omega
      go_wp2
      go_end0
      exact ⟨rfl, v', by have := HR.out.1; rw [List.take_length] at this; exact this, HR.out.2.1, HR.out.2.2.1⟩
/-- What going through statements leaves, for all lists of a size. -/
def WalkOne (w0 : World) (base x : Nat) (N : Nat) : Prop := ∀ (l : List TStmt), SizeOf.sizeOf l < N → ∀ (W : World) (n : Int) (v : Value) (xs : List ByteArray) (A : Option Addr) (c : Nat), SeenSt W base x n v xs → Below w0.heap.size w0 W → Kd.C kStmt w0 A l.length l → smSs l → l.length ≤ 1000 → 0 ≤ n → n + cntL l ≤ 1000000 →
    Calls Try.prog 31 #[.slice A l.length c, .func (.func 32) #[.pointer (some ⟨x, 0, none⟩)] #[]] W (Saw W base x v (n + (cntL l : Int)) xs)
set_option maxHeartbeats 8000000 in
set_option maxRecDepth 100000 in
theorem walkOne_step (w0 : World) (base x : Nat) (hbase : base = w0.heap.size) (hbx : base ≤ x) (N : Nat) (ih : WalkOne w0 base x N) : WalkOne w0 base x (N + 1) := by
  intro l hN W n v xs A c hs hb hC hsm hlen hn0 hcn
  have HI := Aside0.mk ih
  have HB := Aside0.mk (And.intro hbase hbx)
  have HS := Aside0.mk (And.intro hs hb)
  have HC := Aside0.mk (And.intro hC (And.intro hsm (And.intro hN (And.intro hn0 hcn))))
  clear ih hbase hbx hs hb hC hsm hN hn0 hcn
  go_enter Try.func31, Try.ntmps31
  go_wp2
  go_loopw [8] (fun v8 wr => ∃ (i : Nat) (v' : Value), i ≤ l.length ∧ v8 = .int .i64 i ∧ Aside0 (SeenSt wr base x (n + (cntL (l.take i) : Int)) v' xs ∧ (v'.ownBlock = v.ownBlock ∨ ∃ b, v'.ownBlock = some b ∧ W.heap.size ≤ b) ∧ Chg (fun k => k = x ∨ some k = v.ownBlock) W wr ∧ Below w0.heap.size w0 wr)) (fun v8 _ => l.length - (intOf v8).toNat)
  case atStart => exact ⟨0, v, Nat.zero_le _, rfl, ⟨by rw [List.take_zero, cntL]; simpa using HS.out.1, .inl rfl, Chg.refl _ _, HS.out.2⟩⟩
  case round =>
    obtain ⟨i, v', hi, rfl, HR⟩ := hrel
    by_cases hlt : i < l.length
    · have e1 : decide ((i : Int) < (l.length : Int)) = true := decide_eq_true (by omega)
      have e2 : decide (i < l.length) = true := decide_eq_true hlt
      obtain ⟨ad, A4, c4, A5, c5, A6, c6, hA, h0, h1, h2, h3, h4, h5, h6, hl4, hk4, hl5, hk5, hl6, hk6⟩ := at_T55 HC.out.1 (i : Int) (by omega) (by omega)
      have HG := Aside0.mk (And.intro hk5 (And.intro hk6 (rdS_eq l i hlt)))
      have HM := Aside0.mk ((smS_def _).1 (smSs_get l i hlt HC.out.2.1))
      have HZ := Aside0.mk (sizeS l i hlt)
      have HT := Aside0.mk (cntL_take l i hlt)
      clear hl4 hk4 hl5 hk5 hl6 hk6
      subst hA
      rw [Int.toNat_natCast] at h0 h1 h2 h3 h4 h5 h6
      replace h0 := pw_cell_below HR.out.2.2.2 h0
      replace h1 := pw_cell_below HR.out.2.2.2 h1
      replace h2 := pw_cell_below HR.out.2.2.2 h2
      replace h3 := pw_cell_below HR.out.2.2.2 h3
      replace h4 := pw_cell_below HR.out.2.2.2 h4
      replace h5 := pw_cell_below HR.out.2.2.2 h5
      replace h6 := pw_cell_below HR.out.2.2.2 h6
      rw [HG.out.2.2] at h0 h1 h2 h3 h4 h5 h6
      go_wp2_with fail
      refine (seen_one _ base x _ v' xs (HR.out.1.step (below_alloc (Below.refl _ _) _)) (by have := HC.out.2.2.2; omega) (by have := HT.out; have := HC.out.2.2.2; omega) _).mono ?_
      rintro e w1 hw1
      obtain rfl := hw1.1
      have HR1 := Aside0.mk (Saw.next HR.out.2.1 HR.out.2.2.1 (Saw.pre (below_alloc (Below.refl _ _) _) hw1))
      have HX := Aside0.mk (Saw.keep (HR.out.1.step (below_alloc (Below.refl _ _) _)) (by obtain ⟨_, _, _, _, q⟩ := hw1; exact q) (blk_new wr _) (by decide) (by decide))
      have HB1 := Aside0.mk (Saw.below HB.out.1 HB.out.2 HR.out.2.2.2 HR.out.1 (Saw.pre (below_alloc (Below.refl _ _) _) hw1))
      clear hw1 h0 h1 h2 h3 h4 h5 h6
      obtain ⟨v1, s1, o1, g1⟩ := HR1.out.2
      have HS1 := Aside0.mk (And.intro s1 (And.intro o1 g1))
      clear s1 o1 g1 HR1
      have x5 := (blk_cell HX.out 5).trans rfl
      go_wp2_with fail
      refine (HI.out l[i].f5 (by have := HZ.out; have := HC.out.2.2.1; omega) w1 _ v1 _ A5 c5 HS1.out.1 HB1.out (by have q := HG.out.1; rw [HG.out.2.2] at q; exact q) HM.out.2.2.2.2.2.1 HM.out.2.2.2.2.1 (by have := HC.out.2.2.2; omega) (by have := HT.out; have := HC.out.2.2.2; have q : cntS l[i] = 1 + cntL l[i].f5 + cntL l[i].f6 := cntS_def _; omega)).mono ?_
      rintro e w2 hw2
      obtain rfl := hw2.1
      have HR2 := Aside0.mk (Saw.next HS1.out.2.1 HS1.out.2.2 hw2)
      have HX := Aside0.mk (Saw.keep HS1.out.1 (by obtain ⟨_, _, _, _, q⟩ := hw2; exact q) HX.out (by decide) (by decide))
      have HB2 := Aside0.mk (Saw.below HB.out.1 HB.out.2 HB1.out HS1.out.1 hw2)
      clear hw2 x5
      obtain ⟨v2, s2, o2, g2⟩ := HR2.out.2
      have HS2 := Aside0.mk (And.intro s2 (And.intro o2 g2))
      clear s2 o2 g2 HR2
      have x6 := (blk_cell HX.out 6).trans rfl
      go_wp2_with fail
      refine (HI.out l[i].f6 (by have := HZ.out; have := HC.out.2.2.1; omega) w2 _ v2 _ A6 c6 HS2.out.1 HB2.out (by have q := HG.out.2.1; rw [HG.out.2.2] at q; exact q) HM.out.2.2.2.2.2.2.2 HM.out.2.2.2.2.2.2.1 (by have := HC.out.2.2.2; omega) (by have := HT.out; have := HC.out.2.2.2; have q : cntS l[i] = 1 + cntL l[i].f5 + cntL l[i].f6 := cntS_def _; omega)).mono ?_
      rintro e w3 hw3
      obtain rfl := hw3.1
      have HR3 := Aside0.mk (Saw.next HS2.out.2.1 HS2.out.2.2 hw3)
      have HB3 := Aside0.mk (Saw.below HB.out.1 HB.out.2 HB2.out HS2.out.1 hw3)
      clear hw3 x6
      obtain ⟨v3, s3, o3, g3⟩ := HR3.out.2
      have HS3 := Aside0.mk (And.intro s3 (And.intro o3 (And.intro g3 HB3.out)))
      clear s3 o3 g3 HR3
      have HF : Aside0 (SeenSt w3 base x (n + (cntL (l.take (i + 1)) : Int)) v3 xs) := ⟨by
        have q := HS3.out.1
        have q2 := HT.out.1; have q3 : cntS l[i] = 1 + cntL l[i].f5 + cntL l[i].f6 := cntS_def _; have q4 : n + (cntL (l.take (i + 1)) : Int) = n + (cntL (l.take i) : Int) + 1 + (cntL l[i].f5 : Int) + (cntL l[i].f6 : Int) := by omega
        rw [q4]; exact q⟩
      go_wp2
      go_roundw
      case rel => exact ⟨i + 1, v3, by omega, by go_num, ⟨HF.out, HS3.out.2⟩⟩
      case measure => simp [intOf]; omega
    · have e1 : decide ((i : Int) < (l.length : Int)) = false := decide_eq_false (by omega)
      have e2 : decide (i < l.length) = false := decide_eq_false hlt
      obtain rfl : i = l.length := by omega
      go_wp2
      go_end0
      exact ⟨rfl, v', by have := HR.out.1; rw [List.take_length] at this; exact this, HR.out.2.1, HR.out.2.2.1⟩
end Go.Proofs.Ytlhbnbckanmaiaa.K
namespace Go.Proofs.Ytlhbnbckanmaiaa.K
open Go Go.RowKit Go.Proofs.YtlhbnbckanmaiaaW.PrintWords Go.Proofs.YtlhbnbckanmaiaaW.PrintLast Go.Proofs.YtlhbnbckanmaiaaW.PrintMore Go.Proofs.Ytlhbnbckanmaiaa.PC1
set_option linter.unusedVariables false
set_option linter.unusedSimpArgs false
theorem walk_reg (w0 : World) (base x : Nat) (hbase : base = w0.heap.size) (hbx : base ≤ x) : ∀ N, WalkReg w0 base x N
  | 0 => fun l hN => by omega
  | N + 1 => walkReg_step w0 base x hbase hbx N (walk_reg w0 base x hbase hbx N)
theorem walk_one (w0 : World) (base x : Nat) (hbase : base = w0.heap.size) (hbx : base ≤ x) : ∀ N, WalkOne w0 base x N
  | 0 => fun l hN => by omega
  | N + 1 => walkOne_step w0 base x hbase hbx N (walk_one w0 base x hbase hbx N)
theorem seen_new (W : World) : SeenSt (W.alloc (.cells #[.int .i64 0, .slice none 0 0] 80 (0, 0))) W.heap.size W.heap.size 0 (.slice none 0 0) [] :=
  ⟨blk_new W _, ⟨rfl, .inl ⟨rfl, rfl⟩⟩, by simp⟩
def Regd (W : World) (l : List TStmt) (e : Ending) (W' : World) : Prop := ∃ A c, e = .returned (.slice A (regsL [] l).length c) ∧ (regsL [] l).length ≤ c ∧ Kd.C Kd.string W' A (regsL [] l).length (regsL [] l) ∧ Below W.heap.size W W'
set_option maxHeartbeats 2000000 in
theorem regs_any (W : World) (l : List TStmt) (A : Option Addr) (c : Nat) (hC : Kd.C kStmt W A l.length l) (hsm : smSs l) (hl : l.length ≤ 1000) (hcn : cntL l ≤ 1000) :
    Calls Try.prog 16 #[.slice A l.length c] W (Regd W l) := by
  have HC := Aside0.mk (And.intro hC (And.intro hsm (And.intro hl hcn)))
  clear hC hsm hl hcn
  have hmf : ∀ (fn : Fn) (first cap : Array Value) (w : World), (Instr.makeFunc fn first cap).run Try.prog w = .ok (.func fn first cap) w := fun _ _ _ _ => rfl
  go_enter Try.func16, Try.ntmps16
  go_wp2_with fail
  refine (walk_reg W W.heap.size W.heap.size rfl (Nat.le_refl _) _ l (Nat.lt_succ_self _) _ 0 _ [] A c (seen_new W) (below_alloc (Below.refl _ _) _) HC.out.1 HC.out.2.1 HC.out.2.2.1 (by have := HC.out.2.2.2; simpa using this)).mono ?_
  rintro e w1 hw
  obtain rfl := hw.1
  have HB := Aside0.mk (Saw.below (w0 := W) rfl (Nat.le_refl _) (below_alloc (Below.refl _ _) _) (seen_new W) hw)
  obtain ⟨-, v1, s1, -, -⟩ := hw
  obtain ⟨A1, c1, rfl, h1, h2⟩ := rowS_slice s1.own
  have x1 := (blk_cell s1.blk 1).trans rfl
  have HR := Aside0.mk (And.intro h1 h2)
  clear h1 h2 s1
  go_wp2
  go_ret
  exact ⟨A1, c1, rfl, HR.out.1, HR.out.2, HB.out⟩
set_option maxHeartbeats 2000000 in
theorem stmts_any (W : World) (l : List TStmt) (A : Option Addr) (c : Nat) (hC : Kd.C kStmt W A l.length l) (hsm : smSs l) (hl : l.length ≤ 1000) (hcn : cntL l ≤ 1000) :
    Calls Try.prog 13 #[.slice A l.length c] W fun e W' => e = .returned (.int .i64 (cntL l : Int)) ∧ Below W.heap.size W W' := by
  have HC := Aside0.mk (And.intro hC (And.intro hsm (And.intro hl hcn)))
  clear hC hsm hl hcn
  have hmf : ∀ (fn : Fn) (first cap : Array Value) (w : World), (Instr.makeFunc fn first cap).run Try.prog w = .ok (.func fn first cap) w := fun _ _ _ _ => rfl
  go_enter Try.func13, Try.ntmps13
  go_wp2_with fail
  refine (walk_one W W.heap.size W.heap.size rfl (Nat.le_refl _) _ l (Nat.lt_succ_self _) _ 0 _ [] A c (seen_new W) (below_alloc (Below.refl _ _) _) HC.out.1 HC.out.2.1 HC.out.2.2.1 (by omega) (by have := HC.out.2.2.2; omega)).mono ?_
  rintro e w1 hw
  obtain rfl := hw.1
  have HB := Aside0.mk (Saw.below (w0 := W) rfl (Nat.le_refl _) (below_alloc (Below.refl _ _) _) (seen_new W) hw)
  obtain ⟨-, v1, s1, -, -⟩ := hw
  rw [Int.zero_add] at s1
  have x1 := (blk_cell s1.blk 0).trans rfl
  clear s1
  go_wp2
  go_ret
  exact ⟨rfl, HB.out⟩
end Go.Proofs.Ytlhbnbckanmaiaa.K
namespace Go.Proofs.Ytlhbnbckanmaiaa.K
open Go Go.RowKit Go.Proofs.YtlhbnbckanmaiaaW.PrintWords Go.Proofs.YtlhbnbckanmaiaaW.PrintLast Go.Proofs.YtlhbnbckanmaiaaW.PrintMore Go.Proofs.Ytlhbnbckanmaiaa.PC1
set_option linter.unusedVariables false
set_option linter.unusedSimpArgs false
theorem wpAny_inv2 {md : Region.Mode} {ops : Array Oper} {Q : Exit → Act → World → Prop} {T : Bool × List (List Nat × List Nat)} (hT : rtab md ops = T)
    (hup : (List.range T.2.length).all (fun i => match T.2[i]? with | some r => r.1.all (fun j => decide (j < i)) | none => false) = true)
    (Inv : (Nat → Bool) → Act → World → Prop)
    (step : ∀ (f : Nat → Bool) a w i o r, Inv f a w → ops[i]? = some o → T.2[i]? = some r → f i = false → r.1.all f = true → ∀ K : Act → World → Prop, (∀ a' w', Inv (upd f i) a' w' → K a' w') → if Region.wanted o (yielded ops a.tmps) = true then o.wp Try.prog a w K Q else K (a.put o.dst undef) w)
    (fin : ∀ f a w, Inv f a w → (∀ i, i < ops.size → f i = true) → Q .normal a w) :
    ∀ (fuel : Nat) (l : Array Bool) (a : Act) (w : World), l.size = ops.size → unl l ≤ fuel → Inv (flag l) a w → wpAny Try.prog md ops Q fuel l a w := by
  subst hT
  have hlen := rtab_length (md := md) (ops := ops)
  have hend : ∀ l : Array Bool, l.size = ops.size → Region.ready md ops l = [] → ∀ i, i < ops.size → flag l i = true := by
    intro l hl hr i
    induction i using Nat.strongRecOn with
    | _ i ih =>
      intro hi
      by_cases hf : flag l i = true
      · exact hf
      · exfalso
        rw [ready_eq] at hr
        unfold readyT at hr
        rw [List.filter_eq_nil_iff] at hr
        have hm := hr i (List.mem_range.2 (by omega))
        apply hm
        have hu := List.all_eq_true.1 hup i (List.mem_range.2 (by omega))
        have hi2 : i < (rtab md ops).2.length := by omega
        rw [List.getElem?_eq_getElem hi2] at hu
        unfold readyAt
        rw [List.getElem?_eq_getElem hi2]
        simp only [Bool.and_eq_true]
        refine ⟨?_, ?_⟩
        · unfold flag at hf
          simp at hf ⊢
          rw [Array.getElem?_eq_getElem (by omega)] at hf ⊢
          simpa using hf
        · rw [List.all_eq_true]
          intro j hj
          have hj2 : j < i := by simpa using List.all_eq_true.1 hu j hj
          have := ih j hj2 (by omega)
          unfold flag at this
          simpa using this
  intro fuel
  induction fuel with
  | zero =>
    intro l a w hl hu hI
    have hall : ∀ i, i < ops.size → flag l i = true := fun i hi => unl_zero l (by omega) i (by omega)
    refine ⟨?_, fin _ a w hI hall⟩
    rw [ready_eq]
    unfold readyT
    rw [List.filter_eq_nil_iff]
    intro i hi
    have hi := List.mem_range.1 hi
    have := hall i (by omega)
    unfold flag at this
    unfold readyAt
    simp at this ⊢
    rw [Array.getElem?_eq_getElem (by omega)] at this ⊢
    simp at this
    simp [this]
  | succ fuel ih =>
    intro l a w hl hu hI
    refine ⟨fun hr => fin _ a w hI (hend l hl hr), fun i hi => ?_⟩
    rw [ready_eq] at hi
    unfold readyT at hi
    rw [List.mem_filter] at hi
    obtain ⟨hi1, hi2⟩ := hi
    have hi1 := List.mem_range.1 hi1
    have hio : i < ops.size := by omega
    unfold readyAt at hi2
    rw [List.getElem?_eq_getElem hi1] at hi2
    simp only [Bool.and_eq_true] at hi2
    obtain ⟨h1, h2⟩ := hi2
    have h1' : l.getD i true = false := by
      simp at h1 ⊢
      exact h1
    have hf : flag l i = false := by
      unfold flag
      simp at h1' ⊢
      rw [Array.getElem?_eq_getElem (by omega)] at h1' ⊢
      simpa using h1'
    have h2' : ((rtab md ops).2[i]).1.all (flag l) = true := by
      rw [List.all_eq_true] at h2 ⊢
      intro j hj
      have := h2 j hj
      unfold flag
      simpa using this
    have hw := step (flag l) a w i ops[i] _ hI (Array.getElem?_eq_getElem hio) (List.getElem?_eq_getElem hi1) hf h2'
    have hfin : ∀ a' w', Inv (upd (flag l) i) a' w' → wpAny Try.prog md ops Q fuel (l.setIfInBounds i true) a' w' := fun a' w' hI' => by
      refine ih _ a' w' (by simpa using hl) ?_ (by rw [flag_set l i (by omega)]; exact hI')
      have := unl_set l i (by omega) h1'
      omega
    have hw2 := hw _ hfin
    unfold wpOp
    rw [Array.getElem?_eq_getElem hio]
    simp only
    by_cases hwt : Region.wanted ops[i] (yielded ops a.tmps) = true
    · rw [if_pos hwt] at hw2 ⊢
      exact .inl hw2
    · rw [if_neg hwt] at hw2 ⊢
      exact hw2
theorem wpAny_inv3 {md : Region.Mode} {ops : Array Oper} {Q : Exit → Act → World → Prop} {T : Bool × List (List Nat × List Nat)} {a1 : Act} {w1 : World} (hT : rtab md ops = T)
    (hup : (List.range T.2.length).all (fun i => match T.2[i]? with | some r => r.1.all (fun j => decide (j < i)) | none => false) = true)
    (Inv : Act → (Nat → Bool) → Act → World → Prop)
    (step : ∀ (f : Nat → Bool) a w i o r, Inv a1 f a w → ops[i]? = some o → T.2[i]? = some r → f i = false → r.1.all f = true → ∀ K : Act → World → Prop, (∀ a' w', Inv a1 (upd f i) a' w' → K a' w') → if Region.wanted o (yielded ops a.tmps) = true then o.wp Try.prog a w K Q else K (a.put o.dst undef) w)
    (fin : ∀ f a w, Inv a1 f a w → (∀ i, i < ops.size → f i = true) → Q .normal a w) (fuel : Nat) (l : Array Bool) (hl : l.size = ops.size) (hu : unl l ≤ fuel) (hI : Inv a1 (flag l) a1 w1) : wpAny Try.prog md ops Q fuel l a1 w1 :=
  wpAny_inv2 hT hup (Inv a1) step fin fuel l a1 w1 hl hu hI
end Go.Proofs.Ytlhbnbckanmaiaa.K
