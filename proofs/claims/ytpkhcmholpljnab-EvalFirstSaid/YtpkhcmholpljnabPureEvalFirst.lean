/-
  The statement EvalFirst is proved: of a name that is there twice package eval counts the first one, and names that are not asked play no part, as the given row says it.
  Conditions: none of ours.
-/
import Derived.Test.YtpkhcmholpljnabPE3x
namespace Go.Proofs.Ytpkhcmholpljnab.Pure
open Go.RowKit Go.Proofs.Ytpkhcmholpljnab.PE3 Go.Proofs.YtpkhcmholpljnabW.PrintWords Go.Proofs.YtpkhcmholpljnabW.PrintLast

theorem u8_rd (l : List Int) (hl : ∀ x ∈ l, (Lit.int .u8 x).wf = true) (i : Int) (h0 : 0 ≤ i) (h1 : i < (l.length : Int)) : 0 ≤ rd l i ∧ rd l i ≤ 255 := by
  have hi : i.toNat < l.length := by omega
  have e : rd l i = l[i.toNat] := by
    unfold rd
    rw [List.getD_eq_getElem?_getD, List.getElem?_eq_getElem hi]; rfl
  have hm := hl _ (List.getElem_mem hi)
  simp only [Lit.wf, Bool.and_eq_true, decide_eq_true_eq] at hm
  have hmax : IntKind.u8.max = 255 := rfl
  have hmin : IntKind.u8.min = 0 := rfl
  rw [e]; omega
theorem pick_tells (l : List Int) (hl : ∀ x ∈ l, (Lit.int .u8 x).wf = true) (hlen : l.length ≤ 1000) (at0 n : Int) (h0 : 0 ≤ at0) (h1 : at0 ≤ (l.length : Int)) (hn : 1 ≤ n) (hn2 : n ≤ 1000) :
    ∃ v at1, withemade_Maker_Pick.f l at0 n = some (v, at1) ∧ 0 ≤ v ∧ v < n ∧ 0 ≤ at1 ∧ at1 ≤ (l.length : Int) := by
  unfold withemade_Maker_Pick.f
  by_cases h : at0 ≥ (l.length : Int)
  · rw [if_pos h]; exact ⟨0, at0, rfl, by omega, by omega, by omega, by omega⟩
  · have e1 : wrap64 (at0 + 1) = at0 + 1 := by unfold wrap64; omega
    have e2 : wrap64 (at0 + 1 - 1) = at0 := by unfold wrap64; omega
    have hr := u8_rd l hl at0 h0 (by omega)
    have e3 : wrap64 (rd l at0) = rd l at0 := by unfold wrap64; omega
    rw [if_neg h, if_neg (by omega), e1, e2, if_pos h0, if_pos (by omega), if_neg (by omega), e3]
    refine ⟨_, _, rfl, ?_, ?_, by omega, by omega⟩
    · rw [Int.tmod_eq_emod_of_nonneg hr.1]; exact Int.emod_nonneg _ (by omega)
    · rw [Int.tmod_eq_emod_of_nonneg hr.1]; exact Int.emod_lt_of_pos _ (by omega)

/-- An expression that is made: of registers that are known. -/
def WE (regs : List ByteArray) (vals : Int) : Nat → S27 → Prop
  | 0, _ => False
  | f + 1, e => (e.f0 = 1 ∧ 0 ≤ e.f1 ∧ e.f1 < vals ∧ e.f2 = ⟨#[]⟩ ∧ e.f3 = []) ∨ (e.f0 = 2 ∧ e.f1 = 0 ∧ (∃ i : Int, 0 ≤ i ∧ i < regs.length ∧ e.f2 = rdOf ByteArray.empty regs i) ∧ e.f3 = []) ∨
      (3 ≤ e.f0 ∧ e.f0 ≤ 6 ∧ e.f1 = 0 ∧ e.f2 = ⟨#[]⟩ ∧ e.f3.length = 2 ∧ WE regs vals f (rd_T27 e.f3 0) ∧ WE regs vals f (rd_T27 e.f3 1))
theorem maker_ev (l : List Int) (hl : ∀ x ∈ l, (Lit.int .u8 x).wf = true) (hlen : l.length ≤ 1000) (regs : List ByteArray) (hr : regs.length ≤ 1000) (vals : Int) (hv : 1 ≤ vals ∧ vals ≤ 1000) (d : Nat) : d ≤ 100 → ∀ at0 : Int, 0 ≤ at0 → at0 ≤ (l.length : Int) →
    ∃ (e : S27) (at1 : Int), Ev (fun k => withemade_Maker_Expr.f k l at0 regs vals d) (e.f0, e.f1, e.f2, e.f3, at1) ∧ WE regs vals (d + 1) e ∧ 0 ≤ at1 ∧ at1 ≤ (l.length : Int) := by
  have leaf : ∀ (c : Bool) (at0 : Int), 0 ≤ at0 → at0 ≤ (l.length : Int) → (c = true → 0 < regs.length) → ∀ f, ∃ (e : S27) (at1 : Int), Ev (fun k => withemade_Maker_Expr.j1 k regs vals c l at0) (e.f0, e.f1, e.f2, e.f3, at1) ∧ WE regs vals (f + 1) e ∧ 0 ≤ at1 ∧ at1 ≤ (l.length : Int) := by
    intro c at0 h0 h1 hc f
    cases c with
    | true =>
      have hpos := hc rfl
      obtain ⟨v, at1, hp, v0, v1, a0, a1⟩ := pick_tells l hl hlen at0 (regs.length : Int) h0 h1 (by omega) (by omega)
      refine ⟨⟨2, 0, rdOf ByteArray.empty regs v, []⟩, at1, Ev.step (f := fun _ => some _) (fun k => ?_) (Ev.now _), .inr (.inl ⟨rfl, rfl, ⟨v, v0, v1, rfl⟩, rfl⟩), a0, a1⟩
      simp only [withemade_Maker_Expr.j1, reduceIte, hp, Option.bind_some]
      rw [if_pos v0, if_pos v1]
    | false =>
      obtain ⟨v, at1, hp, v0, v1, a0, a1⟩ := pick_tells l hl hlen at0 vals h0 h1 hv.1 hv.2
      refine ⟨⟨1, v, ⟨#[]⟩, []⟩, at1, Ev.step (f := fun _ => some _) (fun k => ?_) (Ev.now _), .inl ⟨rfl, v0, v1, rfl, rfl⟩, a0, a1⟩
      simp only [withemade_Maker_Expr.j1, Bool.false_eq_true, reduceIte, hp, Option.bind_some]
  have plain : ∀ (dp k8 at0 : Int), 0 ≤ at0 → at0 ≤ (l.length : Int) → ∀ f, ∃ (e : S27) (at1 : Int), Ev (fun k => withemade_Maker_Expr.j0 k regs vals dp k8 false l at0) (e.f0, e.f1, e.f2, e.f3, at1) ∧ WE regs vals (f + 1) e ∧ 0 ≤ at1 ∧ at1 ≤ (l.length : Int) := by
    intro dp k8 at0 h0 h1 f
    by_cases hp : (regs.length : Int) > 0
    · obtain ⟨e, at1, h, r⟩ := leaf (decide (k8 > 2)) at0 h0 h1 (fun _ => by omega) f
      refine ⟨e, at1, Ev.step (fun k => ?_) h, r⟩
      simp only [withemade_Maker_Expr.j0, Bool.false_eq_true, reduceIte]; rw [if_pos hp]
    · obtain ⟨e, at1, h, r⟩ := leaf false at0 h0 h1 (fun h => by simp at h) f
      refine ⟨e, at1, Ev.step (fun k => ?_) h, r⟩
      simp only [withemade_Maker_Expr.j0, Bool.false_eq_true, reduceIte]; rw [if_neg hp]
  induction d with
  | zero =>
    intro _ at0 h0 h1
    obtain ⟨v, at1, hp, v0, v1, a0, a1⟩ := pick_tells l hl hlen at0 8 h0 h1 (by omega) (by omega)
    obtain ⟨e, at2, h, r⟩ := plain 0 v at1 a0 a1 0
    refine ⟨e, at2, Ev.step (fun k => ?_) h, r⟩
    simp only [withemade_Maker_Expr.f, hp, Option.bind_some]; rw [if_neg (by omega)]; rfl
  | succ d ih =>
    intro hd at0 h0 h1
    obtain ⟨v, at1, hp, v0, v1, a0, a1⟩ := pick_tells l hl hlen at0 8 h0 h1 (by omega) (by omega)
    by_cases hv5 : v > 5
    · obtain ⟨o, at2, hp2, o0, o1, b0, b1⟩ := pick_tells l hl hlen at1 4 a0 a1 (by omega) (by omega)
      obtain ⟨⟨x0, x1, x2, x3⟩, at3, hx, wx, c0, c1⟩ := ih (by omega) at2 b0 b1
      obtain ⟨⟨y0, y1, y2, y3⟩, at4, hy, wy, d0, d1⟩ := ih (by omega) at3 c0 c1
      have eo : wrap64 (3 + o) = 3 + o := by unfold wrap64; omega
      have ed : wrap64 (((d + 1 : Nat) : Int) - 1) = (d : Int) := by unfold wrap64; omega
      refine ⟨⟨3 + o, 0, ⟨#[]⟩, [⟨x0, x1, x2, x3⟩, ⟨y0, y1, y2, y3⟩]⟩, at4, ?_, .inr (.inr ⟨by show 3 ≤ 3 + o; omega, by show 3 + o ≤ 6; omega, rfl, rfl, rfl, wx, wy⟩), d0, d1⟩
      refine Ev.step (f := fun k => withemade_Maker_Expr.j0 k regs vals ((d + 1 : Nat) : Int) v true l at1) (fun k => ?_) ?_
      · simp only [withemade_Maker_Expr.f, hp, Option.bind_some]; rw [if_pos (by omega), decide_eq_true hv5]
      · refine Ev.step (f := fun k => (withemade_Maker_Expr.f k l at2 regs vals (d : Int)).bind fun b1 => (withemade_Maker_Expr.f k l b1.2.2.2.2 regs vals (d : Int)).bind fun b2 => some (3 + o, 0, (⟨#[]⟩ : ByteArray), [(⟨b1.1, b1.2.1, b1.2.2.1, b1.2.2.2.1⟩ : S27), (⟨b2.1, b2.2.1, b2.2.2.1, b2.2.2.2.1⟩ : S27)], b2.2.2.2.2)) (fun k => ?_) (Ev.bind hx (Ev.bind hy (Ev.congr (f := fun _ => some (3 + o, 0, (⟨#[]⟩ : ByteArray), [(⟨x0, x1, x2, x3⟩ : S27), (⟨y0, y1, y2, y3⟩ : S27)], at4)) (fun k => rfl) (Ev.now _))))
        simp only [withemade_Maker_Expr.j0, reduceIte, hp2, Option.bind_some, eo, ed]
    · obtain ⟨e, at2, h, r⟩ := plain ((d + 1 : Nat) : Int) v at1 a0 a1 (d + 1)
      refine ⟨e, at2, Ev.step (fun k => ?_) h, r⟩
      simp only [withemade_Maker_Expr.f, hp, Option.bind_some]; rw [if_pos (by omega), decide_eq_false hv5]

theorem WE_good (regs : List ByteArray) (vals : Int) (f : Nat) : ∀ e, WE regs vals f e → PE3.Good f e := by
  induction f with
  | zero => intro e h; exact h
  | succ f ih =>
    intro e h
    rcases h with ⟨_, _, _, _, hk⟩ | ⟨_, _, _, hk⟩ | ⟨_, _, _, _, hk, h0, h1⟩
    · exact ⟨by rw [hk]; simp, fun i hi => by rw [hk] at hi; simp at hi⟩
    · exact ⟨by rw [hk]; simp, fun i hi => by rw [hk] at hi; simp at hi⟩
    · refine ⟨by omega, fun i hi => ?_⟩
      have : i = 0 ∨ i = 1 := by omega
      rcases this with rfl | rfl
      · exact ih _ h0
      · exact ih _ h1
theorem val_same (R1 R2 : List ByteArray) (V1 V2 : List Int) (n vals : Int) (hR : ∀ i : Int, 0 ≤ i → i < R1.length → 0 ≤ ix (rdOf ByteArray.empty R1 i) R1 0 ∧ 0 ≤ ix (rdOf ByteArray.empty R1 i) R2 0 ∧ rd V1 (ix (rdOf ByteArray.empty R1 i) R1 0) = rd V2 (ix (rdOf ByteArray.empty R1 i) R2 0)) (f : Nat) :
    ∀ e, WE R1 vals f e → valN R1 V1 n f e = valN R2 V2 n f e ∧ (valN R1 V1 n f e).2 = true := by
  induction f with
  | zero => intro e h; exact h.elim
  | succ f ih =>
    intro e h
    rcases h with ⟨h1, _⟩ | ⟨h2, _, ⟨i, i0, i1, hi⟩, _⟩ | ⟨h3, h6, _, _, hk, w0, w1⟩
    · unfold valN; rw [if_pos h1, if_pos h1]; exact ⟨rfl, rfl⟩
    · have hne : ¬ e.f0 = 1 := by omega
      obtain ⟨q1, q2, q3⟩ := hR i i0 i1
      unfold valN; rw [if_neg hne, if_neg hne, if_pos h2, if_pos h2, hi, if_neg (by omega), if_neg (by omega), q3]; exact ⟨rfl, rfl⟩
    · obtain ⟨a1, a2⟩ := ih _ w0
      obtain ⟨b1, b2⟩ := ih _ w1
      have ex : ∀ (R : List ByteArray) (V : List Int), valN R V n (f + 1) e = if (valN R V n f (rd_T27 e.f3 0)).2 = true ∧ (valN R V n f (rd_T27 e.f3 1)).2 = true then (opv e.f0 (valN R V n f (rd_T27 e.f3 0)).1 (valN R V n f (rd_T27 e.f3 1)).1 n, true) else (0, false) := fun R V => by
        rw [valN, if_neg (by omega), if_neg (by omega), if_neg (by omega)]
      rw [ex, ex, ← a1, ← b1, if_pos ⟨a2, b2⟩]
      exact ⟨rfl, rfl⟩

theorem begun_ev : Ev (fun k => withelaw10_begun.f k) true := Ev.of (k := 40) (fun k => withelaw10_begun.mono k) (by decide +kernel)

theorem EvalFirst : withelaw10_EvalFirst.Pure := by
  intro l r0 r1 r2 r3 hl1 hl2 hw
  refine Ev.rounds (g := fun k => withelaw10_EvalFirst.f k l r0 r1 r2 r3) ?_
  refine Ev.congr (fun k => by unfold withelaw10_EvalFirst.f; rfl) (Ev.bind begun_ev ?_)
  by_cases h30 : (l.length : Int) > 30
  · exact Ev.congr (f := fun _ => some true) (fun k => by rw [if_pos rfl, if_pos h30]) (Ev.now _)
  · obtain ⟨e, at1, he, hwe, _, _⟩ := maker_ev l hw (by omega) [(⟨#[97]⟩ : ByteArray), (⟨#[98]⟩ : ByteArray)] (by decide) 4 (by omega) 3 (by omega) 0 (by omega) (by omega)
    have hg := WE_good _ _ _ e hwe
    have ha := askN_le 4 e
    have c1 := code_ev [(⟨#[97]⟩ : ByteArray), (⟨#[98]⟩ : ByteArray)] [wrap64 r0, wrap64 r1] 4 4 e hg (by decide)
    have c2 := code_ev [(⟨#[99]⟩ : ByteArray), (⟨#[97]⟩ : ByteArray), (⟨#[98]⟩ : ByteArray), (⟨#[97]⟩ : ByteArray)] [wrap64 r2, wrap64 r0, wrap64 r1, wrap64 r3] 4 4 e hg (by decide)
    have c3 := code_ev [(⟨#[97]⟩ : ByteArray), (⟨#[98]⟩ : ByteArray)] [wrap64 r0] 4 4 e hg (by decide)
    have x0 : ix ⟨#[97]⟩ [(⟨#[97]⟩ : ByteArray), (⟨#[98]⟩ : ByteArray)] 0 = 0 := by decide +kernel
    have x1 : ix ⟨#[98]⟩ [(⟨#[97]⟩ : ByteArray), (⟨#[98]⟩ : ByteArray)] 0 = 1 := by decide +kernel
    have x2 : ix ⟨#[97]⟩ [(⟨#[99]⟩ : ByteArray), (⟨#[97]⟩ : ByteArray), (⟨#[98]⟩ : ByteArray), (⟨#[97]⟩ : ByteArray)] 0 = 1 := by decide +kernel
    have x3 : ix ⟨#[98]⟩ [(⟨#[99]⟩ : ByteArray), (⟨#[97]⟩ : ByteArray), (⟨#[98]⟩ : ByteArray), (⟨#[97]⟩ : ByteArray)] 0 = 2 := by decide +kernel
    obtain ⟨s1, s2⟩ := val_same [(⟨#[97]⟩ : ByteArray), (⟨#[98]⟩ : ByteArray)] [(⟨#[99]⟩ : ByteArray), (⟨#[97]⟩ : ByteArray), (⟨#[98]⟩ : ByteArray), (⟨#[97]⟩ : ByteArray)] [wrap64 r0, wrap64 r1] [wrap64 r2, wrap64 r0, wrap64 r1, wrap64 r3] 4 4 (fun i i0 i1 => by
      have hi : i < 2 := i1
      have : i = 0 ∨ i = 1 := by omega
      rcases this with rfl | rfl
      · show 0 ≤ ix ⟨#[97]⟩ _ 0 ∧ 0 ≤ ix ⟨#[97]⟩ _ 0 ∧ rd _ (ix ⟨#[97]⟩ _ 0) = rd _ (ix ⟨#[97]⟩ _ 0)
        rw [x0, x2]; exact ⟨by omega, by omega, rfl⟩
      · show 0 ≤ ix ⟨#[98]⟩ _ 0 ∧ 0 ≤ ix ⟨#[98]⟩ _ 0 ∧ rd _ (ix ⟨#[98]⟩ _ 0) = rd _ (ix ⟨#[98]⟩ _ 0)
        rw [x1, x3]; exact ⟨by omega, by omega, rfl⟩) 4 e hwe
    have r1' : exprR [(⟨#[97]⟩ : ByteArray), (⟨#[98]⟩ : ByteArray)] [wrap64 r0, wrap64 r1] 4 4 e = valN [(⟨#[97]⟩ : ByteArray), (⟨#[98]⟩ : ByteArray)] [wrap64 r0, wrap64 r1] 4 4 e := by
      unfold exprR; rw [if_neg (by omega), if_neg (by omega), if_pos (by simp), if_neg (by omega)]
    have r2' : exprR [(⟨#[99]⟩ : ByteArray), (⟨#[97]⟩ : ByteArray), (⟨#[98]⟩ : ByteArray), (⟨#[97]⟩ : ByteArray)] [wrap64 r2, wrap64 r0, wrap64 r1, wrap64 r3] 4 4 e = valN [(⟨#[97]⟩ : ByteArray), (⟨#[98]⟩ : ByteArray)] [wrap64 r0, wrap64 r1] 4 4 e := by
      rw [s1]; unfold exprR; rw [if_neg (by omega), if_neg (by omega), if_pos (by simp), if_neg (by omega)]
    have r3' : exprR [(⟨#[97]⟩ : ByteArray), (⟨#[98]⟩ : ByteArray)] [wrap64 r0] 4 4 e = (0, false) := by
      unfold exprR; rw [if_neg (by omega), if_neg (by omega), if_neg (by simp)]
    rw [r1'] at c1
    rw [r2'] at c2
    rw [r3'] at c3
    generalize valN [(⟨#[97]⟩ : ByteArray), (⟨#[98]⟩ : ByteArray)] [wrap64 r0, wrap64 r1] 4 4 e = R at *
    obtain ⟨v, ok⟩ := R
    simp only at s2
    subst s2
    refine Ev.congr (f := fun k => (withemade_Maker_Expr.f k l 0 [(⟨#[97]⟩ : ByteArray), (⟨#[98]⟩ : ByteArray)] 4 3).bind fun b1 => (eval_Expr.f k b1.1 b1.2.1 b1.2.2.1 b1.2.2.2.1 [(⟨#[97]⟩ : ByteArray), (⟨#[98]⟩ : ByteArray)] [wrap64 r0, wrap64 r1] 4).bind fun b2 => (eval_Expr.f k b1.1 b1.2.1 b1.2.2.1 b1.2.2.2.1 [(⟨#[99]⟩ : ByteArray), (⟨#[97]⟩ : ByteArray), (⟨#[98]⟩ : ByteArray), (⟨#[97]⟩ : ByteArray)] [wrap64 r2, wrap64 r0, wrap64 r1, wrap64 r3] 4).bind fun b3 => (eval_Expr.f k b1.1 b1.2.1 b1.2.2.1 b1.2.2.2.1 [(⟨#[97]⟩ : ByteArray), (⟨#[98]⟩ : ByteArray)] [wrap64 r0] 4).bind fun b4 => (if b2.2 = true then (if b3.2 = true then (if b2.1 = b3.1 then (some (!b4.2)) else (none)) else (none)) else (none))) (fun k => ?_) (Ev.bind he (Ev.bind c1 (Ev.bind c2 (Ev.bind c3 (Ev.congr (f := fun _ => some true) (fun k => by simp) (Ev.now _))))))
    rw [if_pos rfl, if_neg h30]; rfl

end Go.Proofs.Ytpkhcmholpljnab.Pure
