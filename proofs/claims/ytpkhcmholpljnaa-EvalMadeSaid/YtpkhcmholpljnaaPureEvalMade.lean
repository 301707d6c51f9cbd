/-
  The statement EvalMade is proved: each sign does what it says, whatever stands on both sides, as the given row says it.
  Conditions: none of ours.
-/
import Derived.Test.YtpkhcmholpljnaaPE2x
namespace Go.Proofs.Ytpkhcmholpljnaa.Pure
open Go.RowKit Go.Proofs.Ytpkhcmholpljnaa.PE2 Go.Proofs.YtpkhcmholpljnaaW.PrintWords Go.Proofs.YtpkhcmholpljnaaW.PrintLast
namespace MadeTwo
set_option linter.unusedVariables false
theorem u8_rd (l : List Int) (hl : ∀ x ∈ l, (Lit.int .u8 x).wf = true) (i : Int) (h0 : 0 ≤ i) (h1 : i < (l.length : Int)) : 0 ≤ rd l i ∧ rd l i ≤ 255 := by
  have hi : i.toNat < l.length := by omega
  have e : rd l i = l[i.toNat] := by
    unfold rd
    rw [List.getD_eq_getElem?_getD, List.getElem?_eq_getElem hi]; rfl
  have hm := hl _ (List.getElem_mem hi)
  simp only [Lit.wf, Bool.and_eq_true, decide_eq_true_eq] at hm
  have hmax : IntKind.u8.max = 255 := rfl
  have hmin : IntKind.u8.min = 0 := rfl
  rw [e]; omega
theorem pick_tells (l : List Int) (hl : ∀ x ∈ l, (Lit.int .u8 x).wf = true) (hlen : l.length ≤ 1000) (at0 n : Int) (h0 : 0 ≤ at0) (h1 : at0 ≤ (l.length : Int)) (hn : 1 ≤ n) (hn2 : n ≤ 1000) :
    ∃ v at1, withemade_Maker_Pick.f l at0 n = some (v, at1) ∧ 0 ≤ v ∧ v < n ∧ 0 ≤ at1 ∧ at1 ≤ (l.length : Int) := by
  unfold withemade_Maker_Pick.f
  by_cases h : at0 ≥ (l.length : Int)
  · rw [if_pos h]; exact ⟨0, at0, rfl, by omega, by omega, by omega, by omega⟩
  · have e1 : wrap64 (at0 + 1) = at0 + 1 := by unfold wrap64; omega
    have e2 : wrap64 (at0 + 1 - 1) = at0 := by unfold wrap64; omega
    have hr := u8_rd l hl at0 h0 (by omega)
    have e3 : wrap64 (rd l at0) = rd l at0 := by unfold wrap64; omega
    rw [if_neg h, if_neg (by omega), e1, e2, if_pos h0, if_pos (by omega), if_neg (by omega), e3]
    refine ⟨_, _, rfl, ?_, ?_, by omega, by omega⟩
    · rw [Int.tmod_eq_emod_of_nonneg hr.1]; exact Int.emod_nonneg _ (by omega)
    · rw [Int.tmod_eq_emod_of_nonneg hr.1]; exact Int.emod_lt_of_pos _ (by omega)

/-- An expression that is made: of registers that are known. -/
def WE (regs : List ByteArray) (vals : Int) : Nat → S34 → Prop
  | 0, _ => False
  | f + 1, e => (e.f0 = 1 ∧ 0 ≤ e.f1 ∧ e.f1 < vals ∧ e.f2 = ⟨#[]⟩ ∧ e.f3 = []) ∨ (e.f0 = 2 ∧ e.f1 = 0 ∧ (∃ i : Int, 0 ≤ i ∧ i < regs.length ∧ e.f2 = rdOf ByteArray.empty regs i) ∧ e.f3 = []) ∨
      (3 ≤ e.f0 ∧ e.f0 ≤ 6 ∧ e.f1 = 0 ∧ e.f2 = ⟨#[]⟩ ∧ e.f3.length = 2 ∧ WE regs vals f (rd_T34 e.f3 0) ∧ WE regs vals f (rd_T34 e.f3 1))
theorem maker_ev (l : List Int) (hl : ∀ x ∈ l, (Lit.int .u8 x).wf = true) (hlen : l.length ≤ 1000) (regs : List ByteArray) (hr : regs.length ≤ 1000) (vals : Int) (hv : 1 ≤ vals ∧ vals ≤ 1000) (d : Nat) : d ≤ 100 → ∀ at0 : Int, 0 ≤ at0 → at0 ≤ (l.length : Int) →
    ∃ (e : S34) (at1 : Int), Ev (fun k => withemade_Maker_Expr.f k l at0 regs vals d) (e.f0, e.f1, e.f2, e.f3, at1) ∧ WE regs vals (d + 1) e ∧ 0 ≤ at1 ∧ at1 ≤ (l.length : Int) := by
  have leaf : ∀ (c : Bool) (at0 : Int), 0 ≤ at0 → at0 ≤ (l.length : Int) → (c = true → 0 < regs.length) → ∀ f, ∃ (e : S34) (at1 : Int), Ev (fun k => withemade_Maker_Expr.j1 k regs vals c l at0) (e.f0, e.f1, e.f2, e.f3, at1) ∧ WE regs vals (f + 1) e ∧ 0 ≤ at1 ∧ at1 ≤ (l.length : Int) := by
    intro c at0 h0 h1 hc f
    cases c with
    | true =>
      have hpos := hc rfl
      obtain ⟨v, at1, hp, v0, v1, a0, a1⟩ := pick_tells l hl hlen at0 (regs.length : Int) h0 h1 (by omega) (by omega)
      refine ⟨⟨2, 0, rdOf ByteArray.empty regs v, []⟩, at1, Ev.step (f := fun _ => some _) (fun k => ?_) (Ev.now _), .inr (.inl ⟨rfl, rfl, ⟨v, v0, v1, rfl⟩, rfl⟩), a0, a1⟩
      simp only [withemade_Maker_Expr.j1, reduceIte, hp, Option.bind_some]
      rw [if_pos v0, if_pos v1]
    | false =>
      obtain ⟨v, at1, hp, v0, v1, a0, a1⟩ := pick_tells l hl hlen at0 vals h0 h1 hv.1 hv.2
      refine ⟨⟨1, v, ⟨#[]⟩, []⟩, at1, Ev.step (f := fun _ => some _) (fun k => ?_) (Ev.now _), .inl ⟨rfl, v0, v1, rfl, rfl⟩, a0, a1⟩
      simp only [withemade_Maker_Expr.j1, Bool.false_eq_true, reduceIte, hp, Option.bind_some]
  have plain : ∀ (dp k8 at0 : Int), 0 ≤ at0 → at0 ≤ (l.length : Int) → ∀ f, ∃ (e : S34) (at1 : Int), Ev (fun k => withemade_Maker_Expr.j0 k regs vals dp k8 false l at0) (e.f0, e.f1, e.f2, e.f3, at1) ∧ WE regs vals (f + 1) e ∧ 0 ≤ at1 ∧ at1 ≤ (l.length : Int) := by
    intro dp k8 at0 h0 h1 f
    by_cases hp : (regs.length : Int) > 0
    · obtain ⟨e, at1, h, r⟩ := leaf (decide (k8 > 2)) at0 h0 h1 (fun _ => by omega) f
      refine ⟨e, at1, Ev.step (fun k => ?_) h, r⟩
      simp only [withemade_Maker_Expr.j0, Bool.false_eq_true, reduceIte]; rw [if_pos hp]
    · obtain ⟨e, at1, h, r⟩ := leaf false at0 h0 h1 (fun h => by simp at h) f
      refine ⟨e, at1, Ev.step (fun k => ?_) h, r⟩
      simp only [withemade_Maker_Expr.j0, Bool.false_eq_true, reduceIte]; rw [if_neg hp]
  induction d with
  | zero =>
    intro _ at0 h0 h1
    obtain ⟨v, at1, hp, v0, v1, a0, a1⟩ := pick_tells l hl hlen at0 8 h0 h1 (by omega) (by omega)
    obtain ⟨e, at2, h, r⟩ := plain 0 v at1 a0 a1 0
    refine ⟨e, at2, Ev.step (fun k => ?_) h, r⟩
    simp only [withemade_Maker_Expr.f, hp, Option.bind_some]; rw [if_neg (by omega)]; rfl
  | succ d ih =>
    intro hd at0 h0 h1
    obtain ⟨v, at1, hp, v0, v1, a0, a1⟩ := pick_tells l hl hlen at0 8 h0 h1 (by omega) (by omega)
    by_cases hv5 : v > 5
    · obtain ⟨o, at2, hp2, o0, o1, b0, b1⟩ := pick_tells l hl hlen at1 4 a0 a1 (by omega) (by omega)
      obtain ⟨⟨x0, x1, x2, x3⟩, at3, hx, wx, c0, c1⟩ := ih (by omega) at2 b0 b1
      obtain ⟨⟨y0, y1, y2, y3⟩, at4, hy, wy, d0, d1⟩ := ih (by omega) at3 c0 c1
      have eo : wrap64 (3 + o) = 3 + o := by unfold wrap64; omega
      have ed : wrap64 (((d + 1 : Nat) : Int) - 1) = (d : Int) := by unfold wrap64; omega
      refine ⟨⟨3 + o, 0, ⟨#[]⟩, [⟨x0, x1, x2, x3⟩, ⟨y0, y1, y2, y3⟩]⟩, at4, ?_, .inr (.inr ⟨by show 3 ≤ 3 + o; omega, by show 3 + o ≤ 6; omega, rfl, rfl, rfl, wx, wy⟩), d0, d1⟩
      refine Ev.step (f := fun k => withemade_Maker_Expr.j0 k regs vals ((d + 1 : Nat) : Int) v true l at1) (fun k => ?_) ?_
      · simp only [withemade_Maker_Expr.f, hp, Option.bind_some]; rw [if_pos (by omega), decide_eq_true hv5]
      · refine Ev.step (f := fun k => (withemade_Maker_Expr.f k l at2 regs vals (d : Int)).bind fun b1 => (withemade_Maker_Expr.f k l b1.2.2.2.2 regs vals (d : Int)).bind fun b2 => some (3 + o, 0, (⟨#[]⟩ : ByteArray), [(⟨b1.1, b1.2.1, b1.2.2.1, b1.2.2.2.1⟩ : S34), (⟨b2.1, b2.2.1, b2.2.2.1, b2.2.2.2.1⟩ : S34)], b2.2.2.2.2)) (fun k => ?_) (Ev.bind hx (Ev.bind hy (Ev.congr (f := fun _ => some (3 + o, 0, (⟨#[]⟩ : ByteArray), [(⟨x0, x1, x2, x3⟩ : S34), (⟨y0, y1, y2, y3⟩ : S34)], at4)) (fun k => rfl) (Ev.now _))))
        simp only [withemade_Maker_Expr.j0, reduceIte, hp2, Option.bind_some, eo, ed]
    · obtain ⟨e, at2, h, r⟩ := plain ((d + 1 : Nat) : Int) v at1 a0 a1 (d + 1)
      refine ⟨e, at2, Ev.step (fun k => ?_) h, r⟩
      simp only [withemade_Maker_Expr.f, hp, Option.bind_some]; rw [if_pos (by omega), decide_eq_false hv5]

theorem WE_good (regs : List ByteArray) (vals : Int) (f : Nat) : ∀ e, WE regs vals f e → PE2.Good f e := by
  induction f with
  | zero => intro e h; exact h
  | succ f ih =>
    intro e h
    rcases h with ⟨_, _, _, _, hk⟩ | ⟨_, _, _, hk⟩ | ⟨_, _, _, _, hk, h0, h1⟩
    · exact ⟨by rw [hk]; simp, fun i hi => by rw [hk] at hi; simp at hi⟩
    · exact ⟨by rw [hk]; simp, fun i hi => by rw [hk] at hi; simp at hi⟩
    · refine ⟨by omega, fun i hi => ?_⟩
      have : i = 0 ∨ i = 1 := by omega
      rcases this with rfl | rfl
      · exact ih _ h0
      · exact ih _ h1
theorem val_ok (R : List ByteArray) (V : List Int) (n vals : Int) (hR : ∀ i : Int, 0 ≤ i → i < R.length → 0 ≤ ix (rdOf ByteArray.empty R i) R 0) (f : Nat) :
    ∀ e, WE R vals f e → (valN R V n f e).2 = true := by
  induction f with
  | zero => intro e h; exact h.elim
  | succ f ih =>
    intro e h
    rcases h with ⟨h1, _⟩ | ⟨h2, _, ⟨i, i0, i1, hi⟩, _⟩ | ⟨h3, h6, _, _, hk, w0, w1⟩
    · unfold valN; rw [if_pos h1]
    · have hne : ¬ e.f0 = 1 := by omega
      have q1 := hR i i0 i1
      unfold valN; rw [if_neg hne, if_pos h2, hi, if_neg (by omega)]
    · have a2 := ih _ w0
      have b2 := ih _ w1
      rw [valN, if_neg (by omega), if_neg (by omega), if_neg (by omega), if_pos ⟨a2, b2⟩]
theorem begun_ev : Ev (fun k => withelaw10_begun.f k) true := Ev.of (k := 40) (fun k => withelaw10_begun.mono k) (by decide +kernel)
def RG : List ByteArray := [(⟨#[97]⟩ : ByteArray), (⟨#[98]⟩ : ByteArray)]
theorem RG_ix : ∀ i : Int, 0 ≤ i → i < RG.length → 0 ≤ ix (rdOf ByteArray.empty RG i) RG 0 := by
  intro i i0 i1
  have hi : i < 2 := i1
  have : i = 0 ∨ i = 1 := by omega
  rcases this with rfl | rfl
  · decide +kernel
  · decide +kernel
/-- What is made of numbers: it comes to a value. -/
theorem made_val (l : List Int) (hl : ∀ x ∈ l, (Lit.int .u8 x).wf = true) (hlen : l.length ≤ 30) (V : List Int) (hV : V.length = 2) (n : Int) (hn : 2 ≤ n) (hn4 : n ≤ 4) :
    ∃ (e : S34) (at1 p : Int), Ev (fun k => withemade_Maker_Expr.f k l 0 RG n 3) (e.f0, e.f1, e.f2, e.f3, at1) ∧ PE2.Good 4 e ∧ valN RG V n 4 e = (p, true) ∧ 0 ≤ p ∧ p < n ∧ Ev (fun k => eval_Expr.f k e.f0 e.f1 e.f2 e.f3 RG V n) (p, true) := by
  obtain ⟨e, at1, he, hwe, _, _⟩ := maker_ev l hl (by omega) RG (by decide) n (by omega) 3 (by omega) 0 (by omega) (by omega)
  have hg := WE_good _ _ _ e hwe
  have h2 := val_ok RG V n n RG_ix 4 e hwe
  have hr := valN_range RG V n hn 4 e
  have c := code_ev RG V n 4 e hg (by decide)
  have ha := askN_le 4 e
  have r : exprR RG V n 4 e = valN RG V n 4 e := by
    unfold exprR; rw [if_neg (by omega), if_neg (by omega), if_pos (by rw [hV]; rfl), if_neg (by omega)]
  rw [r] at c
  refine ⟨e, at1, (valN RG V n 4 e).1, he, hg, ?_, hr.1, hr.2.1, ?_⟩
  · rw [← h2]
  · rw [← h2]; exact c
theorem two_val (V : List Int) (hV : V.length = 2) (n : Int) (hn : 2 ≤ n) (hn4 : n ≤ 4) (op : Int) (ho : 3 ≤ op) (ho6 : op ≤ 6) (x y : S34) (hx : PE2.Good 4 x) (hy : PE2.Good 4 y) (p q : Int) (vx : valN RG V n 4 x = (p, true)) (vy : valN RG V n 4 y = (q, true)) :
    Ev (fun k => eval_Expr.f k op 0 ⟨#[]⟩ [x, y] RG V n) (opv op p q n, true) := by
  have hg : PE2.Good 5 (⟨op, 0, ⟨#[]⟩, [x, y]⟩ : S34) := by
    refine ⟨by show 2 ≤ 20; omega, fun i hi => ?_⟩
    have hi : i < 2 := hi
    have : i = 0 ∨ i = 1 := by omega
    rcases this with rfl | rfl
    · exact hx
    · exact hy
  have c := code_ev RG V n 5 (⟨op, 0, ⟨#[]⟩, [x, y]⟩ : S34) hg (by decide)
  have ha := askN_le 5 (⟨op, 0, ⟨#[]⟩, [x, y]⟩ : S34)
  have r : exprR RG V n 5 (⟨op, 0, ⟨#[]⟩, [x, y]⟩ : S34) = (opv op p q n, true) := by
    unfold exprR
    rw [if_neg (by omega), if_neg (by omega), if_pos (by rw [hV]; rfl), if_neg (by omega)]
    have e0 : rd_T34 (⟨op, 0, ⟨#[]⟩, [x, y]⟩ : S34).f3 0 = x := rfl
    have e1 : rd_T34 (⟨op, 0, ⟨#[]⟩, [x, y]⟩ : S34).f3 1 = y := rfl
    rw [valN, if_neg (show ¬ op = 1 by omega), if_neg (show ¬ op = 2 by omega), if_neg (show ¬ (op < 3 ∨ op > 6 ∨ ([x, y] : List S34).length ≠ 2) by simp; omega), e0, e1, vx, vy, if_pos ⟨rfl, rfl⟩]
  rw [r] at c
  exact c
theorem add_back (p q n : Int) (hn : 2 ≤ n) (hn4 : n ≤ 4) (p0 : 0 ≤ p) (p1 : p < n) (q0 : 0 ≤ q) (q1 : q < n) : wrap_Add.f (opv 4 p q n) q n = some p := by
  unfold wrap_Add.f opv
  rw [if_neg (by omega), if_pos rfl]
  have d := inn_eq (p - q) n (by omega) (by omega)
  have e0 := inn_lo (p - q) n
  have e1 := inn_lt (p - q) n (by omega)
  rw [inn_id q n q0 q1 hn4, inn_id (inn (p - q) n) n e0 e1 hn4]
  have w : wrap64 (inn (p - q) n + q) = inn (p - q) n + q := by unfold wrap64; omega
  rw [w, inn_eq _ n (by omega) (by omega), d]
  congr 1
  have : n = 2 ∨ n = 3 ∨ n = 4 := by omega
  rcases this with rfl | rfl | rfl <;> omega
theorem add_sum (p q n : Int) (hn4 : n ≤ 4) (p0 : 0 ≤ p) (p1 : p < n) (q0 : 0 ≤ q) (q1 : q < n) : wrap_Add.f p q n = some (opv 3 p q n) := by
  unfold wrap_Add.f opv
  rw [if_pos rfl, inn_id q n q0 q1 hn4, inn_id p n p0 p1 hn4]
  have w : wrap64 (p + q) = p + q := by unfold wrap64; omega
  rw [w]
theorem opv5 (p q n : Int) : opv 5 p q n = if p = q then 1 else 0 := by
  unfold opv; rw [if_neg (by omega), if_neg (by omega), if_pos rfl]
theorem opv6 (p q n : Int) : opv 6 p q n = if p < q then 1 else 0 := by
  unfold opv; rw [if_neg (by omega), if_neg (by omega), if_neg (by omega)]
theorem t1 (p q n : Int) : ((opv 5 p q n == 1) == (p == q)) = true := by
  rw [opv5]
  by_cases h : p = q
  · subst h; simp
  · simp [h]
theorem t2 (p q n : Int) : ((opv 6 p q n == 1) == (decide (p < q))) = true := by
  rw [opv6]
  by_cases h : p < q
  · simp [h]
  · simp [h]
theorem t3 (p q n : Int) : ((wrap64 ((wrap64 (opv 5 p q n + opv 6 p q n)) + opv 6 q p n)) == 1) = true := by
  rw [opv5, opv6, opv6]
  rw [beq_iff_eq]
  have h : p = q ∨ p < q ∨ q < p := by omega
  rcases h with h | h | h
  · rw [if_pos h, if_neg (by omega), if_neg (by omega)]; unfold wrap64; omega
  · rw [if_neg (by omega), if_pos h, if_neg (by omega)]; unfold wrap64; omega
  · rw [if_neg (by omega), if_neg (by omega), if_pos h]; unfold wrap64; omega
theorem j1_some (k : Nat) (n : Int) (V : List Int) (p q : Int) (x y : S34) (hn : 2 ≤ n) (hn4 : n ≤ 4) (p0 : 0 ≤ p) (p1 : p < n) (q0 : 0 ≤ q) (q1 : q < n)
    (h3 : eval_Expr.f k 3 0 ⟨#[]⟩ [x, y] RG V n = some (opv 3 p q n, true)) (h4 : eval_Expr.f k 4 0 ⟨#[]⟩ [x, y] RG V n = some (opv 4 p q n, true)) (h5 : eval_Expr.f k 5 0 ⟨#[]⟩ [x, y] RG V n = some (opv 5 p q n, true))
    (h6 : eval_Expr.f k 6 0 ⟨#[]⟩ [x, y] RG V n = some (opv 6 p q n, true)) (h7 : eval_Expr.f k 6 0 ⟨#[]⟩ [y, x] RG V n = some (opv 6 q p n, true)) :
    withelaw10_EvalMade.j1 (k + 1) n RG V p q false x.f0 x.f1 x.f2 x.f3 y.f0 y.f1 y.f2 y.f3 = some true := by
  rw [withelaw10_EvalMade.j1, if_neg (by decide), Option.bind_some]
  have ex : (⟨x.f0, x.f1, x.f2, x.f3⟩ : S34) = x := by cases x; rfl
  have ey : (⟨y.f0, y.f1, y.f2, y.f3⟩ : S34) = y := by cases y; rfl
  rw [ex, ey, h3, Option.bind_some, h4, Option.bind_some, h5, Option.bind_some, h6, Option.bind_some, h7, Option.bind_some, add_back p q n hn hn4 p0 p1 q0 q1, Option.bind_some, add_sum p q n hn4 p0 p1 q0 q1, Option.bind_some, if_pos rfl, if_pos rfl, if_pos (t1 p q n), if_pos (t2 p q n), t3]
theorem j0_some (k : Nat) (l0 l1 : List Int) (a3 r0 r1 : Int) (n : Int) (ne : wrap64 (2 + (wrap64 (Int.tmod a3 3))) = n) (p q : Int) (x y : S34) (at1 at2 : Int) (hn : 2 ≤ n) (hn4 : n ≤ 4) (p0 : 0 ≤ p) (p1 : p < n) (q0 : 0 ≤ q) (q1 : q < n)
    (m1 : withemade_Maker_Expr.f k l0 0 RG n 3 = some (x.f0, x.f1, x.f2, x.f3, at1)) (m2 : withemade_Maker_Expr.f k l1 0 RG n 3 = some (y.f0, y.f1, y.f2, y.f3, at2))
    (e1 : eval_Expr.f k x.f0 x.f1 x.f2 x.f3 RG [wrap64 r0, wrap64 r1] n = some (p, true)) (e2 : eval_Expr.f k y.f0 y.f1 y.f2 y.f3 RG [wrap64 r0, wrap64 r1] n = some (q, true))
    (J : withelaw10_EvalMade.j1 k n RG [wrap64 r0, wrap64 r1] p q false x.f0 x.f1 x.f2 x.f3 y.f0 y.f1 y.f2 y.f3 = some true) :
    withelaw10_EvalMade.j0 (k + 1) l0 l1 a3 false r0 r1 = some true := by
  rw [withelaw10_EvalMade.j0, if_neg (by decide), Option.bind_some, Option.bind_some, ne]
  rw [show ([(⟨#[97]⟩ : ByteArray), (⟨#[98]⟩ : ByteArray)] : List ByteArray) = RG from rfl]
  rw [show withemade_Made.f l0 = some (l0, 0) from rfl, Option.bind_some, m1, Option.bind_some, show withemade_Made.f l1 = some (l1, 0) from rfl, Option.bind_some, m2, Option.bind_some, e1, Option.bind_some, e2, Option.bind_some,
    if_pos rfl, if_pos rfl, if_neg (by omega), if_neg (by omega), if_neg (by omega), decide_eq_false (by omega)]
  exact J
theorem u8_of_wf {a : Int} (h : (Lit.int .u8 a).wf = true) : 0 ≤ a ∧ a ≤ 255 := by
  simp only [Lit.wf, Bool.and_eq_true, decide_eq_true_eq] at h
  have m1 : IntKind.u8.min = 0 := by decide
  have m2 : IntKind.u8.max = 255 := by decide
  rw [m1, m2] at h
  exact h
theorem nval (a3 : Int) (h0 : 0 ≤ a3) (h1 : a3 ≤ 255) : ∃ n, wrap64 (2 + (wrap64 (Int.tmod a3 3))) = n ∧ 2 ≤ n ∧ n ≤ 4 := by
  refine ⟨_, rfl, ?_⟩
  rw [Int.tmod_eq_emod_of_nonneg h0]
  unfold wrap64
  omega
theorem true_some (k : Nat) (l0 l1 : List Int) (a3 r0 r1 : Int) : withelaw10_EvalMade.j0 (k + 1) l0 l1 a3 true r0 r1 = some true := by
  rw [withelaw10_EvalMade.j0, if_pos rfl]
theorem false_some (l0 l1 : List Int) (w0 : ∀ x ∈ l0, (Lit.int .u8 x).wf = true) (w1 : ∀ x ∈ l1, (Lit.int .u8 x).wf = true) (a3 r0 r1 : Int) (h0 : 0 ≤ a3) (h1 : a3 ≤ 255) (g0 : l0.length ≤ 30) (g1 : l1.length ≤ 30) :
    ∃ K, ∀ k, K ≤ k → withelaw10_EvalMade.j0 (k + 1) l0 l1 a3 false r0 r1 = some true := by
  obtain ⟨n, ne, n2, n4⟩ := nval a3 h0 h1
  have hV : ([wrap64 r0, wrap64 r1] : List Int).length = 2 := rfl
  obtain ⟨x, at1, p, ⟨K1, m1⟩, gx, vx, p0, p1, ⟨K2, e1⟩⟩ := made_val l0 w0 g0 [wrap64 r0, wrap64 r1] hV n n2 n4
  obtain ⟨y, at2, q, ⟨K3, m2⟩, gy, vy, q0, q1, ⟨K4, e2⟩⟩ := made_val l1 w1 g1 [wrap64 r0, wrap64 r1] hV n n2 n4
  obtain ⟨K5, h3⟩ := two_val _ hV n n2 n4 3 (by omega) (by omega) x y gx gy p q vx vy
  obtain ⟨K6, h4⟩ := two_val _ hV n n2 n4 4 (by omega) (by omega) x y gx gy p q vx vy
  obtain ⟨K7, h5⟩ := two_val _ hV n n2 n4 5 (by omega) (by omega) x y gx gy p q vx vy
  obtain ⟨K8, h6⟩ := two_val _ hV n n2 n4 6 (by omega) (by omega) x y gx gy p q vx vy
  obtain ⟨K9, h7⟩ := two_val _ hV n n2 n4 6 (by omega) (by omega) y x gy gx q p vy vx
  refine ⟨K1 + K2 + K3 + K4 + K5 + K6 + K7 + K8 + K9 + 1, fun k hk => ?_⟩
  obtain ⟨k, rfl⟩ : ∃ m, k = m + 1 := ⟨k - 1, by omega⟩
  exact j0_some (k + 1) l0 l1 a3 r0 r1 n ne p q x y at1 at2 n2 n4 p0 p1 q0 q1 (m1 _ (by omega)) (m2 _ (by omega)) (e1 _ (by omega)) (e2 _ (by omega))
    (j1_some k n _ p q x y n2 n4 p0 p1 q0 q1 (h3 _ (by omega)) (h4 _ (by omega)) (h5 _ (by omega)) (h6 _ (by omega)) (h7 _ (by omega)))
end MadeTwo
open MadeTwo in
theorem EvalMade : withelaw10_EvalMade.Pure := by
  intro l0 l1 r0 r1 a3 _ _ w0 _ _ w1 w3
  obtain ⟨h0, h1⟩ := u8_of_wf w3
  obtain ⟨Kb, hb⟩ := begun_ev
  replace hb : ∀ k, Kb ≤ k → withelaw10_begun.f k = some true := hb
  by_cases g0 : (l0.length : Int) > 30
  · refine ⟨Kb + 1, ?_⟩
    unfold withelaw10_EvalMade.f
    rw [hb _ (by omega), Option.bind_some, if_pos rfl, if_pos g0]
    exact true_some _ _ _ _ _ _
  · by_cases g1 : (l1.length : Int) > 30
    · refine ⟨Kb + 1, ?_⟩
      unfold withelaw10_EvalMade.f
      rw [hb _ (by omega), Option.bind_some, if_pos rfl, if_neg g0, decide_eq_true g1]
      exact true_some _ _ _ _ _ _
    · obtain ⟨K, h⟩ := false_some l0 l1 w0 w1 a3 r0 r1 h0 h1 (by omega) (by omega)
      refine ⟨(Kb + K) + 1, ?_⟩
      unfold withelaw10_EvalMade.f
      rw [hb _ (by omega), Option.bind_some, if_pos rfl, if_neg g0, decide_eq_false g1]
      exact h _ (by omega)
end Go.Proofs.Ytpkhcmholpljnaa.Pure
