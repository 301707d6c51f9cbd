/-
  The statement EvalAll is proved: package eval's Expr and True answer for any expression, registers, values and number what the document's own function answers (P10.1), as the given row says it.
  Conditions: none of ours.
-/
import Derived.Test.YtpkhcmholpljnaaPE1x
namespace Go.Proofs.Ytpkhcmholpljnaa.Pure
open Go.RowKit Go.Proofs.Ytpkhcmholpljnaa.PE1 Go.Proofs.YtpkhcmholpljnaaW.PrintWords Go.Proofs.YtpkhcmholpljnaaW.PrintLast

/-! a register's place -/
def ix (x : ByteArray) : List ByteArray → Int → Int
  | [], _ => -1
  | y :: l, i => if x.toList = y.toList then i else ix x l (i + 1)
theorem ix_range (x : ByteArray) (l : List ByteArray) : ∀ i : Int, 0 ≤ i → ix x l i = -1 ∨ (i ≤ ix x l i ∧ ix x l i < i + l.length) := by
  induction l with
  | nil => intro i _; exact .inl rfl
  | cons y l ih =>
    intro i h0
    unfold ix
    split
    · right; simp; omega
    · rcases ih (i + 1) (by omega) with h | h
      · exact .inl h
      · right; simp; omega
theorem rd_drop {α : Type} (d : α) (l : List α) (j : Nat) (h : j < l.length) : l.drop j = rdOf d l (j : Int) :: l.drop (j + 1) := by
  have e : rdOf d l (j : Int) = l[j] := by
    unfold rdOf
    rw [Int.toNat_natCast, List.getD_eq_getElem?_getD, List.getElem?_eq_getElem h]; rfl
  rw [e]; exact List.drop_eq_getElem_cons h
theorem index_l0 (regs : List ByteArray) (x : ByteArray) (hl : regs.length ≤ 8) (d : Nat) : ∀ j : Nat, j ≤ regs.length → regs.length - j = d →
    Ev (fun k => slices_Index_string_string.l0 k regs x regs.length j) (ix x (regs.drop j) j) := by
  induction d with
  | zero =>
    intro j hj hd
    refine Ev.step (f := fun _ => some (-1)) (fun k => ?_) ?_
    · simp only [slices_Index_string_string.l0]; rw [if_neg (by omega)]
    · rw [List.drop_eq_nil_of_le (by omega)]; exact Ev.now _
  | succ d ih =>
    intro j hj hd
    have hjl : j < regs.length := by omega
    have e2 : wrap64 ((j : Int) + 1) = ((j + 1 : Nat) : Int) := by unfold wrap64; omega
    rw [rd_drop ByteArray.empty regs j hjl]
    unfold ix
    by_cases h : x.toList = (rdOf ByteArray.empty regs (j : Int)).toList
    · rw [if_pos h]
      refine Ev.step (f := fun _ => some (j : Int)) (fun k => ?_) (Ev.now _)
      simp only [slices_Index_string_string.l0]; rw [if_pos (by omega), if_pos (by omega), if_pos (by omega), if_pos h]
    · rw [if_neg h]
      refine Ev.step (fun k => ?_) (ih (j + 1) (by omega) (by omega))
      simp only [slices_Index_string_string.l0]; rw [if_pos (by omega), if_pos (by omega), if_pos (by omega), if_neg h, e2]
theorem index_ev (regs : List ByteArray) (x : ByteArray) (hl : regs.length ≤ 8) : Ev (fun k => slices_Index_string_string.f k regs x) (ix x regs 0) :=
  index_l0 regs x hl regs.length 0 (by omega) (by omega)
theorem place_l0 (regs : List ByteArray) (x : ByteArray) (hl : regs.length ≤ 8) (d : Nat) : ∀ j : Nat, j ≤ regs.length → regs.length - j = d →
    Ev (fun k => witheref9_Place.l0 k regs x j) (ix x (regs.drop j) j) := by
  induction d with
  | zero =>
    intro j hj hd
    refine Ev.step (f := fun _ => some (-1)) (fun k => ?_) ?_
    · simp only [witheref9_Place.l0]; rw [if_neg (by omega)]
    · rw [List.drop_eq_nil_of_le (by omega)]; exact Ev.now _
  | succ d ih =>
    intro j hj hd
    have hjl : j < regs.length := by omega
    have e2 : wrap64 ((j : Int) + 1) = ((j + 1 : Nat) : Int) := by unfold wrap64; omega
    rw [rd_drop ByteArray.empty regs j hjl]
    unfold ix
    by_cases h : x.toList = (rdOf ByteArray.empty regs (j : Int)).toList
    · rw [if_pos h]
      refine Ev.step (f := fun _ => some (j : Int)) (fun k => ?_) (Ev.now _)
      simp only [witheref9_Place.l0]; rw [if_pos (by omega), if_pos (by omega), if_pos h.symm]
    · rw [if_neg h]
      refine Ev.step (fun k => ?_) (ih (j + 1) (by omega) (by omega))
      simp only [witheref9_Place.l0]; rw [if_pos (by omega), if_pos (by omega), if_neg (fun q => h q.symm), e2]
theorem place_ev (regs : List ByteArray) (x : ByteArray) (hl : regs.length ≤ 8) : Ev (fun k => witheref9_Place.f k regs x) (ix x regs 0) :=
  place_l0 regs x hl regs.length 0 (by omega) (by omega)

/-! an expression that is not great: so many levels at most -/
def Good : Nat → S34 → Prop
  | 0, _ => False
  | f + 1, e => e.f3.length ≤ 20 ∧ ∀ i : Nat, i < e.f3.length → Good f (rd_T34 e.f3 i)

theorem size_loop (f : Nat) (dp b : Int) (hb : 1 ≤ b ∧ b ≤ 100000) (e : S34) (ih : ∀ x : S34, ∃ n : Int, 1 ≤ n ∧ n ≤ b ∧ Ev (fun k => withemade_ExprSize.f k x.f0 x.f1 x.f2 x.f3 (wrap64 (dp + 1))) n ∧ (n ≤ 300 → Good f x)) (hlen : e.f3.length ≤ 20) (d : Nat) :
    ∀ (j : Nat) (n0 : Int), j ≤ e.f3.length → e.f3.length - j = d → 1 ≤ n0 → n0 ≤ 300 → (∀ i : Nat, i < j → Good f (rd_T34 e.f3 i)) →
      ∃ n : Int, 1 ≤ n ∧ n ≤ 300 + b ∧ Ev (fun k => withemade_ExprSize.l0 k dp n0 j e.f0 e.f1 e.f2 e.f3) n ∧ (n ≤ 300 → ∀ i : Nat, i < e.f3.length → Good f (rd_T34 e.f3 i)) := by
  induction d with
  | zero =>
    intro j n0 hj hd h1 h3 hg
    refine ⟨n0, h1, by omega, Ev.step (f := fun _ => some n0) (fun k => ?_) (Ev.now _), fun _ i hi => hg i (by omega)⟩
    simp only [withemade_ExprSize.l0]; rw [if_neg (by omega)]
  | succ d ihd =>
    intro j n0 hj hd h1 h3 hg
    obtain ⟨m, hm1, hm2, hev, hgood⟩ := ih (rd_T34 e.f3 j)
    have e1 : wrap64 (n0 + m) = n0 + m := by unfold wrap64; omega
    have e2 : wrap64 ((j : Int) + 1) = ((j + 1 : Nat) : Int) := by unfold wrap64; omega
    by_cases hbig : n0 + m > 300
    · refine ⟨n0 + m, by omega, by omega, ?_, fun h => by omega⟩
      refine Ev.step (f := fun k => (withemade_ExprSize.f k (rd_T34 e.f3 j).f0 (rd_T34 e.f3 j).f1 (rd_T34 e.f3 j).f2 (rd_T34 e.f3 j).f3 (wrap64 (dp + 1))).bind (fun t => if (wrap64 (n0 + t)) > 300 then some (wrap64 (n0 + t)) else withemade_ExprSize.l0 k dp (wrap64 (n0 + t)) (wrap64 ((j : Int) + 1)) e.f0 e.f1 e.f2 e.f3)) (fun k => ?_) ?_
      · simp only [withemade_ExprSize.l0]; rw [if_pos (by omega), if_pos (by omega)]
      · refine Ev.bind hev (Ev.congr (fun k => ?_) (Ev.now _))
        rw [e1, if_pos hbig]
    · obtain ⟨n, q1, q2, q3, q4⟩ := ihd (j + 1) (n0 + m) (by omega) (by omega) (by omega) (by omega) (fun i hi => by
        by_cases h : i = j
        · rw [h]; exact hgood (by omega)
        · exact hg i (by omega))
      refine ⟨n, q1, q2, ?_, q4⟩
      refine Ev.step (f := fun k => (withemade_ExprSize.f k (rd_T34 e.f3 j).f0 (rd_T34 e.f3 j).f1 (rd_T34 e.f3 j).f2 (rd_T34 e.f3 j).f3 (wrap64 (dp + 1))).bind (fun t => if (wrap64 (n0 + t)) > 300 then some (wrap64 (n0 + t)) else withemade_ExprSize.l0 k dp (wrap64 (n0 + t)) (wrap64 ((j : Int) + 1)) e.f0 e.f1 e.f2 e.f3)) (fun k => ?_) ?_
      · simp only [withemade_ExprSize.l0]; rw [if_pos (by omega), if_pos (by omega)]
      · refine Ev.bind hev (Ev.congr (fun k => ?_) q3)
        rw [e1, if_neg hbig, e2]

theorem size_ev (f : Nat) : ∀ (dp : Int) (e : S34), 0 ≤ dp → dp + f = 13 → ∃ n : Int, 1 ≤ n ∧ n ≤ 301 + 300 * f ∧ Ev (fun k => withemade_ExprSize.f k e.f0 e.f1 e.f2 e.f3 dp) n ∧ (n ≤ 300 → Good f e) := by
  induction f with
  | zero =>
    intro dp e h0 h1
    refine ⟨301, by omega, by omega, ?_, fun h => by omega⟩
    refine Ev.step (f := fun k => withemade_ExprSize.j0 k dp true e.f0 e.f1 e.f2 e.f3) (fun k => ?_) (Ev.step (f := fun _ => some 301) (fun k => ?_) (Ev.now _))
    · simp only [withemade_ExprSize.f]; rw [if_pos (by omega)]
    · simp only [withemade_ExprSize.j0, reduceIte]
  | succ f ih =>
    intro dp e h0 h1
    have out : ∀ c : Bool, c = true → Ev (fun k => withemade_ExprSize.j0 k dp c e.f0 e.f1 e.f2 e.f3) 301 := fun c hc =>
      Ev.step (f := fun _ => some 301) (fun k => by simp only [withemade_ExprSize.j0]; rw [if_pos hc]) (Ev.now _)
    by_cases hl : (e.f3.length : Int) > 20
    · refine ⟨301, by omega, by omega, ?_, fun h => by omega⟩
      refine Ev.step (f := fun k => withemade_ExprSize.j0 k dp true e.f0 e.f1 e.f2 e.f3) (fun k => ?_) (out true rfl)
      simp only [withemade_ExprSize.f]; rw [if_neg (by omega), if_pos hl]
    · by_cases hs : (e.f2.size : Int) > 40
      · refine ⟨301, by omega, by omega, ?_, fun h => by omega⟩
        refine Ev.step (f := fun k => withemade_ExprSize.j0 k dp (decide ((e.f2.size : Int) > 40)) e.f0 e.f1 e.f2 e.f3) (fun k => ?_) (out _ (decide_eq_true hs))
        simp only [withemade_ExprSize.f]; rw [if_neg (by omega), if_neg hl]
      · have ew : wrap64 (dp + 1) = dp + 1 := by unfold wrap64; omega
        obtain ⟨n, q1, q2, q3, q4⟩ := size_loop f dp (301 + 300 * f) (by omega) e (fun x => by rw [ew]; exact ih (dp + 1) x (by omega) (by omega)) (by omega) e.f3.length 0 1 (by omega) (by omega) (by omega) (by omega) (fun i hi => by omega)
        refine ⟨n, q1, by omega, ?_, fun h => ⟨by omega, q4 h⟩⟩
        refine Ev.step (f := fun k => withemade_ExprSize.j0 k dp (decide ((e.f2.size : Int) > 40)) e.f0 e.f1 e.f2 e.f3) (fun k => ?_) (Ev.step (fun k => ?_) q3)
        · simp only [withemade_ExprSize.f]; rw [if_neg (by omega), if_neg hl]
        · simp only [withemade_ExprSize.j0]; rw [if_neg (by simpa using hs)]; rfl

/-! how many are within one another, as the document asks it -/
def mxK (g : Nat → Nat) : Nat → Nat
  | 0 => 0
  | n + 1 => max (mxK g n) (g n)
theorem mxK_le (g : Nat → Nat) (b : Nat) (n : Nat) (h : ∀ i, i < n → g i ≤ b) : mxK g n ≤ b := by
  induction n with
  | zero => exact Nat.zero_le _
  | succ n ih =>
    unfold mxK
    have h1 := ih (fun i hi => h i (by omega))
    have h2 := h n (by omega)
    omega
def askN : Nat → S34 → Nat
  | 0, _ => 0
  | f + 1, e => if e.f0 = 1 then 1 else if e.f0 = 2 then 1 else 1 + mxK (fun i => askN f (rd_T34 e.f3 i)) e.f3.length
theorem askN_le (f : Nat) : ∀ e, askN f e ≤ f := by
  induction f with
  | zero => intro e; exact Nat.le_refl _
  | succ f ih =>
    intro e
    unfold askN
    split
    · omega
    · split
      · omega
      · have := mxK_le (fun i => askN f (rd_T34 e.f3 i)) f e.f3.length (fun i _ => ih _)
        omega
theorem askN_pos (f : Nat) (e : S34) : 1 ≤ askN (f + 1) e := by
  unfold askN
  split
  · omega
  · split <;> omega

theorem asked_loop (f : Nat) (hf : f ≤ 100) (e : S34) (ih : ∀ i : Nat, i < e.f3.length → Ev (fun k => witheref9_asked.f k (rd_T34 e.f3 i).f0 (rd_T34 e.f3 i).f1 (rd_T34 e.f3 i).f2 (rd_T34 e.f3 i).f3) (askN f (rd_T34 e.f3 i) : Int)) (hlen : e.f3.length ≤ 20)
    (h1 : e.f0 ≠ 1) (h2 : e.f0 ≠ 2) (d : Nat) : ∀ j : Nat, j ≤ e.f3.length → e.f3.length - j = d →
      Ev (fun k => witheref9_asked.l0 k (mxK (fun i => askN f (rd_T34 e.f3 i)) j : Nat) j e.f0 e.f1 e.f2 e.f3) ((1 + mxK (fun i => askN f (rd_T34 e.f3 i)) e.f3.length : Nat) : Int) := by
  have hg : ∀ j, mxK (fun i => askN f (rd_T34 e.f3 i)) j ≤ f := fun j => mxK_le _ f j (fun i _ => askN_le f _)
  induction d with
  | zero =>
    intro j hj hd
    have hjl : j = e.f3.length := by omega
    subst hjl
    refine Ev.step (f := fun k => witheref9_asked.j1 k (mxK (fun i => askN f (rd_T34 e.f3 i)) e.f3.length : Nat) e.f3.length false e.f0 e.f1 e.f2 e.f3) (fun k => ?_) (Ev.step (f := fun _ => some _) (fun k => ?_) (Ev.now _))
    · simp only [witheref9_asked.l0]; rw [if_neg (by omega)]
    · simp only [witheref9_asked.j1, Bool.false_eq_true, reduceIte]
      have := hg e.f3.length
      congr 1
      unfold wrap64; omega
  | succ d ihd =>
    intro j hj hd
    have e2 : wrap64 ((j : Int) + 1) = ((j + 1 : Nat) : Int) := by unfold wrap64; omega
    have hn := ihd (j + 1) (by omega) (by omega)
    refine Ev.step (f := fun k => witheref9_asked.j1 k (mxK (fun i => askN f (rd_T34 e.f3 i)) j : Nat) j true e.f0 e.f1 e.f2 e.f3) (fun k => ?_) ?_
    · simp only [witheref9_asked.l0]; rw [if_pos (by omega), if_neg h1]
      rw [show (e.f0 != 2) = true from bne_iff_ne.mpr h2]
    · refine Ev.step (f := fun k => (witheref9_asked.f k (rd_T34 e.f3 j).f0 (rd_T34 e.f3 j).f1 (rd_T34 e.f3 j).f2 (rd_T34 e.f3 j).f3).bind (fun t => if t > ((mxK (fun i => askN f (rd_T34 e.f3 i)) j : Nat) : Int) then witheref9_asked.l0 k t (wrap64 ((j : Int) + 1)) e.f0 e.f1 e.f2 e.f3 else witheref9_asked.l0 k (mxK (fun i => askN f (rd_T34 e.f3 i)) j : Nat) (wrap64 ((j : Int) + 1)) e.f0 e.f1 e.f2 e.f3)) (fun k => ?_) ?_
      · simp only [witheref9_asked.j1, reduceIte]; rw [if_pos (by omega), if_pos (by omega)]
      · refine Ev.bind (ih j (by omega)) (Ev.congr (fun k => ?_) hn)
        have em : mxK (fun i => askN f (rd_T34 e.f3 i)) (j + 1) = max (mxK (fun i => askN f (rd_T34 e.f3 i)) j) (askN f (rd_T34 e.f3 j)) := rfl
        rw [e2]
        split
        · rw [em, Nat.max_eq_right (by omega)]
        · rw [em, Nat.max_eq_left (by omega)]

theorem asked_ev (f : Nat) : ∀ e, f ≤ 100 → Good f e → Ev (fun k => witheref9_asked.f k e.f0 e.f1 e.f2 e.f3) (askN f e : Int) := by
  induction f with
  | zero => intro e _ hg; exact hg.elim
  | succ f ih =>
    intro e hf hg
    refine Ev.step (f := fun k => witheref9_asked.l0 k 0 0 e.f0 e.f1 e.f2 e.f3) (fun k => by simp only [witheref9_asked.f]) ?_
    have leaf : (e.f0 = 1 ∨ e.f0 = 2) → Ev (fun k => witheref9_asked.l0 k 0 0 e.f0 e.f1 e.f2 e.f3) 1 := by
      intro h
      refine Ev.step (f := fun k => witheref9_asked.j1 k 0 0 false e.f0 e.f1 e.f2 e.f3) (fun k => ?_) (Ev.step (f := fun _ => some 1) (fun k => ?_) (Ev.now _))
      · simp only [witheref9_asked.l0]
        by_cases hp : (0 : Int) < (e.f3.length : Int)
        · rw [if_pos hp]
          rcases h with h | h
          · rw [if_pos h]
          · rw [if_neg (by omega), h]; rfl
        · rw [if_neg hp]
      · simp only [witheref9_asked.j1, Bool.false_eq_true, reduceIte]; rw [show wrap64 (0 + 1) = 1 from by unfold wrap64; rfl]
    by_cases h1 : e.f0 = 1
    · have : askN (f + 1) e = 1 := by unfold askN; rw [if_pos h1]
      rw [this]; exact leaf (.inl h1)
    · by_cases h2 : e.f0 = 2
      · have : askN (f + 1) e = 1 := by unfold askN; rw [if_neg h1, if_pos h2]
        rw [this]; exact leaf (.inr h2)
      · have : askN (f + 1) e = 1 + mxK (fun i => askN f (rd_T34 e.f3 i)) e.f3.length := by rw [askN]; rw [if_neg h1, if_neg h2]
        rw [this]
        exact asked_loop f (by omega) e (fun i hi => ih _ (by omega) (hg.2 i hi)) hg.1 h1 h2 e.f3.length 0 (by omega) (by omega)

/-! what an expression comes to -/
def opv (o a b n : Int) : Int := if o = 3 then inn (a + b) n else if o = 4 then inn (a - b) n else if o = 5 then (if a = b then 1 else 0) else (if a < b then 1 else 0)
def valN (regs : List ByteArray) (vals : List Int) (n : Int) : Nat → S34 → Int × Bool
  | 0, _ => (0, false)
  | f + 1, e =>
    if e.f0 = 1 then (inn e.f1 n, true)
    else if e.f0 = 2 then (if ix e.f2 regs 0 < 0 then (0, false) else (inn (rd vals (ix e.f2 regs 0)) n, true))
    else if e.f0 < 3 ∨ e.f0 > 6 ∨ e.f3.length ≠ 2 then (0, false)
    else if (valN regs vals n f (rd_T34 e.f3 0)).2 = true ∧ (valN regs vals n f (rd_T34 e.f3 1)).2 = true then (opv e.f0 (valN regs vals n f (rd_T34 e.f3 0)).1 (valN regs vals n f (rd_T34 e.f3 1)).1 n, true) else (0, false)
theorem opv_range (o a b n : Int) (hn : 2 ≤ n) : 0 ≤ opv o a b n ∧ opv o a b n < n := by
  unfold opv
  have h1 := inn_lo (a + b) n
  have h2 := inn_lt (a + b) n (by omega)
  have h3 := inn_lo (a - b) n
  have h4 := inn_lt (a - b) n (by omega)
  repeat' split
  all_goals omega
theorem valN_range (regs : List ByteArray) (vals : List Int) (n : Int) (hn : 2 ≤ n) (f : Nat) (e : S34) : 0 ≤ (valN regs vals n f e).1 ∧ (valN regs vals n f e).1 < n ∧ ((valN regs vals n f e).2 = false → (valN regs vals n f e).1 = 0) := by
  cases f with
  | zero => exact ⟨Int.le_refl _, by show (0 : Int) < n; omega, fun _ => rfl⟩
  | succ f =>
    have i1 := inn_lo e.f1 n
    have i2 := inn_lt e.f1 n (by omega)
    have i3 := inn_lo (rd vals (ix e.f2 regs 0)) n
    have i4 := inn_lt (rd vals (ix e.f2 regs 0)) n (by omega)
    have o := opv_range e.f0 (valN regs vals n f (rd_T34 e.f3 0)).1 (valN regs vals n f (rd_T34 e.f3 1)).1 n hn
    unfold valN
    split
    · exact ⟨i1, i2, fun h => by simp at h⟩
    · split
      · split
        · exact ⟨Int.le_refl _, by show (0 : Int) < n; omega, fun _ => rfl⟩
        · exact ⟨i3, i4, fun h => by simp at h⟩
      · split
        · exact ⟨Int.le_refl _, by show (0 : Int) < n; omega, fun _ => rfl⟩
        · split
          · exact ⟨o.1, o.2, fun h => by simp at h⟩
          · exact ⟨Int.le_refl _, by show (0 : Int) < n; omega, fun _ => rfl⟩

theorem value_ev (regs : List ByteArray) (vals : List Int) (n : Int) (hn : 2 ≤ n) (hn4 : n ≤ 4) (hr : regs.length ≤ 8) (hv : regs.length = vals.length) (f : Nat) : ∀ e, Good f e →
    Ev (fun k => witheref9_value.f k e.f0 e.f1 e.f2 e.f3 regs vals n) (valN regs vals n f e) := by
  induction f with
  | zero => intro e hg; exact hg.elim
  | succ f ih =>
    intro e hg
    by_cases h1 : e.f0 = 1
    · refine Ev.step (f := fun _ => some (valN regs vals n (f + 1) e)) (fun k => ?_) (Ev.now _)
      simp only [witheref9_value.f]; rw [if_pos h1]; simp only [witheref5_In.f, Option.bind_some]
      rw [valN, if_pos h1]
    · by_cases h2 : e.f0 = 2
      · refine Ev.step (f := fun k => (witheref9_Place.f k regs e.f2).bind (fun t => if t < 0 then some (0, false) else if 0 ≤ t then (if t < (vals.length : Int) then ((witheref5_In.f (rd vals t) n).bind fun t2 => some (t2, true)) else none) else none)) (fun k => ?_) ?_
        · simp only [witheref9_value.f]; rw [if_neg h1, if_pos h2]
        · refine Ev.bind (place_ev regs e.f2 hr) (Ev.congr (f := fun _ => some (valN regs vals n (f + 1) e)) (fun k => ?_) (Ev.now _))
          have hx := ix_range e.f2 regs 0 (Int.le_refl _)
          rw [valN, if_neg h1, if_pos h2]
          by_cases hx0 : ix e.f2 regs 0 < 0
          · rw [if_pos hx0, if_pos hx0]
          · rw [if_neg hx0, if_neg hx0, if_pos (by omega), if_pos (by omega)]; rfl
      · have bad : ∀ c : Bool, c = true → (e.f0 < 3 ∨ e.f0 > 6 ∨ e.f3.length ≠ 2) → Ev (fun k => witheref9_value.j0 k regs vals n c e.f0 e.f1 e.f2 e.f3) (valN regs vals n (f + 1) e) := by
          intro c hc hb
          refine Ev.step (f := fun _ => some (valN regs vals n (f + 1) e)) (fun k => ?_) (Ev.now _)
          simp only [witheref9_value.j0]; rw [if_pos hc, valN, if_neg h1, if_neg h2, if_pos hb]
        by_cases h3 : e.f0 < 3
        · refine Ev.step (f := fun k => witheref9_value.j0 k regs vals n true e.f0 e.f1 e.f2 e.f3) (fun k => ?_) (bad true rfl (.inl h3))
          simp only [witheref9_value.f]; rw [if_neg h1, if_neg h2, if_pos h3]
        · by_cases h6 : e.f0 > 6
          · refine Ev.step (f := fun k => witheref9_value.j0 k regs vals n true e.f0 e.f1 e.f2 e.f3) (fun k => ?_) (bad true rfl (.inr (.inl h6)))
            simp only [witheref9_value.f]; rw [if_neg h1, if_neg h2, if_neg h3, if_pos h6]
          · refine Ev.step (f := fun k => witheref9_value.j0 k regs vals n ((e.f3.length : Int) != 2) e.f0 e.f1 e.f2 e.f3) (fun k => ?_) ?_
            · simp only [witheref9_value.f]; rw [if_neg h1, if_neg h2, if_neg h3, if_neg h6]
            · by_cases hk : e.f3.length = 2
              · have hk2 : ((e.f3.length : Int) != 2) = false := by rw [hk]; rfl
                have g0 := ih (rd_T34 e.f3 0) (hg.2 0 (by omega))
                have g1 := ih (rd_T34 e.f3 1) (hg.2 1 (by omega))
                have r0 := valN_range regs vals n hn f (rd_T34 e.f3 0)
                have r1 := valN_range regs vals n hn f (rd_T34 e.f3 1)
                have ev : valN regs vals n (f + 1) e = if (valN regs vals n f (rd_T34 e.f3 0)).2 = true ∧ (valN regs vals n f (rd_T34 e.f3 1)).2 = true then (opv e.f0 (valN regs vals n f (rd_T34 e.f3 0)).1 (valN regs vals n f (rd_T34 e.f3 1)).1 n, true) else (0, false) := by
                  rw [valN, if_neg h1, if_neg h2, if_neg (by omega)]
                rw [ev]
                refine Ev.step (f := fun k => (witheref9_value.f k (rd_T34 e.f3 0).f0 (rd_T34 e.f3 0).f1 (rd_T34 e.f3 0).f2 (rd_T34 e.f3 0).f3 regs vals n).bind (fun b0 => (witheref9_value.f k (rd_T34 e.f3 1).f0 (rd_T34 e.f3 1).f1 (rd_T34 e.f3 1).f2 (rd_T34 e.f3 1).f3 regs vals n).bind (fun b1 => if b0.2 = true then witheref9_value.j1 k n b0.1 b1.1 (!b1.2) e.f0 e.f1 e.f2 e.f3 else witheref9_value.j1 k n b0.1 b1.1 true e.f0 e.f1 e.f2 e.f3))) (fun k => ?_) ?_
                · have q0 : (0 : Int) < (e.f3.length : Int) := by omega
                  have q1 : (1 : Int) < (e.f3.length : Int) := by omega
                  simp only [witheref9_value.j0, hk2, q0, q1, Bool.false_eq_true, reduceIte]
                · refine Ev.bind g0 (Ev.bind g1 ?_)
                  generalize valN regs vals n f (rd_T34 e.f3 0) = p0 at *
                  generalize valN regs vals n f (rd_T34 e.f3 1) = p1 at *
                  obtain ⟨a, oa⟩ := p0
                  obtain ⟨b, ob⟩ := p1
                  simp only at *
                  cases oa with
                  | false =>
                    refine Ev.congr (f := fun k => witheref9_value.j1 k n a b true e.f0 e.f1 e.f2 e.f3) (fun k => by simp only [Bool.false_eq_true, reduceIte]) (Ev.step (f := fun _ => some _) (fun k => ?_) (Ev.now _))
                    simp only [witheref9_value.j1, Bool.false_eq_true, false_and, reduceIte]
                  | true =>
                    refine Ev.congr (f := fun k => witheref9_value.j1 k n a b (!ob) e.f0 e.f1 e.f2 e.f3) (fun k => by simp only [reduceIte]) (Ev.step (f := fun _ => some _) (fun k => ?_) (Ev.now _))
                    cases ob with
                    | false => simp only [witheref9_value.j1, Bool.not_false, Bool.false_eq_true, and_false, reduceIte]
                    | true =>
                      have w1 : wrap64 (a + b) = a + b := by unfold wrap64; omega
                      have w2 : wrap64 (a - b) = a - b := by unfold wrap64; omega
                      simp only [witheref9_value.j1, witheref5_In.f, Option.bind_some, Bool.not_true, Bool.false_eq_true, and_self, reduceIte, w1, w2]
                      unfold opv
                      have ho : e.f0 = 3 ∨ e.f0 = 4 ∨ e.f0 = 5 ∨ e.f0 = 6 := by omega
                      rcases ho with h | h | h | h
                      · simp only [h, reduceIte]
                      · simp only [h]; rfl
                      · simp only [h]
                        by_cases q : a = b
                        · simp only [q]; rfl
                        · simp only [q]; rfl
                      · simp only [h]
                        by_cases q : a < b
                        · simp only [q]; rfl
                        · simp only [q]; rfl
              · refine bad _ ?_ (.inr (.inr hk))
                exact bne_iff_ne.mpr (by omega)

theorem inn_id (a n : Int) (h0 : 0 ≤ a) (h1 : a < n) (h2 : n ≤ 4) : inn a n = a := by
  rw [inn_eq a n (by omega) (by omega)]; exact Int.emod_eq_of_lt h0 h1

theorem of_two (regs : List ByteArray) (vals : List Int) (n : Int) (hn : 2 ≤ n) (hn4 : n ≤ 4) (e : S34) (dp c : Int) (hdp : 0 ≤ dp ∧ dp < 6) (hk : e.f3.length = 2) (p0 p1 : Int × Bool)
    (hc : (e.f0 = 3 ∧ c = 45) ∨ (e.f0 = 4 ∧ c = 46) ∨ (e.f0 = 5 ∧ c = 47) ∨ (e.f0 = 6 ∧ c = 48))
    (r0 : 0 ≤ p0.1 ∧ p0.1 < n) (r1 : 0 ≤ p1.1 ∧ p1.1 < n)
    (g0 : Ev (fun k => eval_place_of.f k regs vals n (rd_T34 e.f3 0).f0 (rd_T34 e.f3 0).f1 (rd_T34 e.f3 0).f2 (rd_T34 e.f3 0).f3 (dp + 1)) p0)
    (g1 : Ev (fun k => eval_place_of.f k regs vals n (rd_T34 e.f3 1).f0 (rd_T34 e.f3 1).f1 (rd_T34 e.f3 1).f2 (rd_T34 e.f3 1).f3 (dp + 1)) p1) :
    Ev (fun k => eval_place_of.j0 k dp c ((e.f3.length : Int) != 2) regs vals n e.f0 e.f1 e.f2 e.f3) (if p0.2 = true ∧ p1.2 = true then (opv e.f0 p0.1 p1.1 n, true) else (0, false)) := by
  have hk2 : ((e.f3.length : Int) != 2) = false := by rw [hk]; rfl
  have ed : wrap64 (dp + 1) = dp + 1 := by unfold wrap64; omega
  obtain ⟨a, oa⟩ := p0
  obtain ⟨b, ob⟩ := p1
  simp only at r0 r1
  rw [hk2]
  have tail : Ev (fun _ : Nat => (if oa = true then (if ob = true then (if c = (45 : Int) then ((eval_sides_plus.f a b n).bind fun t123 => (some (t123, true))) else (if c = (46 : Int) then ((eval_sides_minus.f a b n).bind fun t124 => (some (t124, true))) else (if c = (47 : Int) then ((eval_sides_eq.f a b n).bind fun t125 => (some (t125, true))) else (if c = (48 : Int) then ((eval_sides_less.f a b n).bind fun t126 => (some (t126, true))) else (none))))) else (some (0, false))) else (some (0, false)))) (if oa = true ∧ ob = true then (opv e.f0 a b n, true) else (0, false)) := by
    cases oa with
    | false => exact Ev.congr (f := fun _ => some _) (fun k => by simp only [Bool.false_eq_true, false_and, reduceIte]) (Ev.now _)
    | true =>
      cases ob with
      | false => exact Ev.congr (f := fun _ => some _) (fun k => by simp only [Bool.false_eq_true, and_false, reduceIte]) (Ev.now _)
      | true =>
        refine Ev.congr (f := fun _ => some _) (fun k => ?_) (Ev.now _)
        have ia := inn_id a n r0.1 r0.2 hn4
        have ib := inn_id b n r1.1 r1.2 hn4
        have w1 : wrap64 (a + b) = a + b := by unfold wrap64; omega
        have w2 : wrap64 (a - b) = a - b := by unfold wrap64; omega
        simp only [eval_sides_plus.f, eval_sides_minus.f, eval_sides_eq.f, eval_sides_less.f, wrap_Add.f, wrap_Sub.f, eval_truth.f, Option.bind_some, ia, ib, w1, w2, and_self, reduceIte]
        unfold opv
        rcases hc with ⟨h, rfl⟩ | ⟨h, rfl⟩ | ⟨h, rfl⟩ | ⟨h, rfl⟩
        · simp only [h, reduceIte]
        · simp only [h]; rfl
        · simp only [h]
          by_cases q : a = b
          · simp only [q, beq_self_eq_true]; rfl
          · simp only [q, beq_eq_false_iff_ne.mpr q]; rfl
        · simp only [h]
          by_cases q : a < b
          · simp only [q, decide_true]; rfl
          · simp only [q, decide_false]; rfl
  refine Ev.step (f := fun k => (eval_place_of.f k regs vals n (rd_T34 e.f3 0).f0 (rd_T34 e.f3 0).f1 (rd_T34 e.f3 0).f2 (rd_T34 e.f3 0).f3 (dp + 1)).bind (fun b0 => (eval_place_of.f k regs vals n (rd_T34 e.f3 1).f0 (rd_T34 e.f3 1).f1 (rd_T34 e.f3 1).f2 (rd_T34 e.f3 1).f3 (dp + 1)).bind (fun b1 => (if b0.2 = true then (if b1.2 = true then (if c = (45 : Int) then ((eval_sides_plus.f b0.1 b1.1 n).bind fun t123 => (some (t123, true))) else (if c = (46 : Int) then ((eval_sides_minus.f b0.1 b1.1 n).bind fun t124 => (some (t124, true))) else (if c = (47 : Int) then ((eval_sides_eq.f b0.1 b1.1 n).bind fun t125 => (some (t125, true))) else (if c = (48 : Int) then ((eval_sides_less.f b0.1 b1.1 n).bind fun t126 => (some (t126, true))) else (none))))) else (some (0, false))) else (some (0, false)))))) (fun k => ?_) (Ev.bind g0 (Ev.bind g1 tail))
  have q0 : (0 : Int) < (e.f3.length : Int) := by omega
  have q1 : (1 : Int) < (e.f3.length : Int) := by omega
  simp only [eval_place_of.j0, q0, q1, ed, Bool.false_eq_true, reduceIte]

theorem ite_range (c : Prop) [Decidable c] (p : Int × Bool) (n : Int) (hn : 2 ≤ n) (h : 0 ≤ p.1 ∧ p.1 < n) : 0 ≤ (if c then p else (0, false)).1 ∧ (if c then p else (0, false)).1 < n := by
  split
  · exact h
  · exact ⟨Int.le_refl _, by show (0 : Int) < n; omega⟩
theorem of_ev (regs : List ByteArray) (vals : List Int) (n : Int) (hn : 2 ≤ n) (hn4 : n ≤ 4) (hr : regs.length ≤ 8) (hv : regs.length = vals.length) (f : Nat) : ∀ (e : S34) (dp : Int), Good f e → 0 ≤ dp → dp ≤ 6 →
    Ev (fun k => eval_place_of.f k regs vals n e.f0 e.f1 e.f2 e.f3 dp) (if dp + askN f e ≤ 6 then valN regs vals n f e else (0, false)) := by
  induction f with
  | zero => intro e dp hg; exact hg.elim
  | succ f ih =>
    intro e dp hg h0 h6
    have hp := askN_pos f e
    by_cases hd : dp ≥ 6
    · rw [if_neg (by omega)]
      refine Ev.step (f := fun _ => some (0, false)) (fun k => ?_) (Ev.now _)
      simp only [eval_place_of.f]; rw [if_pos hd]
    · by_cases h1 : e.f0 = 1
      · have ha : askN (f + 1) e = 1 := by unfold askN; rw [if_pos h1]
        rw [ha, if_pos (by omega)]
        refine Ev.step (f := fun _ => some (valN regs vals n (f + 1) e)) (fun k => ?_) (Ev.now _)
        simp only [eval_place_of.f]; rw [if_neg hd, if_pos h1]; simp only [wrap_In.f, Option.bind_some]
        rw [valN, if_pos h1]
      · by_cases h2 : e.f0 = 2
        · have ha : askN (f + 1) e = 1 := by unfold askN; rw [if_neg h1, if_pos h2]
          rw [ha, if_pos (by omega)]
          refine Ev.step (f := fun k => (slices_Index_string_string.f k regs e.f2).bind (fun t => if t < 0 then some (0, false) else if 0 ≤ t then (if t < (vals.length : Int) then ((wrap_In.f (rd vals t) n).bind fun t2 => some (t2, true)) else none) else none)) (fun k => ?_) ?_
          · simp only [eval_place_of.f]; rw [if_neg hd, if_neg h1, if_pos h2]
          · refine Ev.bind (index_ev regs e.f2 hr) (Ev.congr (f := fun _ => some (valN regs vals n (f + 1) e)) (fun k => ?_) (Ev.now _))
            have hx := ix_range e.f2 regs 0 (Int.le_refl _)
            rw [valN, if_neg h1, if_pos h2]
            by_cases hx0 : ix e.f2 regs 0 < 0
            · rw [if_pos hx0, if_pos hx0]
            · rw [if_neg hx0, if_neg hx0, if_pos (by omega), if_pos (by omega)]; rfl
        · have badv : (e.f0 < 3 ∨ e.f0 > 6 ∨ e.f3.length ≠ 2) → (if dp + (askN (f + 1) e : Int) ≤ 6 then valN regs vals n (f + 1) e else (0, false)) = (0, false) := by
            intro hb
            have : valN regs vals n (f + 1) e = (0, false) := by rw [valN, if_neg h1, if_neg h2, if_pos hb]
            rw [this]; split <;> rfl
          have head : Ev (fun k => (eval_operator.f e.f0).bind fun t => (if t = 0 then (eval_place_of.j0 k dp t true regs vals n e.f0 e.f1 e.f2 e.f3) else (eval_place_of.j0 k dp t ((e.f3.length : Int) != 2) regs vals n e.f0 e.f1 e.f2 e.f3))) (if dp + (askN (f + 1) e : Int) ≤ 6 then valN regs vals n (f + 1) e else (0, false)) → Ev (fun k => eval_place_of.f k regs vals n e.f0 e.f1 e.f2 e.f3 dp) (if dp + (askN (f + 1) e : Int) ≤ 6 then valN regs vals n (f + 1) e else (0, false)) := fun h => by
            refine Ev.step (fun k => ?_) h
            simp only [eval_place_of.f]; rw [if_neg hd, if_neg h1, if_neg h2]
          refine head ?_
          by_cases hb : e.f0 < 3 ∨ e.f0 > 6
          · have ec : eval_operator.f e.f0 = some 0 := by
              unfold eval_operator.f; rw [if_neg (by omega), if_neg (by omega), if_neg (by omega), if_neg (by omega)]
            rw [badv (by omega), ec]
            refine Ev.congr (f := fun k => eval_place_of.j0 k dp 0 true regs vals n e.f0 e.f1 e.f2 e.f3) (fun k => by rw [Option.bind_some, if_pos rfl]) (Ev.step (f := fun _ => some _) (fun k => ?_) (Ev.now _))
            simp only [eval_place_of.j0, reduceIte]
          · obtain ⟨c, hc, ec⟩ : ∃ c, ((e.f0 = 3 ∧ c = 45) ∨ (e.f0 = 4 ∧ c = 46) ∨ (e.f0 = 5 ∧ c = 47) ∨ (e.f0 = 6 ∧ c = 48)) ∧ eval_operator.f e.f0 = some c := by
              have : e.f0 = 3 ∨ e.f0 = 4 ∨ e.f0 = 5 ∨ e.f0 = 6 := by omega
              rcases this with h | h | h | h
              · exact ⟨45, .inl ⟨h, rfl⟩, by rw [h]; rfl⟩
              · exact ⟨46, .inr (.inl ⟨h, rfl⟩), by rw [h]; rfl⟩
              · exact ⟨47, .inr (.inr (.inl ⟨h, rfl⟩)), by rw [h]; rfl⟩
              · exact ⟨48, .inr (.inr (.inr ⟨h, rfl⟩)), by rw [h]; rfl⟩
            have hc0 : ¬ c = 0 := by omega
            rw [ec]
            refine Ev.congr (f := fun k => eval_place_of.j0 k dp c ((e.f3.length : Int) != 2) regs vals n e.f0 e.f1 e.f2 e.f3) (fun k => by rw [Option.bind_some, if_neg hc0]) ?_
            by_cases hk : e.f3.length = 2
            · have g0 := ih (rd_T34 e.f3 0) (dp + 1) (hg.2 0 (by omega)) (by omega) (by omega)
              have g1 := ih (rd_T34 e.f3 1) (dp + 1) (hg.2 1 (by omega)) (by omega) (by omega)
              have r0 := valN_range regs vals n hn f (rd_T34 e.f3 0)
              have r1 := valN_range regs vals n hn f (rd_T34 e.f3 1)
              have ha : askN (f + 1) e = 1 + max (max 0 (askN f (rd_T34 e.f3 0))) (askN f (rd_T34 e.f3 1)) := by
                rw [askN, if_neg h1, if_neg h2, hk]; rfl
              have ev : valN regs vals n (f + 1) e = if (valN regs vals n f (rd_T34 e.f3 0)).2 = true ∧ (valN regs vals n f (rd_T34 e.f3 1)).2 = true then (opv e.f0 (valN regs vals n f (rd_T34 e.f3 0)).1 (valN regs vals n f (rd_T34 e.f3 1)).1 n, true) else (0, false) := by
                rw [valN, if_neg h1, if_neg h2, if_neg (by omega)]
              have key := of_two regs vals n hn hn4 e dp c (by omega) hk _ _ hc (ite_range _ _ n hn ⟨r0.1, r0.2.1⟩) (ite_range _ _ n hn ⟨r1.1, r1.2.1⟩) g0 g1
              refine cast (congrArg (fun z => Ev _ z) ?_) key
              by_cases ht : dp + (askN (f + 1) e : Int) ≤ 6
              · have z0 : (if dp + 1 + (askN f (rd_T34 e.f3 0) : Int) ≤ 6 then valN regs vals n f (rd_T34 e.f3 0) else (0, false)) = valN regs vals n f (rd_T34 e.f3 0) := if_pos (by omega)
                have z1 : (if dp + 1 + (askN f (rd_T34 e.f3 1) : Int) ≤ 6 then valN regs vals n f (rd_T34 e.f3 1) else (0, false)) = valN regs vals n f (rd_T34 e.f3 1) := if_pos (by omega)
                rw [if_pos ht, z0, z1, ev]
              · rw [if_neg ht]
                have : ¬ (dp + 1 + (askN f (rd_T34 e.f3 0) : Int) ≤ 6) ∨ ¬ (dp + 1 + (askN f (rd_T34 e.f3 1) : Int) ≤ 6) := by omega
                rcases this with h | h
                · rw [if_neg (show ¬ (_ ∧ _) from fun q => by rw [if_neg h] at q; exact absurd q.1 (by decide))]
                · rw [if_neg (show ¬ (_ ∧ _) from fun q => by rw [if_neg h] at q; exact absurd q.2 (by decide))]
            · rw [badv (.inr (.inr hk))]
              refine Ev.step (f := fun _ => some _) (fun k => ?_) (Ev.now _)
              simp only [eval_place_of.j0]; rw [if_pos (bne_iff_ne.mpr (by omega))]

/-- What Expr comes to. -/
def exprR (regs : List ByteArray) (vals : List Int) (n : Int) (f : Nat) (e : S34) : Int × Bool :=
  if n < 2 then (0, false) else if n > 4 then (0, false) else if regs.length = vals.length then (if askN f e > 6 then (0, false) else valN regs vals n f e) else (0, false)
theorem exprR_zero (regs : List ByteArray) (vals : List Int) (n : Int) (f : Nat) (e : S34) : (exprR regs vals n f e).2 = false → (exprR regs vals n f e).1 = 0 := by
  unfold exprR
  by_cases h2 : n < 2
  · rw [if_pos h2]; exact fun _ => rfl
  · rw [if_neg h2]
    by_cases h4 : n > 4
    · rw [if_pos h4]; exact fun _ => rfl
    · rw [if_neg h4]
      split
      · split
        · exact fun _ => rfl
        · exact (valN_range regs vals n (by omega) f e).2.2
      · exact fun _ => rfl
theorem ref_ev (regs : List ByteArray) (vals : List Int) (n : Int) (f : Nat) (hf : f ≤ 100) (e : S34) (hg : Good f e) (hr : regs.length ≤ 8) :
    Ev (fun k => witheref9_Expr.f k e.f0 e.f1 e.f2 e.f3 regs vals n) (exprR regs vals n f e) := by
  unfold exprR
  by_cases h2 : n < 2
  · rw [if_pos h2]; exact Ev.congr (f := fun _ => some _) (fun k => by unfold witheref9_Expr.f; rw [if_pos h2]) (Ev.now _)
  · rw [if_neg h2]
    by_cases h4 : n > 4
    · rw [if_pos h4]; exact Ev.congr (f := fun _ => some _) (fun k => by unfold witheref9_Expr.f; rw [if_neg h2, if_pos h4]) (Ev.now _)
    · rw [if_neg h4]
      by_cases hl : regs.length = vals.length
      · rw [if_pos hl]
        refine Ev.congr (fun k => by unfold witheref9_Expr.f; rw [if_neg h2, if_neg h4, if_pos (by omega)]) (Ev.bind (asked_ev f e hf hg) ?_)
        by_cases ha : askN f e > 6
        · rw [if_pos ha]; exact Ev.congr (f := fun _ => some _) (fun k => by rw [if_pos (by omega)]) (Ev.now _)
        · rw [if_neg ha]
          exact Ev.congr (fun k => by rw [if_neg (by omega)]) (Ev.bind (f := fun _ b => some (b.1, b.2)) (value_ev regs vals n (by omega) (by omega) hr hl f e hg) (Ev.now _))
      · rw [if_neg hl]
        exact Ev.congr (f := fun _ => some _) (fun k => by unfold witheref9_Expr.f; rw [if_neg h2, if_neg h4, if_neg (by omega)]) (Ev.now _)
theorem code_ev (regs : List ByteArray) (vals : List Int) (n : Int) (f : Nat) (e : S34) (hg : Good f e) (hr : regs.length ≤ 8) :
    Ev (fun k => eval_Expr.f k e.f0 e.f1 e.f2 e.f3 regs vals n) (exprR regs vals n f e) := by
  unfold exprR
  by_cases h2 : n < 2
  · rw [if_pos h2]; exact Ev.congr (f := fun _ => some _) (fun k => by unfold eval_Expr.f; rw [if_pos h2]) (Ev.now _)
  · rw [if_neg h2]
    by_cases h4 : n > 4
    · rw [if_pos h4]; exact Ev.congr (f := fun _ => some _) (fun k => by unfold eval_Expr.f; rw [if_neg h2, if_pos h4]) (Ev.now _)
    · rw [if_neg h4]
      by_cases hl : regs.length = vals.length
      · rw [if_pos hl]
        have h := of_ev regs vals n (by omega) (by omega) hr hl f e 0 hg (by omega) (by omega)
        have e1 : (if (0 : Int) + (askN f e : Int) ≤ 6 then valN regs vals n f e else (0, false)) = (if askN f e > 6 then (0, false) else valN regs vals n f e) := by
          by_cases ha : askN f e > 6
          · rw [if_pos ha, if_neg (by omega)]
          · rw [if_neg ha, if_pos (by omega)]
        rw [e1] at h
        exact Ev.congr (fun k => by unfold eval_Expr.f; rw [if_neg h2, if_neg h4, if_pos (by omega)]) (Ev.bind (f := fun _ b => some (b.1, b.2)) h (Ev.now _))
      · rw [if_neg hl]
        exact Ev.congr (f := fun _ => some _) (fun k => by unfold eval_Expr.f; rw [if_neg h2, if_neg h4, if_neg (by omega)]) (Ev.now _)

theorem names_loop (regs : List ByteArray) (vals : List Int) (n : Int) (f : Nat) (hf : f ≤ 100) (e : S34) (hg : Good f e) (hr : regs.length ≤ 8) (d : Nat) : ∀ j : Nat, j ≤ regs.length → regs.length - j = d →
    Ev (fun k => withelaw10_EvalAll.l0 k regs vals n j e.f0 e.f1 e.f2 e.f3) true := by
  induction d with
  | zero =>
    intro j hj hd
    have hc := code_ev regs vals n f e hg hr
    have hr2 := ref_ev regs vals n f hf e hg hr
    have ht : Ev (fun k => eval_True.f k e.f0 e.f1 e.f2 e.f3 regs vals n) ((exprR regs vals n f e).1 != 0, (exprR regs vals n f e).2) := by
      exact Ev.congr (fun k => by unfold eval_True.f; rfl) (Ev.bind (f := fun _ b => some ((b.1 != 0), b.2)) hc (Ev.now _))
    have hz := exprR_zero regs vals n f e
    generalize exprR regs vals n f e = R at *
    obtain ⟨v, ok⟩ := R
    simp only at hz hc hr2 ht
    refine Ev.step (f := fun k => (eval_Expr.f k e.f0 e.f1 e.f2 e.f3 regs vals n).bind fun b1 => (witheref9_Expr.f k e.f0 e.f1 e.f2 e.f3 regs vals n).bind fun b2 => (eval_True.f k e.f0 e.f1 e.f2 e.f3 regs vals n).bind fun b3 => (if b1.1 = b2.1 then (if (b1.2 == b2.2) = true then (if (b3.2 == b1.2) = true then (if b1.2 = true then (some (b3.1 == (b1.1 != 0))) else (some (b3.1 == false))) else (none)) else (none)) else (none))) (fun k => ?_) ?_
    · simp only [withelaw10_EvalAll.l0]; rw [if_neg (by omega)]
    · refine Ev.bind hc (Ev.bind hr2 (Ev.bind ht (Ev.congr (f := fun _ => some true) (fun k => ?_) (Ev.now _))))
      cases ok with
      | true => simp
      | false =>
        have := hz rfl
        subst this
        simp
  | succ d ih =>
    intro j hj hd
    have e2 : wrap64 ((j : Int) + 1) = ((j + 1 : Nat) : Int) := by unfold wrap64; omega
    by_cases h : ((rdOf ByteArray.empty regs (j : Int)).size : Int) > 40
    · refine Ev.step (f := fun _ => some true) (fun k => ?_) (Ev.now _)
      simp only [withelaw10_EvalAll.l0]; rw [if_pos (by omega), if_pos (by omega), if_pos h]
    · refine Ev.step (fun k => ?_) (ih (j + 1) (by omega) (by omega))
      simp only [withelaw10_EvalAll.l0]; rw [if_pos (by omega), if_pos (by omega), if_neg h, e2]

theorem begun_ev : Ev (fun k => withelaw10_begun.f k) true := Ev.of (k := 40) (fun k => withelaw10_begun.mono k) (by decide +kernel)

theorem EvalAll : withelaw10_EvalAll.Pure := by
  intro o m nm kids regs vals n hl1 hl2 hn
  refine Ev.rounds (g := fun k => withelaw10_EvalAll.f k o m nm kids regs vals n) ?_
  obtain ⟨s, s1, _, s3, s4⟩ := size_ev 13 0 ⟨o, m, nm, kids⟩ (by omega) (by omega)
  refine Ev.congr (fun k => by unfold withelaw10_EvalAll.f; rfl) (Ev.bind begun_ev (Ev.congr (fun k => by rw [if_pos rfl]) (Ev.bind s3 ?_)))
  have out : Ev (fun k => withelaw10_EvalAll.j0 k regs vals n true o m nm kids) true := Ev.step (f := fun _ => some true) (fun k => by simp only [withelaw10_EvalAll.j0, reduceIte]) (Ev.now _)
  by_cases hs : s > 300
  · exact Ev.congr (fun k => by rw [if_pos hs]) out
  · by_cases h1 : (regs.length : Int) > 8
    · exact Ev.congr (fun k => by rw [if_neg hs, if_pos h1]) out
    · by_cases h2 : (vals.length : Int) > 8
      · exact Ev.congr (fun k => by rw [if_neg hs, if_neg h1, decide_eq_true h2]) out
      · refine Ev.congr (fun k => by rw [if_neg hs, if_neg h1, decide_eq_false h2]) (Ev.step (fun k => ?_) (names_loop regs vals n 13 (by omega) ⟨o, m, nm, kids⟩ (s4 (by omega)) (by omega) regs.length 0 (by omega) (by omega)))
        simp only [withelaw10_EvalAll.j0, Bool.false_eq_true, reduceIte]; rfl

end Go.Proofs.Ytpkhcmholpljnaa.Pure
