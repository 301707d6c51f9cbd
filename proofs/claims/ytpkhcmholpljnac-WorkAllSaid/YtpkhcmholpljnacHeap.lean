/- A text of a claim (ours), plain laws: a heap in a list, by key and place; no program in sight. -/
import Derived.KernelRfl
namespace Go.Proofs.Ytpkhcmholpljnac.Heap
set_option linter.unusedVariables false
/-- A thing: its key, which one it was, its number. -/
abbrev Th := Int × Int × Int
def lt (a b : Th) : Bool := decide (a.1 < b.1) || (decide (a.1 = b.1) && decide (a.2.1 < b.2.1))
def le (a b : Th) : Prop := lt b a = false
theorem le_def (a b : Th) : le a b ↔ a.1 < b.1 ∨ (a.1 = b.1 ∧ a.2.1 ≤ b.2.1) := by
  unfold le lt
  simp only [Bool.or_eq_false_iff, decide_eq_false_iff_not, Bool.and_eq_false_iff]
  omega
theorem lt_def (a b : Th) : lt a b = true ↔ a.1 < b.1 ∨ (a.1 = b.1 ∧ a.2.1 < b.2.1) := by
  unfold lt
  simp only [Bool.or_eq_true, decide_eq_true_eq, Bool.and_eq_true]
theorem le_trans {a b c : Th} (h : le a b) (k : le b c) : le a c := by
  rw [le_def] at *; omega
theorem le_refl (a : Th) : le a a := by rw [le_def]; omega
theorem le_of_lt {a b : Th} (h : lt a b = true) : le a b := by
  rw [lt_def] at h; rw [le_def]; omega
def z : Th := (0, 0, 0)
def g (xs : List Th) (i : Nat) : Th := xs.getD i z
theorem g_eq (xs : List Th) (i : Nat) (h : i < xs.length) : g xs i = xs[i] := by
  unfold g; rw [List.getD_eq_getElem?_getD, List.getElem?_eq_getElem h]; rfl
theorem g_mem (xs : List Th) (i : Nat) (h : i < xs.length) : g xs i ∈ xs := by rw [g_eq xs i h]; exact List.getElem_mem h
theorem g_of_mem (xs : List Th) (t : Th) (h : t ∈ xs) : ∃ i, i < xs.length ∧ g xs i = t := by
  obtain ⟨i, hi, e⟩ := List.getElem_of_mem h
  exact ⟨i, hi, by rw [g_eq xs i hi]; exact e⟩
def swap (xs : List Th) (i j : Nat) : List Th := (xs.set i (g xs j)).set j (g xs i)
theorem swap_len (xs : List Th) (i j : Nat) : (swap xs i j).length = xs.length := by unfold swap; rw [List.length_set, List.length_set]
theorem swap_perm (xs : List Th) (i j : Nat) (hi : i < xs.length) (hj : j < xs.length) : (swap xs i j).Perm xs := by
  unfold swap
  rw [g_eq xs i hi, g_eq xs j hj]
  exact List.set_set_perm hi hj
theorem g_set (xs : List Th) (i k : Nat) (v : Th) (hi : i < xs.length) : g (xs.set i v) k = if i = k then v else g xs k := by
  unfold g
  rw [List.getD_eq_getElem?_getD, List.getD_eq_getElem?_getD, List.getElem?_set]
  by_cases h : i = k
  · rw [if_pos h, if_pos hi, if_pos h]; rfl
  · rw [if_neg h, if_neg h]
theorem g_swap (xs : List Th) (i j k : Nat) (hi : i < xs.length) (hj : j < xs.length) : g (swap xs i j) k = if j = k then g xs i else if i = k then g xs j else g xs k := by
  unfold swap
  rw [g_set _ j k _ (by rw [List.length_set]; exact hj), g_set _ i k _ hi]
/-- The first n are a heap. -/
def Ok (xs : List Th) (n : Nat) : Prop := ∀ i, 0 < i → i < n → le (g xs ((i - 1) / 2)) (g xs i)
def UpInv (xs : List Th) (n j : Nat) : Prop :=
  j < n ∧ n ≤ xs.length ∧ (∀ i, 0 < i → i < n → i ≠ j → le (g xs ((i - 1) / 2)) (g xs i)) ∧ (∀ i, 0 < i → i < n → (i - 1) / 2 = j → 0 < j → le (g xs ((j - 1) / 2)) (g xs i))
theorem up_start (xs : List Th) (t : Th) (h : Ok xs xs.length) : UpInv (xs ++ [t]) (xs ++ [t]).length xs.length := by
  have e : ∀ i, i < xs.length → g (xs ++ [t]) i = g xs i := fun i hi => by
    rw [g_eq _ i (by simp; omega), g_eq _ i hi, List.getElem_append_left hi]
  refine ⟨by simp, Nat.le_refl _, fun i h0 h1 h2 => ?_, fun i h0 h1 h2 h3 => ?_⟩
  · have hl : i < xs.length := by simp at h1; omega
    rw [e i hl, e _ (by omega)]; exact h i h0 hl
  · simp at h1; omega
theorem up_end0 (xs : List Th) (n : Nat) (h : UpInv xs n 0) : Ok xs n := fun i h0 h1 => h.2.2.1 i h0 h1 (by omega)
theorem up_end (xs : List Th) (n j : Nat) (h : UpInv xs n j) (hl : lt (g xs j) (g xs ((j - 1) / 2)) = false) : Ok xs n := fun i h0 h1 => by
  by_cases e : i = j
  · subst e; exact hl
  · exact h.2.2.1 i h0 h1 e
theorem up_step (xs : List Th) (n j : Nat) (h : UpInv xs n j) (hj : 0 < j) (hl : lt (g xs j) (g xs ((j - 1) / 2)) = true) : UpInv (swap xs ((j - 1) / 2) j) n ((j - 1) / 2) := by
  obtain ⟨h1, h2, h3, h4⟩ := h
  have hp : (j - 1) / 2 < j := by omega
  have G : ∀ k, g (swap xs ((j - 1) / 2) j) k = if j = k then g xs ((j - 1) / 2) else if (j - 1) / 2 = k then g xs j else g xs k := fun k => g_swap xs _ j k (by omega) (by omega)
  have hle := le_of_lt hl
  refine ⟨by omega, by rw [swap_len]; exact h2, fun i i0 i1 i2 => ?_, fun i i0 i1 i2 i3 => ?_⟩
  · rw [G i, G ((i - 1) / 2)]
    by_cases e : j = i
    · subst e
      rw [if_pos rfl, if_neg (by omega), if_pos rfl]; exact hle
    · rw [if_neg e, if_neg (show ¬ (j - 1) / 2 = i from Ne.symm i2)]
      by_cases e2 : j = (i - 1) / 2
      · rw [if_pos e2]; exact h4 i i0 i1 e2.symm hj
      · rw [if_neg e2]
        by_cases e3 : (j - 1) / 2 = (i - 1) / 2
        · rw [if_pos e3]; have := h3 i i0 i1 (Ne.symm e); rw [← e3] at this; exact le_trans hle this
        · rw [if_neg e3]; exact h3 i i0 i1 (Ne.symm e)
  · rw [G i, G (((j - 1) / 2 - 1) / 2), if_neg (by omega), if_neg (by omega)]
    have hpp := h3 ((j - 1) / 2) i3 (by omega) (by omega)
    by_cases e : j = i
    · subst e; rw [if_pos rfl]; exact hpp
    · rw [if_neg e, if_neg (show ¬ (j - 1) / 2 = i by omega)]
      have := h3 i i0 i1 (Ne.symm e)
      rw [i2] at this; exact le_trans hpp this
def DownInv (xs : List Th) (n i : Nat) : Prop :=
  n ≤ xs.length ∧ (∀ c, 0 < c → c < n → (c - 1) / 2 ≠ i → le (g xs ((c - 1) / 2)) (g xs c)) ∧ (∀ c, 0 < c → c < n → (c - 1) / 2 = i → 0 < i → le (g xs ((i - 1) / 2)) (g xs c))
theorem down_start (xs : List Th) (n : Nat) (h : Ok xs (n + 1)) (hn : n < xs.length) : DownInv (swap xs 0 n) n 0 := by
  refine ⟨by rw [swap_len]; omega, fun c c0 c1 c2 => ?_, fun c c0 c1 c2 c3 => by omega⟩
  rw [g_swap xs 0 n _ (by omega) hn, g_swap xs 0 n _ (by omega) hn, if_neg (by omega), if_neg (by omega), if_neg (by omega), if_neg (by omega)]
  exact h c c0 (by omega)
theorem down_end0 (xs : List Th) (n i : Nat) (h : DownInv xs n i) (hn : n ≤ 2 * i + 1) : Ok xs n := fun c c0 c1 => h.2.1 c c0 c1 (by omega)
/-- The lesser kid: both are at least as great. -/
def Kid (xs : List Th) (n i j : Nat) : Prop := j < n ∧ (j = 2 * i + 1 ∨ j = 2 * i + 2) ∧ (∀ c, c < n → c = 2 * i + 1 ∨ c = 2 * i + 2 → le (g xs j) (g xs c))
theorem kid1 (xs : List Th) (n i : Nat) (h : 2 * i + 1 < n) (h2 : n ≤ 2 * i + 2 ∨ lt (g xs (2 * i + 2)) (g xs (2 * i + 1)) = false) : Kid xs n i (2 * i + 1) := by
  refine ⟨h, .inl rfl, fun c c1 c2 => ?_⟩
  rcases c2 with rfl | rfl
  · exact le_refl _
  · rcases h2 with h2 | h2
    · omega
    · exact h2
theorem kid2 (xs : List Th) (n i : Nat) (h : 2 * i + 2 < n) (h2 : lt (g xs (2 * i + 2)) (g xs (2 * i + 1)) = true) : Kid xs n i (2 * i + 2) := by
  refine ⟨h, .inr rfl, fun c c1 c2 => ?_⟩
  rcases c2 with rfl | rfl
  · exact le_of_lt h2
  · exact le_refl _
theorem down_end (xs : List Th) (n i j : Nat) (h : DownInv xs n i) (k : Kid xs n i j) (hl : lt (g xs j) (g xs i) = false) : Ok xs n := fun c c0 c1 => by
  by_cases e : (c - 1) / 2 = i
  · rw [e]; exact le_trans hl (k.2.2 c c1 (by omega))
  · exact h.2.1 c c0 c1 e
theorem down_step (xs : List Th) (n i j : Nat) (h : DownInv xs n i) (k : Kid xs n i j) (hl : lt (g xs j) (g xs i) = true) : DownInv (swap xs i j) n j := by
  obtain ⟨h1, h2, h3⟩ := h
  obtain ⟨k1, k2, k3⟩ := k
  have G : ∀ c, g (swap xs i j) c = if j = c then g xs i else if i = c then g xs j else g xs c := fun c => g_swap xs i j c (by omega) (by omega)
  have hle := le_of_lt hl
  refine ⟨by rw [swap_len]; exact h1, fun c c0 c1 c2 => ?_, fun c c0 c1 c2 c3 => ?_⟩
  · rw [G c, G ((c - 1) / 2), if_neg (Ne.symm c2)]
    by_cases e : j = c
    · subst e; rw [if_pos rfl, if_pos (by omega)]; exact hle
    · rw [if_neg e]
      by_cases e2 : i = (c - 1) / 2
      · rw [if_pos e2, if_neg (by omega)]; exact k3 c c1 (by omega)
      · rw [if_neg e2]
        by_cases e3 : i = c
        · rw [if_pos e3]
          have := h3 j (by omega) k1 (by omega) (by omega)
          rw [e3] at this
          have e4 : (c - 1) / 2 = (c - 1) / 2 := rfl
          exact this
        · rw [if_neg e3]; exact h2 c c0 c1 (Ne.symm e2)
  · rw [G c, G ((j - 1) / 2), if_neg (show ¬ j = (j - 1) / 2 by omega), if_pos (show i = (j - 1) / 2 by omega), if_neg (show ¬ j = c by omega), if_neg (show ¬ i = c by omega)]
    have := h2 c c0 c1 (by omega)
    rw [c2] at this; exact this
theorem root_le (xs : List Th) (n : Nat) (h : Ok xs n) : ∀ i, i < n → le (g xs 0) (g xs i) := by
  intro i
  induction i using Nat.strongRecOn with
  | _ i ih =>
    intro hi
    by_cases e : i = 0
    · subst e; exact le_refl _
    · exact le_trans (ih ((i - 1) / 2) (by omega) (by omega)) (h i (by omega) hi)
theorem root_least (xs : List Th) (h : Ok xs xs.length) (t : Th) (ht : t ∈ xs) : le (g xs 0) t := by
  obtain ⟨i, hi, rfl⟩ := g_of_mem xs t ht
  exact root_le xs _ h i hi
theorem ok_take (xs : List Th) (n : Nat) (hn : n ≤ xs.length) (h : Ok xs n) : Ok (xs.take n) (xs.take n).length := by
  have el : (xs.take n).length = n := by rw [List.length_take]; omega
  rw [el]
  intro i i0 i1
  have e : ∀ k, k < n → g (xs.take n) k = g xs k := fun k hk => by
    rw [g_eq _ k (by omega), g_eq _ k (by omega), List.getElem_take]
  rw [e i i1, e _ (by omega)]
  exact h i i0 i1
theorem take_last (xs : List Th) (n : Nat) (hn : xs.length = n + 1) : (xs.take n ++ [g xs n]) = xs := by
  rw [g_eq xs n (by omega), List.take_append_getElem, List.take_of_length_le (by omega)]
end Go.Proofs.Ytpkhcmholpljnac.Heap
