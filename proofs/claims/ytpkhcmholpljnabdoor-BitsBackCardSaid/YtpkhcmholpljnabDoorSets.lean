/- A text of a claim (ours), plain laws: sets of the numbers below 64 as numbers below 2^64, and their lists; no program in sight. -/
import Derived.Lib.BitFns
import Derived.Lib.TrailingZeros
namespace Go.Proofs.YtpkhcmholpljnabDoor.Sets
set_option linter.unusedSimpArgs false
theorem or_add_and (x : Nat) : ∀ y : Nat, (x ||| y) + (x &&& y) = x + y := by
  induction x using Nat.strongRecOn with
  | _ x ih =>
    intro y
    by_cases h : x = 0
    · subst h; simp
    · have h2 := ih (x / 2) (by omega) (y / 2)
      have e1 := Nat.or_div_two (a := x) (b := y)
      have e2 := Nat.and_div_two (a := x) (b := y)
      have m1 : (x ||| y) % 2 = (x % 2) ||| (y % 2) := by
        have := Nat.or_mod_two_pow (a := x) (b := y) (n := 1); simpa using this
      have m2 : (x &&& y) % 2 = (x % 2) &&& (y % 2) := by
        have := Nat.and_mod_two_pow (a := x) (b := y) (n := 1); simpa using this
      rw [← e1, ← e2] at h2
      have k : ((x % 2) ||| (y % 2)) + ((x % 2) &&& (y % 2)) = x % 2 + y % 2 := by
        rcases Nat.mod_two_eq_zero_or_one x with p | p <;> rcases Nat.mod_two_eq_zero_or_one y with q | q <;> simp [p, q]
      rw [← m1, ← m2] at k
      omega
theorem and_pow (s n : Nat) : s &&& 2 ^ n = if s.testBit n then 2 ^ n else 0 := by
  apply Nat.eq_of_testBit_eq; intro i
  rw [Nat.testBit_and, Nat.testBit_two_pow]
  by_cases e : n = i
  · subst e; cases h : s.testBit n <;> simp [h, Nat.testBit_two_pow]
  · cases h : s.testBit n <;> simp [h, e, Nat.testBit_two_pow]
theorem or_new (s n : Nat) (h : s.testBit n = false) : s ||| 2 ^ n = s + 2 ^ n := by
  have := or_add_and s (2 ^ n)
  rw [and_pow, h] at this
  simpa using this
theorem or_old (s n : Nat) (h : s.testBit n = true) : s ||| 2 ^ n = s := by
  apply Nat.eq_of_testBit_eq; intro i
  rw [Nat.testBit_or, Nat.testBit_two_pow]
  by_cases e : n = i
  · subst e; simp [h]
  · simp [e]
/-- The numbers of a set from i on, n places far. -/
def lst (s : Nat) : Nat → Nat → List Int
  | _, 0 => []
  | i, n + 1 => if s.testBit i then (i : Int) :: lst s (i + 1) n else lst s (i + 1) n
theorem lst_congr (s t : Nat) : ∀ n i, (∀ j, i ≤ j → j < i + n → s.testBit j = t.testBit j) → lst s i n = lst t i n
  | 0, _, _ => rfl
  | n + 1, i, h => by
    rw [lst, lst, h i (by omega) (by omega), lst_congr s t n (i + 1) (fun j h1 h2 => h j (by omega) (by omega))]
theorem lst_split (s : Nat) : ∀ a i b, lst s i (a + b) = lst s i a ++ lst s (i + a) b
  | 0, i, b => by simp [lst]
  | a + 1, i, b => by
    rw [show a + 1 + b = (a + b) + 1 by omega, lst, lst, lst_split s a (i + 1) b, show i + 1 + a = i + (a + 1) by omega]
    split <;> simp
theorem lst_none (s : Nat) : ∀ n i, (∀ j, i ≤ j → j < i + n → s.testBit j = false) → lst s i n = []
  | 0, _, _ => rfl
  | n + 1, i, h => by
    rw [lst, h i (by omega) (by omega), lst_none s n (i + 1) (fun j h1 h2 => h j (by omega) (by omega))]; rfl
theorem lst_len (s : Nat) : ∀ n i, (lst s i n).length ≤ n
  | 0, _ => Nat.le_refl _
  | n + 1, i => by
    have := lst_len s n (i + 1)
    rw [lst]; split
    · rw [List.length_cons]; omega
    · omega
theorem ctz_spec (s : Nat) (h : s ≠ 0) (hs : s < 18446744073709551616) : ∃ m, s = 2 ^ Lib.ctz 64 s * (2 * m + 1) ∧ Lib.ctz 64 s < 64 := by
  unfold Lib.ctz
  rw [if_neg h]
  exact Lib.ctzFrom_spec 64 s (by omega) hs
theorem ctz_bits (s : Nat) (h : s ≠ 0) (hs : s < 18446744073709551616) :
    s.testBit (Lib.ctz 64 s) = true ∧ (∀ j, j < Lib.ctz 64 s → s.testBit j = false) ∧ (∀ j, (s &&& (s - 1)).testBit j = (s.testBit j && !decide (j = Lib.ctz 64 s))) := by
  obtain ⟨m, hm, _⟩ := ctz_spec s h hs
  generalize Lib.ctz 64 s = c at hm
  have hp : 0 < 2 ^ c := Nat.two_pow_pos c
  have e1 : s = 2 ^ (c + 1) * m + 2 ^ c := by rw [hm, Nat.pow_succ, Nat.mul_add, Nat.mul_one, Nat.mul_assoc]
  have e2 : s - 1 = 2 ^ (c + 1) * m + (2 ^ c - 1) := by omega
  have l1 : 2 ^ c < 2 ^ (c + 1) := by rw [Nat.pow_succ]; omega
  have l2 : 2 ^ c - 1 < 2 ^ (c + 1) := by omega
  have b1 : ∀ j, s.testBit j = if j < c + 1 then decide (c = j) else m.testBit (j - (c + 1)) := by
    intro j; rw [e1, Nat.testBit_two_pow_mul_add m l1 j, Nat.testBit_two_pow]
  have b2 : ∀ j, (s - 1).testBit j = if j < c + 1 then decide (j < c) else m.testBit (j - (c + 1)) := by
    intro j; rw [e2, Nat.testBit_two_pow_mul_add m l2 j, Nat.testBit_two_pow_sub_one]
  refine ⟨by rw [b1]; simp, fun j hj => ?_, fun j => ?_⟩
  · rw [b1, if_pos (by omega), decide_eq_false (by omega)]
  · rw [Nat.testBit_and, b1, b2]
    by_cases q : j < c + 1
    · rw [if_pos q, if_pos q]
      by_cases r : c = j
      · subst r; simp
      · simp [r]
    · rw [if_neg q, if_neg q, decide_eq_false (p := j = c) (by omega)]; simp
theorem lst_step (s : Nat) (h : s ≠ 0) (hs : s < 18446744073709551616) : lst s 0 64 = ((Lib.ctz 64 s : Nat) : Int) :: lst (s &&& (s - 1)) 0 64 := by
  obtain ⟨h1, h2, h3⟩ := ctz_bits s h hs
  obtain ⟨_, _, hc⟩ := ctz_spec s h hs
  generalize Lib.ctz 64 s = c at h1 h2 h3 hc
  have e : (64 : Nat) = c + ((63 - c) + 1) := by omega
  rw [e, lst_split s c 0 ((63 - c) + 1), lst_split (s &&& (s - 1)) c 0 ((63 - c) + 1), lst_none s c 0 (fun j _ hj => h2 j (by omega)), lst_none (s &&& (s - 1)) c 0 (fun j _ hj => by rw [h3, h2 j (by omega)]; rfl)]
  rw [lst, lst, Nat.zero_add, h1, h3, h1]
  rw [lst_congr (s &&& (s - 1)) s (63 - c) (c + 1) (fun j hj _ => by rw [h3, decide_eq_false (p := j = c) (by omega)]; simp)]
  simp
theorem lst_zero (n i : Nat) : lst 0 i n = [] := lst_none 0 n i (fun j _ _ => Nat.zero_testBit j)
theorem pop_lst (s : Nat) : ∀ n i, Lib.popAux n (s / 2 ^ i) = (lst s i n).length
  | 0, _ => rfl
  | n + 1, i => by
    rw [Lib.popAux, lst, Nat.div_div_eq_div_mul, ← Nat.pow_succ, pop_lst s n (i + 1), Nat.testBit_eq_decide_div_mod_eq]
    rcases Nat.mod_two_eq_zero_or_one (s / 2 ^ i) with p | p
    · rw [p]; simp
    · rw [p]; simp; omega
theorem count_lst (s : Nat) : Lib.onesCount s = (lst s 0 64).length := by
  have := pop_lst s 64 0
  rw [Nat.pow_zero, Nat.div_one] at this
  exact this
theorem bitLen_spec : ∀ (f x : Nat), x ≠ 0 → x < 2 ^ f → ∃ l, Lib.bitLenAux f x = l + 1 ∧ l < f ∧ x.testBit l = true ∧ x < 2 ^ (l + 1)
  | 0, x, h0, h => by simp at h; omega
  | f + 1, x, h0, h => by
    rw [Lib.bitLenAux, if_neg h0]
    by_cases q : x / 2 = 0
    · have : x = 1 := by omega
      subst this
      refine ⟨0, ?_, by omega, by decide, by decide⟩
      rw [q]
      cases f <;> simp [Lib.bitLenAux]
    · obtain ⟨l, e, hl, hb, hlt⟩ := bitLen_spec f (x / 2) q (by rw [Nat.pow_succ] at h; omega)
      refine ⟨l + 1, by rw [e]; omega, by omega, by rw [Nat.testBit_succ]; exact hb, ?_⟩
      have : 2 ^ (l + 1 + 1) = 2 * 2 ^ (l + 1) := by rw [Nat.pow_succ]; omega
      omega
theorem lst_last (s : Nat) (h : s ≠ 0) (hs : s < 18446744073709551616) : ∃ l, Lib.bitLen s = l + 1 ∧ l < 64 ∧ lst s 0 64 = lst s 0 l ++ [(l : Int)] := by
  obtain ⟨l, e, hl, hb, hlt⟩ := bitLen_spec 64 s h hs
  refine ⟨l, e, hl, ?_⟩
  rw [show (64 : Nat) = l + ((63 - l) + 1) by omega, lst_split s l 0 ((63 - l) + 1), lst, Nat.zero_add, hb, lst_none s (63 - l) (l + 1)]
  · simp
  · intro j hj _
    exact Nat.testBit_lt_two_pow (Nat.lt_of_lt_of_le hlt (Nat.pow_le_pow_right (by decide) hj))
theorem lst_ne (s : Nat) (h : s ≠ 0) (hs : s < 18446744073709551616) : lst s 0 64 ≠ [] := by
  rw [lst_step s h hs]; simp
/-- A set with a number, if it may be in one. -/
def putN (s : Nat) (x : Int) : Nat := if 0 ≤ x ∧ x < 64 then s ||| 2 ^ x.toNat else s
theorem or_lt64 (a b : Nat) (ha : a < 18446744073709551616) (hb : b < 18446744073709551616) : a ||| b < 18446744073709551616 := Nat.or_lt_two_pow (n := 64) ha hb
theorem two_lt : ∀ n : Fin 64, 2 ^ n.1 < 18446744073709551616 := by decide +kernel
theorem putN_lt (s : Nat) (x : Int) (hs : s < 18446744073709551616) : putN s x < 18446744073709551616 := by
  unfold putN
  split
  · exact or_lt64 _ _ hs (two_lt ⟨x.toNat, by omega⟩)
  · exact hs
end Go.Proofs.YtpkhcmholpljnabDoor.Sets
