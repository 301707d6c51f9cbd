/- A text of a claim (ours), the plain law: a range is what is put one by one, and two ranges side by side are one; conditions: none. -/
import Derived.Test.YtpkhcmholpljnabDoorPureBitsOne
namespace Go.Proofs.YtpkhcmholpljnabDoor.Pure
set_option linter.unusedSimpArgs false
open Go Go.RowKit Go.Proofs.YtpkhcmholpljnabDoor.PB1 Go.Proofs.YtpkhcmholpljnabDoor.PureBits Go.Proofs.YtpkhcmholpljnabDoorW.PrintWords Go.Proofs.YtpkhcmholpljnabDoorW.PrintLast
namespace Rng
def rg : Nat → Nat → Nat
  | _, 0 => 0
  | i, n + 1 => 2 ^ i ||| rg (i + 1) n
theorem rg_bit : ∀ (n i j : Nat), (rg i n).testBit j = decide (i ≤ j ∧ j < i + n)
  | 0, i, j => by
    rw [rg, Nat.zero_testBit]
    symm; apply decide_eq_false; omega
  | n + 1, i, j => by
    rw [rg, Nat.testBit_or, rg_bit n (i + 1) j, Nat.testBit_two_pow]
    rw [Bool.eq_iff_iff]
    simp only [Bool.or_eq_true, decide_eq_true_eq]
    omega
theorem rg_lt : ∀ (n i : Nat), i + n ≤ 64 → rg i n < 18446744073709551616
  | 0, _, _ => by rw [rg]; decide
  | n + 1, i, h => by rw [rg]; exact One.or_lt64 _ _ (One.two_lt ⟨i, by omega⟩) (rg_lt n (i + 1) (by omega))
theorem rg_count : ∀ (n i : Nat), i + n ≤ 64 → Lib.onesCount (rg i n) = n
  | 0, _, _ => by rw [rg]; exact One.oc_zero
  | n + 1, i, h => by
    have P := One.oc_incl (2 ^ i) (rg (i + 1) n)
    have e : 2 ^ i &&& rg (i + 1) n = 0 := by
      apply Nat.eq_of_testBit_eq; intro j
      rw [Nat.testBit_and, Nat.testBit_two_pow, rg_bit, Nat.zero_testBit]
      by_cases q : i = j
      · subst q
        rw [decide_eq_false (p := i + 1 ≤ i ∧ i < i + 1 + n) (by omega)]; simp
      · simp [q]
    have e2 : Lib.onesCount (2 ^ i) = 1 := One.pop_two ⟨i, by omega⟩
    rw [e, One.oc_zero, e2, rg_count n (i + 1) (by omega)] at P
    rw [rg]; omega
theorem rg_or (a m b : Nat) (h1 : a ≤ m) (h2 : m ≤ b) : rg a (m - a) ||| rg m (b - m) = rg a (b - a) := by
  apply Nat.eq_of_testBit_eq; intro j
  rw [Nat.testBit_or, rg_bit, rg_bit, rg_bit, Bool.eq_iff_iff]
  simp only [Bool.or_eq_true, decide_eq_true_eq]
  omega
theorem rg_and (a m b : Nat) (h1 : a ≤ m) : rg a (m - a) &&& rg m (b - m) = 0 := by
  apply Nat.eq_of_testBit_eq; intro j
  rw [Nat.testBit_and, rg_bit, rg_bit, Nat.zero_testBit, Bool.eq_iff_iff]
  simp only [Bool.and_eq_true, decide_eq_true_eq, Bool.false_eq_true, iff_false]
  omega
theorem wr1 (i : Nat) (h : i < 64) : wrap64 ((i : Int) + 1) = ((i + 1 : Nat) : Int) := by
  unfold wrap64; omega
theorem range_l0 : ∀ (d k i acc hi : Nat), hi ≤ 64 → hi = i + d → acc < 18446744073709551616 → d < k → bits_Range.l0 k (hi : Int) (acc : Int) (i : Int) = some ((acc ||| rg i d : Nat) : Int)
  | 0, k, i, acc, hi, h, hd, ha, hk => by
    obtain ⟨k, rfl⟩ : ∃ m, k = m + 1 := ⟨k - 1, by omega⟩
    rw [bits_Range.l0, if_neg (by unfold mn; omega), rg, Nat.or_zero]
  | d + 1, k, i, acc, hi, h, hd, ha, hk => by
    obtain ⟨k, rfl⟩ : ∃ m, k = m + 1 := ⟨k - 1, by omega⟩
    have hi64 : i < 64 := by omega
    rw [bits_Range.l0, if_pos (by unfold mn; omega), One.one i hi64]
    simp only [Option.bind_some]
    rw [bits_or_u64_nat acc (2 ^ i) ha (One.two_lt ⟨i, hi64⟩), wr1 i hi64]
    rw [range_l0 d k (i + 1) _ hi h (by omega) (One.or_lt64 _ _ ha (One.two_lt ⟨i, hi64⟩)) (by omega)]
    rw [rg, Nat.or_assoc]
theorem range (k lo hi : Nat) (h : lo ≤ hi) (h2 : hi ≤ 64) (hk : 64 < k) : bits_Range.f k (lo : Int) (hi : Int) = some ((rg lo (hi - lo) : Nat) : Int) := by
  unfold bits_Range.f
  rw [show mx (lo : Int) 0 = (lo : Int) by unfold mx; omega]
  have := range_l0 (hi - lo) k lo 0 hi h2 (by omega) (by decide) (by omega)
  rw [Nat.zero_or] at this
  exact this
theorem range_back (k lo hi : Nat) (h : hi ≤ lo) : bits_Range.f (k + 1) (lo : Int) (hi : Int) = some 0 := by
  unfold bits_Range.f
  rw [bits_Range.l0, if_neg (by unfold mx mn; omega)]
theorem chain (R1 R2 R3 R4 C : Option Int) (orf andf : Int → Int → Int) (s p q w : Int) (h1 : R1 = some s) (h2 : R2 = some p) (h3 : R3 = some q) (h4 : R4 = some 0) (h5 : C = some w) (h6 : orf p q = s) (h7 : andf p q = 0) :
    (R1.bind fun t139 => (if t139 = s then (R2.bind fun t140 => (R3.bind fun t141 => (if orf t140 t141 = s then (R2.bind fun t142 => (R3.bind fun t143 => (if andf t142 t143 = 0 then (C.bind fun t144 => (if t144 = w then (R4.bind fun t145 => (some (t145 == 0))) else (none))) else (none)))) else (none)))) else (none))) = some true := by
  subst h1 h2 h3 h4 h5
  simp only [Option.bind_some]
  simp [h6, h7]
theorem loop (lo mid hi : Nat) (h1 : lo ≤ mid) (h2 : mid ≤ hi) (h3 : hi ≤ 64) : ∀ (d k i s : Nat), hi = i + d → lo ≤ i → d + 66 < k → s < 18446744073709551616 → s ||| rg i d = rg lo (hi - lo) →
    withelaw1_BitsRanges.l0 k (lo : Int) (mid : Int) (hi : Int) (s : Int) (i : Int) = some true
  | 0, k, i, s, hd, hl, hk, hs, hE => by
    obtain ⟨k, rfl⟩ : ∃ m, k = m + 2 := ⟨k - 2, by omega⟩
    rw [withelaw1_BitsRanges.l0, if_neg (by omega)]
    rw [rg, Nat.or_zero] at hE
    subst hE
    have w1 := rg_lt (mid - lo) lo (by omega)
    have w2 := rg_lt (hi - mid) mid (by omega)
    refine chain _ _ _ _ _ _ _ _ _ _ _ (range (k + 1) lo hi (by omega) h3 (by omega)) (range (k + 1) lo mid h1 (by omega) (by omega)) (range (k + 1) mid hi h2 h3 (by omega)) (range_back k hi lo (by omega)) ?_ ?_ ?_
    · rw [count _ hs, rg_count _ _ (by omega)]
      congr 1
      unfold wrap64; omega
    · rw [bits_or_u64_nat _ _ w1 w2, rg_or lo mid hi h1 h2]
    · rw [bits_and_u64_nat _ _ w1 w2, rg_and lo mid hi h1]; rfl
  | d + 1, k, i, s, hd, hl, hk, hs, hE => by
    obtain ⟨k, rfl⟩ : ∃ m, k = m + 1 := ⟨k - 1, by omega⟩
    have hi64 : i < 64 := by omega
    rw [withelaw1_BitsRanges.l0, if_pos (by omega), One.put s i hs hi64]
    simp only [Option.bind_some]
    rw [wr1 i hi64]
    exact loop lo mid hi h1 h2 h3 d k (i + 1) _ (by omega) (by omega) (by omega) (One.or_lt64 _ _ hs (One.two_lt ⟨i, hi64⟩)) (by rw [Nat.or_assoc]; rw [rg] at hE; exact hE)
theorem tmN (y m : Nat) : Int.tmod (y : Int) (m : Int) = ((y % m : Nat) : Int) := (Int.ofNat_tmod y m).symm
theorem e1 (x : Nat) : wrap64 (Int.tmod (x : Int) 65) = ((x % 65 : Nat) : Int) := by
  rw [show (65 : Int) = ((65 : Nat) : Int) from rfl, tmN]; exact w64_nat _ (by omega)
theorem e2 (lo : Nat) (h : lo < 65) : wrap64 (65 - (lo : Int)) = ((65 - lo : Nat) : Int) := by unfold wrap64; omega
theorem e4 (lo y m : Nat) (h : lo + y % m < 65) : wrap64 ((lo : Int) + Int.tmod (y : Int) ((m : Nat) : Int)) = ((lo + y % m : Nat) : Int) := by
  rw [tmN, ← Int.natCast_add]; exact w64_nat _ (by omega)
theorem front (k lo mid hi x y z : Nat) (hb : withelaw1_begun.f k = some true) (E1 : wrap64 (Int.tmod (x : Int) 65) = (lo : Int)) (E2 : wrap64 (65 - (lo : Int)) = ((65 - lo : Nat) : Int))
    (E3 : wrap64 (y : Int) = (y : Int)) (E3' : wrap64 (z : Int) = (z : Int)) (E4 : wrap64 ((lo : Int) + Int.tmod (y : Int) ((65 - lo : Nat) : Int)) = (mid : Int)) (E5 : wrap64 (65 - (mid : Int)) = ((65 - mid : Nat) : Int))
    (E6 : wrap64 ((mid : Int) + Int.tmod (z : Int) ((65 - mid : Nat) : Int)) = (hi : Int)) (q1 : ¬ ((65 - lo : Nat) : Int) = 0) (q2 : ¬ ((65 - mid : Nat) : Int) = 0)
    (L : withelaw1_BitsRanges.l0 k (lo : Int) (mid : Int) (hi : Int) 0 (lo : Int) = some true) : withelaw1_BitsRanges.f k (x : Int) (y : Int) (z : Int) = some true := by
  unfold withelaw1_BitsRanges.f
  rw [hb, Option.bind_some, if_pos rfl, E1, E2, E3, E4, E5, E3', E6, if_neg q1, if_neg q2]
  exact L
theorem begun200 : withelaw1_begun.f 200 = some true := at_rounds withelaw1_begun.mono (by decide) PureBits.begun
theorem mods (x y z : Nat) : ∃ lo mid hi, lo = x % 65 ∧ mid = lo + y % (65 - lo) ∧ hi = mid + z % (65 - mid) ∧ lo < 65 ∧ mid < 65 ∧ hi < 65 ∧ lo ≤ mid ∧ mid ≤ hi := by
  refine ⟨_, _, _, rfl, rfl, rfl, ?_⟩
  have hlo : x % 65 < 65 := Nat.mod_lt _ (by omega)
  generalize x % 65 = lo at hlo
  have hmid : y % (65 - lo) < 65 - lo := Nat.mod_lt _ (by omega)
  generalize y % (65 - lo) = m at hmid
  have hhi : z % (65 - (lo + m)) < 65 - (lo + m) := Nat.mod_lt _ (by omega)
  omega
end Rng
open Rng in
theorem BitsRanges : withelaw1_BitsRanges.Pure := by
  intro a0 a1 a2 w0 w1 w2
  obtain ⟨x, rfl, hx⟩ := One.u8_of_wf w0
  obtain ⟨y, rfl, hy⟩ := One.u8_of_wf w1
  obtain ⟨z, rfl, hz⟩ := One.u8_of_wf w2
  obtain ⟨lo, mid, hi, q1, q2, q3, h1, h2, h3, h4, h5⟩ := mods x y z
  refine ⟨200, front 200 lo mid hi x y z begun200 (by rw [q1]; exact e1 x) (e2 lo h1) (w64_nat _ (by omega)) (w64_nat _ (by omega)) (by rw [q2]; exact e4 lo y _ (by rw [← q2]; exact h2)) (e2 mid h2) (by rw [q3]; exact e4 mid z _ (by rw [← q3]; exact h3)) (by omega) (by omega) ?_⟩
  exact loop lo mid hi h4 h5 (by omega) (hi - lo) 200 lo 0 (by omega) (by omega) (by omega) (by decide) (Nat.zero_or _)
end Go.Proofs.YtpkhcmholpljnabDoor.Pure
