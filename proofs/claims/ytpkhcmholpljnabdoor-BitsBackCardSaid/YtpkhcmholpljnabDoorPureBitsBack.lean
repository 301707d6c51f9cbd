/- A text of a claim (ours), the plain law: a set's numbers rise, and make it again; and so do numbers in another order, with some twice; conditions: none. -/
import Derived.Test.YtpkhcmholpljnabDoorPureBitsAll
namespace Go.Proofs.YtpkhcmholpljnabDoor.Pure
set_option linter.unusedSimpArgs false
set_option linter.unusedVariables false
open Go Go.RowKit Go.Proofs.YtpkhcmholpljnabDoor.PB1 Go.Proofs.YtpkhcmholpljnabDoor.PureBits Go.Proofs.YtpkhcmholpljnabDoorW.PrintWords Go.Proofs.YtpkhcmholpljnabDoorW.PrintLast Go.Proofs.YtpkhcmholpljnabDoorW.PrintMore
namespace Back
open Sets All
theorem mem_lst (s : Nat) (x : Int) : ∀ n i, x ∈ lst s i n ↔ ∃ j : Nat, x = (j : Int) ∧ i ≤ j ∧ j < i + n ∧ s.testBit j = true
  | 0, i => by
    rw [lst]
    simp only [List.not_mem_nil, false_iff]
    rintro ⟨j, _, h1, h2, _⟩
    omega
  | n + 1, i => by
    have ih := mem_lst s x n (i + 1)
    rw [lst]
    cases hb : s.testBit i with
    | true =>
      rw [if_pos rfl, List.mem_cons, ih]
      constructor
      · rintro (h | ⟨j, h, h1, h2, h3⟩)
        · exact ⟨i, h, by omega, by omega, hb⟩
        · exact ⟨j, h, by omega, by omega, h3⟩
      · rintro ⟨j, h, h1, h2, h3⟩
        by_cases e : j = i
        · left; rw [h, e]
        · right; exact ⟨j, h, by omega, by omega, h3⟩
    | false =>
      rw [if_neg (by decide), ih]
      constructor
      · rintro ⟨j, h, h1, h2, h3⟩
        exact ⟨j, h, by omega, by omega, h3⟩
      · rintro ⟨j, h, h1, h2, h3⟩
        by_cases e : j = i
        · rw [e, hb] at h3; exact absurd h3 (by decide)
        · exact ⟨j, h, by omega, by omega, h3⟩
theorem lst_rise (s : Nat) : ∀ n i, List.Pairwise (· < ·) (lst s i n)
  | 0, i => by rw [lst]; exact List.Pairwise.nil
  | n + 1, i => by
    rw [lst]
    split
    · refine List.Pairwise.cons (fun x hx => ?_) (lst_rise s n (i + 1))
      obtain ⟨j, h, h1, _, _⟩ := (mem_lst s x n (i + 1)).1 hx
      omega
    · exact lst_rise s n (i + 1)
theorem rd_get (l : List Int) (i : Nat) (h : i < l.length) : rd l (i : Int) = l[i] := by
  unfold rd
  rw [Int.toNat_natCast, List.getD_eq_getElem?_getD, List.getElem?_eq_getElem h]; rfl
theorem rise (l : List Int) (hp : List.Pairwise (· < ·) l) (i : Nat) (h : i + 1 < l.length) : rd l (i : Int) < rd l ((i + 1 : Nat) : Int) := by
  rw [rd_get l i (by omega), rd_get l (i + 1) h]
  exact List.pairwise_iff_getElem.1 hp i (i + 1) (by omega) h (by omega)
theorem rd_mem (l : List Int) (i : Nat) (h : i < l.length) : rd l (i : Int) ∈ l := by
  rw [rd_get l i h]; exact List.getElem_mem h
theorem fold_bit (l : List Int) : ∀ (s j : Nat), (foldN s l).testBit j = (s.testBit j || decide (j < 64 ∧ (j : Int) ∈ l)) := by
  induction l with
  | nil => intro s j; rw [show foldN s [] = s from rfl]; simp
  | cons x t ih =>
    intro s j
    rw [show foldN s (x :: t) = foldN (putN s x) t from rfl, ih]
    unfold putN
    by_cases h : 0 ≤ x ∧ x < 64
    · rw [if_pos h, Nat.testBit_or, Nat.testBit_two_pow]
      cases s.testBit j
      · rw [Bool.eq_iff_iff]
        simp only [Bool.false_or, Bool.or_eq_true, decide_eq_true_eq, List.mem_cons]
        constructor
        · rintro (e | ⟨h1, h2⟩)
          · exact ⟨by omega, .inl (by omega)⟩
          · exact ⟨h1, .inr h2⟩
        · rintro ⟨h1, e | h2⟩
          · left; omega
          · exact .inr ⟨h1, h2⟩
      · simp
    · rw [if_neg h]
      cases s.testBit j
      · rw [Bool.eq_iff_iff]
        simp only [Bool.false_or, decide_eq_true_eq, List.mem_cons]
        constructor
        · rintro ⟨h1, h2⟩; exact ⟨h1, .inr h2⟩
        · rintro ⟨h1, e | h2⟩
          · exfalso; omega
          · exact ⟨h1, h2⟩
      · simp
theorem fold_back (s : Nat) (hs : s < 18446744073709551616) (m : List Int) (hm : ∀ x, x ∈ m ↔ x ∈ lst s 0 64) : foldN 0 m = s := by
  apply Nat.eq_of_testBit_eq; intro j
  rw [fold_bit, Nat.zero_testBit, Bool.false_or]
  by_cases hj : j < 64
  · rw [Bool.eq_iff_iff]
    simp only [decide_eq_true_eq]
    rw [hm, mem_lst]
    constructor
    · rintro ⟨_, k, e, _, _, h⟩
      have : k = j := by omega
      rw [← this]; exact h
    · intro h; exact ⟨hj, j, rfl, by omega, by omega, h⟩
  · rw [decide_eq_false (fun h => hj h.1)]
    have h64 : (2 : Nat) ^ 64 ≤ 2 ^ j := Nat.pow_le_pow_right (by decide) (by omega)
    exact (Nat.testBit_lt_two_pow (Nat.lt_of_lt_of_le hs h64)).symm
theorem mem_turn (l : List Int) (n : Nat) (hn : n < l.length) (x : Int) : x ∈ (([] ++ l.drop n) ++ l.take n) ++ [rd l (n : Int)] ↔ x ∈ l := by
  have h := rd_mem l n hn
  have e : x ∈ l ↔ x ∈ l.take n ++ l.drop n := by rw [List.take_append_drop]
  simp only [List.nil_append, List.mem_append, List.mem_cons, List.not_mem_nil, or_false]
  constructor
  · rintro ((h1 | h1) | h1)
    · exact List.mem_of_mem_drop h1
    · exact List.mem_of_mem_take h1
    · rw [h1]; exact h
  · intro hx
    rw [e, List.mem_append] at hx
    rcases hx with h1 | h1
    · exact .inl (.inr h1)
    · exact .inl (.inl h1)
theorem exit (k s n : Nat) (l : List Int) (x1 : Int) (hs : s < 18446744073709551616) (h0 : s ≠ 0) (hl : l = lst s 0 64) (hn : n < l.length) (ht : Int.tmod (wrap64 x1) (l.length : Int) = (n : Int)) (hlen : l.length ≤ 64) (hk : 2000 < k)
    (w1 : wrap64 ((l.length : Int) - 1) = ((l.length - 1 : Nat) : Int)) (i : Int) (hi : ¬ (wrap64 (i + 1)) < (l.length : Int)) :
    withelaw1_BitsBack.l0 (k + 1) (s : Int) x1 l i = some true := by
  have hF := first s hs h0
  have hL := last s hs h0
  rw [← hl, w1] at hL
  rw [← hl] at hF
  have hO := bof l k (by omega) hk
  rw [fold_back s hs l (fun x => by rw [hl])] at hO
  have hO2 := bof ((([] ++ l.drop n) ++ l.take n) ++ [rd l (n : Int)]) k (by simp; omega) hk
  rw [fold_back s hs _ (fun x => by rw [mem_turn l n hn x, hl])] at hO2
  have q0 : rd l 0 ≥ 0 := by
    have h := rd_mem l 0 (by omega)
    rw [hl, mem_lst] at h
    obtain ⟨j, h, _⟩ := h
    rw [← hl] at h
    rw [show ((0 : Nat) : Int) = 0 from rfl] at h
    omega
  have q1 : rd l ((l.length - 1 : Nat) : Int) < 64 := by
    have h := rd_mem l (l.length - 1) (by omega)
    generalize rd l ((l.length - 1 : Nat) : Int) = z at h
    rw [hl, mem_lst] at h
    obtain ⟨j, h, _, h2, _⟩ := h
    omega
  rw [withelaw1_BitsBack.l0, if_neg hi, if_neg (by omega), Option.bind_some, ht, Int.toNat_natCast, if_pos (by omega), if_pos (by omega), Option.bind_some, if_pos (by simp; omega), Option.bind_some, Option.bind_some, if_pos (by simp; omega), Option.bind_some, if_pos (by omega), Option.bind_some,
    if_pos (by simp; omega), if_pos (by omega), if_pos q0, w1, if_pos (by omega), if_pos (by omega), if_pos q1, hO, Option.bind_some, if_pos rfl, hO2, Option.bind_some, if_pos rfl, count s hs, Option.bind_some, if_pos (by rw [hl, count_lst]), hF, Option.bind_some, if_pos rfl, hL, Option.bind_some]
  simp
theorem loop (k0 s n : Nat) (l : List Int) (x1 : Int) (hs : s < 18446744073709551616) (h0 : s ≠ 0) (hl : l = lst s 0 64) (hn : n < l.length) (ht : Int.tmod (wrap64 x1) (l.length : Int) = (n : Int)) (hlen : l.length ≤ 64)
    (w1 : wrap64 ((l.length : Int) - 1) = ((l.length - 1 : Nat) : Int)) : ∀ (d k i : Nat), l.length = i + 1 + d → d + 2000 < k → withelaw1_BitsBack.l0 (k + 1) (s : Int) x1 l (i : Int) = some true
  | 0, k, i, hd, hk => exit k s n l x1 hs h0 hl hn ht hlen (by omega) w1 i (by rw [wrn i l.length (by omega) (by omega)]; omega)
  | d + 1, k, i, hd, hk => by
    have hr := rise l (by rw [hl]; exact lst_rise s 64 0) i (by omega)
    obtain ⟨k, rfl⟩ : ∃ m, k = m + 1 := ⟨k - 1, by omega⟩
    rw [withelaw1_BitsBack.l0, wrn i l.length (by omega) (by omega), if_pos (by omega), if_pos (by omega), if_pos (by omega), if_pos (by omega), if_neg (by omega)]
    exact loop k0 s n l x1 hs h0 hl hn ht hlen w1 d k (i + 1) (by omega) (by omega)
theorem begunk : withelaw1_begun.f 3001 = some true := at_rounds withelaw1_begun.mono (by decide) PureBits.begun
theorem wlen (n : Nat) (h : 0 < n) (h2 : n ≤ 64) : wrap64 ((n : Int) - 1) = ((n - 1 : Nat) : Int) := by unfold wrap64; omega
theorem zero (k : Nat) (x1 : Int) : withelaw1_BitsBack.l0 (k + 1) 0 x1 [] 0 = some true := by
  have e : ¬ wrap64 (0 + 1) < (([] : List Int).length : Int) := by rw [List.length_nil]; unfold wrap64; omega
  rw [withelaw1_BitsBack.l0, if_neg e, if_pos (show (([] : List Int).length : Int) = 0 from rfl), if_pos rfl]
  have := count 0 (by decide)
  rw [show ((0 : Nat) : Int) = 0 from rfl] at this
  rw [this, Option.bind_some, One.oc_zero]
  rfl
theorem law (k s y : Nat) (hs : s < 18446744073709551616) (hy : y < 256) (hk : 2999 < k) (hb : withelaw1_begun.f (k + 1) = some true) : withelaw1_BitsBack.f (k + 1) (s : Int) (y : Int) = some true := by
  unfold withelaw1_BitsBack.f
  rw [hb, Option.bind_some, if_pos rfl, blist s hs, Option.bind_some]
  by_cases h : s = 0
  · rw [h, lst_zero]; exact zero k y
  · have e := List.length_pos_iff.2 (lst_ne s h hs)
    have hlen := lst_len s 64 0
    have w : wrap64 (y : Int) = (y : Int) := w64_nat _ (by omega)
    exact loop 0 s (y % (lst s 0 64).length) _ (y : Int) hs h rfl (Nat.mod_lt _ (by omega)) (by rw [w]; exact Rng.tmN _ _) hlen (wlen _ (by omega) (by omega)) ((lst s 0 64).length - 1) k 0 (by omega) (by omega)
end Back
theorem BitsBack : withelaw1_BitsBack.Pure := by
  intro a0 a1 w0 w1
  obtain ⟨x, rfl, hx⟩ := One.u64_of_wf w0
  obtain ⟨y, rfl, hy⟩ := One.u8_of_wf w1
  exact ⟨3001, Back.law 3000 x y hx hy (by decide) Back.begunk⟩
end Go.Proofs.YtpkhcmholpljnabDoor.Pure
