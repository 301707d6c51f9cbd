/- A text of a claim (ours), the plain law: what each call tells of any sets and numbers is what the reference tells; conditions: none. -/
import Derived.Test.YtpkhcmholpljnabDoorPureBitsRanges
import Derived.Test.YtpkhcmholpljnabDoorSets
namespace Go.Proofs.YtpkhcmholpljnabDoor.Pure
set_option linter.unusedSimpArgs false
set_option linter.unusedVariables false
open Go Go.RowKit Go.Proofs.YtpkhcmholpljnabDoor.PB1 Go.Proofs.YtpkhcmholpljnabDoor.PureBits Go.Proofs.YtpkhcmholpljnabDoorW.PrintWords Go.Proofs.YtpkhcmholpljnabDoorW.PrintLast Go.Proofs.YtpkhcmholpljnabDoorW.PrintMore
namespace All
open Sets
theorem i64_of_wf {a : Int} (h : (Lit.int .i64 a).wf = true) : -9223372036854775808 ≤ a ∧ a ≤ 9223372036854775807 := by
  simp only [Lit.wf, Bool.and_eq_true, decide_eq_true_eq] at h
  have m1 : IntKind.i64.min = -9223372036854775808 := by decide
  have m2 : IntKind.i64.max = 9223372036854775807 := by decide
  rw [m1, m2] at h
  exact h
def hasN (s : Nat) (x : Int) : Bool := decide (0 ≤ x ∧ x < 64) && s.testBit x.toNat
def dropN (s : Nat) (x : Int) : Nat := if 0 ≤ x ∧ x < 64 then One.dr s x.toNat else s
theorem one_out (x : Int) (h : ¬ (0 ≤ x ∧ x < 64)) : bits_one.f x = some 0 := by
  unfold bits_one.f
  by_cases q : x < 0
  · rw [if_pos q]
  · rw [if_neg q, if_pos (by omega)]
theorem or0 (s : Nat) (hs : s < 18446744073709551616) : Go.bits .or .u64 (s : Int) 0 = (s : Int) := by
  have := bits_or_u64_nat s 0 hs (by decide)
  rw [Nat.or_zero] at this; exact this
theorem and0 (s : Nat) (hs : s < 18446744073709551616) : Go.bits .and .u64 (s : Int) 0 = 0 := by
  have := bits_and_u64_nat s 0 hs (by decide)
  rw [Nat.and_zero] at this; exact this
theorem andNot0 (s : Nat) (hs : s < 18446744073709551616) : Go.bits .andNot .u64 (s : Int) 0 = (s : Int) := by
  have := u64_andNot_nat s 0 hs (by decide)
  refine this.trans (congrArg Int.ofNat ?_)
  apply Nat.eq_of_testBit_eq; intro i
  rw [Nat.testBit_and, show 18446744073709551615 - 0 = 2 ^ 64 - 1 from rfl, Nat.testBit_two_pow_sub_one]
  by_cases hi : i < 64
  · simp [hi]
  · have h64 : (2 : Nat) ^ 64 ≤ 2 ^ i := Nat.pow_le_pow_right (by decide) (by omega)
    have : s.testBit i = false := Nat.testBit_lt_two_pow (Nat.lt_of_lt_of_le hs h64)
    simp [this]
theorem bput (s : Nat) (x : Int) (hs : s < 18446744073709551616) : bits_Put.f (s : Int) x = some ((putN s x : Nat) : Int) := by
  unfold putN
  by_cases h : 0 ≤ x ∧ x < 64
  · rw [if_pos h]
    obtain ⟨n, rfl⟩ : ∃ n : Nat, x = n := ⟨x.toNat, by omega⟩
    exact One.put s n hs (by omega)
  · rw [if_neg h]
    unfold bits_Put.f
    rw [one_out x h, Option.bind_some, or0 s hs]
theorem bhas (s : Nat) (x : Int) (hs : s < 18446744073709551616) : bits_Has.f (s : Int) x = some (hasN s x) := by
  unfold hasN
  by_cases h : 0 ≤ x ∧ x < 64
  · rw [decide_eq_true h]
    obtain ⟨n, rfl⟩ : ∃ n : Nat, x = n := ⟨x.toNat, by omega⟩
    exact One.has s n hs (by omega)
  · rw [decide_eq_false h]
    unfold bits_Has.f
    rw [one_out x h, Option.bind_some, and0 s hs]; rfl
theorem bdrop (s : Nat) (x : Int) (hs : s < 18446744073709551616) : bits_Drop.f (s : Int) x = some ((dropN s x : Nat) : Int) := by
  unfold dropN
  by_cases h : 0 ≤ x ∧ x < 64
  · rw [if_pos h]
    obtain ⟨n, rfl⟩ : ∃ n : Nat, x = n := ⟨x.toNat, by omega⟩
    exact One.drop s n hs (by omega)
  · rw [if_neg h]
    unfold bits_Drop.f
    rw [one_out x h, Option.bind_some, andNot0 s hs]
theorem shr_nat (s n : Nat) (h : n < 64) : shr .u64 (s : Int) (n : Int) = ((s / 2 ^ n : Nat) : Int) := by
  unfold shr
  rw [Int.toNat_natCast, Nat.min_eq_left (by simp [IntKind.bits]; omega)]
  push_cast
  rfl
theorem rhas (s : Nat) (x : Int) : witheref1_Has.f (s : Int) x = some (hasN s x) := by
  unfold hasN witheref1_Has.f
  by_cases h : 0 ≤ x ∧ x < 64
  · rw [decide_eq_true h]
    obtain ⟨n, rfl⟩ : ∃ n : Nat, x = n := ⟨x.toNat, by omega⟩
    have hw : IntKind.u64.wrap (n : Int) = (n : Int) := wr_nat n (by omega)
    rw [if_neg (by omega), if_neg (by omega), hw, if_pos (by omega), shr_nat s n (by omega), show (2 : Int) = ((2 : Nat) : Int) from rfl, Rng.tmN, Int.toNat_natCast, Nat.testBit_eq_decide_div_mod_eq]
    congr 1
    rcases Nat.mod_two_eq_zero_or_one (s / 2 ^ n) with p | p <;> rw [p] <;> rfl
  · rw [decide_eq_false h]
    by_cases q : x < 0
    · rw [if_pos q]; rfl
    · rw [if_neg q, if_pos (by omega)]; rfl
theorem power_l0 (x : Nat) (hx : x < 64) : ∀ (d k i : Nat), x = i + d → d < k → witheref1_Power.l0 k (x : Int) ((2 ^ i : Nat) : Int) (i : Int) = some ((2 ^ x : Nat) : Int)
  | 0, k, i, hd, hk => by
    obtain ⟨k, rfl⟩ : ∃ m, k = m + 1 := ⟨k - 1, by omega⟩
    rw [witheref1_Power.l0, if_neg (by omega), show i = x by omega]
  | d + 1, k, i, hd, hk => by
    obtain ⟨k, rfl⟩ : ∃ m, k = m + 1 := ⟨k - 1, by omega⟩
    have e : IntKind.u64.wrap (((2 ^ i : Nat) : Int) + ((2 ^ i : Nat) : Int)) = ((2 ^ (i + 1) : Nat) : Int) := by
      have h2 : 2 ^ (i + 1) = 2 ^ i + 2 ^ i := by rw [Nat.pow_succ]; omega
      have h3 := two_lt ⟨i + 1, by omega⟩
      rw [h2, ← Int.natCast_add]
      exact wr_nat _ (by rw [← h2]; exact h3)
    rw [witheref1_Power.l0, if_pos (by omega), e, Rng.wr1 i (by omega)]
    exact power_l0 x hx d k (i + 1) (by omega) (by omega)
theorem power (k x : Nat) (hx : x < 64) (hk : 64 < k) : witheref1_Power.f k (x : Int) = some ((2 ^ x : Nat) : Int) := by
  unfold witheref1_Power.f
  exact power_l0 x hx x k 0 (by omega) (by omega)
theorem rput (k s : Nat) (x : Int) (hs : s < 18446744073709551616) (hk : 64 < k) : witheref1_Put.f k (s : Int) x = some ((putN s x : Nat) : Int) := by
  unfold putN witheref1_Put.f
  by_cases h : 0 ≤ x ∧ x < 64
  · rw [if_pos h]
    obtain ⟨n, rfl⟩ : ∃ n : Nat, x = n := ⟨x.toNat, by omega⟩
    have hn : n < 64 := by omega
    rw [if_neg (by omega), if_neg (by omega), rhas, Option.bind_some, Int.toNat_natCast]
    have hh : hasN s (n : Int) = s.testBit n := by unfold hasN; rw [decide_eq_true h]; rfl
    rw [hh]
    cases hb : s.testBit n with
    | true => rw [if_pos rfl, or_old s n hb]
    | false =>
      rw [if_neg (by decide), power k n hn hk, Option.bind_some, or_new s n hb, ← Int.natCast_add]
      congr 1
      exact wr_nat _ (by rw [← or_new s n hb]; exact or_lt64 _ _ hs (two_lt ⟨n, hn⟩))
  · rw [if_neg h]
    by_cases q : x < 0
    · rw [if_pos q]
    · rw [if_neg q, if_pos (by omega)]
theorem dr_old (s n : Nat) (hs : s < 18446744073709551616) (hn : n < 64) (hb : s.testBit n = true) : One.dr s n + 2 ^ n = s := by
  have h := or_add_and (One.dr s n) (2 ^ n)
  have e1 : One.dr s n &&& 2 ^ n = 0 := by rw [and_pow, One.dr_bit s n n hs hn]; simp
  have e2 : One.dr s n ||| 2 ^ n = s := by
    apply Nat.eq_of_testBit_eq; intro i
    rw [Nat.testBit_or, Nat.testBit_two_pow, One.dr_bit s n i hs hn]
    by_cases e : n = i
    · subst e; simp [hb]
    · simp [e]
  rw [e1, e2] at h
  omega
theorem dr_new (s n : Nat) (hs : s < 18446744073709551616) (hn : n < 64) (hb : s.testBit n = false) : One.dr s n = s := by
  apply Nat.eq_of_testBit_eq; intro i
  rw [One.dr_bit s n i hs hn]
  by_cases e : n = i
  · subst e; simp [hb]
  · simp [e]
theorem u64_sub (a b d : Nat) (h : d + b = a) (ha : a < 18446744073709551616) : IntKind.u64.wrap ((a : Int) - (b : Int)) = (d : Int) := by
  rw [show (a : Int) - (b : Int) = (d : Int) by omega]; exact wr_nat _ (by omega)
theorem rdrop (k s : Nat) (x : Int) (hs : s < 18446744073709551616) (hk : 64 < k) : witheref1_Drop.f k (s : Int) x = some ((dropN s x : Nat) : Int) := by
  unfold dropN witheref1_Drop.f
  rw [rhas, Option.bind_some]
  unfold hasN
  by_cases h : 0 ≤ x ∧ x < 64
  · rw [if_pos h, decide_eq_true h]
    obtain ⟨n, rfl⟩ : ∃ n : Nat, x = n := ⟨x.toNat, by omega⟩
    have hn : n < 64 := by omega
    rw [Int.toNat_natCast]
    cases hb : s.testBit n with
    | true =>
      rw [if_pos (show (true && true) = true from rfl), power k n hn hk, Option.bind_some]
      congr 1
      exact u64_sub _ _ _ (dr_old s n hs hn hb) hs
    | false => rw [if_neg (by decide), dr_new s n hs hn hb]
  · rw [if_neg h, decide_eq_false h, if_neg (by simp)]
def foldN (s : Nat) (l : List Int) : Nat := l.foldl putN s
theorem foldN_lt (l : List Int) : ∀ s, s < 18446744073709551616 → foldN s l < 18446744073709551616 := by
  induction l with
  | nil => intro s h; exact h
  | cons x t ih => intro s h; exact ih _ (putN_lt s x h)
theorem or_putN (s : Nat) (x : Int) (hs : s < 18446744073709551616) : (bits_one.f x).bind (fun t => some (Go.bits .or .u64 (s : Int) t)) = some ((putN s x : Nat) : Int) := bput s x hs
theorem one_get (x : Int) : ∃ t, bits_one.f x = some t := by
  by_cases h : 0 ≤ x ∧ x < 64
  · obtain ⟨n, rfl⟩ : ∃ n : Nat, x = n := ⟨x.toNat, by omega⟩
    exact ⟨_, One.one n (by omega)⟩
  · exact ⟨_, one_out x h⟩
theorem wrn (i n : Nat) (h : i < n) (hn : n ≤ 1000) : wrap64 ((i : Int) + 1) = ((i + 1 : Nat) : Int) := by
  unfold wrap64; omega
theorem rd_drop (l : List Int) (i : Nat) (h : i < l.length) : l.drop i = rd l (i : Int) :: l.drop (i + 1) := by
  rw [List.drop_eq_getElem_cons h]
  congr 1
  unfold rd
  rw [Int.toNat_natCast, List.getD_eq_getElem?_getD, List.getElem?_eq_getElem h]; rfl
theorem bof_l0 (l : List Int) (hl : l.length ≤ 1000) : ∀ (d k i s : Nat), l.length = i + d → d < k → s < 18446744073709551616 → bits_Of.l0 k (s : Int) l (l.length : Int) (i : Int) = some ((foldN s (l.drop i) : Nat) : Int)
  | 0, k, i, s, hd, hk, hs => by
    obtain ⟨k, rfl⟩ : ∃ m, k = m + 1 := ⟨k - 1, by omega⟩
    rw [bits_Of.l0, if_neg (by omega), List.drop_eq_nil_of_le (by omega)]; rfl
  | d + 1, k, i, s, hd, hk, hs => by
    obtain ⟨k, rfl⟩ : ∃ m, k = m + 1 := ⟨k - 1, by omega⟩
    obtain ⟨t, ht⟩ := one_get (rd l (i : Int))
    have ho := or_putN s (rd l (i : Int)) hs
    rw [ht, Option.bind_some] at ho
    rw [bits_Of.l0, if_pos (by omega), if_pos (by omega), if_pos (by omega), ht, Option.bind_some, Option.some.inj ho, wrn i l.length (by omega) hl, bof_l0 l hl d k (i + 1) _ (by omega) (by omega) (putN_lt _ _ hs), rd_drop l i (by omega)]
    rfl
theorem rof_l0 (l : List Int) (hl : l.length ≤ 1000) : ∀ (d k i s : Nat), l.length = i + d → d + 65 < k → s < 18446744073709551616 → witheref1_Of.l0 k l (s : Int) (i : Int) = some ((foldN s (l.drop i) : Nat) : Int)
  | 0, k, i, s, hd, hk, hs => by
    obtain ⟨k, rfl⟩ : ∃ m, k = m + 1 := ⟨k - 1, by omega⟩
    rw [witheref1_Of.l0, if_neg (by omega), List.drop_eq_nil_of_le (by omega)]; rfl
  | d + 1, k, i, s, hd, hk, hs => by
    obtain ⟨k, rfl⟩ : ∃ m, k = m + 1 := ⟨k - 1, by omega⟩
    rw [witheref1_Of.l0, if_pos (by omega), if_pos (by omega), rput k s _ hs (by omega), Option.bind_some, wrn i l.length (by omega) hl, rof_l0 l hl d k (i + 1) _ (by omega) (by omega) (putN_lt _ _ hs), rd_drop l i (by omega)]
    rfl
theorem bof (l : List Int) (k : Nat) (hl : l.length ≤ 1000) (hk : 2000 < k) : bits_Of.f k l = some ((foldN 0 l : Nat) : Int) := by
  unfold bits_Of.f
  have := bof_l0 l hl l.length k 0 0 (by omega) (by omega) (by decide)
  rw [List.drop_zero] at this; exact this
theorem rof (l : List Int) (k : Nat) (hl : l.length ≤ 1000) (hk : 2000 < k) : witheref1_Of.f k l = some ((foldN 0 l : Nat) : Int) := by
  unfold witheref1_Of.f
  have := rof_l0 l hl l.length k 0 0 (by omega) (by omega) (by decide)
  rw [List.drop_zero] at this; exact this
theorem low_lst (s : Nat) : s < 18446744073709551616 → low s = lst s 0 64 := by
  induction s using Nat.strongRecOn with
  | _ s ih =>
    intro hs
    by_cases h : s = 0
    · subst h; rw [low_zero, lst_zero]
    · rw [low_pos s h, lst_step s h hs, ih _ (and_pred_lt s h) (Nat.lt_trans (and_pred_lt s h) hs)]
theorem blist (s : Nat) (hs : s < 18446744073709551616) : bits_List.f (s : Int) = some (lst s 0 64) := by
  unfold bits_List.f
  rw [if_pos (by omega), if_pos (by omega), Int.toNat_natCast, low_lst s hs, if_pos]
  have := lst_len s 64 0
  omega
theorem rlist_l0 (s : Nat) : ∀ (d k i : Nat) (acc : List Int), 64 = i + d → acc.length ≤ i → d < k → witheref1_List.l0 k (s : Int) acc (i : Int) = some (acc ++ lst s i d)
  | 0, k, i, acc, hd, hl, hk => by
    obtain ⟨k, rfl⟩ : ∃ m, k = m + 1 := ⟨k - 1, by omega⟩
    rw [witheref1_List.l0, if_neg (by omega), lst, List.append_nil]
  | d + 1, k, i, acc, hd, hl, hk => by
    obtain ⟨k, rfl⟩ : ∃ m, k = m + 1 := ⟨k - 1, by omega⟩
    have hh : hasN s (i : Int) = s.testBit i := by unfold hasN; rw [decide_eq_true (by omega)]; rfl
    rw [witheref1_List.l0, if_pos (by omega), rhas, Option.bind_some, hh, lst, Rng.wr1 i (by omega)]
    cases hb : s.testBit i with
    | true =>
      rw [if_pos rfl, if_pos rfl, if_pos (by omega), rlist_l0 s d k (i + 1) _ (by omega) (by simp; omega) (by omega), List.append_assoc]; rfl
    | false =>
      rw [if_neg (by decide), if_neg (by decide), rlist_l0 s d k (i + 1) _ (by omega) (by omega) (by omega)]
theorem rlist (k s : Nat) (hk : 64 < k) : witheref1_List.f k (s : Int) = some (lst s 0 64) := by
  unfold witheref1_List.f
  exact rlist_l0 s 64 k 0 [] (by omega) (Nat.le_refl _) hk
theorem same_l0 (l : List Int) (hl : l.length ≤ 1000) : ∀ (d k i : Nat), l.length = i + d → d < k → witheref1_SameInts.l0 k l l (i : Int) = some true
  | 0, k, i, hd, hk => by
    obtain ⟨k, rfl⟩ : ∃ m, k = m + 1 := ⟨k - 1, by omega⟩
    rw [witheref1_SameInts.l0, if_neg (by omega)]
  | d + 1, k, i, hd, hk => by
    obtain ⟨k, rfl⟩ : ∃ m, k = m + 1 := ⟨k - 1, by omega⟩
    rw [witheref1_SameInts.l0, if_pos (by omega), if_pos (by omega), if_pos (by omega), if_pos rfl, wrn i l.length (by omega) hl]
    exact same_l0 l hl d k (i + 1) (by omega) (by omega)
theorem same (l : List Int) (k : Nat) (hl : l.length ≤ 1000) (hk : 1000 < k) : witheref1_SameInts.f k l l = some true := by
  unfold witheref1_SameInts.f
  rw [if_pos rfl]
  exact same_l0 l hl l.length k 0 (by omega) (by omega)
theorem brange_l0 : ∀ (d k i acc : Nat) (hi : Int), 64 ≤ i + d → acc < 18446744073709551616 → d < k →
    ∃ r : Nat, bits_Range.l0 k hi (acc : Int) (i : Int) = some (r : Int) ∧ ∀ j, r.testBit j = (acc.testBit j || decide (i ≤ j ∧ (j : Int) < hi ∧ j < 64))
  | 0, k, i, acc, hi, hd, ha, hk => by
    obtain ⟨k, rfl⟩ : ∃ m, k = m + 1 := ⟨k - 1, by omega⟩
    refine ⟨acc, by rw [bits_Range.l0, if_neg (by unfold mn; omega)], fun j => ?_⟩
    rw [decide_eq_false (by omega), Bool.or_false]
  | d + 1, k, i, acc, hi, hd, ha, hk => by
    obtain ⟨k, rfl⟩ : ∃ m, k = m + 1 := ⟨k - 1, by omega⟩
    by_cases q : (i : Int) < mn hi 64
    · have q1 : (i : Int) < hi ∧ (i : Int) < 64 := by unfold mn at q; omega
      clear q
      have hi64 : i < 64 := by omega
      obtain ⟨r, h1, h2⟩ := brange_l0 d k (i + 1) (acc ||| 2 ^ i) hi (by omega) (or_lt64 _ _ ha (two_lt ⟨i, hi64⟩)) (by omega)
      refine ⟨r, ?_, fun j => ?_⟩
      · rw [bits_Range.l0, if_pos (by unfold mn; omega), One.one i hi64, Option.bind_some, bits_or_u64_nat acc (2 ^ i) ha (two_lt ⟨i, hi64⟩), Rng.wr1 i hi64]
        exact h1
      · rw [h2, Nat.testBit_or, Nat.testBit_two_pow]
        cases acc.testBit j
        · rw [Bool.eq_iff_iff]; simp only [Bool.false_or, Bool.or_eq_true, decide_eq_true_eq]; omega
        · simp
    · refine ⟨acc, by rw [bits_Range.l0, if_neg q], fun j => ?_⟩
      have q1 : ¬ ((i : Int) < hi ∧ (i : Int) < 64) := by unfold mn at q; omega
      rw [decide_eq_false (by omega), Bool.or_false]
theorem rrange_l0 (lo hi : Int) : ∀ (d k i acc : Nat), 64 = i + d → acc < 18446744073709551616 → d + 65 < k →
    ∃ r : Nat, witheref1_Range.l0 k lo hi (acc : Int) (i : Int) = some (r : Int) ∧ ∀ j, r.testBit j = (acc.testBit j || decide (i ≤ j ∧ lo ≤ (j : Int) ∧ (j : Int) < hi ∧ j < 64))
  | 0, k, i, acc, hd, ha, hk => by
    obtain ⟨k, rfl⟩ : ∃ m, k = m + 1 := ⟨k - 1, by omega⟩
    refine ⟨acc, by rw [witheref1_Range.l0, if_neg (by omega)], fun j => ?_⟩
    rw [decide_eq_false (by omega), Bool.or_false]
  | d + 1, k, i, acc, hd, ha, hk => by
    obtain ⟨k, rfl⟩ : ∃ m, k = m + 1 := ⟨k - 1, by omega⟩
    have hi64 : i < 64 := by omega
    rw [witheref1_Range.l0, if_pos (by omega), Rng.wr1 i hi64]
    by_cases q1 : (i : Int) ≥ lo
    · by_cases q2 : (i : Int) < hi
      · have hp := rput k acc (i : Int) ha (by omega)
        have e : putN acc (i : Int) = acc ||| 2 ^ i := by unfold putN; rw [if_pos (by omega), Int.toNat_natCast]
        rw [e] at hp
        obtain ⟨r, h1, h2⟩ := rrange_l0 lo hi d k (i + 1) (acc ||| 2 ^ i) (by omega) (or_lt64 _ _ ha (two_lt ⟨i, hi64⟩)) (by omega)
        refine ⟨r, ?_, fun j => ?_⟩
        · rw [if_pos q1, if_pos q2, hp, Option.bind_some]; exact h1
        · rw [h2, Nat.testBit_or, Nat.testBit_two_pow]
          cases acc.testBit j
          · rw [Bool.eq_iff_iff]; simp only [Bool.false_or, Bool.or_eq_true, decide_eq_true_eq]; omega
          · simp
      · obtain ⟨r, h1, h2⟩ := rrange_l0 lo hi d k (i + 1) acc (by omega) ha (by omega)
        refine ⟨r, by rw [if_pos q1, if_neg q2]; exact h1, fun j => ?_⟩
        rw [h2]
        cases acc.testBit j
        · rw [Bool.eq_iff_iff]; simp only [Bool.false_or, decide_eq_true_eq]; omega
        · simp
    · obtain ⟨r, h1, h2⟩ := rrange_l0 lo hi d k (i + 1) acc (by omega) ha (by omega)
      refine ⟨r, by rw [if_neg q1]; exact h1, fun j => ?_⟩
      rw [h2]
      cases acc.testBit j
      · rw [Bool.eq_iff_iff]; simp only [Bool.false_or, decide_eq_true_eq]; omega
      · simp
theorem ranges (k : Nat) (lo hi : Int) (hk : 200 < k) : ∃ r : Int, bits_Range.f k lo hi = some r ∧ witheref1_Range.f k lo hi = some r := by
  unfold bits_Range.f witheref1_Range.f
  obtain ⟨m, hm⟩ : ∃ m : Nat, mx lo 0 = (m : Int) := ⟨(mx lo 0).toNat, by unfold mx; omega⟩
  rw [hm]
  obtain ⟨r, h1, h2⟩ := brange_l0 64 k m 0 hi (by omega) (by decide) (by omega)
  obtain ⟨q, h3, h4⟩ := rrange_l0 lo hi 64 k 0 0 (by omega) (by decide) (by omega)
  refine ⟨r, h1, h3.trans (congrArg (fun n : Nat => some (n : Int)) ?_)⟩
  apply Nat.eq_of_testBit_eq; intro j
  rw [h2, h4, Nat.zero_testBit, Bool.false_or, Bool.false_or, Bool.eq_iff_iff]
  simp only [decide_eq_true_eq]
  unfold mx at hm
  omega
theorem rwithin (a b : Nat) (ha : a < 18446744073709551616) (hb : b < 18446744073709551616) : witheref1_Within.f (a : Int) (b : Int) = some (decide (a &&& b = a)) := by
  unfold witheref1_Within.f
  rw [bits_or_u64_nat a b ha hb]
  congr 1
  have h := or_add_and a b
  rw [Bool.eq_iff_iff]
  simp only [beq_iff_eq, decide_eq_true_eq]
  omega
theorem first (s : Nat) (hs : s < 18446744073709551616) (h : s ≠ 0) : bits_First.f (s : Int) = some (rd (lst s 0 64) 0) := by
  unfold bits_First.f bits_TrailingZeros64.f
  rw [if_neg (by omega), if_pos (by omega), if_pos (by omega), Option.bind_some, Int.toNat_natCast, lst_step s h hs]
  rfl
theorem first0 : bits_First.f 0 = some (-1) := by
  unfold bits_First.f; rw [if_pos rfl]
theorem last (s : Nat) (hs : s < 18446744073709551616) (h : s ≠ 0) : bits_Last.f (s : Int) = some (rd (lst s 0 64) (wrap64 (((lst s 0 64).length : Int) - 1))) := by
  unfold bits_Last.f bits_Len64.f
  rw [if_pos (by omega), if_pos (by omega), Option.bind_some, Int.toNat_natCast]
  obtain ⟨l, h1, h2, h3⟩ := lst_last s h hs
  rw [h1, h3]
  congr 1
  have hl := lst_len s l 0
  have e1 : wrap64 (((l + 1 : Nat) : Int) - 1) = (l : Int) := by unfold wrap64; omega
  have e2 : wrap64 (((lst s 0 l ++ [(l : Int)]).length : Int) - 1) = ((lst s 0 l).length : Int) := by
    rw [List.length_append]; simp only [List.length_cons, List.length_nil]; unfold wrap64; omega
  rw [e1, e2]
  unfold rd
  rw [Int.toNat_natCast, List.getD_eq_getElem?_getD, List.getElem?_append_right (Nat.le_refl _)]
  simp
theorem last0 : bits_Last.f 0 = some (-1) := by decide +kernel
theorem j0 (k s t : Nat) (l : List Int) (i lo hi f e : Int) (hs : s < 18446744073709551616) (ht : t < 18446744073709551616) (hl : l.length ≤ 1000) (hk : 2000 < k) (hf : bits_First.f (s : Int) = some f) (he : bits_Last.f (s : Int) = some e) :
    withelaw1_BitsAll.j0 (k + 1) (s : Int) (t : Int) l i lo hi (lst s 0 64) f e = some true := by
  obtain ⟨r, hr1, hr2⟩ := ranges k lo hi (by omega)
  have hlen := lst_len s 64 0
  rw [withelaw1_BitsAll.j0, bof l k hl hk, Option.bind_some, rof l k hl hk, Option.bind_some, if_pos rfl, blist s hs, Option.bind_some, same _ k (by omega) (by omega), Option.bind_some, if_pos rfl,
    hr1, Option.bind_some, hr2, Option.bind_some, if_pos rfl, bhas s i hs, Option.bind_some, rhas, Option.bind_some, if_pos (by simp), bput s i hs, Option.bind_some, rput k s i hs (by omega), Option.bind_some, if_pos rfl,
    bdrop s i hs, Option.bind_some, rdrop k s i hs (by omega), Option.bind_some, if_pos rfl, count s hs, Option.bind_some, if_pos (by rw [count_lst]), hf, Option.bind_some, if_pos rfl, he, Option.bind_some, if_pos rfl,
    within s t hs ht, Option.bind_some, rwithin s t hs ht, Option.bind_some]
  simp
theorem begunk : withelaw1_begun.f 2002 = some true := at_rounds withelaw1_begun.mono (by decide) PureBits.begun
theorem law (k s t : Nat) (l : List Int) (i lo hi : Int) (hs : s < 18446744073709551616) (ht : t < 18446744073709551616) (hk : 2000 < k) (hb : withelaw1_begun.f (k + 1) = some true) : withelaw1_BitsAll.f (k + 1) (s : Int) (t : Int) l i lo hi = some true := by
  unfold withelaw1_BitsAll.f
  rw [hb, Option.bind_some, if_pos rfl]
  by_cases hl : (l.length : Int) > 60
  · rw [if_pos hl]
  · rw [if_neg hl, rlist (k + 1) s (by omega), Option.bind_some]
    by_cases h : s = 0
    · have e : lst s 0 64 = [] := by rw [h]; exact lst_zero _ _
      have J := j0 k s t l i lo hi (-1) (-1) hs ht (by omega) hk (by rw [h]; exact first0) (by rw [h]; exact last0)
      rw [e] at J ⊢
      rw [if_neg (by decide)]
      exact J
    · have e := List.length_pos_iff.2 (lst_ne s h hs)
      have hlen := lst_len s 64 0
      have J := j0 k s t l i lo hi _ _ hs ht (by omega) hk (first s hs h) (last s hs h)
      have w : wrap64 (((lst s 0 64).length : Int) - 1) = (((lst s 0 64).length - 1 : Nat) : Int) := by unfold wrap64; omega
      rw [if_pos (by omega), if_pos (by omega), if_pos (by rw [w]; omega), if_pos (by rw [w]; omega)]
      exact J
end All
theorem BitsAll : withelaw1_BitsAll.Pure := by
  intro a0 a1 l2 a3 a4 a5 w0 w1 _ _ _ _ _ _
  obtain ⟨x, rfl, hx⟩ := One.u64_of_wf w0
  obtain ⟨y, rfl, hy⟩ := One.u64_of_wf w1
  exact ⟨2002, All.law 2001 x y l2 a3 a4 a5 hx hy (by decide) All.begunk⟩
end Go.Proofs.YtpkhcmholpljnabDoor.Pure
