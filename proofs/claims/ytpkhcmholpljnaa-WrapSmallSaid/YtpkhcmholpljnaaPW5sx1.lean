/- A text of a claim: it proves what its last theorem states, for every input that the given row speaks of; conditions of ours: none. Written by this claim's own program (wip/tools/xprint.py) over the kit's printer. -/
import Derived.Test.YtpkhcmholpljnaaPW5sx0
namespace Go.Proofs.Ytpkhcmholpljnaa.PW5s
open Go.RowKit Go.Proofs.YtpkhcmholpljnaaW.PrintWords Go.Proofs.YtpkhcmholpljnaaW.PrintLast Go.Proofs.YtpkhcmholpljnaaW.PrintMore
attribute [local go_sem] max2_int min2_int max_two min_two max_three min_three max_four min_four   -- for this text's walks alone
set_option linter.unusedVariables false
set_option linter.unusedSimpArgs false

/-! ### numbers that go round, and that stop: what the calls come to -/
def inn (v n : Int) : Int := if n < 1 then 0 else if 2147483648 < n then 0 else v % n
def held (a : Int) : Int := if a < 0 then 0 else if 4611686018427387904 < a then 4611686018427387904 else a
def plusS (a b : Int) : Int := if 4611686018427387904 < held a + held b then 4611686018427387904 else held a + held b
def timesS (a b : Int) : Int := if 4611686018427387904 < held a * held b then 4611686018427387904 else held a * held b
theorem held_lo (a : Int) : 0 ≤ held a := by unfold held; split <;> (try split) <;> omega
theorem held_hi (a : Int) : held a ≤ 4611686018427387904 := by unfold held; split <;> (try split) <;> omega
theorem inn_lo (v n : Int) : 0 ≤ inn v n := by
  unfold inn; split
  · omega
  · split
    · omega
    · exact Int.emod_nonneg _ (by omega)
theorem inn_lt (v n : Int) (h : 1 ≤ n) : inn v n < n := by
  unfold inn; rw [if_neg (by omega)]; split
  · omega
  · exact Int.emod_lt_of_pos _ (by omega)
theorem inn_hi (v n : Int) : inn v n < 2147483648 := by
  by_cases h : 1 ≤ n
  · by_cases h2 : n ≤ 2147483648
    · have := inn_lt v n h; omega
    · unfold inn; rw [if_neg (by omega), if_pos (by omega)]; omega
  · unfold inn; rw [if_pos (by omega)]; omega
theorem inn_eq (v n : Int) (h1 : 1 ≤ n) (h2 : n ≤ 2147483648) : inn v n = v % n := by
  unfold inn; rw [if_neg (by omega), if_neg (by omega)]
theorem tmod_split (v n : Int) (h1 : 1 ≤ n) (h2 : n ≤ 2147483648) : (v.tmod n < 0 → wrap64 (v.tmod n + n) = v % n) ∧ (¬ v.tmod n < 0 → v.tmod n = v % n) := by
  have e1 : v % n = v.tmod n + ↑(if 0 ≤ v ∨ n ∣ v then 0 else n.natAbs) := Int.emod_eq_tmod
  have b1 : v.tmod n < n := Int.tmod_lt_of_pos v (by omega)
  have b2 : -n < v.tmod n := by
    have := Int.lt_tmod_of_pos v (show (0 : Int) < n by omega); omega
  have h0 : 0 ≤ v % n := Int.emod_nonneg v (by omega)
  have h3 : v % n < n := Int.emod_lt_of_pos v (by omega)
  have hn : (n.natAbs : Int) = n := by omega
  constructor
  · intro h
    have : wrap64 (v.tmod n + n) = v.tmod n + n := by unfold wrap64; omega
    rw [this]
    split at e1 <;> omega
  · intro h
    split at e1 <;> omega
theorem div_le_iff (a b c : Int) (h0 : 0 < a) : (c / a < b) ↔ (c < a * b) := by
  constructor
  · intro h
    have h1 := Int.lt_mul_ediv_self_add (x := c) h0
    have h2 : a * (c / a + 1) ≤ a * b := Int.mul_le_mul_of_nonneg_left (by omega) (by omega)
    rw [Int.mul_add, Int.mul_one] at h2
    omega
  · intro h
    exact Int.ediv_lt_of_lt_mul h0 (by rw [Int.mul_comm]; exact h)
def sat (u : Nat) : Nat := if 4611686018427387904 < u then 4611686018427387904 else u
theorem sat_le (u : Nat) : sat u ≤ 4611686018427387904 := by unfold sat; split <;> omega
theorem sat_mul_l (x y : Nat) : sat (sat x * y) = sat (x * y) := by
  by_cases hx : 4611686018427387904 < x
  · have e : sat x = 4611686018427387904 := by unfold sat; rw [if_pos hx]
    rw [e]
    by_cases hy : y = 0
    · subst hy; simp
    · have h1 : 4611686018427387904 * 1 ≤ 4611686018427387904 * y := Nat.mul_le_mul_left _ (by omega)
      have h2 : 4611686018427387905 * y ≤ x * y := Nat.mul_le_mul_right _ (by omega)
      unfold sat
      split <;> split <;> omega
  · have e : sat x = x := by unfold sat; rw [if_neg hx]
    rw [e]
theorem sat_mul_r (x y : Nat) : sat (x * sat y) = sat (x * y) := by rw [Nat.mul_comm, sat_mul_l, Nat.mul_comm]
theorem sat_mul (x y : Nat) : sat (sat x * sat y) = sat (x * y) := by rw [sat_mul_l, sat_mul_r]
theorem sat_sat (u : Nat) : sat (sat u) = sat u := by unfold sat; split <;> (try split) <;> omega
theorem sat_pow (v q : Nat) : ∀ u, sat (u * sat v ^ q) = sat (u * v ^ q) := by
  induction q with
  | zero => intro u; simp
  | succ q ih =>
    intro u
    rw [Nat.pow_succ, Nat.pow_succ, ← Nat.mul_assoc, ← Nat.mul_assoc, sat_mul_r, Nat.mul_right_comm, ih (u * v), Nat.mul_right_comm]
theorem held_nat (a : Int) : held a = (sat a.toNat : Nat) := by
  unfold held sat
  split
  · rename_i h
    have : a.toNat = 0 := by omega
    rw [this]; simp
  · split <;> split <;> omega
theorem times_nat (a b : Int) : timesS a b = (sat (a.toNat * b.toNat) : Nat) := by
  unfold timesS
  rw [held_nat, held_nat, ← sat_mul, ← Int.natCast_mul]
  generalize sat a.toNat * sat b.toNat = z
  unfold sat
  split <;> split <;> omega
theorem plus_nat (a b : Int) : plusS a b = (sat (a.toNat + b.toNat) : Nat) := by
  unfold plusS
  rw [held_nat, held_nat]
  unfold sat
  repeat' split
  all_goals omega
theorem and_one (x : Int) (h0 : 0 ≤ x) (h1 : x < 9223372036854775808) : Go.bits .and .i64 x 1 = x % 2 :=
  bits_mask .i64 63 (by decide) (fun n a b => by simp [IntKind.wrap, IntKind.bits, IntKind.signed]; omega) 1 (by decide) x h0 h1
/-- What Power comes to. -/
def powS (a e : Int) : Int := (sat (a.toNat ^ e.toNat) : Nat)
theorem powS_lo (a e : Int) : 0 ≤ powS a e := by unfold powS; omega
theorem powS_hi (a e : Int) : powS a e ≤ 4611686018427387904 := by unfold powS; have := sat_le (a.toNat ^ e.toNat); omega
theorem sat_one : sat 1 = 1 := rfl
theorem times_ways (a0 a1 : Int) (h0 : 0 < held a0) : (4611686018427387904 / held a0 < held a1 → timesS a0 a1 = 4611686018427387904) ∧ (¬ 4611686018427387904 / held a0 < held a1 → wrap64 (held a0 * held a1) = timesS a0 a1 ∧ held a0 * held a1 ≤ 4611686018427387904) := by
  have hd := div_le_iff (held a0) (held a1) 4611686018427387904 h0
  constructor
  · intro h; unfold timesS; rw [if_pos (hd.mp h)]
  · intro h
    have h2 : ¬ 4611686018427387904 < held a0 * held a1 := fun h3 => h (hd.mpr h3)
    have h3 : 0 ≤ held a0 * held a1 := Int.mul_nonneg (held_lo _) (held_lo _)
    refine ⟨?_, by omega⟩
    unfold timesS; rw [if_neg h2]
    unfold wrap64
    generalize held a0 * held a1 = z at *
    omega

/-! ### wrap_In: function 11 -/
def wrap_In.f (a0 a1 : Int) : Option Int := some (inn a0 a1)
theorem wrap_In.calls (a0 : Int) (a1 : Int) (r : Int) (w : World) (h : wrap_In.f a0 a1 = some r) :
    Calls Try.prog 11 #[.int .i64 a0, .int .i64 a1] w fun e w' => e = .returned (.int .i64 r) ∧ Drawn0 w w' := by
  obtain rfl := Option.some.inj h
  clear h
  by_cases h1 : a1 < 1
  · have e : inn a0 a1 = 0 := by unfold inn; rw [if_pos h1]
    rw [e]
    clear e
    go_enter Try.func11, Try.ntmps11
    go_wp2
    go_ret
    exact ⟨rfl, by first | exact Drawn0.refl _ | (apply Drawn0.step; exact Drawn0.refl _)⟩
  · by_cases h2 : 2147483648 < a1
    · have e : inn a0 a1 = 0 := by unfold inn; rw [if_neg h1, if_pos h2]
      rw [e]
      clear e
      go_enter Try.func11, Try.ntmps11
      go_wp2
      go_ret
      exact ⟨rfl, by first | exact Drawn0.refl _ | (apply Drawn0.step; exact Drawn0.refl _)⟩
    · have h3 : 1 ≤ a1 := by omega
      have h4 : a1 ≤ 2147483648 := by omega
      have z := tmod_split a0 a1 h3 h4
      have hz : (a1 == 0) = false := beq_eq_false_iff_ne.mpr (by omega)
      have e := inn_eq a0 a1 h3 h4
      by_cases h5 : a0.tmod a1 < 0
      · have E := Aside0.mk ((z.1 h5).trans e.symm)
        clear z e
        have h5b : decide (a0.tmod a1 < 0) = true := decide_eq_true h5
        go_enter Try.func11, Try.ntmps11
        go_wp2
        go_ret
        exact ⟨by (first | rfl | (rw [E.out]; rfl) | (simp only [E.out]; rfl)), by first | exact Drawn0.refl _ | (apply Drawn0.step; exact Drawn0.refl _)⟩
      · have E := Aside0.mk ((z.2 h5).trans e.symm)
        clear z e
        have h5b : decide (a0.tmod a1 < 0) = false := decide_eq_false h5
        go_enter Try.func11, Try.ntmps11
        go_wp2
        go_ret
        exact ⟨by (first | rfl | (rw [E.out]; rfl) | (simp only [E.out]; rfl)), by first | exact Drawn0.refl _ | (apply Drawn0.step; exact Drawn0.refl _)⟩

/-! ### wrap_Add: function 12 -/
def wrap_Add.f (a0 a1 a2 : Int) : Option Int := some (inn (wrap64 (inn a0 a2 + inn a1 a2)) a2)
theorem wrap_Add.calls (a0 : Int) (a1 : Int) (a2 : Int) (r : Int) (w : World) (h : wrap_Add.f a0 a1 a2 = some r) :
    Calls Try.prog 12 #[.int .i64 a0, .int .i64 a1, .int .i64 a2] w fun e w' => e = .returned (.int .i64 r) ∧ Drawn0 w w' := by
  obtain rfl := Option.some.inj h
  clear h
  go_enter Try.func12, Try.ntmps12
  go_wp2_with (first | (go_at_call 11; (with_reducible refine (wrap_In.calls a0 a2 _ _ rfl).mono ?_); rintro e w' ⟨rfl, ⟨nd, rfl⟩⟩) | (go_at_call 11; (with_reducible refine (wrap_In.calls a1 a2 _ _ rfl).mono ?_); rintro e w' ⟨rfl, ⟨nd, rfl⟩⟩) | (go_at_call 11; (with_reducible refine (wrap_In.calls _ a2 _ _ rfl).mono ?_); rintro e w' ⟨rfl, ⟨nd, rfl⟩⟩) | go_in)
  go_ret
  exact ⟨by first | rfl | (simp only [i64_w]; rfl), by repeat (first | exact Drawn0.refl _ | apply Drawn0.step)⟩

/-! ### wrap_Sub: function 13 -/
def wrap_Sub.f (a0 a1 a2 : Int) : Option Int := some (inn (wrap64 (inn a0 a2 - inn a1 a2)) a2)
theorem wrap_Sub.calls (a0 : Int) (a1 : Int) (a2 : Int) (r : Int) (w : World) (h : wrap_Sub.f a0 a1 a2 = some r) :
    Calls Try.prog 13 #[.int .i64 a0, .int .i64 a1, .int .i64 a2] w fun e w' => e = .returned (.int .i64 r) ∧ Drawn0 w w' := by
  obtain rfl := Option.some.inj h
  clear h
  go_enter Try.func13, Try.ntmps13
  go_wp2_with (first | (go_at_call 11; (with_reducible refine (wrap_In.calls a0 a2 _ _ rfl).mono ?_); rintro e w' ⟨rfl, ⟨nd, rfl⟩⟩) | (go_at_call 11; (with_reducible refine (wrap_In.calls a1 a2 _ _ rfl).mono ?_); rintro e w' ⟨rfl, ⟨nd, rfl⟩⟩) | (go_at_call 11; (with_reducible refine (wrap_In.calls _ a2 _ _ rfl).mono ?_); rintro e w' ⟨rfl, ⟨nd, rfl⟩⟩) | go_in)
  go_ret
  exact ⟨by first | rfl | (simp only [i64_w]; rfl), by repeat (first | exact Drawn0.refl _ | apply Drawn0.step)⟩

/-! ### wrap_Mul: function 14 -/
def wrap_Mul.f (a0 a1 a2 : Int) : Option Int := some (inn (wrap64 (inn a0 a2 * inn a1 a2)) a2)
theorem wrap_Mul.calls (a0 : Int) (a1 : Int) (a2 : Int) (r : Int) (w : World) (h : wrap_Mul.f a0 a1 a2 = some r) :
    Calls Try.prog 14 #[.int .i64 a0, .int .i64 a1, .int .i64 a2] w fun e w' => e = .returned (.int .i64 r) ∧ Drawn0 w w' := by
  obtain rfl := Option.some.inj h
  clear h
  go_enter Try.func14, Try.ntmps14
  go_wp2_with (first | (go_at_call 11; (with_reducible refine (wrap_In.calls a0 a2 _ _ rfl).mono ?_); rintro e w' ⟨rfl, ⟨nd, rfl⟩⟩) | (go_at_call 11; (with_reducible refine (wrap_In.calls a1 a2 _ _ rfl).mono ?_); rintro e w' ⟨rfl, ⟨nd, rfl⟩⟩) | (go_at_call 11; (with_reducible refine (wrap_In.calls _ a2 _ _ rfl).mono ?_); rintro e w' ⟨rfl, ⟨nd, rfl⟩⟩) | go_in)
  go_ret
  exact ⟨by first | rfl | (simp only [i64_w]; rfl), by repeat (first | exact Drawn0.refl _ | apply Drawn0.step)⟩

/-! ### wrap_held: function 41 -/
def wrap_held.f (a0 : Int) : Option Int := some (held a0)
theorem wrap_held.calls (a0 : Int) (r : Int) (w : World) (h : wrap_held.f a0 = some r) :
    Calls Try.prog 41 #[.int .i64 a0] w fun e w' => e = .returned (.int .i64 r) ∧ Drawn0 w w' := by
  obtain rfl := Option.some.inj h
  clear h
  by_cases h0 : a0 = 0
  · subst h0
    have e : held 0 = 0 := rfl
    rw [e]
    clear e
    go_enter Try.func41, Try.ntmps41
    go_wp2
    go_ret
    exact ⟨by rfl, by repeat (first | exact Drawn0.refl _ | apply Drawn0.step)⟩
  · by_cases h1 : a0 < 0
    · have e : held a0 = 0 := by unfold held; split <;> (try split) <;> omega
      rw [e]
      clear e
      have h2 : ¬ 0 < a0 := by omega
      have h3 : ¬ 4611686018427387904 < a0 := by omega
      go_enter Try.func41, Try.ntmps41
      go_wp2
      go_ret
      exact ⟨by first | rfl | (simp; omega), by repeat (first | exact Drawn0.refl _ | apply Drawn0.step)⟩
    · have h5 : 0 < a0 := by omega
      have h6 : ¬ a0 < 0 := h1
      by_cases h2 : 4611686018427387904 < a0
      · have e : held a0 = 4611686018427387904 := by unfold held; rw [if_neg (by omega), if_pos h2]
        rw [e]
        clear e
        go_enter Try.func41, Try.ntmps41
        go_wp2
        go_ret
        exact ⟨by first | rfl | (simp [h2]), by repeat (first | exact Drawn0.refl _ | apply Drawn0.step)⟩
      · have e : held a0 = a0 := by unfold held; rw [if_neg (by omega), if_neg h2]
        rw [e]
        clear e
        go_enter Try.func41, Try.ntmps41
        go_wp2
        go_ret
        exact ⟨by first | rfl | (simp; omega), by repeat (first | exact Drawn0.refl _ | apply Drawn0.step)⟩

/-! ### wrap_Plus: function 16 -/
def wrap_Plus.f (a0 a1 : Int) : Option Int := some (plusS a0 a1)
theorem wrap_Plus.calls (a0 : Int) (a1 : Int) (r : Int) (w : World) (h : wrap_Plus.f a0 a1 = some r) :
    Calls Try.prog 16 #[.int .i64 a0, .int .i64 a1] w fun e w' => e = .returned (.int .i64 r) ∧ Drawn0 w w' := by
  obtain rfl := Option.some.inj h
  clear h
  have p0 := held_lo a0
  have p1 := held_hi a0
  have p2 := held_lo a1
  have p3 := held_hi a1
  by_cases h1 : 4611686018427387904 < held a0 + held a1
  · have e : plusS a0 a1 = 4611686018427387904 := by unfold plusS; rw [if_pos h1]
    rw [e]
    clear e
    have h2 : decide (4611686018427387904 - held a1 < held a0) = true := decide_eq_true (by omega)
    go_enter Try.func16, Try.ntmps16
    go_wp2_with (first | (go_at_call 41; (with_reducible refine (wrap_held.calls a0 _ _ rfl).mono ?_); rintro e w' ⟨rfl, ⟨nd, rfl⟩⟩) | (go_at_call 41; (with_reducible refine (wrap_held.calls a1 _ _ rfl).mono ?_); rintro e w' ⟨rfl, ⟨nd, rfl⟩⟩) | go_in)
    go_ret
    exact ⟨by first | rfl | (simp only [i64_w]; rfl), by repeat (first | exact Drawn0.refl _ | apply Drawn0.step)⟩
  · have e : plusS a0 a1 = held a0 + held a1 := by unfold plusS; rw [if_neg h1]
    rw [e]
    clear e
    have h2 : decide (4611686018427387904 - held a1 < held a0) = false := decide_eq_false (by omega)
    go_enter Try.func16, Try.ntmps16
    go_wp2_with (first | (go_at_call 41; (with_reducible refine (wrap_held.calls a0 _ _ rfl).mono ?_); rintro e w' ⟨rfl, ⟨nd, rfl⟩⟩) | (go_at_call 41; (with_reducible refine (wrap_held.calls a1 _ _ rfl).mono ?_); rintro e w' ⟨rfl, ⟨nd, rfl⟩⟩) | go_in)
    go_ret
    exact ⟨by first | rfl | (simp only [i64_w]; rfl), by repeat (first | exact Drawn0.refl _ | apply Drawn0.step)⟩

/-! ### wrap_Times: function 18 -/
def wrap_Times.f (a0 a1 : Int) : Option Int := some (timesS a0 a1)
theorem wrap_Times.calls (a0 : Int) (a1 : Int) (r : Int) (w : World) (h : wrap_Times.f a0 a1 = some r) :
    Calls Try.prog 18 #[.int .i64 a0, .int .i64 a1] w fun e w' => e = .returned (.int .i64 r) ∧ Drawn0 w w' := by
  obtain rfl := Option.some.inj h
  clear h
  have p0 := held_lo a0
  have p1 := held_hi a0
  have p2 := held_lo a1
  have p3 := held_hi a1
  by_cases h0 : 0 < held a0
  · have h9 := times_ways a0 a1 h0
    have c0 : decide (0 < held a0) = true := decide_eq_true h0
    have hz : (held a0 == 0) = false := beq_eq_false_iff_ne.mpr (by omega)
    have d0 : 0 ≤ 4611686018427387904 / held a0 := Int.ediv_nonneg (by omega) (by omega)
    have d1 : 4611686018427387904 / held a0 ≤ 4611686018427387904 := Int.ediv_le_self _ (by omega)
    by_cases h1 : 4611686018427387904 / held a0 < held a1
    · have E := Aside0.mk (h9.1 h1)
      clear h9
      rw [E.out]
      have c1 : decide (4611686018427387904 / held a0 < held a1) = true := decide_eq_true h1
      go_enter Try.func18, Try.ntmps18
      go_wp2_with (first | (go_at_call 41; (with_reducible refine (wrap_held.calls a0 _ _ rfl).mono ?_); rintro e w' ⟨rfl, ⟨nd, rfl⟩⟩) | (go_at_call 41; (with_reducible refine (wrap_held.calls a1 _ _ rfl).mono ?_); rintro e w' ⟨rfl, ⟨nd, rfl⟩⟩) | go_in)
      go_ret
      exact ⟨by first | rfl | (simp only [i64_w]; rfl), by repeat (first | exact Drawn0.refl _ | apply Drawn0.step)⟩
    · have E := Aside0.mk (h9.2 h1)
      clear h9
      have c1 : decide (4611686018427387904 / held a0 < held a1) = false := decide_eq_false h1
      rw [← E.out.1]
      have q := E.out.2
      go_enter Try.func18, Try.ntmps18
      go_wp2_with (first | (go_at_call 41; (with_reducible refine (wrap_held.calls a0 _ _ rfl).mono ?_); rintro e w' ⟨rfl, ⟨nd, rfl⟩⟩) | (go_at_call 41; (with_reducible refine (wrap_held.calls a1 _ _ rfl).mono ?_); rintro e w' ⟨rfl, ⟨nd, rfl⟩⟩) | go_in)
      go_ret
      exact ⟨by first | rfl | (simp only [i64_w]; rfl), by repeat (first | exact Drawn0.refl _ | apply Drawn0.step)⟩
  · have e : timesS a0 a1 = 0 := by unfold timesS; rw [show held a0 = 0 by omega]; simp
    have E := Aside0.mk (show wrap64 (held a0 * held a1) = timesS a0 a1 by rw [e, show held a0 = 0 by omega]; simp [wrap64])
    rw [← E.out]
    clear e
    have c0 : decide (0 < held a0) = false := decide_eq_false h0
    go_enter Try.func18, Try.ntmps18
    go_wp2_with (first | (go_at_call 41; (with_reducible refine (wrap_held.calls a0 _ _ rfl).mono ?_); rintro e w' ⟨rfl, ⟨nd, rfl⟩⟩) | (go_at_call 41; (with_reducible refine (wrap_held.calls a1 _ _ rfl).mono ?_); rintro e w' ⟨rfl, ⟨nd, rfl⟩⟩) | go_in)
    go_ret
    exact ⟨by first | rfl | (simp only [i64_w]; rfl), by repeat (first | exact Drawn0.refl _ | apply Drawn0.step)⟩

/-! ### wrap_Power: function 20 -/
def wrap_Power.l0 : Nat → Int → Int → Int → Option (Int)
  | 0, _, _, _ => none
  | k + 1, x0, x1, x5 => if x1 > 0 then (if (Go.bits .and .i64 x1 1) = 1 then ((wrap_Times.f x5 x0).bind fun t101 => ((wrap_Times.f x0 x0).bind fun t102 => (wrap_Power.l0 k t102 (x1 / 2) t101))) else ((wrap_Times.f x0 x0).bind fun t103 => (wrap_Power.l0 k t103 (x1 / 2) x5))) else (some x5)
def wrap_Power.f (k : Nat) (a0 : Int) (a1 : Int) : Option (Int) := wrap_Power.l0 k a0 a1 1
theorem wrap_Power.mono_l : ∀ k, (∀ y0 y1 y2, LeO (wrap_Power.l0 k y0 y1 y2) (wrap_Power.l0 (k + 1) y0 y1 y2))
  | 0 => fun _ _ _ r h => by simp [wrap_Power.l0] at h
  | k + 1 => by
    have ih0 := wrap_Power.mono_l k
    · intro y0 y1 y2
      unfold wrap_Power.l0
      repeat' first
      | (with_reducible exact ih0 _ _ _)
      | (with_reducible exact LeO.refl _)
      | (with_reducible exact LeO.none _)
      | (with_reducible refine LeO.ite ?_ ?_)
      | (with_reducible refine LeO.bind ?_ (fun _ => ?_))
      | exact ih0 _ _ _
      | exact LeO.none _
      | refine LeO.ite ?_ ?_
      | refine LeO.bind ?_ (fun _ => ?_)
theorem wrap_Power.mono : ∀ a0 a1 k, LeO (wrap_Power.f k a0 a1) (wrap_Power.f (k + 1) a0 a1) := by
  intro a0 a1 k
  have ih0 := wrap_Power.mono_l k
  unfold wrap_Power.f
  repeat' first
      | (with_reducible exact ih0 _ _ _)
      | (with_reducible exact LeO.refl _)
      | (with_reducible exact LeO.none _)
      | (with_reducible refine LeO.ite ?_ ?_)
      | (with_reducible refine LeO.bind ?_ (fun _ => ?_))
      | exact ih0 _ _ _
      | exact LeO.none _
      | refine LeO.ite ?_ ?_
      | refine LeO.bind ?_ (fun _ => ?_)
set_option maxHeartbeats 8000000 in
set_option maxRecDepth 100000 in
theorem wrap_Power.calls (k : Nat) (a0 : Int) (a1 : Int) (r : Int) (w : World) (h : wrap_Power.f k a0 a1 = some r) :
    Calls Try.prog 20 #[.int .i64 a0, .int .i64 a1] w fun e w' => e = .returned (.int .i64 r) ∧ Drawn0 w w' := by
  have H : (wrap_Power.l0 k a0 a1 1) = some r := h
  clear h
  have H' := Aside0.mk H
  clear H
  go_enter Try.func20, Try.ntmps20
  go_wp2
  go_loopg [0, 1, 5] k (fun kq v0 v1 v5 w' => ∃ (x0_1 : Int) (x1_1 : Int) (x5_1 : Int), v0 = .int .i64 x0_1 ∧ v1 = .int .i64 x1_1 ∧ v5 = .int .i64 x5_1 ∧ Aside0 (wrap_Power.l0 kq x0_1 x1_1 x5_1 = some r) ∧ Aside0 (kq ≤ k) ∧ Drawn0 w w')
  case atStart => exact ⟨(a0), (a1), (1), (by first | rfl | (simp; done) | (simp [*]; done)), (by first | rfl | (simp; done) | (simp [*]; done)), (by first | rfl | (simp; done) | (simp [*]; done)), H', ⟨Nat.le_refl _⟩, by repeat (first | exact Drawn0.refl _ | apply Drawn0.step)⟩
  case round =>
    clear H'
    try clear c2
    try clear p2
    obtain ⟨x0_1, x1_1, x5_1, rfl, rfl, rfl, HA, HK1, ⟨m1, rfl⟩⟩ := hrel
    cases gk with
    | zero => exact absurd HA.out (by simp [wrap_Power.l0])
    | succ k1 =>
      have H := HA.out
      clear HA
      simp only [wrap_Power.l0] at H
      by_cases c3 : x1_1 > 0
      · rw [if_pos c3] at H
        have c3b0 : decide (0 < x1_1) = true := decide_eq_true c3
        clear c3
        by_cases c4 : (Go.bits .and .i64 x1_1 1) = 1
        · rw [if_pos c4] at H
          have c4b0 : ((Go.bits .and .i64 x1_1 1) == 1) = true := beq_iff_eq.mpr c4
          have c4b1 : ((Go.bits .and .i64 x1_1 1) != 1) = false := bne_eq_false_iff_eq.mpr c4
          clear c4
          replace H := Option.bind_eq_some_iff.mp H
          obtain ⟨t101, A50, H⟩ := H
          replace H : ((wrap_Times.f x0_1 x0_1).bind fun t102 => (wrap_Power.l0 k1 t102 (x1_1 / 2) t101)) = some r := H
          have A5 := Aside0.mk A50
          clear A50
          replace H := Option.bind_eq_some_iff.mp H
          obtain ⟨t102, A60, H⟩ := H
          replace H : (wrap_Power.l0 k1 t102 (x1_1 / 2) t101) = some r := H
          have A6 := Aside0.mk A60
          clear A60
          have H' := Aside0.mk H
          clear H
          go_wp2_with (first | ((with_reducible refine gate_callee (f := 18) rfl ?_); refine goesL_ (some 15) rfl rfl Try.func18 (by kernel_rfl) rfl #[.int .i64 x5_1, .int .i64 x0_1] rfl (by (try simp only [List.map_toArray, List.map_cons, List.map_nil]); first | done | rfl | (simp only [List.length_drop, List.length_take]; rfl)) ?_; (with_reducible refine (wrap_Times.calls x5_1 x0_1 t101 _ A5.out).mono ?_); rintro e w' ⟨rfl, ⟨nd, rfl⟩⟩; refine ⟨_, rfl, ?_⟩) | ((with_reducible refine gate_callee (f := 18) rfl ?_); refine goesL_ (some 18) rfl rfl Try.func18 (by kernel_rfl) rfl #[.int .i64 x0_1, .int .i64 x0_1] rfl (by (try simp only [List.map_toArray, List.map_cons, List.map_nil]); first | done | rfl | (simp only [List.length_drop, List.length_take]; rfl)) ?_; (with_reducible refine (wrap_Times.calls x0_1 x0_1 t102 _ A6.out).mono ?_); rintro e w' ⟨rfl, ⟨nd, rfl⟩⟩; refine ⟨_, rfl, ?_⟩))
          go_roundg k1
          case measure => have := HK1.out; omega
          case rel => exact ⟨(t102), (x1_1 / 2), (t101), (by first | rfl | (simp; done) | (simp [*]; done)), (by first | rfl | (simp; done) | (simp [*]; done)), (by first | rfl | (simp; done) | (simp [*]; done)), H', ⟨by have := HK1.out; omega⟩, by repeat (first | exact Drawn0.refl _ | apply Drawn0.step)⟩
        · rw [if_neg c4] at H
          have c4b0 : ((Go.bits .and .i64 x1_1 1) == 1) = false := beq_eq_false_iff_ne.mpr c4
          have c4b1 : ((Go.bits .and .i64 x1_1 1) != 1) = true := bne_iff_ne.mpr c4
          replace H := Option.bind_eq_some_iff.mp H
          obtain ⟨t103, A70, H⟩ := H
          replace H : (wrap_Power.l0 k1 t103 (x1_1 / 2) x5_1) = some r := H
          have A7 := Aside0.mk A70
          clear A70
          have H' := Aside0.mk H
          clear H
          go_wp2_with (first | ((with_reducible refine gate_callee (f := 18) rfl ?_); refine goesL_ (some 18) rfl rfl Try.func18 (by kernel_rfl) rfl #[.int .i64 x0_1, .int .i64 x0_1] rfl (by (try simp only [List.map_toArray, List.map_cons, List.map_nil]); first | done | rfl | (simp only [List.length_drop, List.length_take]; rfl)) ?_; (with_reducible refine (wrap_Times.calls x0_1 x0_1 t103 _ A7.out).mono ?_); rintro e w' ⟨rfl, ⟨nd, rfl⟩⟩; refine ⟨_, rfl, ?_⟩))
          go_roundg k1
          case measure => have := HK1.out; omega
          case rel => exact ⟨(t103), (x1_1 / 2), (x5_1), (by first | rfl | (simp; done) | (simp [*]; done)), (by first | rfl | (simp; done) | (simp [*]; done)), (by first | rfl | (simp; done) | (simp [*]; done)), H', ⟨by have := HK1.out; omega⟩, by repeat (first | exact Drawn0.refl _ | apply Drawn0.step)⟩
      · rw [if_neg c3] at H
        have c3b0 : decide (0 < x1_1) = false := decide_eq_false c3
        clear c3
        obtain rfl := Option.some.inj H
        go_wp2
        go_ret
        exact ⟨by first | rfl | (simp; done) | (simp [*]; done), by repeat (first | exact Drawn0.refl _ | apply Drawn0.step)⟩
theorem wrap_Power_l0 (d : Nat) : ∀ (k : Nat) (a e out : Int), 0 ≤ e → e < 9223372036854775808 → e.toNat ≤ d → d < k →
    (0 ≤ out ∧ out ≤ 4611686018427387904) → wrap_Power.l0 k a e out = some ((sat (out.toNat * a.toNat ^ e.toNat) : Nat) : Int) := by
  induction d with
  | zero =>
    intro k a e out h0 h1 hd hk ho
    obtain ⟨k, rfl⟩ : ∃ m, k = m + 1 := ⟨k - 1, by omega⟩
    simp only [wrap_Power.l0]; rw [if_neg (by omega)]
    have e0 : e.toNat = 0 := by omega
    rw [e0, Nat.pow_zero, Nat.mul_one]
    unfold sat; rw [if_neg (by omega)]
    congr 1; omega
  | succ d ih =>
    intro k a e out h0 h1 hd hk ho
    obtain ⟨k, rfl⟩ : ∃ m, k = m + 1 := ⟨k - 1, by omega⟩
    by_cases he : e = 0
    · simp only [wrap_Power.l0]; rw [if_neg (by omega)]
      have e0 : e.toNat = 0 := by omega
      rw [e0, Nat.pow_zero, Nat.mul_one]
      unfold sat; rw [if_neg (by omega)]
      congr 1; omega
    · simp only [wrap_Power.l0]; rw [if_pos (by omega), and_one e h0 h1]
      have hq : (e / 2).toNat ≤ d := by omega
      have sq : (timesS a a).toNat = sat (a.toNat ^ 2) := by rw [times_nat, Int.toNat_natCast, Nat.pow_two]
      have half : (e / 2).toNat = e.toNat / 2 := by omega
      by_cases hp : e % 2 = 1
      · rw [if_pos hp]
        simp only [wrap_Times.f, Option.bind_some]
        have so : (timesS out a).toNat = sat (out.toNat * a.toNat) := by rw [times_nat, Int.toNat_natCast]
        rw [ih k (timesS a a) (e / 2) (timesS out a) (by omega) (by omega) hq (by omega) ⟨by rw [times_nat]; omega, by rw [times_nat]; have := sat_le (out.toNat * a.toNat); omega⟩]
        rw [so, sq, sat_pow, sat_mul_l, ← Nat.pow_mul, half, Nat.mul_assoc]
        have he2 : e.toNat = 2 * (e.toNat / 2) + 1 := by omega
        have : a.toNat * a.toNat ^ (2 * (e.toNat / 2)) = a.toNat ^ e.toNat := by
          conv => rhs; rw [he2, Nat.pow_succ, Nat.mul_comm]
        rw [this]
      · rw [if_neg hp]
        simp only [wrap_Times.f, Option.bind_some]
        rw [ih k (timesS a a) (e / 2) out (by omega) (by omega) hq (by omega) ho]
        rw [sq, sat_pow, ← Nat.pow_mul, half]
        have he2 : 2 * (e.toNat / 2) = e.toNat := by omega
        rw [he2]
theorem wrap_Power_eq (k : Nat) (a e : Int) (h1 : e < 9223372036854775808) (hk : e.toNat < k) : wrap_Power.f k a e = some (powS a e) := by
  unfold wrap_Power.f powS
  by_cases h0 : 0 ≤ e
  · rw [wrap_Power_l0 e.toNat k a e 1 h0 h1 (Nat.le_refl _) hk ⟨by omega, by omega⟩]
    simp
  · obtain ⟨k, rfl⟩ : ∃ m, k = m + 1 := ⟨k - 1, by omega⟩
    simp only [wrap_Power.l0]; rw [if_neg (by omega)]
    have e0 : e.toNat = 0 := by omega
    rw [e0]; rfl

/-! ### withelaw5_begun: function 9 -/
def withelaw5_begun.f (k : Nat)  : Option (Bool) := (wrap_In.f (-1) 3).bind fun t104 => (if t104 = 2 then ((wrap_Mul.f 5 7 4).bind fun t105 => (if t105 = 3 then ((wrap_Add.f 2 2 3).bind fun t106 => (if t106 = 1 then ((wrap_Sub.f 0 1 4).bind fun t107 => (if t107 = 3 then ((wrap_Power.f k 2 62).bind fun t108 => (if t108 = 4611686018427387904 then ((wrap_Power.f k 3 0).bind fun t109 => (if t109 = 1 then ((wrap_Times.f 4611686018427387904 0).bind fun t110 => (if t110 = 0 then ((wrap_Plus.f (-5) 7).bind fun t111 => (some (t111 == 7))) else (some false))) else (some false))) else (some false))) else (some false))) else (some false))) else (some false))) else (some false))
theorem withelaw5_begun.mono : ∀ k, LeO (withelaw5_begun.f k ) (withelaw5_begun.f (k + 1) ) := by
  intro  k
  unfold withelaw5_begun.f
  repeat' first
      | (with_reducible exact wrap_Power.mono _ _ _)
      | (with_reducible exact LeO.refl _)
      | (with_reducible exact LeO.none _)
      | (with_reducible refine LeO.ite ?_ ?_)
      | (with_reducible refine LeO.bind ?_ (fun _ => ?_))
      | exact wrap_Power.mono _ _ _
      | exact LeO.none _
      | refine LeO.ite ?_ ?_
      | refine LeO.bind ?_ (fun _ => ?_)
set_option maxHeartbeats 8000000 in
set_option maxRecDepth 100000 in
theorem withelaw5_begun.calls (k : Nat)  (r : Bool) (w : World) (h : withelaw5_begun.f k  = some r) :
    Calls Try.prog 9 #[] w fun e w' => e = .returned (.bool r) ∧ Drawn0 w w' := by
  have H : ((wrap_In.f (-1) 3).bind fun t104 => (if t104 = 2 then ((wrap_Mul.f 5 7 4).bind fun t105 => (if t105 = 3 then ((wrap_Add.f 2 2 3).bind fun t106 => (if t106 = 1 then ((wrap_Sub.f 0 1 4).bind fun t107 => (if t107 = 3 then ((wrap_Power.f k 2 62).bind fun t108 => (if t108 = 4611686018427387904 then ((wrap_Power.f k 3 0).bind fun t109 => (if t109 = 1 then ((wrap_Times.f 4611686018427387904 0).bind fun t110 => (if t110 = 0 then ((wrap_Plus.f (-5) 7).bind fun t111 => (some (t111 == 7))) else (some false))) else (some false))) else (some false))) else (some false))) else (some false))) else (some false))) else (some false))) = some r := h
  clear h
  replace H := Option.bind_eq_some_iff.mp H
  obtain ⟨t104, A10, H⟩ := H
  replace H : (if t104 = 2 then ((wrap_Mul.f 5 7 4).bind fun t105 => (if t105 = 3 then ((wrap_Add.f 2 2 3).bind fun t106 => (if t106 = 1 then ((wrap_Sub.f 0 1 4).bind fun t107 => (if t107 = 3 then ((wrap_Power.f k 2 62).bind fun t108 => (if t108 = 4611686018427387904 then ((wrap_Power.f k 3 0).bind fun t109 => (if t109 = 1 then ((wrap_Times.f 4611686018427387904 0).bind fun t110 => (if t110 = 0 then ((wrap_Plus.f (-5) 7).bind fun t111 => (some (t111 == 7))) else (some false))) else (some false))) else (some false))) else (some false))) else (some false))) else (some false))) else (some false)) = some r := H
  have A1 := Aside0.mk A10
  clear A10
  by_cases c2 : t104 = 2
  · rw [if_pos c2] at H
    have c2b0 : (t104 == 2) = true := beq_iff_eq.mpr c2
    have c2b1 : (t104 != 2) = false := bne_eq_false_iff_eq.mpr c2
    clear c2
    replace H := Option.bind_eq_some_iff.mp H
    obtain ⟨t105, A30, H⟩ := H
    replace H : (if t105 = 3 then ((wrap_Add.f 2 2 3).bind fun t106 => (if t106 = 1 then ((wrap_Sub.f 0 1 4).bind fun t107 => (if t107 = 3 then ((wrap_Power.f k 2 62).bind fun t108 => (if t108 = 4611686018427387904 then ((wrap_Power.f k 3 0).bind fun t109 => (if t109 = 1 then ((wrap_Times.f 4611686018427387904 0).bind fun t110 => (if t110 = 0 then ((wrap_Plus.f (-5) 7).bind fun t111 => (some (t111 == 7))) else (some false))) else (some false))) else (some false))) else (some false))) else (some false))) else (some false)) = some r := H
    have A3 := Aside0.mk A30
    clear A30
    by_cases c4 : t105 = 3
    · rw [if_pos c4] at H
      have c4b0 : (t105 == 3) = true := beq_iff_eq.mpr c4
      have c4b1 : (t105 != 3) = false := bne_eq_false_iff_eq.mpr c4
      clear c4
      replace H := Option.bind_eq_some_iff.mp H
      obtain ⟨t106, A50, H⟩ := H
      replace H : (if t106 = 1 then ((wrap_Sub.f 0 1 4).bind fun t107 => (if t107 = 3 then ((wrap_Power.f k 2 62).bind fun t108 => (if t108 = 4611686018427387904 then ((wrap_Power.f k 3 0).bind fun t109 => (if t109 = 1 then ((wrap_Times.f 4611686018427387904 0).bind fun t110 => (if t110 = 0 then ((wrap_Plus.f (-5) 7).bind fun t111 => (some (t111 == 7))) else (some false))) else (some false))) else (some false))) else (some false))) else (some false)) = some r := H
      have A5 := Aside0.mk A50
      clear A50
      by_cases c6 : t106 = 1
      · rw [if_pos c6] at H
        have c6b0 : (t106 == 1) = true := beq_iff_eq.mpr c6
        have c6b1 : (t106 != 1) = false := bne_eq_false_iff_eq.mpr c6
        clear c6
        replace H := Option.bind_eq_some_iff.mp H
        obtain ⟨t107, A70, H⟩ := H
        replace H : (if t107 = 3 then ((wrap_Power.f k 2 62).bind fun t108 => (if t108 = 4611686018427387904 then ((wrap_Power.f k 3 0).bind fun t109 => (if t109 = 1 then ((wrap_Times.f 4611686018427387904 0).bind fun t110 => (if t110 = 0 then ((wrap_Plus.f (-5) 7).bind fun t111 => (some (t111 == 7))) else (some false))) else (some false))) else (some false))) else (some false)) = some r := H
        have A7 := Aside0.mk A70
        clear A70
        by_cases c8 : t107 = 3
        · rw [if_pos c8] at H
          have c8b0 : (t107 == 3) = true := beq_iff_eq.mpr c8
          have c8b1 : (t107 != 3) = false := bne_eq_false_iff_eq.mpr c8
          clear c8
          replace H := Option.bind_eq_some_iff.mp H
          obtain ⟨t108, A90, H⟩ := H
          replace H : (if t108 = 4611686018427387904 then ((wrap_Power.f k 3 0).bind fun t109 => (if t109 = 1 then ((wrap_Times.f 4611686018427387904 0).bind fun t110 => (if t110 = 0 then ((wrap_Plus.f (-5) 7).bind fun t111 => (some (t111 == 7))) else (some false))) else (some false))) else (some false)) = some r := H
          have A9 := Aside0.mk A90
          clear A90
          by_cases c10 : t108 = 4611686018427387904
          · rw [if_pos c10] at H
            have c10b0 : (t108 == 4611686018427387904) = true := beq_iff_eq.mpr c10
            have c10b1 : (t108 != 4611686018427387904) = false := bne_eq_false_iff_eq.mpr c10
            clear c10
            replace H := Option.bind_eq_some_iff.mp H
            obtain ⟨t109, A110, H⟩ := H
            replace H : (if t109 = 1 then ((wrap_Times.f 4611686018427387904 0).bind fun t110 => (if t110 = 0 then ((wrap_Plus.f (-5) 7).bind fun t111 => (some (t111 == 7))) else (some false))) else (some false)) = some r := H
            have A11 := Aside0.mk A110
            clear A110
            by_cases c12 : t109 = 1
            · rw [if_pos c12] at H
              have c12b0 : (t109 == 1) = true := beq_iff_eq.mpr c12
              have c12b1 : (t109 != 1) = false := bne_eq_false_iff_eq.mpr c12
              clear c12
              replace H := Option.bind_eq_some_iff.mp H
              obtain ⟨t110, A130, H⟩ := H
              replace H : (if t110 = 0 then ((wrap_Plus.f (-5) 7).bind fun t111 => (some (t111 == 7))) else (some false)) = some r := H
              have A13 := Aside0.mk A130
              clear A130
              by_cases c14 : t110 = 0
              · rw [if_pos c14] at H
                have c14b0 : (t110 == 0) = true := beq_iff_eq.mpr c14
                have c14b1 : (t110 != 0) = false := bne_eq_false_iff_eq.mpr c14
                clear c14
                replace H := Option.bind_eq_some_iff.mp H
                obtain ⟨t111, A150, H⟩ := H
                replace H : (some (t111 == 7)) = some r := H
                have A15 := Aside0.mk A150
                clear A150
                obtain rfl := Option.some.inj H
                go_enter Try.func9, Try.ntmps9
                go_wp2_with (first | ((with_reducible refine gate_callee (f := 11) rfl ?_); refine goesL_ (some 1) rfl rfl Try.func11 (by kernel_rfl) rfl #[.int .i64 (-1), .int .i64 3] rfl (by (try simp only [List.map_toArray, List.map_cons, List.map_nil]); first | done | rfl | (simp only [List.length_drop, List.length_take]; rfl)) ?_; (with_reducible refine (wrap_In.calls (-1) 3 t104 _ A1.out).mono ?_); rintro e w' ⟨rfl, ⟨nd, rfl⟩⟩; refine ⟨_, rfl, ?_⟩) | (go_at_call 11; (with_reducible refine (wrap_In.calls (-1) 3 t104 _ A1.out).mono ?_); rintro e w' ⟨rfl, ⟨nd, rfl⟩⟩) | (go_at_call 14; (with_reducible refine (wrap_Mul.calls 5 7 4 t105 _ A3.out).mono ?_); rintro e w' ⟨rfl, ⟨nd, rfl⟩⟩) | (go_at_call 12; (with_reducible refine (wrap_Add.calls 2 2 3 t106 _ A5.out).mono ?_); rintro e w' ⟨rfl, ⟨nd, rfl⟩⟩) | (go_at_call 13; (with_reducible refine (wrap_Sub.calls 0 1 4 t107 _ A7.out).mono ?_); rintro e w' ⟨rfl, ⟨nd, rfl⟩⟩) | (go_at_call 20; (with_reducible refine (wrap_Power.calls k 2 62 t108 _ A9.out).mono ?_); rintro e w' ⟨rfl, ⟨nd, rfl⟩⟩) | (go_at_call 20; (with_reducible refine (wrap_Power.calls k 3 0 t109 _ A11.out).mono ?_); rintro e w' ⟨rfl, ⟨nd, rfl⟩⟩) | (go_at_call 18; (with_reducible refine (wrap_Times.calls 4611686018427387904 0 t110 _ A13.out).mono ?_); rintro e w' ⟨rfl, ⟨nd, rfl⟩⟩) | (go_at_call 16; (with_reducible refine (wrap_Plus.calls (-5) 7 t111 _ A15.out).mono ?_); rintro e w' ⟨rfl, ⟨nd, rfl⟩⟩))
                go_ret
                exact ⟨by first | rfl | (simp; done) | (simp [*]; done), by repeat (first | exact Drawn0.refl _ | apply Drawn0.step)⟩
              · rw [if_neg c14] at H
                have c14b0 : (t110 == 0) = false := beq_eq_false_iff_ne.mpr c14
                have c14b1 : (t110 != 0) = true := bne_iff_ne.mpr c14
                obtain rfl := Option.some.inj H
                go_enter Try.func9, Try.ntmps9
                go_wp2_with (first | ((with_reducible refine gate_callee (f := 11) rfl ?_); refine goesL_ (some 1) rfl rfl Try.func11 (by kernel_rfl) rfl #[.int .i64 (-1), .int .i64 3] rfl (by (try simp only [List.map_toArray, List.map_cons, List.map_nil]); first | done | rfl | (simp only [List.length_drop, List.length_take]; rfl)) ?_; (with_reducible refine (wrap_In.calls (-1) 3 t104 _ A1.out).mono ?_); rintro e w' ⟨rfl, ⟨nd, rfl⟩⟩; refine ⟨_, rfl, ?_⟩) | (go_at_call 11; (with_reducible refine (wrap_In.calls (-1) 3 t104 _ A1.out).mono ?_); rintro e w' ⟨rfl, ⟨nd, rfl⟩⟩) | (go_at_call 14; (with_reducible refine (wrap_Mul.calls 5 7 4 t105 _ A3.out).mono ?_); rintro e w' ⟨rfl, ⟨nd, rfl⟩⟩) | (go_at_call 12; (with_reducible refine (wrap_Add.calls 2 2 3 t106 _ A5.out).mono ?_); rintro e w' ⟨rfl, ⟨nd, rfl⟩⟩) | (go_at_call 13; (with_reducible refine (wrap_Sub.calls 0 1 4 t107 _ A7.out).mono ?_); rintro e w' ⟨rfl, ⟨nd, rfl⟩⟩) | (go_at_call 20; (with_reducible refine (wrap_Power.calls k 2 62 t108 _ A9.out).mono ?_); rintro e w' ⟨rfl, ⟨nd, rfl⟩⟩) | (go_at_call 20; (with_reducible refine (wrap_Power.calls k 3 0 t109 _ A11.out).mono ?_); rintro e w' ⟨rfl, ⟨nd, rfl⟩⟩) | (go_at_call 18; (with_reducible refine (wrap_Times.calls 4611686018427387904 0 t110 _ A13.out).mono ?_); rintro e w' ⟨rfl, ⟨nd, rfl⟩⟩))
                go_ret
                exact ⟨by first | rfl | (simp; done) | (simp [*]; done), by repeat (first | exact Drawn0.refl _ | apply Drawn0.step)⟩
            · rw [if_neg c12] at H
              have c12b0 : (t109 == 1) = false := beq_eq_false_iff_ne.mpr c12
              have c12b1 : (t109 != 1) = true := bne_iff_ne.mpr c12
              obtain rfl := Option.some.inj H
              go_enter Try.func9, Try.ntmps9
              go_wp2_with (first | ((with_reducible refine gate_callee (f := 11) rfl ?_); refine goesL_ (some 1) rfl rfl Try.func11 (by kernel_rfl) rfl #[.int .i64 (-1), .int .i64 3] rfl (by (try simp only [List.map_toArray, List.map_cons, List.map_nil]); first | done | rfl | (simp only [List.length_drop, List.length_take]; rfl)) ?_; (with_reducible refine (wrap_In.calls (-1) 3 t104 _ A1.out).mono ?_); rintro e w' ⟨rfl, ⟨nd, rfl⟩⟩; refine ⟨_, rfl, ?_⟩) | (go_at_call 11; (with_reducible refine (wrap_In.calls (-1) 3 t104 _ A1.out).mono ?_); rintro e w' ⟨rfl, ⟨nd, rfl⟩⟩) | (go_at_call 14; (with_reducible refine (wrap_Mul.calls 5 7 4 t105 _ A3.out).mono ?_); rintro e w' ⟨rfl, ⟨nd, rfl⟩⟩) | (go_at_call 12; (with_reducible refine (wrap_Add.calls 2 2 3 t106 _ A5.out).mono ?_); rintro e w' ⟨rfl, ⟨nd, rfl⟩⟩) | (go_at_call 13; (with_reducible refine (wrap_Sub.calls 0 1 4 t107 _ A7.out).mono ?_); rintro e w' ⟨rfl, ⟨nd, rfl⟩⟩) | (go_at_call 20; (with_reducible refine (wrap_Power.calls k 2 62 t108 _ A9.out).mono ?_); rintro e w' ⟨rfl, ⟨nd, rfl⟩⟩) | (go_at_call 20; (with_reducible refine (wrap_Power.calls k 3 0 t109 _ A11.out).mono ?_); rintro e w' ⟨rfl, ⟨nd, rfl⟩⟩))
              go_ret
              exact ⟨by first | rfl | (simp; done) | (simp [*]; done), by repeat (first | exact Drawn0.refl _ | apply Drawn0.step)⟩
          · rw [if_neg c10] at H
            have c10b0 : (t108 == 4611686018427387904) = false := beq_eq_false_iff_ne.mpr c10
            have c10b1 : (t108 != 4611686018427387904) = true := bne_iff_ne.mpr c10
            obtain rfl := Option.some.inj H
            go_enter Try.func9, Try.ntmps9
            go_wp2_with (first | ((with_reducible refine gate_callee (f := 11) rfl ?_); refine goesL_ (some 1) rfl rfl Try.func11 (by kernel_rfl) rfl #[.int .i64 (-1), .int .i64 3] rfl (by (try simp only [List.map_toArray, List.map_cons, List.map_nil]); first | done | rfl | (simp only [List.length_drop, List.length_take]; rfl)) ?_; (with_reducible refine (wrap_In.calls (-1) 3 t104 _ A1.out).mono ?_); rintro e w' ⟨rfl, ⟨nd, rfl⟩⟩; refine ⟨_, rfl, ?_⟩) | (go_at_call 11; (with_reducible refine (wrap_In.calls (-1) 3 t104 _ A1.out).mono ?_); rintro e w' ⟨rfl, ⟨nd, rfl⟩⟩) | (go_at_call 14; (with_reducible refine (wrap_Mul.calls 5 7 4 t105 _ A3.out).mono ?_); rintro e w' ⟨rfl, ⟨nd, rfl⟩⟩) | (go_at_call 12; (with_reducible refine (wrap_Add.calls 2 2 3 t106 _ A5.out).mono ?_); rintro e w' ⟨rfl, ⟨nd, rfl⟩⟩) | (go_at_call 13; (with_reducible refine (wrap_Sub.calls 0 1 4 t107 _ A7.out).mono ?_); rintro e w' ⟨rfl, ⟨nd, rfl⟩⟩) | (go_at_call 20; (with_reducible refine (wrap_Power.calls k 2 62 t108 _ A9.out).mono ?_); rintro e w' ⟨rfl, ⟨nd, rfl⟩⟩))
            go_ret
            exact ⟨by first | rfl | (simp; done) | (simp [*]; done), by repeat (first | exact Drawn0.refl _ | apply Drawn0.step)⟩
        · rw [if_neg c8] at H
          have c8b0 : (t107 == 3) = false := beq_eq_false_iff_ne.mpr c8
          have c8b1 : (t107 != 3) = true := bne_iff_ne.mpr c8
          obtain rfl := Option.some.inj H
          go_enter Try.func9, Try.ntmps9
          go_wp2_with (first | ((with_reducible refine gate_callee (f := 11) rfl ?_); refine goesL_ (some 1) rfl rfl Try.func11 (by kernel_rfl) rfl #[.int .i64 (-1), .int .i64 3] rfl (by (try simp only [List.map_toArray, List.map_cons, List.map_nil]); first | done | rfl | (simp only [List.length_drop, List.length_take]; rfl)) ?_; (with_reducible refine (wrap_In.calls (-1) 3 t104 _ A1.out).mono ?_); rintro e w' ⟨rfl, ⟨nd, rfl⟩⟩; refine ⟨_, rfl, ?_⟩) | (go_at_call 11; (with_reducible refine (wrap_In.calls (-1) 3 t104 _ A1.out).mono ?_); rintro e w' ⟨rfl, ⟨nd, rfl⟩⟩) | (go_at_call 14; (with_reducible refine (wrap_Mul.calls 5 7 4 t105 _ A3.out).mono ?_); rintro e w' ⟨rfl, ⟨nd, rfl⟩⟩) | (go_at_call 12; (with_reducible refine (wrap_Add.calls 2 2 3 t106 _ A5.out).mono ?_); rintro e w' ⟨rfl, ⟨nd, rfl⟩⟩) | (go_at_call 13; (with_reducible refine (wrap_Sub.calls 0 1 4 t107 _ A7.out).mono ?_); rintro e w' ⟨rfl, ⟨nd, rfl⟩⟩))
          go_ret
          exact ⟨by first | rfl | (simp; done) | (simp [*]; done), by repeat (first | exact Drawn0.refl _ | apply Drawn0.step)⟩
      · rw [if_neg c6] at H
        have c6b0 : (t106 == 1) = false := beq_eq_false_iff_ne.mpr c6
        have c6b1 : (t106 != 1) = true := bne_iff_ne.mpr c6
        obtain rfl := Option.some.inj H
        go_enter Try.func9, Try.ntmps9
        go_wp2_with (first | ((with_reducible refine gate_callee (f := 11) rfl ?_); refine goesL_ (some 1) rfl rfl Try.func11 (by kernel_rfl) rfl #[.int .i64 (-1), .int .i64 3] rfl (by (try simp only [List.map_toArray, List.map_cons, List.map_nil]); first | done | rfl | (simp only [List.length_drop, List.length_take]; rfl)) ?_; (with_reducible refine (wrap_In.calls (-1) 3 t104 _ A1.out).mono ?_); rintro e w' ⟨rfl, ⟨nd, rfl⟩⟩; refine ⟨_, rfl, ?_⟩) | (go_at_call 11; (with_reducible refine (wrap_In.calls (-1) 3 t104 _ A1.out).mono ?_); rintro e w' ⟨rfl, ⟨nd, rfl⟩⟩) | (go_at_call 14; (with_reducible refine (wrap_Mul.calls 5 7 4 t105 _ A3.out).mono ?_); rintro e w' ⟨rfl, ⟨nd, rfl⟩⟩) | (go_at_call 12; (with_reducible refine (wrap_Add.calls 2 2 3 t106 _ A5.out).mono ?_); rintro e w' ⟨rfl, ⟨nd, rfl⟩⟩))
        go_ret
        exact ⟨by first | rfl | (simp; done) | (simp [*]; done), by repeat (first | exact Drawn0.refl _ | apply Drawn0.step)⟩
    · rw [if_neg c4] at H
      have c4b0 : (t105 == 3) = false := beq_eq_false_iff_ne.mpr c4
      have c4b1 : (t105 != 3) = true := bne_iff_ne.mpr c4
      obtain rfl := Option.some.inj H
      go_enter Try.func9, Try.ntmps9
      go_wp2_with (first | ((with_reducible refine gate_callee (f := 11) rfl ?_); refine goesL_ (some 1) rfl rfl Try.func11 (by kernel_rfl) rfl #[.int .i64 (-1), .int .i64 3] rfl (by (try simp only [List.map_toArray, List.map_cons, List.map_nil]); first | done | rfl | (simp only [List.length_drop, List.length_take]; rfl)) ?_; (with_reducible refine (wrap_In.calls (-1) 3 t104 _ A1.out).mono ?_); rintro e w' ⟨rfl, ⟨nd, rfl⟩⟩; refine ⟨_, rfl, ?_⟩) | (go_at_call 11; (with_reducible refine (wrap_In.calls (-1) 3 t104 _ A1.out).mono ?_); rintro e w' ⟨rfl, ⟨nd, rfl⟩⟩) | (go_at_call 14; (with_reducible refine (wrap_Mul.calls 5 7 4 t105 _ A3.out).mono ?_); rintro e w' ⟨rfl, ⟨nd, rfl⟩⟩))
      go_ret
      exact ⟨by first | rfl | (simp; done) | (simp [*]; done), by repeat (first | exact Drawn0.refl _ | apply Drawn0.step)⟩
  · rw [if_neg c2] at H
    have c2b0 : (t104 == 2) = false := beq_eq_false_iff_ne.mpr c2
    have c2b1 : (t104 != 2) = true := bne_iff_ne.mpr c2
    obtain rfl := Option.some.inj H
    go_enter Try.func9, Try.ntmps9
    go_wp2_with (first | ((with_reducible refine gate_callee (f := 11) rfl ?_); refine goesL_ (some 1) rfl rfl Try.func11 (by kernel_rfl) rfl #[.int .i64 (-1), .int .i64 3] rfl (by (try simp only [List.map_toArray, List.map_cons, List.map_nil]); first | done | rfl | (simp only [List.length_drop, List.length_take]; rfl)) ?_; (with_reducible refine (wrap_In.calls (-1) 3 t104 _ A1.out).mono ?_); rintro e w' ⟨rfl, ⟨nd, rfl⟩⟩; refine ⟨_, rfl, ?_⟩) | (go_at_call 11; (with_reducible refine (wrap_In.calls (-1) 3 t104 _ A1.out).mono ?_); rintro e w' ⟨rfl, ⟨nd, rfl⟩⟩))
    go_ret
    exact ⟨by first | rfl | (simp; done) | (simp [*]; done), by repeat (first | exact Drawn0.refl _ | apply Drawn0.step)⟩
theorem withelaw5_begun_70 : withelaw5_begun.f 70 = some true := by decide +kernel
theorem withelaw5_begun_eq (k : Nat) (hk : 70 ≤ k) : withelaw5_begun.f k = some true := at_rounds withelaw5_begun.mono hk withelaw5_begun_70

end Go.Proofs.Ytpkhcmholpljnaa.PW5s
