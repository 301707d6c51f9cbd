/-
  The statement WrapStops is proved: numbers that stop (package wrap) rise with what they are made of and go with order and brackets, as the given row says it.
  Conditions: none of ours.
-/
import Derived.Test.YtpkhcmholpljnaaPW5x
namespace Go.Proofs.Ytpkhcmholpljnaa.Pure
open Go.RowKit Go.Proofs.Ytpkhcmholpljnaa.PW5 Go.Proofs.YtpkhcmholpljnaaW.PrintWords Go.Proofs.YtpkhcmholpljnaaW.PrintLast

theorem sat_mono (x y : Nat) (h : x ≤ y) : sat x ≤ sat y := by unfold sat; split <;> split <;> omega
theorem sat_add_l (x y : Nat) : sat (sat x + y) = sat (x + y) := by
  by_cases h : 4611686018427387904 < x
  · have e : sat x = 4611686018427387904 := by unfold sat; rw [if_pos h]
    rw [e]; unfold sat; split <;> split <;> omega
  · have e : sat x = x := by unfold sat; rw [if_neg h]
    rw [e]
theorem sat_add_r (x y : Nat) : sat (x + sat y) = sat (x + y) := by rw [Nat.add_comm, sat_add_l, Nat.add_comm]

theorem pow_two_way (n : Nat) : ((sat (2 ^ n) : Nat) : Int) = mn 4611686018427387904 (2 ^ (min n 62)) := by
  by_cases h : n ≤ 62
  · have h2 : 2 ^ n ≤ 2 ^ 62 := Nat.pow_le_pow_right (by omega) h
    have e2 : (2 : Nat) ^ 62 = 4611686018427387904 := by decide
    rw [Nat.min_eq_left h]
    have e3 : ((2 ^ n : Nat) : Int) = 2 ^ n := by simp
    unfold sat mn
    rw [if_neg (by omega), e3]
    rw [← e3]
    split <;> omega
  · have h2 : 2 ^ 62 < 2 ^ n := Nat.pow_lt_pow_right (by omega) (by omega)
    have e2 : (2 : Nat) ^ 62 = 4611686018427387904 := by decide
    rw [Nat.min_eq_right (by omega)]
    unfold sat mn
    rw [if_pos (by omega)]
    decide

theorem shl_one (m : Nat) (hm : m ≤ 62) : shl .i64 1 (m : Int) = 2 ^ m := by
  have h := shl_small (k := .i64) (x := 1) (y := (m : Int)) rfl (show (m : Int) ≤ ((64 : Nat) : Int) by omega)
  rw [← h, Int.toNat_natCast, Int.one_mul, i64_w]
  have h2 : 2 ^ m ≤ 2 ^ 62 := Nat.pow_le_pow_right (by omega) hm
  have h3 : 0 < 2 ^ m := Nat.pow_pos (by omega)
  have e3 : ((2 ^ m : Nat) : Int) = 2 ^ m := by simp
  rw [show (2 : Nat) ^ 62 = 4611686018427387904 from rfl] at h2
  rw [← e3]
  generalize 2 ^ m = z at *
  unfold wrap64; omega

theorem u64_min (n : Nat) : IntKind.u64.wrap (mn (n : Int) 62) = ((min n 62 : Nat) : Int) := by
  have e : mn (n : Int) 62 = ((min n 62 : Nat) : Int) := by
    unfold mn
    by_cases h : n ≤ 62
    · rw [Nat.min_eq_left h]; split <;> omega
    · rw [Nat.min_eq_right (by omega)]; split <;> omega
  rw [e]
  have hm : min n 62 ≤ 62 := Nat.min_le_right _ _
  generalize min n 62 = m at hm
  rw [IntKind.wrap_u64]; omega
theorem WrapStops : withelaw5_WrapStops.Pure := by
  intro a b c k0 _ _ _ hk
  have rk : 0 ≤ k0 ∧ k0 ≤ 255 := by
    simp only [Lit.wf, Bool.and_eq_true, decide_eq_true_eq] at hk
    have hmax : IntKind.u8.max = 255 := rfl
    have hmin : IntKind.u8.min = 0 := rfl
    omega
  obtain ⟨n, hn, hn2⟩ : ∃ n : Nat, wrap64 (Int.tmod k0 70) = n ∧ n < 70 := by
    have h1 : Int.tmod k0 70 = k0 % 70 := Int.tmod_eq_emod_of_nonneg rk.1
    refine ⟨(k0 % 70).toNat, ?_, ?_⟩
    · rw [h1]; unfold wrap64; omega
    · omega
  refine ⟨75, ?_⟩
  unfold withelaw5_WrapStops.f
  rw [withelaw5_begun_eq _ (by omega)]
  simp only [Option.bind_some, if_true, wrap_Plus.f, wrap_Times.f, withelaw5_WrapStops.j0, withelaw5_WrapStops.j1, hn]
  have e1 : wrap64 ((n : Int) + 1) = ((n + 1 : Nat) : Int) := by unfold wrap64; omega
  rw [e1, wrap_Power_eq _ _ _ (by omega) (by omega), wrap_Power_eq _ _ _ (by omega) (by omega), wrap_Power_eq _ _ 0 (by omega) (by omega), wrap_Power_eq _ 2 _ (by omega) (by omega)]
  simp only [Option.bind_some, plus_nat, times_nat, powS, Int.toNat_natCast]
  have q1 := sat_le (a.toNat + b.toNat)
  have q2 := sat_le (a.toNat * b.toNat)
  rw [if_neg (by omega), if_neg (by omega), if_neg (by omega), if_neg (by omega), Nat.add_comm b.toNat a.toNat, if_pos rfl, Nat.mul_comm b.toNat a.toNat, bne_self_eq_false, if_neg (by decide)]
  have f1 : sat (sat (a.toNat + b.toNat) + c.toNat) = sat (a.toNat + sat (b.toNat + c.toNat)) := by rw [sat_add_l, sat_add_r, Nat.add_assoc]
  have f2 : sat (sat (a.toNat * b.toNat) * c.toNat) = sat (a.toNat * sat (b.toNat * c.toNat)) := by rw [sat_mul_l, sat_mul_r, Nat.mul_assoc]
  have f3 : sat (a.toNat ^ (n + 1)) = sat (sat (a.toNat ^ n) * a.toNat) := by rw [sat_mul_l, Nat.pow_succ]
  have f4 : wrap64 ((n : Int)) = n := by unfold wrap64; omega
  have f5 := u64_min n
  have f0 : ((sat (a.toNat ^ (0 : Int).toNat) : Nat) : Int) = 1 := by rw [Int.toNat_zero, Nat.pow_zero, sat_one]; rfl
  have m1 : c ≥ b → ¬ ((sat (a.toNat + c.toNat) : Nat) : Int) < ((sat (a.toNat + b.toNat) : Nat) : Int) := fun h => by
    have := sat_mono (a.toNat + b.toNat) (a.toNat + c.toNat) (by omega)
    omega
  have m2 : c ≥ b → ¬ ((sat (a.toNat * c.toNat) : Nat) : Int) < ((sat (a.toNat * b.toNat) : Nat) : Int) := fun h => by
    have := sat_mono (a.toNat * b.toNat) (a.toNat * c.toNat) (Nat.mul_le_mul_left _ (by omega))
    omega
  have f7 : (0 : Int) ≤ ((min n 62 : Nat) : Int) := Int.natCast_nonneg _
  have f6 := shl_one (min n 62) (Nat.min_le_right _ _)
  by_cases hcb : c ≥ b
  · rw [if_pos hcb, if_neg (m1 hcb), decide_eq_false (m2 hcb), if_neg Bool.false_ne_true]
    rw [if_pos (by rw [f1]), if_pos (by rw [f2]), if_pos (by rw [f3]), if_pos f0, f5, if_pos f7, f6, ← pow_two_way, show Int.toNat 2 = 2 from rfl, beq_self_eq_true]
  · rw [if_neg hcb, if_neg Bool.false_ne_true]
    rw [if_pos (by rw [f1]), if_pos (by rw [f2]), if_pos (by rw [f3]), if_pos f0, f5, if_pos f7, f6, ← pow_two_way, show Int.toNat 2 = 2 from rfl, beq_self_eq_true]

end Go.Proofs.Ytpkhcmholpljnaa.Pure
