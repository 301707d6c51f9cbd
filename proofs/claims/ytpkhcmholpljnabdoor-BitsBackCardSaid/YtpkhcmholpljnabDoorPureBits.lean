/- A text of a claim (ours): plain laws of the functions that the laws of withelaw1 share. -/
import Derived.Test.YtpkhcmholpljnabDoorPB1x
import Derived.Test.YtpkhcmholpljnabDoorPop
import Derived.Laws.Bits64b
import Derived.Laws.Bits128
import Derived.Laws.BitsAllLaws
namespace Go.Proofs.YtpkhcmholpljnabDoor.PureBits
open Go Go.RowKit Go.Proofs.YtpkhcmholpljnabDoor.PB1 Go.Proofs.YtpkhcmholpljnabDoorW.PrintWords Go.Proofs.YtpkhcmholpljnabDoorW.PrintLast
theorem wr_nat (n : Nat) (h : n < 18446744073709551616) : IntKind.u64.wrap (n : Int) = n := by
  rw [IntKind.wrap_u64]; omega
theorem w64_nat (n : Nat) (h : n < 9223372036854775808) : wrap64 (n : Int) = n := by
  unfold wrap64; omega
theorem and_m (A : Int) (a : Nat) (hA : A = (a : Int)) (M : Int) (m : Nat) (hM : M = (m : Int)) (ha : a < 18446744073709551616) (hm : m < 18446744073709551616) : bits .and .u64 A M = ((a &&& m : Nat) : Int) := by
  subst hA hM; exact bits_and_u64_nat a m ha hm
theorem ones (n : Nat) (hn : n < 18446744073709551616) : bits_OnesCount64.f (n : Int) = some ((Lib.onesCount n : Nat) : Int) := by
  obtain ⟨y1, y2, y3, z1, z2, z3, e1, l1, e2, l2, l3, e3, f1, f2, f3, l4, l5, l6, l7, hz⟩ := Pop.swar n hn
  have s1 : IntKind.u64.wrap ((bits .and .u64 ((n : Int) / 2) 6148914691236517205) + (bits .and .u64 (n : Int) 6148914691236517205)) = (y1 : Int) := by
    rw [and_m ((n : Int) / 2) (n / 2) (by omega) 6148914691236517205 6148914691236517205 (by omega) (by omega) (by omega), and_m (n : Int) n rfl 6148914691236517205 6148914691236517205 (by omega) hn (by omega), ← Int.natCast_add, ← e1]
    exact wr_nat _ l1
  have s2 : IntKind.u64.wrap ((bits .and .u64 ((y1 : Int) / 4) 3689348814741910323) + (bits .and .u64 (y1 : Int) 3689348814741910323)) = (y2 : Int) := by
    rw [and_m ((y1 : Int) / 4) (y1 / 4) (by omega) 3689348814741910323 3689348814741910323 (by omega) (by omega) (by omega), and_m (y1 : Int) y1 rfl 3689348814741910323 3689348814741910323 (by omega) l1 (by omega), ← Int.natCast_add, ← e2]
    exact wr_nat _ l2
  have s3 : bits .and .u64 (IntKind.u64.wrap ((y2 : Int) / 16 + (y2 : Int))) 1085102592571150095 = (y3 : Int) := by
    have h0 : IntKind.u64.wrap ((y2 : Int) / 16 + (y2 : Int)) = ((y2 / 16 + y2 : Nat) : Int) := by
      rw [show (y2 : Int) / 16 + (y2 : Int) = ((y2 / 16 + y2 : Nat) : Int) by omega]; exact wr_nat _ l3
    rw [h0, and_m ((y2 / 16 + y2 : Nat) : Int) (y2 / 16 + y2) rfl 1085102592571150095 1085102592571150095 (by omega) l3 (by omega), ← e3]
  have t1 : IntKind.u64.wrap ((y3 : Int) + (y3 : Int) / 256) = (z1 : Int) := by rw [IntKind.wrap_u64]; omega
  have t2 : IntKind.u64.wrap ((z1 : Int) + (z1 : Int) / 65536) = (z2 : Int) := by rw [IntKind.wrap_u64]; omega
  have t3 : IntKind.u64.wrap ((z2 : Int) + (z2 : Int) / 4294967296) = (z3 : Int) := by rw [IntKind.wrap_u64]; omega
  unfold bits_OnesCount64.f
  rw [s1, s2, s3, t1, t2, t3, w64_nat _ l7, i64_and127]
  clear s1 s2 s3 t1 t2 t3 e1 e2 e3
  have e : (z3 : Int) % 128 = ((z3 % 128 : Nat) : Int) := by omega
  rw [e, hz]
theorem count (n : Nat) (hn : n < 18446744073709551616) : bits_Count.f (n : Int) = some ((Lib.onesCount n : Nat) : Int) := by
  unfold bits_Count.f; rw [ones n hn]; rfl
theorem within (a b : Nat) (ha : a < 18446744073709551616) (hb : b < 18446744073709551616) : bits_Within.f (a : Int) (b : Int) = some (decide (a &&& b = a)) := by
  unfold bits_Within.f
  rw [u64_andNot_nat a b ha hb]
  congr 1
  have : (a &&& (18446744073709551615 - b) = 0) ↔ (a &&& b = a) := by
    have e : 18446744073709551615 - b = 2 ^ 64 - (b + 1) := by omega
    constructor
    · intro h
      apply Nat.eq_of_testBit_eq
      intro i
      have := congrArg (fun x => x.testBit i) h
      simp only [Nat.testBit_and, Nat.zero_testBit] at this ⊢
      rw [e, Nat.testBit_two_pow_sub_succ hb] at this
      by_cases hi : i < 64
      · simp [hi] at this; cases h1 : a.testBit i <;> simp_all
      · have h64 : (2 : Nat) ^ 64 ≤ 2 ^ i := Nat.pow_le_pow_right (by decide) (by omega)
        have : a.testBit i = false := Nat.testBit_lt_two_pow (Nat.lt_of_lt_of_le ha h64)
        simp [this]
    · intro h
      apply Nat.eq_of_testBit_eq
      intro i
      have := congrArg (fun x => x.testBit i) h
      simp only [Nat.testBit_and, Nat.zero_testBit] at this ⊢
      rw [e, Nat.testBit_two_pow_sub_succ hb]
      cases h1 : a.testBit i <;> simp_all
  rw [Bool.eq_iff_iff]
  simp only [beq_iff_eq, decide_eq_true_eq]
  rw [← this]
  omega
theorem pop_incl (f : Nat) : ∀ a b : Nat, Lib.popAux f (a ||| b) + Lib.popAux f (a &&& b) = Lib.popAux f a + Lib.popAux f b := by
  induction f with
  | zero => intros; rfl
  | succ f ih =>
    intro a b
    simp only [Lib.popAux]
    have h := ih (a / 2) (b / 2)
    rw [Nat.or_div_two, Nat.and_div_two]
    have h1 : (a ||| b) % 2 + (a &&& b) % 2 = a % 2 + b % 2 := by
      have e1 : (a ||| b) % 2 = (a % 2) ||| (b % 2) := by
        have := Nat.or_mod_two_pow (a := a) (b := b) (n := 1); simpa using this
      have e2 : (a &&& b) % 2 = (a % 2) &&& (b % 2) := by
        have := Nat.and_mod_two_pow (a := a) (b := b) (n := 1); simpa using this
      rw [e1, e2]
      rcases Nat.mod_two_eq_zero_or_one a with p | p <;> rcases Nat.mod_two_eq_zero_or_one b with q | q <;> simp [p, q]
    omega
theorem begun : withelaw1_begun.f 8 = some true := by decide +kernel
end Go.Proofs.YtpkhcmholpljnabDoor.PureBits
