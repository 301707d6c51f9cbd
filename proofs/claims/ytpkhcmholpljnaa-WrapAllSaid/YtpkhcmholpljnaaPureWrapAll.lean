/-
  The statement WrapAll is proved: for all numbers a, b, n the calls of package wrap answer what the document's own functions answer (P5.1, P5.2), as the given row says it.
  Conditions: none of ours.
-/
import Derived.Test.YtpkhcmholpljnaaPW5x
namespace Go.Proofs.Ytpkhcmholpljnaa.Pure
open Go.RowKit Go.Proofs.Ytpkhcmholpljnaa.PW5 Go.Proofs.YtpkhcmholpljnaaW.PrintWords Go.Proofs.YtpkhcmholpljnaaW.PrintLast

theorem mul_all (a b n : Int) : inn (wrap64 (inn a n * inn b n)) n = (if n < 1 then 0 else if 2147483648 < n then 0 else inn a n * inn b n % n) := by
  by_cases h1 : n < 1
  · rw [if_pos h1]; unfold inn; rw [if_pos h1]
  · rw [if_neg h1]
    by_cases h2 : 2147483648 < n
    · rw [if_pos h2]; unfold inn; rw [if_neg h1, if_pos h2]
    · rw [if_neg h2, inn_eq _ n (by omega) (by omega)]
      have p0 := inn_lo a n
      have p1 := inn_hi a n
      have q0 := inn_lo b n
      have q1 := inn_hi b n
      have h3 : 0 ≤ inn a n * inn b n := Int.mul_nonneg p0 q0
      have h4 : inn a n * inn b n ≤ 2147483648 * 2147483648 := Int.mul_le_mul (by omega) (by omega) q0 (by omega)
      have h5 : wrap64 (inn a n * inn b n) = inn a n * inn b n := by
        generalize inn a n * inn b n = z at *
        unfold wrap64; omega
      rw [h5]

theorem WrapAll : withelaw5_WrapAll.Pure := by
  intro a b n _ _ hn
  have rn : n < 9223372036854775808 := by
    simp only [Lit.wf, Bool.and_eq_true, decide_eq_true_eq] at hn
    have h := hn.2
    have hmax : IntKind.i64.max = 9223372036854775807 := rfl
    omega
  refine ⟨n.toNat + 71, ?_⟩
  unfold withelaw5_WrapAll.f
  rw [withelaw5_begun_eq _ (by omega)]
  simp only [Option.bind_some, if_true, witheref5_In.f, wrap_In.f, wrap_Add.f, wrap_Sub.f, wrap_Mul.f, wrap_Plus.f, witheref5_Plus.f, wrap_Times.f, witheref5_Times.f]
  rw [wrap_Power_eq _ _ _ rn (by omega), witheref5_Power_eq _ _ _ rn (by omega), witheref5_Mul_eq _ _ _ _ (by omega), mul_all]
  simp

end Go.Proofs.Ytpkhcmholpljnaa.Pure
