/-
  The statement WrapRing is proved: numbers that go round (package wrap) are a ring, as the given row says it.
  Conditions: none of ours.
-/
import Derived.Test.YtpkhcmholpljnaaPW5x
namespace Go.Proofs.Ytpkhcmholpljnaa.Pure
open Go.RowKit Go.Proofs.Ytpkhcmholpljnaa.PW5 Go.Proofs.YtpkhcmholpljnaaW.PrintWords Go.Proofs.YtpkhcmholpljnaaW.PrintLast

theorem inn_inn (a n : Int) (h1 : 1 ≤ n) (h2 : n ≤ 65536) : inn a n = a % n := inn_eq a n h1 (by omega)
theorem ring_add (a b n : Int) (h1 : 1 ≤ n) (h2 : n ≤ 65536) : inn (wrap64 (inn a n + inn b n)) n = (a + b) % n := by
  have p0 := inn_lo a n
  have p1 := inn_hi a n
  have q0 := inn_lo b n
  have q1 := inn_hi b n
  rw [show wrap64 (inn a n + inn b n) = inn a n + inn b n by unfold wrap64; omega, inn_inn _ n h1 h2, inn_inn a n h1 h2, inn_inn b n h1 h2, ← Int.add_emod]
theorem ring_sub (a b n : Int) (h1 : 1 ≤ n) (h2 : n ≤ 65536) : inn (wrap64 (inn a n - inn b n)) n = (a - b) % n := by
  have p0 := inn_lo a n
  have p1 := inn_hi a n
  have q0 := inn_lo b n
  have q1 := inn_hi b n
  rw [show wrap64 (inn a n - inn b n) = inn a n - inn b n by unfold wrap64; omega, inn_inn _ n h1 h2, inn_inn a n h1 h2, inn_inn b n h1 h2, ← Int.sub_emod]
theorem ring_mul (a b n : Int) (h1 : 1 ≤ n) (h2 : n ≤ 65536) : inn (wrap64 (inn a n * inn b n)) n = (a * b) % n := by
  have p0 := inn_lo a n
  have p1 := inn_hi a n
  have q0 := inn_lo b n
  have q1 := inn_hi b n
  have h3 : 0 ≤ inn a n * inn b n := Int.mul_nonneg p0 q0
  have h4 : inn a n * inn b n ≤ 2147483648 * 2147483648 := Int.mul_le_mul (by omega) (by omega) q0 (by omega)
  have h5 : wrap64 (inn a n * inn b n) = inn a n * inn b n := by
    generalize inn a n * inn b n = z at *
    unfold wrap64; omega
  rw [h5, inn_inn _ n h1 h2, inn_inn a n h1 h2, inn_inn b n h1 h2, ← Int.mul_emod]
theorem mm (a n : Int) : a % n % n = a % n := Int.emod_emod_of_dvd a (Int.dvd_refl n)

theorem WrapRing : withelaw5_WrapRing.Pure := by
  intro a b c k0 _ _ _ hk
  have rk : 0 ≤ k0 ∧ k0 ≤ 65535 := by
    simp only [Lit.wf, Bool.and_eq_true, decide_eq_true_eq] at hk
    have hmax : IntKind.u16.max = 65535 := rfl
    have hmin : IntKind.u16.min = 0 := rfl
    omega
  have en : wrap64 (wrap64 k0 + 1) = k0 + 1 := by unfold wrap64; omega
  refine ⟨71, ?_⟩
  unfold withelaw5_WrapRing.f
  rw [withelaw5_begun_eq _ (by omega), en]
  obtain ⟨n, hn⟩ : ∃ n, n = k0 + 1 := ⟨_, rfl⟩
  rw [← hn]
  have h1 : 1 ≤ n := by omega
  have h2 : n ≤ 65536 := by omega
  simp only [Option.bind_some, if_true, wrap_In.f, wrap_Add.f, wrap_Sub.f, wrap_Mul.f, withelaw5_WrapRing.j0]
  simp only [ring_add _ _ n h1 h2, ring_sub _ _ n h1 h2, ring_mul _ _ n h1 h2]
  simp only [inn_inn _ n h1 h2]
  have p0 := Int.emod_nonneg (a + b) (show n ≠ 0 by omega)
  have p1 := Int.emod_lt_of_pos (a + b) (show 0 < n by omega)
  rw [if_neg (by omega), if_neg (by omega), Int.add_comm b a, if_pos rfl, Int.mul_comm b a]
  have s1 : ((a + b) % n - b) % n = a % n := by
    rw [Int.sub_emod, mm, ← Int.sub_emod]; congr 1; omega
  have s2 : ((a + b) % n + c) % n = (a + (b + c) % n) % n := by
    rw [Int.add_emod, mm, ← Int.add_emod, Int.add_emod a, mm, ← Int.add_emod, Int.add_assoc]
  have s3 : (a * b) % n * c % n = a * ((b * c) % n) % n := by
    rw [Int.mul_emod, mm, ← Int.mul_emod, Int.mul_emod a, mm, ← Int.mul_emod, Int.mul_assoc]
  have s4 : a * ((b + c) % n) % n = ((a * b) % n + (a * c) % n) % n := by
    rw [Int.mul_emod, mm, ← Int.mul_emod, ← Int.add_emod, Int.mul_add]
  rw [if_pos s1, bne_self_eq_false, if_neg (by decide), if_pos s2, if_pos s3, if_pos s4, if_pos (mm a n)]
  rw [Int.mul_one]
  simp

end Go.Proofs.Ytpkhcmholpljnaa.Pure
