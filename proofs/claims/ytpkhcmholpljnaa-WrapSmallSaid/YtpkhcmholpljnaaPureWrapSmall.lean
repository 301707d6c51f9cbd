/-
  The statement WrapSmall is proved: small numbers are just summed and multiplied by package wrap, and go round by taking away, as the given row says it.
  Conditions: none of ours.
-/
import Derived.Test.YtpkhcmholpljnaaPW5sx
namespace Go.Proofs.Ytpkhcmholpljnaa.Pure
open Go.RowKit Go.Proofs.Ytpkhcmholpljnaa.PW5s Go.Proofs.YtpkhcmholpljnaaW.PrintWords Go.Proofs.YtpkhcmholpljnaaW.PrintLast

theorem sm_add (a b n : Int) (h1 : 1 ≤ n) (h2 : n ≤ 256) : inn (wrap64 (inn a n + inn b n)) n = (a + b) % n := by
  have p0 := inn_lo a n
  have p1 := inn_hi a n
  have q0 := inn_lo b n
  have q1 := inn_hi b n
  rw [show wrap64 (inn a n + inn b n) = inn a n + inn b n by unfold wrap64; omega, inn_eq _ n h1 (by omega), inn_eq a n h1 (by omega), inn_eq b n h1 (by omega), ← Int.add_emod]
theorem sm_sub (a b n : Int) (h1 : 1 ≤ n) (h2 : n ≤ 256) : inn (wrap64 (inn a n - inn b n)) n = (a - b) % n := by
  have p0 := inn_lo a n
  have p1 := inn_hi a n
  have q0 := inn_lo b n
  have q1 := inn_hi b n
  rw [show wrap64 (inn a n - inn b n) = inn a n - inn b n by unfold wrap64; omega, inn_eq _ n h1 (by omega), inn_eq a n h1 (by omega), inn_eq b n h1 (by omega), ← Int.sub_emod]
theorem sm_mul (a b n : Int) (h1 : 1 ≤ n) (h2 : n ≤ 256) : inn (wrap64 (inn a n * inn b n)) n = (a * b) % n := by
  have p0 := inn_lo a n
  have p1 := inn_hi a n
  have q0 := inn_lo b n
  have q1 := inn_hi b n
  have h3 : 0 ≤ inn a n * inn b n := Int.mul_nonneg p0 q0
  have h4 : inn a n * inn b n ≤ 2147483648 * 2147483648 := Int.mul_le_mul (by omega) (by omega) q0 (by omega)
  have h5 : wrap64 (inn a n * inn b n) = inn a n * inn b n := by
    generalize inn a n * inn b n = z at *
    unfold wrap64; omega
  rw [h5, inn_eq _ n h1 (by omega), inn_eq a n h1 (by omega), inn_eq b n h1 (by omega), ← Int.mul_emod]
theorem held_small (a : Int) (h0 : 0 ≤ a) (h1 : a ≤ 32768) : held a = a := by unfold held; rw [if_neg (by omega), if_neg (by omega)]

theorem small_loop (n x y : Int) (h1 : 1 ≤ n) (h2 : n ≤ 256) (hx : -32768 ≤ x ∧ x ≤ 32767) (hy : -32768 ≤ y ∧ y ≤ 32767) (d : Nat) : ∀ (k : Nat) (s : Int), s % n = (x + y) % n → -(d : Int) ≤ s → -65536 ≤ s → s ≤ 2000000 → d < k →
    withelaw5_WrapSmall.l0 k n x y s = some true := by
  induction d with
  | zero =>
    intro k s hs h0 hlo hhi hk
    obtain ⟨k, rfl⟩ : ∃ m, k = m + 1 := ⟨k - 1, by omega⟩
    simp only [withelaw5_WrapSmall.l0, wrap_Add.f, wrap_Sub.f, wrap_Mul.f, wrap_Plus.f, wrap_Times.f, Option.bind_some]
    simp only [sm_add _ _ n h1 h2, sm_sub _ _ n h1 h2, sm_mul _ _ n h1 h2]
    have e1 : Int.tmod s n = s % n := Int.tmod_eq_emod_of_nonneg (by omega)
    have e2 : wrap64 (-y) = -y := by unfold wrap64; omega
    have e3 : wrap64 (x + y) = x + y := by unfold wrap64; omega
    rw [if_neg (by omega), if_neg (by omega), e1, if_pos hs.symm, e2, Int.sub_eq_add_neg, if_pos rfl, e3]
    by_cases hx0 : x < 0
    · rw [if_pos hx0]
    · rw [if_neg hx0]
      by_cases hy0 : y < 0
      · rw [if_pos hy0]
      · rw [if_neg hy0]
        have b0 : 0 ≤ x * y := Int.mul_nonneg (by omega) (by omega)
        have b1 : x * y ≤ 32768 * 32768 := Int.mul_le_mul (by omega) (by omega) (by omega) (by omega)
        have e4 : wrap64 (x * y) = x * y := by
          generalize x * y = z at *
          unfold wrap64; omega
        have e5 : plusS x y = x + y := by
          unfold plusS; rw [held_small x (by omega) (by omega), held_small y (by omega) (by omega), if_neg (by omega)]
        have e6 : timesS x y = x * y := by
          unfold timesS; rw [held_small x (by omega) (by omega), held_small y (by omega) (by omega)]
          generalize x * y = z at *
          rw [if_neg (by omega)]
        rw [e5, if_pos rfl, e4, e6, if_pos rfl, Int.tmod_eq_emod_of_nonneg b0, beq_self_eq_true]
  | succ d ih =>
    intro k s hs h0 hlo hhi hk
    by_cases hs0 : s < 0
    · obtain ⟨k, rfl⟩ : ∃ m, k = m + 1 := ⟨k - 1, by omega⟩
      simp only [withelaw5_WrapSmall.l0]
      have e1 : wrap64 (n * 1024) = n * 1024 := by unfold wrap64; omega
      have e2 : wrap64 (s + n * 1024) = s + n * 1024 := by unfold wrap64; omega
      rw [if_pos hs0, e1, e2]
      exact ih k _ (by rw [Int.add_mul_emod_self_left]; exact hs) (by omega) (by omega) (by omega) (by omega)
    · have hz := ih k s hs
      have : -(d : Int) ≤ s := by omega
      exact hz this hlo hhi (by omega)

theorem WrapSmall : withelaw5_WrapSmall.Pure := by
  intro a b c ha hb hc
  have ra : -32768 ≤ a ∧ a ≤ 32767 := by
    simp only [Lit.wf, Bool.and_eq_true, decide_eq_true_eq] at ha
    have hmax : IntKind.i16.max = 32767 := rfl
    have hmin : IntKind.i16.min = -32768 := rfl
    omega
  have rb : -32768 ≤ b ∧ b ≤ 32767 := by
    simp only [Lit.wf, Bool.and_eq_true, decide_eq_true_eq] at hb
    have hmax : IntKind.i16.max = 32767 := rfl
    have hmin : IntKind.i16.min = -32768 := rfl
    omega
  have rc : 0 ≤ c ∧ c ≤ 255 := by
    simp only [Lit.wf, Bool.and_eq_true, decide_eq_true_eq] at hc
    have hmax : IntKind.u8.max = 255 := rfl
    have hmin : IntKind.u8.min = 0 := rfl
    omega
  refine ⟨70000, ?_⟩
  unfold withelaw5_WrapSmall.f
  rw [withelaw5_begun_eq _ (by omega)]
  have e1 : wrap64 (wrap64 c + 1) = c + 1 := by unfold wrap64; omega
  have e2 : wrap64 a = a := by unfold wrap64; omega
  have e3 : wrap64 b = b := by unfold wrap64; omega
  have e4 : wrap64 (a + b) = a + b := by unfold wrap64; omega
  simp only [Option.bind_some, if_true, e1, e2, e3, e4]
  exact small_loop (c + 1) a b (by omega) (by omega) ra rb 65536 70000 (a + b) rfl (by omega) (by omega) (by omega) (by omega)

end Go.Proofs.Ytpkhcmholpljnaa.Pure
