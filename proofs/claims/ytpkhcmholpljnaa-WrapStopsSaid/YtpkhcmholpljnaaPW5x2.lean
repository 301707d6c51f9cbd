-- Printed by this claim's own program (wip/tools/xprint.py) over the kit's printer.
import Derived.Test.YtpkhcmholpljnaaPW5x0
import Derived.Test.YtpkhcmholpljnaaPW5x1
namespace Go.Proofs.Ytpkhcmholpljnaa.PW5
open Go.RowKit Go.Proofs.YtpkhcmholpljnaaW.PrintWords Go.Proofs.YtpkhcmholpljnaaW.PrintLast Go.Proofs.YtpkhcmholpljnaaW.PrintMore
attribute [local go_sem] max2_int min2_int max_two min_two max_three min_three max_four min_four   -- for this text's walks alone
set_option linter.unusedVariables false
set_option linter.unusedSimpArgs false

/-! ### witheref5_Mul: function 15 -/
mutual
def witheref5_Mul.j0 : Nat → Int → Int → Int → Bool → Option (Int)
  | 0, _, _, _, _ => none
  | k + 1, x0, x1, x2, x16 => if x16 = true then (some 0) else ((witheref5_In.f x0 x2).bind fun t112 => ((witheref5_In.f x1 x2).bind fun t113 => (witheref5_Mul.l0 k x2 t112 t113 0 0)))
def witheref5_Mul.l0 : Nat → Int → Int → Int → Int → Int → Option (Int)
  | 0, _, _, _, _, _ => none
  | k + 1, x2, x7, x8, x9, x10 => if x10 < 32 then (if (Int.tmod x8 2) = 1 then ((witheref5_In.f (wrap64 (x9 + x7)) x2).bind fun t114 => ((witheref5_In.f (wrap64 (x7 + x7)) x2).bind fun t115 => (witheref5_Mul.l0 k x2 t115 (wrap64 (Int.tdiv x8 2)) t114 (wrap64 (x10 + 1))))) else ((witheref5_In.f (wrap64 (x7 + x7)) x2).bind fun t116 => (witheref5_Mul.l0 k x2 t116 (wrap64 (Int.tdiv x8 2)) x9 (wrap64 (x10 + 1))))) else (some x9)
end
def witheref5_Mul.f (k : Nat) (a0 : Int) (a1 : Int) (a2 : Int) : Option (Int) := if a2 < 1 then (witheref5_Mul.j0 k a0 a1 a2 true) else (witheref5_Mul.j0 k a0 a1 a2 (decide (a2 > 2147483648)))
theorem witheref5_Mul.mono_l : ∀ k, (∀ y0 y1 y2 y3, LeO (witheref5_Mul.j0 k y0 y1 y2 y3) (witheref5_Mul.j0 (k + 1) y0 y1 y2 y3)) ∧ (∀ y0 y1 y2 y3 y4, LeO (witheref5_Mul.l0 k y0 y1 y2 y3 y4) (witheref5_Mul.l0 (k + 1) y0 y1 y2 y3 y4))
  | 0 => ⟨fun _ _ _ _ r h => by simp [witheref5_Mul.j0] at h, fun _ _ _ _ _ r h => by simp [witheref5_Mul.l0] at h⟩
  | k + 1 => by
    obtain ⟨ih0, ih1⟩ := witheref5_Mul.mono_l k
    refine ⟨?_, ?_⟩
    · intro y0 y1 y2 y3
      unfold witheref5_Mul.j0
      repeat' first
      | (with_reducible exact ih0 _ _ _ _)
      | (with_reducible exact ih1 _ _ _ _ _)
      | (with_reducible exact LeO.refl _)
      | (with_reducible exact LeO.none _)
      | (with_reducible refine LeO.ite ?_ ?_)
      | (with_reducible refine LeO.bind ?_ (fun _ => ?_))
      | exact ih0 _ _ _ _
      | exact ih1 _ _ _ _ _
      | exact LeO.none _
      | refine LeO.ite ?_ ?_
      | refine LeO.bind ?_ (fun _ => ?_)
    · intro y0 y1 y2 y3 y4
      unfold witheref5_Mul.l0
      repeat' first
      | (with_reducible exact ih0 _ _ _ _)
      | (with_reducible exact ih1 _ _ _ _ _)
      | (with_reducible exact LeO.refl _)
      | (with_reducible exact LeO.none _)
      | (with_reducible refine LeO.ite ?_ ?_)
      | (with_reducible refine LeO.bind ?_ (fun _ => ?_))
      | exact ih0 _ _ _ _
      | exact ih1 _ _ _ _ _
      | exact LeO.none _
      | refine LeO.ite ?_ ?_
      | refine LeO.bind ?_ (fun _ => ?_)
theorem witheref5_Mul.mono : ∀ a0 a1 a2 k, LeO (witheref5_Mul.f k a0 a1 a2) (witheref5_Mul.f (k + 1) a0 a1 a2) := by
  intro a0 a1 a2 k
  obtain ⟨ih0, ih1⟩ := witheref5_Mul.mono_l k
  unfold witheref5_Mul.f
  repeat' first
      | (with_reducible exact ih0 _ _ _ _)
      | (with_reducible exact ih1 _ _ _ _ _)
      | (with_reducible exact LeO.refl _)
      | (with_reducible exact LeO.none _)
      | (with_reducible refine LeO.ite ?_ ?_)
      | (with_reducible refine LeO.bind ?_ (fun _ => ?_))
      | exact ih0 _ _ _ _
      | exact ih1 _ _ _ _ _
      | exact LeO.none _
      | refine LeO.ite ?_ ?_
      | refine LeO.bind ?_ (fun _ => ?_)
set_option maxHeartbeats 8000000 in
set_option maxRecDepth 100000 in
theorem witheref5_Mul.calls (k : Nat) (a0 : Int) (a1 : Int) (a2 : Int) (r : Int) (w : World) (h : witheref5_Mul.f k a0 a1 a2 = some r) :
    Calls Try.prog 15 #[.int .i64 a0, .int .i64 a1, .int .i64 a2] w fun e w' => e = .returned (.int .i64 r) ∧ Drawn0 w w' := by
  have H : (if a2 < 1 then (witheref5_Mul.j0 k a0 a1 a2 true) else (witheref5_Mul.j0 k a0 a1 a2 (decide (a2 > 2147483648)))) = some r := h
  clear h
  have HC4 := Aside0.mk H
  clear H
  go_enter Try.func15, Try.ntmps15
  go_upto_region 1 with (fail)
  go_cut [16] (fun v16 wc => ∃ (kq : Nat) (x16_3 : Bool), v16 = .bool x16_3 ∧ Aside0 (witheref5_Mul.j0 kq a0 a1 a2 x16_3 = some r) ∧ Aside0 (kq ≤ k) ∧ Drawn0 w wc)
  case first =>
    have H := HC4.out
    clear HC4
    by_cases c5 : a2 < 1
    · rw [if_pos c5] at H
      have c5b0 : decide (a2 < 1) = true := decide_eq_true c5
      clear c5
      (first | rw [c5b0] | (simp only [i64_w, i32_w]; rw [c5b0]) | skip)
      have H' := Aside0.mk H
      clear H
      go_wp2
      go_meet
      case rel => exact ⟨_, (true), (by first | rfl | (simp; done) | (simp [*]; done)), H', ⟨by first | omega | exact Nat.le_refl _⟩, by repeat (first | exact Drawn0.refl _ | apply Drawn0.step)⟩
    · rw [if_neg c5] at H
      have c5b0 : decide (a2 < 1) = false := decide_eq_false c5
      clear c5
      (first | rw [c5b0] | (simp only [i64_w, i32_w]; rw [c5b0]) | skip)
      have H' := Aside0.mk H
      clear H
      go_wp2
      go_meet
      case rel => exact ⟨_, (decide (a2 > 2147483648)), (by first | rfl | (simp; done) | (simp [*]; done)), H', ⟨by first | omega | exact Nat.le_refl _⟩, by repeat (first | exact Drawn0.refl _ | apply Drawn0.step)⟩
  case rest =>
    clear HC4
    try clear c1
    try clear p2
    try clear c5
    try clear c5b0
    obtain ⟨kq, x16_3, rfl, HA, HJ3, ⟨mc3, rfl⟩⟩ := hcut
    cases kq with
    | zero => exact absurd HA.out (by simp [witheref5_Mul.j0])
    | succ kj3 =>
      have H := HA.out
      clear HA
      simp only [witheref5_Mul.j0] at H
      by_cases c6 : x16_3 = true
      · subst c6
        have H1 : (some 0) = some r := by rw [if_pos rfl] at H; exact H
        clear H
        have H := H1
        clear H1
        obtain rfl := Option.some.inj H
        go_wp2
        go_ret
        exact ⟨by first | rfl | (simp; done) | (simp [*]; done), by repeat (first | exact Drawn0.refl _ | apply Drawn0.step)⟩
      · replace c6 := Bool.eq_false_iff.mpr c6
        subst c6
        have H1 : ((witheref5_In.f a0 a2).bind fun t112 => ((witheref5_In.f a1 a2).bind fun t113 => (witheref5_Mul.l0 kj3 a2 t112 t113 0 0))) = some r := by rw [if_neg (show ¬ (false = true) by decide)] at H; exact H
        clear H
        have H := H1
        clear H1
        replace H := Option.bind_eq_some_iff.mp H
        obtain ⟨t112, A70, H⟩ := H
        replace H : ((witheref5_In.f a1 a2).bind fun t113 => (witheref5_Mul.l0 kj3 a2 t112 t113 0 0)) = some r := H
        have A7 := Aside0.mk A70
        clear A70
        replace H := Option.bind_eq_some_iff.mp H
        obtain ⟨t113, A80, H⟩ := H
        replace H : (witheref5_Mul.l0 kj3 a2 t112 t113 0 0) = some r := H
        have A8 := Aside0.mk A80
        clear A80
        have H' := Aside0.mk H
        clear H
        go_wp2_with (first | ((with_reducible refine gate_callee (f := 10) rfl ?_); refine goesL_ (some 19) rfl rfl Try.func10 (by kernel_rfl) rfl #[.int .i64 a0, .int .i64 a2] rfl (by (try simp only [List.map_toArray, List.map_cons, List.map_nil]); first | done | rfl | (simp only [List.length_drop, List.length_take]; rfl)) ?_; (with_reducible refine (witheref5_In.calls a0 a2 t112 _ A7.out).mono ?_); rintro e w' ⟨rfl, ⟨nd, rfl⟩⟩; refine ⟨_, rfl, ?_⟩) | ((with_reducible refine gate_callee (f := 10) rfl ?_); refine goesL_ (some 22) rfl rfl Try.func10 (by kernel_rfl) rfl #[.int .i64 a1, .int .i64 a2] rfl (by (try simp only [List.map_toArray, List.map_cons, List.map_nil]); first | done | rfl | (simp only [List.length_drop, List.length_take]; rfl)) ?_; (with_reducible refine (witheref5_In.calls a1 a2 t113 _ A8.out).mono ?_); rintro e w' ⟨rfl, ⟨nd, rfl⟩⟩; refine ⟨_, rfl, ?_⟩))
        go_loopg [7, 8, 9, 10] kj3 (fun kq v7 v8 v9 v10 w' => ∃ (x7_2 : Int) (x8_2 : Int) (x9_2 : Int) (x10_2 : Int), v7 = .int .i64 x7_2 ∧ v8 = .int .i64 x8_2 ∧ v9 = .int .i64 x9_2 ∧ v10 = .int .i64 x10_2 ∧ Aside0 (witheref5_Mul.l0 kq a2 x7_2 x8_2 x9_2 x10_2 = some r) ∧ Aside0 (kq ≤ kj3) ∧ Drawn0 w w')
        case atStart => exact ⟨(t112), (t113), (0), (0), (by first | rfl | (simp; done) | (simp [*]; done)), (by first | rfl | (simp; done) | (simp [*]; done)), (by first | rfl | (simp; done) | (simp [*]; done)), (by first | rfl | (simp; done) | (simp [*]; done)), H', ⟨Nat.le_refl _⟩, by repeat (first | exact Drawn0.refl _ | apply Drawn0.step)⟩
        case round =>
          clear H'
          try clear c1
          try clear p2
          try clear c3
          try clear c5
          try clear c5b0
          try clear c6
          try clear p2
          obtain ⟨x7_2, x8_2, x9_2, x10_2, rfl, rfl, rfl, rfl, HA, HK2, ⟨m2, rfl⟩⟩ := hrel
          cases gk with
          | zero => exact absurd HA.out (by simp [witheref5_Mul.l0])
          | succ k2 =>
            have H := HA.out
            clear HA
            simp only [witheref5_Mul.l0] at H
            by_cases c9 : x10_2 < 32
            · rw [if_pos c9] at H
              have c9b0 : decide (x10_2 < 32) = true := decide_eq_true c9
              clear c9
              by_cases c10 : (Int.tmod x8_2 2) = 1
              · rw [if_pos c10] at H
                have c10b0 : ((Int.tmod x8_2 2) == 1) = true := beq_iff_eq.mpr c10
                have c10b1 : ((Int.tmod x8_2 2) != 1) = false := bne_eq_false_iff_eq.mpr c10
                clear c10
                replace H := Option.bind_eq_some_iff.mp H
                obtain ⟨t114, A110, H⟩ := H
                replace H : ((witheref5_In.f (wrap64 (x7_2 + x7_2)) a2).bind fun t115 => (witheref5_Mul.l0 k2 a2 t115 (wrap64 (Int.tdiv x8_2 2)) t114 (wrap64 (x10_2 + 1)))) = some r := H
                have A11 := Aside0.mk A110
                clear A110
                replace H := Option.bind_eq_some_iff.mp H
                obtain ⟨t115, A120, H⟩ := H
                replace H : (witheref5_Mul.l0 k2 a2 t115 (wrap64 (Int.tdiv x8_2 2)) t114 (wrap64 (x10_2 + 1))) = some r := H
                have A12 := Aside0.mk A120
                clear A120
                have H' := Aside0.mk H
                clear H
                go_wp2_with (first | ((with_reducible refine gate_callee (f := 10) rfl ?_); refine goesL_ (some 34) rfl rfl Try.func10 (by kernel_rfl) rfl #[.int .i64 (wrap64 (x9_2 + x7_2)), .int .i64 a2] rfl (by (try simp only [List.map_toArray, List.map_cons, List.map_nil]); first | done | rfl | (simp only [List.length_drop, List.length_take]; rfl)) ?_; (with_reducible refine (witheref5_In.calls (wrap64 (x9_2 + x7_2)) a2 t114 _ A11.out).mono ?_); rintro e w' ⟨rfl, ⟨nd, rfl⟩⟩; refine ⟨_, rfl, ?_⟩) | ((with_reducible refine gate_callee (f := 10) rfl ?_); refine goesL_ (some 39) rfl rfl Try.func10 (by kernel_rfl) rfl #[.int .i64 (wrap64 (x7_2 + x7_2)), .int .i64 a2] rfl (by (try simp only [List.map_toArray, List.map_cons, List.map_nil]); first | done | rfl | (simp only [List.length_drop, List.length_take]; rfl)) ?_; (with_reducible refine (witheref5_In.calls (wrap64 (x7_2 + x7_2)) a2 t115 _ A12.out).mono ?_); rintro e w' ⟨rfl, ⟨nd, rfl⟩⟩; refine ⟨_, rfl, ?_⟩))
                go_roundg k2
                case measure => have := HJ3.out; have := HK2.out; omega
                case rel => exact ⟨(t115), (wrap64 (Int.tdiv x8_2 2)), (t114), (wrap64 (x10_2 + 1)), (by first | rfl | (simp; done) | (simp [*]; done)), (by first | rfl | (simp; done) | (simp [*]; done)), (by first | rfl | (simp; done) | (simp [*]; done)), (by first | rfl | (simp; done) | (simp [*]; done)), H', ⟨by have := HJ3.out; have := HK2.out; omega⟩, by repeat (first | exact Drawn0.refl _ | apply Drawn0.step)⟩
              · rw [if_neg c10] at H
                have c10b0 : ((Int.tmod x8_2 2) == 1) = false := beq_eq_false_iff_ne.mpr c10
                have c10b1 : ((Int.tmod x8_2 2) != 1) = true := bne_iff_ne.mpr c10
                replace H := Option.bind_eq_some_iff.mp H
                obtain ⟨t116, A130, H⟩ := H
                replace H : (witheref5_Mul.l0 k2 a2 t116 (wrap64 (Int.tdiv x8_2 2)) x9_2 (wrap64 (x10_2 + 1))) = some r := H
                have A13 := Aside0.mk A130
                clear A130
                have H' := Aside0.mk H
                clear H
                go_wp2_with (first | ((with_reducible refine gate_callee (f := 10) rfl ?_); refine goesL_ (some 39) rfl rfl Try.func10 (by kernel_rfl) rfl #[.int .i64 (wrap64 (x7_2 + x7_2)), .int .i64 a2] rfl (by (try simp only [List.map_toArray, List.map_cons, List.map_nil]); first | done | rfl | (simp only [List.length_drop, List.length_take]; rfl)) ?_; (with_reducible refine (witheref5_In.calls (wrap64 (x7_2 + x7_2)) a2 t116 _ A13.out).mono ?_); rintro e w' ⟨rfl, ⟨nd, rfl⟩⟩; refine ⟨_, rfl, ?_⟩))
                go_roundg k2
                case measure => have := HJ3.out; have := HK2.out; omega
                case rel => exact ⟨(t116), (wrap64 (Int.tdiv x8_2 2)), (x9_2), (wrap64 (x10_2 + 1)), (by first | rfl | (simp; done) | (simp [*]; done)), (by first | rfl | (simp; done) | (simp [*]; done)), (by first | rfl | (simp; done) | (simp [*]; done)), (by first | rfl | (simp; done) | (simp [*]; done)), H', ⟨by have := HJ3.out; have := HK2.out; omega⟩, by repeat (first | exact Drawn0.refl _ | apply Drawn0.step)⟩
            · rw [if_neg c9] at H
              have c9b0 : decide (x10_2 < 32) = false := decide_eq_false c9
              clear c9
              obtain rfl := Option.some.inj H
              go_wp2
              go_ret
              exact ⟨by first | rfl | (simp; done) | (simp [*]; done), by repeat (first | exact Drawn0.refl _ | apply Drawn0.step)⟩
theorem witheref5_Mul_l0 (n : Int) (hn : 1 ≤ n) (hn2 : n ≤ 2147483648) (d : Nat) : ∀ (k i : Nat) (x y out : Int), 32 - i = d → i ≤ 32 → d < k →
    0 ≤ x → x < n → 0 ≤ y → y < 2 ^ d → 0 ≤ out → out < n → witheref5_Mul.l0 k n x y out i = some ((out + x * y) % n) := by
  induction d with
  | zero =>
    intro k i x y out hd hi hk hx0 hx1 hy0 hy1 ho0 ho1
    obtain ⟨k, rfl⟩ : ∃ m, k = m + 1 := ⟨k - 1, by omega⟩
    simp only [witheref5_Mul.l0]; rw [if_neg (by omega)]
    have : y = 0 := by omega
    rw [this, Int.mul_zero, Int.add_zero, Int.emod_eq_of_lt ho0 ho1]
  | succ d ih =>
    intro k i x y out hd hi hk hx0 hx1 hy0 hy1 ho0 ho1
    obtain ⟨k, rfl⟩ : ∃ m, k = m + 1 := ⟨k - 1, by omega⟩
    simp only [witheref5_Mul.l0]; rw [if_pos (by omega)]
    have e2 : wrap64 ((i : Int) + 1) = ((i + 1 : Nat) : Int) := by unfold wrap64; omega
    have hpow : (2 : Int) ^ (d + 1) = 2 * 2 ^ d := by rw [Int.pow_succ, Int.mul_comm]
    have hbig : (2 : Int) ^ d ≤ 4294967296 := by
      have h := Nat.pow_le_pow_right (show 0 < 2 by omega) (show d ≤ 32 by omega)
      have e : ((2 ^ d : Nat) : Int) = (2 : Int) ^ d := by simp
      omega
    have hy2 : y.tdiv 2 = y / 2 := Int.tdiv_eq_ediv_of_nonneg hy0
    have hym : y.tmod 2 = y % 2 := Int.tmod_eq_emod_of_nonneg hy0
    have ew : wrap64 (y.tdiv 2) = y / 2 := by rw [hy2]; unfold wrap64; omega
    have ex : wrap64 (x + x) = x + x := by unfold wrap64; omega
    have eo : wrap64 (out + x) = out + x := by unfold wrap64; omega
    simp only [witheref5_In.f, Option.bind_some]
    rw [hym, ew, e2, ex, eo, inn_eq _ _ hn hn2, inn_eq _ _ hn hn2]
    have hxx0 := Int.emod_nonneg (x + x) (show n ≠ 0 by omega)
    have hxx1 := Int.emod_lt_of_pos (x + x) (show 0 < n by omega)
    have hox0 := Int.emod_nonneg (out + x) (show n ≠ 0 by omega)
    have hox1 := Int.emod_lt_of_pos (out + x) (show 0 < n by omega)
    have hm : ∀ o : Int, (o + (x + x) % n * (y / 2)) % n = (o + (x + x) * (y / 2)) % n := fun o => by
      rw [Int.add_emod, Int.mul_emod, Int.emod_emod_of_dvd _ (Int.dvd_refl n), ← Int.mul_emod, ← Int.add_emod]
    by_cases hp : y % 2 = 1
    · rw [if_pos hp, ih k (i + 1) _ _ _ (by omega) (by omega) (by omega) hxx0 hxx1 (by omega) (by omega) hox0 hox1, hm]
      congr 1
      rw [Int.add_emod, Int.emod_emod_of_dvd _ (Int.dvd_refl n), ← Int.add_emod]
      congr 1
      have hy3 : y = 2 * (y / 2) + 1 := by omega
      conv => rhs; rw [hy3]
      generalize y / 2 = q
      rw [Int.mul_add, Int.mul_one, Int.add_mul, ← Int.mul_assoc, Int.mul_comm x 2, Int.two_mul, Int.add_mul]
      omega
    · rw [if_neg hp, ih k (i + 1) _ _ _ (by omega) (by omega) (by omega) hxx0 hxx1 (by omega) (by omega) ho0 ho1, hm]
      congr 2
      have hy3 : y = 2 * (y / 2) := by omega
      conv => rhs; rw [hy3]
      rw [← Int.mul_assoc, Int.mul_comm x 2, Int.two_mul]
theorem witheref5_Mul_eq (k : Nat) (a b n : Int) (hk : 40 ≤ k) : witheref5_Mul.f k a b n = some (if n < 1 then 0 else if 2147483648 < n then 0 else inn a n * inn b n % n) := by
  obtain ⟨k, rfl⟩ : ∃ m, k = m + 1 := ⟨k - 1, by omega⟩
  unfold witheref5_Mul.f
  by_cases h1 : n < 1
  · rw [if_pos h1, if_pos h1]; simp only [witheref5_Mul.j0]; rfl
  · rw [if_neg h1, if_neg h1]
    by_cases h2 : 2147483648 < n
    · rw [if_pos h2]; simp only [witheref5_Mul.j0]; rw [if_pos (decide_eq_true h2)]
    · rw [if_neg h2]
      simp only [witheref5_Mul.j0]; rw [if_neg (by simpa using h2)]
      simp only [witheref5_In.f, Option.bind_some]
      have h := witheref5_Mul_l0 n (by omega) (by omega) 32 k 0 (inn a n) (inn b n) 0 (by omega) (by omega) (by omega) (inn_lo _ _) (inn_lt _ _ (by omega)) (inn_lo _ _) (by have := inn_hi b n; omega) (by omega) (by omega)
      rw [Int.zero_add] at h
      exact h

/-! ### witheref5_At: function 35 -/
def witheref5_At.f (a0 : Int) : Option Int := some (held a0)
theorem witheref5_At.calls (a0 : Int) (r : Int) (w : World) (h : witheref5_At.f a0 = some r) :
    Calls Try.prog 35 #[.int .i64 a0] w fun e w' => e = .returned (.int .i64 r) ∧ Drawn0 w w' := by
  obtain rfl := Option.some.inj h
  clear h
  by_cases h0 : a0 = 0
  · subst h0
    have e : held 0 = 0 := rfl
    rw [e]
    clear e
    go_enter Try.func35, Try.ntmps35
    go_wp2
    go_ret
    exact ⟨by rfl, by repeat (first | exact Drawn0.refl _ | apply Drawn0.step)⟩
  · by_cases h1 : a0 < 0
    · have e : held a0 = 0 := by unfold held; split <;> (try split) <;> omega
      rw [e]
      clear e
      have h2 : ¬ 0 < a0 := by omega
      have h3 : ¬ 4611686018427387904 < a0 := by omega
      go_enter Try.func35, Try.ntmps35
      go_wp2
      go_ret
      exact ⟨by first | rfl | (simp; omega), by repeat (first | exact Drawn0.refl _ | apply Drawn0.step)⟩
    · have h5 : 0 < a0 := by omega
      have h6 : ¬ a0 < 0 := h1
      by_cases h2 : 4611686018427387904 < a0
      · have e : held a0 = 4611686018427387904 := by unfold held; rw [if_neg (by omega), if_pos h2]
        rw [e]
        clear e
        go_enter Try.func35, Try.ntmps35
        go_wp2
        go_ret
        exact ⟨by first | rfl | (simp [h2]), by repeat (first | exact Drawn0.refl _ | apply Drawn0.step)⟩
      · have e : held a0 = a0 := by unfold held; rw [if_neg (by omega), if_neg h2]
        rw [e]
        clear e
        go_enter Try.func35, Try.ntmps35
        go_wp2
        go_ret
        exact ⟨by first | rfl | (simp; omega), by repeat (first | exact Drawn0.refl _ | apply Drawn0.step)⟩

/-! ### witheref5_Plus: function 17 -/
def witheref5_Plus.f (a0 a1 : Int) : Option Int := some (plusS a0 a1)
theorem witheref5_Plus.calls (a0 : Int) (a1 : Int) (r : Int) (w : World) (h : witheref5_Plus.f a0 a1 = some r) :
    Calls Try.prog 17 #[.int .i64 a0, .int .i64 a1] w fun e w' => e = .returned (.int .i64 r) ∧ Drawn0 w w' := by
  obtain rfl := Option.some.inj h
  clear h
  have p0 := held_lo a0
  have p1 := held_hi a0
  have p2 := held_lo a1
  have p3 := held_hi a1
  by_cases h1 : 4611686018427387904 < held a0 + held a1
  · have e : plusS a0 a1 = 4611686018427387904 := by unfold plusS; rw [if_pos h1]
    rw [e]
    clear e
    have h2 : decide (4611686018427387904 - held a1 < held a0) = true := decide_eq_true (by omega)
    go_enter Try.func17, Try.ntmps17
    go_wp2_with (first | (go_at_call 35; (with_reducible refine (witheref5_At.calls a0 _ _ rfl).mono ?_); rintro e w' ⟨rfl, ⟨nd, rfl⟩⟩) | (go_at_call 35; (with_reducible refine (witheref5_At.calls a1 _ _ rfl).mono ?_); rintro e w' ⟨rfl, ⟨nd, rfl⟩⟩) | go_in)
    go_ret
    exact ⟨by first | rfl | (simp only [i64_w]; rfl), by repeat (first | exact Drawn0.refl _ | apply Drawn0.step)⟩
  · have e : plusS a0 a1 = held a0 + held a1 := by unfold plusS; rw [if_neg h1]
    rw [e]
    clear e
    have h2 : decide (4611686018427387904 - held a1 < held a0) = false := decide_eq_false (by omega)
    go_enter Try.func17, Try.ntmps17
    go_wp2_with (first | (go_at_call 35; (with_reducible refine (witheref5_At.calls a0 _ _ rfl).mono ?_); rintro e w' ⟨rfl, ⟨nd, rfl⟩⟩) | (go_at_call 35; (with_reducible refine (witheref5_At.calls a1 _ _ rfl).mono ?_); rintro e w' ⟨rfl, ⟨nd, rfl⟩⟩) | go_in)
    go_ret
    exact ⟨by first | rfl | (simp only [i64_w]; rfl), by repeat (first | exact Drawn0.refl _ | apply Drawn0.step)⟩

/-! ### witheref5_Times: function 19 -/
def witheref5_Times.f (a0 a1 : Int) : Option Int := some (timesS a0 a1)
theorem witheref5_Times.calls (a0 : Int) (a1 : Int) (r : Int) (w : World) (h : witheref5_Times.f a0 a1 = some r) :
    Calls Try.prog 19 #[.int .i64 a0, .int .i64 a1] w fun e w' => e = .returned (.int .i64 r) ∧ Drawn0 w w' := by
  obtain rfl := Option.some.inj h
  clear h
  have p0 := held_lo a0
  have p1 := held_hi a0
  have p2 := held_lo a1
  have p3 := held_hi a1
  by_cases h0 : held a0 = 0
  · have E := Aside0.mk (show timesS a0 a1 = 0 by unfold timesS; rw [h0]; simp)
    rw [E.out]
    have c0 : (held a0 == 0) = true := beq_iff_eq.mpr h0
    clear h0
    go_enter Try.func19, Try.ntmps19
    go_wp2_with (first | (go_at_call 35; (with_reducible refine (witheref5_At.calls a0 _ _ rfl).mono ?_); rintro e w' ⟨rfl, ⟨nd, rfl⟩⟩) | (go_at_call 35; (with_reducible refine (witheref5_At.calls a1 _ _ rfl).mono ?_); rintro e w' ⟨rfl, ⟨nd, rfl⟩⟩) | go_in)
    go_ret
    exact ⟨by first | rfl | (simp only [i64_w]; rfl), by repeat (first | exact Drawn0.refl _ | apply Drawn0.step)⟩
  · have c0 : (held a0 == 0) = false := beq_eq_false_iff_ne.mpr h0
    have p4 : 0 < held a0 := by omega
    clear h0
    by_cases h0 : held a1 = 0
    · have E := Aside0.mk (show timesS a0 a1 = 0 by unfold timesS; rw [h0]; simp)
      rw [E.out]
      have c1 : (held a1 == 0) = true := beq_iff_eq.mpr h0
      clear h0
      go_enter Try.func19, Try.ntmps19
      go_wp2_with (first | (go_at_call 35; (with_reducible refine (witheref5_At.calls a0 _ _ rfl).mono ?_); rintro e w' ⟨rfl, ⟨nd, rfl⟩⟩) | (go_at_call 35; (with_reducible refine (witheref5_At.calls a1 _ _ rfl).mono ?_); rintro e w' ⟨rfl, ⟨nd, rfl⟩⟩) | go_in)
      go_ret
      exact ⟨by first | rfl | (simp only [i64_w]; rfl), by repeat (first | exact Drawn0.refl _ | apply Drawn0.step)⟩
    · have c1 : (held a1 == 0) = false := beq_eq_false_iff_ne.mpr h0
      have p5 : 0 < held a1 := by omega
      clear h0
      have h9 := times_ways a1 a0 p5
      have ec : timesS a1 a0 = timesS a0 a1 := by unfold timesS; rw [Int.mul_comm]
      rw [ec, Int.mul_comm] at h9
      have d0 : 0 ≤ 4611686018427387904 / held a1 := Int.ediv_nonneg (by omega) (by omega)
      have d1 : 4611686018427387904 / held a1 ≤ 4611686018427387904 := Int.ediv_le_self _ (by omega)
      clear ec
      by_cases h1 : 4611686018427387904 / held a1 < held a0
      · have E := Aside0.mk (h9.1 h1)
        clear h9
        rw [E.out]
        have c2 : decide (4611686018427387904 / held a1 < held a0) = true := decide_eq_true h1
        go_enter Try.func19, Try.ntmps19
        go_wp2_with (first | (go_at_call 35; (with_reducible refine (witheref5_At.calls a0 _ _ rfl).mono ?_); rintro e w' ⟨rfl, ⟨nd, rfl⟩⟩) | (go_at_call 35; (with_reducible refine (witheref5_At.calls a1 _ _ rfl).mono ?_); rintro e w' ⟨rfl, ⟨nd, rfl⟩⟩) | go_in)
        go_ret
        exact ⟨by first | rfl | (simp only [i64_w]; rfl), by repeat (first | exact Drawn0.refl _ | apply Drawn0.step)⟩
      · have E := Aside0.mk (h9.2 h1)
        clear h9
        have c2 : decide (4611686018427387904 / held a1 < held a0) = false := decide_eq_false h1
        rw [← E.out.1]
        have q := E.out.2
        go_enter Try.func19, Try.ntmps19
        go_wp2_with (first | (go_at_call 35; (with_reducible refine (witheref5_At.calls a0 _ _ rfl).mono ?_); rintro e w' ⟨rfl, ⟨nd, rfl⟩⟩) | (go_at_call 35; (with_reducible refine (witheref5_At.calls a1 _ _ rfl).mono ?_); rintro e w' ⟨rfl, ⟨nd, rfl⟩⟩) | go_in)
        go_ret
        exact ⟨by first | rfl | (simp only [i64_w]; rfl), by repeat (first | exact Drawn0.refl _ | apply Drawn0.step)⟩

/-! ### witheref5_Power: function 21 -/
def witheref5_Power.l0 : Nat → Int → Int → Int → Int → Option (Int)
  | 0, _, _, _, _ => none
  | k + 1, x1, x5, x6, x7 => if x7 < x1 then (if x6 < 4611686018427387904 then ((witheref5_Times.f x6 x5).bind fun t118 => (witheref5_Power.l0 k x1 x5 t118 (wrap64 (x7 + 1)))) else (some x6)) else (some x6)
def witheref5_Power.f (k : Nat) (a0 : Int) (a1 : Int) : Option (Int) := (witheref5_At.f a0).bind fun t117 => (if a1 ≤ 0 then (some 1) else (if t117 < 2 then (some t117) else (witheref5_Power.l0 k a1 t117 1 0)))
theorem witheref5_Power.mono_l : ∀ k, (∀ y0 y1 y2 y3, LeO (witheref5_Power.l0 k y0 y1 y2 y3) (witheref5_Power.l0 (k + 1) y0 y1 y2 y3))
  | 0 => fun _ _ _ _ r h => by simp [witheref5_Power.l0] at h
  | k + 1 => by
    have ih0 := witheref5_Power.mono_l k
    · intro y0 y1 y2 y3
      unfold witheref5_Power.l0
      repeat' first
      | (with_reducible exact ih0 _ _ _ _)
      | (with_reducible exact LeO.refl _)
      | (with_reducible exact LeO.none _)
      | (with_reducible refine LeO.ite ?_ ?_)
      | (with_reducible refine LeO.bind ?_ (fun _ => ?_))
      | exact ih0 _ _ _ _
      | exact LeO.none _
      | refine LeO.ite ?_ ?_
      | refine LeO.bind ?_ (fun _ => ?_)
theorem witheref5_Power.mono : ∀ a0 a1 k, LeO (witheref5_Power.f k a0 a1) (witheref5_Power.f (k + 1) a0 a1) := by
  intro a0 a1 k
  have ih0 := witheref5_Power.mono_l k
  unfold witheref5_Power.f
  repeat' first
      | (with_reducible exact ih0 _ _ _ _)
      | (with_reducible exact LeO.refl _)
      | (with_reducible exact LeO.none _)
      | (with_reducible refine LeO.ite ?_ ?_)
      | (with_reducible refine LeO.bind ?_ (fun _ => ?_))
      | exact ih0 _ _ _ _
      | exact LeO.none _
      | refine LeO.ite ?_ ?_
      | refine LeO.bind ?_ (fun _ => ?_)
set_option maxHeartbeats 8000000 in
set_option maxRecDepth 100000 in
theorem witheref5_Power.calls (k : Nat) (a0 : Int) (a1 : Int) (r : Int) (w : World) (h : witheref5_Power.f k a0 a1 = some r) :
    Calls Try.prog 21 #[.int .i64 a0, .int .i64 a1] w fun e w' => e = .returned (.int .i64 r) ∧ Drawn0 w w' := by
  have H : ((witheref5_At.f a0).bind fun t117 => (if a1 ≤ 0 then (some 1) else (if t117 < 2 then (some t117) else (witheref5_Power.l0 k a1 t117 1 0)))) = some r := h
  clear h
  replace H := Option.bind_eq_some_iff.mp H
  obtain ⟨t117, A30, H⟩ := H
  replace H : (if a1 ≤ 0 then (some 1) else (if t117 < 2 then (some t117) else (witheref5_Power.l0 k a1 t117 1 0))) = some r := H
  have A3 := Aside0.mk A30
  clear A30
  by_cases c4 : a1 ≤ 0
  · rw [if_pos c4] at H
    have c4b0 : decide (a1 ≤ 0) = true := decide_eq_true c4
    clear c4
    obtain rfl := Option.some.inj H
    go_enter Try.func21, Try.ntmps21
    go_wp2_with (first | ((with_reducible refine gate_callee (f := 35) rfl ?_); refine goesL_ (some 9) rfl rfl Try.func35 (by kernel_rfl) rfl #[.int .i64 a0] rfl (by (try simp only [List.map_toArray, List.map_cons, List.map_nil]); first | done | rfl | (simp only [List.length_drop, List.length_take]; rfl)) ?_; (with_reducible refine (witheref5_At.calls a0 t117 _ A3.out).mono ?_); rintro e w' ⟨rfl, ⟨nd, rfl⟩⟩; refine ⟨_, rfl, ?_⟩))
    go_ret
    exact ⟨by first | rfl | (simp; done) | (simp [*]; done), by repeat (first | exact Drawn0.refl _ | apply Drawn0.step)⟩
  · rw [if_neg c4] at H
    have c4b0 : decide (a1 ≤ 0) = false := decide_eq_false c4
    clear c4
    by_cases c5 : t117 < 2
    · rw [if_pos c5] at H
      have c5b0 : decide (t117 < 2) = true := decide_eq_true c5
      clear c5
      obtain rfl := Option.some.inj H
      go_enter Try.func21, Try.ntmps21
      go_wp2_with (first | ((with_reducible refine gate_callee (f := 35) rfl ?_); refine goesL_ (some 9) rfl rfl Try.func35 (by kernel_rfl) rfl #[.int .i64 a0] rfl (by (try simp only [List.map_toArray, List.map_cons, List.map_nil]); first | done | rfl | (simp only [List.length_drop, List.length_take]; rfl)) ?_; (with_reducible refine (witheref5_At.calls a0 t117 _ A3.out).mono ?_); rintro e w' ⟨rfl, ⟨nd, rfl⟩⟩; refine ⟨_, rfl, ?_⟩))
      go_ret
      exact ⟨by first | rfl | (simp; done) | (simp [*]; done), by repeat (first | exact Drawn0.refl _ | apply Drawn0.step)⟩
    · rw [if_neg c5] at H
      have c5b0 : decide (t117 < 2) = false := decide_eq_false c5
      clear c5
      have H' := Aside0.mk H
      clear H
      go_enter Try.func21, Try.ntmps21
      go_wp2_with (first | ((with_reducible refine gate_callee (f := 35) rfl ?_); refine goesL_ (some 9) rfl rfl Try.func35 (by kernel_rfl) rfl #[.int .i64 a0] rfl (by (try simp only [List.map_toArray, List.map_cons, List.map_nil]); first | done | rfl | (simp only [List.length_drop, List.length_take]; rfl)) ?_; (with_reducible refine (witheref5_At.calls a0 t117 _ A3.out).mono ?_); rintro e w' ⟨rfl, ⟨nd, rfl⟩⟩; refine ⟨_, rfl, ?_⟩))
      go_loopg [6, 7] k (fun kq v6 v7 w' => ∃ (x6_1 : Int) (x7_1 : Int), v6 = .int .i64 x6_1 ∧ v7 = .int .i64 x7_1 ∧ Aside0 (witheref5_Power.l0 kq a1 t117 x6_1 x7_1 = some r) ∧ Aside0 (kq ≤ k) ∧ Drawn0 w w')
      case atStart => exact ⟨(1), (0), (by first | rfl | (simp; done) | (simp [*]; done)), (by first | rfl | (simp; done) | (simp [*]; done)), H', ⟨Nat.le_refl _⟩, by repeat (first | exact Drawn0.refl _ | apply Drawn0.step)⟩
      case round =>
        clear H'
        try clear c2
        try clear p2
        try clear c3
        try clear c4
        try clear c4b0
        try clear c5
        try clear c5b0
        obtain ⟨x6_1, x7_1, rfl, rfl, HA, HK1, ⟨m1, rfl⟩⟩ := hrel
        cases gk with
        | zero => exact absurd HA.out (by simp [witheref5_Power.l0])
        | succ k1 =>
          have H := HA.out
          clear HA
          simp only [witheref5_Power.l0] at H
          by_cases c6 : x7_1 < a1
          · rw [if_pos c6] at H
            have c6b0 : decide (x7_1 < a1) = true := decide_eq_true c6
            clear c6
            by_cases c7 : x6_1 < 4611686018427387904
            · rw [if_pos c7] at H
              have c7b0 : decide (x6_1 < 4611686018427387904) = true := decide_eq_true c7
              clear c7
              replace H := Option.bind_eq_some_iff.mp H
              obtain ⟨t118, A80, H⟩ := H
              replace H : (witheref5_Power.l0 k1 a1 t117 t118 (wrap64 (x7_1 + 1))) = some r := H
              have A8 := Aside0.mk A80
              clear A80
              have H' := Aside0.mk H
              clear H
              go_wp2_with (first | ((with_reducible refine gate_callee (f := 19) rfl ?_); refine goesL_ (some 26) rfl rfl Try.func19 (by kernel_rfl) rfl #[.int .i64 x6_1, .int .i64 t117] rfl (by (try simp only [List.map_toArray, List.map_cons, List.map_nil]); first | done | rfl | (simp only [List.length_drop, List.length_take]; rfl)) ?_; (with_reducible refine (witheref5_Times.calls x6_1 t117 t118 _ A8.out).mono ?_); rintro e w' ⟨rfl, ⟨nd, rfl⟩⟩; refine ⟨_, rfl, ?_⟩))
              go_roundg k1
              case measure => have := HK1.out; omega
              case rel => exact ⟨(t118), (wrap64 (x7_1 + 1)), (by first | rfl | (simp; done) | (simp [*]; done)), (by first | rfl | (simp; done) | (simp [*]; done)), H', ⟨by have := HK1.out; omega⟩, by repeat (first | exact Drawn0.refl _ | apply Drawn0.step)⟩
            · rw [if_neg c7] at H
              have c7b0 : decide (x6_1 < 4611686018427387904) = false := decide_eq_false c7
              clear c7
              obtain rfl := Option.some.inj H
              go_wp2
              go_ret
              exact ⟨by first | rfl | (simp; done) | (simp [*]; done), by repeat (first | exact Drawn0.refl _ | apply Drawn0.step)⟩
          · rw [if_neg c6] at H
            have c6b0 : decide (x7_1 < a1) = false := decide_eq_false c6
            clear c6
            obtain rfl := Option.some.inj H
            go_wp2
            go_ret
            exact ⟨by first | rfl | (simp; done) | (simp [*]; done), by repeat (first | exact Drawn0.refl _ | apply Drawn0.step)⟩
theorem witheref5_Power_l0 (x n : Nat) (hx : 2 ≤ x) (hn : n < 9223372036854775808) (d : Nat) : ∀ (k i : Nat), n - i = d → i ≤ n → d < k →
    witheref5_Power.l0 k (n : Int) (x : Int) ((sat (x ^ i) : Nat) : Int) (i : Int) = some ((sat (x ^ n) : Nat) : Int) := by
  induction d with
  | zero =>
    intro k i hd hi hk
    obtain ⟨k, rfl⟩ : ∃ m, k = m + 1 := ⟨k - 1, by omega⟩
    simp only [witheref5_Power.l0]; rw [if_neg (by omega)]
    have : i = n := by omega
    rw [this]
  | succ d ih =>
    intro k i hd hi hk
    obtain ⟨k, rfl⟩ : ∃ m, k = m + 1 := ⟨k - 1, by omega⟩
    simp only [witheref5_Power.l0]; rw [if_pos (by omega)]
    by_cases ht : ((sat (x ^ i) : Nat) : Int) < 4611686018427387904
    · rw [if_pos ht]
      simp only [witheref5_Times.f, Option.bind_some]
      have e1 : timesS ((sat (x ^ i) : Nat) : Int) (x : Int) = ((sat (x ^ (i + 1)) : Nat) : Int) := by
        rw [times_nat, Int.toNat_natCast, Int.toNat_natCast, sat_mul_l, Nat.pow_succ]
      have e2 : wrap64 ((i : Int) + 1) = ((i + 1 : Nat) : Int) := by unfold wrap64; omega
      rw [e1, e2]
      exact ih k (i + 1) (by omega) (by omega) (by omega)
    · rw [if_neg ht]
      have h1 : sat (x ^ i) = 4611686018427387904 := by have := sat_le (x ^ i); omega
      have h2 : 4611686018427387904 ≤ x ^ i := by unfold sat at h1; split at h1 <;> omega
      have h3 : x ^ i < x ^ n := Nat.pow_lt_pow_right (by omega) (by omega)
      have h4 : sat (x ^ n) = 4611686018427387904 := by unfold sat; rw [if_pos (by omega)]
      rw [h1, h4]
theorem witheref5_Power_eq (k : Nat) (a e : Int) (h1 : e < 9223372036854775808) (hk : e.toNat < k) : witheref5_Power.f k a e = some (powS a e) := by
  unfold witheref5_Power.f powS
  simp only [witheref5_At.f, Option.bind_some]
  by_cases h0 : e ≤ 0
  · rw [if_pos h0]
    have e0 : e.toNat = 0 := by omega
    rw [e0]; rfl
  · rw [if_neg h0]
    obtain ⟨n, hn⟩ : ∃ n : Nat, e = n := ⟨e.toNat, by omega⟩
    subst hn
    rw [Int.toNat_natCast] at *
    rw [held_nat]
    have hs := sat_le a.toNat
    by_cases h2 : ((sat a.toNat : Nat) : Int) < 2
    · rw [if_pos h2]
      have h3 : sat a.toNat = a.toNat := by
        unfold sat at *
        by_cases z : 4611686018427387904 < a.toNat
        · rw [if_pos z] at h2; omega
        · rw [if_neg z]
      rw [h3] at h2 ⊢
      have : a.toNat = 0 ∨ a.toNat = 1 := by omega
      rcases this with h | h
      · rw [h, Nat.zero_pow (by omega)]; rfl
      · rw [h, Nat.one_pow]; rfl
    · rw [if_neg h2]
      have h4 := witheref5_Power_l0 (sat a.toNat) n (by omega) (by omega) n k 0 (by omega) (by omega) hk
      rw [Nat.pow_zero] at h4
      have h5 : ((sat 1 : Nat) : Int) = 1 := rfl
      rw [h5] at h4
      have h6 := sat_pow a.toNat n 1
      rw [Nat.one_mul, Nat.one_mul] at h6
      rw [h6] at h4
      exact h4

/-! ### withelaw5_WrapAll: function 3 -/
def withelaw5_WrapAll.f (k : Nat) (a0 : Int) (a1 : Int) (a2 : Int) : Option (Bool) := (withelaw5_begun.f k).bind fun t119 => (if t119 = true then ((witheref5_In.f a0 a2).bind fun t120 => ((witheref5_In.f a1 a2).bind fun t121 => ((wrap_In.f a0 a2).bind fun t122 => (if t122 = t120 then ((wrap_Add.f a0 a1 a2).bind fun t123 => ((witheref5_In.f (wrap64 (t120 + t121)) a2).bind fun t124 => (if t123 = t124 then ((wrap_Sub.f a0 a1 a2).bind fun t125 => ((witheref5_In.f (wrap64 (t120 - t121)) a2).bind fun t126 => (if t125 = t126 then ((wrap_Mul.f a0 a1 a2).bind fun t127 => ((witheref5_Mul.f k a0 a1 a2).bind fun t128 => (if t127 = t128 then ((wrap_Plus.f a0 a1).bind fun t129 => ((witheref5_Plus.f a0 a1).bind fun t130 => (if t129 = t130 then ((wrap_Times.f a0 a1).bind fun t131 => ((witheref5_Times.f a0 a1).bind fun t132 => (if t131 = t132 then ((wrap_Power.f k a0 a2).bind fun t133 => ((witheref5_Power.f k a0 a2).bind fun t134 => (some (t133 == t134)))) else (some false)))) else (some false)))) else (some false)))) else (some false)))) else (some false)))) else (some false))))) else (some false))
theorem withelaw5_WrapAll.mono : ∀ a0 a1 a2 k, LeO (withelaw5_WrapAll.f k a0 a1 a2) (withelaw5_WrapAll.f (k + 1) a0 a1 a2) := by
  intro a0 a1 a2 k
  unfold withelaw5_WrapAll.f
  repeat' first
      | (with_reducible exact withelaw5_begun.mono _)
      | (with_reducible exact witheref5_Mul.mono _ _ _ _)
      | (with_reducible exact witheref5_Power.mono _ _ _)
      | (with_reducible exact wrap_Power.mono _ _ _)
      | (with_reducible exact LeO.refl _)
      | (with_reducible exact LeO.none _)
      | (with_reducible refine LeO.ite ?_ ?_)
      | (with_reducible refine LeO.bind ?_ (fun _ => ?_))
      | exact withelaw5_begun.mono _
      | exact witheref5_Mul.mono _ _ _ _
      | exact witheref5_Power.mono _ _ _
      | exact wrap_Power.mono _ _ _
      | exact LeO.none _
      | refine LeO.ite ?_ ?_
      | refine LeO.bind ?_ (fun _ => ?_)
set_option maxHeartbeats 8000000 in
set_option maxRecDepth 100000 in
theorem withelaw5_WrapAll.calls (k : Nat) (a0 : Int) (a1 : Int) (a2 : Int) (w : World) (h : withelaw5_WrapAll.f k a0 a1 a2 = some true) :
    Calls Try.prog 3 #[.int .i64 a0, .int .i64 a1, .int .i64 a2] w fun e w' => e = .returned (.bool true) ∧ Drawn0 w w' := by
  have H : ((withelaw5_begun.f k).bind fun t119 => (if t119 = true then ((witheref5_In.f a0 a2).bind fun t120 => ((witheref5_In.f a1 a2).bind fun t121 => ((wrap_In.f a0 a2).bind fun t122 => (if t122 = t120 then ((wrap_Add.f a0 a1 a2).bind fun t123 => ((witheref5_In.f (wrap64 (t120 + t121)) a2).bind fun t124 => (if t123 = t124 then ((wrap_Sub.f a0 a1 a2).bind fun t125 => ((witheref5_In.f (wrap64 (t120 - t121)) a2).bind fun t126 => (if t125 = t126 then ((wrap_Mul.f a0 a1 a2).bind fun t127 => ((witheref5_Mul.f k a0 a1 a2).bind fun t128 => (if t127 = t128 then ((wrap_Plus.f a0 a1).bind fun t129 => ((witheref5_Plus.f a0 a1).bind fun t130 => (if t129 = t130 then ((wrap_Times.f a0 a1).bind fun t131 => ((witheref5_Times.f a0 a1).bind fun t132 => (if t131 = t132 then ((wrap_Power.f k a0 a2).bind fun t133 => ((witheref5_Power.f k a0 a2).bind fun t134 => (some (t133 == t134)))) else (some false)))) else (some false)))) else (some false)))) else (some false)))) else (some false)))) else (some false))))) else (some false))) = some true := h
  clear h
  replace H := Option.bind_eq_some_iff.mp H
  obtain ⟨t119, A40, H⟩ := H
  replace H : (if t119 = true then ((witheref5_In.f a0 a2).bind fun t120 => ((witheref5_In.f a1 a2).bind fun t121 => ((wrap_In.f a0 a2).bind fun t122 => (if t122 = t120 then ((wrap_Add.f a0 a1 a2).bind fun t123 => ((witheref5_In.f (wrap64 (t120 + t121)) a2).bind fun t124 => (if t123 = t124 then ((wrap_Sub.f a0 a1 a2).bind fun t125 => ((witheref5_In.f (wrap64 (t120 - t121)) a2).bind fun t126 => (if t125 = t126 then ((wrap_Mul.f a0 a1 a2).bind fun t127 => ((witheref5_Mul.f k a0 a1 a2).bind fun t128 => (if t127 = t128 then ((wrap_Plus.f a0 a1).bind fun t129 => ((witheref5_Plus.f a0 a1).bind fun t130 => (if t129 = t130 then ((wrap_Times.f a0 a1).bind fun t131 => ((witheref5_Times.f a0 a1).bind fun t132 => (if t131 = t132 then ((wrap_Power.f k a0 a2).bind fun t133 => ((witheref5_Power.f k a0 a2).bind fun t134 => (some (t133 == t134)))) else (some false)))) else (some false)))) else (some false)))) else (some false)))) else (some false)))) else (some false))))) else (some false)) = some true := H
  have A4 := Aside0.mk A40
  clear A40
  by_cases c5 : t119 = true
  · subst c5
    have H1 : ((witheref5_In.f a0 a2).bind fun t120 => ((witheref5_In.f a1 a2).bind fun t121 => ((wrap_In.f a0 a2).bind fun t122 => (if t122 = t120 then ((wrap_Add.f a0 a1 a2).bind fun t123 => ((witheref5_In.f (wrap64 (t120 + t121)) a2).bind fun t124 => (if t123 = t124 then ((wrap_Sub.f a0 a1 a2).bind fun t125 => ((witheref5_In.f (wrap64 (t120 - t121)) a2).bind fun t126 => (if t125 = t126 then ((wrap_Mul.f a0 a1 a2).bind fun t127 => ((witheref5_Mul.f k a0 a1 a2).bind fun t128 => (if t127 = t128 then ((wrap_Plus.f a0 a1).bind fun t129 => ((witheref5_Plus.f a0 a1).bind fun t130 => (if t129 = t130 then ((wrap_Times.f a0 a1).bind fun t131 => ((witheref5_Times.f a0 a1).bind fun t132 => (if t131 = t132 then ((wrap_Power.f k a0 a2).bind fun t133 => ((witheref5_Power.f k a0 a2).bind fun t134 => (some (t133 == t134)))) else (some false)))) else (some false)))) else (some false)))) else (some false)))) else (some false)))) else (some false))))) = some true := by rw [if_pos rfl] at H; exact H
    clear H
    have H := H1
    clear H1
    replace H := Option.bind_eq_some_iff.mp H
    obtain ⟨t120, A60, H⟩ := H
    replace H : ((witheref5_In.f a1 a2).bind fun t121 => ((wrap_In.f a0 a2).bind fun t122 => (if t122 = t120 then ((wrap_Add.f a0 a1 a2).bind fun t123 => ((witheref5_In.f (wrap64 (t120 + t121)) a2).bind fun t124 => (if t123 = t124 then ((wrap_Sub.f a0 a1 a2).bind fun t125 => ((witheref5_In.f (wrap64 (t120 - t121)) a2).bind fun t126 => (if t125 = t126 then ((wrap_Mul.f a0 a1 a2).bind fun t127 => ((witheref5_Mul.f k a0 a1 a2).bind fun t128 => (if t127 = t128 then ((wrap_Plus.f a0 a1).bind fun t129 => ((witheref5_Plus.f a0 a1).bind fun t130 => (if t129 = t130 then ((wrap_Times.f a0 a1).bind fun t131 => ((witheref5_Times.f a0 a1).bind fun t132 => (if t131 = t132 then ((wrap_Power.f k a0 a2).bind fun t133 => ((witheref5_Power.f k a0 a2).bind fun t134 => (some (t133 == t134)))) else (some false)))) else (some false)))) else (some false)))) else (some false)))) else (some false)))) else (some false)))) = some true := H
    have A6 := Aside0.mk A60
    clear A60
    replace H := Option.bind_eq_some_iff.mp H
    obtain ⟨t121, A70, H⟩ := H
    replace H : ((wrap_In.f a0 a2).bind fun t122 => (if t122 = t120 then ((wrap_Add.f a0 a1 a2).bind fun t123 => ((witheref5_In.f (wrap64 (t120 + t121)) a2).bind fun t124 => (if t123 = t124 then ((wrap_Sub.f a0 a1 a2).bind fun t125 => ((witheref5_In.f (wrap64 (t120 - t121)) a2).bind fun t126 => (if t125 = t126 then ((wrap_Mul.f a0 a1 a2).bind fun t127 => ((witheref5_Mul.f k a0 a1 a2).bind fun t128 => (if t127 = t128 then ((wrap_Plus.f a0 a1).bind fun t129 => ((witheref5_Plus.f a0 a1).bind fun t130 => (if t129 = t130 then ((wrap_Times.f a0 a1).bind fun t131 => ((witheref5_Times.f a0 a1).bind fun t132 => (if t131 = t132 then ((wrap_Power.f k a0 a2).bind fun t133 => ((witheref5_Power.f k a0 a2).bind fun t134 => (some (t133 == t134)))) else (some false)))) else (some false)))) else (some false)))) else (some false)))) else (some false)))) else (some false))) = some true := H
    have A7 := Aside0.mk A70
    clear A70
    replace H := Option.bind_eq_some_iff.mp H
    obtain ⟨t122, A80, H⟩ := H
    replace H : (if t122 = t120 then ((wrap_Add.f a0 a1 a2).bind fun t123 => ((witheref5_In.f (wrap64 (t120 + t121)) a2).bind fun t124 => (if t123 = t124 then ((wrap_Sub.f a0 a1 a2).bind fun t125 => ((witheref5_In.f (wrap64 (t120 - t121)) a2).bind fun t126 => (if t125 = t126 then ((wrap_Mul.f a0 a1 a2).bind fun t127 => ((witheref5_Mul.f k a0 a1 a2).bind fun t128 => (if t127 = t128 then ((wrap_Plus.f a0 a1).bind fun t129 => ((witheref5_Plus.f a0 a1).bind fun t130 => (if t129 = t130 then ((wrap_Times.f a0 a1).bind fun t131 => ((witheref5_Times.f a0 a1).bind fun t132 => (if t131 = t132 then ((wrap_Power.f k a0 a2).bind fun t133 => ((witheref5_Power.f k a0 a2).bind fun t134 => (some (t133 == t134)))) else (some false)))) else (some false)))) else (some false)))) else (some false)))) else (some false)))) else (some false)) = some true := H
    have A8 := Aside0.mk A80
    clear A80
    by_cases c9 : t122 = t120
    · rw [if_pos c9] at H
      have c9b0 : (t122 == t120) = true := beq_iff_eq.mpr c9
      have c9b1 : (t122 != t120) = false := bne_eq_false_iff_eq.mpr c9
      clear c9
      replace H := Option.bind_eq_some_iff.mp H
      obtain ⟨t123, A100, H⟩ := H
      replace H : ((witheref5_In.f (wrap64 (t120 + t121)) a2).bind fun t124 => (if t123 = t124 then ((wrap_Sub.f a0 a1 a2).bind fun t125 => ((witheref5_In.f (wrap64 (t120 - t121)) a2).bind fun t126 => (if t125 = t126 then ((wrap_Mul.f a0 a1 a2).bind fun t127 => ((witheref5_Mul.f k a0 a1 a2).bind fun t128 => (if t127 = t128 then ((wrap_Plus.f a0 a1).bind fun t129 => ((witheref5_Plus.f a0 a1).bind fun t130 => (if t129 = t130 then ((wrap_Times.f a0 a1).bind fun t131 => ((witheref5_Times.f a0 a1).bind fun t132 => (if t131 = t132 then ((wrap_Power.f k a0 a2).bind fun t133 => ((witheref5_Power.f k a0 a2).bind fun t134 => (some (t133 == t134)))) else (some false)))) else (some false)))) else (some false)))) else (some false)))) else (some false))) = some true := H
      have A10 := Aside0.mk A100
      clear A100
      replace H := Option.bind_eq_some_iff.mp H
      obtain ⟨t124, A110, H⟩ := H
      replace H : (if t123 = t124 then ((wrap_Sub.f a0 a1 a2).bind fun t125 => ((witheref5_In.f (wrap64 (t120 - t121)) a2).bind fun t126 => (if t125 = t126 then ((wrap_Mul.f a0 a1 a2).bind fun t127 => ((witheref5_Mul.f k a0 a1 a2).bind fun t128 => (if t127 = t128 then ((wrap_Plus.f a0 a1).bind fun t129 => ((witheref5_Plus.f a0 a1).bind fun t130 => (if t129 = t130 then ((wrap_Times.f a0 a1).bind fun t131 => ((witheref5_Times.f a0 a1).bind fun t132 => (if t131 = t132 then ((wrap_Power.f k a0 a2).bind fun t133 => ((witheref5_Power.f k a0 a2).bind fun t134 => (some (t133 == t134)))) else (some false)))) else (some false)))) else (some false)))) else (some false)))) else (some false)) = some true := H
      have A11 := Aside0.mk A110
      clear A110
      by_cases c12 : t123 = t124
      · rw [if_pos c12] at H
        have c12b0 : (t123 == t124) = true := beq_iff_eq.mpr c12
        have c12b1 : (t123 != t124) = false := bne_eq_false_iff_eq.mpr c12
        clear c12
        replace H := Option.bind_eq_some_iff.mp H
        obtain ⟨t125, A130, H⟩ := H
        replace H : ((witheref5_In.f (wrap64 (t120 - t121)) a2).bind fun t126 => (if t125 = t126 then ((wrap_Mul.f a0 a1 a2).bind fun t127 => ((witheref5_Mul.f k a0 a1 a2).bind fun t128 => (if t127 = t128 then ((wrap_Plus.f a0 a1).bind fun t129 => ((witheref5_Plus.f a0 a1).bind fun t130 => (if t129 = t130 then ((wrap_Times.f a0 a1).bind fun t131 => ((witheref5_Times.f a0 a1).bind fun t132 => (if t131 = t132 then ((wrap_Power.f k a0 a2).bind fun t133 => ((witheref5_Power.f k a0 a2).bind fun t134 => (some (t133 == t134)))) else (some false)))) else (some false)))) else (some false)))) else (some false))) = some true := H
        have A13 := Aside0.mk A130
        clear A130
        replace H := Option.bind_eq_some_iff.mp H
        obtain ⟨t126, A140, H⟩ := H
        replace H : (if t125 = t126 then ((wrap_Mul.f a0 a1 a2).bind fun t127 => ((witheref5_Mul.f k a0 a1 a2).bind fun t128 => (if t127 = t128 then ((wrap_Plus.f a0 a1).bind fun t129 => ((witheref5_Plus.f a0 a1).bind fun t130 => (if t129 = t130 then ((wrap_Times.f a0 a1).bind fun t131 => ((witheref5_Times.f a0 a1).bind fun t132 => (if t131 = t132 then ((wrap_Power.f k a0 a2).bind fun t133 => ((witheref5_Power.f k a0 a2).bind fun t134 => (some (t133 == t134)))) else (some false)))) else (some false)))) else (some false)))) else (some false)) = some true := H
        have A14 := Aside0.mk A140
        clear A140
        by_cases c15 : t125 = t126
        · rw [if_pos c15] at H
          have c15b0 : (t125 == t126) = true := beq_iff_eq.mpr c15
          have c15b1 : (t125 != t126) = false := bne_eq_false_iff_eq.mpr c15
          clear c15
          replace H := Option.bind_eq_some_iff.mp H
          obtain ⟨t127, A160, H⟩ := H
          replace H : ((witheref5_Mul.f k a0 a1 a2).bind fun t128 => (if t127 = t128 then ((wrap_Plus.f a0 a1).bind fun t129 => ((witheref5_Plus.f a0 a1).bind fun t130 => (if t129 = t130 then ((wrap_Times.f a0 a1).bind fun t131 => ((witheref5_Times.f a0 a1).bind fun t132 => (if t131 = t132 then ((wrap_Power.f k a0 a2).bind fun t133 => ((witheref5_Power.f k a0 a2).bind fun t134 => (some (t133 == t134)))) else (some false)))) else (some false)))) else (some false))) = some true := H
          have A16 := Aside0.mk A160
          clear A160
          replace H := Option.bind_eq_some_iff.mp H
          obtain ⟨t128, A170, H⟩ := H
          replace H : (if t127 = t128 then ((wrap_Plus.f a0 a1).bind fun t129 => ((witheref5_Plus.f a0 a1).bind fun t130 => (if t129 = t130 then ((wrap_Times.f a0 a1).bind fun t131 => ((witheref5_Times.f a0 a1).bind fun t132 => (if t131 = t132 then ((wrap_Power.f k a0 a2).bind fun t133 => ((witheref5_Power.f k a0 a2).bind fun t134 => (some (t133 == t134)))) else (some false)))) else (some false)))) else (some false)) = some true := H
          have A17 := Aside0.mk A170
          clear A170
          by_cases c18 : t127 = t128
          · rw [if_pos c18] at H
            have c18b0 : (t127 == t128) = true := beq_iff_eq.mpr c18
            have c18b1 : (t127 != t128) = false := bne_eq_false_iff_eq.mpr c18
            clear c18
            replace H := Option.bind_eq_some_iff.mp H
            obtain ⟨t129, A190, H⟩ := H
            replace H : ((witheref5_Plus.f a0 a1).bind fun t130 => (if t129 = t130 then ((wrap_Times.f a0 a1).bind fun t131 => ((witheref5_Times.f a0 a1).bind fun t132 => (if t131 = t132 then ((wrap_Power.f k a0 a2).bind fun t133 => ((witheref5_Power.f k a0 a2).bind fun t134 => (some (t133 == t134)))) else (some false)))) else (some false))) = some true := H
            have A19 := Aside0.mk A190
            clear A190
            replace H := Option.bind_eq_some_iff.mp H
            obtain ⟨t130, A200, H⟩ := H
            replace H : (if t129 = t130 then ((wrap_Times.f a0 a1).bind fun t131 => ((witheref5_Times.f a0 a1).bind fun t132 => (if t131 = t132 then ((wrap_Power.f k a0 a2).bind fun t133 => ((witheref5_Power.f k a0 a2).bind fun t134 => (some (t133 == t134)))) else (some false)))) else (some false)) = some true := H
            have A20 := Aside0.mk A200
            clear A200
            by_cases c21 : t129 = t130
            · rw [if_pos c21] at H
              have c21b0 : (t129 == t130) = true := beq_iff_eq.mpr c21
              have c21b1 : (t129 != t130) = false := bne_eq_false_iff_eq.mpr c21
              clear c21
              replace H := Option.bind_eq_some_iff.mp H
              obtain ⟨t131, A220, H⟩ := H
              replace H : ((witheref5_Times.f a0 a1).bind fun t132 => (if t131 = t132 then ((wrap_Power.f k a0 a2).bind fun t133 => ((witheref5_Power.f k a0 a2).bind fun t134 => (some (t133 == t134)))) else (some false))) = some true := H
              have A22 := Aside0.mk A220
              clear A220
              replace H := Option.bind_eq_some_iff.mp H
              obtain ⟨t132, A230, H⟩ := H
              replace H : (if t131 = t132 then ((wrap_Power.f k a0 a2).bind fun t133 => ((witheref5_Power.f k a0 a2).bind fun t134 => (some (t133 == t134)))) else (some false)) = some true := H
              have A23 := Aside0.mk A230
              clear A230
              by_cases c24 : t131 = t132
              · rw [if_pos c24] at H
                have c24b0 : (t131 == t132) = true := beq_iff_eq.mpr c24
                have c24b1 : (t131 != t132) = false := bne_eq_false_iff_eq.mpr c24
                clear c24
                replace H := Option.bind_eq_some_iff.mp H
                obtain ⟨t133, A250, H⟩ := H
                replace H : ((witheref5_Power.f k a0 a2).bind fun t134 => (some (t133 == t134))) = some true := H
                have A25 := Aside0.mk A250
                clear A250
                replace H := Option.bind_eq_some_iff.mp H
                obtain ⟨t134, A260, H⟩ := H
                replace H : (some (t133 == t134)) = some true := H
                have A26 := Aside0.mk A260
                clear A260
                first
                  | exact absurd (Option.some.inj H) (by decide)
                  | (have HT := Option.some.inj H
                     go_enter Try.func3, Try.ntmps3
                     go_wp2_with (first | ((with_reducible refine gate_callee (f := 9) rfl ?_); refine goesL_ (some 9) rfl rfl Try.func9 (by kernel_rfl) rfl #[] rfl (by (try simp only [List.map_toArray, List.map_cons, List.map_nil]); first | done | rfl | (simp only [List.length_drop, List.length_take]; rfl)) ?_; (with_reducible refine (withelaw5_begun.calls k  true _ A4.out).mono ?_); rintro e w' ⟨rfl, ⟨nd, rfl⟩⟩; refine ⟨_, rfl, ?_⟩) | (go_at_call 9; (with_reducible refine (withelaw5_begun.calls k  true _ A4.out).mono ?_); rintro e w' ⟨rfl, ⟨nd, rfl⟩⟩) | ((with_reducible refine gate_callee (f := 10) rfl ?_); refine goesL_ (some 13) rfl rfl Try.func10 (by kernel_rfl) rfl #[.int .i64 a0, .int .i64 a2] rfl (by (try simp only [List.map_toArray, List.map_cons, List.map_nil]); first | done | rfl | (simp only [List.length_drop, List.length_take]; rfl)) ?_; (with_reducible refine (witheref5_In.calls a0 a2 t120 _ A6.out).mono ?_); rintro e w' ⟨rfl, ⟨nd, rfl⟩⟩; refine ⟨_, rfl, ?_⟩) | (go_at_call 10; (with_reducible refine (witheref5_In.calls a0 a2 t120 _ A6.out).mono ?_); rintro e w' ⟨rfl, ⟨nd, rfl⟩⟩) | ((with_reducible refine gate_callee (f := 10) rfl ?_); refine goesL_ (some 16) rfl rfl Try.func10 (by kernel_rfl) rfl #[.int .i64 a1, .int .i64 a2] rfl (by (try simp only [List.map_toArray, List.map_cons, List.map_nil]); first | done | rfl | (simp only [List.length_drop, List.length_take]; rfl)) ?_; (with_reducible refine (witheref5_In.calls a1 a2 t121 _ A7.out).mono ?_); rintro e w' ⟨rfl, ⟨nd, rfl⟩⟩; refine ⟨_, rfl, ?_⟩) | (go_at_call 10; (with_reducible refine (witheref5_In.calls a1 a2 t121 _ A7.out).mono ?_); rintro e w' ⟨rfl, ⟨nd, rfl⟩⟩) | ((with_reducible refine gate_callee (f := 11) rfl ?_); refine goesL_ (some 19) rfl rfl Try.func11 (by kernel_rfl) rfl #[.int .i64 a0, .int .i64 a2] rfl (by (try simp only [List.map_toArray, List.map_cons, List.map_nil]); first | done | rfl | (simp only [List.length_drop, List.length_take]; rfl)) ?_; (with_reducible refine (wrap_In.calls a0 a2 t122 _ A8.out).mono ?_); rintro e w' ⟨rfl, ⟨nd, rfl⟩⟩; refine ⟨_, rfl, ?_⟩) | (go_at_call 11; (with_reducible refine (wrap_In.calls a0 a2 t122 _ A8.out).mono ?_); rintro e w' ⟨rfl, ⟨nd, rfl⟩⟩) | (go_at_call 12; (with_reducible refine (wrap_Add.calls a0 a1 a2 t123 _ A10.out).mono ?_); rintro e w' ⟨rfl, ⟨nd, rfl⟩⟩) | (go_at_call 10; (with_reducible refine (witheref5_In.calls (wrap64 (t120 + t121)) a2 t124 _ A11.out).mono ?_); rintro e w' ⟨rfl, ⟨nd, rfl⟩⟩) | (go_at_call 13; (with_reducible refine (wrap_Sub.calls a0 a1 a2 t125 _ A13.out).mono ?_); rintro e w' ⟨rfl, ⟨nd, rfl⟩⟩) | (go_at_call 10; (with_reducible refine (witheref5_In.calls (wrap64 (t120 - t121)) a2 t126 _ A14.out).mono ?_); rintro e w' ⟨rfl, ⟨nd, rfl⟩⟩) | (go_at_call 14; (with_reducible refine (wrap_Mul.calls a0 a1 a2 t127 _ A16.out).mono ?_); rintro e w' ⟨rfl, ⟨nd, rfl⟩⟩) | (go_at_call 15; (with_reducible refine (witheref5_Mul.calls k a0 a1 a2 t128 _ A17.out).mono ?_); rintro e w' ⟨rfl, ⟨nd, rfl⟩⟩) | (go_at_call 16; (with_reducible refine (wrap_Plus.calls a0 a1 t129 _ A19.out).mono ?_); rintro e w' ⟨rfl, ⟨nd, rfl⟩⟩) | (go_at_call 17; (with_reducible refine (witheref5_Plus.calls a0 a1 t130 _ A20.out).mono ?_); rintro e w' ⟨rfl, ⟨nd, rfl⟩⟩) | (go_at_call 18; (with_reducible refine (wrap_Times.calls a0 a1 t131 _ A22.out).mono ?_); rintro e w' ⟨rfl, ⟨nd, rfl⟩⟩) | (go_at_call 19; (with_reducible refine (witheref5_Times.calls a0 a1 t132 _ A23.out).mono ?_); rintro e w' ⟨rfl, ⟨nd, rfl⟩⟩) | (go_at_call 20; (with_reducible refine (wrap_Power.calls k a0 a2 t133 _ A25.out).mono ?_); rintro e w' ⟨rfl, ⟨nd, rfl⟩⟩) | (go_at_call 21; (with_reducible refine (witheref5_Power.calls k a0 a2 t134 _ A26.out).mono ?_); rintro e w' ⟨rfl, ⟨nd, rfl⟩⟩))
                     go_ret
                     exact ⟨by first | rfl | (simp; done) | (simp [*]; done), by repeat (first | exact Drawn0.refl _ | apply Drawn0.step)⟩)
              · rw [if_neg c24] at H
                have c24b0 : (t131 == t132) = false := beq_eq_false_iff_ne.mpr c24
                have c24b1 : (t131 != t132) = true := bne_iff_ne.mpr c24
                first
                  | exact absurd (Option.some.inj H) (by decide)
                  | (have HT := Option.some.inj H
                     go_enter Try.func3, Try.ntmps3
                     go_wp2_with (first | ((with_reducible refine gate_callee (f := 9) rfl ?_); refine goesL_ (some 9) rfl rfl Try.func9 (by kernel_rfl) rfl #[] rfl (by (try simp only [List.map_toArray, List.map_cons, List.map_nil]); first | done | rfl | (simp only [List.length_drop, List.length_take]; rfl)) ?_; (with_reducible refine (withelaw5_begun.calls k  true _ A4.out).mono ?_); rintro e w' ⟨rfl, ⟨nd, rfl⟩⟩; refine ⟨_, rfl, ?_⟩) | (go_at_call 9; (with_reducible refine (withelaw5_begun.calls k  true _ A4.out).mono ?_); rintro e w' ⟨rfl, ⟨nd, rfl⟩⟩) | ((with_reducible refine gate_callee (f := 10) rfl ?_); refine goesL_ (some 13) rfl rfl Try.func10 (by kernel_rfl) rfl #[.int .i64 a0, .int .i64 a2] rfl (by (try simp only [List.map_toArray, List.map_cons, List.map_nil]); first | done | rfl | (simp only [List.length_drop, List.length_take]; rfl)) ?_; (with_reducible refine (witheref5_In.calls a0 a2 t120 _ A6.out).mono ?_); rintro e w' ⟨rfl, ⟨nd, rfl⟩⟩; refine ⟨_, rfl, ?_⟩) | (go_at_call 10; (with_reducible refine (witheref5_In.calls a0 a2 t120 _ A6.out).mono ?_); rintro e w' ⟨rfl, ⟨nd, rfl⟩⟩) | ((with_reducible refine gate_callee (f := 10) rfl ?_); refine goesL_ (some 16) rfl rfl Try.func10 (by kernel_rfl) rfl #[.int .i64 a1, .int .i64 a2] rfl (by (try simp only [List.map_toArray, List.map_cons, List.map_nil]); first | done | rfl | (simp only [List.length_drop, List.length_take]; rfl)) ?_; (with_reducible refine (witheref5_In.calls a1 a2 t121 _ A7.out).mono ?_); rintro e w' ⟨rfl, ⟨nd, rfl⟩⟩; refine ⟨_, rfl, ?_⟩) | (go_at_call 10; (with_reducible refine (witheref5_In.calls a1 a2 t121 _ A7.out).mono ?_); rintro e w' ⟨rfl, ⟨nd, rfl⟩⟩) | ((with_reducible refine gate_callee (f := 11) rfl ?_); refine goesL_ (some 19) rfl rfl Try.func11 (by kernel_rfl) rfl #[.int .i64 a0, .int .i64 a2] rfl (by (try simp only [List.map_toArray, List.map_cons, List.map_nil]); first | done | rfl | (simp only [List.length_drop, List.length_take]; rfl)) ?_; (with_reducible refine (wrap_In.calls a0 a2 t122 _ A8.out).mono ?_); rintro e w' ⟨rfl, ⟨nd, rfl⟩⟩; refine ⟨_, rfl, ?_⟩) | (go_at_call 11; (with_reducible refine (wrap_In.calls a0 a2 t122 _ A8.out).mono ?_); rintro e w' ⟨rfl, ⟨nd, rfl⟩⟩) | (go_at_call 12; (with_reducible refine (wrap_Add.calls a0 a1 a2 t123 _ A10.out).mono ?_); rintro e w' ⟨rfl, ⟨nd, rfl⟩⟩) | (go_at_call 10; (with_reducible refine (witheref5_In.calls (wrap64 (t120 + t121)) a2 t124 _ A11.out).mono ?_); rintro e w' ⟨rfl, ⟨nd, rfl⟩⟩) | (go_at_call 13; (with_reducible refine (wrap_Sub.calls a0 a1 a2 t125 _ A13.out).mono ?_); rintro e w' ⟨rfl, ⟨nd, rfl⟩⟩) | (go_at_call 10; (with_reducible refine (witheref5_In.calls (wrap64 (t120 - t121)) a2 t126 _ A14.out).mono ?_); rintro e w' ⟨rfl, ⟨nd, rfl⟩⟩) | (go_at_call 14; (with_reducible refine (wrap_Mul.calls a0 a1 a2 t127 _ A16.out).mono ?_); rintro e w' ⟨rfl, ⟨nd, rfl⟩⟩) | (go_at_call 15; (with_reducible refine (witheref5_Mul.calls k a0 a1 a2 t128 _ A17.out).mono ?_); rintro e w' ⟨rfl, ⟨nd, rfl⟩⟩) | (go_at_call 16; (with_reducible refine (wrap_Plus.calls a0 a1 t129 _ A19.out).mono ?_); rintro e w' ⟨rfl, ⟨nd, rfl⟩⟩) | (go_at_call 17; (with_reducible refine (witheref5_Plus.calls a0 a1 t130 _ A20.out).mono ?_); rintro e w' ⟨rfl, ⟨nd, rfl⟩⟩) | (go_at_call 18; (with_reducible refine (wrap_Times.calls a0 a1 t131 _ A22.out).mono ?_); rintro e w' ⟨rfl, ⟨nd, rfl⟩⟩) | (go_at_call 19; (with_reducible refine (witheref5_Times.calls a0 a1 t132 _ A23.out).mono ?_); rintro e w' ⟨rfl, ⟨nd, rfl⟩⟩))
                     go_ret
                     exact ⟨by first | rfl | (simp; done) | (simp [*]; done), by repeat (first | exact Drawn0.refl _ | apply Drawn0.step)⟩)
            · rw [if_neg c21] at H
              have c21b0 : (t129 == t130) = false := beq_eq_false_iff_ne.mpr c21
              have c21b1 : (t129 != t130) = true := bne_iff_ne.mpr c21
              first
                | exact absurd (Option.some.inj H) (by decide)
                | (have HT := Option.some.inj H
                   go_enter Try.func3, Try.ntmps3
                   go_wp2_with (first | ((with_reducible refine gate_callee (f := 9) rfl ?_); refine goesL_ (some 9) rfl rfl Try.func9 (by kernel_rfl) rfl #[] rfl (by (try simp only [List.map_toArray, List.map_cons, List.map_nil]); first | done | rfl | (simp only [List.length_drop, List.length_take]; rfl)) ?_; (with_reducible refine (withelaw5_begun.calls k  true _ A4.out).mono ?_); rintro e w' ⟨rfl, ⟨nd, rfl⟩⟩; refine ⟨_, rfl, ?_⟩) | (go_at_call 9; (with_reducible refine (withelaw5_begun.calls k  true _ A4.out).mono ?_); rintro e w' ⟨rfl, ⟨nd, rfl⟩⟩) | ((with_reducible refine gate_callee (f := 10) rfl ?_); refine goesL_ (some 13) rfl rfl Try.func10 (by kernel_rfl) rfl #[.int .i64 a0, .int .i64 a2] rfl (by (try simp only [List.map_toArray, List.map_cons, List.map_nil]); first | done | rfl | (simp only [List.length_drop, List.length_take]; rfl)) ?_; (with_reducible refine (witheref5_In.calls a0 a2 t120 _ A6.out).mono ?_); rintro e w' ⟨rfl, ⟨nd, rfl⟩⟩; refine ⟨_, rfl, ?_⟩) | (go_at_call 10; (with_reducible refine (witheref5_In.calls a0 a2 t120 _ A6.out).mono ?_); rintro e w' ⟨rfl, ⟨nd, rfl⟩⟩) | ((with_reducible refine gate_callee (f := 10) rfl ?_); refine goesL_ (some 16) rfl rfl Try.func10 (by kernel_rfl) rfl #[.int .i64 a1, .int .i64 a2] rfl (by (try simp only [List.map_toArray, List.map_cons, List.map_nil]); first | done | rfl | (simp only [List.length_drop, List.length_take]; rfl)) ?_; (with_reducible refine (witheref5_In.calls a1 a2 t121 _ A7.out).mono ?_); rintro e w' ⟨rfl, ⟨nd, rfl⟩⟩; refine ⟨_, rfl, ?_⟩) | (go_at_call 10; (with_reducible refine (witheref5_In.calls a1 a2 t121 _ A7.out).mono ?_); rintro e w' ⟨rfl, ⟨nd, rfl⟩⟩) | ((with_reducible refine gate_callee (f := 11) rfl ?_); refine goesL_ (some 19) rfl rfl Try.func11 (by kernel_rfl) rfl #[.int .i64 a0, .int .i64 a2] rfl (by (try simp only [List.map_toArray, List.map_cons, List.map_nil]); first | done | rfl | (simp only [List.length_drop, List.length_take]; rfl)) ?_; (with_reducible refine (wrap_In.calls a0 a2 t122 _ A8.out).mono ?_); rintro e w' ⟨rfl, ⟨nd, rfl⟩⟩; refine ⟨_, rfl, ?_⟩) | (go_at_call 11; (with_reducible refine (wrap_In.calls a0 a2 t122 _ A8.out).mono ?_); rintro e w' ⟨rfl, ⟨nd, rfl⟩⟩) | (go_at_call 12; (with_reducible refine (wrap_Add.calls a0 a1 a2 t123 _ A10.out).mono ?_); rintro e w' ⟨rfl, ⟨nd, rfl⟩⟩) | (go_at_call 10; (with_reducible refine (witheref5_In.calls (wrap64 (t120 + t121)) a2 t124 _ A11.out).mono ?_); rintro e w' ⟨rfl, ⟨nd, rfl⟩⟩) | (go_at_call 13; (with_reducible refine (wrap_Sub.calls a0 a1 a2 t125 _ A13.out).mono ?_); rintro e w' ⟨rfl, ⟨nd, rfl⟩⟩) | (go_at_call 10; (with_reducible refine (witheref5_In.calls (wrap64 (t120 - t121)) a2 t126 _ A14.out).mono ?_); rintro e w' ⟨rfl, ⟨nd, rfl⟩⟩) | (go_at_call 14; (with_reducible refine (wrap_Mul.calls a0 a1 a2 t127 _ A16.out).mono ?_); rintro e w' ⟨rfl, ⟨nd, rfl⟩⟩) | (go_at_call 15; (with_reducible refine (witheref5_Mul.calls k a0 a1 a2 t128 _ A17.out).mono ?_); rintro e w' ⟨rfl, ⟨nd, rfl⟩⟩) | (go_at_call 16; (with_reducible refine (wrap_Plus.calls a0 a1 t129 _ A19.out).mono ?_); rintro e w' ⟨rfl, ⟨nd, rfl⟩⟩) | (go_at_call 17; (with_reducible refine (witheref5_Plus.calls a0 a1 t130 _ A20.out).mono ?_); rintro e w' ⟨rfl, ⟨nd, rfl⟩⟩))
                   go_ret
                   exact ⟨by first | rfl | (simp; done) | (simp [*]; done), by repeat (first | exact Drawn0.refl _ | apply Drawn0.step)⟩)
          · rw [if_neg c18] at H
            have c18b0 : (t127 == t128) = false := beq_eq_false_iff_ne.mpr c18
            have c18b1 : (t127 != t128) = true := bne_iff_ne.mpr c18
            first
              | exact absurd (Option.some.inj H) (by decide)
              | (have HT := Option.some.inj H
                 go_enter Try.func3, Try.ntmps3
                 go_wp2_with (first | ((with_reducible refine gate_callee (f := 9) rfl ?_); refine goesL_ (some 9) rfl rfl Try.func9 (by kernel_rfl) rfl #[] rfl (by (try simp only [List.map_toArray, List.map_cons, List.map_nil]); first | done | rfl | (simp only [List.length_drop, List.length_take]; rfl)) ?_; (with_reducible refine (withelaw5_begun.calls k  true _ A4.out).mono ?_); rintro e w' ⟨rfl, ⟨nd, rfl⟩⟩; refine ⟨_, rfl, ?_⟩) | (go_at_call 9; (with_reducible refine (withelaw5_begun.calls k  true _ A4.out).mono ?_); rintro e w' ⟨rfl, ⟨nd, rfl⟩⟩) | ((with_reducible refine gate_callee (f := 10) rfl ?_); refine goesL_ (some 13) rfl rfl Try.func10 (by kernel_rfl) rfl #[.int .i64 a0, .int .i64 a2] rfl (by (try simp only [List.map_toArray, List.map_cons, List.map_nil]); first | done | rfl | (simp only [List.length_drop, List.length_take]; rfl)) ?_; (with_reducible refine (witheref5_In.calls a0 a2 t120 _ A6.out).mono ?_); rintro e w' ⟨rfl, ⟨nd, rfl⟩⟩; refine ⟨_, rfl, ?_⟩) | (go_at_call 10; (with_reducible refine (witheref5_In.calls a0 a2 t120 _ A6.out).mono ?_); rintro e w' ⟨rfl, ⟨nd, rfl⟩⟩) | ((with_reducible refine gate_callee (f := 10) rfl ?_); refine goesL_ (some 16) rfl rfl Try.func10 (by kernel_rfl) rfl #[.int .i64 a1, .int .i64 a2] rfl (by (try simp only [List.map_toArray, List.map_cons, List.map_nil]); first | done | rfl | (simp only [List.length_drop, List.length_take]; rfl)) ?_; (with_reducible refine (witheref5_In.calls a1 a2 t121 _ A7.out).mono ?_); rintro e w' ⟨rfl, ⟨nd, rfl⟩⟩; refine ⟨_, rfl, ?_⟩) | (go_at_call 10; (with_reducible refine (witheref5_In.calls a1 a2 t121 _ A7.out).mono ?_); rintro e w' ⟨rfl, ⟨nd, rfl⟩⟩) | ((with_reducible refine gate_callee (f := 11) rfl ?_); refine goesL_ (some 19) rfl rfl Try.func11 (by kernel_rfl) rfl #[.int .i64 a0, .int .i64 a2] rfl (by (try simp only [List.map_toArray, List.map_cons, List.map_nil]); first | done | rfl | (simp only [List.length_drop, List.length_take]; rfl)) ?_; (with_reducible refine (wrap_In.calls a0 a2 t122 _ A8.out).mono ?_); rintro e w' ⟨rfl, ⟨nd, rfl⟩⟩; refine ⟨_, rfl, ?_⟩) | (go_at_call 11; (with_reducible refine (wrap_In.calls a0 a2 t122 _ A8.out).mono ?_); rintro e w' ⟨rfl, ⟨nd, rfl⟩⟩) | (go_at_call 12; (with_reducible refine (wrap_Add.calls a0 a1 a2 t123 _ A10.out).mono ?_); rintro e w' ⟨rfl, ⟨nd, rfl⟩⟩) | (go_at_call 10; (with_reducible refine (witheref5_In.calls (wrap64 (t120 + t121)) a2 t124 _ A11.out).mono ?_); rintro e w' ⟨rfl, ⟨nd, rfl⟩⟩) | (go_at_call 13; (with_reducible refine (wrap_Sub.calls a0 a1 a2 t125 _ A13.out).mono ?_); rintro e w' ⟨rfl, ⟨nd, rfl⟩⟩) | (go_at_call 10; (with_reducible refine (witheref5_In.calls (wrap64 (t120 - t121)) a2 t126 _ A14.out).mono ?_); rintro e w' ⟨rfl, ⟨nd, rfl⟩⟩) | (go_at_call 14; (with_reducible refine (wrap_Mul.calls a0 a1 a2 t127 _ A16.out).mono ?_); rintro e w' ⟨rfl, ⟨nd, rfl⟩⟩) | (go_at_call 15; (with_reducible refine (witheref5_Mul.calls k a0 a1 a2 t128 _ A17.out).mono ?_); rintro e w' ⟨rfl, ⟨nd, rfl⟩⟩))
                 go_ret
                 exact ⟨by first | rfl | (simp; done) | (simp [*]; done), by repeat (first | exact Drawn0.refl _ | apply Drawn0.step)⟩)
        · rw [if_neg c15] at H
          have c15b0 : (t125 == t126) = false := beq_eq_false_iff_ne.mpr c15
          have c15b1 : (t125 != t126) = true := bne_iff_ne.mpr c15
          first
            | exact absurd (Option.some.inj H) (by decide)
            | (have HT := Option.some.inj H
               go_enter Try.func3, Try.ntmps3
               go_wp2_with (first | ((with_reducible refine gate_callee (f := 9) rfl ?_); refine goesL_ (some 9) rfl rfl Try.func9 (by kernel_rfl) rfl #[] rfl (by (try simp only [List.map_toArray, List.map_cons, List.map_nil]); first | done | rfl | (simp only [List.length_drop, List.length_take]; rfl)) ?_; (with_reducible refine (withelaw5_begun.calls k  true _ A4.out).mono ?_); rintro e w' ⟨rfl, ⟨nd, rfl⟩⟩; refine ⟨_, rfl, ?_⟩) | (go_at_call 9; (with_reducible refine (withelaw5_begun.calls k  true _ A4.out).mono ?_); rintro e w' ⟨rfl, ⟨nd, rfl⟩⟩) | ((with_reducible refine gate_callee (f := 10) rfl ?_); refine goesL_ (some 13) rfl rfl Try.func10 (by kernel_rfl) rfl #[.int .i64 a0, .int .i64 a2] rfl (by (try simp only [List.map_toArray, List.map_cons, List.map_nil]); first | done | rfl | (simp only [List.length_drop, List.length_take]; rfl)) ?_; (with_reducible refine (witheref5_In.calls a0 a2 t120 _ A6.out).mono ?_); rintro e w' ⟨rfl, ⟨nd, rfl⟩⟩; refine ⟨_, rfl, ?_⟩) | (go_at_call 10; (with_reducible refine (witheref5_In.calls a0 a2 t120 _ A6.out).mono ?_); rintro e w' ⟨rfl, ⟨nd, rfl⟩⟩) | ((with_reducible refine gate_callee (f := 10) rfl ?_); refine goesL_ (some 16) rfl rfl Try.func10 (by kernel_rfl) rfl #[.int .i64 a1, .int .i64 a2] rfl (by (try simp only [List.map_toArray, List.map_cons, List.map_nil]); first | done | rfl | (simp only [List.length_drop, List.length_take]; rfl)) ?_; (with_reducible refine (witheref5_In.calls a1 a2 t121 _ A7.out).mono ?_); rintro e w' ⟨rfl, ⟨nd, rfl⟩⟩; refine ⟨_, rfl, ?_⟩) | (go_at_call 10; (with_reducible refine (witheref5_In.calls a1 a2 t121 _ A7.out).mono ?_); rintro e w' ⟨rfl, ⟨nd, rfl⟩⟩) | ((with_reducible refine gate_callee (f := 11) rfl ?_); refine goesL_ (some 19) rfl rfl Try.func11 (by kernel_rfl) rfl #[.int .i64 a0, .int .i64 a2] rfl (by (try simp only [List.map_toArray, List.map_cons, List.map_nil]); first | done | rfl | (simp only [List.length_drop, List.length_take]; rfl)) ?_; (with_reducible refine (wrap_In.calls a0 a2 t122 _ A8.out).mono ?_); rintro e w' ⟨rfl, ⟨nd, rfl⟩⟩; refine ⟨_, rfl, ?_⟩) | (go_at_call 11; (with_reducible refine (wrap_In.calls a0 a2 t122 _ A8.out).mono ?_); rintro e w' ⟨rfl, ⟨nd, rfl⟩⟩) | (go_at_call 12; (with_reducible refine (wrap_Add.calls a0 a1 a2 t123 _ A10.out).mono ?_); rintro e w' ⟨rfl, ⟨nd, rfl⟩⟩) | (go_at_call 10; (with_reducible refine (witheref5_In.calls (wrap64 (t120 + t121)) a2 t124 _ A11.out).mono ?_); rintro e w' ⟨rfl, ⟨nd, rfl⟩⟩) | (go_at_call 13; (with_reducible refine (wrap_Sub.calls a0 a1 a2 t125 _ A13.out).mono ?_); rintro e w' ⟨rfl, ⟨nd, rfl⟩⟩) | (go_at_call 10; (with_reducible refine (witheref5_In.calls (wrap64 (t120 - t121)) a2 t126 _ A14.out).mono ?_); rintro e w' ⟨rfl, ⟨nd, rfl⟩⟩))
               go_ret
               exact ⟨by first | rfl | (simp; done) | (simp [*]; done), by repeat (first | exact Drawn0.refl _ | apply Drawn0.step)⟩)
      · rw [if_neg c12] at H
        have c12b0 : (t123 == t124) = false := beq_eq_false_iff_ne.mpr c12
        have c12b1 : (t123 != t124) = true := bne_iff_ne.mpr c12
        first
          | exact absurd (Option.some.inj H) (by decide)
          | (have HT := Option.some.inj H
             go_enter Try.func3, Try.ntmps3
             go_wp2_with (first | ((with_reducible refine gate_callee (f := 9) rfl ?_); refine goesL_ (some 9) rfl rfl Try.func9 (by kernel_rfl) rfl #[] rfl (by (try simp only [List.map_toArray, List.map_cons, List.map_nil]); first | done | rfl | (simp only [List.length_drop, List.length_take]; rfl)) ?_; (with_reducible refine (withelaw5_begun.calls k  true _ A4.out).mono ?_); rintro e w' ⟨rfl, ⟨nd, rfl⟩⟩; refine ⟨_, rfl, ?_⟩) | (go_at_call 9; (with_reducible refine (withelaw5_begun.calls k  true _ A4.out).mono ?_); rintro e w' ⟨rfl, ⟨nd, rfl⟩⟩) | ((with_reducible refine gate_callee (f := 10) rfl ?_); refine goesL_ (some 13) rfl rfl Try.func10 (by kernel_rfl) rfl #[.int .i64 a0, .int .i64 a2] rfl (by (try simp only [List.map_toArray, List.map_cons, List.map_nil]); first | done | rfl | (simp only [List.length_drop, List.length_take]; rfl)) ?_; (with_reducible refine (witheref5_In.calls a0 a2 t120 _ A6.out).mono ?_); rintro e w' ⟨rfl, ⟨nd, rfl⟩⟩; refine ⟨_, rfl, ?_⟩) | (go_at_call 10; (with_reducible refine (witheref5_In.calls a0 a2 t120 _ A6.out).mono ?_); rintro e w' ⟨rfl, ⟨nd, rfl⟩⟩) | ((with_reducible refine gate_callee (f := 10) rfl ?_); refine goesL_ (some 16) rfl rfl Try.func10 (by kernel_rfl) rfl #[.int .i64 a1, .int .i64 a2] rfl (by (try simp only [List.map_toArray, List.map_cons, List.map_nil]); first | done | rfl | (simp only [List.length_drop, List.length_take]; rfl)) ?_; (with_reducible refine (witheref5_In.calls a1 a2 t121 _ A7.out).mono ?_); rintro e w' ⟨rfl, ⟨nd, rfl⟩⟩; refine ⟨_, rfl, ?_⟩) | (go_at_call 10; (with_reducible refine (witheref5_In.calls a1 a2 t121 _ A7.out).mono ?_); rintro e w' ⟨rfl, ⟨nd, rfl⟩⟩) | ((with_reducible refine gate_callee (f := 11) rfl ?_); refine goesL_ (some 19) rfl rfl Try.func11 (by kernel_rfl) rfl #[.int .i64 a0, .int .i64 a2] rfl (by (try simp only [List.map_toArray, List.map_cons, List.map_nil]); first | done | rfl | (simp only [List.length_drop, List.length_take]; rfl)) ?_; (with_reducible refine (wrap_In.calls a0 a2 t122 _ A8.out).mono ?_); rintro e w' ⟨rfl, ⟨nd, rfl⟩⟩; refine ⟨_, rfl, ?_⟩) | (go_at_call 11; (with_reducible refine (wrap_In.calls a0 a2 t122 _ A8.out).mono ?_); rintro e w' ⟨rfl, ⟨nd, rfl⟩⟩) | (go_at_call 12; (with_reducible refine (wrap_Add.calls a0 a1 a2 t123 _ A10.out).mono ?_); rintro e w' ⟨rfl, ⟨nd, rfl⟩⟩) | (go_at_call 10; (with_reducible refine (witheref5_In.calls (wrap64 (t120 + t121)) a2 t124 _ A11.out).mono ?_); rintro e w' ⟨rfl, ⟨nd, rfl⟩⟩))
             go_ret
             exact ⟨by first | rfl | (simp; done) | (simp [*]; done), by repeat (first | exact Drawn0.refl _ | apply Drawn0.step)⟩)
    · rw [if_neg c9] at H
      have c9b0 : (t122 == t120) = false := beq_eq_false_iff_ne.mpr c9
      have c9b1 : (t122 != t120) = true := bne_iff_ne.mpr c9
      first
        | exact absurd (Option.some.inj H) (by decide)
        | (have HT := Option.some.inj H
           go_enter Try.func3, Try.ntmps3
           go_wp2_with (first | ((with_reducible refine gate_callee (f := 9) rfl ?_); refine goesL_ (some 9) rfl rfl Try.func9 (by kernel_rfl) rfl #[] rfl (by (try simp only [List.map_toArray, List.map_cons, List.map_nil]); first | done | rfl | (simp only [List.length_drop, List.length_take]; rfl)) ?_; (with_reducible refine (withelaw5_begun.calls k  true _ A4.out).mono ?_); rintro e w' ⟨rfl, ⟨nd, rfl⟩⟩; refine ⟨_, rfl, ?_⟩) | (go_at_call 9; (with_reducible refine (withelaw5_begun.calls k  true _ A4.out).mono ?_); rintro e w' ⟨rfl, ⟨nd, rfl⟩⟩) | ((with_reducible refine gate_callee (f := 10) rfl ?_); refine goesL_ (some 13) rfl rfl Try.func10 (by kernel_rfl) rfl #[.int .i64 a0, .int .i64 a2] rfl (by (try simp only [List.map_toArray, List.map_cons, List.map_nil]); first | done | rfl | (simp only [List.length_drop, List.length_take]; rfl)) ?_; (with_reducible refine (witheref5_In.calls a0 a2 t120 _ A6.out).mono ?_); rintro e w' ⟨rfl, ⟨nd, rfl⟩⟩; refine ⟨_, rfl, ?_⟩) | (go_at_call 10; (with_reducible refine (witheref5_In.calls a0 a2 t120 _ A6.out).mono ?_); rintro e w' ⟨rfl, ⟨nd, rfl⟩⟩) | ((with_reducible refine gate_callee (f := 10) rfl ?_); refine goesL_ (some 16) rfl rfl Try.func10 (by kernel_rfl) rfl #[.int .i64 a1, .int .i64 a2] rfl (by (try simp only [List.map_toArray, List.map_cons, List.map_nil]); first | done | rfl | (simp only [List.length_drop, List.length_take]; rfl)) ?_; (with_reducible refine (witheref5_In.calls a1 a2 t121 _ A7.out).mono ?_); rintro e w' ⟨rfl, ⟨nd, rfl⟩⟩; refine ⟨_, rfl, ?_⟩) | (go_at_call 10; (with_reducible refine (witheref5_In.calls a1 a2 t121 _ A7.out).mono ?_); rintro e w' ⟨rfl, ⟨nd, rfl⟩⟩) | ((with_reducible refine gate_callee (f := 11) rfl ?_); refine goesL_ (some 19) rfl rfl Try.func11 (by kernel_rfl) rfl #[.int .i64 a0, .int .i64 a2] rfl (by (try simp only [List.map_toArray, List.map_cons, List.map_nil]); first | done | rfl | (simp only [List.length_drop, List.length_take]; rfl)) ?_; (with_reducible refine (wrap_In.calls a0 a2 t122 _ A8.out).mono ?_); rintro e w' ⟨rfl, ⟨nd, rfl⟩⟩; refine ⟨_, rfl, ?_⟩) | (go_at_call 11; (with_reducible refine (wrap_In.calls a0 a2 t122 _ A8.out).mono ?_); rintro e w' ⟨rfl, ⟨nd, rfl⟩⟩))
           go_ret
           exact ⟨by first | rfl | (simp; done) | (simp [*]; done), by repeat (first | exact Drawn0.refl _ | apply Drawn0.step)⟩)
  · replace c5 := Bool.eq_false_iff.mpr c5
    subst c5
    have H1 : (some false) = some true := by rw [if_neg (show ¬ (false = true) by decide)] at H; exact H
    clear H
    have H := H1
    clear H1
    first
      | exact absurd (Option.some.inj H) (by decide)
      | (have HT := Option.some.inj H
         go_enter Try.func3, Try.ntmps3
         go_wp2_with (first | ((with_reducible refine gate_callee (f := 9) rfl ?_); refine goesL_ (some 9) rfl rfl Try.func9 (by kernel_rfl) rfl #[] rfl (by (try simp only [List.map_toArray, List.map_cons, List.map_nil]); first | done | rfl | (simp only [List.length_drop, List.length_take]; rfl)) ?_; (with_reducible refine (withelaw5_begun.calls k  false _ A4.out).mono ?_); rintro e w' ⟨rfl, ⟨nd, rfl⟩⟩; refine ⟨_, rfl, ?_⟩) | (go_at_call 9; (with_reducible refine (withelaw5_begun.calls k  false _ A4.out).mono ?_); rintro e w' ⟨rfl, ⟨nd, rfl⟩⟩))
         go_ret
         exact ⟨by first | rfl | (simp; done) | (simp [*]; done), by repeat (first | exact Drawn0.refl _ | apply Drawn0.step)⟩)

/-- THE ONE PURE STATEMENT of withelaw5_WrapAll: yours. -/
def withelaw5_WrapAll.Pure : Prop := ∀ (a0 : Int) (a1 : Int) (a2 : Int), (Lit.int .i64 a0).wf = true → (Lit.int .i64 a1).wf = true → (Lit.int .i64 a2).wf = true → ∃ k, withelaw5_WrapAll.f k a0 a1 a2 = some true
theorem withelaw5_WrapAll.walk (P : withelaw5_WrapAll.Pure) (a0 : Int) (a1 : Int) (a2 : Int) (w : World) (w0 : (Lit.int .i64 a0).wf = true) (w1 : (Lit.int .i64 a1).wf = true) (w2 : (Lit.int .i64 a2).wf = true) :
    Calls Try.prog 3 #[.int .i64 a0, .int .i64 a1, .int .i64 a2] w fun e w' => e = .returned (.bool true) ∧ Below w.heap.size w w' := by
  obtain ⟨k, h⟩ := P a0 a1 a2 w0 w1 w2
  refine (withelaw5_WrapAll.calls k a0 a1 a2 w h).mono ?_
  rintro e w' ⟨rfl, hd⟩
  exact ⟨rfl, hd.below⟩

end Go.Proofs.Ytpkhcmholpljnaa.PW5
