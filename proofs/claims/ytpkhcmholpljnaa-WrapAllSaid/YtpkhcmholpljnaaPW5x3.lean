-- Printed by this claim's own program (wip/tools/xprint.py) over the kit's printer.
import Derived.Test.YtpkhcmholpljnaaPW5x0
import Derived.Test.YtpkhcmholpljnaaPW5x1
namespace Go.Proofs.Ytpkhcmholpljnaa.PW5
open Go.RowKit Go.Proofs.YtpkhcmholpljnaaW.PrintWords Go.Proofs.YtpkhcmholpljnaaW.PrintLast Go.Proofs.YtpkhcmholpljnaaW.PrintMore
attribute [local go_sem] max2_int min2_int max_two min_two max_three min_three max_four min_four   -- for this text's walks alone
set_option linter.unusedVariables false
set_option linter.unusedSimpArgs false

/-! ### withelaw5_WrapRing: function 4 -/
def withelaw5_WrapRing.j0 : Nat → Int → Int → Int → Int → Bool → Option (Bool)
  | 0, _, _, _, _, _ => none
  | k + 1, x0, x1, x2, x9, x55 => if x55 = true then (some false) else ((wrap_Add.f x0 x1 x9).bind fun t142 => ((wrap_Add.f t142 x2 x9).bind fun t143 => ((wrap_Add.f x1 x2 x9).bind fun t144 => ((wrap_Add.f x0 t144 x9).bind fun t145 => (if t143 = t145 then ((wrap_Mul.f x0 x1 x9).bind fun t146 => ((wrap_Mul.f t146 x2 x9).bind fun t147 => ((wrap_Mul.f x1 x2 x9).bind fun t148 => ((wrap_Mul.f x0 t148 x9).bind fun t149 => (if t147 = t149 then ((wrap_Mul.f x0 t144 x9).bind fun t150 => ((wrap_Mul.f x0 x2 x9).bind fun t151 => ((wrap_Add.f t146 t151 x9).bind fun t152 => (if t150 = t152 then ((wrap_In.f x0 x9).bind fun t153 => ((wrap_In.f t153 x9).bind fun t154 => (if t154 = t153 then ((wrap_Mul.f x0 1 x9).bind fun t155 => (some (t155 == t153))) else (some false)))) else (some false))))) else (some false)))))) else (some false))))))
def withelaw5_WrapRing.f (k : Nat) (a0 : Int) (a1 : Int) (a2 : Int) (a3 : Int) : Option (Bool) := (withelaw5_begun.f k).bind fun t135 => (if t135 = true then ((wrap_Add.f a0 a1 (wrap64 ((wrap64 (a3)) + 1))).bind fun t136 => (if t136 < 0 then (withelaw5_WrapRing.j0 k a0 a1 a2 (wrap64 ((wrap64 (a3)) + 1)) true) else (if t136 ≥ (wrap64 ((wrap64 (a3)) + 1)) then (withelaw5_WrapRing.j0 k a0 a1 a2 (wrap64 ((wrap64 (a3)) + 1)) true) else ((wrap_Add.f a1 a0 (wrap64 ((wrap64 (a3)) + 1))).bind fun t137 => (if t136 = t137 then ((wrap_Sub.f t136 a1 (wrap64 ((wrap64 (a3)) + 1))).bind fun t138 => ((wrap_In.f a0 (wrap64 ((wrap64 (a3)) + 1))).bind fun t139 => (if t138 = t139 then ((wrap_Mul.f a0 a1 (wrap64 ((wrap64 (a3)) + 1))).bind fun t140 => ((wrap_Mul.f a1 a0 (wrap64 ((wrap64 (a3)) + 1))).bind fun t141 => (withelaw5_WrapRing.j0 k a0 a1 a2 (wrap64 ((wrap64 (a3)) + 1)) (t140 != t141)))) else (withelaw5_WrapRing.j0 k a0 a1 a2 (wrap64 ((wrap64 (a3)) + 1)) true)))) else (withelaw5_WrapRing.j0 k a0 a1 a2 (wrap64 ((wrap64 (a3)) + 1)) true)))))) else (some false))
theorem withelaw5_WrapRing.mono_l : ∀ k, (∀ y0 y1 y2 y3 y4, LeO (withelaw5_WrapRing.j0 k y0 y1 y2 y3 y4) (withelaw5_WrapRing.j0 (k + 1) y0 y1 y2 y3 y4))
  | 0 => fun _ _ _ _ _ r h => by simp [withelaw5_WrapRing.j0] at h
  | k + 1 => by
    have ih0 := withelaw5_WrapRing.mono_l k
    · intro y0 y1 y2 y3 y4
      unfold withelaw5_WrapRing.j0
      repeat' first
      | (with_reducible exact ih0 _ _ _ _ _)
      | (with_reducible exact withelaw5_begun.mono _)
      | (with_reducible exact LeO.refl _)
      | (with_reducible exact LeO.none _)
      | (with_reducible refine LeO.ite ?_ ?_)
      | (with_reducible refine LeO.bind ?_ (fun _ => ?_))
      | exact ih0 _ _ _ _ _
      | exact withelaw5_begun.mono _
      | exact LeO.none _
      | refine LeO.ite ?_ ?_
      | refine LeO.bind ?_ (fun _ => ?_)
theorem withelaw5_WrapRing.mono : ∀ a0 a1 a2 a3 k, LeO (withelaw5_WrapRing.f k a0 a1 a2 a3) (withelaw5_WrapRing.f (k + 1) a0 a1 a2 a3) := by
  intro a0 a1 a2 a3 k
  have ih0 := withelaw5_WrapRing.mono_l k
  unfold withelaw5_WrapRing.f
  repeat' first
      | (with_reducible exact ih0 _ _ _ _ _)
      | (with_reducible exact withelaw5_begun.mono _)
      | (with_reducible exact LeO.refl _)
      | (with_reducible exact LeO.none _)
      | (with_reducible refine LeO.ite ?_ ?_)
      | (with_reducible refine LeO.bind ?_ (fun _ => ?_))
      | exact ih0 _ _ _ _ _
      | exact withelaw5_begun.mono _
      | exact LeO.none _
      | refine LeO.ite ?_ ?_
      | refine LeO.bind ?_ (fun _ => ?_)
set_option maxHeartbeats 8000000 in
set_option maxRecDepth 100000 in
theorem withelaw5_WrapRing.calls (k : Nat) (a0 : Int) (a1 : Int) (a2 : Int) (a3 : Int) (w : World) (h : withelaw5_WrapRing.f k a0 a1 a2 a3 = some true) :
    Calls Try.prog 4 #[.int .i64 a0, .int .i64 a1, .int .i64 a2, .int .u16 a3] w fun e w' => e = .returned (.bool true) ∧ Drawn0 w w' := by
  have H : ((withelaw5_begun.f k).bind fun t135 => (if t135 = true then ((wrap_Add.f a0 a1 (wrap64 ((wrap64 (a3)) + 1))).bind fun t136 => (if t136 < 0 then (withelaw5_WrapRing.j0 k a0 a1 a2 (wrap64 ((wrap64 (a3)) + 1)) true) else (if t136 ≥ (wrap64 ((wrap64 (a3)) + 1)) then (withelaw5_WrapRing.j0 k a0 a1 a2 (wrap64 ((wrap64 (a3)) + 1)) true) else ((wrap_Add.f a1 a0 (wrap64 ((wrap64 (a3)) + 1))).bind fun t137 => (if t136 = t137 then ((wrap_Sub.f t136 a1 (wrap64 ((wrap64 (a3)) + 1))).bind fun t138 => ((wrap_In.f a0 (wrap64 ((wrap64 (a3)) + 1))).bind fun t139 => (if t138 = t139 then ((wrap_Mul.f a0 a1 (wrap64 ((wrap64 (a3)) + 1))).bind fun t140 => ((wrap_Mul.f a1 a0 (wrap64 ((wrap64 (a3)) + 1))).bind fun t141 => (withelaw5_WrapRing.j0 k a0 a1 a2 (wrap64 ((wrap64 (a3)) + 1)) (t140 != t141)))) else (withelaw5_WrapRing.j0 k a0 a1 a2 (wrap64 ((wrap64 (a3)) + 1)) true)))) else (withelaw5_WrapRing.j0 k a0 a1 a2 (wrap64 ((wrap64 (a3)) + 1)) true)))))) else (some false))) = some true := h
  clear h
  replace H := Option.bind_eq_some_iff.mp H
  obtain ⟨t135, A50, H⟩ := H
  replace H : (if t135 = true then ((wrap_Add.f a0 a1 (wrap64 ((wrap64 (a3)) + 1))).bind fun t136 => (if t136 < 0 then (withelaw5_WrapRing.j0 k a0 a1 a2 (wrap64 ((wrap64 (a3)) + 1)) true) else (if t136 ≥ (wrap64 ((wrap64 (a3)) + 1)) then (withelaw5_WrapRing.j0 k a0 a1 a2 (wrap64 ((wrap64 (a3)) + 1)) true) else ((wrap_Add.f a1 a0 (wrap64 ((wrap64 (a3)) + 1))).bind fun t137 => (if t136 = t137 then ((wrap_Sub.f t136 a1 (wrap64 ((wrap64 (a3)) + 1))).bind fun t138 => ((wrap_In.f a0 (wrap64 ((wrap64 (a3)) + 1))).bind fun t139 => (if t138 = t139 then ((wrap_Mul.f a0 a1 (wrap64 ((wrap64 (a3)) + 1))).bind fun t140 => ((wrap_Mul.f a1 a0 (wrap64 ((wrap64 (a3)) + 1))).bind fun t141 => (withelaw5_WrapRing.j0 k a0 a1 a2 (wrap64 ((wrap64 (a3)) + 1)) (t140 != t141)))) else (withelaw5_WrapRing.j0 k a0 a1 a2 (wrap64 ((wrap64 (a3)) + 1)) true)))) else (withelaw5_WrapRing.j0 k a0 a1 a2 (wrap64 ((wrap64 (a3)) + 1)) true)))))) else (some false)) = some true := H
  have A5 := Aside0.mk A50
  clear A50
  by_cases c6 : t135 = true
  · subst c6
    have H1 : ((wrap_Add.f a0 a1 (wrap64 ((wrap64 (a3)) + 1))).bind fun t136 => (if t136 < 0 then (withelaw5_WrapRing.j0 k a0 a1 a2 (wrap64 ((wrap64 (a3)) + 1)) true) else (if t136 ≥ (wrap64 ((wrap64 (a3)) + 1)) then (withelaw5_WrapRing.j0 k a0 a1 a2 (wrap64 ((wrap64 (a3)) + 1)) true) else ((wrap_Add.f a1 a0 (wrap64 ((wrap64 (a3)) + 1))).bind fun t137 => (if t136 = t137 then ((wrap_Sub.f t136 a1 (wrap64 ((wrap64 (a3)) + 1))).bind fun t138 => ((wrap_In.f a0 (wrap64 ((wrap64 (a3)) + 1))).bind fun t139 => (if t138 = t139 then ((wrap_Mul.f a0 a1 (wrap64 ((wrap64 (a3)) + 1))).bind fun t140 => ((wrap_Mul.f a1 a0 (wrap64 ((wrap64 (a3)) + 1))).bind fun t141 => (withelaw5_WrapRing.j0 k a0 a1 a2 (wrap64 ((wrap64 (a3)) + 1)) (t140 != t141)))) else (withelaw5_WrapRing.j0 k a0 a1 a2 (wrap64 ((wrap64 (a3)) + 1)) true)))) else (withelaw5_WrapRing.j0 k a0 a1 a2 (wrap64 ((wrap64 (a3)) + 1)) true)))))) = some true := by rw [if_pos rfl] at H; exact H
    clear H
    have H := H1
    clear H1
    replace H := Option.bind_eq_some_iff.mp H
    obtain ⟨t136, A70, H⟩ := H
    replace H : (if t136 < 0 then (withelaw5_WrapRing.j0 k a0 a1 a2 (wrap64 ((wrap64 (a3)) + 1)) true) else (if t136 ≥ (wrap64 ((wrap64 (a3)) + 1)) then (withelaw5_WrapRing.j0 k a0 a1 a2 (wrap64 ((wrap64 (a3)) + 1)) true) else ((wrap_Add.f a1 a0 (wrap64 ((wrap64 (a3)) + 1))).bind fun t137 => (if t136 = t137 then ((wrap_Sub.f t136 a1 (wrap64 ((wrap64 (a3)) + 1))).bind fun t138 => ((wrap_In.f a0 (wrap64 ((wrap64 (a3)) + 1))).bind fun t139 => (if t138 = t139 then ((wrap_Mul.f a0 a1 (wrap64 ((wrap64 (a3)) + 1))).bind fun t140 => ((wrap_Mul.f a1 a0 (wrap64 ((wrap64 (a3)) + 1))).bind fun t141 => (withelaw5_WrapRing.j0 k a0 a1 a2 (wrap64 ((wrap64 (a3)) + 1)) (t140 != t141)))) else (withelaw5_WrapRing.j0 k a0 a1 a2 (wrap64 ((wrap64 (a3)) + 1)) true)))) else (withelaw5_WrapRing.j0 k a0 a1 a2 (wrap64 ((wrap64 (a3)) + 1)) true))))) = some true := H
    have A7 := Aside0.mk A70
    clear A70
    have HC8 := Aside0.mk H
    clear H
    go_enter Try.func4, Try.ntmps4
    go_upto_region 5 with (first | ((with_reducible refine gate_callee (f := 9) rfl ?_); refine goesL_ (some 11) rfl rfl Try.func9 (by kernel_rfl) rfl #[] rfl (by (try simp only [List.map_toArray, List.map_cons, List.map_nil]); first | done | rfl | (simp only [List.length_drop, List.length_take]; rfl)) ?_; (with_reducible refine (withelaw5_begun.calls k  true _ A5.out).mono ?_); rintro e w' ⟨rfl, ⟨nd, rfl⟩⟩; refine ⟨_, rfl, ?_⟩) | (go_at_call 9; (with_reducible refine (withelaw5_begun.calls k  true _ A5.out).mono ?_); rintro e w' ⟨rfl, ⟨nd, rfl⟩⟩) | ((with_reducible refine gate_callee (f := 12) rfl ?_); refine goesL_ (some 19) rfl rfl Try.func12 (by kernel_rfl) rfl #[.int .i64 a0, .int .i64 a1, .int .i64 (wrap64 ((wrap64 (a3)) + 1))] rfl (by (try simp only [List.map_toArray, List.map_cons, List.map_nil]); first | done | rfl | (simp only [List.length_drop, List.length_take]; rfl)) ?_; (with_reducible refine (wrap_Add.calls a0 a1 (wrap64 ((wrap64 (a3)) + 1)) t136 _ A7.out).mono ?_); rintro e w' ⟨rfl, ⟨nd, rfl⟩⟩; refine ⟨_, rfl, ?_⟩) | (go_at_call 12; (with_reducible refine (wrap_Add.calls a0 a1 (wrap64 ((wrap64 (a3)) + 1)) t136 _ A7.out).mono ?_); rintro e w' ⟨rfl, ⟨nd, rfl⟩⟩))
    (try simp only [Act.put, List.setIfInBounds_toArray, List.set_cons_zero, List.set_cons_succ])
    go_cut [55] (fun v55 wc => ∃ (kq : Nat) (x55_7 : Bool), v55 = .bool x55_7 ∧ Aside0 (withelaw5_WrapRing.j0 kq a0 a1 a2 (wrap64 ((wrap64 (a3)) + 1)) x55_7 = some true) ∧ Aside0 (kq ≤ k) ∧ Drawn0 w wc)
    case first =>
      have H := HC8.out
      clear HC8
      by_cases c9 : t136 < 0
      · rw [if_pos c9] at H
        have c9b0 : decide (t136 < 0) = true := decide_eq_true c9
        clear c9
        (first | rw [c9b0] | (simp only [i64_w, i32_w]; rw [c9b0]) | skip)
        have H' := Aside0.mk H
        clear H
        go_wp2
        go_meet
        case rel => exact ⟨_, (true), (by first | rfl | (simp; done) | (simp [*]; done)), H', ⟨by first | omega | exact Nat.le_refl _⟩, by repeat (first | exact Drawn0.refl _ | apply Drawn0.step)⟩
      · rw [if_neg c9] at H
        have c9b0 : decide (t136 < 0) = false := decide_eq_false c9
        clear c9
        (first | rw [c9b0] | (simp only [i64_w, i32_w]; rw [c9b0]) | skip)
        by_cases c10 : t136 ≥ (wrap64 ((wrap64 (a3)) + 1))
        · rw [if_pos c10] at H
          have c10b0 : decide ((wrap64 ((wrap64 (a3)) + 1)) ≤ t136) = true := decide_eq_true c10
          clear c10
          have H' := Aside0.mk H
          clear H
          go_wp2
          go_meet
          case rel => exact ⟨_, (true), (by first | rfl | (simp; done) | (simp [*]; done)), H', ⟨by first | omega | exact Nat.le_refl _⟩, by repeat (first | exact Drawn0.refl _ | apply Drawn0.step)⟩
        · rw [if_neg c10] at H
          have c10b0 : decide ((wrap64 ((wrap64 (a3)) + 1)) ≤ t136) = false := decide_eq_false c10
          clear c10
          replace H := Option.bind_eq_some_iff.mp H
          obtain ⟨t137, A110, H⟩ := H
          replace H : (if t136 = t137 then ((wrap_Sub.f t136 a1 (wrap64 ((wrap64 (a3)) + 1))).bind fun t138 => ((wrap_In.f a0 (wrap64 ((wrap64 (a3)) + 1))).bind fun t139 => (if t138 = t139 then ((wrap_Mul.f a0 a1 (wrap64 ((wrap64 (a3)) + 1))).bind fun t140 => ((wrap_Mul.f a1 a0 (wrap64 ((wrap64 (a3)) + 1))).bind fun t141 => (withelaw5_WrapRing.j0 k a0 a1 a2 (wrap64 ((wrap64 (a3)) + 1)) (t140 != t141)))) else (withelaw5_WrapRing.j0 k a0 a1 a2 (wrap64 ((wrap64 (a3)) + 1)) true)))) else (withelaw5_WrapRing.j0 k a0 a1 a2 (wrap64 ((wrap64 (a3)) + 1)) true)) = some true := H
          have A11 := Aside0.mk A110
          clear A110
          by_cases c12 : t136 = t137
          · rw [if_pos c12] at H
            have c12b0 : (t136 == t137) = true := beq_iff_eq.mpr c12
            have c12b1 : (t136 != t137) = false := bne_eq_false_iff_eq.mpr c12
            clear c12
            replace H := Option.bind_eq_some_iff.mp H
            obtain ⟨t138, A130, H⟩ := H
            replace H : ((wrap_In.f a0 (wrap64 ((wrap64 (a3)) + 1))).bind fun t139 => (if t138 = t139 then ((wrap_Mul.f a0 a1 (wrap64 ((wrap64 (a3)) + 1))).bind fun t140 => ((wrap_Mul.f a1 a0 (wrap64 ((wrap64 (a3)) + 1))).bind fun t141 => (withelaw5_WrapRing.j0 k a0 a1 a2 (wrap64 ((wrap64 (a3)) + 1)) (t140 != t141)))) else (withelaw5_WrapRing.j0 k a0 a1 a2 (wrap64 ((wrap64 (a3)) + 1)) true))) = some true := H
            have A13 := Aside0.mk A130
            clear A130
            replace H := Option.bind_eq_some_iff.mp H
            obtain ⟨t139, A140, H⟩ := H
            replace H : (if t138 = t139 then ((wrap_Mul.f a0 a1 (wrap64 ((wrap64 (a3)) + 1))).bind fun t140 => ((wrap_Mul.f a1 a0 (wrap64 ((wrap64 (a3)) + 1))).bind fun t141 => (withelaw5_WrapRing.j0 k a0 a1 a2 (wrap64 ((wrap64 (a3)) + 1)) (t140 != t141)))) else (withelaw5_WrapRing.j0 k a0 a1 a2 (wrap64 ((wrap64 (a3)) + 1)) true)) = some true := H
            have A14 := Aside0.mk A140
            clear A140
            by_cases c15 : t138 = t139
            · rw [if_pos c15] at H
              have c15b0 : (t138 == t139) = true := beq_iff_eq.mpr c15
              have c15b1 : (t138 != t139) = false := bne_eq_false_iff_eq.mpr c15
              clear c15
              replace H := Option.bind_eq_some_iff.mp H
              obtain ⟨t140, A160, H⟩ := H
              replace H : ((wrap_Mul.f a1 a0 (wrap64 ((wrap64 (a3)) + 1))).bind fun t141 => (withelaw5_WrapRing.j0 k a0 a1 a2 (wrap64 ((wrap64 (a3)) + 1)) (t140 != t141))) = some true := H
              have A16 := Aside0.mk A160
              clear A160
              replace H := Option.bind_eq_some_iff.mp H
              obtain ⟨t141, A170, H⟩ := H
              replace H : (withelaw5_WrapRing.j0 k a0 a1 a2 (wrap64 ((wrap64 (a3)) + 1)) (t140 != t141)) = some true := H
              have A17 := Aside0.mk A170
              clear A170
              have H' := Aside0.mk H
              clear H
              go_wp2_with (first | (go_at_call 12; (with_reducible refine (wrap_Add.calls a1 a0 (wrap64 ((wrap64 (a3)) + 1)) t137 _ A11.out).mono ?_); rintro e w' ⟨rfl, ⟨nd, rfl⟩⟩) | (go_at_call 13; (with_reducible refine (wrap_Sub.calls t136 a1 (wrap64 ((wrap64 (a3)) + 1)) t138 _ A13.out).mono ?_); rintro e w' ⟨rfl, ⟨nd, rfl⟩⟩) | (go_at_call 11; (with_reducible refine (wrap_In.calls a0 (wrap64 ((wrap64 (a3)) + 1)) t139 _ A14.out).mono ?_); rintro e w' ⟨rfl, ⟨nd, rfl⟩⟩) | (go_at_call 14; (with_reducible refine (wrap_Mul.calls a0 a1 (wrap64 ((wrap64 (a3)) + 1)) t140 _ A16.out).mono ?_); rintro e w' ⟨rfl, ⟨nd, rfl⟩⟩) | (go_at_call 14; (with_reducible refine (wrap_Mul.calls a1 a0 (wrap64 ((wrap64 (a3)) + 1)) t141 _ A17.out).mono ?_); rintro e w' ⟨rfl, ⟨nd, rfl⟩⟩))
              go_meet
              case rel => exact ⟨_, ((t140 != t141)), (by first | rfl | (simp; done) | (simp [*]; done)), H', ⟨by first | omega | exact Nat.le_refl _⟩, by repeat (first | exact Drawn0.refl _ | apply Drawn0.step)⟩
            · rw [if_neg c15] at H
              have c15b0 : (t138 == t139) = false := beq_eq_false_iff_ne.mpr c15
              have c15b1 : (t138 != t139) = true := bne_iff_ne.mpr c15
              have H' := Aside0.mk H
              clear H
              go_wp2_with (first | (go_at_call 12; (with_reducible refine (wrap_Add.calls a1 a0 (wrap64 ((wrap64 (a3)) + 1)) t137 _ A11.out).mono ?_); rintro e w' ⟨rfl, ⟨nd, rfl⟩⟩) | (go_at_call 13; (with_reducible refine (wrap_Sub.calls t136 a1 (wrap64 ((wrap64 (a3)) + 1)) t138 _ A13.out).mono ?_); rintro e w' ⟨rfl, ⟨nd, rfl⟩⟩) | (go_at_call 11; (with_reducible refine (wrap_In.calls a0 (wrap64 ((wrap64 (a3)) + 1)) t139 _ A14.out).mono ?_); rintro e w' ⟨rfl, ⟨nd, rfl⟩⟩))
              go_meet
              case rel => exact ⟨_, (true), (by first | rfl | (simp; done) | (simp [*]; done)), H', ⟨by first | omega | exact Nat.le_refl _⟩, by repeat (first | exact Drawn0.refl _ | apply Drawn0.step)⟩
          · rw [if_neg c12] at H
            have c12b0 : (t136 == t137) = false := beq_eq_false_iff_ne.mpr c12
            have c12b1 : (t136 != t137) = true := bne_iff_ne.mpr c12
            have H' := Aside0.mk H
            clear H
            go_wp2_with (first | (go_at_call 12; (with_reducible refine (wrap_Add.calls a1 a0 (wrap64 ((wrap64 (a3)) + 1)) t137 _ A11.out).mono ?_); rintro e w' ⟨rfl, ⟨nd, rfl⟩⟩))
            go_meet
            case rel => exact ⟨_, (true), (by first | rfl | (simp; done) | (simp [*]; done)), H', ⟨by first | omega | exact Nat.le_refl _⟩, by repeat (first | exact Drawn0.refl _ | apply Drawn0.step)⟩
    case rest =>
      clear HC8
      try clear c1
      try clear p2
      try clear c4
      try clear c6
      try clear p6
      try clear c9
      try clear c9b0
      try clear c10
      try clear c10b0
      try clear c12
      try clear c12b0
      try clear c12b1
      try clear c15
      try clear c15b0
      try clear c15b1
      obtain ⟨kq, x55_7, rfl, HA, HJ7, ⟨mc7, rfl⟩⟩ := hcut
      cases kq with
      | zero => exact absurd HA.out (by simp [withelaw5_WrapRing.j0])
      | succ kj7 =>
        have H := HA.out
        clear HA
        simp only [withelaw5_WrapRing.j0] at H
        by_cases c18 : x55_7 = true
        · subst c18
          have H1 : (some false) = some true := by rw [if_pos rfl] at H; exact H
          clear H
          have H := H1
          clear H1
          first
            | exact absurd (Option.some.inj H) (by decide)
            | (have HT := Option.some.inj H
               go_wp2
               go_ret
               exact ⟨by first | rfl | (simp; done) | (simp [*]; done), by repeat (first | exact Drawn0.refl _ | apply Drawn0.step)⟩)
        · replace c18 := Bool.eq_false_iff.mpr c18
          subst c18
          have H1 : ((wrap_Add.f a0 a1 (wrap64 ((wrap64 (a3)) + 1))).bind fun t142 => ((wrap_Add.f t142 a2 (wrap64 ((wrap64 (a3)) + 1))).bind fun t143 => ((wrap_Add.f a1 a2 (wrap64 ((wrap64 (a3)) + 1))).bind fun t144 => ((wrap_Add.f a0 t144 (wrap64 ((wrap64 (a3)) + 1))).bind fun t145 => (if t143 = t145 then ((wrap_Mul.f a0 a1 (wrap64 ((wrap64 (a3)) + 1))).bind fun t146 => ((wrap_Mul.f t146 a2 (wrap64 ((wrap64 (a3)) + 1))).bind fun t147 => ((wrap_Mul.f a1 a2 (wrap64 ((wrap64 (a3)) + 1))).bind fun t148 => ((wrap_Mul.f a0 t148 (wrap64 ((wrap64 (a3)) + 1))).bind fun t149 => (if t147 = t149 then ((wrap_Mul.f a0 t144 (wrap64 ((wrap64 (a3)) + 1))).bind fun t150 => ((wrap_Mul.f a0 a2 (wrap64 ((wrap64 (a3)) + 1))).bind fun t151 => ((wrap_Add.f t146 t151 (wrap64 ((wrap64 (a3)) + 1))).bind fun t152 => (if t150 = t152 then ((wrap_In.f a0 (wrap64 ((wrap64 (a3)) + 1))).bind fun t153 => ((wrap_In.f t153 (wrap64 ((wrap64 (a3)) + 1))).bind fun t154 => (if t154 = t153 then ((wrap_Mul.f a0 1 (wrap64 ((wrap64 (a3)) + 1))).bind fun t155 => (some (t155 == t153))) else (some false)))) else (some false))))) else (some false)))))) else (some false)))))) = some true := by rw [if_neg (show ¬ (false = true) by decide)] at H; exact H
          clear H
          have H := H1
          clear H1
          replace H := Option.bind_eq_some_iff.mp H
          obtain ⟨t142, A190, H⟩ := H
          replace H : ((wrap_Add.f t142 a2 (wrap64 ((wrap64 (a3)) + 1))).bind fun t143 => ((wrap_Add.f a1 a2 (wrap64 ((wrap64 (a3)) + 1))).bind fun t144 => ((wrap_Add.f a0 t144 (wrap64 ((wrap64 (a3)) + 1))).bind fun t145 => (if t143 = t145 then ((wrap_Mul.f a0 a1 (wrap64 ((wrap64 (a3)) + 1))).bind fun t146 => ((wrap_Mul.f t146 a2 (wrap64 ((wrap64 (a3)) + 1))).bind fun t147 => ((wrap_Mul.f a1 a2 (wrap64 ((wrap64 (a3)) + 1))).bind fun t148 => ((wrap_Mul.f a0 t148 (wrap64 ((wrap64 (a3)) + 1))).bind fun t149 => (if t147 = t149 then ((wrap_Mul.f a0 t144 (wrap64 ((wrap64 (a3)) + 1))).bind fun t150 => ((wrap_Mul.f a0 a2 (wrap64 ((wrap64 (a3)) + 1))).bind fun t151 => ((wrap_Add.f t146 t151 (wrap64 ((wrap64 (a3)) + 1))).bind fun t152 => (if t150 = t152 then ((wrap_In.f a0 (wrap64 ((wrap64 (a3)) + 1))).bind fun t153 => ((wrap_In.f t153 (wrap64 ((wrap64 (a3)) + 1))).bind fun t154 => (if t154 = t153 then ((wrap_Mul.f a0 1 (wrap64 ((wrap64 (a3)) + 1))).bind fun t155 => (some (t155 == t153))) else (some false)))) else (some false))))) else (some false)))))) else (some false))))) = some true := H
          have A19 := Aside0.mk A190
          clear A190
          replace H := Option.bind_eq_some_iff.mp H
          obtain ⟨t143, A200, H⟩ := H
          replace H : ((wrap_Add.f a1 a2 (wrap64 ((wrap64 (a3)) + 1))).bind fun t144 => ((wrap_Add.f a0 t144 (wrap64 ((wrap64 (a3)) + 1))).bind fun t145 => (if t143 = t145 then ((wrap_Mul.f a0 a1 (wrap64 ((wrap64 (a3)) + 1))).bind fun t146 => ((wrap_Mul.f t146 a2 (wrap64 ((wrap64 (a3)) + 1))).bind fun t147 => ((wrap_Mul.f a1 a2 (wrap64 ((wrap64 (a3)) + 1))).bind fun t148 => ((wrap_Mul.f a0 t148 (wrap64 ((wrap64 (a3)) + 1))).bind fun t149 => (if t147 = t149 then ((wrap_Mul.f a0 t144 (wrap64 ((wrap64 (a3)) + 1))).bind fun t150 => ((wrap_Mul.f a0 a2 (wrap64 ((wrap64 (a3)) + 1))).bind fun t151 => ((wrap_Add.f t146 t151 (wrap64 ((wrap64 (a3)) + 1))).bind fun t152 => (if t150 = t152 then ((wrap_In.f a0 (wrap64 ((wrap64 (a3)) + 1))).bind fun t153 => ((wrap_In.f t153 (wrap64 ((wrap64 (a3)) + 1))).bind fun t154 => (if t154 = t153 then ((wrap_Mul.f a0 1 (wrap64 ((wrap64 (a3)) + 1))).bind fun t155 => (some (t155 == t153))) else (some false)))) else (some false))))) else (some false)))))) else (some false)))) = some true := H
          have A20 := Aside0.mk A200
          clear A200
          replace H := Option.bind_eq_some_iff.mp H
          obtain ⟨t144, A210, H⟩ := H
          replace H : ((wrap_Add.f a0 t144 (wrap64 ((wrap64 (a3)) + 1))).bind fun t145 => (if t143 = t145 then ((wrap_Mul.f a0 a1 (wrap64 ((wrap64 (a3)) + 1))).bind fun t146 => ((wrap_Mul.f t146 a2 (wrap64 ((wrap64 (a3)) + 1))).bind fun t147 => ((wrap_Mul.f a1 a2 (wrap64 ((wrap64 (a3)) + 1))).bind fun t148 => ((wrap_Mul.f a0 t148 (wrap64 ((wrap64 (a3)) + 1))).bind fun t149 => (if t147 = t149 then ((wrap_Mul.f a0 t144 (wrap64 ((wrap64 (a3)) + 1))).bind fun t150 => ((wrap_Mul.f a0 a2 (wrap64 ((wrap64 (a3)) + 1))).bind fun t151 => ((wrap_Add.f t146 t151 (wrap64 ((wrap64 (a3)) + 1))).bind fun t152 => (if t150 = t152 then ((wrap_In.f a0 (wrap64 ((wrap64 (a3)) + 1))).bind fun t153 => ((wrap_In.f t153 (wrap64 ((wrap64 (a3)) + 1))).bind fun t154 => (if t154 = t153 then ((wrap_Mul.f a0 1 (wrap64 ((wrap64 (a3)) + 1))).bind fun t155 => (some (t155 == t153))) else (some false)))) else (some false))))) else (some false)))))) else (some false))) = some true := H
          have A21 := Aside0.mk A210
          clear A210
          replace H := Option.bind_eq_some_iff.mp H
          obtain ⟨t145, A220, H⟩ := H
          replace H : (if t143 = t145 then ((wrap_Mul.f a0 a1 (wrap64 ((wrap64 (a3)) + 1))).bind fun t146 => ((wrap_Mul.f t146 a2 (wrap64 ((wrap64 (a3)) + 1))).bind fun t147 => ((wrap_Mul.f a1 a2 (wrap64 ((wrap64 (a3)) + 1))).bind fun t148 => ((wrap_Mul.f a0 t148 (wrap64 ((wrap64 (a3)) + 1))).bind fun t149 => (if t147 = t149 then ((wrap_Mul.f a0 t144 (wrap64 ((wrap64 (a3)) + 1))).bind fun t150 => ((wrap_Mul.f a0 a2 (wrap64 ((wrap64 (a3)) + 1))).bind fun t151 => ((wrap_Add.f t146 t151 (wrap64 ((wrap64 (a3)) + 1))).bind fun t152 => (if t150 = t152 then ((wrap_In.f a0 (wrap64 ((wrap64 (a3)) + 1))).bind fun t153 => ((wrap_In.f t153 (wrap64 ((wrap64 (a3)) + 1))).bind fun t154 => (if t154 = t153 then ((wrap_Mul.f a0 1 (wrap64 ((wrap64 (a3)) + 1))).bind fun t155 => (some (t155 == t153))) else (some false)))) else (some false))))) else (some false)))))) else (some false)) = some true := H
          have A22 := Aside0.mk A220
          clear A220
          by_cases c23 : t143 = t145
          · rw [if_pos c23] at H
            have c23b0 : (t143 == t145) = true := beq_iff_eq.mpr c23
            have c23b1 : (t143 != t145) = false := bne_eq_false_iff_eq.mpr c23
            clear c23
            replace H := Option.bind_eq_some_iff.mp H
            obtain ⟨t146, A240, H⟩ := H
            replace H : ((wrap_Mul.f t146 a2 (wrap64 ((wrap64 (a3)) + 1))).bind fun t147 => ((wrap_Mul.f a1 a2 (wrap64 ((wrap64 (a3)) + 1))).bind fun t148 => ((wrap_Mul.f a0 t148 (wrap64 ((wrap64 (a3)) + 1))).bind fun t149 => (if t147 = t149 then ((wrap_Mul.f a0 t144 (wrap64 ((wrap64 (a3)) + 1))).bind fun t150 => ((wrap_Mul.f a0 a2 (wrap64 ((wrap64 (a3)) + 1))).bind fun t151 => ((wrap_Add.f t146 t151 (wrap64 ((wrap64 (a3)) + 1))).bind fun t152 => (if t150 = t152 then ((wrap_In.f a0 (wrap64 ((wrap64 (a3)) + 1))).bind fun t153 => ((wrap_In.f t153 (wrap64 ((wrap64 (a3)) + 1))).bind fun t154 => (if t154 = t153 then ((wrap_Mul.f a0 1 (wrap64 ((wrap64 (a3)) + 1))).bind fun t155 => (some (t155 == t153))) else (some false)))) else (some false))))) else (some false))))) = some true := H
            have A24 := Aside0.mk A240
            clear A240
            replace H := Option.bind_eq_some_iff.mp H
            obtain ⟨t147, A250, H⟩ := H
            replace H : ((wrap_Mul.f a1 a2 (wrap64 ((wrap64 (a3)) + 1))).bind fun t148 => ((wrap_Mul.f a0 t148 (wrap64 ((wrap64 (a3)) + 1))).bind fun t149 => (if t147 = t149 then ((wrap_Mul.f a0 t144 (wrap64 ((wrap64 (a3)) + 1))).bind fun t150 => ((wrap_Mul.f a0 a2 (wrap64 ((wrap64 (a3)) + 1))).bind fun t151 => ((wrap_Add.f t146 t151 (wrap64 ((wrap64 (a3)) + 1))).bind fun t152 => (if t150 = t152 then ((wrap_In.f a0 (wrap64 ((wrap64 (a3)) + 1))).bind fun t153 => ((wrap_In.f t153 (wrap64 ((wrap64 (a3)) + 1))).bind fun t154 => (if t154 = t153 then ((wrap_Mul.f a0 1 (wrap64 ((wrap64 (a3)) + 1))).bind fun t155 => (some (t155 == t153))) else (some false)))) else (some false))))) else (some false)))) = some true := H
            have A25 := Aside0.mk A250
            clear A250
            replace H := Option.bind_eq_some_iff.mp H
            obtain ⟨t148, A260, H⟩ := H
            replace H : ((wrap_Mul.f a0 t148 (wrap64 ((wrap64 (a3)) + 1))).bind fun t149 => (if t147 = t149 then ((wrap_Mul.f a0 t144 (wrap64 ((wrap64 (a3)) + 1))).bind fun t150 => ((wrap_Mul.f a0 a2 (wrap64 ((wrap64 (a3)) + 1))).bind fun t151 => ((wrap_Add.f t146 t151 (wrap64 ((wrap64 (a3)) + 1))).bind fun t152 => (if t150 = t152 then ((wrap_In.f a0 (wrap64 ((wrap64 (a3)) + 1))).bind fun t153 => ((wrap_In.f t153 (wrap64 ((wrap64 (a3)) + 1))).bind fun t154 => (if t154 = t153 then ((wrap_Mul.f a0 1 (wrap64 ((wrap64 (a3)) + 1))).bind fun t155 => (some (t155 == t153))) else (some false)))) else (some false))))) else (some false))) = some true := H
            have A26 := Aside0.mk A260
            clear A260
            replace H := Option.bind_eq_some_iff.mp H
            obtain ⟨t149, A270, H⟩ := H
            replace H : (if t147 = t149 then ((wrap_Mul.f a0 t144 (wrap64 ((wrap64 (a3)) + 1))).bind fun t150 => ((wrap_Mul.f a0 a2 (wrap64 ((wrap64 (a3)) + 1))).bind fun t151 => ((wrap_Add.f t146 t151 (wrap64 ((wrap64 (a3)) + 1))).bind fun t152 => (if t150 = t152 then ((wrap_In.f a0 (wrap64 ((wrap64 (a3)) + 1))).bind fun t153 => ((wrap_In.f t153 (wrap64 ((wrap64 (a3)) + 1))).bind fun t154 => (if t154 = t153 then ((wrap_Mul.f a0 1 (wrap64 ((wrap64 (a3)) + 1))).bind fun t155 => (some (t155 == t153))) else (some false)))) else (some false))))) else (some false)) = some true := H
            have A27 := Aside0.mk A270
            clear A270
            by_cases c28 : t147 = t149
            · rw [if_pos c28] at H
              have c28b0 : (t147 == t149) = true := beq_iff_eq.mpr c28
              have c28b1 : (t147 != t149) = false := bne_eq_false_iff_eq.mpr c28
              clear c28
              replace H := Option.bind_eq_some_iff.mp H
              obtain ⟨t150, A290, H⟩ := H
              replace H : ((wrap_Mul.f a0 a2 (wrap64 ((wrap64 (a3)) + 1))).bind fun t151 => ((wrap_Add.f t146 t151 (wrap64 ((wrap64 (a3)) + 1))).bind fun t152 => (if t150 = t152 then ((wrap_In.f a0 (wrap64 ((wrap64 (a3)) + 1))).bind fun t153 => ((wrap_In.f t153 (wrap64 ((wrap64 (a3)) + 1))).bind fun t154 => (if t154 = t153 then ((wrap_Mul.f a0 1 (wrap64 ((wrap64 (a3)) + 1))).bind fun t155 => (some (t155 == t153))) else (some false)))) else (some false)))) = some true := H
              have A29 := Aside0.mk A290
              clear A290
              replace H := Option.bind_eq_some_iff.mp H
              obtain ⟨t151, A300, H⟩ := H
              replace H : ((wrap_Add.f t146 t151 (wrap64 ((wrap64 (a3)) + 1))).bind fun t152 => (if t150 = t152 then ((wrap_In.f a0 (wrap64 ((wrap64 (a3)) + 1))).bind fun t153 => ((wrap_In.f t153 (wrap64 ((wrap64 (a3)) + 1))).bind fun t154 => (if t154 = t153 then ((wrap_Mul.f a0 1 (wrap64 ((wrap64 (a3)) + 1))).bind fun t155 => (some (t155 == t153))) else (some false)))) else (some false))) = some true := H
              have A30 := Aside0.mk A300
              clear A300
              replace H := Option.bind_eq_some_iff.mp H
              obtain ⟨t152, A310, H⟩ := H
              replace H : (if t150 = t152 then ((wrap_In.f a0 (wrap64 ((wrap64 (a3)) + 1))).bind fun t153 => ((wrap_In.f t153 (wrap64 ((wrap64 (a3)) + 1))).bind fun t154 => (if t154 = t153 then ((wrap_Mul.f a0 1 (wrap64 ((wrap64 (a3)) + 1))).bind fun t155 => (some (t155 == t153))) else (some false)))) else (some false)) = some true := H
              have A31 := Aside0.mk A310
              clear A310
              by_cases c32 : t150 = t152
              · rw [if_pos c32] at H
                have c32b0 : (t150 == t152) = true := beq_iff_eq.mpr c32
                have c32b1 : (t150 != t152) = false := bne_eq_false_iff_eq.mpr c32
                clear c32
                replace H := Option.bind_eq_some_iff.mp H
                obtain ⟨t153, A330, H⟩ := H
                replace H : ((wrap_In.f t153 (wrap64 ((wrap64 (a3)) + 1))).bind fun t154 => (if t154 = t153 then ((wrap_Mul.f a0 1 (wrap64 ((wrap64 (a3)) + 1))).bind fun t155 => (some (t155 == t153))) else (some false))) = some true := H
                have A33 := Aside0.mk A330
                clear A330
                replace H := Option.bind_eq_some_iff.mp H
                obtain ⟨t154, A340, H⟩ := H
                replace H : (if t154 = t153 then ((wrap_Mul.f a0 1 (wrap64 ((wrap64 (a3)) + 1))).bind fun t155 => (some (t155 == t153))) else (some false)) = some true := H
                have A34 := Aside0.mk A340
                clear A340
                by_cases c35 : t154 = t153
                · rw [if_pos c35] at H
                  have c35b0 : (t154 == t153) = true := beq_iff_eq.mpr c35
                  have c35b1 : (t154 != t153) = false := bne_eq_false_iff_eq.mpr c35
                  clear c35
                  replace H := Option.bind_eq_some_iff.mp H
                  obtain ⟨t155, A360, H⟩ := H
                  replace H : (some (t155 == t153)) = some true := H
                  have A36 := Aside0.mk A360
                  clear A360
                  first
                    | exact absurd (Option.some.inj H) (by decide)
                    | (have HT := Option.some.inj H
                       go_wp2_with (first | ((with_reducible refine gate_callee (f := 12) rfl ?_); refine goesL_ (some 59) rfl rfl Try.func12 (by kernel_rfl) rfl #[.int .i64 a0, .int .i64 a1, .int .i64 (wrap64 ((wrap64 (a3)) + 1))] rfl (by (try simp only [List.map_toArray, List.map_cons, List.map_nil]); first | done | rfl | (simp only [List.length_drop, List.length_take]; rfl)) ?_; (with_reducible refine (wrap_Add.calls a0 a1 (wrap64 ((wrap64 (a3)) + 1)) t142 _ A19.out).mono ?_); rintro e w' ⟨rfl, ⟨nd, rfl⟩⟩; refine ⟨_, rfl, ?_⟩) | (go_at_call 12; (with_reducible refine (wrap_Add.calls a0 a1 (wrap64 ((wrap64 (a3)) + 1)) t142 _ A19.out).mono ?_); rintro e w' ⟨rfl, ⟨nd, rfl⟩⟩) | ((with_reducible refine gate_callee (f := 12) rfl ?_); refine goesL_ (some 62) rfl rfl Try.func12 (by kernel_rfl) rfl #[.int .i64 t142, .int .i64 a2, .int .i64 (wrap64 ((wrap64 (a3)) + 1))] rfl (by (try simp only [List.map_toArray, List.map_cons, List.map_nil]); first | done | rfl | (simp only [List.length_drop, List.length_take]; rfl)) ?_; (with_reducible refine (wrap_Add.calls t142 a2 (wrap64 ((wrap64 (a3)) + 1)) t143 _ A20.out).mono ?_); rintro e w' ⟨rfl, ⟨nd, rfl⟩⟩; refine ⟨_, rfl, ?_⟩) | (go_at_call 12; (with_reducible refine (wrap_Add.calls t142 a2 (wrap64 ((wrap64 (a3)) + 1)) t143 _ A20.out).mono ?_); rintro e w' ⟨rfl, ⟨nd, rfl⟩⟩) | ((with_reducible refine gate_callee (f := 12) rfl ?_); refine goesL_ (some 67) rfl rfl Try.func12 (by kernel_rfl) rfl #[.int .i64 a1, .int .i64 a2, .int .i64 (wrap64 ((wrap64 (a3)) + 1))] rfl (by (try simp only [List.map_toArray, List.map_cons, List.map_nil]); first | done | rfl | (simp only [List.length_drop, List.length_take]; rfl)) ?_; (with_reducible refine (wrap_Add.calls a1 a2 (wrap64 ((wrap64 (a3)) + 1)) t144 _ A21.out).mono ?_); rintro e w' ⟨rfl, ⟨nd, rfl⟩⟩; refine ⟨_, rfl, ?_⟩) | (go_at_call 12; (with_reducible refine (wrap_Add.calls a1 a2 (wrap64 ((wrap64 (a3)) + 1)) t144 _ A21.out).mono ?_); rintro e w' ⟨rfl, ⟨nd, rfl⟩⟩) | ((with_reducible refine gate_callee (f := 12) rfl ?_); refine goesL_ (some 69) rfl rfl Try.func12 (by kernel_rfl) rfl #[.int .i64 a0, .int .i64 t144, .int .i64 (wrap64 ((wrap64 (a3)) + 1))] rfl (by (try simp only [List.map_toArray, List.map_cons, List.map_nil]); first | done | rfl | (simp only [List.length_drop, List.length_take]; rfl)) ?_; (with_reducible refine (wrap_Add.calls a0 t144 (wrap64 ((wrap64 (a3)) + 1)) t145 _ A22.out).mono ?_); rintro e w' ⟨rfl, ⟨nd, rfl⟩⟩; refine ⟨_, rfl, ?_⟩) | (go_at_call 12; (with_reducible refine (wrap_Add.calls a0 t144 (wrap64 ((wrap64 (a3)) + 1)) t145 _ A22.out).mono ?_); rintro e w' ⟨rfl, ⟨nd, rfl⟩⟩) | (go_at_call 14; (with_reducible refine (wrap_Mul.calls a0 a1 (wrap64 ((wrap64 (a3)) + 1)) t146 _ A24.out).mono ?_); rintro e w' ⟨rfl, ⟨nd, rfl⟩⟩) | (go_at_call 14; (with_reducible refine (wrap_Mul.calls t146 a2 (wrap64 ((wrap64 (a3)) + 1)) t147 _ A25.out).mono ?_); rintro e w' ⟨rfl, ⟨nd, rfl⟩⟩) | (go_at_call 14; (with_reducible refine (wrap_Mul.calls a1 a2 (wrap64 ((wrap64 (a3)) + 1)) t148 _ A26.out).mono ?_); rintro e w' ⟨rfl, ⟨nd, rfl⟩⟩) | (go_at_call 14; (with_reducible refine (wrap_Mul.calls a0 t148 (wrap64 ((wrap64 (a3)) + 1)) t149 _ A27.out).mono ?_); rintro e w' ⟨rfl, ⟨nd, rfl⟩⟩) | (go_at_call 14; (with_reducible refine (wrap_Mul.calls a0 t144 (wrap64 ((wrap64 (a3)) + 1)) t150 _ A29.out).mono ?_); rintro e w' ⟨rfl, ⟨nd, rfl⟩⟩) | (go_at_call 14; (with_reducible refine (wrap_Mul.calls a0 a2 (wrap64 ((wrap64 (a3)) + 1)) t151 _ A30.out).mono ?_); rintro e w' ⟨rfl, ⟨nd, rfl⟩⟩) | (go_at_call 12; (with_reducible refine (wrap_Add.calls t146 t151 (wrap64 ((wrap64 (a3)) + 1)) t152 _ A31.out).mono ?_); rintro e w' ⟨rfl, ⟨nd, rfl⟩⟩) | (go_at_call 11; (with_reducible refine (wrap_In.calls a0 (wrap64 ((wrap64 (a3)) + 1)) t153 _ A33.out).mono ?_); rintro e w' ⟨rfl, ⟨nd, rfl⟩⟩) | (go_at_call 11; (with_reducible refine (wrap_In.calls t153 (wrap64 ((wrap64 (a3)) + 1)) t154 _ A34.out).mono ?_); rintro e w' ⟨rfl, ⟨nd, rfl⟩⟩) | (go_at_call 14; (with_reducible refine (wrap_Mul.calls a0 1 (wrap64 ((wrap64 (a3)) + 1)) t155 _ A36.out).mono ?_); rintro e w' ⟨rfl, ⟨nd, rfl⟩⟩))
                       go_ret
                       exact ⟨by first | rfl | (simp; done) | (simp [*]; done), by repeat (first | exact Drawn0.refl _ | apply Drawn0.step)⟩)
                · rw [if_neg c35] at H
                  have c35b0 : (t154 == t153) = false := beq_eq_false_iff_ne.mpr c35
                  have c35b1 : (t154 != t153) = true := bne_iff_ne.mpr c35
                  first
                    | exact absurd (Option.some.inj H) (by decide)
                    | (have HT := Option.some.inj H
                       go_wp2_with (first | ((with_reducible refine gate_callee (f := 12) rfl ?_); refine goesL_ (some 59) rfl rfl Try.func12 (by kernel_rfl) rfl #[.int .i64 a0, .int .i64 a1, .int .i64 (wrap64 ((wrap64 (a3)) + 1))] rfl (by (try simp only [List.map_toArray, List.map_cons, List.map_nil]); first | done | rfl | (simp only [List.length_drop, List.length_take]; rfl)) ?_; (with_reducible refine (wrap_Add.calls a0 a1 (wrap64 ((wrap64 (a3)) + 1)) t142 _ A19.out).mono ?_); rintro e w' ⟨rfl, ⟨nd, rfl⟩⟩; refine ⟨_, rfl, ?_⟩) | (go_at_call 12; (with_reducible refine (wrap_Add.calls a0 a1 (wrap64 ((wrap64 (a3)) + 1)) t142 _ A19.out).mono ?_); rintro e w' ⟨rfl, ⟨nd, rfl⟩⟩) | ((with_reducible refine gate_callee (f := 12) rfl ?_); refine goesL_ (some 62) rfl rfl Try.func12 (by kernel_rfl) rfl #[.int .i64 t142, .int .i64 a2, .int .i64 (wrap64 ((wrap64 (a3)) + 1))] rfl (by (try simp only [List.map_toArray, List.map_cons, List.map_nil]); first | done | rfl | (simp only [List.length_drop, List.length_take]; rfl)) ?_; (with_reducible refine (wrap_Add.calls t142 a2 (wrap64 ((wrap64 (a3)) + 1)) t143 _ A20.out).mono ?_); rintro e w' ⟨rfl, ⟨nd, rfl⟩⟩; refine ⟨_, rfl, ?_⟩) | (go_at_call 12; (with_reducible refine (wrap_Add.calls t142 a2 (wrap64 ((wrap64 (a3)) + 1)) t143 _ A20.out).mono ?_); rintro e w' ⟨rfl, ⟨nd, rfl⟩⟩) | ((with_reducible refine gate_callee (f := 12) rfl ?_); refine goesL_ (some 67) rfl rfl Try.func12 (by kernel_rfl) rfl #[.int .i64 a1, .int .i64 a2, .int .i64 (wrap64 ((wrap64 (a3)) + 1))] rfl (by (try simp only [List.map_toArray, List.map_cons, List.map_nil]); first | done | rfl | (simp only [List.length_drop, List.length_take]; rfl)) ?_; (with_reducible refine (wrap_Add.calls a1 a2 (wrap64 ((wrap64 (a3)) + 1)) t144 _ A21.out).mono ?_); rintro e w' ⟨rfl, ⟨nd, rfl⟩⟩; refine ⟨_, rfl, ?_⟩) | (go_at_call 12; (with_reducible refine (wrap_Add.calls a1 a2 (wrap64 ((wrap64 (a3)) + 1)) t144 _ A21.out).mono ?_); rintro e w' ⟨rfl, ⟨nd, rfl⟩⟩) | ((with_reducible refine gate_callee (f := 12) rfl ?_); refine goesL_ (some 69) rfl rfl Try.func12 (by kernel_rfl) rfl #[.int .i64 a0, .int .i64 t144, .int .i64 (wrap64 ((wrap64 (a3)) + 1))] rfl (by (try simp only [List.map_toArray, List.map_cons, List.map_nil]); first | done | rfl | (simp only [List.length_drop, List.length_take]; rfl)) ?_; (with_reducible refine (wrap_Add.calls a0 t144 (wrap64 ((wrap64 (a3)) + 1)) t145 _ A22.out).mono ?_); rintro e w' ⟨rfl, ⟨nd, rfl⟩⟩; refine ⟨_, rfl, ?_⟩) | (go_at_call 12; (with_reducible refine (wrap_Add.calls a0 t144 (wrap64 ((wrap64 (a3)) + 1)) t145 _ A22.out).mono ?_); rintro e w' ⟨rfl, ⟨nd, rfl⟩⟩) | (go_at_call 14; (with_reducible refine (wrap_Mul.calls a0 a1 (wrap64 ((wrap64 (a3)) + 1)) t146 _ A24.out).mono ?_); rintro e w' ⟨rfl, ⟨nd, rfl⟩⟩) | (go_at_call 14; (with_reducible refine (wrap_Mul.calls t146 a2 (wrap64 ((wrap64 (a3)) + 1)) t147 _ A25.out).mono ?_); rintro e w' ⟨rfl, ⟨nd, rfl⟩⟩) | (go_at_call 14; (with_reducible refine (wrap_Mul.calls a1 a2 (wrap64 ((wrap64 (a3)) + 1)) t148 _ A26.out).mono ?_); rintro e w' ⟨rfl, ⟨nd, rfl⟩⟩) | (go_at_call 14; (with_reducible refine (wrap_Mul.calls a0 t148 (wrap64 ((wrap64 (a3)) + 1)) t149 _ A27.out).mono ?_); rintro e w' ⟨rfl, ⟨nd, rfl⟩⟩) | (go_at_call 14; (with_reducible refine (wrap_Mul.calls a0 t144 (wrap64 ((wrap64 (a3)) + 1)) t150 _ A29.out).mono ?_); rintro e w' ⟨rfl, ⟨nd, rfl⟩⟩) | (go_at_call 14; (with_reducible refine (wrap_Mul.calls a0 a2 (wrap64 ((wrap64 (a3)) + 1)) t151 _ A30.out).mono ?_); rintro e w' ⟨rfl, ⟨nd, rfl⟩⟩) | (go_at_call 12; (with_reducible refine (wrap_Add.calls t146 t151 (wrap64 ((wrap64 (a3)) + 1)) t152 _ A31.out).mono ?_); rintro e w' ⟨rfl, ⟨nd, rfl⟩⟩) | (go_at_call 11; (with_reducible refine (wrap_In.calls a0 (wrap64 ((wrap64 (a3)) + 1)) t153 _ A33.out).mono ?_); rintro e w' ⟨rfl, ⟨nd, rfl⟩⟩) | (go_at_call 11; (with_reducible refine (wrap_In.calls t153 (wrap64 ((wrap64 (a3)) + 1)) t154 _ A34.out).mono ?_); rintro e w' ⟨rfl, ⟨nd, rfl⟩⟩))
                       go_ret
                       exact ⟨by first | rfl | (simp; done) | (simp [*]; done), by repeat (first | exact Drawn0.refl _ | apply Drawn0.step)⟩)
              · rw [if_neg c32] at H
                have c32b0 : (t150 == t152) = false := beq_eq_false_iff_ne.mpr c32
                have c32b1 : (t150 != t152) = true := bne_iff_ne.mpr c32
                first
                  | exact absurd (Option.some.inj H) (by decide)
                  | (have HT := Option.some.inj H
                     go_wp2_with (first | ((with_reducible refine gate_callee (f := 12) rfl ?_); refine goesL_ (some 59) rfl rfl Try.func12 (by kernel_rfl) rfl #[.int .i64 a0, .int .i64 a1, .int .i64 (wrap64 ((wrap64 (a3)) + 1))] rfl (by (try simp only [List.map_toArray, List.map_cons, List.map_nil]); first | done | rfl | (simp only [List.length_drop, List.length_take]; rfl)) ?_; (with_reducible refine (wrap_Add.calls a0 a1 (wrap64 ((wrap64 (a3)) + 1)) t142 _ A19.out).mono ?_); rintro e w' ⟨rfl, ⟨nd, rfl⟩⟩; refine ⟨_, rfl, ?_⟩) | (go_at_call 12; (with_reducible refine (wrap_Add.calls a0 a1 (wrap64 ((wrap64 (a3)) + 1)) t142 _ A19.out).mono ?_); rintro e w' ⟨rfl, ⟨nd, rfl⟩⟩) | ((with_reducible refine gate_callee (f := 12) rfl ?_); refine goesL_ (some 62) rfl rfl Try.func12 (by kernel_rfl) rfl #[.int .i64 t142, .int .i64 a2, .int .i64 (wrap64 ((wrap64 (a3)) + 1))] rfl (by (try simp only [List.map_toArray, List.map_cons, List.map_nil]); first | done | rfl | (simp only [List.length_drop, List.length_take]; rfl)) ?_; (with_reducible refine (wrap_Add.calls t142 a2 (wrap64 ((wrap64 (a3)) + 1)) t143 _ A20.out).mono ?_); rintro e w' ⟨rfl, ⟨nd, rfl⟩⟩; refine ⟨_, rfl, ?_⟩) | (go_at_call 12; (with_reducible refine (wrap_Add.calls t142 a2 (wrap64 ((wrap64 (a3)) + 1)) t143 _ A20.out).mono ?_); rintro e w' ⟨rfl, ⟨nd, rfl⟩⟩) | ((with_reducible refine gate_callee (f := 12) rfl ?_); refine goesL_ (some 67) rfl rfl Try.func12 (by kernel_rfl) rfl #[.int .i64 a1, .int .i64 a2, .int .i64 (wrap64 ((wrap64 (a3)) + 1))] rfl (by (try simp only [List.map_toArray, List.map_cons, List.map_nil]); first | done | rfl | (simp only [List.length_drop, List.length_take]; rfl)) ?_; (with_reducible refine (wrap_Add.calls a1 a2 (wrap64 ((wrap64 (a3)) + 1)) t144 _ A21.out).mono ?_); rintro e w' ⟨rfl, ⟨nd, rfl⟩⟩; refine ⟨_, rfl, ?_⟩) | (go_at_call 12; (with_reducible refine (wrap_Add.calls a1 a2 (wrap64 ((wrap64 (a3)) + 1)) t144 _ A21.out).mono ?_); rintro e w' ⟨rfl, ⟨nd, rfl⟩⟩) | ((with_reducible refine gate_callee (f := 12) rfl ?_); refine goesL_ (some 69) rfl rfl Try.func12 (by kernel_rfl) rfl #[.int .i64 a0, .int .i64 t144, .int .i64 (wrap64 ((wrap64 (a3)) + 1))] rfl (by (try simp only [List.map_toArray, List.map_cons, List.map_nil]); first | done | rfl | (simp only [List.length_drop, List.length_take]; rfl)) ?_; (with_reducible refine (wrap_Add.calls a0 t144 (wrap64 ((wrap64 (a3)) + 1)) t145 _ A22.out).mono ?_); rintro e w' ⟨rfl, ⟨nd, rfl⟩⟩; refine ⟨_, rfl, ?_⟩) | (go_at_call 12; (with_reducible refine (wrap_Add.calls a0 t144 (wrap64 ((wrap64 (a3)) + 1)) t145 _ A22.out).mono ?_); rintro e w' ⟨rfl, ⟨nd, rfl⟩⟩) | (go_at_call 14; (with_reducible refine (wrap_Mul.calls a0 a1 (wrap64 ((wrap64 (a3)) + 1)) t146 _ A24.out).mono ?_); rintro e w' ⟨rfl, ⟨nd, rfl⟩⟩) | (go_at_call 14; (with_reducible refine (wrap_Mul.calls t146 a2 (wrap64 ((wrap64 (a3)) + 1)) t147 _ A25.out).mono ?_); rintro e w' ⟨rfl, ⟨nd, rfl⟩⟩) | (go_at_call 14; (with_reducible refine (wrap_Mul.calls a1 a2 (wrap64 ((wrap64 (a3)) + 1)) t148 _ A26.out).mono ?_); rintro e w' ⟨rfl, ⟨nd, rfl⟩⟩) | (go_at_call 14; (with_reducible refine (wrap_Mul.calls a0 t148 (wrap64 ((wrap64 (a3)) + 1)) t149 _ A27.out).mono ?_); rintro e w' ⟨rfl, ⟨nd, rfl⟩⟩) | (go_at_call 14; (with_reducible refine (wrap_Mul.calls a0 t144 (wrap64 ((wrap64 (a3)) + 1)) t150 _ A29.out).mono ?_); rintro e w' ⟨rfl, ⟨nd, rfl⟩⟩) | (go_at_call 14; (with_reducible refine (wrap_Mul.calls a0 a2 (wrap64 ((wrap64 (a3)) + 1)) t151 _ A30.out).mono ?_); rintro e w' ⟨rfl, ⟨nd, rfl⟩⟩) | (go_at_call 12; (with_reducible refine (wrap_Add.calls t146 t151 (wrap64 ((wrap64 (a3)) + 1)) t152 _ A31.out).mono ?_); rintro e w' ⟨rfl, ⟨nd, rfl⟩⟩))
                     go_ret
                     exact ⟨by first | rfl | (simp; done) | (simp [*]; done), by repeat (first | exact Drawn0.refl _ | apply Drawn0.step)⟩)
            · rw [if_neg c28] at H
              have c28b0 : (t147 == t149) = false := beq_eq_false_iff_ne.mpr c28
              have c28b1 : (t147 != t149) = true := bne_iff_ne.mpr c28
              first
                | exact absurd (Option.some.inj H) (by decide)
                | (have HT := Option.some.inj H
                   go_wp2_with (first | ((with_reducible refine gate_callee (f := 12) rfl ?_); refine goesL_ (some 59) rfl rfl Try.func12 (by kernel_rfl) rfl #[.int .i64 a0, .int .i64 a1, .int .i64 (wrap64 ((wrap64 (a3)) + 1))] rfl (by (try simp only [List.map_toArray, List.map_cons, List.map_nil]); first | done | rfl | (simp only [List.length_drop, List.length_take]; rfl)) ?_; (with_reducible refine (wrap_Add.calls a0 a1 (wrap64 ((wrap64 (a3)) + 1)) t142 _ A19.out).mono ?_); rintro e w' ⟨rfl, ⟨nd, rfl⟩⟩; refine ⟨_, rfl, ?_⟩) | (go_at_call 12; (with_reducible refine (wrap_Add.calls a0 a1 (wrap64 ((wrap64 (a3)) + 1)) t142 _ A19.out).mono ?_); rintro e w' ⟨rfl, ⟨nd, rfl⟩⟩) | ((with_reducible refine gate_callee (f := 12) rfl ?_); refine goesL_ (some 62) rfl rfl Try.func12 (by kernel_rfl) rfl #[.int .i64 t142, .int .i64 a2, .int .i64 (wrap64 ((wrap64 (a3)) + 1))] rfl (by (try simp only [List.map_toArray, List.map_cons, List.map_nil]); first | done | rfl | (simp only [List.length_drop, List.length_take]; rfl)) ?_; (with_reducible refine (wrap_Add.calls t142 a2 (wrap64 ((wrap64 (a3)) + 1)) t143 _ A20.out).mono ?_); rintro e w' ⟨rfl, ⟨nd, rfl⟩⟩; refine ⟨_, rfl, ?_⟩) | (go_at_call 12; (with_reducible refine (wrap_Add.calls t142 a2 (wrap64 ((wrap64 (a3)) + 1)) t143 _ A20.out).mono ?_); rintro e w' ⟨rfl, ⟨nd, rfl⟩⟩) | ((with_reducible refine gate_callee (f := 12) rfl ?_); refine goesL_ (some 67) rfl rfl Try.func12 (by kernel_rfl) rfl #[.int .i64 a1, .int .i64 a2, .int .i64 (wrap64 ((wrap64 (a3)) + 1))] rfl (by (try simp only [List.map_toArray, List.map_cons, List.map_nil]); first | done | rfl | (simp only [List.length_drop, List.length_take]; rfl)) ?_; (with_reducible refine (wrap_Add.calls a1 a2 (wrap64 ((wrap64 (a3)) + 1)) t144 _ A21.out).mono ?_); rintro e w' ⟨rfl, ⟨nd, rfl⟩⟩; refine ⟨_, rfl, ?_⟩) | (go_at_call 12; (with_reducible refine (wrap_Add.calls a1 a2 (wrap64 ((wrap64 (a3)) + 1)) t144 _ A21.out).mono ?_); rintro e w' ⟨rfl, ⟨nd, rfl⟩⟩) | ((with_reducible refine gate_callee (f := 12) rfl ?_); refine goesL_ (some 69) rfl rfl Try.func12 (by kernel_rfl) rfl #[.int .i64 a0, .int .i64 t144, .int .i64 (wrap64 ((wrap64 (a3)) + 1))] rfl (by (try simp only [List.map_toArray, List.map_cons, List.map_nil]); first | done | rfl | (simp only [List.length_drop, List.length_take]; rfl)) ?_; (with_reducible refine (wrap_Add.calls a0 t144 (wrap64 ((wrap64 (a3)) + 1)) t145 _ A22.out).mono ?_); rintro e w' ⟨rfl, ⟨nd, rfl⟩⟩; refine ⟨_, rfl, ?_⟩) | (go_at_call 12; (with_reducible refine (wrap_Add.calls a0 t144 (wrap64 ((wrap64 (a3)) + 1)) t145 _ A22.out).mono ?_); rintro e w' ⟨rfl, ⟨nd, rfl⟩⟩) | (go_at_call 14; (with_reducible refine (wrap_Mul.calls a0 a1 (wrap64 ((wrap64 (a3)) + 1)) t146 _ A24.out).mono ?_); rintro e w' ⟨rfl, ⟨nd, rfl⟩⟩) | (go_at_call 14; (with_reducible refine (wrap_Mul.calls t146 a2 (wrap64 ((wrap64 (a3)) + 1)) t147 _ A25.out).mono ?_); rintro e w' ⟨rfl, ⟨nd, rfl⟩⟩) | (go_at_call 14; (with_reducible refine (wrap_Mul.calls a1 a2 (wrap64 ((wrap64 (a3)) + 1)) t148 _ A26.out).mono ?_); rintro e w' ⟨rfl, ⟨nd, rfl⟩⟩) | (go_at_call 14; (with_reducible refine (wrap_Mul.calls a0 t148 (wrap64 ((wrap64 (a3)) + 1)) t149 _ A27.out).mono ?_); rintro e w' ⟨rfl, ⟨nd, rfl⟩⟩))
                   go_ret
                   exact ⟨by first | rfl | (simp; done) | (simp [*]; done), by repeat (first | exact Drawn0.refl _ | apply Drawn0.step)⟩)
          · rw [if_neg c23] at H
            have c23b0 : (t143 == t145) = false := beq_eq_false_iff_ne.mpr c23
            have c23b1 : (t143 != t145) = true := bne_iff_ne.mpr c23
            first
              | exact absurd (Option.some.inj H) (by decide)
              | (have HT := Option.some.inj H
                 go_wp2_with (first | ((with_reducible refine gate_callee (f := 12) rfl ?_); refine goesL_ (some 59) rfl rfl Try.func12 (by kernel_rfl) rfl #[.int .i64 a0, .int .i64 a1, .int .i64 (wrap64 ((wrap64 (a3)) + 1))] rfl (by (try simp only [List.map_toArray, List.map_cons, List.map_nil]); first | done | rfl | (simp only [List.length_drop, List.length_take]; rfl)) ?_; (with_reducible refine (wrap_Add.calls a0 a1 (wrap64 ((wrap64 (a3)) + 1)) t142 _ A19.out).mono ?_); rintro e w' ⟨rfl, ⟨nd, rfl⟩⟩; refine ⟨_, rfl, ?_⟩) | (go_at_call 12; (with_reducible refine (wrap_Add.calls a0 a1 (wrap64 ((wrap64 (a3)) + 1)) t142 _ A19.out).mono ?_); rintro e w' ⟨rfl, ⟨nd, rfl⟩⟩) | ((with_reducible refine gate_callee (f := 12) rfl ?_); refine goesL_ (some 62) rfl rfl Try.func12 (by kernel_rfl) rfl #[.int .i64 t142, .int .i64 a2, .int .i64 (wrap64 ((wrap64 (a3)) + 1))] rfl (by (try simp only [List.map_toArray, List.map_cons, List.map_nil]); first | done | rfl | (simp only [List.length_drop, List.length_take]; rfl)) ?_; (with_reducible refine (wrap_Add.calls t142 a2 (wrap64 ((wrap64 (a3)) + 1)) t143 _ A20.out).mono ?_); rintro e w' ⟨rfl, ⟨nd, rfl⟩⟩; refine ⟨_, rfl, ?_⟩) | (go_at_call 12; (with_reducible refine (wrap_Add.calls t142 a2 (wrap64 ((wrap64 (a3)) + 1)) t143 _ A20.out).mono ?_); rintro e w' ⟨rfl, ⟨nd, rfl⟩⟩) | ((with_reducible refine gate_callee (f := 12) rfl ?_); refine goesL_ (some 67) rfl rfl Try.func12 (by kernel_rfl) rfl #[.int .i64 a1, .int .i64 a2, .int .i64 (wrap64 ((wrap64 (a3)) + 1))] rfl (by (try simp only [List.map_toArray, List.map_cons, List.map_nil]); first | done | rfl | (simp only [List.length_drop, List.length_take]; rfl)) ?_; (with_reducible refine (wrap_Add.calls a1 a2 (wrap64 ((wrap64 (a3)) + 1)) t144 _ A21.out).mono ?_); rintro e w' ⟨rfl, ⟨nd, rfl⟩⟩; refine ⟨_, rfl, ?_⟩) | (go_at_call 12; (with_reducible refine (wrap_Add.calls a1 a2 (wrap64 ((wrap64 (a3)) + 1)) t144 _ A21.out).mono ?_); rintro e w' ⟨rfl, ⟨nd, rfl⟩⟩) | ((with_reducible refine gate_callee (f := 12) rfl ?_); refine goesL_ (some 69) rfl rfl Try.func12 (by kernel_rfl) rfl #[.int .i64 a0, .int .i64 t144, .int .i64 (wrap64 ((wrap64 (a3)) + 1))] rfl (by (try simp only [List.map_toArray, List.map_cons, List.map_nil]); first | done | rfl | (simp only [List.length_drop, List.length_take]; rfl)) ?_; (with_reducible refine (wrap_Add.calls a0 t144 (wrap64 ((wrap64 (a3)) + 1)) t145 _ A22.out).mono ?_); rintro e w' ⟨rfl, ⟨nd, rfl⟩⟩; refine ⟨_, rfl, ?_⟩) | (go_at_call 12; (with_reducible refine (wrap_Add.calls a0 t144 (wrap64 ((wrap64 (a3)) + 1)) t145 _ A22.out).mono ?_); rintro e w' ⟨rfl, ⟨nd, rfl⟩⟩))
                 go_ret
                 exact ⟨by first | rfl | (simp; done) | (simp [*]; done), by repeat (first | exact Drawn0.refl _ | apply Drawn0.step)⟩)
  · replace c6 := Bool.eq_false_iff.mpr c6
    subst c6
    have H1 : (some false) = some true := by rw [if_neg (show ¬ (false = true) by decide)] at H; exact H
    clear H
    have H := H1
    clear H1
    first
      | exact absurd (Option.some.inj H) (by decide)
      | (have HT := Option.some.inj H
         go_enter Try.func4, Try.ntmps4
         go_wp2_with (first | ((with_reducible refine gate_callee (f := 9) rfl ?_); refine goesL_ (some 11) rfl rfl Try.func9 (by kernel_rfl) rfl #[] rfl (by (try simp only [List.map_toArray, List.map_cons, List.map_nil]); first | done | rfl | (simp only [List.length_drop, List.length_take]; rfl)) ?_; (with_reducible refine (withelaw5_begun.calls k  false _ A5.out).mono ?_); rintro e w' ⟨rfl, ⟨nd, rfl⟩⟩; refine ⟨_, rfl, ?_⟩) | (go_at_call 9; (with_reducible refine (withelaw5_begun.calls k  false _ A5.out).mono ?_); rintro e w' ⟨rfl, ⟨nd, rfl⟩⟩))
         go_ret
         exact ⟨by first | rfl | (simp; done) | (simp [*]; done), by repeat (first | exact Drawn0.refl _ | apply Drawn0.step)⟩)

/-- THE ONE PURE STATEMENT of withelaw5_WrapRing: yours. -/
def withelaw5_WrapRing.Pure : Prop := ∀ (a0 : Int) (a1 : Int) (a2 : Int) (a3 : Int), (Lit.int .i64 a0).wf = true → (Lit.int .i64 a1).wf = true → (Lit.int .i64 a2).wf = true → (Lit.int .u16 a3).wf = true → ∃ k, withelaw5_WrapRing.f k a0 a1 a2 a3 = some true
theorem withelaw5_WrapRing.walk (P : withelaw5_WrapRing.Pure) (a0 : Int) (a1 : Int) (a2 : Int) (a3 : Int) (w : World) (w0 : (Lit.int .i64 a0).wf = true) (w1 : (Lit.int .i64 a1).wf = true) (w2 : (Lit.int .i64 a2).wf = true) (w3 : (Lit.int .u16 a3).wf = true) :
    Calls Try.prog 4 #[.int .i64 a0, .int .i64 a1, .int .i64 a2, .int .u16 a3] w fun e w' => e = .returned (.bool true) ∧ Below w.heap.size w w' := by
  obtain ⟨k, h⟩ := P a0 a1 a2 a3 w0 w1 w2 w3
  refine (withelaw5_WrapRing.calls k a0 a1 a2 a3 w h).mono ?_
  rintro e w' ⟨rfl, hd⟩
  exact ⟨rfl, hd.below⟩

end Go.Proofs.Ytpkhcmholpljnaa.PW5
