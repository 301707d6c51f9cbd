-- Printed by this claim's own program (wip/tools/xprint.py) over the kit's printer.
import Derived.Test.YtpkhcmholpljnaaPW5x0
import Derived.Test.YtpkhcmholpljnaaPW5x1
namespace Go.Proofs.Ytpkhcmholpljnaa.PW5
open Go.RowKit Go.Proofs.YtpkhcmholpljnaaW.PrintWords Go.Proofs.YtpkhcmholpljnaaW.PrintLast Go.Proofs.YtpkhcmholpljnaaW.PrintMore
attribute [local go_sem] max2_int min2_int max_two min_two max_three min_three max_four min_four   -- for this text's walks alone
set_option linter.unusedVariables false
set_option linter.unusedSimpArgs false

/-! ### withelaw5_WrapStops: function 5 -/
mutual
def withelaw5_WrapStops.j0 : Nat → Int → Int → Int → Int → Int → Int → Bool → Option (Bool)
  | 0, _, _, _, _, _, _, _ => none
  | k + 1, x0, x1, x2, x3, x9, x10, x47 => if x47 = true then (some false) else (if x2 ≥ x1 then ((wrap_Plus.f x0 x2).bind fun t161 => (if t161 < x9 then (withelaw5_WrapStops.j1 k x0 x1 x2 x3 true) else ((wrap_Times.f x0 x2).bind fun t162 => (withelaw5_WrapStops.j1 k x0 x1 x2 x3 (decide (t162 < x10)))))) else (withelaw5_WrapStops.j1 k x0 x1 x2 x3 false))
def withelaw5_WrapStops.j1 : Nat → Int → Int → Int → Int → Bool → Option (Bool)
  | 0, _, _, _, _, _ => none
  | k + 1, x0, x1, x2, x3, x64 => if x64 = true then (some false) else ((wrap_Plus.f x0 x1).bind fun t163 => ((wrap_Plus.f t163 x2).bind fun t164 => ((wrap_Plus.f x1 x2).bind fun t165 => ((wrap_Plus.f x0 t165).bind fun t166 => (if t164 = t166 then ((wrap_Times.f x0 x1).bind fun t167 => ((wrap_Times.f t167 x2).bind fun t168 => ((wrap_Times.f x1 x2).bind fun t169 => ((wrap_Times.f x0 t169).bind fun t170 => (if t168 = t170 then ((wrap_Power.f k x0 (wrap64 ((wrap64 (Int.tmod x3 70)) + 1))).bind fun t171 => ((wrap_Power.f k x0 (wrap64 (Int.tmod x3 70))).bind fun t172 => ((wrap_Times.f t172 x0).bind fun t173 => (if t171 = t173 then ((wrap_Power.f k x0 0).bind fun t174 => (if t174 = 1 then ((wrap_Power.f k 2 (wrap64 (Int.tmod x3 70))).bind fun t175 => (if 0 ≤ (IntKind.u64.wrap (mn (wrap64 (Int.tmod x3 70)) 62)) then (some (t175 == (mn 4611686018427387904 (shl .i64 1 (IntKind.u64.wrap (mn (wrap64 (Int.tmod x3 70)) 62)))))) else (none))) else (some false))) else (some false))))) else (some false)))))) else (some false))))))
end
def withelaw5_WrapStops.f (k : Nat) (a0 : Int) (a1 : Int) (a2 : Int) (a3 : Int) : Option (Bool) := (withelaw5_begun.f k).bind fun t156 => (if t156 = true then ((wrap_Plus.f a0 a1).bind fun t157 => ((wrap_Times.f a0 a1).bind fun t158 => (if t157 < 0 then (withelaw5_WrapStops.j0 k a0 a1 a2 a3 t157 t158 true) else (if t157 > 4611686018427387904 then (withelaw5_WrapStops.j0 k a0 a1 a2 a3 t157 t158 true) else (if t158 < 0 then (withelaw5_WrapStops.j0 k a0 a1 a2 a3 t157 t158 true) else (if t158 > 4611686018427387904 then (withelaw5_WrapStops.j0 k a0 a1 a2 a3 t157 t158 true) else ((wrap_Plus.f a1 a0).bind fun t159 => (if t157 = t159 then ((wrap_Times.f a1 a0).bind fun t160 => (withelaw5_WrapStops.j0 k a0 a1 a2 a3 t157 t158 (t158 != t160))) else (withelaw5_WrapStops.j0 k a0 a1 a2 a3 t157 t158 true))))))))) else (some false))
theorem withelaw5_WrapStops.mono_l : ∀ k, (∀ y0 y1 y2 y3 y4 y5 y6, LeO (withelaw5_WrapStops.j0 k y0 y1 y2 y3 y4 y5 y6) (withelaw5_WrapStops.j0 (k + 1) y0 y1 y2 y3 y4 y5 y6)) ∧ (∀ y0 y1 y2 y3 y4, LeO (withelaw5_WrapStops.j1 k y0 y1 y2 y3 y4) (withelaw5_WrapStops.j1 (k + 1) y0 y1 y2 y3 y4))
  | 0 => ⟨fun _ _ _ _ _ _ _ r h => by simp [withelaw5_WrapStops.j0] at h, fun _ _ _ _ _ r h => by simp [withelaw5_WrapStops.j1] at h⟩
  | k + 1 => by
    obtain ⟨ih0, ih1⟩ := withelaw5_WrapStops.mono_l k
    refine ⟨?_, ?_⟩
    · intro y0 y1 y2 y3 y4 y5 y6
      unfold withelaw5_WrapStops.j0
      repeat' first
      | (with_reducible exact ih0 _ _ _ _ _ _ _)
      | (with_reducible exact ih1 _ _ _ _ _)
      | (with_reducible exact withelaw5_begun.mono _)
      | (with_reducible exact wrap_Power.mono _ _ _)
      | (with_reducible exact LeO.refl _)
      | (with_reducible exact LeO.none _)
      | (with_reducible refine LeO.ite ?_ ?_)
      | (with_reducible refine LeO.bind ?_ (fun _ => ?_))
      | exact ih0 _ _ _ _ _ _ _
      | exact ih1 _ _ _ _ _
      | exact withelaw5_begun.mono _
      | exact wrap_Power.mono _ _ _
      | exact LeO.none _
      | refine LeO.ite ?_ ?_
      | refine LeO.bind ?_ (fun _ => ?_)
    · intro y0 y1 y2 y3 y4
      unfold withelaw5_WrapStops.j1
      repeat' first
      | (with_reducible exact ih0 _ _ _ _ _ _ _)
      | (with_reducible exact ih1 _ _ _ _ _)
      | (with_reducible exact withelaw5_begun.mono _)
      | (with_reducible exact wrap_Power.mono _ _ _)
      | (with_reducible exact LeO.refl _)
      | (with_reducible exact LeO.none _)
      | (with_reducible refine LeO.ite ?_ ?_)
      | (with_reducible refine LeO.bind ?_ (fun _ => ?_))
      | exact ih0 _ _ _ _ _ _ _
      | exact ih1 _ _ _ _ _
      | exact withelaw5_begun.mono _
      | exact wrap_Power.mono _ _ _
      | exact LeO.none _
      | refine LeO.ite ?_ ?_
      | refine LeO.bind ?_ (fun _ => ?_)
theorem withelaw5_WrapStops.mono : ∀ a0 a1 a2 a3 k, LeO (withelaw5_WrapStops.f k a0 a1 a2 a3) (withelaw5_WrapStops.f (k + 1) a0 a1 a2 a3) := by
  intro a0 a1 a2 a3 k
  obtain ⟨ih0, ih1⟩ := withelaw5_WrapStops.mono_l k
  unfold withelaw5_WrapStops.f
  repeat' first
      | (with_reducible exact ih0 _ _ _ _ _ _ _)
      | (with_reducible exact ih1 _ _ _ _ _)
      | (with_reducible exact withelaw5_begun.mono _)
      | (with_reducible exact wrap_Power.mono _ _ _)
      | (with_reducible exact LeO.refl _)
      | (with_reducible exact LeO.none _)
      | (with_reducible refine LeO.ite ?_ ?_)
      | (with_reducible refine LeO.bind ?_ (fun _ => ?_))
      | exact ih0 _ _ _ _ _ _ _
      | exact ih1 _ _ _ _ _
      | exact withelaw5_begun.mono _
      | exact wrap_Power.mono _ _ _
      | exact LeO.none _
      | refine LeO.ite ?_ ?_
      | refine LeO.bind ?_ (fun _ => ?_)
set_option maxHeartbeats 8000000 in
set_option maxRecDepth 100000 in
theorem withelaw5_WrapStops.calls (k : Nat) (a0 : Int) (a1 : Int) (a2 : Int) (a3 : Int) (w : World) (h : withelaw5_WrapStops.f k a0 a1 a2 a3 = some true) :
    Calls Try.prog 5 #[.int .i64 a0, .int .i64 a1, .int .i64 a2, .int .u8 a3] w fun e w' => e = .returned (.bool true) ∧ Below w.heap.size w w' := by
  have HB := Aside0.mk (Below.refl w.heap.size w)
  have H : ((withelaw5_begun.f k).bind fun t156 => (if t156 = true then ((wrap_Plus.f a0 a1).bind fun t157 => ((wrap_Times.f a0 a1).bind fun t158 => (if t157 < 0 then (withelaw5_WrapStops.j0 k a0 a1 a2 a3 t157 t158 true) else (if t157 > 4611686018427387904 then (withelaw5_WrapStops.j0 k a0 a1 a2 a3 t157 t158 true) else (if t158 < 0 then (withelaw5_WrapStops.j0 k a0 a1 a2 a3 t157 t158 true) else (if t158 > 4611686018427387904 then (withelaw5_WrapStops.j0 k a0 a1 a2 a3 t157 t158 true) else ((wrap_Plus.f a1 a0).bind fun t159 => (if t157 = t159 then ((wrap_Times.f a1 a0).bind fun t160 => (withelaw5_WrapStops.j0 k a0 a1 a2 a3 t157 t158 (t158 != t160))) else (withelaw5_WrapStops.j0 k a0 a1 a2 a3 t157 t158 true))))))))) else (some false))) = some true := h
  clear h
  replace H := Option.bind_eq_some_iff.mp H
  obtain ⟨t156, A50, H⟩ := H
  replace H : (if t156 = true then ((wrap_Plus.f a0 a1).bind fun t157 => ((wrap_Times.f a0 a1).bind fun t158 => (if t157 < 0 then (withelaw5_WrapStops.j0 k a0 a1 a2 a3 t157 t158 true) else (if t157 > 4611686018427387904 then (withelaw5_WrapStops.j0 k a0 a1 a2 a3 t157 t158 true) else (if t158 < 0 then (withelaw5_WrapStops.j0 k a0 a1 a2 a3 t157 t158 true) else (if t158 > 4611686018427387904 then (withelaw5_WrapStops.j0 k a0 a1 a2 a3 t157 t158 true) else ((wrap_Plus.f a1 a0).bind fun t159 => (if t157 = t159 then ((wrap_Times.f a1 a0).bind fun t160 => (withelaw5_WrapStops.j0 k a0 a1 a2 a3 t157 t158 (t158 != t160))) else (withelaw5_WrapStops.j0 k a0 a1 a2 a3 t157 t158 true))))))))) else (some false)) = some true := H
  have A5 := Aside0.mk A50
  clear A50
  by_cases c6 : t156 = true
  · subst c6
    have H1 : ((wrap_Plus.f a0 a1).bind fun t157 => ((wrap_Times.f a0 a1).bind fun t158 => (if t157 < 0 then (withelaw5_WrapStops.j0 k a0 a1 a2 a3 t157 t158 true) else (if t157 > 4611686018427387904 then (withelaw5_WrapStops.j0 k a0 a1 a2 a3 t157 t158 true) else (if t158 < 0 then (withelaw5_WrapStops.j0 k a0 a1 a2 a3 t157 t158 true) else (if t158 > 4611686018427387904 then (withelaw5_WrapStops.j0 k a0 a1 a2 a3 t157 t158 true) else ((wrap_Plus.f a1 a0).bind fun t159 => (if t157 = t159 then ((wrap_Times.f a1 a0).bind fun t160 => (withelaw5_WrapStops.j0 k a0 a1 a2 a3 t157 t158 (t158 != t160))) else (withelaw5_WrapStops.j0 k a0 a1 a2 a3 t157 t158 true))))))))) = some true := by rw [if_pos rfl] at H; exact H
    clear H
    have H := H1
    clear H1
    replace H := Option.bind_eq_some_iff.mp H
    obtain ⟨t157, A70, H⟩ := H
    replace H : ((wrap_Times.f a0 a1).bind fun t158 => (if t157 < 0 then (withelaw5_WrapStops.j0 k a0 a1 a2 a3 t157 t158 true) else (if t157 > 4611686018427387904 then (withelaw5_WrapStops.j0 k a0 a1 a2 a3 t157 t158 true) else (if t158 < 0 then (withelaw5_WrapStops.j0 k a0 a1 a2 a3 t157 t158 true) else (if t158 > 4611686018427387904 then (withelaw5_WrapStops.j0 k a0 a1 a2 a3 t157 t158 true) else ((wrap_Plus.f a1 a0).bind fun t159 => (if t157 = t159 then ((wrap_Times.f a1 a0).bind fun t160 => (withelaw5_WrapStops.j0 k a0 a1 a2 a3 t157 t158 (t158 != t160))) else (withelaw5_WrapStops.j0 k a0 a1 a2 a3 t157 t158 true)))))))) = some true := H
    have A7 := Aside0.mk A70
    clear A70
    replace H := Option.bind_eq_some_iff.mp H
    obtain ⟨t158, A80, H⟩ := H
    replace H : (if t157 < 0 then (withelaw5_WrapStops.j0 k a0 a1 a2 a3 t157 t158 true) else (if t157 > 4611686018427387904 then (withelaw5_WrapStops.j0 k a0 a1 a2 a3 t157 t158 true) else (if t158 < 0 then (withelaw5_WrapStops.j0 k a0 a1 a2 a3 t157 t158 true) else (if t158 > 4611686018427387904 then (withelaw5_WrapStops.j0 k a0 a1 a2 a3 t157 t158 true) else ((wrap_Plus.f a1 a0).bind fun t159 => (if t157 = t159 then ((wrap_Times.f a1 a0).bind fun t160 => (withelaw5_WrapStops.j0 k a0 a1 a2 a3 t157 t158 (t158 != t160))) else (withelaw5_WrapStops.j0 k a0 a1 a2 a3 t157 t158 true))))))) = some true := H
    have A8 := Aside0.mk A80
    clear A80
    have HC9 := Aside0.mk H
    clear H
    go_enter Try.func5, Try.ntmps5
    go_upto_region 4 with (first | ((with_reducible refine gate_callee (f := 9) rfl ?_); refine goesL_ (some 12) rfl rfl Try.func9 (by kernel_rfl) rfl #[] rfl (by (try simp only [List.map_toArray, List.map_cons, List.map_nil]); first | done | rfl | (simp only [List.length_drop, List.length_take]; rfl)) ?_; (with_reducible refine (withelaw5_begun.calls k  true _ A5.out).mono ?_); rintro e w' ⟨rfl, ⟨nd, rfl⟩⟩; refine ⟨_, rfl, ?_⟩) | (go_at_call 9; (with_reducible refine (withelaw5_begun.calls k  true _ A5.out).mono ?_); rintro e w' ⟨rfl, ⟨nd, rfl⟩⟩) | ((with_reducible refine gate_callee (f := 16) rfl ?_); refine goesL_ (some 16) rfl rfl Try.func16 (by kernel_rfl) rfl #[.int .i64 a0, .int .i64 a1] rfl (by (try simp only [List.map_toArray, List.map_cons, List.map_nil]); first | done | rfl | (simp only [List.length_drop, List.length_take]; rfl)) ?_; (with_reducible refine (wrap_Plus.calls a0 a1 t157 _ A7.out).mono ?_); rintro e w' ⟨rfl, ⟨nd, rfl⟩⟩; refine ⟨_, rfl, ?_⟩) | (go_at_call 16; (with_reducible refine (wrap_Plus.calls a0 a1 t157 _ A7.out).mono ?_); rintro e w' ⟨rfl, ⟨nd, rfl⟩⟩) | ((with_reducible refine gate_callee (f := 18) rfl ?_); refine goesL_ (some 19) rfl rfl Try.func18 (by kernel_rfl) rfl #[.int .i64 a0, .int .i64 a1] rfl (by (try simp only [List.map_toArray, List.map_cons, List.map_nil]); first | done | rfl | (simp only [List.length_drop, List.length_take]; rfl)) ?_; (with_reducible refine (wrap_Times.calls a0 a1 t158 _ A8.out).mono ?_); rintro e w' ⟨rfl, ⟨nd, rfl⟩⟩; refine ⟨_, rfl, ?_⟩) | (go_at_call 18; (with_reducible refine (wrap_Times.calls a0 a1 t158 _ A8.out).mono ?_); rintro e w' ⟨rfl, ⟨nd, rfl⟩⟩))
    (try simp only [Act.put, List.setIfInBounds_toArray, List.set_cons_zero, List.set_cons_succ])
    go_cut [47] (fun v47 wc => ∃ (kq : Nat) (x47_8 : Bool), v47 = .bool x47_8 ∧ Aside0 (withelaw5_WrapStops.j0 kq a0 a1 a2 a3 t157 t158 x47_8 = some true) ∧ Aside0 (kq ≤ k) ∧ Aside0 (Below w.heap.size w wc))
    case first =>
      have H := HC9.out
      clear HC9
      by_cases c10 : t157 < 0
      · rw [if_pos c10] at H
        have c10b0 : decide (t157 < 0) = true := decide_eq_true c10
        clear c10
        (first | rw [c10b0] | (simp only [i64_w, i32_w]; rw [c10b0]) | skip)
        have H' := Aside0.mk H
        clear H
        go_wp2
        go_meet
        case rel => exact ⟨_, (true), (by first | rfl | (simp; done) | (simp [*]; done)), H', ⟨by first | omega | exact Nat.le_refl _⟩, ⟨by repeat (first | (with_reducible first | exact HB.out | apply below_alloc | apply pw_below_drewN | apply below_drew1) | exact HB.out)⟩⟩
      · rw [if_neg c10] at H
        have c10b0 : decide (t157 < 0) = false := decide_eq_false c10
        clear c10
        (first | rw [c10b0] | (simp only [i64_w, i32_w]; rw [c10b0]) | skip)
        by_cases c11 : t157 > 4611686018427387904
        · rw [if_pos c11] at H
          have c11b0 : decide (4611686018427387904 < t157) = true := decide_eq_true c11
          clear c11
          have H' := Aside0.mk H
          clear H
          go_wp2
          go_meet
          case rel => exact ⟨_, (true), (by first | rfl | (simp; done) | (simp [*]; done)), H', ⟨by first | omega | exact Nat.le_refl _⟩, ⟨by repeat (first | (with_reducible first | exact HB.out | apply below_alloc | apply pw_below_drewN | apply below_drew1) | exact HB.out)⟩⟩
        · rw [if_neg c11] at H
          have c11b0 : decide (4611686018427387904 < t157) = false := decide_eq_false c11
          clear c11
          by_cases c12 : t158 < 0
          · rw [if_pos c12] at H
            have c12b0 : decide (t158 < 0) = true := decide_eq_true c12
            clear c12
            have H' := Aside0.mk H
            clear H
            go_wp2
            go_meet
            case rel => exact ⟨_, (true), (by first | rfl | (simp; done) | (simp [*]; done)), H', ⟨by first | omega | exact Nat.le_refl _⟩, ⟨by repeat (first | (with_reducible first | exact HB.out | apply below_alloc | apply pw_below_drewN | apply below_drew1) | exact HB.out)⟩⟩
          · rw [if_neg c12] at H
            have c12b0 : decide (t158 < 0) = false := decide_eq_false c12
            clear c12
            by_cases c13 : t158 > 4611686018427387904
            · rw [if_pos c13] at H
              have c13b0 : decide (4611686018427387904 < t158) = true := decide_eq_true c13
              clear c13
              have H' := Aside0.mk H
              clear H
              go_wp2
              go_meet
              case rel => exact ⟨_, (true), (by first | rfl | (simp; done) | (simp [*]; done)), H', ⟨by first | omega | exact Nat.le_refl _⟩, ⟨by repeat (first | (with_reducible first | exact HB.out | apply below_alloc | apply pw_below_drewN | apply below_drew1) | exact HB.out)⟩⟩
            · rw [if_neg c13] at H
              have c13b0 : decide (4611686018427387904 < t158) = false := decide_eq_false c13
              clear c13
              replace H := Option.bind_eq_some_iff.mp H
              obtain ⟨t159, A140, H⟩ := H
              replace H : (if t157 = t159 then ((wrap_Times.f a1 a0).bind fun t160 => (withelaw5_WrapStops.j0 k a0 a1 a2 a3 t157 t158 (t158 != t160))) else (withelaw5_WrapStops.j0 k a0 a1 a2 a3 t157 t158 true)) = some true := H
              have A14 := Aside0.mk A140
              clear A140
              by_cases c15 : t157 = t159
              · rw [if_pos c15] at H
                have c15b0 : (t157 == t159) = true := beq_iff_eq.mpr c15
                have c15b1 : (t157 != t159) = false := bne_eq_false_iff_eq.mpr c15
                clear c15
                replace H := Option.bind_eq_some_iff.mp H
                obtain ⟨t160, A160, H⟩ := H
                replace H : (withelaw5_WrapStops.j0 k a0 a1 a2 a3 t157 t158 (t158 != t160)) = some true := H
                have A16 := Aside0.mk A160
                clear A160
                have H' := Aside0.mk H
                clear H
                go_wp2_with (first | (go_at_call 16; (with_reducible refine (wrap_Plus.calls a1 a0 t159 _ A14.out).mono ?_); rintro e w' ⟨rfl, ⟨nd, rfl⟩⟩) | (go_at_call 18; (with_reducible refine (wrap_Times.calls a1 a0 t160 _ A16.out).mono ?_); rintro e w' ⟨rfl, ⟨nd, rfl⟩⟩))
                go_meet
                case rel => exact ⟨_, ((t158 != t160)), (by first | rfl | (simp; done) | (simp [*]; done)), H', ⟨by first | omega | exact Nat.le_refl _⟩, ⟨by repeat (first | (with_reducible first | exact HB.out | apply below_alloc | apply pw_below_drewN | apply below_drew1) | exact HB.out)⟩⟩
              · rw [if_neg c15] at H
                have c15b0 : (t157 == t159) = false := beq_eq_false_iff_ne.mpr c15
                have c15b1 : (t157 != t159) = true := bne_iff_ne.mpr c15
                have H' := Aside0.mk H
                clear H
                go_wp2_with (first | (go_at_call 16; (with_reducible refine (wrap_Plus.calls a1 a0 t159 _ A14.out).mono ?_); rintro e w' ⟨rfl, ⟨nd, rfl⟩⟩))
                go_meet
                case rel => exact ⟨_, (true), (by first | rfl | (simp; done) | (simp [*]; done)), H', ⟨by first | omega | exact Nat.le_refl _⟩, ⟨by repeat (first | (with_reducible first | exact HB.out | apply below_alloc | apply pw_below_drewN | apply below_drew1) | exact HB.out)⟩⟩
    case rest =>
      clear HC9
      try clear c1
      try clear p2
      try clear c5
      try clear c6
      try clear c9
      try clear c10
      try clear c10b0
      try clear c11
      try clear c11b0
      try clear c12
      try clear c12b0
      try clear c13
      try clear c13b0
      try clear c15
      try clear c15b0
      try clear c15b1
      try clear c16
      obtain ⟨kq, x47_8, rfl, HA, HJ8, HB⟩ := hcut
      cases kq with
      | zero => exact absurd HA.out (by simp [withelaw5_WrapStops.j0])
      | succ kj8 =>
        have H := HA.out
        clear HA
        simp only [withelaw5_WrapStops.j0] at H
        by_cases c17 : x47_8 = true
        · subst c17
          have H1 : (some false) = some true := by rw [if_pos rfl] at H; exact H
          clear H
          have H := H1
          clear H1
          first
            | exact absurd (Option.some.inj H) (by decide)
            | (have HT := Option.some.inj H
               go_wp2
               go_ret
               exact ⟨by first | rfl | (simp [errW_none, errW_some] <;> rfl) | (simp [*, errW_none, errW_some] <;> rfl), by repeat (first | (with_reducible first | exact HB.out | apply below_alloc | apply pw_below_drewN | apply below_drew1) | exact HB.out)⟩)
        · replace c17 := Bool.eq_false_iff.mpr c17
          subst c17
          have H1 : (if a2 ≥ a1 then ((wrap_Plus.f a0 a2).bind fun t161 => (if t161 < t157 then (withelaw5_WrapStops.j1 kj8 a0 a1 a2 a3 true) else ((wrap_Times.f a0 a2).bind fun t162 => (withelaw5_WrapStops.j1 kj8 a0 a1 a2 a3 (decide (t162 < t158)))))) else (withelaw5_WrapStops.j1 kj8 a0 a1 a2 a3 false)) = some true := by rw [if_neg (show ¬ (false = true) by decide)] at H; exact H
          clear H
          have H := H1
          clear H1
          have HC18 := Aside0.mk H
          clear H
          go_upto_region 6 with (fail)
          go_cut [64] (fun v64 wc => ∃ (kq : Nat) (x64_17 : Bool), v64 = .bool x64_17 ∧ Aside0 (withelaw5_WrapStops.j1 kq a0 a1 a2 a3 x64_17 = some true) ∧ Aside0 (kq ≤ kj8) ∧ Aside0 (Below w.heap.size w wc))
          case first =>
            have H := HC18.out
            clear HC18
            by_cases c19 : a2 ≥ a1
            · rw [if_pos c19] at H
              have c19b0 : decide (a1 ≤ a2) = true := decide_eq_true c19
              clear c19
              (first | rw [c19b0] | (simp only [i64_w, i32_w]; rw [c19b0]) | skip)
              replace H := Option.bind_eq_some_iff.mp H
              obtain ⟨t161, A200, H⟩ := H
              replace H : (if t161 < t157 then (withelaw5_WrapStops.j1 kj8 a0 a1 a2 a3 true) else ((wrap_Times.f a0 a2).bind fun t162 => (withelaw5_WrapStops.j1 kj8 a0 a1 a2 a3 (decide (t162 < t158))))) = some true := H
              have A20 := Aside0.mk A200
              clear A200
              by_cases c21 : t161 < t157
              · rw [if_pos c21] at H
                have c21b0 : decide (t161 < t157) = true := decide_eq_true c21
                clear c21
                have H' := Aside0.mk H
                clear H
                go_wp2_with (first | (go_at_call 16; (with_reducible refine (wrap_Plus.calls a0 a2 t161 _ A20.out).mono ?_); rintro e w' ⟨rfl, ⟨nd, rfl⟩⟩))
                go_meet
                case rel => exact ⟨_, (true), (by first | rfl | (simp; done) | (simp [*]; done)), H', ⟨by have := HJ8.out; first | omega | exact Nat.le_refl _⟩, ⟨by repeat (first | (with_reducible first | exact HB.out | apply below_alloc | apply pw_below_drewN | apply below_drew1) | exact HB.out)⟩⟩
              · rw [if_neg c21] at H
                have c21b0 : decide (t161 < t157) = false := decide_eq_false c21
                clear c21
                replace H := Option.bind_eq_some_iff.mp H
                obtain ⟨t162, A220, H⟩ := H
                replace H : (withelaw5_WrapStops.j1 kj8 a0 a1 a2 a3 (decide (t162 < t158))) = some true := H
                have A22 := Aside0.mk A220
                clear A220
                have H' := Aside0.mk H
                clear H
                go_wp2_with (first | (go_at_call 16; (with_reducible refine (wrap_Plus.calls a0 a2 t161 _ A20.out).mono ?_); rintro e w' ⟨rfl, ⟨nd, rfl⟩⟩) | (go_at_call 18; (with_reducible refine (wrap_Times.calls a0 a2 t162 _ A22.out).mono ?_); rintro e w' ⟨rfl, ⟨nd, rfl⟩⟩))
                go_meet
                case rel => exact ⟨_, (decide (t162 < t158)), (by first | rfl | (simp; done) | (simp [*]; done)), H', ⟨by have := HJ8.out; first | omega | exact Nat.le_refl _⟩, ⟨by repeat (first | (with_reducible first | exact HB.out | apply below_alloc | apply pw_below_drewN | apply below_drew1) | exact HB.out)⟩⟩
            · rw [if_neg c19] at H
              have c19b0 : decide (a1 ≤ a2) = false := decide_eq_false c19
              clear c19
              (first | rw [c19b0] | (simp only [i64_w, i32_w]; rw [c19b0]) | skip)
              have H' := Aside0.mk H
              clear H
              go_wp2
              go_meet
              case rel => exact ⟨_, (false), (by first | rfl | (simp; done) | (simp [*]; done)), H', ⟨by have := HJ8.out; first | omega | exact Nat.le_refl _⟩, ⟨by repeat (first | (with_reducible first | exact HB.out | apply below_alloc | apply pw_below_drewN | apply below_drew1) | exact HB.out)⟩⟩
          case rest =>
            clear HC18
            try clear c1
            try clear c2
            try clear p2
            try clear c5
            try clear c6
            try clear c9
            try clear c10
            try clear c10b0
            try clear c11
            try clear c11b0
            try clear c12
            try clear c12b0
            try clear c13
            try clear c13b0
            try clear c15
            try clear c15b0
            try clear c15b1
            try clear c16
            try clear c17
            try clear c18
            try clear c19
            try clear c19b0
            try clear c21
            try clear c21b0
            try clear p2
            obtain ⟨kq, x64_17, rfl, HA, HJ17, HB⟩ := hcut
            cases kq with
            | zero => exact absurd HA.out (by simp [withelaw5_WrapStops.j1])
            | succ kj17 =>
              have H := HA.out
              clear HA
              simp only [withelaw5_WrapStops.j1] at H
              by_cases c23 : x64_17 = true
              · subst c23
                have H1 : (some false) = some true := by rw [if_pos rfl] at H; exact H
                clear H
                have H := H1
                clear H1
                first
                  | exact absurd (Option.some.inj H) (by decide)
                  | (have HT := Option.some.inj H
                     go_wp2
                     go_ret
                     exact ⟨by first | rfl | (simp [errW_none, errW_some] <;> rfl) | (simp [*, errW_none, errW_some] <;> rfl), by repeat (first | (with_reducible first | exact HB.out | apply below_alloc | apply pw_below_drewN | apply below_drew1) | exact HB.out)⟩)
              · replace c23 := Bool.eq_false_iff.mpr c23
                subst c23
                have H1 : ((wrap_Plus.f a0 a1).bind fun t163 => ((wrap_Plus.f t163 a2).bind fun t164 => ((wrap_Plus.f a1 a2).bind fun t165 => ((wrap_Plus.f a0 t165).bind fun t166 => (if t164 = t166 then ((wrap_Times.f a0 a1).bind fun t167 => ((wrap_Times.f t167 a2).bind fun t168 => ((wrap_Times.f a1 a2).bind fun t169 => ((wrap_Times.f a0 t169).bind fun t170 => (if t168 = t170 then ((wrap_Power.f kj17 a0 (wrap64 ((wrap64 (Int.tmod a3 70)) + 1))).bind fun t171 => ((wrap_Power.f kj17 a0 (wrap64 (Int.tmod a3 70))).bind fun t172 => ((wrap_Times.f t172 a0).bind fun t173 => (if t171 = t173 then ((wrap_Power.f kj17 a0 0).bind fun t174 => (if t174 = 1 then ((wrap_Power.f kj17 2 (wrap64 (Int.tmod a3 70))).bind fun t175 => (if 0 ≤ (IntKind.u64.wrap (mn (wrap64 (Int.tmod a3 70)) 62)) then (some (t175 == (mn 4611686018427387904 (shl .i64 1 (IntKind.u64.wrap (mn (wrap64 (Int.tmod a3 70)) 62)))))) else (none))) else (some false))) else (some false))))) else (some false)))))) else (some false)))))) = some true := by rw [if_neg (show ¬ (false = true) by decide)] at H; exact H
                clear H
                have H := H1
                clear H1
                replace H := Option.bind_eq_some_iff.mp H
                obtain ⟨t163, A240, H⟩ := H
                replace H : ((wrap_Plus.f t163 a2).bind fun t164 => ((wrap_Plus.f a1 a2).bind fun t165 => ((wrap_Plus.f a0 t165).bind fun t166 => (if t164 = t166 then ((wrap_Times.f a0 a1).bind fun t167 => ((wrap_Times.f t167 a2).bind fun t168 => ((wrap_Times.f a1 a2).bind fun t169 => ((wrap_Times.f a0 t169).bind fun t170 => (if t168 = t170 then ((wrap_Power.f kj17 a0 (wrap64 ((wrap64 (Int.tmod a3 70)) + 1))).bind fun t171 => ((wrap_Power.f kj17 a0 (wrap64 (Int.tmod a3 70))).bind fun t172 => ((wrap_Times.f t172 a0).bind fun t173 => (if t171 = t173 then ((wrap_Power.f kj17 a0 0).bind fun t174 => (if t174 = 1 then ((wrap_Power.f kj17 2 (wrap64 (Int.tmod a3 70))).bind fun t175 => (if 0 ≤ (IntKind.u64.wrap (mn (wrap64 (Int.tmod a3 70)) 62)) then (some (t175 == (mn 4611686018427387904 (shl .i64 1 (IntKind.u64.wrap (mn (wrap64 (Int.tmod a3 70)) 62)))))) else (none))) else (some false))) else (some false))))) else (some false)))))) else (some false))))) = some true := H
                have A24 := Aside0.mk A240
                clear A240
                replace H := Option.bind_eq_some_iff.mp H
                obtain ⟨t164, A250, H⟩ := H
                replace H : ((wrap_Plus.f a1 a2).bind fun t165 => ((wrap_Plus.f a0 t165).bind fun t166 => (if t164 = t166 then ((wrap_Times.f a0 a1).bind fun t167 => ((wrap_Times.f t167 a2).bind fun t168 => ((wrap_Times.f a1 a2).bind fun t169 => ((wrap_Times.f a0 t169).bind fun t170 => (if t168 = t170 then ((wrap_Power.f kj17 a0 (wrap64 ((wrap64 (Int.tmod a3 70)) + 1))).bind fun t171 => ((wrap_Power.f kj17 a0 (wrap64 (Int.tmod a3 70))).bind fun t172 => ((wrap_Times.f t172 a0).bind fun t173 => (if t171 = t173 then ((wrap_Power.f kj17 a0 0).bind fun t174 => (if t174 = 1 then ((wrap_Power.f kj17 2 (wrap64 (Int.tmod a3 70))).bind fun t175 => (if 0 ≤ (IntKind.u64.wrap (mn (wrap64 (Int.tmod a3 70)) 62)) then (some (t175 == (mn 4611686018427387904 (shl .i64 1 (IntKind.u64.wrap (mn (wrap64 (Int.tmod a3 70)) 62)))))) else (none))) else (some false))) else (some false))))) else (some false)))))) else (some false)))) = some true := H
                have A25 := Aside0.mk A250
                clear A250
                replace H := Option.bind_eq_some_iff.mp H
                obtain ⟨t165, A260, H⟩ := H
                replace H : ((wrap_Plus.f a0 t165).bind fun t166 => (if t164 = t166 then ((wrap_Times.f a0 a1).bind fun t167 => ((wrap_Times.f t167 a2).bind fun t168 => ((wrap_Times.f a1 a2).bind fun t169 => ((wrap_Times.f a0 t169).bind fun t170 => (if t168 = t170 then ((wrap_Power.f kj17 a0 (wrap64 ((wrap64 (Int.tmod a3 70)) + 1))).bind fun t171 => ((wrap_Power.f kj17 a0 (wrap64 (Int.tmod a3 70))).bind fun t172 => ((wrap_Times.f t172 a0).bind fun t173 => (if t171 = t173 then ((wrap_Power.f kj17 a0 0).bind fun t174 => (if t174 = 1 then ((wrap_Power.f kj17 2 (wrap64 (Int.tmod a3 70))).bind fun t175 => (if 0 ≤ (IntKind.u64.wrap (mn (wrap64 (Int.tmod a3 70)) 62)) then (some (t175 == (mn 4611686018427387904 (shl .i64 1 (IntKind.u64.wrap (mn (wrap64 (Int.tmod a3 70)) 62)))))) else (none))) else (some false))) else (some false))))) else (some false)))))) else (some false))) = some true := H
                have A26 := Aside0.mk A260
                clear A260
                replace H := Option.bind_eq_some_iff.mp H
                obtain ⟨t166, A270, H⟩ := H
                replace H : (if t164 = t166 then ((wrap_Times.f a0 a1).bind fun t167 => ((wrap_Times.f t167 a2).bind fun t168 => ((wrap_Times.f a1 a2).bind fun t169 => ((wrap_Times.f a0 t169).bind fun t170 => (if t168 = t170 then ((wrap_Power.f kj17 a0 (wrap64 ((wrap64 (Int.tmod a3 70)) + 1))).bind fun t171 => ((wrap_Power.f kj17 a0 (wrap64 (Int.tmod a3 70))).bind fun t172 => ((wrap_Times.f t172 a0).bind fun t173 => (if t171 = t173 then ((wrap_Power.f kj17 a0 0).bind fun t174 => (if t174 = 1 then ((wrap_Power.f kj17 2 (wrap64 (Int.tmod a3 70))).bind fun t175 => (if 0 ≤ (IntKind.u64.wrap (mn (wrap64 (Int.tmod a3 70)) 62)) then (some (t175 == (mn 4611686018427387904 (shl .i64 1 (IntKind.u64.wrap (mn (wrap64 (Int.tmod a3 70)) 62)))))) else (none))) else (some false))) else (some false))))) else (some false)))))) else (some false)) = some true := H
                have A27 := Aside0.mk A270
                clear A270
                by_cases c28 : t164 = t166
                · rw [if_pos c28] at H
                  have c28b0 : (t164 == t166) = true := beq_iff_eq.mpr c28
                  have c28b1 : (t164 != t166) = false := bne_eq_false_iff_eq.mpr c28
                  clear c28
                  replace H := Option.bind_eq_some_iff.mp H
                  obtain ⟨t167, A290, H⟩ := H
                  replace H : ((wrap_Times.f t167 a2).bind fun t168 => ((wrap_Times.f a1 a2).bind fun t169 => ((wrap_Times.f a0 t169).bind fun t170 => (if t168 = t170 then ((wrap_Power.f kj17 a0 (wrap64 ((wrap64 (Int.tmod a3 70)) + 1))).bind fun t171 => ((wrap_Power.f kj17 a0 (wrap64 (Int.tmod a3 70))).bind fun t172 => ((wrap_Times.f t172 a0).bind fun t173 => (if t171 = t173 then ((wrap_Power.f kj17 a0 0).bind fun t174 => (if t174 = 1 then ((wrap_Power.f kj17 2 (wrap64 (Int.tmod a3 70))).bind fun t175 => (if 0 ≤ (IntKind.u64.wrap (mn (wrap64 (Int.tmod a3 70)) 62)) then (some (t175 == (mn 4611686018427387904 (shl .i64 1 (IntKind.u64.wrap (mn (wrap64 (Int.tmod a3 70)) 62)))))) else (none))) else (some false))) else (some false))))) else (some false))))) = some true := H
                  have A29 := Aside0.mk A290
                  clear A290
                  replace H := Option.bind_eq_some_iff.mp H
                  obtain ⟨t168, A300, H⟩ := H
                  replace H : ((wrap_Times.f a1 a2).bind fun t169 => ((wrap_Times.f a0 t169).bind fun t170 => (if t168 = t170 then ((wrap_Power.f kj17 a0 (wrap64 ((wrap64 (Int.tmod a3 70)) + 1))).bind fun t171 => ((wrap_Power.f kj17 a0 (wrap64 (Int.tmod a3 70))).bind fun t172 => ((wrap_Times.f t172 a0).bind fun t173 => (if t171 = t173 then ((wrap_Power.f kj17 a0 0).bind fun t174 => (if t174 = 1 then ((wrap_Power.f kj17 2 (wrap64 (Int.tmod a3 70))).bind fun t175 => (if 0 ≤ (IntKind.u64.wrap (mn (wrap64 (Int.tmod a3 70)) 62)) then (some (t175 == (mn 4611686018427387904 (shl .i64 1 (IntKind.u64.wrap (mn (wrap64 (Int.tmod a3 70)) 62)))))) else (none))) else (some false))) else (some false))))) else (some false)))) = some true := H
                  have A30 := Aside0.mk A300
                  clear A300
                  replace H := Option.bind_eq_some_iff.mp H
                  obtain ⟨t169, A310, H⟩ := H
                  replace H : ((wrap_Times.f a0 t169).bind fun t170 => (if t168 = t170 then ((wrap_Power.f kj17 a0 (wrap64 ((wrap64 (Int.tmod a3 70)) + 1))).bind fun t171 => ((wrap_Power.f kj17 a0 (wrap64 (Int.tmod a3 70))).bind fun t172 => ((wrap_Times.f t172 a0).bind fun t173 => (if t171 = t173 then ((wrap_Power.f kj17 a0 0).bind fun t174 => (if t174 = 1 then ((wrap_Power.f kj17 2 (wrap64 (Int.tmod a3 70))).bind fun t175 => (if 0 ≤ (IntKind.u64.wrap (mn (wrap64 (Int.tmod a3 70)) 62)) then (some (t175 == (mn 4611686018427387904 (shl .i64 1 (IntKind.u64.wrap (mn (wrap64 (Int.tmod a3 70)) 62)))))) else (none))) else (some false))) else (some false))))) else (some false))) = some true := H
                  have A31 := Aside0.mk A310
                  clear A310
                  replace H := Option.bind_eq_some_iff.mp H
                  obtain ⟨t170, A320, H⟩ := H
                  replace H : (if t168 = t170 then ((wrap_Power.f kj17 a0 (wrap64 ((wrap64 (Int.tmod a3 70)) + 1))).bind fun t171 => ((wrap_Power.f kj17 a0 (wrap64 (Int.tmod a3 70))).bind fun t172 => ((wrap_Times.f t172 a0).bind fun t173 => (if t171 = t173 then ((wrap_Power.f kj17 a0 0).bind fun t174 => (if t174 = 1 then ((wrap_Power.f kj17 2 (wrap64 (Int.tmod a3 70))).bind fun t175 => (if 0 ≤ (IntKind.u64.wrap (mn (wrap64 (Int.tmod a3 70)) 62)) then (some (t175 == (mn 4611686018427387904 (shl .i64 1 (IntKind.u64.wrap (mn (wrap64 (Int.tmod a3 70)) 62)))))) else (none))) else (some false))) else (some false))))) else (some false)) = some true := H
                  have A32 := Aside0.mk A320
                  clear A320
                  by_cases c33 : t168 = t170
                  · rw [if_pos c33] at H
                    have c33b0 : (t168 == t170) = true := beq_iff_eq.mpr c33
                    have c33b1 : (t168 != t170) = false := bne_eq_false_iff_eq.mpr c33
                    clear c33
                    replace H := Option.bind_eq_some_iff.mp H
                    obtain ⟨t171, A340, H⟩ := H
                    replace H : ((wrap_Power.f kj17 a0 (wrap64 (Int.tmod a3 70))).bind fun t172 => ((wrap_Times.f t172 a0).bind fun t173 => (if t171 = t173 then ((wrap_Power.f kj17 a0 0).bind fun t174 => (if t174 = 1 then ((wrap_Power.f kj17 2 (wrap64 (Int.tmod a3 70))).bind fun t175 => (if 0 ≤ (IntKind.u64.wrap (mn (wrap64 (Int.tmod a3 70)) 62)) then (some (t175 == (mn 4611686018427387904 (shl .i64 1 (IntKind.u64.wrap (mn (wrap64 (Int.tmod a3 70)) 62)))))) else (none))) else (some false))) else (some false)))) = some true := H
                    have A34 := Aside0.mk A340
                    clear A340
                    replace H := Option.bind_eq_some_iff.mp H
                    obtain ⟨t172, A350, H⟩ := H
                    replace H : ((wrap_Times.f t172 a0).bind fun t173 => (if t171 = t173 then ((wrap_Power.f kj17 a0 0).bind fun t174 => (if t174 = 1 then ((wrap_Power.f kj17 2 (wrap64 (Int.tmod a3 70))).bind fun t175 => (if 0 ≤ (IntKind.u64.wrap (mn (wrap64 (Int.tmod a3 70)) 62)) then (some (t175 == (mn 4611686018427387904 (shl .i64 1 (IntKind.u64.wrap (mn (wrap64 (Int.tmod a3 70)) 62)))))) else (none))) else (some false))) else (some false))) = some true := H
                    have A35 := Aside0.mk A350
                    clear A350
                    replace H := Option.bind_eq_some_iff.mp H
                    obtain ⟨t173, A360, H⟩ := H
                    replace H : (if t171 = t173 then ((wrap_Power.f kj17 a0 0).bind fun t174 => (if t174 = 1 then ((wrap_Power.f kj17 2 (wrap64 (Int.tmod a3 70))).bind fun t175 => (if 0 ≤ (IntKind.u64.wrap (mn (wrap64 (Int.tmod a3 70)) 62)) then (some (t175 == (mn 4611686018427387904 (shl .i64 1 (IntKind.u64.wrap (mn (wrap64 (Int.tmod a3 70)) 62)))))) else (none))) else (some false))) else (some false)) = some true := H
                    have A36 := Aside0.mk A360
                    clear A360
                    by_cases c37 : t171 = t173
                    · rw [if_pos c37] at H
                      have c37b0 : (t171 == t173) = true := beq_iff_eq.mpr c37
                      have c37b1 : (t171 != t173) = false := bne_eq_false_iff_eq.mpr c37
                      clear c37
                      replace H := Option.bind_eq_some_iff.mp H
                      obtain ⟨t174, A380, H⟩ := H
                      replace H : (if t174 = 1 then ((wrap_Power.f kj17 2 (wrap64 (Int.tmod a3 70))).bind fun t175 => (if 0 ≤ (IntKind.u64.wrap (mn (wrap64 (Int.tmod a3 70)) 62)) then (some (t175 == (mn 4611686018427387904 (shl .i64 1 (IntKind.u64.wrap (mn (wrap64 (Int.tmod a3 70)) 62)))))) else (none))) else (some false)) = some true := H
                      have A38 := Aside0.mk A380
                      clear A380
                      by_cases c39 : t174 = 1
                      · rw [if_pos c39] at H
                        have c39b0 : (t174 == 1) = true := beq_iff_eq.mpr c39
                        have c39b1 : (t174 != 1) = false := bne_eq_false_iff_eq.mpr c39
                        clear c39
                        replace H := Option.bind_eq_some_iff.mp H
                        obtain ⟨t175, A400, H⟩ := H
                        replace H : (if 0 ≤ (IntKind.u64.wrap (mn (wrap64 (Int.tmod a3 70)) 62)) then (some (t175 == (mn 4611686018427387904 (shl .i64 1 (IntKind.u64.wrap (mn (wrap64 (Int.tmod a3 70)) 62)))))) else (none)) = some true := H
                        have A40 := Aside0.mk A400
                        clear A400
                        obtain ⟨ji41, hji41⟩ : ∃ j_ : Int, (mn (wrap64 (Int.tmod a3 70)) 62) = j_ := ⟨_, rfl⟩
                        replace H : (if 0 ≤ (IntKind.u64.wrap (ji41)) then (some (t175 == (mn 4611686018427387904 (shl .i64 1 (IntKind.u64.wrap (ji41)))))) else (none)) = some true := by first | (rw [hji41] at H; exact H) | (simp only [hji41] at H ⊢; exact H)
                        (try rw [hji41] at A24)
                        (try rw [hji41] at A25)
                        (try rw [hji41] at A26)
                        (try rw [hji41] at A27)
                        (try rw [hji41] at A29)
                        (try rw [hji41] at A30)
                        (try rw [hji41] at A31)
                        (try rw [hji41] at A32)
                        (try rw [hji41] at A34)
                        (try rw [hji41] at A35)
                        (try rw [hji41] at A36)
                        (try rw [hji41] at A38)
                        (try rw [hji41] at A40)
                        have hji41_ : (if 62 < (wrap64 (Int.tmod a3 70)) then 62 else (wrap64 (Int.tmod a3 70))) = ji41 := hji41
                        obtain ⟨ji42, hji42⟩ : ∃ j_ : Int, (IntKind.u64.wrap (ji41)) = j_ := ⟨_, rfl⟩
                        replace H : (if 0 ≤ (ji42) then (some (t175 == (mn 4611686018427387904 (shl .i64 1 (ji42))))) else (none)) = some true := by first | (rw [hji42] at H; exact H) | (simp only [hji42] at H ⊢; exact H)
                        (try rw [hji42] at A24)
                        (try rw [hji42] at A25)
                        (try rw [hji42] at A26)
                        (try rw [hji42] at A27)
                        (try rw [hji42] at A29)
                        (try rw [hji42] at A30)
                        (try rw [hji42] at A31)
                        (try rw [hji42] at A32)
                        (try rw [hji42] at A34)
                        (try rw [hji42] at A35)
                        (try rw [hji42] at A36)
                        (try rw [hji42] at A38)
                        (try rw [hji42] at A40)
                        by_cases c43 : 0 ≤ (ji42)
                        · rw [if_pos c43] at H
                          have c43b0 := eq_true c43
                          have c43b1 : decide (0 ≤ (ji42)) = true := decide_eq_true c43
                          clear c43
                          obtain ⟨ji44, hji44⟩ : ∃ j_ : Int, (shl .i64 1 (ji42)) = j_ := ⟨_, rfl⟩
                          replace H : (some (t175 == (mn 4611686018427387904 (ji44)))) = some true := by first | (rw [hji44] at H; exact H) | (simp only [hji44] at H ⊢; exact H)
                          (try rw [hji44] at A24)
                          (try rw [hji44] at A25)
                          (try rw [hji44] at A26)
                          (try rw [hji44] at A27)
                          (try rw [hji44] at A29)
                          (try rw [hji44] at A30)
                          (try rw [hji44] at A31)
                          (try rw [hji44] at A32)
                          (try rw [hji44] at A34)
                          (try rw [hji44] at A35)
                          (try rw [hji44] at A36)
                          (try rw [hji44] at A38)
                          (try rw [hji44] at A40)
                          have hji44_ : (IntKind.i64.wrap (1 * 2 ^ min (ji42).toNat 64)) = ji44 := hji44
                          have hji44z : (ji42) ≤ 64 → (IntKind.i64.wrap (1 * 2 ^ (ji42).toNat)) = ji44 := shl_small hji44
                          have hji44u : (IntKind.i64.wrap (2 ^ min (ji42).toNat 64)) = ji44 := by have h_ := hji44_; rw [Int.one_mul] at h_; exact h_
                          have hji44v : (ji42) ≤ 64 → (IntKind.i64.wrap (2 ^ (ji42).toNat)) = ji44 := fun hle_ => by have h_ := hji44z hle_; rw [Int.one_mul] at h_; exact h_
                          have hji44y : (wrap64 (1 * 2 ^ min (ji42).toNat 64)) = ji44 := (i64_w _).symm.trans hji44_
                          have hji44x : (ji42) ≤ 64 → (wrap64 (1 * 2 ^ (ji42).toNat)) = ji44 := fun h_ => (i64_w _).symm.trans (hji44z h_)
                          obtain ⟨ji45, hji45⟩ : ∃ j_ : Int, (mn 4611686018427387904 (ji44)) = j_ := ⟨_, rfl⟩
                          replace H : (some (t175 == (ji45))) = some true := by first | (rw [hji45] at H; exact H) | (simp only [hji45] at H ⊢; exact H)
                          (try rw [hji45] at A24)
                          (try rw [hji45] at A25)
                          (try rw [hji45] at A26)
                          (try rw [hji45] at A27)
                          (try rw [hji45] at A29)
                          (try rw [hji45] at A30)
                          (try rw [hji45] at A31)
                          (try rw [hji45] at A32)
                          (try rw [hji45] at A34)
                          (try rw [hji45] at A35)
                          (try rw [hji45] at A36)
                          (try rw [hji45] at A38)
                          (try rw [hji45] at A40)
                          have hji45_ : (if (ji44) < 4611686018427387904 then (ji44) else 4611686018427387904) = ji45 := hji45
                          first
                            | exact absurd (Option.some.inj H) (by decide)
                            | (have HT := Option.some.inj H
                               go_wp2_with (first | ((with_reducible refine gate_callee (f := 16) rfl ?_); refine goesL_ (some 70) rfl rfl Try.func16 (by kernel_rfl) rfl #[.int .i64 a0, .int .i64 a1] rfl (by (try simp only [List.map_toArray, List.map_cons, List.map_nil]); first | done | rfl | (simp only [List.length_drop, List.length_take]; rfl)) ?_; (with_reducible refine (wrap_Plus.calls a0 a1 t163 _ A24.out).mono ?_); rintro e w' ⟨rfl, ⟨nd, rfl⟩⟩; refine ⟨_, rfl, ?_⟩) | (go_at_call 16; (with_reducible refine (wrap_Plus.calls a0 a1 t163 _ A24.out).mono ?_); rintro e w' ⟨rfl, ⟨nd, rfl⟩⟩) | ((with_reducible refine gate_callee (f := 16) rfl ?_); refine goesL_ (some 72) rfl rfl Try.func16 (by kernel_rfl) rfl #[.int .i64 t163, .int .i64 a2] rfl (by (try simp only [List.map_toArray, List.map_cons, List.map_nil]); first | done | rfl | (simp only [List.length_drop, List.length_take]; rfl)) ?_; (with_reducible refine (wrap_Plus.calls t163 a2 t164 _ A25.out).mono ?_); rintro e w' ⟨rfl, ⟨nd, rfl⟩⟩; refine ⟨_, rfl, ?_⟩) | (go_at_call 16; (with_reducible refine (wrap_Plus.calls t163 a2 t164 _ A25.out).mono ?_); rintro e w' ⟨rfl, ⟨nd, rfl⟩⟩) | ((with_reducible refine gate_callee (f := 16) rfl ?_); refine goesL_ (some 76) rfl rfl Try.func16 (by kernel_rfl) rfl #[.int .i64 a1, .int .i64 a2] rfl (by (try simp only [List.map_toArray, List.map_cons, List.map_nil]); first | done | rfl | (simp only [List.length_drop, List.length_take]; rfl)) ?_; (with_reducible refine (wrap_Plus.calls a1 a2 t165 _ A26.out).mono ?_); rintro e w' ⟨rfl, ⟨nd, rfl⟩⟩; refine ⟨_, rfl, ?_⟩) | (go_at_call 16; (with_reducible refine (wrap_Plus.calls a1 a2 t165 _ A26.out).mono ?_); rintro e w' ⟨rfl, ⟨nd, rfl⟩⟩) | ((with_reducible refine gate_callee (f := 16) rfl ?_); refine goesL_ (some 77) rfl rfl Try.func16 (by kernel_rfl) rfl #[.int .i64 a0, .int .i64 t165] rfl (by (try simp only [List.map_toArray, List.map_cons, List.map_nil]); first | done | rfl | (simp only [List.length_drop, List.length_take]; rfl)) ?_; (with_reducible refine (wrap_Plus.calls a0 t165 t166 _ A27.out).mono ?_); rintro e w' ⟨rfl, ⟨nd, rfl⟩⟩; refine ⟨_, rfl, ?_⟩) | (go_at_call 16; (with_reducible refine (wrap_Plus.calls a0 t165 t166 _ A27.out).mono ?_); rintro e w' ⟨rfl, ⟨nd, rfl⟩⟩) | (go_at_call 18; (with_reducible refine (wrap_Times.calls a0 a1 t167 _ A29.out).mono ?_); rintro e w' ⟨rfl, ⟨nd, rfl⟩⟩) | (go_at_call 18; (with_reducible refine (wrap_Times.calls t167 a2 t168 _ A30.out).mono ?_); rintro e w' ⟨rfl, ⟨nd, rfl⟩⟩) | (go_at_call 18; (with_reducible refine (wrap_Times.calls a1 a2 t169 _ A31.out).mono ?_); rintro e w' ⟨rfl, ⟨nd, rfl⟩⟩) | (go_at_call 18; (with_reducible refine (wrap_Times.calls a0 t169 t170 _ A32.out).mono ?_); rintro e w' ⟨rfl, ⟨nd, rfl⟩⟩) | (go_at_call 20; (with_reducible refine (wrap_Power.calls kj17 a0 (wrap64 ((wrap64 (Int.tmod a3 70)) + 1)) t171 _ A34.out).mono ?_); rintro e w' ⟨rfl, ⟨nd, rfl⟩⟩) | (go_at_call 20; (with_reducible refine (wrap_Power.calls kj17 a0 (wrap64 (Int.tmod a3 70)) t172 _ A35.out).mono ?_); rintro e w' ⟨rfl, ⟨nd, rfl⟩⟩) | (go_at_call 18; (with_reducible refine (wrap_Times.calls t172 a0 t173 _ A36.out).mono ?_); rintro e w' ⟨rfl, ⟨nd, rfl⟩⟩) | (go_at_call 20; (with_reducible refine (wrap_Power.calls kj17 a0 0 t174 _ A38.out).mono ?_); rintro e w' ⟨rfl, ⟨nd, rfl⟩⟩) | (go_at_call 20; (with_reducible refine (wrap_Power.calls kj17 2 (wrap64 (Int.tmod a3 70)) t175 _ A40.out).mono ?_); rintro e w' ⟨rfl, ⟨nd, rfl⟩⟩))
                               go_ret
                               exact ⟨by first | rfl | (simp [errW_none, errW_some] <;> rfl) | (simp only [← hji41, ← hji42, ← hji44, ← hji45]; first | rfl | (simp [errW_none, errW_some] <;> rfl)) | (simp [*, errW_none, errW_some] <;> rfl), by repeat (first | (with_reducible first | exact HB.out | apply below_alloc | apply pw_below_drewN | apply below_drew1) | exact HB.out)⟩)
                        · rw [if_neg c43] at H
                          exact absurd H (by simp)
                      · rw [if_neg c39] at H
                        have c39b0 : (t174 == 1) = false := beq_eq_false_iff_ne.mpr c39
                        have c39b1 : (t174 != 1) = true := bne_iff_ne.mpr c39
                        first
                          | exact absurd (Option.some.inj H) (by decide)
                          | (have HT := Option.some.inj H
                             go_wp2_with (first | ((with_reducible refine gate_callee (f := 16) rfl ?_); refine goesL_ (some 70) rfl rfl Try.func16 (by kernel_rfl) rfl #[.int .i64 a0, .int .i64 a1] rfl (by (try simp only [List.map_toArray, List.map_cons, List.map_nil]); first | done | rfl | (simp only [List.length_drop, List.length_take]; rfl)) ?_; (with_reducible refine (wrap_Plus.calls a0 a1 t163 _ A24.out).mono ?_); rintro e w' ⟨rfl, ⟨nd, rfl⟩⟩; refine ⟨_, rfl, ?_⟩) | (go_at_call 16; (with_reducible refine (wrap_Plus.calls a0 a1 t163 _ A24.out).mono ?_); rintro e w' ⟨rfl, ⟨nd, rfl⟩⟩) | ((with_reducible refine gate_callee (f := 16) rfl ?_); refine goesL_ (some 72) rfl rfl Try.func16 (by kernel_rfl) rfl #[.int .i64 t163, .int .i64 a2] rfl (by (try simp only [List.map_toArray, List.map_cons, List.map_nil]); first | done | rfl | (simp only [List.length_drop, List.length_take]; rfl)) ?_; (with_reducible refine (wrap_Plus.calls t163 a2 t164 _ A25.out).mono ?_); rintro e w' ⟨rfl, ⟨nd, rfl⟩⟩; refine ⟨_, rfl, ?_⟩) | (go_at_call 16; (with_reducible refine (wrap_Plus.calls t163 a2 t164 _ A25.out).mono ?_); rintro e w' ⟨rfl, ⟨nd, rfl⟩⟩) | ((with_reducible refine gate_callee (f := 16) rfl ?_); refine goesL_ (some 76) rfl rfl Try.func16 (by kernel_rfl) rfl #[.int .i64 a1, .int .i64 a2] rfl (by (try simp only [List.map_toArray, List.map_cons, List.map_nil]); first | done | rfl | (simp only [List.length_drop, List.length_take]; rfl)) ?_; (with_reducible refine (wrap_Plus.calls a1 a2 t165 _ A26.out).mono ?_); rintro e w' ⟨rfl, ⟨nd, rfl⟩⟩; refine ⟨_, rfl, ?_⟩) | (go_at_call 16; (with_reducible refine (wrap_Plus.calls a1 a2 t165 _ A26.out).mono ?_); rintro e w' ⟨rfl, ⟨nd, rfl⟩⟩) | ((with_reducible refine gate_callee (f := 16) rfl ?_); refine goesL_ (some 77) rfl rfl Try.func16 (by kernel_rfl) rfl #[.int .i64 a0, .int .i64 t165] rfl (by (try simp only [List.map_toArray, List.map_cons, List.map_nil]); first | done | rfl | (simp only [List.length_drop, List.length_take]; rfl)) ?_; (with_reducible refine (wrap_Plus.calls a0 t165 t166 _ A27.out).mono ?_); rintro e w' ⟨rfl, ⟨nd, rfl⟩⟩; refine ⟨_, rfl, ?_⟩) | (go_at_call 16; (with_reducible refine (wrap_Plus.calls a0 t165 t166 _ A27.out).mono ?_); rintro e w' ⟨rfl, ⟨nd, rfl⟩⟩) | (go_at_call 18; (with_reducible refine (wrap_Times.calls a0 a1 t167 _ A29.out).mono ?_); rintro e w' ⟨rfl, ⟨nd, rfl⟩⟩) | (go_at_call 18; (with_reducible refine (wrap_Times.calls t167 a2 t168 _ A30.out).mono ?_); rintro e w' ⟨rfl, ⟨nd, rfl⟩⟩) | (go_at_call 18; (with_reducible refine (wrap_Times.calls a1 a2 t169 _ A31.out).mono ?_); rintro e w' ⟨rfl, ⟨nd, rfl⟩⟩) | (go_at_call 18; (with_reducible refine (wrap_Times.calls a0 t169 t170 _ A32.out).mono ?_); rintro e w' ⟨rfl, ⟨nd, rfl⟩⟩) | (go_at_call 20; (with_reducible refine (wrap_Power.calls kj17 a0 (wrap64 ((wrap64 (Int.tmod a3 70)) + 1)) t171 _ A34.out).mono ?_); rintro e w' ⟨rfl, ⟨nd, rfl⟩⟩) | (go_at_call 20; (with_reducible refine (wrap_Power.calls kj17 a0 (wrap64 (Int.tmod a3 70)) t172 _ A35.out).mono ?_); rintro e w' ⟨rfl, ⟨nd, rfl⟩⟩) | (go_at_call 18; (with_reducible refine (wrap_Times.calls t172 a0 t173 _ A36.out).mono ?_); rintro e w' ⟨rfl, ⟨nd, rfl⟩⟩) | (go_at_call 20; (with_reducible refine (wrap_Power.calls kj17 a0 0 t174 _ A38.out).mono ?_); rintro e w' ⟨rfl, ⟨nd, rfl⟩⟩))
                             go_ret
                             exact ⟨by first | rfl | (simp [errW_none, errW_some] <;> rfl) | (simp [*, errW_none, errW_some] <;> rfl), by repeat (first | (with_reducible first | exact HB.out | apply below_alloc | apply pw_below_drewN | apply below_drew1) | exact HB.out)⟩)
                    · rw [if_neg c37] at H
                      have c37b0 : (t171 == t173) = false := beq_eq_false_iff_ne.mpr c37
                      have c37b1 : (t171 != t173) = true := bne_iff_ne.mpr c37
                      first
                        | exact absurd (Option.some.inj H) (by decide)
                        | (have HT := Option.some.inj H
                           go_wp2_with (first | ((with_reducible refine gate_callee (f := 16) rfl ?_); refine goesL_ (some 70) rfl rfl Try.func16 (by kernel_rfl) rfl #[.int .i64 a0, .int .i64 a1] rfl (by (try simp only [List.map_toArray, List.map_cons, List.map_nil]); first | done | rfl | (simp only [List.length_drop, List.length_take]; rfl)) ?_; (with_reducible refine (wrap_Plus.calls a0 a1 t163 _ A24.out).mono ?_); rintro e w' ⟨rfl, ⟨nd, rfl⟩⟩; refine ⟨_, rfl, ?_⟩) | (go_at_call 16; (with_reducible refine (wrap_Plus.calls a0 a1 t163 _ A24.out).mono ?_); rintro e w' ⟨rfl, ⟨nd, rfl⟩⟩) | ((with_reducible refine gate_callee (f := 16) rfl ?_); refine goesL_ (some 72) rfl rfl Try.func16 (by kernel_rfl) rfl #[.int .i64 t163, .int .i64 a2] rfl (by (try simp only [List.map_toArray, List.map_cons, List.map_nil]); first | done | rfl | (simp only [List.length_drop, List.length_take]; rfl)) ?_; (with_reducible refine (wrap_Plus.calls t163 a2 t164 _ A25.out).mono ?_); rintro e w' ⟨rfl, ⟨nd, rfl⟩⟩; refine ⟨_, rfl, ?_⟩) | (go_at_call 16; (with_reducible refine (wrap_Plus.calls t163 a2 t164 _ A25.out).mono ?_); rintro e w' ⟨rfl, ⟨nd, rfl⟩⟩) | ((with_reducible refine gate_callee (f := 16) rfl ?_); refine goesL_ (some 76) rfl rfl Try.func16 (by kernel_rfl) rfl #[.int .i64 a1, .int .i64 a2] rfl (by (try simp only [List.map_toArray, List.map_cons, List.map_nil]); first | done | rfl | (simp only [List.length_drop, List.length_take]; rfl)) ?_; (with_reducible refine (wrap_Plus.calls a1 a2 t165 _ A26.out).mono ?_); rintro e w' ⟨rfl, ⟨nd, rfl⟩⟩; refine ⟨_, rfl, ?_⟩) | (go_at_call 16; (with_reducible refine (wrap_Plus.calls a1 a2 t165 _ A26.out).mono ?_); rintro e w' ⟨rfl, ⟨nd, rfl⟩⟩) | ((with_reducible refine gate_callee (f := 16) rfl ?_); refine goesL_ (some 77) rfl rfl Try.func16 (by kernel_rfl) rfl #[.int .i64 a0, .int .i64 t165] rfl (by (try simp only [List.map_toArray, List.map_cons, List.map_nil]); first | done | rfl | (simp only [List.length_drop, List.length_take]; rfl)) ?_; (with_reducible refine (wrap_Plus.calls a0 t165 t166 _ A27.out).mono ?_); rintro e w' ⟨rfl, ⟨nd, rfl⟩⟩; refine ⟨_, rfl, ?_⟩) | (go_at_call 16; (with_reducible refine (wrap_Plus.calls a0 t165 t166 _ A27.out).mono ?_); rintro e w' ⟨rfl, ⟨nd, rfl⟩⟩) | (go_at_call 18; (with_reducible refine (wrap_Times.calls a0 a1 t167 _ A29.out).mono ?_); rintro e w' ⟨rfl, ⟨nd, rfl⟩⟩) | (go_at_call 18; (with_reducible refine (wrap_Times.calls t167 a2 t168 _ A30.out).mono ?_); rintro e w' ⟨rfl, ⟨nd, rfl⟩⟩) | (go_at_call 18; (with_reducible refine (wrap_Times.calls a1 a2 t169 _ A31.out).mono ?_); rintro e w' ⟨rfl, ⟨nd, rfl⟩⟩) | (go_at_call 18; (with_reducible refine (wrap_Times.calls a0 t169 t170 _ A32.out).mono ?_); rintro e w' ⟨rfl, ⟨nd, rfl⟩⟩) | (go_at_call 20; (with_reducible refine (wrap_Power.calls kj17 a0 (wrap64 ((wrap64 (Int.tmod a3 70)) + 1)) t171 _ A34.out).mono ?_); rintro e w' ⟨rfl, ⟨nd, rfl⟩⟩) | (go_at_call 20; (with_reducible refine (wrap_Power.calls kj17 a0 (wrap64 (Int.tmod a3 70)) t172 _ A35.out).mono ?_); rintro e w' ⟨rfl, ⟨nd, rfl⟩⟩) | (go_at_call 18; (with_reducible refine (wrap_Times.calls t172 a0 t173 _ A36.out).mono ?_); rintro e w' ⟨rfl, ⟨nd, rfl⟩⟩))
                           go_ret
                           exact ⟨by first | rfl | (simp [errW_none, errW_some] <;> rfl) | (simp [*, errW_none, errW_some] <;> rfl), by repeat (first | (with_reducible first | exact HB.out | apply below_alloc | apply pw_below_drewN | apply below_drew1) | exact HB.out)⟩)
                  · rw [if_neg c33] at H
                    have c33b0 : (t168 == t170) = false := beq_eq_false_iff_ne.mpr c33
                    have c33b1 : (t168 != t170) = true := bne_iff_ne.mpr c33
                    first
                      | exact absurd (Option.some.inj H) (by decide)
                      | (have HT := Option.some.inj H
                         go_wp2_with (first | ((with_reducible refine gate_callee (f := 16) rfl ?_); refine goesL_ (some 70) rfl rfl Try.func16 (by kernel_rfl) rfl #[.int .i64 a0, .int .i64 a1] rfl (by (try simp only [List.map_toArray, List.map_cons, List.map_nil]); first | done | rfl | (simp only [List.length_drop, List.length_take]; rfl)) ?_; (with_reducible refine (wrap_Plus.calls a0 a1 t163 _ A24.out).mono ?_); rintro e w' ⟨rfl, ⟨nd, rfl⟩⟩; refine ⟨_, rfl, ?_⟩) | (go_at_call 16; (with_reducible refine (wrap_Plus.calls a0 a1 t163 _ A24.out).mono ?_); rintro e w' ⟨rfl, ⟨nd, rfl⟩⟩) | ((with_reducible refine gate_callee (f := 16) rfl ?_); refine goesL_ (some 72) rfl rfl Try.func16 (by kernel_rfl) rfl #[.int .i64 t163, .int .i64 a2] rfl (by (try simp only [List.map_toArray, List.map_cons, List.map_nil]); first | done | rfl | (simp only [List.length_drop, List.length_take]; rfl)) ?_; (with_reducible refine (wrap_Plus.calls t163 a2 t164 _ A25.out).mono ?_); rintro e w' ⟨rfl, ⟨nd, rfl⟩⟩; refine ⟨_, rfl, ?_⟩) | (go_at_call 16; (with_reducible refine (wrap_Plus.calls t163 a2 t164 _ A25.out).mono ?_); rintro e w' ⟨rfl, ⟨nd, rfl⟩⟩) | ((with_reducible refine gate_callee (f := 16) rfl ?_); refine goesL_ (some 76) rfl rfl Try.func16 (by kernel_rfl) rfl #[.int .i64 a1, .int .i64 a2] rfl (by (try simp only [List.map_toArray, List.map_cons, List.map_nil]); first | done | rfl | (simp only [List.length_drop, List.length_take]; rfl)) ?_; (with_reducible refine (wrap_Plus.calls a1 a2 t165 _ A26.out).mono ?_); rintro e w' ⟨rfl, ⟨nd, rfl⟩⟩; refine ⟨_, rfl, ?_⟩) | (go_at_call 16; (with_reducible refine (wrap_Plus.calls a1 a2 t165 _ A26.out).mono ?_); rintro e w' ⟨rfl, ⟨nd, rfl⟩⟩) | ((with_reducible refine gate_callee (f := 16) rfl ?_); refine goesL_ (some 77) rfl rfl Try.func16 (by kernel_rfl) rfl #[.int .i64 a0, .int .i64 t165] rfl (by (try simp only [List.map_toArray, List.map_cons, List.map_nil]); first | done | rfl | (simp only [List.length_drop, List.length_take]; rfl)) ?_; (with_reducible refine (wrap_Plus.calls a0 t165 t166 _ A27.out).mono ?_); rintro e w' ⟨rfl, ⟨nd, rfl⟩⟩; refine ⟨_, rfl, ?_⟩) | (go_at_call 16; (with_reducible refine (wrap_Plus.calls a0 t165 t166 _ A27.out).mono ?_); rintro e w' ⟨rfl, ⟨nd, rfl⟩⟩) | (go_at_call 18; (with_reducible refine (wrap_Times.calls a0 a1 t167 _ A29.out).mono ?_); rintro e w' ⟨rfl, ⟨nd, rfl⟩⟩) | (go_at_call 18; (with_reducible refine (wrap_Times.calls t167 a2 t168 _ A30.out).mono ?_); rintro e w' ⟨rfl, ⟨nd, rfl⟩⟩) | (go_at_call 18; (with_reducible refine (wrap_Times.calls a1 a2 t169 _ A31.out).mono ?_); rintro e w' ⟨rfl, ⟨nd, rfl⟩⟩) | (go_at_call 18; (with_reducible refine (wrap_Times.calls a0 t169 t170 _ A32.out).mono ?_); rintro e w' ⟨rfl, ⟨nd, rfl⟩⟩))
                         go_ret
                         exact ⟨by first | rfl | (simp [errW_none, errW_some] <;> rfl) | (simp [*, errW_none, errW_some] <;> rfl), by repeat (first | (with_reducible first | exact HB.out | apply below_alloc | apply pw_below_drewN | apply below_drew1) | exact HB.out)⟩)
                · rw [if_neg c28] at H
                  have c28b0 : (t164 == t166) = false := beq_eq_false_iff_ne.mpr c28
                  have c28b1 : (t164 != t166) = true := bne_iff_ne.mpr c28
                  first
                    | exact absurd (Option.some.inj H) (by decide)
                    | (have HT := Option.some.inj H
                       go_wp2_with (first | ((with_reducible refine gate_callee (f := 16) rfl ?_); refine goesL_ (some 70) rfl rfl Try.func16 (by kernel_rfl) rfl #[.int .i64 a0, .int .i64 a1] rfl (by (try simp only [List.map_toArray, List.map_cons, List.map_nil]); first | done | rfl | (simp only [List.length_drop, List.length_take]; rfl)) ?_; (with_reducible refine (wrap_Plus.calls a0 a1 t163 _ A24.out).mono ?_); rintro e w' ⟨rfl, ⟨nd, rfl⟩⟩; refine ⟨_, rfl, ?_⟩) | (go_at_call 16; (with_reducible refine (wrap_Plus.calls a0 a1 t163 _ A24.out).mono ?_); rintro e w' ⟨rfl, ⟨nd, rfl⟩⟩) | ((with_reducible refine gate_callee (f := 16) rfl ?_); refine goesL_ (some 72) rfl rfl Try.func16 (by kernel_rfl) rfl #[.int .i64 t163, .int .i64 a2] rfl (by (try simp only [List.map_toArray, List.map_cons, List.map_nil]); first | done | rfl | (simp only [List.length_drop, List.length_take]; rfl)) ?_; (with_reducible refine (wrap_Plus.calls t163 a2 t164 _ A25.out).mono ?_); rintro e w' ⟨rfl, ⟨nd, rfl⟩⟩; refine ⟨_, rfl, ?_⟩) | (go_at_call 16; (with_reducible refine (wrap_Plus.calls t163 a2 t164 _ A25.out).mono ?_); rintro e w' ⟨rfl, ⟨nd, rfl⟩⟩) | ((with_reducible refine gate_callee (f := 16) rfl ?_); refine goesL_ (some 76) rfl rfl Try.func16 (by kernel_rfl) rfl #[.int .i64 a1, .int .i64 a2] rfl (by (try simp only [List.map_toArray, List.map_cons, List.map_nil]); first | done | rfl | (simp only [List.length_drop, List.length_take]; rfl)) ?_; (with_reducible refine (wrap_Plus.calls a1 a2 t165 _ A26.out).mono ?_); rintro e w' ⟨rfl, ⟨nd, rfl⟩⟩; refine ⟨_, rfl, ?_⟩) | (go_at_call 16; (with_reducible refine (wrap_Plus.calls a1 a2 t165 _ A26.out).mono ?_); rintro e w' ⟨rfl, ⟨nd, rfl⟩⟩) | ((with_reducible refine gate_callee (f := 16) rfl ?_); refine goesL_ (some 77) rfl rfl Try.func16 (by kernel_rfl) rfl #[.int .i64 a0, .int .i64 t165] rfl (by (try simp only [List.map_toArray, List.map_cons, List.map_nil]); first | done | rfl | (simp only [List.length_drop, List.length_take]; rfl)) ?_; (with_reducible refine (wrap_Plus.calls a0 t165 t166 _ A27.out).mono ?_); rintro e w' ⟨rfl, ⟨nd, rfl⟩⟩; refine ⟨_, rfl, ?_⟩) | (go_at_call 16; (with_reducible refine (wrap_Plus.calls a0 t165 t166 _ A27.out).mono ?_); rintro e w' ⟨rfl, ⟨nd, rfl⟩⟩))
                       go_ret
                       exact ⟨by first | rfl | (simp [errW_none, errW_some] <;> rfl) | (simp [*, errW_none, errW_some] <;> rfl), by repeat (first | (with_reducible first | exact HB.out | apply below_alloc | apply pw_below_drewN | apply below_drew1) | exact HB.out)⟩)
  · replace c6 := Bool.eq_false_iff.mpr c6
    subst c6
    have H1 : (some false) = some true := by rw [if_neg (show ¬ (false = true) by decide)] at H; exact H
    clear H
    have H := H1
    clear H1
    first
      | exact absurd (Option.some.inj H) (by decide)
      | (have HT := Option.some.inj H
         go_enter Try.func5, Try.ntmps5
         go_wp2_with (first | ((with_reducible refine gate_callee (f := 9) rfl ?_); refine goesL_ (some 12) rfl rfl Try.func9 (by kernel_rfl) rfl #[] rfl (by (try simp only [List.map_toArray, List.map_cons, List.map_nil]); first | done | rfl | (simp only [List.length_drop, List.length_take]; rfl)) ?_; (with_reducible refine (withelaw5_begun.calls k  false _ A5.out).mono ?_); rintro e w' ⟨rfl, ⟨nd, rfl⟩⟩; refine ⟨_, rfl, ?_⟩) | (go_at_call 9; (with_reducible refine (withelaw5_begun.calls k  false _ A5.out).mono ?_); rintro e w' ⟨rfl, ⟨nd, rfl⟩⟩))
         go_ret
         exact ⟨by first | rfl | (simp [errW_none, errW_some] <;> rfl) | (simp [*, errW_none, errW_some] <;> rfl), by repeat (first | (with_reducible first | exact HB.out | apply below_alloc | apply pw_below_drewN | apply below_drew1) | exact HB.out)⟩)

/-- THE ONE PURE STATEMENT of withelaw5_WrapStops: yours. -/
def withelaw5_WrapStops.Pure : Prop := ∀ (a0 : Int) (a1 : Int) (a2 : Int) (a3 : Int), (Lit.int .i64 a0).wf = true → (Lit.int .i64 a1).wf = true → (Lit.int .i64 a2).wf = true → (Lit.int .u8 a3).wf = true → ∃ k, withelaw5_WrapStops.f k a0 a1 a2 a3 = some true
theorem withelaw5_WrapStops.walk (P : withelaw5_WrapStops.Pure) (a0 : Int) (a1 : Int) (a2 : Int) (a3 : Int) (w : World) (w0 : (Lit.int .i64 a0).wf = true) (w1 : (Lit.int .i64 a1).wf = true) (w2 : (Lit.int .i64 a2).wf = true) (w3 : (Lit.int .u8 a3).wf = true) :
    Calls Try.prog 5 #[.int .i64 a0, .int .i64 a1, .int .i64 a2, .int .u8 a3] w fun e w' => e = .returned (.bool true) ∧ Below w.heap.size w w' := by
  obtain ⟨k, h⟩ := P a0 a1 a2 a3 w0 w1 w2 w3
  refine (withelaw5_WrapStops.calls k a0 a1 a2 a3 w h).mono ?_
  rintro e w' ⟨rfl, hd⟩
  exact ⟨rfl, hd⟩

end Go.Proofs.Ytpkhcmholpljnaa.PW5
