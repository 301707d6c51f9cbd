/- A text of a claim: it proves what its last theorem states, for every input that the given row speaks of; conditions of ours: none. Written by this claim's own program (wip/tools/xprint.py) over the kit's printer. -/
import Derived.Test.YtpkhcmholpljnabDoorPB1x0
import Derived.Test.YtpkhcmholpljnabDoorPB1x1
import Derived.Test.YtpkhcmholpljnabDoorPB1x2
namespace Go.Proofs.YtpkhcmholpljnabDoor.PB1
open Go.RowKit Go.Proofs.YtpkhcmholpljnabDoorW.PrintWords Go.Proofs.YtpkhcmholpljnabDoorW.PrintLast Go.Proofs.YtpkhcmholpljnabDoorW.PrintMore
attribute [local go_sem] max2_int min2_int max_two min_two max_three min_three max_four min_four   -- for this text's walks alone
set_option linter.unusedVariables false
set_option linter.unusedSimpArgs false

/-! ### witheref1_SameInts: function 12 -/
def witheref1_SameInts.l0 : Nat → List Int → List Int → Int → Option (Bool)
  | 0, _, _, _ => none
  | k + 1, x0, x1, x5 => if x5 < (x0.length : Int) then (if 0 ≤ x5 then (if x5 < (x1.length : Int) then (if (rd x0 x5) = (rd x1 x5) then (witheref1_SameInts.l0 k x0 x1 (wrap64 (x5 + 1))) else (some false)) else (none)) else (none)) else (some true)
def witheref1_SameInts.f (k : Nat) (l0 : List Int) (l1 : List Int) : Option (Bool) := if (l0.length : Int) = (l1.length : Int) then (witheref1_SameInts.l0 k l0 l1 0) else (some false)
theorem witheref1_SameInts.mono_l : ∀ k, (∀ y0 y1 y2, LeO (witheref1_SameInts.l0 k y0 y1 y2) (witheref1_SameInts.l0 (k + 1) y0 y1 y2))
  | 0 => fun _ _ _ r h => by simp [witheref1_SameInts.l0] at h
  | k + 1 => by
    have ih0 := witheref1_SameInts.mono_l k
    · intro y0 y1 y2
      unfold witheref1_SameInts.l0
      repeat' first
      | (with_reducible exact ih0 _ _ _)
      | (with_reducible exact LeO.refl _)
      | (with_reducible exact LeO.none _)
      | (with_reducible refine LeO.ite ?_ ?_)
      | (with_reducible refine LeO.bind ?_ (fun _ => ?_))
      | exact ih0 _ _ _
      | exact LeO.none _
      | refine LeO.ite ?_ ?_
      | refine LeO.bind ?_ (fun _ => ?_)
theorem witheref1_SameInts.mono : ∀ a0 a1 k, LeO (witheref1_SameInts.f k a0 a1) (witheref1_SameInts.f (k + 1) a0 a1) := by
  intro a0 a1 k
  have ih0 := witheref1_SameInts.mono_l k
  unfold witheref1_SameInts.f
  repeat' first
      | (with_reducible exact ih0 _ _ _)
      | (with_reducible exact LeO.refl _)
      | (with_reducible exact LeO.none _)
      | (with_reducible refine LeO.ite ?_ ?_)
      | (with_reducible refine LeO.bind ?_ (fun _ => ?_))
      | exact ih0 _ _ _
      | exact LeO.none _
      | refine LeO.ite ?_ ?_
      | refine LeO.bind ?_ (fun _ => ?_)
set_option maxHeartbeats 8000000 in
set_option maxRecDepth 100000 in
theorem witheref1_SameInts.calls (k : Nat) (A0 : Option Addr) (c0 : Nat) (l0 : List Int) (A1 : Option Addr) (c1 : Nat) (l1 : List Int) (r : Bool) (w : World) (hr0 : Kd.C (Kd.int .i64) w A0 l0.length l0) (hc0 : l0.length ≤ c0) (hr1 : Kd.C (Kd.int .i64) w A1 l1.length l1) (hc1 : l1.length ≤ c1) (h : witheref1_SameInts.f k l0 l1 = some r) :
    Calls Tryd.prog 12 #[.slice A0 l0.length c0, .slice A1 l1.length c1] w fun e w' => e = .returned (.bool r) ∧ Drawn0 w w' := by
  have HR0 := Aside0.mk hr0
  have HC0 := Aside0.mk hc0
  clear hr0 hc0
  have HR1 := Aside0.mk hr1
  have HC1 := Aside0.mk hc1
  clear hr1 hc1
  have H : (if (l0.length : Int) = (l1.length : Int) then (witheref1_SameInts.l0 k l0 l1 0) else (some false)) = some r := h
  clear h
  by_cases c3 : (l0.length : Int) = (l1.length : Int)
  · rw [if_pos c3] at H
    have c3b0 : ((l0.length : Int) == (l1.length : Int)) = true := beq_iff_eq.mpr c3
    have c3b1 : ((l0.length : Int) != (l1.length : Int)) = false := bne_eq_false_iff_eq.mpr c3
    have c3b2 : (l0.length == l1.length) = true := by first | simpa using c3 | (simp at c3 ⊢; omega)
    clear c3
    have H' := Aside0.mk H
    clear H
    go_enter Tryd.func12, Tryd.ntmps12
    go_wp2
    repeat (go_quiet (fail); try go_wp2)
    go_loopg [5] k (fun kq v5 w' => ∃ (x5_1 : Int), v5 = .int .i64 x5_1 ∧ Aside0 (witheref1_SameInts.l0 kq l0 l1 x5_1 = some r) ∧ Aside0 (kq ≤ k) ∧ Drawn0 w w')
    case atStart => exact ⟨(0), (by first | rfl | (simp; done) | (simp [*]; done)), H', ⟨Nat.le_refl _⟩, by repeat (first | exact Drawn0.refl _ | apply Drawn0.step)⟩
    case round =>
      clear H'
      try clear c1
      try clear p2
      try clear c3
      try clear c3b0
      try clear c3b1
      try clear c3b2
      obtain ⟨x5_1, rfl, HA, HK1, ⟨m1, rfl⟩⟩ := hrel
      cases gk with
      | zero => exact absurd HA.out (by simp [witheref1_SameInts.l0])
      | succ k1 =>
        have H := HA.out
        clear HA
        simp only [witheref1_SameInts.l0] at H
        by_cases c4 : x5_1 < (l0.length : Int)
        · rw [if_pos c4] at H
          have c4b0 : decide (x5_1 < (l0.length : Int)) = true := decide_eq_true c4
          clear c4
          by_cases c5 : 0 ≤ x5_1
          · rw [if_pos c5] at H
            have c5b0 : decide (0 ≤ x5_1) = true := decide_eq_true c5
            clear c5
            by_cases c6 : x5_1 < (l1.length : Int)
            · rw [if_pos c6] at H
              have c6b0 : decide (x5_1 < (l1.length : Int)) = true := decide_eq_true c6
              clear c6
              by_cases c7 : (rd l0 x5_1) = (rd l1 x5_1)
              · rw [if_pos c7] at H
                have c7b0 : ((rd l0 x5_1) == (rd l1 x5_1)) = true := beq_iff_eq.mpr c7
                have c7b1 : ((rd l0 x5_1) != (rd l1 x5_1)) = false := bne_eq_false_iff_eq.mpr c7
                clear c7
                have H' := Aside0.mk H
                clear H
                have p154 : 0 ≤ (x5_1 : Int) := of_decide_eq_true (by first | (with_reducible assumption) | assumption)
                have q154 : x5_1 < (l0.length : Int) := of_decide_eq_true (by first | (with_reducible assumption) | assumption)
                obtain ⟨ad154, e154, hx154_0⟩ := Kd.at_int HR0.out x5_1 p154 q154
                cases e154
                replace p154 := eq_true p154
                replace q154 := eq_true q154
                have p155 : 0 ≤ (x5_1 : Int) := of_decide_eq_true (by first | (with_reducible assumption) | assumption)
                have q155 : x5_1 < (l1.length : Int) := of_decide_eq_true (by first | (with_reducible assumption) | assumption)
                obtain ⟨ad155, e155, hx155_0⟩ := Kd.at_int HR1.out x5_1 p155 q155
                cases e155
                replace p155 := eq_true p155
                replace q155 := eq_true q155
                go_wp2
                repeat (go_quiet (fail); try go_wp2)
                go_roundg k1
                case measure => have := HK1.out; omega
                case rel => exact ⟨(wrap64 (x5_1 + 1)), (by first | rfl | (simp; done) | (simp [*]; done)), H', ⟨by have := HK1.out; omega⟩, by repeat (first | exact Drawn0.refl _ | apply Drawn0.step)⟩
              · rw [if_neg c7] at H
                have c7b0 : ((rd l0 x5_1) == (rd l1 x5_1)) = false := beq_eq_false_iff_ne.mpr c7
                have c7b1 : ((rd l0 x5_1) != (rd l1 x5_1)) = true := bne_iff_ne.mpr c7
                obtain rfl := Option.some.inj H
                have p154 : 0 ≤ (x5_1 : Int) := of_decide_eq_true (by first | (with_reducible assumption) | assumption)
                have q154 : x5_1 < (l0.length : Int) := of_decide_eq_true (by first | (with_reducible assumption) | assumption)
                obtain ⟨ad154, e154, hx154_0⟩ := Kd.at_int HR0.out x5_1 p154 q154
                cases e154
                replace p154 := eq_true p154
                replace q154 := eq_true q154
                have p155 : 0 ≤ (x5_1 : Int) := of_decide_eq_true (by first | (with_reducible assumption) | assumption)
                have q155 : x5_1 < (l1.length : Int) := of_decide_eq_true (by first | (with_reducible assumption) | assumption)
                obtain ⟨ad155, e155, hx155_0⟩ := Kd.at_int HR1.out x5_1 p155 q155
                cases e155
                replace p155 := eq_true p155
                replace q155 := eq_true q155
                go_wp2
                repeat (go_quiet (fail); try go_wp2)
                go_ret
                exact ⟨by first | rfl | (simp; done) | (simp [*]; done), by repeat (first | exact Drawn0.refl _ | apply Drawn0.step)⟩
            · rw [if_neg c6] at H
              exact absurd H (by simp)
          · rw [if_neg c5] at H
            exact absurd H (by simp)
        · rw [if_neg c4] at H
          have c4b0 : decide (x5_1 < (l0.length : Int)) = false := decide_eq_false c4
          clear c4
          obtain rfl := Option.some.inj H
          go_wp2
          repeat (go_quiet (fail); try go_wp2)
          go_ret
          exact ⟨by first | rfl | (simp; done) | (simp [*]; done), by repeat (first | exact Drawn0.refl _ | apply Drawn0.step)⟩
  · rw [if_neg c3] at H
    have c3b0 : ((l0.length : Int) == (l1.length : Int)) = false := beq_eq_false_iff_ne.mpr c3
    have c3b1 : ((l0.length : Int) != (l1.length : Int)) = true := bne_iff_ne.mpr c3
    have c3b2 : (l0.length == l1.length) = false := by first | simpa using c3 | (simp at c3 ⊢; omega)
    obtain rfl := Option.some.inj H
    go_enter Tryd.func12, Tryd.ntmps12
    go_wp2
    repeat (go_quiet (fail); try go_wp2)
    go_ret
    exact ⟨by first | rfl | (simp; done) | (simp [*]; done), by repeat (first | exact Drawn0.refl _ | apply Drawn0.step)⟩

/-! ### witheref1_Range: function 15 -/
def witheref1_Range.l0 : Nat → Int → Int → Int → Int → Option (Int)
  | 0, _, _, _, _ => none
  | k + 1, x0, x1, x5, x6 => if x6 < 64 then (if x6 ≥ x0 then (if x6 < x1 then ((witheref1_Put.f k x5 x6).bind fun t156 => (witheref1_Range.l0 k x0 x1 t156 (wrap64 (x6 + 1)))) else (witheref1_Range.l0 k x0 x1 x5 (wrap64 (x6 + 1)))) else (witheref1_Range.l0 k x0 x1 x5 (wrap64 (x6 + 1)))) else (some x5)
def witheref1_Range.f (k : Nat) (a0 : Int) (a1 : Int) : Option (Int) := witheref1_Range.l0 k a0 a1 0 0
theorem witheref1_Range.mono_l : ∀ k, (∀ y0 y1 y2 y3, LeO (witheref1_Range.l0 k y0 y1 y2 y3) (witheref1_Range.l0 (k + 1) y0 y1 y2 y3))
  | 0 => fun _ _ _ _ r h => by simp [witheref1_Range.l0] at h
  | k + 1 => by
    have ih0 := witheref1_Range.mono_l k
    · intro y0 y1 y2 y3
      unfold witheref1_Range.l0
      repeat' first
      | (with_reducible exact ih0 _ _ _ _)
      | (with_reducible exact witheref1_Put.mono _ _ _)
      | (with_reducible exact LeO.refl _)
      | (with_reducible exact LeO.none _)
      | (with_reducible refine LeO.ite ?_ ?_)
      | (with_reducible refine LeO.bind ?_ (fun _ => ?_))
      | exact ih0 _ _ _ _
      | exact witheref1_Put.mono _ _ _
      | exact LeO.none _
      | refine LeO.ite ?_ ?_
      | refine LeO.bind ?_ (fun _ => ?_)
theorem witheref1_Range.mono : ∀ a0 a1 k, LeO (witheref1_Range.f k a0 a1) (witheref1_Range.f (k + 1) a0 a1) := by
  intro a0 a1 k
  have ih0 := witheref1_Range.mono_l k
  unfold witheref1_Range.f
  repeat' first
      | (with_reducible exact ih0 _ _ _ _)
      | (with_reducible exact witheref1_Put.mono _ _ _)
      | (with_reducible exact LeO.refl _)
      | (with_reducible exact LeO.none _)
      | (with_reducible refine LeO.ite ?_ ?_)
      | (with_reducible refine LeO.bind ?_ (fun _ => ?_))
      | exact ih0 _ _ _ _
      | exact witheref1_Put.mono _ _ _
      | exact LeO.none _
      | refine LeO.ite ?_ ?_
      | refine LeO.bind ?_ (fun _ => ?_)
set_option maxHeartbeats 8000000 in
set_option maxRecDepth 100000 in
theorem witheref1_Range.calls (k : Nat) (a0 : Int) (a1 : Int) (r : Int) (w : World) (h : witheref1_Range.f k a0 a1 = some r) :
    Calls Tryd.prog 15 #[.int .i64 a0, .int .i64 a1] w fun e w' => e = .returned (.int .u64 r) ∧ Drawn0 w w' := by
  have H : (witheref1_Range.l0 k a0 a1 0 0) = some r := h
  clear h
  have H' := Aside0.mk H
  clear H
  go_enter Tryd.func15, Tryd.ntmps15
  go_wp2
  go_loopg [5, 6] k (fun kq v5 v6 w' => ∃ (x5_1 : Int) (x6_1 : Int), v5 = .int .u64 x5_1 ∧ v6 = .int .i64 x6_1 ∧ Aside0 (witheref1_Range.l0 kq a0 a1 x5_1 x6_1 = some r) ∧ Aside0 (kq ≤ k) ∧ Drawn0 w w')
  case atStart => exact ⟨(0), (0), (by first | rfl | (simp; done) | (simp [*]; done)), (by first | rfl | (simp; done) | (simp [*]; done)), H', ⟨Nat.le_refl _⟩, by repeat (first | exact Drawn0.refl _ | apply Drawn0.step)⟩
  case round =>
    clear H'
    try clear c1
    try clear p2
    obtain ⟨x5_1, x6_1, rfl, rfl, HA, HK1, ⟨m1, rfl⟩⟩ := hrel
    cases gk with
    | zero => exact absurd HA.out (by simp [witheref1_Range.l0])
    | succ k1 =>
      have H := HA.out
      clear HA
      simp only [witheref1_Range.l0] at H
      by_cases c3 : x6_1 < 64
      · rw [if_pos c3] at H
        have c3b0 : decide (x6_1 < 64) = true := decide_eq_true c3
        clear c3
        by_cases c4 : x6_1 ≥ a0
        · rw [if_pos c4] at H
          have c4b0 : decide (a0 ≤ x6_1) = true := decide_eq_true c4
          clear c4
          by_cases c5 : x6_1 < a1
          · rw [if_pos c5] at H
            have c5b0 : decide (x6_1 < a1) = true := decide_eq_true c5
            clear c5
            replace H := Option.bind_eq_some_iff.mp H
            obtain ⟨t156, A60, H⟩ := H
            replace H : (witheref1_Range.l0 k1 a0 a1 t156 (wrap64 (x6_1 + 1))) = some r := H
            have A6 := Aside0.mk A60
            clear A60
            have H' := Aside0.mk H
            clear H
            go_wp2_with (first | ((with_reducible refine gate_callee (f := 19) rfl ?_); refine goesL_ (some 21) rfl rfl Tryd.func19 (by kernel_rfl) rfl #[.int .u64 x5_1, .int .i64 x6_1] rfl (by (try simp only [List.map_toArray, List.map_cons, List.map_nil]); first | done | rfl | (simp only [List.length_drop, List.length_take]; rfl)) ?_; (with_reducible refine (witheref1_Put.calls k1 x5_1 x6_1 t156 _ A6.out).mono ?_); rintro e w' ⟨rfl, ⟨nd, rfl⟩⟩; refine ⟨_, rfl, ?_⟩))
            go_roundg k1
            case measure => have := HK1.out; omega
            case rel => exact ⟨(t156), (wrap64 (x6_1 + 1)), (by first | rfl | (simp; done) | (simp [*]; done)), (by first | rfl | (simp; done) | (simp [*]; done)), H', ⟨by have := HK1.out; omega⟩, by repeat (first | exact Drawn0.refl _ | apply Drawn0.step)⟩
          · rw [if_neg c5] at H
            have c5b0 : decide (x6_1 < a1) = false := decide_eq_false c5
            clear c5
            have H' := Aside0.mk H
            clear H
            go_wp2
            go_roundg k1
            case measure => have := HK1.out; omega
            case rel => exact ⟨(x5_1), (wrap64 (x6_1 + 1)), (by first | rfl | (simp; done) | (simp [*]; done)), (by first | rfl | (simp; done) | (simp [*]; done)), H', ⟨by have := HK1.out; omega⟩, by repeat (first | exact Drawn0.refl _ | apply Drawn0.step)⟩
        · rw [if_neg c4] at H
          have c4b0 : decide (a0 ≤ x6_1) = false := decide_eq_false c4
          clear c4
          have H' := Aside0.mk H
          clear H
          go_wp2
          go_roundg k1
          case measure => have := HK1.out; omega
          case rel => exact ⟨(x5_1), (wrap64 (x6_1 + 1)), (by first | rfl | (simp; done) | (simp [*]; done)), (by first | rfl | (simp; done) | (simp [*]; done)), H', ⟨by have := HK1.out; omega⟩, by repeat (first | exact Drawn0.refl _ | apply Drawn0.step)⟩
      · rw [if_neg c3] at H
        have c3b0 : decide (x6_1 < 64) = false := decide_eq_false c3
        clear c3
        obtain rfl := Option.some.inj H
        go_wp2
        go_ret
        exact ⟨by first | rfl | (simp; done) | (simp [*]; done), by repeat (first | exact Drawn0.refl _ | apply Drawn0.step)⟩

/-! ### witheref1_Drop: function 21 -/
def witheref1_Drop.f (k : Nat) (a0 : Int) (a1 : Int) : Option (Int) := (witheref1_Has.f a0 a1).bind fun t157 => (if t157 = true then ((witheref1_Power.f k a1).bind fun t158 => (some (IntKind.u64.wrap (a0 - t158)))) else (some a0))
theorem witheref1_Drop.mono : ∀ a0 a1 k, LeO (witheref1_Drop.f k a0 a1) (witheref1_Drop.f (k + 1) a0 a1) := by
  intro a0 a1 k
  unfold witheref1_Drop.f
  repeat' first
      | (with_reducible exact witheref1_Power.mono _ _)
      | (with_reducible exact LeO.refl _)
      | (with_reducible exact LeO.none _)
      | (with_reducible refine LeO.ite ?_ ?_)
      | (with_reducible refine LeO.bind ?_ (fun _ => ?_))
      | exact witheref1_Power.mono _ _
      | exact LeO.none _
      | refine LeO.ite ?_ ?_
      | refine LeO.bind ?_ (fun _ => ?_)
set_option maxHeartbeats 8000000 in
set_option maxRecDepth 100000 in
theorem witheref1_Drop.calls (k : Nat) (a0 : Int) (a1 : Int) (r : Int) (w : World) (h : witheref1_Drop.f k a0 a1 = some r) :
    Calls Tryd.prog 21 #[.int .u64 a0, .int .i64 a1] w fun e w' => e = .returned (.int .u64 r) ∧ Drawn0 w w' := by
  have H : ((witheref1_Has.f a0 a1).bind fun t157 => (if t157 = true then ((witheref1_Power.f k a1).bind fun t158 => (some (IntKind.u64.wrap (a0 - t158)))) else (some a0))) = some r := h
  clear h
  replace H := Option.bind_eq_some_iff.mp H
  obtain ⟨t157, A30, H⟩ := H
  replace H : (if t157 = true then ((witheref1_Power.f k a1).bind fun t158 => (some (IntKind.u64.wrap (a0 - t158)))) else (some a0)) = some r := H
  have A3 := Aside0.mk A30
  clear A30
  by_cases c4 : t157 = true
  · subst c4
    have H1 : ((witheref1_Power.f k a1).bind fun t158 => (some (IntKind.u64.wrap (a0 - t158)))) = some r := by rw [if_pos rfl] at H; exact H
    clear H
    have H := H1
    clear H1
    replace H := Option.bind_eq_some_iff.mp H
    obtain ⟨t158, A50, H⟩ := H
    replace H : (some (IntKind.u64.wrap (a0 - t158))) = some r := H
    have A5 := Aside0.mk A50
    clear A50
    obtain rfl := Option.some.inj H
    go_enter Tryd.func21, Tryd.ntmps21
    go_wp2_with (first | ((with_reducible refine gate_callee (f := 17) rfl ?_); refine goesL_ (some 7) rfl rfl Tryd.func17 (by kernel_rfl) rfl #[.int .u64 a0, .int .i64 a1] rfl (by (try simp only [List.map_toArray, List.map_cons, List.map_nil]); first | done | rfl | (simp only [List.length_drop, List.length_take]; rfl)) ?_; (with_reducible refine (witheref1_Has.calls a0 a1 true _ A3.out).mono ?_); rintro e w' ⟨rfl, ⟨nd, rfl⟩⟩; refine ⟨_, rfl, ?_⟩) | ((with_reducible refine gate_callee (f := 30) rfl ?_); refine goesL_ (some 12) rfl rfl Tryd.func30 (by kernel_rfl) rfl #[.int .i64 a1] rfl (by (try simp only [List.map_toArray, List.map_cons, List.map_nil]); first | done | rfl | (simp only [List.length_drop, List.length_take]; rfl)) ?_; (with_reducible refine (witheref1_Power.calls k a1 t158 _ A5.out).mono ?_); rintro e w' ⟨rfl, ⟨nd, rfl⟩⟩; refine ⟨_, rfl, ?_⟩))
    go_ret
    exact ⟨by first | rfl | (simp; done) | (simp [*]; done), by repeat (first | exact Drawn0.refl _ | apply Drawn0.step)⟩
  · replace c4 := Bool.eq_false_iff.mpr c4
    subst c4
    have H1 : (some a0) = some r := by rw [if_neg (show ¬ (false = true) by decide)] at H; exact H
    clear H
    have H := H1
    clear H1
    obtain rfl := Option.some.inj H
    go_enter Tryd.func21, Tryd.ntmps21
    go_wp2_with (first | ((with_reducible refine gate_callee (f := 17) rfl ?_); refine goesL_ (some 7) rfl rfl Tryd.func17 (by kernel_rfl) rfl #[.int .u64 a0, .int .i64 a1] rfl (by (try simp only [List.map_toArray, List.map_cons, List.map_nil]); first | done | rfl | (simp only [List.length_drop, List.length_take]; rfl)) ?_; (with_reducible refine (witheref1_Has.calls a0 a1 false _ A3.out).mono ?_); rintro e w' ⟨rfl, ⟨nd, rfl⟩⟩; refine ⟨_, rfl, ?_⟩))
    go_ret
    exact ⟨by first | rfl | (simp; done) | (simp [*]; done), by repeat (first | exact Drawn0.refl _ | apply Drawn0.step)⟩

/-! ### witheref1_Within: function 26 -/
def witheref1_Within.f (a0 : Int) (a1 : Int) : Option (Bool) := some ((Go.bits .or .u64 a0 a1) == a1)
set_option maxHeartbeats 8000000 in
set_option maxRecDepth 100000 in
theorem witheref1_Within.calls (a0 : Int) (a1 : Int) (r : Bool) (w : World) (h : witheref1_Within.f a0 a1 = some r) :
    Calls Tryd.prog 26 #[.int .u64 a0, .int .u64 a1] w fun e w' => e = .returned (.bool r) ∧ Drawn0 w w' := by
  have H : (some ((Go.bits .or .u64 a0 a1) == a1)) = some r := h
  clear h
  obtain rfl := Option.some.inj H
  go_enter Tryd.func26, Tryd.ntmps26
  go_wp2
  go_ret
  exact ⟨by first | rfl | (simp; done) | (simp [*]; done), by repeat (first | exact Drawn0.refl _ | apply Drawn0.step)⟩

/-! ### withelaw1_BitsAll: function 3 -/
def withelaw1_BitsAll.j0 : Nat → Int → Int → List Int → Int → Int → Int → List Int → Int → Int → Option (Bool)
  | 0, _, _, _, _, _, _, _, _, _ => none
  | k + 1, x0, x1, x2, x3, x4, x5, x13, x14, x15 => (bits_Of.f k x2).bind fun t165 => ((witheref1_Of.f k x2).bind fun t166 => (if t165 = t166 then ((bits_List.f x0).bind fun t167 => ((witheref1_SameInts.f k t167 x13).bind fun t170 => (if t170 = true then ((bits_Range.f k x4 x5).bind fun t171 => ((witheref1_Range.f k x4 x5).bind fun t172 => (if t171 = t172 then ((bits_Has.f x0 x3).bind fun t173 => ((witheref1_Has.f x0 x3).bind fun t174 => (if (t173 == t174) = true then ((bits_Put.f x0 x3).bind fun t175 => ((witheref1_Put.f k x0 x3).bind fun t176 => (if t175 = t176 then ((bits_Drop.f x0 x3).bind fun t177 => ((witheref1_Drop.f k x0 x3).bind fun t178 => (if t177 = t178 then ((bits_Count.f x0).bind fun t179 => (if t179 = (x13.length : Int) then ((bits_First.f x0).bind fun t180 => (if t180 = x14 then ((bits_Last.f x0).bind fun t181 => (if t181 = x15 then ((bits_Within.f x0 x1).bind fun t182 => ((witheref1_Within.f x0 x1).bind fun t183 => (some (t182 == t183)))) else (none))) else (none))) else (none))) else (none)))) else (none)))) else (none)))) else (none)))) else (none)))) else (none)))
def withelaw1_BitsAll.f (k : Nat) (a0 : Int) (a1 : Int) (l2 : List Int) (a3 : Int) (a4 : Int) (a5 : Int) : Option (Bool) := (withelaw1_begun.f k).bind fun t159 => (if t159 = true then (if (l2.length : Int) > 60 then (some true) else ((witheref1_List.f k a0).bind fun t160 => (if (t160.length : Int) > 0 then (if 0 < (t160.length : Int) then (if 0 ≤ (wrap64 ((t160.length : Int) - 1)) then (if (wrap64 ((t160.length : Int) - 1)) < (t160.length : Int) then (withelaw1_BitsAll.j0 k a0 a1 l2 a3 a4 a5 t160 (rd t160 0) (rd t160 (wrap64 ((t160.length : Int) - 1)))) else (none)) else (none)) else (none)) else (withelaw1_BitsAll.j0 k a0 a1 l2 a3 a4 a5 t160 (-1) (-1))))) else (none))
theorem withelaw1_BitsAll.mono_l : ∀ k, (∀ y0 y1 y2 y3 y4 y5 y6 y7 y8, LeO (withelaw1_BitsAll.j0 k y0 y1 y2 y3 y4 y5 y6 y7 y8) (withelaw1_BitsAll.j0 (k + 1) y0 y1 y2 y3 y4 y5 y6 y7 y8))
  | 0 => fun _ _ _ _ _ _ _ _ _ r h => by simp [withelaw1_BitsAll.j0] at h
  | k + 1 => by
    have ih0 := withelaw1_BitsAll.mono_l k
    · intro y0 y1 y2 y3 y4 y5 y6 y7 y8
      unfold withelaw1_BitsAll.j0
      repeat' first
      | (with_reducible exact ih0 _ _ _ _ _ _ _ _ _)
      | (with_reducible exact bits_Of.mono _ _)
      | (with_reducible exact bits_Range.mono _ _ _)
      | (with_reducible exact withelaw1_begun.mono _)
      | (with_reducible exact witheref1_Drop.mono _ _ _)
      | (with_reducible exact witheref1_List.mono _ _)
      | (with_reducible exact witheref1_Of.mono _ _)
      | (with_reducible exact witheref1_Put.mono _ _ _)
      | (with_reducible exact witheref1_Range.mono _ _ _)
      | (with_reducible exact witheref1_SameInts.mono _ _ _)
      | (with_reducible exact LeO.refl _)
      | (with_reducible exact LeO.none _)
      | (with_reducible refine LeO.ite ?_ ?_)
      | (with_reducible refine LeO.bind ?_ (fun _ => ?_))
      | exact ih0 _ _ _ _ _ _ _ _ _
      | exact bits_Of.mono _ _
      | exact bits_Range.mono _ _ _
      | exact withelaw1_begun.mono _
      | exact witheref1_Drop.mono _ _ _
      | exact witheref1_List.mono _ _
      | exact witheref1_Of.mono _ _
      | exact witheref1_Put.mono _ _ _
      | exact witheref1_Range.mono _ _ _
      | exact witheref1_SameInts.mono _ _ _
      | exact LeO.none _
      | refine LeO.ite ?_ ?_
      | refine LeO.bind ?_ (fun _ => ?_)
theorem withelaw1_BitsAll.mono : ∀ a0 a1 a2 a3 a4 a5 k, LeO (withelaw1_BitsAll.f k a0 a1 a2 a3 a4 a5) (withelaw1_BitsAll.f (k + 1) a0 a1 a2 a3 a4 a5) := by
  intro a0 a1 a2 a3 a4 a5 k
  have ih0 := withelaw1_BitsAll.mono_l k
  unfold withelaw1_BitsAll.f
  repeat' first
      | (with_reducible exact ih0 _ _ _ _ _ _ _ _ _)
      | (with_reducible exact bits_Of.mono _ _)
      | (with_reducible exact bits_Range.mono _ _ _)
      | (with_reducible exact withelaw1_begun.mono _)
      | (with_reducible exact witheref1_Drop.mono _ _ _)
      | (with_reducible exact witheref1_List.mono _ _)
      | (with_reducible exact witheref1_Of.mono _ _)
      | (with_reducible exact witheref1_Put.mono _ _ _)
      | (with_reducible exact witheref1_Range.mono _ _ _)
      | (with_reducible exact witheref1_SameInts.mono _ _ _)
      | (with_reducible exact LeO.refl _)
      | (with_reducible exact LeO.none _)
      | (with_reducible refine LeO.ite ?_ ?_)
      | (with_reducible refine LeO.bind ?_ (fun _ => ?_))
      | exact ih0 _ _ _ _ _ _ _ _ _
      | exact bits_Of.mono _ _
      | exact bits_Range.mono _ _ _
      | exact withelaw1_begun.mono _
      | exact witheref1_Drop.mono _ _ _
      | exact witheref1_List.mono _ _
      | exact witheref1_Of.mono _ _
      | exact witheref1_Put.mono _ _ _
      | exact witheref1_Range.mono _ _ _
      | exact witheref1_SameInts.mono _ _ _
      | exact LeO.none _
      | refine LeO.ite ?_ ?_
      | refine LeO.bind ?_ (fun _ => ?_)
set_option maxHeartbeats 8000000 in
set_option maxRecDepth 100000 in
theorem withelaw1_BitsAll.calls (k : Nat) (a0 : Int) (a1 : Int) (A2 : Option Addr) (c2 : Nat) (l2 : List Int) (a3 : Int) (a4 : Int) (a5 : Int) (w : World) (hr2 : Kd.C (Kd.int .i64) w A2 l2.length l2) (hc2 : l2.length ≤ c2) (hTab : TabW w) (h : withelaw1_BitsAll.f k a0 a1 l2 a3 a4 a5 = some true) :
    Calls Tryd.prog 3 #[.int .u64 a0, .int .u64 a1, .slice A2 l2.length c2, .int .i64 a3, .int .i64 a4, .int .i64 a5] w fun e w' => e = .returned (.bool true) ∧ Below w.heap.size w w' := by
  have HR2 := Aside0.mk hr2
  have HC2 := Aside0.mk hc2
  clear hr2 hc2
  have HB := Aside0.mk (Below.refl w.heap.size w)
  have H : ((withelaw1_begun.f k).bind fun t159 => (if t159 = true then (if (l2.length : Int) > 60 then (some true) else ((witheref1_List.f k a0).bind fun t160 => (if (t160.length : Int) > 0 then (if 0 < (t160.length : Int) then (if 0 ≤ (wrap64 ((t160.length : Int) - 1)) then (if (wrap64 ((t160.length : Int) - 1)) < (t160.length : Int) then (withelaw1_BitsAll.j0 k a0 a1 l2 a3 a4 a5 t160 (rd t160 0) (rd t160 (wrap64 ((t160.length : Int) - 1)))) else (none)) else (none)) else (none)) else (withelaw1_BitsAll.j0 k a0 a1 l2 a3 a4 a5 t160 (-1) (-1))))) else (none))) = some true := h
  clear h
  replace H := Option.bind_eq_some_iff.mp H
  obtain ⟨t159, A70, H⟩ := H
  replace H : (if t159 = true then (if (l2.length : Int) > 60 then (some true) else ((witheref1_List.f k a0).bind fun t160 => (if (t160.length : Int) > 0 then (if 0 < (t160.length : Int) then (if 0 ≤ (wrap64 ((t160.length : Int) - 1)) then (if (wrap64 ((t160.length : Int) - 1)) < (t160.length : Int) then (withelaw1_BitsAll.j0 k a0 a1 l2 a3 a4 a5 t160 (rd t160 0) (rd t160 (wrap64 ((t160.length : Int) - 1)))) else (none)) else (none)) else (none)) else (withelaw1_BitsAll.j0 k a0 a1 l2 a3 a4 a5 t160 (-1) (-1))))) else (none)) = some true := H
  have A7 := Aside0.mk A70
  clear A70
  by_cases c8 : t159 = true
  · subst c8
    have H1 : (if (l2.length : Int) > 60 then (some true) else ((witheref1_List.f k a0).bind fun t160 => (if (t160.length : Int) > 0 then (if 0 < (t160.length : Int) then (if 0 ≤ (wrap64 ((t160.length : Int) - 1)) then (if (wrap64 ((t160.length : Int) - 1)) < (t160.length : Int) then (withelaw1_BitsAll.j0 k a0 a1 l2 a3 a4 a5 t160 (rd t160 0) (rd t160 (wrap64 ((t160.length : Int) - 1)))) else (none)) else (none)) else (none)) else (withelaw1_BitsAll.j0 k a0 a1 l2 a3 a4 a5 t160 (-1) (-1))))) = some true := by rw [if_pos rfl] at H; exact H
    clear H
    have H := H1
    clear H1
    by_cases c9 : (l2.length : Int) > 60
    · rw [if_pos c9] at H
      have c9b0 : decide (60 < (l2.length : Int)) = true := decide_eq_true c9
      have c9b1 : decide (60 < l2.length) = true := decide_eq_true (by omega)
      clear c9
      first
        | exact absurd (Option.some.inj H) (by decide)
        | (have HT := Option.some.inj H
           go_enter Tryd.func3, Tryd.ntmps3
           go_wp2_with (first | (go_at_call 8; (with_reducible refine (withelaw1_begun.calls k  true _ (by first | exact hTab | (repeat (first | exact hTab | exact TabW.below hTab HB.out | (with_reducible apply TabW.drewN) | (with_reducible apply TabW.drew) | (with_reducible apply TabW.alloc)))) A7.out).mono ?_); rintro e w10 ⟨rfl, hb⟩; have n0_ := Aside0.mk (below_step (by repeat (first | (with_reducible first | exact HB.out | apply below_alloc | apply pw_below_drewN | apply below_drew1) | exact HB.out)) hb); clear HB; have HB := n0_; clear n0_; (try clear hb); (try clear hb2); (try clear hk); (try clear hi)))
           repeat (go_quiet (first | (go_at_call 8; (with_reducible refine (withelaw1_begun.calls k  true _ (by first | exact hTab | (repeat (first | exact hTab | exact TabW.below hTab HB.out | (with_reducible apply TabW.drewN) | (with_reducible apply TabW.drew) | (with_reducible apply TabW.alloc)))) A7.out).mono ?_); rintro e w10 ⟨rfl, hb⟩; have n0_ := Aside0.mk (below_step (by repeat (first | (with_reducible first | exact HB.out | apply below_alloc | apply pw_below_drewN | apply below_drew1) | exact HB.out)) hb); clear HB; have HB := n0_; clear n0_; (try clear hb); (try clear hb2); (try clear hk); (try clear hi))); try go_wp2_with (first | (go_at_call 8; (with_reducible refine (withelaw1_begun.calls k  true _ (by first | exact hTab | (repeat (first | exact hTab | exact TabW.below hTab HB.out | (with_reducible apply TabW.drewN) | (with_reducible apply TabW.drew) | (with_reducible apply TabW.alloc)))) A7.out).mono ?_); rintro e w10 ⟨rfl, hb⟩; have n0_ := Aside0.mk (below_step (by repeat (first | (with_reducible first | exact HB.out | apply below_alloc | apply pw_below_drewN | apply below_drew1) | exact HB.out)) hb); clear HB; have HB := n0_; clear n0_; (try clear hb); (try clear hb2); (try clear hk); (try clear hi))))
           go_ret
           exact ⟨by first | rfl | (simp [errW_none, errW_some] <;> rfl) | (simp [*, errW_none, errW_some] <;> rfl), by repeat (first | (with_reducible first | exact HB.out | apply below_alloc | apply pw_below_drewN | apply below_drew1) | exact HB.out)⟩)
    · rw [if_neg c9] at H
      have c9b0 : decide (60 < (l2.length : Int)) = false := decide_eq_false c9
      have c9b1 : decide (60 < l2.length) = false := decide_eq_false (by omega)
      clear c9
      replace H := Option.bind_eq_some_iff.mp H
      obtain ⟨t160, A110, H⟩ := H
      replace H : (if (t160.length : Int) > 0 then (if 0 < (t160.length : Int) then (if 0 ≤ (wrap64 ((t160.length : Int) - 1)) then (if (wrap64 ((t160.length : Int) - 1)) < (t160.length : Int) then (withelaw1_BitsAll.j0 k a0 a1 l2 a3 a4 a5 t160 (rd t160 0) (rd t160 (wrap64 ((t160.length : Int) - 1)))) else (none)) else (none)) else (none)) else (withelaw1_BitsAll.j0 k a0 a1 l2 a3 a4 a5 t160 (-1) (-1))) = some true := H
      have A11 := Aside0.mk A110
      clear A110
      have HC12 := Aside0.mk H
      clear H
      go_enter Tryd.func3, Tryd.ntmps3
      go_upto_if 25 with (first | (go_at_call 8; (with_reducible refine (withelaw1_begun.calls k  true _ (by first | exact hTab | (repeat (first | exact hTab | exact TabW.below hTab HB.out | (with_reducible apply TabW.drewN) | (with_reducible apply TabW.drew) | (with_reducible apply TabW.alloc)))) A7.out).mono ?_); rintro e w13 ⟨rfl, hb⟩; have n0_ := Aside0.mk (below_step (by repeat (first | (with_reducible first | exact HB.out | apply below_alloc | apply pw_below_drewN | apply below_drew1) | exact HB.out)) hb); clear HB; have HB := n0_; clear n0_; (try clear hb); (try clear hb2); (try clear hk); (try clear hi)) | (go_at_call 9; (with_reducible refine (witheref1_List.calls k a0 t160 _ A11.out).mono ?_); rintro e w14 ⟨v161, rfl, ho0, hb⟩; have n0_ := Aside0.mk (Kd.R_lower ho0 (below_size (by repeat (first | (with_reducible first | exact HB.out | apply below_alloc | apply pw_below_drewN | apply below_drew1) | exact HB.out)))); have n1_ := Aside0.mk (below_step (by repeat (first | (with_reducible first | exact HB.out | apply below_alloc | apply pw_below_drewN | apply below_drew1) | exact HB.out)) hb); clear HB; have HO162 := n0_; have HB := n1_; clear n0_ n1_; (try clear hb); (try clear hb2); (try clear hk); (try clear hi); (try clear ho0); obtain ⟨Ao15, co15, eo15⟩ := Kd.R_slice HO162.out; subst eo15))
      repeat (go_quiet (first | (go_at_call 8; (with_reducible refine (withelaw1_begun.calls k  true _ (by first | exact hTab | (repeat (first | exact hTab | exact TabW.below hTab HB.out | (with_reducible apply TabW.drewN) | (with_reducible apply TabW.drew) | (with_reducible apply TabW.alloc)))) A7.out).mono ?_); rintro e w13 ⟨rfl, hb⟩; have n0_ := Aside0.mk (below_step (by repeat (first | (with_reducible first | exact HB.out | apply below_alloc | apply pw_below_drewN | apply below_drew1) | exact HB.out)) hb); clear HB; have HB := n0_; clear n0_; (try clear hb); (try clear hb2); (try clear hk); (try clear hi)) | (go_at_call 9; (with_reducible refine (witheref1_List.calls k a0 t160 _ A11.out).mono ?_); rintro e w14 ⟨v161, rfl, ho0, hb⟩; have n0_ := Aside0.mk (Kd.R_lower ho0 (below_size (by repeat (first | (with_reducible first | exact HB.out | apply below_alloc | apply pw_below_drewN | apply below_drew1) | exact HB.out)))); have n1_ := Aside0.mk (below_step (by repeat (first | (with_reducible first | exact HB.out | apply below_alloc | apply pw_below_drewN | apply below_drew1) | exact HB.out)) hb); clear HB; have HO162 := n0_; have HB := n1_; clear n0_ n1_; (try clear hb); (try clear hb2); (try clear hk); (try clear hi); (try clear ho0); obtain ⟨Ao15, co15, eo15⟩ := Kd.R_slice HO162.out; subst eo15)); go_upto_if 25 with (first | (go_at_call 8; (with_reducible refine (withelaw1_begun.calls k  true _ (by first | exact hTab | (repeat (first | exact hTab | exact TabW.below hTab HB.out | (with_reducible apply TabW.drewN) | (with_reducible apply TabW.drew) | (with_reducible apply TabW.alloc)))) A7.out).mono ?_); rintro e w13 ⟨rfl, hb⟩; have n0_ := Aside0.mk (below_step (by repeat (first | (with_reducible first | exact HB.out | apply below_alloc | apply pw_below_drewN | apply below_drew1) | exact HB.out)) hb); clear HB; have HB := n0_; clear n0_; (try clear hb); (try clear hb2); (try clear hk); (try clear hi)) | (go_at_call 9; (with_reducible refine (witheref1_List.calls k a0 t160 _ A11.out).mono ?_); rintro e w14 ⟨v161, rfl, ho0, hb⟩; have n0_ := Aside0.mk (Kd.R_lower ho0 (below_size (by repeat (first | (with_reducible first | exact HB.out | apply below_alloc | apply pw_below_drewN | apply below_drew1) | exact HB.out)))); have n1_ := Aside0.mk (below_step (by repeat (first | (with_reducible first | exact HB.out | apply below_alloc | apply pw_below_drewN | apply below_drew1) | exact HB.out)) hb); clear HB; have HO162 := n0_; have HB := n1_; clear n0_ n1_; (try clear hb); (try clear hb2); (try clear hk); (try clear hi); (try clear ho0); obtain ⟨Ao15, co15, eo15⟩ := Kd.R_slice HO162.out; subst eo15)))
      (try simp only [Act.put, List.setIfInBounds_toArray, List.set_cons_zero, List.set_cons_succ])
      go_cut [14, 15] (fun v14 v15 wc => ∃ (kq : Nat) (x14_11 : Int) (x15_11 : Int), v14 = .int .i64 x14_11 ∧ v15 = .int .i64 x15_11 ∧ Aside0 (withelaw1_BitsAll.j0 kq a0 a1 l2 a3 a4 a5 t160 x14_11 x15_11 = some true) ∧ Aside0 (kq ≤ k) ∧ Aside0 (Kd.R (Kd.int .i64) 3 wc w.heap.size (fun _ => True) (.slice Ao15 t160.length co15) t160) ∧ Aside0 (Below w.heap.size w wc))
      case first =>
        have H := HC12.out
        clear HC12
        by_cases c16 : (t160.length : Int) > 0
        · rw [if_pos c16] at H
          have c16b0 : decide (0 < (t160.length : Int)) = true := decide_eq_true c16
          have c16b1 : decide (0 < t160.length) = true := decide_eq_true (by omega)
          clear c16
          (first | rw [c16b0] | rw [c16b1] | (simp only [i64_w, i32_w]; rw [c16b0]) | skip)
          by_cases c17 : 0 < (t160.length : Int)
          · rw [if_pos c17] at H
            have c17b0 : decide (0 < (t160.length : Int)) = true := decide_eq_true c17
            have c17b1 : decide (0 < t160.length) = true := decide_eq_true (by omega)
            clear c17
            obtain ⟨ji18, hji18⟩ : ∃ j_ : Int, (wrap64 ((t160.length : Int) - 1)) = j_ := ⟨_, rfl⟩
            replace H : (if 0 ≤ (ji18) then (if (ji18) < (t160.length : Int) then (withelaw1_BitsAll.j0 k a0 a1 l2 a3 a4 a5 t160 (rd t160 0) (rd t160 (ji18))) else (none)) else (none)) = some true := by first | (rw [hji18] at H; exact H) | (simp only [hji18] at H ⊢; exact H)
            have hji18w : (IntKind.i64.wrap ((t160.length : Int) - 1)) = ji18 := (i64_w _).trans hji18
            by_cases c19 : 0 ≤ (ji18)
            · rw [if_pos c19] at H
              have c19b0 : decide (0 ≤ (ji18)) = true := decide_eq_true c19
              clear c19
              by_cases c20 : (ji18) < (t160.length : Int)
              · rw [if_pos c20] at H
                have c20b0 : decide ((ji18) < (t160.length : Int)) = true := decide_eq_true c20
                clear c20
                have H' := Aside0.mk H
                clear H
                have p163 : 0 ≤ (0 : Int) := (by omega)
                have q163 : 0 < (t160.length : Int) := of_decide_eq_true (by first | (with_reducible assumption) | assumption)
                obtain ⟨ad163, e163, hx163_0⟩ := Kd.at_int (Kd.R_reads' HO162.out).2.2 0 p163 q163
                cases e163
                have qi163 : (0 < t160.length) = True := eq_true (by omega)
                (try rw [show ((0 : Int)).toNat = 0 from rfl] at hx163_0)
                (try rw [Addr.add_zero'] at hx163_0)
                replace p163 := eq_true p163
                replace q163 := eq_true q163
                have p164 : 0 ≤ ((ji18) : Int) := of_decide_eq_true (by first | (with_reducible assumption) | assumption)
                have q164 : (ji18) < (t160.length : Int) := of_decide_eq_true (by first | (with_reducible assumption) | assumption)
                obtain ⟨ad164, e164, hx164_0⟩ := Kd.at_int (Kd.R_reads' HO162.out).2.2 (ji18) p164 q164
                obtain rfl : ad163 = ad164 := (by injection e164)
                replace p164 := eq_true p164
                replace q164 := eq_true q164
                go_wp2
                repeat (go_quiet (fail); try go_wp2)
                go_meet
                case rel => exact ⟨_, (rd t160 0), (rd t160 (ji18)), (by first | rfl | (simp; done) | (simp [*]; done)), (by first | rfl | (simp; done) | (simp only [← hji18] <;> (first | rfl | simp)) | (simp [*]; done)), H', ⟨by first | omega | exact Nat.le_refl _⟩, ⟨by (with_reducible repeat (first | apply Kd.R_alloc | apply Kd.R_drewN | apply Kd.R_drew)); exact HO162.out⟩, ⟨by repeat (first | (with_reducible first | exact HB.out | apply below_alloc | apply pw_below_drewN | apply below_drew1) | exact HB.out)⟩⟩
              · rw [if_neg c20] at H
                exact absurd H (by simp)
            · rw [if_neg c19] at H
              exact absurd H (by simp)
          · rw [if_neg c17] at H
            exact absurd H (by simp)
        · rw [if_neg c16] at H
          have c16b0 : decide (0 < (t160.length : Int)) = false := decide_eq_false c16
          have c16b1 : decide (0 < t160.length) = false := decide_eq_false (by omega)
          clear c16
          (first | rw [c16b0] | rw [c16b1] | (simp only [i64_w, i32_w]; rw [c16b0]) | skip)
          have H' := Aside0.mk H
          clear H
          go_wp2
          repeat (go_quiet (fail); try go_wp2)
          go_meet
          case rel => exact ⟨_, ((-1)), ((-1)), (by first | rfl | (simp; done) | (simp [*]; done)), (by first | rfl | (simp; done) | (simp [*]; done)), H', ⟨by first | omega | exact Nat.le_refl _⟩, ⟨by (with_reducible repeat (first | apply Kd.R_alloc | apply Kd.R_drewN | apply Kd.R_drew)); exact HO162.out⟩, ⟨by repeat (first | (with_reducible first | exact HB.out | apply below_alloc | apply pw_below_drewN | apply below_drew1) | exact HB.out)⟩⟩
      case rest =>
        clear HC12
        try clear c1
        try clear p1
        try clear q1
        try clear hx1
        try clear qi1
        try clear c2
        try clear p2
        try clear c3
        try clear p6
        try clear c8
        try clear c9
        try clear c9b0
        try clear c9b1
        try clear c16
        try clear c16b0
        try clear c16b1
        try clear p16
        try clear q16
        try clear hx16
        try clear qi16
        try clear c17
        try clear c17b0
        try clear c17b1
        try clear c19
        try clear c19b0
        try clear c20
        try clear c20b0
        try clear hx163_0
        try clear hx164_0
        try clear p163
        try clear p164
        try clear q163
        try clear q164
        obtain ⟨kq, x14_11, x15_11, rfl, rfl, HA, HJ11, HO_13, HB⟩ := hcut
        cases kq with
        | zero => exact absurd HA.out (by simp [withelaw1_BitsAll.j0])
        | succ kj11 =>
          have H := HA.out
          clear HA
          simp only [withelaw1_BitsAll.j0] at H
          replace H := Option.bind_eq_some_iff.mp H
          obtain ⟨t165, A210, H⟩ := H
          replace H : ((witheref1_Of.f kj11 l2).bind fun t166 => (if t165 = t166 then ((bits_List.f a0).bind fun t167 => ((witheref1_SameInts.f kj11 t167 t160).bind fun t170 => (if t170 = true then ((bits_Range.f kj11 a4 a5).bind fun t171 => ((witheref1_Range.f kj11 a4 a5).bind fun t172 => (if t171 = t172 then ((bits_Has.f a0 a3).bind fun t173 => ((witheref1_Has.f a0 a3).bind fun t174 => (if (t173 == t174) = true then ((bits_Put.f a0 a3).bind fun t175 => ((witheref1_Put.f kj11 a0 a3).bind fun t176 => (if t175 = t176 then ((bits_Drop.f a0 a3).bind fun t177 => ((witheref1_Drop.f kj11 a0 a3).bind fun t178 => (if t177 = t178 then ((bits_Count.f a0).bind fun t179 => (if t179 = (t160.length : Int) then ((bits_First.f a0).bind fun t180 => (if t180 = x14_11 then ((bits_Last.f a0).bind fun t181 => (if t181 = x15_11 then ((bits_Within.f a0 a1).bind fun t182 => ((witheref1_Within.f a0 a1).bind fun t183 => (some (t182 == t183)))) else (none))) else (none))) else (none))) else (none)))) else (none)))) else (none)))) else (none)))) else (none)))) else (none))) = some true := H
          have A21 := Aside0.mk A210
          clear A210
          replace H := Option.bind_eq_some_iff.mp H
          obtain ⟨t166, A220, H⟩ := H
          replace H : (if t165 = t166 then ((bits_List.f a0).bind fun t167 => ((witheref1_SameInts.f kj11 t167 t160).bind fun t170 => (if t170 = true then ((bits_Range.f kj11 a4 a5).bind fun t171 => ((witheref1_Range.f kj11 a4 a5).bind fun t172 => (if t171 = t172 then ((bits_Has.f a0 a3).bind fun t173 => ((witheref1_Has.f a0 a3).bind fun t174 => (if (t173 == t174) = true then ((bits_Put.f a0 a3).bind fun t175 => ((witheref1_Put.f kj11 a0 a3).bind fun t176 => (if t175 = t176 then ((bits_Drop.f a0 a3).bind fun t177 => ((witheref1_Drop.f kj11 a0 a3).bind fun t178 => (if t177 = t178 then ((bits_Count.f a0).bind fun t179 => (if t179 = (t160.length : Int) then ((bits_First.f a0).bind fun t180 => (if t180 = x14_11 then ((bits_Last.f a0).bind fun t181 => (if t181 = x15_11 then ((bits_Within.f a0 a1).bind fun t182 => ((witheref1_Within.f a0 a1).bind fun t183 => (some (t182 == t183)))) else (none))) else (none))) else (none))) else (none)))) else (none)))) else (none)))) else (none)))) else (none)))) else (none)) = some true := H
          have A22 := Aside0.mk A220
          clear A220
          by_cases c23 : t165 = t166
          · rw [if_pos c23] at H
            have c23b0 : (t165 == t166) = true := beq_iff_eq.mpr c23
            have c23b1 : (t165 != t166) = false := bne_eq_false_iff_eq.mpr c23
            clear c23
            replace H := Option.bind_eq_some_iff.mp H
            obtain ⟨t167, A240, H⟩ := H
            replace H : ((witheref1_SameInts.f kj11 t167 t160).bind fun t170 => (if t170 = true then ((bits_Range.f kj11 a4 a5).bind fun t171 => ((witheref1_Range.f kj11 a4 a5).bind fun t172 => (if t171 = t172 then ((bits_Has.f a0 a3).bind fun t173 => ((witheref1_Has.f a0 a3).bind fun t174 => (if (t173 == t174) = true then ((bits_Put.f a0 a3).bind fun t175 => ((witheref1_Put.f kj11 a0 a3).bind fun t176 => (if t175 = t176 then ((bits_Drop.f a0 a3).bind fun t177 => ((witheref1_Drop.f kj11 a0 a3).bind fun t178 => (if t177 = t178 then ((bits_Count.f a0).bind fun t179 => (if t179 = (t160.length : Int) then ((bits_First.f a0).bind fun t180 => (if t180 = x14_11 then ((bits_Last.f a0).bind fun t181 => (if t181 = x15_11 then ((bits_Within.f a0 a1).bind fun t182 => ((witheref1_Within.f a0 a1).bind fun t183 => (some (t182 == t183)))) else (none))) else (none))) else (none))) else (none)))) else (none)))) else (none)))) else (none)))) else (none))) = some true := H
            have A24 := Aside0.mk A240
            clear A240
            replace H := Option.bind_eq_some_iff.mp H
            obtain ⟨t170, A250, H⟩ := H
            replace H : (if t170 = true then ((bits_Range.f kj11 a4 a5).bind fun t171 => ((witheref1_Range.f kj11 a4 a5).bind fun t172 => (if t171 = t172 then ((bits_Has.f a0 a3).bind fun t173 => ((witheref1_Has.f a0 a3).bind fun t174 => (if (t173 == t174) = true then ((bits_Put.f a0 a3).bind fun t175 => ((witheref1_Put.f kj11 a0 a3).bind fun t176 => (if t175 = t176 then ((bits_Drop.f a0 a3).bind fun t177 => ((witheref1_Drop.f kj11 a0 a3).bind fun t178 => (if t177 = t178 then ((bits_Count.f a0).bind fun t179 => (if t179 = (t160.length : Int) then ((bits_First.f a0).bind fun t180 => (if t180 = x14_11 then ((bits_Last.f a0).bind fun t181 => (if t181 = x15_11 then ((bits_Within.f a0 a1).bind fun t182 => ((witheref1_Within.f a0 a1).bind fun t183 => (some (t182 == t183)))) else (none))) else (none))) else (none))) else (none)))) else (none)))) else (none)))) else (none)))) else (none)) = some true := H
            have A25 := Aside0.mk A250
            clear A250
            by_cases c26 : t170 = true
            · subst c26
              have H1 : ((bits_Range.f kj11 a4 a5).bind fun t171 => ((witheref1_Range.f kj11 a4 a5).bind fun t172 => (if t171 = t172 then ((bits_Has.f a0 a3).bind fun t173 => ((witheref1_Has.f a0 a3).bind fun t174 => (if (t173 == t174) = true then ((bits_Put.f a0 a3).bind fun t175 => ((witheref1_Put.f kj11 a0 a3).bind fun t176 => (if t175 = t176 then ((bits_Drop.f a0 a3).bind fun t177 => ((witheref1_Drop.f kj11 a0 a3).bind fun t178 => (if t177 = t178 then ((bits_Count.f a0).bind fun t179 => (if t179 = (t160.length : Int) then ((bits_First.f a0).bind fun t180 => (if t180 = x14_11 then ((bits_Last.f a0).bind fun t181 => (if t181 = x15_11 then ((bits_Within.f a0 a1).bind fun t182 => ((witheref1_Within.f a0 a1).bind fun t183 => (some (t182 == t183)))) else (none))) else (none))) else (none))) else (none)))) else (none)))) else (none)))) else (none)))) = some true := by rw [if_pos rfl] at H; exact H
              clear H
              have H := H1
              clear H1
              replace H := Option.bind_eq_some_iff.mp H
              obtain ⟨t171, A270, H⟩ := H
              replace H : ((witheref1_Range.f kj11 a4 a5).bind fun t172 => (if t171 = t172 then ((bits_Has.f a0 a3).bind fun t173 => ((witheref1_Has.f a0 a3).bind fun t174 => (if (t173 == t174) = true then ((bits_Put.f a0 a3).bind fun t175 => ((witheref1_Put.f kj11 a0 a3).bind fun t176 => (if t175 = t176 then ((bits_Drop.f a0 a3).bind fun t177 => ((witheref1_Drop.f kj11 a0 a3).bind fun t178 => (if t177 = t178 then ((bits_Count.f a0).bind fun t179 => (if t179 = (t160.length : Int) then ((bits_First.f a0).bind fun t180 => (if t180 = x14_11 then ((bits_Last.f a0).bind fun t181 => (if t181 = x15_11 then ((bits_Within.f a0 a1).bind fun t182 => ((witheref1_Within.f a0 a1).bind fun t183 => (some (t182 == t183)))) else (none))) else (none))) else (none))) else (none)))) else (none)))) else (none)))) else (none))) = some true := H
              have A27 := Aside0.mk A270
              clear A270
              replace H := Option.bind_eq_some_iff.mp H
              obtain ⟨t172, A280, H⟩ := H
              replace H : (if t171 = t172 then ((bits_Has.f a0 a3).bind fun t173 => ((witheref1_Has.f a0 a3).bind fun t174 => (if (t173 == t174) = true then ((bits_Put.f a0 a3).bind fun t175 => ((witheref1_Put.f kj11 a0 a3).bind fun t176 => (if t175 = t176 then ((bits_Drop.f a0 a3).bind fun t177 => ((witheref1_Drop.f kj11 a0 a3).bind fun t178 => (if t177 = t178 then ((bits_Count.f a0).bind fun t179 => (if t179 = (t160.length : Int) then ((bits_First.f a0).bind fun t180 => (if t180 = x14_11 then ((bits_Last.f a0).bind fun t181 => (if t181 = x15_11 then ((bits_Within.f a0 a1).bind fun t182 => ((witheref1_Within.f a0 a1).bind fun t183 => (some (t182 == t183)))) else (none))) else (none))) else (none))) else (none)))) else (none)))) else (none)))) else (none)) = some true := H
              have A28 := Aside0.mk A280
              clear A280
              by_cases c29 : t171 = t172
              · rw [if_pos c29] at H
                have c29b0 : (t171 == t172) = true := beq_iff_eq.mpr c29
                have c29b1 : (t171 != t172) = false := bne_eq_false_iff_eq.mpr c29
                clear c29
                replace H := Option.bind_eq_some_iff.mp H
                obtain ⟨t173, A300, H⟩ := H
                replace H : ((witheref1_Has.f a0 a3).bind fun t174 => (if (t173 == t174) = true then ((bits_Put.f a0 a3).bind fun t175 => ((witheref1_Put.f kj11 a0 a3).bind fun t176 => (if t175 = t176 then ((bits_Drop.f a0 a3).bind fun t177 => ((witheref1_Drop.f kj11 a0 a3).bind fun t178 => (if t177 = t178 then ((bits_Count.f a0).bind fun t179 => (if t179 = (t160.length : Int) then ((bits_First.f a0).bind fun t180 => (if t180 = x14_11 then ((bits_Last.f a0).bind fun t181 => (if t181 = x15_11 then ((bits_Within.f a0 a1).bind fun t182 => ((witheref1_Within.f a0 a1).bind fun t183 => (some (t182 == t183)))) else (none))) else (none))) else (none))) else (none)))) else (none)))) else (none))) = some true := H
                have A30 := Aside0.mk A300
                clear A300
                replace H := Option.bind_eq_some_iff.mp H
                obtain ⟨t174, A310, H⟩ := H
                replace H : (if (t173 == t174) = true then ((bits_Put.f a0 a3).bind fun t175 => ((witheref1_Put.f kj11 a0 a3).bind fun t176 => (if t175 = t176 then ((bits_Drop.f a0 a3).bind fun t177 => ((witheref1_Drop.f kj11 a0 a3).bind fun t178 => (if t177 = t178 then ((bits_Count.f a0).bind fun t179 => (if t179 = (t160.length : Int) then ((bits_First.f a0).bind fun t180 => (if t180 = x14_11 then ((bits_Last.f a0).bind fun t181 => (if t181 = x15_11 then ((bits_Within.f a0 a1).bind fun t182 => ((witheref1_Within.f a0 a1).bind fun t183 => (some (t182 == t183)))) else (none))) else (none))) else (none))) else (none)))) else (none)))) else (none)) = some true := H
                have A31 := Aside0.mk A310
                clear A310
                by_cases c32 : (t173 == t174) = true
                · rw [if_pos c32] at H
                  have c32b0 : (t173 == t174) = true := c32
                  (try (have c32b1 : decide (t173 = t174) = true := by simpa using c32))
                  (try (have c32b2 : (t173 == t174) = true := by simpa using c32))
                  clear c32
                  replace H := Option.bind_eq_some_iff.mp H
                  obtain ⟨t175, A330, H⟩ := H
                  replace H : ((witheref1_Put.f kj11 a0 a3).bind fun t176 => (if t175 = t176 then ((bits_Drop.f a0 a3).bind fun t177 => ((witheref1_Drop.f kj11 a0 a3).bind fun t178 => (if t177 = t178 then ((bits_Count.f a0).bind fun t179 => (if t179 = (t160.length : Int) then ((bits_First.f a0).bind fun t180 => (if t180 = x14_11 then ((bits_Last.f a0).bind fun t181 => (if t181 = x15_11 then ((bits_Within.f a0 a1).bind fun t182 => ((witheref1_Within.f a0 a1).bind fun t183 => (some (t182 == t183)))) else (none))) else (none))) else (none))) else (none)))) else (none))) = some true := H
                  have A33 := Aside0.mk A330
                  clear A330
                  replace H := Option.bind_eq_some_iff.mp H
                  obtain ⟨t176, A340, H⟩ := H
                  replace H : (if t175 = t176 then ((bits_Drop.f a0 a3).bind fun t177 => ((witheref1_Drop.f kj11 a0 a3).bind fun t178 => (if t177 = t178 then ((bits_Count.f a0).bind fun t179 => (if t179 = (t160.length : Int) then ((bits_First.f a0).bind fun t180 => (if t180 = x14_11 then ((bits_Last.f a0).bind fun t181 => (if t181 = x15_11 then ((bits_Within.f a0 a1).bind fun t182 => ((witheref1_Within.f a0 a1).bind fun t183 => (some (t182 == t183)))) else (none))) else (none))) else (none))) else (none)))) else (none)) = some true := H
                  have A34 := Aside0.mk A340
                  clear A340
                  by_cases c35 : t175 = t176
                  · rw [if_pos c35] at H
                    have c35b0 : (t175 == t176) = true := beq_iff_eq.mpr c35
                    have c35b1 : (t175 != t176) = false := bne_eq_false_iff_eq.mpr c35
                    clear c35
                    replace H := Option.bind_eq_some_iff.mp H
                    obtain ⟨t177, A360, H⟩ := H
                    replace H : ((witheref1_Drop.f kj11 a0 a3).bind fun t178 => (if t177 = t178 then ((bits_Count.f a0).bind fun t179 => (if t179 = (t160.length : Int) then ((bits_First.f a0).bind fun t180 => (if t180 = x14_11 then ((bits_Last.f a0).bind fun t181 => (if t181 = x15_11 then ((bits_Within.f a0 a1).bind fun t182 => ((witheref1_Within.f a0 a1).bind fun t183 => (some (t182 == t183)))) else (none))) else (none))) else (none))) else (none))) = some true := H
                    have A36 := Aside0.mk A360
                    clear A360
                    replace H := Option.bind_eq_some_iff.mp H
                    obtain ⟨t178, A370, H⟩ := H
                    replace H : (if t177 = t178 then ((bits_Count.f a0).bind fun t179 => (if t179 = (t160.length : Int) then ((bits_First.f a0).bind fun t180 => (if t180 = x14_11 then ((bits_Last.f a0).bind fun t181 => (if t181 = x15_11 then ((bits_Within.f a0 a1).bind fun t182 => ((witheref1_Within.f a0 a1).bind fun t183 => (some (t182 == t183)))) else (none))) else (none))) else (none))) else (none)) = some true := H
                    have A37 := Aside0.mk A370
                    clear A370
                    by_cases c38 : t177 = t178
                    · rw [if_pos c38] at H
                      have c38b0 : (t177 == t178) = true := beq_iff_eq.mpr c38
                      have c38b1 : (t177 != t178) = false := bne_eq_false_iff_eq.mpr c38
                      clear c38
                      replace H := Option.bind_eq_some_iff.mp H
                      obtain ⟨t179, A390, H⟩ := H
                      replace H : (if t179 = (t160.length : Int) then ((bits_First.f a0).bind fun t180 => (if t180 = x14_11 then ((bits_Last.f a0).bind fun t181 => (if t181 = x15_11 then ((bits_Within.f a0 a1).bind fun t182 => ((witheref1_Within.f a0 a1).bind fun t183 => (some (t182 == t183)))) else (none))) else (none))) else (none)) = some true := H
                      have A39 := Aside0.mk A390
                      clear A390
                      by_cases c40 : t179 = (t160.length : Int)
                      · rw [if_pos c40] at H
                        have c40b0 : (t179 == (t160.length : Int)) = true := beq_iff_eq.mpr c40
                        have c40b1 : (t179 != (t160.length : Int)) = false := bne_eq_false_iff_eq.mpr c40
                        clear c40
                        replace H := Option.bind_eq_some_iff.mp H
                        obtain ⟨t180, A410, H⟩ := H
                        replace H : (if t180 = x14_11 then ((bits_Last.f a0).bind fun t181 => (if t181 = x15_11 then ((bits_Within.f a0 a1).bind fun t182 => ((witheref1_Within.f a0 a1).bind fun t183 => (some (t182 == t183)))) else (none))) else (none)) = some true := H
                        have A41 := Aside0.mk A410
                        clear A410
                        by_cases c42 : t180 = x14_11
                        · rw [if_pos c42] at H
                          have c42b0 : (t180 == x14_11) = true := beq_iff_eq.mpr c42
                          have c42b1 : (t180 != x14_11) = false := bne_eq_false_iff_eq.mpr c42
                          clear c42
                          replace H := Option.bind_eq_some_iff.mp H
                          obtain ⟨t181, A430, H⟩ := H
                          replace H : (if t181 = x15_11 then ((bits_Within.f a0 a1).bind fun t182 => ((witheref1_Within.f a0 a1).bind fun t183 => (some (t182 == t183)))) else (none)) = some true := H
                          have A43 := Aside0.mk A430
                          clear A430
                          by_cases c44 : t181 = x15_11
                          · rw [if_pos c44] at H
                            have c44b0 : (t181 == x15_11) = true := beq_iff_eq.mpr c44
                            have c44b1 : (t181 != x15_11) = false := bne_eq_false_iff_eq.mpr c44
                            clear c44
                            replace H := Option.bind_eq_some_iff.mp H
                            obtain ⟨t182, A450, H⟩ := H
                            replace H : ((witheref1_Within.f a0 a1).bind fun t183 => (some (t182 == t183))) = some true := H
                            have A45 := Aside0.mk A450
                            clear A450
                            replace H := Option.bind_eq_some_iff.mp H
                            obtain ⟨t183, A460, H⟩ := H
                            replace H : (some (t182 == t183)) = some true := H
                            have A46 := Aside0.mk A460
                            clear A460
                            first
                              | exact absurd (Option.some.inj H) (by decide)
                              | (have HT := Option.some.inj H
                                 go_wp2_with (first | (go_at_call 10; (with_reducible refine (bits_Of.calls kj11 _ _ l2 t165 _ ?side1 ?side2 A21.out).mono ?_); (case side1 => repeat (first | exact (Kd.C_below HR2.out HB.out) | (with_reducible refine Kd.C_alloc ?_ _) | (with_reducible refine Kd.C_drewN ?_ _) | (with_reducible refine Kd.C_drew ?_))); (case side2 => exact HC2.out); rintro e w' ⟨rfl, ⟨nd, rfl⟩⟩; (try first | exact ⟨rfl, _, World.drewN_drewN _ _ _⟩ | exact ⟨rfl, _, Eq.trans (World.drewN_drewN _ _ _) (congrArg (World.drewN _) (Nat.add_assoc _ _ _))⟩)) | (go_at_call 11; (with_reducible refine (witheref1_Of.calls kj11 _ _ l2 t166 _ ?side1 ?side2 A22.out).mono ?_); (case side1 => repeat (first | exact (Kd.C_below HR2.out (by repeat (first | (with_reducible first | exact HB.out | apply below_alloc | apply pw_below_drewN | apply below_drew1) | exact HB.out))) | (with_reducible refine Kd.C_alloc ?_ _) | (with_reducible refine Kd.C_drewN ?_ _) | (with_reducible refine Kd.C_drew ?_))); (case side2 => exact HC2.out); rintro e w' ⟨rfl, ⟨nd, rfl⟩⟩; (try first | exact ⟨rfl, _, World.drewN_drewN _ _ _⟩ | exact ⟨rfl, _, Eq.trans (World.drewN_drewN _ _ _) (congrArg (World.drewN _) (Nat.add_assoc _ _ _))⟩)) | (go_at_call 13; (with_reducible refine (bits_List.calls a0 t167 _ (by first | exact hTab | (repeat (first | exact hTab | exact TabW.below hTab HB.out | (with_reducible apply TabW.drewN) | (with_reducible apply TabW.drew) | (with_reducible apply TabW.alloc)))) A24.out).mono ?_); rintro e w47 ⟨v168, rfl, ho0, hb⟩; have n0_ := Aside0.mk (Kd.R_elder' (by (with_reducible repeat (first | apply Kd.R_alloc | apply Kd.R_drewN | apply Kd.R_drew)); exact HO_13.out) (Kd.R_base ho0) hb); have n1_ := Aside0.mk (Kd.R_lower (Kd.R_new' ho0 (Kd.R_lt (by (with_reducible repeat (first | apply Kd.R_alloc | apply Kd.R_drewN | apply Kd.R_drew)); exact HO_13.out))) (below_size (by repeat (first | (with_reducible first | exact HB.out | apply below_alloc | apply pw_below_drewN | apply below_drew1) | exact HB.out)))); have n2_ := Aside0.mk (below_step (by repeat (first | (with_reducible first | exact HB.out | apply below_alloc | apply pw_below_drewN | apply below_drew1) | exact HB.out)) hb); clear HO_13; clear HB; have HO_13 := n0_; have HO169 := n1_; have HB := n2_; clear n0_ n1_ n2_; (try clear hb); (try clear hb2); (try clear hk); (try clear hi); (try clear ho0); obtain ⟨Ao48, co48, eo48⟩ := Kd.R_slice HO169.out; subst eo48) | (go_at_call 12; (with_reducible refine (witheref1_SameInts.calls kj11 _ _ t167 _ _ t160 true _ ?side1 ?side2 ?side3 ?side4 A25.out).mono ?_); (case side1 => repeat (first | exact (Kd.R_reads' HO169.out).2.2 | (with_reducible refine Kd.C_alloc ?_ _) | (with_reducible refine Kd.C_drewN ?_ _) | (with_reducible refine Kd.C_drew ?_))); (case side2 => exact (Kd.R_reads' HO169.out).2.1); (case side3 => repeat (first | exact (Kd.R_reads' HO_13.out).2.2 | (with_reducible refine Kd.C_alloc ?_ _) | (with_reducible refine Kd.C_drewN ?_ _) | (with_reducible refine Kd.C_drew ?_))); (case side4 => exact (Kd.R_reads' HO_13.out).2.1); rintro e w' ⟨rfl, ⟨nd, rfl⟩⟩; (try first | exact ⟨rfl, _, World.drewN_drewN _ _ _⟩ | exact ⟨rfl, _, Eq.trans (World.drewN_drewN _ _ _) (congrArg (World.drewN _) (Nat.add_assoc _ _ _))⟩)) | (go_at_call 14; (with_reducible refine (bits_Range.calls kj11 a4 a5 t171 _ A27.out).mono ?_); rintro e w49 ⟨rfl, hb⟩; have n0_ := Aside0.mk (Kd.R_below (by (with_reducible repeat (first | apply Kd.R_alloc | apply Kd.R_drewN | apply Kd.R_drew)); exact HO_13.out) hb); have n1_ := Aside0.mk (Kd.R_below (by (with_reducible repeat (first | apply Kd.R_alloc | apply Kd.R_drewN | apply Kd.R_drew)); exact HO169.out) hb); have n2_ := Aside0.mk (below_step (by repeat (first | (with_reducible first | exact HB.out | apply below_alloc | apply pw_below_drewN | apply below_drew1) | exact HB.out)) hb); clear HO_13; clear HO169; clear HB; have HO_13 := n0_; have HO169 := n1_; have HB := n2_; clear n0_ n1_ n2_; (try clear hb); (try clear hb2); (try clear hk); (try clear hi)) | (go_at_call 15; (with_reducible refine (witheref1_Range.calls kj11 a4 a5 t172 _ A28.out).mono ?_); rintro e w' ⟨rfl, ⟨nd, rfl⟩⟩; (try first | exact ⟨rfl, _, World.drewN_drewN _ _ _⟩ | exact ⟨rfl, _, Eq.trans (World.drewN_drewN _ _ _) (congrArg (World.drewN _) (Nat.add_assoc _ _ _))⟩)) | (go_at_call 16; (with_reducible refine (bits_Has.calls a0 a3 t173 _ A30.out).mono ?_); rintro e w' ⟨rfl, ⟨nd, rfl⟩⟩; (try first | exact ⟨rfl, _, World.drewN_drewN _ _ _⟩ | exact ⟨rfl, _, Eq.trans (World.drewN_drewN _ _ _) (congrArg (World.drewN _) (Nat.add_assoc _ _ _))⟩)) | (go_at_call 17; (with_reducible refine (witheref1_Has.calls a0 a3 t174 _ A31.out).mono ?_); rintro e w' ⟨rfl, ⟨nd, rfl⟩⟩; (try first | exact ⟨rfl, _, World.drewN_drewN _ _ _⟩ | exact ⟨rfl, _, Eq.trans (World.drewN_drewN _ _ _) (congrArg (World.drewN _) (Nat.add_assoc _ _ _))⟩)) | (go_at_call 18; (with_reducible refine (bits_Put.calls a0 a3 t175 _ A33.out).mono ?_); rintro e w' ⟨rfl, ⟨nd, rfl⟩⟩; (try first | exact ⟨rfl, _, World.drewN_drewN _ _ _⟩ | exact ⟨rfl, _, Eq.trans (World.drewN_drewN _ _ _) (congrArg (World.drewN _) (Nat.add_assoc _ _ _))⟩)) | (go_at_call 19; (with_reducible refine (witheref1_Put.calls kj11 a0 a3 t176 _ A34.out).mono ?_); rintro e w' ⟨rfl, ⟨nd, rfl⟩⟩; (try first | exact ⟨rfl, _, World.drewN_drewN _ _ _⟩ | exact ⟨rfl, _, Eq.trans (World.drewN_drewN _ _ _) (congrArg (World.drewN _) (Nat.add_assoc _ _ _))⟩)) | (go_at_call 20; (with_reducible refine (bits_Drop.calls a0 a3 t177 _ A36.out).mono ?_); rintro e w' ⟨rfl, ⟨nd, rfl⟩⟩; (try first | exact ⟨rfl, _, World.drewN_drewN _ _ _⟩ | exact ⟨rfl, _, Eq.trans (World.drewN_drewN _ _ _) (congrArg (World.drewN _) (Nat.add_assoc _ _ _))⟩)) | (go_at_call 21; (with_reducible refine (witheref1_Drop.calls kj11 a0 a3 t178 _ A37.out).mono ?_); rintro e w' ⟨rfl, ⟨nd, rfl⟩⟩; (try first | exact ⟨rfl, _, World.drewN_drewN _ _ _⟩ | exact ⟨rfl, _, Eq.trans (World.drewN_drewN _ _ _) (congrArg (World.drewN _) (Nat.add_assoc _ _ _))⟩)) | (go_at_call 22; (with_reducible refine (bits_Count.calls a0 t179 _ A39.out).mono ?_); rintro e w' ⟨rfl, ⟨nd, rfl⟩⟩; (try first | exact ⟨rfl, _, World.drewN_drewN _ _ _⟩ | exact ⟨rfl, _, Eq.trans (World.drewN_drewN _ _ _) (congrArg (World.drewN _) (Nat.add_assoc _ _ _))⟩)) | (go_at_call 23; (with_reducible refine (bits_First.calls a0 t180 _ (by first | exact hTab | (repeat (first | exact hTab | exact TabW.below hTab HB.out | (with_reducible apply TabW.drewN) | (with_reducible apply TabW.drew) | (with_reducible apply TabW.alloc)))) A41.out).mono ?_); rintro e w' ⟨rfl, ⟨nd, rfl⟩⟩; (try first | exact ⟨rfl, _, World.drewN_drewN _ _ _⟩ | exact ⟨rfl, _, Eq.trans (World.drewN_drewN _ _ _) (congrArg (World.drewN _) (Nat.add_assoc _ _ _))⟩)) | (go_at_call 24; (with_reducible refine (bits_Last.calls a0 t181 _ A43.out).mono ?_); rintro e w' ⟨rfl, ⟨nd, rfl⟩⟩; (try first | exact ⟨rfl, _, World.drewN_drewN _ _ _⟩ | exact ⟨rfl, _, Eq.trans (World.drewN_drewN _ _ _) (congrArg (World.drewN _) (Nat.add_assoc _ _ _))⟩)) | (go_at_call 25; (with_reducible refine (bits_Within.calls a0 a1 t182 _ A45.out).mono ?_); rintro e w' ⟨rfl, ⟨nd, rfl⟩⟩; (try first | exact ⟨rfl, _, World.drewN_drewN _ _ _⟩ | exact ⟨rfl, _, Eq.trans (World.drewN_drewN _ _ _) (congrArg (World.drewN _) (Nat.add_assoc _ _ _))⟩)) | (go_at_call 26; (with_reducible refine (witheref1_Within.calls a0 a1 t183 _ A46.out).mono ?_); rintro e w' ⟨rfl, ⟨nd, rfl⟩⟩; (try first | exact ⟨rfl, _, World.drewN_drewN _ _ _⟩ | exact ⟨rfl, _, Eq.trans (World.drewN_drewN _ _ _) (congrArg (World.drewN _) (Nat.add_assoc _ _ _))⟩)))
                                 repeat (go_quiet (first | (go_at_call 10; (with_reducible refine (bits_Of.calls kj11 _ _ l2 t165 _ ?side1 ?side2 A21.out).mono ?_); (case side1 => repeat (first | exact (Kd.C_below HR2.out HB.out) | (with_reducible refine Kd.C_alloc ?_ _) | (with_reducible refine Kd.C_drewN ?_ _) | (with_reducible refine Kd.C_drew ?_))); (case side2 => exact HC2.out); rintro e w' ⟨rfl, ⟨nd, rfl⟩⟩; (try first | exact ⟨rfl, _, World.drewN_drewN _ _ _⟩ | exact ⟨rfl, _, Eq.trans (World.drewN_drewN _ _ _) (congrArg (World.drewN _) (Nat.add_assoc _ _ _))⟩)) | (go_at_call 11; (with_reducible refine (witheref1_Of.calls kj11 _ _ l2 t166 _ ?side1 ?side2 A22.out).mono ?_); (case side1 => repeat (first | exact (Kd.C_below HR2.out (by repeat (first | (with_reducible first | exact HB.out | apply below_alloc | apply pw_below_drewN | apply below_drew1) | exact HB.out))) | (with_reducible refine Kd.C_alloc ?_ _) | (with_reducible refine Kd.C_drewN ?_ _) | (with_reducible refine Kd.C_drew ?_))); (case side2 => exact HC2.out); rintro e w' ⟨rfl, ⟨nd, rfl⟩⟩; (try first | exact ⟨rfl, _, World.drewN_drewN _ _ _⟩ | exact ⟨rfl, _, Eq.trans (World.drewN_drewN _ _ _) (congrArg (World.drewN _) (Nat.add_assoc _ _ _))⟩)) | (go_at_call 13; (with_reducible refine (bits_List.calls a0 t167 _ (by first | exact hTab | (repeat (first | exact hTab | exact TabW.below hTab HB.out | (with_reducible apply TabW.drewN) | (with_reducible apply TabW.drew) | (with_reducible apply TabW.alloc)))) A24.out).mono ?_); rintro e w47 ⟨v168, rfl, ho0, hb⟩; have n0_ := Aside0.mk (Kd.R_elder' (by (with_reducible repeat (first | apply Kd.R_alloc | apply Kd.R_drewN | apply Kd.R_drew)); exact HO_13.out) (Kd.R_base ho0) hb); have n1_ := Aside0.mk (Kd.R_lower (Kd.R_new' ho0 (Kd.R_lt (by (with_reducible repeat (first | apply Kd.R_alloc | apply Kd.R_drewN | apply Kd.R_drew)); exact HO_13.out))) (below_size (by repeat (first | (with_reducible first | exact HB.out | apply below_alloc | apply pw_below_drewN | apply below_drew1) | exact HB.out)))); have n2_ := Aside0.mk (below_step (by repeat (first | (with_reducible first | exact HB.out | apply below_alloc | apply pw_below_drewN | apply below_drew1) | exact HB.out)) hb); clear HO_13; clear HB; have HO_13 := n0_; have HO169 := n1_; have HB := n2_; clear n0_ n1_ n2_; (try clear hb); (try clear hb2); (try clear hk); (try clear hi); (try clear ho0); obtain ⟨Ao48, co48, eo48⟩ := Kd.R_slice HO169.out; subst eo48) | (go_at_call 12; (with_reducible refine (witheref1_SameInts.calls kj11 _ _ t167 _ _ t160 true _ ?side1 ?side2 ?side3 ?side4 A25.out).mono ?_); (case side1 => repeat (first | exact (Kd.R_reads' HO169.out).2.2 | (with_reducible refine Kd.C_alloc ?_ _) | (with_reducible refine Kd.C_drewN ?_ _) | (with_reducible refine Kd.C_drew ?_))); (case side2 => exact (Kd.R_reads' HO169.out).2.1); (case side3 => repeat (first | exact (Kd.R_reads' HO_13.out).2.2 | (with_reducible refine Kd.C_alloc ?_ _) | (with_reducible refine Kd.C_drewN ?_ _) | (with_reducible refine Kd.C_drew ?_))); (case side4 => exact (Kd.R_reads' HO_13.out).2.1); rintro e w' ⟨rfl, ⟨nd, rfl⟩⟩; (try first | exact ⟨rfl, _, World.drewN_drewN _ _ _⟩ | exact ⟨rfl, _, Eq.trans (World.drewN_drewN _ _ _) (congrArg (World.drewN _) (Nat.add_assoc _ _ _))⟩)) | (go_at_call 14; (with_reducible refine (bits_Range.calls kj11 a4 a5 t171 _ A27.out).mono ?_); rintro e w49 ⟨rfl, hb⟩; have n0_ := Aside0.mk (Kd.R_below (by (with_reducible repeat (first | apply Kd.R_alloc | apply Kd.R_drewN | apply Kd.R_drew)); exact HO_13.out) hb); have n1_ := Aside0.mk (Kd.R_below (by (with_reducible repeat (first | apply Kd.R_alloc | apply Kd.R_drewN | apply Kd.R_drew)); exact HO169.out) hb); have n2_ := Aside0.mk (below_step (by repeat (first | (with_reducible first | exact HB.out | apply below_alloc | apply pw_below_drewN | apply below_drew1) | exact HB.out)) hb); clear HO_13; clear HO169; clear HB; have HO_13 := n0_; have HO169 := n1_; have HB := n2_; clear n0_ n1_ n2_; (try clear hb); (try clear hb2); (try clear hk); (try clear hi)) | (go_at_call 15; (with_reducible refine (witheref1_Range.calls kj11 a4 a5 t172 _ A28.out).mono ?_); rintro e w' ⟨rfl, ⟨nd, rfl⟩⟩; (try first | exact ⟨rfl, _, World.drewN_drewN _ _ _⟩ | exact ⟨rfl, _, Eq.trans (World.drewN_drewN _ _ _) (congrArg (World.drewN _) (Nat.add_assoc _ _ _))⟩)) | (go_at_call 16; (with_reducible refine (bits_Has.calls a0 a3 t173 _ A30.out).mono ?_); rintro e w' ⟨rfl, ⟨nd, rfl⟩⟩; (try first | exact ⟨rfl, _, World.drewN_drewN _ _ _⟩ | exact ⟨rfl, _, Eq.trans (World.drewN_drewN _ _ _) (congrArg (World.drewN _) (Nat.add_assoc _ _ _))⟩)) | (go_at_call 17; (with_reducible refine (witheref1_Has.calls a0 a3 t174 _ A31.out).mono ?_); rintro e w' ⟨rfl, ⟨nd, rfl⟩⟩; (try first | exact ⟨rfl, _, World.drewN_drewN _ _ _⟩ | exact ⟨rfl, _, Eq.trans (World.drewN_drewN _ _ _) (congrArg (World.drewN _) (Nat.add_assoc _ _ _))⟩)) | (go_at_call 18; (with_reducible refine (bits_Put.calls a0 a3 t175 _ A33.out).mono ?_); rintro e w' ⟨rfl, ⟨nd, rfl⟩⟩; (try first | exact ⟨rfl, _, World.drewN_drewN _ _ _⟩ | exact ⟨rfl, _, Eq.trans (World.drewN_drewN _ _ _) (congrArg (World.drewN _) (Nat.add_assoc _ _ _))⟩)) | (go_at_call 19; (with_reducible refine (witheref1_Put.calls kj11 a0 a3 t176 _ A34.out).mono ?_); rintro e w' ⟨rfl, ⟨nd, rfl⟩⟩; (try first | exact ⟨rfl, _, World.drewN_drewN _ _ _⟩ | exact ⟨rfl, _, Eq.trans (World.drewN_drewN _ _ _) (congrArg (World.drewN _) (Nat.add_assoc _ _ _))⟩)) | (go_at_call 20; (with_reducible refine (bits_Drop.calls a0 a3 t177 _ A36.out).mono ?_); rintro e w' ⟨rfl, ⟨nd, rfl⟩⟩; (try first | exact ⟨rfl, _, World.drewN_drewN _ _ _⟩ | exact ⟨rfl, _, Eq.trans (World.drewN_drewN _ _ _) (congrArg (World.drewN _) (Nat.add_assoc _ _ _))⟩)) | (go_at_call 21; (with_reducible refine (witheref1_Drop.calls kj11 a0 a3 t178 _ A37.out).mono ?_); rintro e w' ⟨rfl, ⟨nd, rfl⟩⟩; (try first | exact ⟨rfl, _, World.drewN_drewN _ _ _⟩ | exact ⟨rfl, _, Eq.trans (World.drewN_drewN _ _ _) (congrArg (World.drewN _) (Nat.add_assoc _ _ _))⟩)) | (go_at_call 22; (with_reducible refine (bits_Count.calls a0 t179 _ A39.out).mono ?_); rintro e w' ⟨rfl, ⟨nd, rfl⟩⟩; (try first | exact ⟨rfl, _, World.drewN_drewN _ _ _⟩ | exact ⟨rfl, _, Eq.trans (World.drewN_drewN _ _ _) (congrArg (World.drewN _) (Nat.add_assoc _ _ _))⟩)) | (go_at_call 23; (with_reducible refine (bits_First.calls a0 t180 _ (by first | exact hTab | (repeat (first | exact hTab | exact TabW.below hTab HB.out | (with_reducible apply TabW.drewN) | (with_reducible apply TabW.drew) | (with_reducible apply TabW.alloc)))) A41.out).mono ?_); rintro e w' ⟨rfl, ⟨nd, rfl⟩⟩; (try first | exact ⟨rfl, _, World.drewN_drewN _ _ _⟩ | exact ⟨rfl, _, Eq.trans (World.drewN_drewN _ _ _) (congrArg (World.drewN _) (Nat.add_assoc _ _ _))⟩)) | (go_at_call 24; (with_reducible refine (bits_Last.calls a0 t181 _ A43.out).mono ?_); rintro e w' ⟨rfl, ⟨nd, rfl⟩⟩; (try first | exact ⟨rfl, _, World.drewN_drewN _ _ _⟩ | exact ⟨rfl, _, Eq.trans (World.drewN_drewN _ _ _) (congrArg (World.drewN _) (Nat.add_assoc _ _ _))⟩)) | (go_at_call 25; (with_reducible refine (bits_Within.calls a0 a1 t182 _ A45.out).mono ?_); rintro e w' ⟨rfl, ⟨nd, rfl⟩⟩; (try first | exact ⟨rfl, _, World.drewN_drewN _ _ _⟩ | exact ⟨rfl, _, Eq.trans (World.drewN_drewN _ _ _) (congrArg (World.drewN _) (Nat.add_assoc _ _ _))⟩)) | (go_at_call 26; (with_reducible refine (witheref1_Within.calls a0 a1 t183 _ A46.out).mono ?_); rintro e w' ⟨rfl, ⟨nd, rfl⟩⟩; (try first | exact ⟨rfl, _, World.drewN_drewN _ _ _⟩ | exact ⟨rfl, _, Eq.trans (World.drewN_drewN _ _ _) (congrArg (World.drewN _) (Nat.add_assoc _ _ _))⟩))); try go_wp2_with (first | (go_at_call 10; (with_reducible refine (bits_Of.calls kj11 _ _ l2 t165 _ ?side1 ?side2 A21.out).mono ?_); (case side1 => repeat (first | exact (Kd.C_below HR2.out HB.out) | (with_reducible refine Kd.C_alloc ?_ _) | (with_reducible refine Kd.C_drewN ?_ _) | (with_reducible refine Kd.C_drew ?_))); (case side2 => exact HC2.out); rintro e w' ⟨rfl, ⟨nd, rfl⟩⟩; (try first | exact ⟨rfl, _, World.drewN_drewN _ _ _⟩ | exact ⟨rfl, _, Eq.trans (World.drewN_drewN _ _ _) (congrArg (World.drewN _) (Nat.add_assoc _ _ _))⟩)) | (go_at_call 11; (with_reducible refine (witheref1_Of.calls kj11 _ _ l2 t166 _ ?side1 ?side2 A22.out).mono ?_); (case side1 => repeat (first | exact (Kd.C_below HR2.out (by repeat (first | (with_reducible first | exact HB.out | apply below_alloc | apply pw_below_drewN | apply below_drew1) | exact HB.out))) | (with_reducible refine Kd.C_alloc ?_ _) | (with_reducible refine Kd.C_drewN ?_ _) | (with_reducible refine Kd.C_drew ?_))); (case side2 => exact HC2.out); rintro e w' ⟨rfl, ⟨nd, rfl⟩⟩; (try first | exact ⟨rfl, _, World.drewN_drewN _ _ _⟩ | exact ⟨rfl, _, Eq.trans (World.drewN_drewN _ _ _) (congrArg (World.drewN _) (Nat.add_assoc _ _ _))⟩)) | (go_at_call 13; (with_reducible refine (bits_List.calls a0 t167 _ (by first | exact hTab | (repeat (first | exact hTab | exact TabW.below hTab HB.out | (with_reducible apply TabW.drewN) | (with_reducible apply TabW.drew) | (with_reducible apply TabW.alloc)))) A24.out).mono ?_); rintro e w47 ⟨v168, rfl, ho0, hb⟩; have n0_ := Aside0.mk (Kd.R_elder' (by (with_reducible repeat (first | apply Kd.R_alloc | apply Kd.R_drewN | apply Kd.R_drew)); exact HO_13.out) (Kd.R_base ho0) hb); have n1_ := Aside0.mk (Kd.R_lower (Kd.R_new' ho0 (Kd.R_lt (by (with_reducible repeat (first | apply Kd.R_alloc | apply Kd.R_drewN | apply Kd.R_drew)); exact HO_13.out))) (below_size (by repeat (first | (with_reducible first | exact HB.out | apply below_alloc | apply pw_below_drewN | apply below_drew1) | exact HB.out)))); have n2_ := Aside0.mk (below_step (by repeat (first | (with_reducible first | exact HB.out | apply below_alloc | apply pw_below_drewN | apply below_drew1) | exact HB.out)) hb); clear HO_13; clear HB; have HO_13 := n0_; have HO169 := n1_; have HB := n2_; clear n0_ n1_ n2_; (try clear hb); (try clear hb2); (try clear hk); (try clear hi); (try clear ho0); obtain ⟨Ao48, co48, eo48⟩ := Kd.R_slice HO169.out; subst eo48) | (go_at_call 12; (with_reducible refine (witheref1_SameInts.calls kj11 _ _ t167 _ _ t160 true _ ?side1 ?side2 ?side3 ?side4 A25.out).mono ?_); (case side1 => repeat (first | exact (Kd.R_reads' HO169.out).2.2 | (with_reducible refine Kd.C_alloc ?_ _) | (with_reducible refine Kd.C_drewN ?_ _) | (with_reducible refine Kd.C_drew ?_))); (case side2 => exact (Kd.R_reads' HO169.out).2.1); (case side3 => repeat (first | exact (Kd.R_reads' HO_13.out).2.2 | (with_reducible refine Kd.C_alloc ?_ _) | (with_reducible refine Kd.C_drewN ?_ _) | (with_reducible refine Kd.C_drew ?_))); (case side4 => exact (Kd.R_reads' HO_13.out).2.1); rintro e w' ⟨rfl, ⟨nd, rfl⟩⟩; (try first | exact ⟨rfl, _, World.drewN_drewN _ _ _⟩ | exact ⟨rfl, _, Eq.trans (World.drewN_drewN _ _ _) (congrArg (World.drewN _) (Nat.add_assoc _ _ _))⟩)) | (go_at_call 14; (with_reducible refine (bits_Range.calls kj11 a4 a5 t171 _ A27.out).mono ?_); rintro e w49 ⟨rfl, hb⟩; have n0_ := Aside0.mk (Kd.R_below (by (with_reducible repeat (first | apply Kd.R_alloc | apply Kd.R_drewN | apply Kd.R_drew)); exact HO_13.out) hb); have n1_ := Aside0.mk (Kd.R_below (by (with_reducible repeat (first | apply Kd.R_alloc | apply Kd.R_drewN | apply Kd.R_drew)); exact HO169.out) hb); have n2_ := Aside0.mk (below_step (by repeat (first | (with_reducible first | exact HB.out | apply below_alloc | apply pw_below_drewN | apply below_drew1) | exact HB.out)) hb); clear HO_13; clear HO169; clear HB; have HO_13 := n0_; have HO169 := n1_; have HB := n2_; clear n0_ n1_ n2_; (try clear hb); (try clear hb2); (try clear hk); (try clear hi)) | (go_at_call 15; (with_reducible refine (witheref1_Range.calls kj11 a4 a5 t172 _ A28.out).mono ?_); rintro e w' ⟨rfl, ⟨nd, rfl⟩⟩; (try first | exact ⟨rfl, _, World.drewN_drewN _ _ _⟩ | exact ⟨rfl, _, Eq.trans (World.drewN_drewN _ _ _) (congrArg (World.drewN _) (Nat.add_assoc _ _ _))⟩)) | (go_at_call 16; (with_reducible refine (bits_Has.calls a0 a3 t173 _ A30.out).mono ?_); rintro e w' ⟨rfl, ⟨nd, rfl⟩⟩; (try first | exact ⟨rfl, _, World.drewN_drewN _ _ _⟩ | exact ⟨rfl, _, Eq.trans (World.drewN_drewN _ _ _) (congrArg (World.drewN _) (Nat.add_assoc _ _ _))⟩)) | (go_at_call 17; (with_reducible refine (witheref1_Has.calls a0 a3 t174 _ A31.out).mono ?_); rintro e w' ⟨rfl, ⟨nd, rfl⟩⟩; (try first | exact ⟨rfl, _, World.drewN_drewN _ _ _⟩ | exact ⟨rfl, _, Eq.trans (World.drewN_drewN _ _ _) (congrArg (World.drewN _) (Nat.add_assoc _ _ _))⟩)) | (go_at_call 18; (with_reducible refine (bits_Put.calls a0 a3 t175 _ A33.out).mono ?_); rintro e w' ⟨rfl, ⟨nd, rfl⟩⟩; (try first | exact ⟨rfl, _, World.drewN_drewN _ _ _⟩ | exact ⟨rfl, _, Eq.trans (World.drewN_drewN _ _ _) (congrArg (World.drewN _) (Nat.add_assoc _ _ _))⟩)) | (go_at_call 19; (with_reducible refine (witheref1_Put.calls kj11 a0 a3 t176 _ A34.out).mono ?_); rintro e w' ⟨rfl, ⟨nd, rfl⟩⟩; (try first | exact ⟨rfl, _, World.drewN_drewN _ _ _⟩ | exact ⟨rfl, _, Eq.trans (World.drewN_drewN _ _ _) (congrArg (World.drewN _) (Nat.add_assoc _ _ _))⟩)) | (go_at_call 20; (with_reducible refine (bits_Drop.calls a0 a3 t177 _ A36.out).mono ?_); rintro e w' ⟨rfl, ⟨nd, rfl⟩⟩; (try first | exact ⟨rfl, _, World.drewN_drewN _ _ _⟩ | exact ⟨rfl, _, Eq.trans (World.drewN_drewN _ _ _) (congrArg (World.drewN _) (Nat.add_assoc _ _ _))⟩)) | (go_at_call 21; (with_reducible refine (witheref1_Drop.calls kj11 a0 a3 t178 _ A37.out).mono ?_); rintro e w' ⟨rfl, ⟨nd, rfl⟩⟩; (try first | exact ⟨rfl, _, World.drewN_drewN _ _ _⟩ | exact ⟨rfl, _, Eq.trans (World.drewN_drewN _ _ _) (congrArg (World.drewN _) (Nat.add_assoc _ _ _))⟩)) | (go_at_call 22; (with_reducible refine (bits_Count.calls a0 t179 _ A39.out).mono ?_); rintro e w' ⟨rfl, ⟨nd, rfl⟩⟩; (try first | exact ⟨rfl, _, World.drewN_drewN _ _ _⟩ | exact ⟨rfl, _, Eq.trans (World.drewN_drewN _ _ _) (congrArg (World.drewN _) (Nat.add_assoc _ _ _))⟩)) | (go_at_call 23; (with_reducible refine (bits_First.calls a0 t180 _ (by first | exact hTab | (repeat (first | exact hTab | exact TabW.below hTab HB.out | (with_reducible apply TabW.drewN) | (with_reducible apply TabW.drew) | (with_reducible apply TabW.alloc)))) A41.out).mono ?_); rintro e w' ⟨rfl, ⟨nd, rfl⟩⟩; (try first | exact ⟨rfl, _, World.drewN_drewN _ _ _⟩ | exact ⟨rfl, _, Eq.trans (World.drewN_drewN _ _ _) (congrArg (World.drewN _) (Nat.add_assoc _ _ _))⟩)) | (go_at_call 24; (with_reducible refine (bits_Last.calls a0 t181 _ A43.out).mono ?_); rintro e w' ⟨rfl, ⟨nd, rfl⟩⟩; (try first | exact ⟨rfl, _, World.drewN_drewN _ _ _⟩ | exact ⟨rfl, _, Eq.trans (World.drewN_drewN _ _ _) (congrArg (World.drewN _) (Nat.add_assoc _ _ _))⟩)) | (go_at_call 25; (with_reducible refine (bits_Within.calls a0 a1 t182 _ A45.out).mono ?_); rintro e w' ⟨rfl, ⟨nd, rfl⟩⟩; (try first | exact ⟨rfl, _, World.drewN_drewN _ _ _⟩ | exact ⟨rfl, _, Eq.trans (World.drewN_drewN _ _ _) (congrArg (World.drewN _) (Nat.add_assoc _ _ _))⟩)) | (go_at_call 26; (with_reducible refine (witheref1_Within.calls a0 a1 t183 _ A46.out).mono ?_); rintro e w' ⟨rfl, ⟨nd, rfl⟩⟩; (try first | exact ⟨rfl, _, World.drewN_drewN _ _ _⟩ | exact ⟨rfl, _, Eq.trans (World.drewN_drewN _ _ _) (congrArg (World.drewN _) (Nat.add_assoc _ _ _))⟩))))
                                 go_ret
                                 exact ⟨by first | rfl | (simp [errW_none, errW_some] <;> rfl) | (simp [*, errW_none, errW_some] <;> rfl), by repeat (first | (with_reducible first | exact HB.out | apply below_alloc | apply pw_below_drewN | apply below_drew1) | exact HB.out)⟩)
                          · rw [if_neg c44] at H
                            exact absurd H (by simp)
                        · rw [if_neg c42] at H
                          exact absurd H (by simp)
                      · rw [if_neg c40] at H
                        exact absurd H (by simp)
                    · rw [if_neg c38] at H
                      exact absurd H (by simp)
                  · rw [if_neg c35] at H
                    exact absurd H (by simp)
                · rw [if_neg c32] at H
                  exact absurd H (by simp)
              · rw [if_neg c29] at H
                exact absurd H (by simp)
            · replace c26 := Bool.eq_false_iff.mpr c26
              subst c26
              have H1 : (none) = some true := by rw [if_neg (show ¬ (false = true) by decide)] at H; exact H
              clear H
              have H := H1
              clear H1
              exact absurd H (by simp)
          · rw [if_neg c23] at H
            exact absurd H (by simp)
  · replace c8 := Bool.eq_false_iff.mpr c8
    subst c8
    have H1 : (none) = some true := by rw [if_neg (show ¬ (false = true) by decide)] at H; exact H
    clear H
    have H := H1
    clear H1
    exact absurd H (by simp)

/-- THE ONE PURE STATEMENT of withelaw1_BitsAll: yours. -/
def withelaw1_BitsAll.Pure : Prop := ∀ (a0 : Int) (a1 : Int) (l2 : List Int) (a3 : Int) (a4 : Int) (a5 : Int), (Lit.int .u64 a0).wf = true → (Lit.int .u64 a1).wf = true → l2.length ≤ maxLen → l2.length * 8 ≤ 140737488351232 → (∀ x ∈ l2, (Lit.int .i64 x).wf = true) → (Lit.int .i64 a3).wf = true → (Lit.int .i64 a4).wf = true → (Lit.int .i64 a5).wf = true → ∃ k, withelaw1_BitsAll.f k a0 a1 l2 a3 a4 a5 = some true
theorem withelaw1_BitsAll.walk (P : withelaw1_BitsAll.Pure) (a0 : Int) (a1 : Int) (a2 : Option Addr) (len2 cap2 : Nat) (z2 : List Int) (a3 : Int) (a4 : Int) (a5 : Int) (w : World) (hTab : TabW w) (w0 : (Lit.int .u64 a0).wf = true) (w1 : (Lit.int .u64 a1).wf = true) (w2 : (a2 = none ∧ len2 = 0 ∧ cap2 = 0 ∧ z2 = []) ∨ ∃ x, a2 = some x ∧ len2 ≤ cap2 ∧ cap2 ≤ maxLen ∧ z2.length = cap2 ∧ (∀ i, i < z2.length → w.cell? (x.add i) = some (.int .i64 (z2.getD i 0))) ∧ ∀ n ∈ z2, (Lit.int .i64 n).wf = true) (y2 : len2 * 8 ≤ 140737488351232) (w3 : (Lit.int .i64 a3).wf = true) (w4 : (Lit.int .i64 a4).wf = true) (w5 : (Lit.int .i64 a5).wf = true) :
    Calls Tryd.prog 3 #[.int .u64 a0, .int .u64 a1, .slice a2 len2 cap2, .int .i64 a3, .int .i64 a4, .int .i64 a5] w fun e w' => e = .returned (.bool true) ∧ Below w.heap.size w w' := by
  obtain ⟨l2, rfl, hr2, hm2, hw2, hc2⟩ := ReadsInt.ofRowC w2
  obtain ⟨k, h⟩ := P a0 a1 l2 a3 a4 a5 w0 w1 hm2 y2 hw2 w3 w4 w5
  refine (withelaw1_BitsAll.calls k a0 a1 _ _ l2 a3 a4 a5 w (Kd.C_of_reads (d := (0 : Int)) (h1 := fun _ => rfl) hr2) hc2 hTab h).mono ?_
  rintro e w' ⟨rfl, hd⟩
  exact ⟨rfl, hd⟩

end Go.Proofs.YtpkhcmholpljnabDoor.PB1
