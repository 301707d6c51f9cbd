/- A text of a claim: it proves what its last theorem states, for every input that the given row speaks of; conditions of ours: none. Written by this claim's own program (wip/tools/xprint.py) over the kit's printer. -/
import Derived.Test.YtpkhcmholpljnabDoorPB1x0
import Derived.Test.YtpkhcmholpljnabDoorPB1x1
namespace Go.Proofs.YtpkhcmholpljnabDoor.PB1
open Go.RowKit Go.Proofs.YtpkhcmholpljnabDoorW.PrintWords Go.Proofs.YtpkhcmholpljnabDoorW.PrintLast Go.Proofs.YtpkhcmholpljnabDoorW.PrintMore
attribute [local go_sem] max2_int min2_int max_two min_two max_three min_three max_four min_four   -- for this text's walks alone
set_option linter.unusedVariables false
set_option linter.unusedSimpArgs false

/-! ### withelaw1_BitsOne: function 5 -/
def withelaw1_BitsOne.j0 : Nat → Int → Int → Int → Int → Int → Bool → Option (Bool)
  | 0, _, _, _, _, _, _ => none
  | k + 1, x0, x7, x8, x9, x10, x51 => if x51 = true then (none) else (if x7 = x8 then (some true) else ((bits_Has.f x9 x8).bind fun t134 => ((bits_Has.f x0 x8).bind fun t135 => (if (t134 == t135) = true then ((bits_Has.f x10 x8).bind fun t136 => (some (t136 == t135))) else (none)))))
def withelaw1_BitsOne.f (k : Nat) (a0 : Int) (a1 : Int) (a2 : Int) : Option (Bool) := (withelaw1_begun.f k).bind fun t127 => (if t127 = true then ((bits_Put.f a0 (wrap64 (Int.tmod a1 64))).bind fun t128 => ((bits_Drop.f a0 (wrap64 (Int.tmod a1 64))).bind fun t129 => ((bits_Has.f t128 (wrap64 (Int.tmod a1 64))).bind fun t130 => (if t130 = true then ((bits_Has.f t129 (wrap64 (Int.tmod a1 64))).bind fun t131 => (if t131 = true then (withelaw1_BitsOne.j0 k a0 (wrap64 (Int.tmod a1 64)) (wrap64 (Int.tmod a2 64)) t128 t129 true) else ((bits_Count.f t128).bind fun t132 => ((bits_Count.f t129).bind fun t133 => (if t132 = (wrap64 (t133 + 1)) then (if t128 = a0 then (withelaw1_BitsOne.j0 k a0 (wrap64 (Int.tmod a1 64)) (wrap64 (Int.tmod a2 64)) t128 t129 false) else (withelaw1_BitsOne.j0 k a0 (wrap64 (Int.tmod a1 64)) (wrap64 (Int.tmod a2 64)) t128 t129 (t129 != a0))) else (withelaw1_BitsOne.j0 k a0 (wrap64 (Int.tmod a1 64)) (wrap64 (Int.tmod a2 64)) t128 t129 true)))))) else (withelaw1_BitsOne.j0 k a0 (wrap64 (Int.tmod a1 64)) (wrap64 (Int.tmod a2 64)) t128 t129 true))))) else (none))
theorem withelaw1_BitsOne.mono_l : ∀ k, (∀ y0 y1 y2 y3 y4 y5, LeO (withelaw1_BitsOne.j0 k y0 y1 y2 y3 y4 y5) (withelaw1_BitsOne.j0 (k + 1) y0 y1 y2 y3 y4 y5))
  | 0 => fun _ _ _ _ _ _ r h => by simp [withelaw1_BitsOne.j0] at h
  | k + 1 => by
    have ih0 := withelaw1_BitsOne.mono_l k
    · intro y0 y1 y2 y3 y4 y5
      unfold withelaw1_BitsOne.j0
      repeat' first
      | (with_reducible exact ih0 _ _ _ _ _ _)
      | (with_reducible exact withelaw1_begun.mono _)
      | (with_reducible exact LeO.refl _)
      | (with_reducible exact LeO.none _)
      | (with_reducible refine LeO.ite ?_ ?_)
      | (with_reducible refine LeO.bind ?_ (fun _ => ?_))
      | exact ih0 _ _ _ _ _ _
      | exact withelaw1_begun.mono _
      | exact LeO.none _
      | refine LeO.ite ?_ ?_
      | refine LeO.bind ?_ (fun _ => ?_)
theorem withelaw1_BitsOne.mono : ∀ a0 a1 a2 k, LeO (withelaw1_BitsOne.f k a0 a1 a2) (withelaw1_BitsOne.f (k + 1) a0 a1 a2) := by
  intro a0 a1 a2 k
  have ih0 := withelaw1_BitsOne.mono_l k
  unfold withelaw1_BitsOne.f
  repeat' first
      | (with_reducible exact ih0 _ _ _ _ _ _)
      | (with_reducible exact withelaw1_begun.mono _)
      | (with_reducible exact LeO.refl _)
      | (with_reducible exact LeO.none _)
      | (with_reducible refine LeO.ite ?_ ?_)
      | (with_reducible refine LeO.bind ?_ (fun _ => ?_))
      | exact ih0 _ _ _ _ _ _
      | exact withelaw1_begun.mono _
      | exact LeO.none _
      | refine LeO.ite ?_ ?_
      | refine LeO.bind ?_ (fun _ => ?_)
set_option maxHeartbeats 8000000 in
set_option maxRecDepth 100000 in
theorem withelaw1_BitsOne.calls (k : Nat) (a0 : Int) (a1 : Int) (a2 : Int) (w : World) (hTab : TabW w) (h : withelaw1_BitsOne.f k a0 a1 a2 = some true) :
    Calls Tryd.prog 5 #[.int .u64 a0, .int .u8 a1, .int .u8 a2] w fun e w' => e = .returned (.bool true) ∧ Below w.heap.size w w' := by
  have HB := Aside0.mk (Below.refl w.heap.size w)
  have H : ((withelaw1_begun.f k).bind fun t127 => (if t127 = true then ((bits_Put.f a0 (wrap64 (Int.tmod a1 64))).bind fun t128 => ((bits_Drop.f a0 (wrap64 (Int.tmod a1 64))).bind fun t129 => ((bits_Has.f t128 (wrap64 (Int.tmod a1 64))).bind fun t130 => (if t130 = true then ((bits_Has.f t129 (wrap64 (Int.tmod a1 64))).bind fun t131 => (if t131 = true then (withelaw1_BitsOne.j0 k a0 (wrap64 (Int.tmod a1 64)) (wrap64 (Int.tmod a2 64)) t128 t129 true) else ((bits_Count.f t128).bind fun t132 => ((bits_Count.f t129).bind fun t133 => (if t132 = (wrap64 (t133 + 1)) then (if t128 = a0 then (withelaw1_BitsOne.j0 k a0 (wrap64 (Int.tmod a1 64)) (wrap64 (Int.tmod a2 64)) t128 t129 false) else (withelaw1_BitsOne.j0 k a0 (wrap64 (Int.tmod a1 64)) (wrap64 (Int.tmod a2 64)) t128 t129 (t129 != a0))) else (withelaw1_BitsOne.j0 k a0 (wrap64 (Int.tmod a1 64)) (wrap64 (Int.tmod a2 64)) t128 t129 true)))))) else (withelaw1_BitsOne.j0 k a0 (wrap64 (Int.tmod a1 64)) (wrap64 (Int.tmod a2 64)) t128 t129 true))))) else (none))) = some true := h
  clear h
  replace H := Option.bind_eq_some_iff.mp H
  obtain ⟨t127, A40, H⟩ := H
  replace H : (if t127 = true then ((bits_Put.f a0 (wrap64 (Int.tmod a1 64))).bind fun t128 => ((bits_Drop.f a0 (wrap64 (Int.tmod a1 64))).bind fun t129 => ((bits_Has.f t128 (wrap64 (Int.tmod a1 64))).bind fun t130 => (if t130 = true then ((bits_Has.f t129 (wrap64 (Int.tmod a1 64))).bind fun t131 => (if t131 = true then (withelaw1_BitsOne.j0 k a0 (wrap64 (Int.tmod a1 64)) (wrap64 (Int.tmod a2 64)) t128 t129 true) else ((bits_Count.f t128).bind fun t132 => ((bits_Count.f t129).bind fun t133 => (if t132 = (wrap64 (t133 + 1)) then (if t128 = a0 then (withelaw1_BitsOne.j0 k a0 (wrap64 (Int.tmod a1 64)) (wrap64 (Int.tmod a2 64)) t128 t129 false) else (withelaw1_BitsOne.j0 k a0 (wrap64 (Int.tmod a1 64)) (wrap64 (Int.tmod a2 64)) t128 t129 (t129 != a0))) else (withelaw1_BitsOne.j0 k a0 (wrap64 (Int.tmod a1 64)) (wrap64 (Int.tmod a2 64)) t128 t129 true)))))) else (withelaw1_BitsOne.j0 k a0 (wrap64 (Int.tmod a1 64)) (wrap64 (Int.tmod a2 64)) t128 t129 true))))) else (none)) = some true := H
  have A4 := Aside0.mk A40
  clear A40
  by_cases c5 : t127 = true
  · subst c5
    have H1 : ((bits_Put.f a0 (wrap64 (Int.tmod a1 64))).bind fun t128 => ((bits_Drop.f a0 (wrap64 (Int.tmod a1 64))).bind fun t129 => ((bits_Has.f t128 (wrap64 (Int.tmod a1 64))).bind fun t130 => (if t130 = true then ((bits_Has.f t129 (wrap64 (Int.tmod a1 64))).bind fun t131 => (if t131 = true then (withelaw1_BitsOne.j0 k a0 (wrap64 (Int.tmod a1 64)) (wrap64 (Int.tmod a2 64)) t128 t129 true) else ((bits_Count.f t128).bind fun t132 => ((bits_Count.f t129).bind fun t133 => (if t132 = (wrap64 (t133 + 1)) then (if t128 = a0 then (withelaw1_BitsOne.j0 k a0 (wrap64 (Int.tmod a1 64)) (wrap64 (Int.tmod a2 64)) t128 t129 false) else (withelaw1_BitsOne.j0 k a0 (wrap64 (Int.tmod a1 64)) (wrap64 (Int.tmod a2 64)) t128 t129 (t129 != a0))) else (withelaw1_BitsOne.j0 k a0 (wrap64 (Int.tmod a1 64)) (wrap64 (Int.tmod a2 64)) t128 t129 true)))))) else (withelaw1_BitsOne.j0 k a0 (wrap64 (Int.tmod a1 64)) (wrap64 (Int.tmod a2 64)) t128 t129 true))))) = some true := by rw [if_pos rfl] at H; exact H
    clear H
    have H := H1
    clear H1
    replace H := Option.bind_eq_some_iff.mp H
    obtain ⟨t128, A60, H⟩ := H
    replace H : ((bits_Drop.f a0 (wrap64 (Int.tmod a1 64))).bind fun t129 => ((bits_Has.f t128 (wrap64 (Int.tmod a1 64))).bind fun t130 => (if t130 = true then ((bits_Has.f t129 (wrap64 (Int.tmod a1 64))).bind fun t131 => (if t131 = true then (withelaw1_BitsOne.j0 k a0 (wrap64 (Int.tmod a1 64)) (wrap64 (Int.tmod a2 64)) t128 t129 true) else ((bits_Count.f t128).bind fun t132 => ((bits_Count.f t129).bind fun t133 => (if t132 = (wrap64 (t133 + 1)) then (if t128 = a0 then (withelaw1_BitsOne.j0 k a0 (wrap64 (Int.tmod a1 64)) (wrap64 (Int.tmod a2 64)) t128 t129 false) else (withelaw1_BitsOne.j0 k a0 (wrap64 (Int.tmod a1 64)) (wrap64 (Int.tmod a2 64)) t128 t129 (t129 != a0))) else (withelaw1_BitsOne.j0 k a0 (wrap64 (Int.tmod a1 64)) (wrap64 (Int.tmod a2 64)) t128 t129 true)))))) else (withelaw1_BitsOne.j0 k a0 (wrap64 (Int.tmod a1 64)) (wrap64 (Int.tmod a2 64)) t128 t129 true)))) = some true := H
    have A6 := Aside0.mk A60
    clear A60
    replace H := Option.bind_eq_some_iff.mp H
    obtain ⟨t129, A70, H⟩ := H
    replace H : ((bits_Has.f t128 (wrap64 (Int.tmod a1 64))).bind fun t130 => (if t130 = true then ((bits_Has.f t129 (wrap64 (Int.tmod a1 64))).bind fun t131 => (if t131 = true then (withelaw1_BitsOne.j0 k a0 (wrap64 (Int.tmod a1 64)) (wrap64 (Int.tmod a2 64)) t128 t129 true) else ((bits_Count.f t128).bind fun t132 => ((bits_Count.f t129).bind fun t133 => (if t132 = (wrap64 (t133 + 1)) then (if t128 = a0 then (withelaw1_BitsOne.j0 k a0 (wrap64 (Int.tmod a1 64)) (wrap64 (Int.tmod a2 64)) t128 t129 false) else (withelaw1_BitsOne.j0 k a0 (wrap64 (Int.tmod a1 64)) (wrap64 (Int.tmod a2 64)) t128 t129 (t129 != a0))) else (withelaw1_BitsOne.j0 k a0 (wrap64 (Int.tmod a1 64)) (wrap64 (Int.tmod a2 64)) t128 t129 true)))))) else (withelaw1_BitsOne.j0 k a0 (wrap64 (Int.tmod a1 64)) (wrap64 (Int.tmod a2 64)) t128 t129 true))) = some true := H
    have A7 := Aside0.mk A70
    clear A70
    have HC8 := Aside0.mk H
    clear H
    go_enter Tryd.func5, Tryd.ntmps5
    go_upto_region 5 with (first | ((with_reducible refine gate_callee (f := 8) rfl ?_); refine goesL_ (some 11) rfl rfl Tryd.func8 (by kernel_rfl) rfl #[] rfl (by (try simp only [List.map_toArray, List.map_cons, List.map_nil]); first | done | rfl | (simp only [List.length_drop, List.length_take]; rfl)) ?_; (with_reducible refine (withelaw1_begun.calls k  true _ (by first | exact hTab | (repeat (first | exact hTab | exact TabW.below hTab HB.out | (with_reducible apply TabW.drewN) | (with_reducible apply TabW.drew) | (with_reducible apply TabW.alloc)))) A4.out).mono ?_); rintro e w9 ⟨rfl, hb⟩; refine ⟨_, rfl, ?_⟩; have n0_ := Aside0.mk (below_step (by repeat (first | (with_reducible first | exact HB.out | apply below_alloc | apply pw_below_drewN | apply below_drew1) | exact HB.out)) hb); clear HB; have HB := n0_; clear n0_; (try clear hb); (try clear hb2); (try clear hk); (try clear hi)) | (go_at_call 8; (with_reducible refine (withelaw1_begun.calls k  true _ (by first | exact hTab | (repeat (first | exact hTab | exact TabW.below hTab HB.out | (with_reducible apply TabW.drewN) | (with_reducible apply TabW.drew) | (with_reducible apply TabW.alloc)))) A4.out).mono ?_); rintro e w9 ⟨rfl, hb⟩; have n0_ := Aside0.mk (below_step (by repeat (first | (with_reducible first | exact HB.out | apply below_alloc | apply pw_below_drewN | apply below_drew1) | exact HB.out)) hb); clear HB; have HB := n0_; clear n0_; (try clear hb); (try clear hb2); (try clear hk); (try clear hi)) | ((with_reducible refine gate_callee (f := 18) rfl ?_); refine goesL_ (some 21) rfl rfl Tryd.func18 (by kernel_rfl) rfl #[.int .u64 a0, .int .i64 (wrap64 (Int.tmod a1 64))] rfl (by (try simp only [List.map_toArray, List.map_cons, List.map_nil]); first | done | rfl | (simp only [List.length_drop, List.length_take]; rfl)) ?_; (with_reducible refine (bits_Put.calls a0 (wrap64 (Int.tmod a1 64)) t128 _ A6.out).mono ?_); rintro e w' ⟨rfl, ⟨nd, rfl⟩⟩; refine ⟨_, rfl, ?_⟩) | (go_at_call 18; (with_reducible refine (bits_Put.calls a0 (wrap64 (Int.tmod a1 64)) t128 _ A6.out).mono ?_); rintro e w' ⟨rfl, ⟨nd, rfl⟩⟩) | ((with_reducible refine gate_callee (f := 20) rfl ?_); refine goesL_ (some 24) rfl rfl Tryd.func20 (by kernel_rfl) rfl #[.int .u64 a0, .int .i64 (wrap64 (Int.tmod a1 64))] rfl (by (try simp only [List.map_toArray, List.map_cons, List.map_nil]); first | done | rfl | (simp only [List.length_drop, List.length_take]; rfl)) ?_; (with_reducible refine (bits_Drop.calls a0 (wrap64 (Int.tmod a1 64)) t129 _ A7.out).mono ?_); rintro e w' ⟨rfl, ⟨nd, rfl⟩⟩; refine ⟨_, rfl, ?_⟩) | (go_at_call 20; (with_reducible refine (bits_Drop.calls a0 (wrap64 (Int.tmod a1 64)) t129 _ A7.out).mono ?_); rintro e w' ⟨rfl, ⟨nd, rfl⟩⟩))
    (try simp only [Act.put, List.setIfInBounds_toArray, List.set_cons_zero, List.set_cons_succ])
    go_cut [51] (fun v51 wc => ∃ (kq : Nat) (x51_7 : Bool), v51 = .bool x51_7 ∧ Aside0 (withelaw1_BitsOne.j0 kq a0 (wrap64 (Int.tmod a1 64)) (wrap64 (Int.tmod a2 64)) t128 t129 x51_7 = some true) ∧ Aside0 (kq ≤ k) ∧ Aside0 (Below w.heap.size w wc))
    case first =>
      have H := HC8.out
      clear HC8
      replace H := Option.bind_eq_some_iff.mp H
      obtain ⟨t130, A100, H⟩ := H
      replace H : (if t130 = true then ((bits_Has.f t129 (wrap64 (Int.tmod a1 64))).bind fun t131 => (if t131 = true then (withelaw1_BitsOne.j0 k a0 (wrap64 (Int.tmod a1 64)) (wrap64 (Int.tmod a2 64)) t128 t129 true) else ((bits_Count.f t128).bind fun t132 => ((bits_Count.f t129).bind fun t133 => (if t132 = (wrap64 (t133 + 1)) then (if t128 = a0 then (withelaw1_BitsOne.j0 k a0 (wrap64 (Int.tmod a1 64)) (wrap64 (Int.tmod a2 64)) t128 t129 false) else (withelaw1_BitsOne.j0 k a0 (wrap64 (Int.tmod a1 64)) (wrap64 (Int.tmod a2 64)) t128 t129 (t129 != a0))) else (withelaw1_BitsOne.j0 k a0 (wrap64 (Int.tmod a1 64)) (wrap64 (Int.tmod a2 64)) t128 t129 true)))))) else (withelaw1_BitsOne.j0 k a0 (wrap64 (Int.tmod a1 64)) (wrap64 (Int.tmod a2 64)) t128 t129 true)) = some true := H
      have A10 := Aside0.mk A100
      clear A100
      by_cases c11 : t130 = true
      · subst c11
        have H1 : ((bits_Has.f t129 (wrap64 (Int.tmod a1 64))).bind fun t131 => (if t131 = true then (withelaw1_BitsOne.j0 k a0 (wrap64 (Int.tmod a1 64)) (wrap64 (Int.tmod a2 64)) t128 t129 true) else ((bits_Count.f t128).bind fun t132 => ((bits_Count.f t129).bind fun t133 => (if t132 = (wrap64 (t133 + 1)) then (if t128 = a0 then (withelaw1_BitsOne.j0 k a0 (wrap64 (Int.tmod a1 64)) (wrap64 (Int.tmod a2 64)) t128 t129 false) else (withelaw1_BitsOne.j0 k a0 (wrap64 (Int.tmod a1 64)) (wrap64 (Int.tmod a2 64)) t128 t129 (t129 != a0))) else (withelaw1_BitsOne.j0 k a0 (wrap64 (Int.tmod a1 64)) (wrap64 (Int.tmod a2 64)) t128 t129 true)))))) = some true := by rw [if_pos rfl] at H; exact H
        clear H
        have H := H1
        clear H1
        replace H := Option.bind_eq_some_iff.mp H
        obtain ⟨t131, A120, H⟩ := H
        replace H : (if t131 = true then (withelaw1_BitsOne.j0 k a0 (wrap64 (Int.tmod a1 64)) (wrap64 (Int.tmod a2 64)) t128 t129 true) else ((bits_Count.f t128).bind fun t132 => ((bits_Count.f t129).bind fun t133 => (if t132 = (wrap64 (t133 + 1)) then (if t128 = a0 then (withelaw1_BitsOne.j0 k a0 (wrap64 (Int.tmod a1 64)) (wrap64 (Int.tmod a2 64)) t128 t129 false) else (withelaw1_BitsOne.j0 k a0 (wrap64 (Int.tmod a1 64)) (wrap64 (Int.tmod a2 64)) t128 t129 (t129 != a0))) else (withelaw1_BitsOne.j0 k a0 (wrap64 (Int.tmod a1 64)) (wrap64 (Int.tmod a2 64)) t128 t129 true))))) = some true := H
        have A12 := Aside0.mk A120
        clear A120
        by_cases c13 : t131 = true
        · subst c13
          have H1 : (withelaw1_BitsOne.j0 k a0 (wrap64 (Int.tmod a1 64)) (wrap64 (Int.tmod a2 64)) t128 t129 true) = some true := by rw [if_pos rfl] at H; exact H
          clear H
          have H := H1
          clear H1
          have H' := Aside0.mk H
          clear H
          go_wp2_with (first | ((with_reducible refine gate_callee (f := 16) rfl ?_); refine goesL_ (some 27) rfl rfl Tryd.func16 (by kernel_rfl) rfl #[.int .u64 t128, .int .i64 (wrap64 (Int.tmod a1 64))] rfl (by (try simp only [List.map_toArray, List.map_cons, List.map_nil]); first | done | rfl | (simp only [List.length_drop, List.length_take]; rfl)) ?_; (with_reducible refine (bits_Has.calls t128 (wrap64 (Int.tmod a1 64)) true _ A10.out).mono ?_); rintro e w' ⟨rfl, ⟨nd, rfl⟩⟩; refine ⟨_, rfl, ?_⟩) | (go_at_call 16; (with_reducible refine (bits_Has.calls t128 (wrap64 (Int.tmod a1 64)) true _ A10.out).mono ?_); rintro e w' ⟨rfl, ⟨nd, rfl⟩⟩) | (go_at_call 16; (with_reducible refine (bits_Has.calls t129 (wrap64 (Int.tmod a1 64)) true _ A12.out).mono ?_); rintro e w' ⟨rfl, ⟨nd, rfl⟩⟩))
          go_meet
          case rel => exact ⟨_, (true), (by first | rfl | (simp; done) | (simp [*]; done)), H', ⟨by first | omega | exact Nat.le_refl _⟩, ⟨by repeat (first | (with_reducible first | exact HB.out | apply below_alloc | apply pw_below_drewN | apply below_drew1) | exact HB.out)⟩⟩
        · replace c13 := Bool.eq_false_iff.mpr c13
          subst c13
          have H1 : ((bits_Count.f t128).bind fun t132 => ((bits_Count.f t129).bind fun t133 => (if t132 = (wrap64 (t133 + 1)) then (if t128 = a0 then (withelaw1_BitsOne.j0 k a0 (wrap64 (Int.tmod a1 64)) (wrap64 (Int.tmod a2 64)) t128 t129 false) else (withelaw1_BitsOne.j0 k a0 (wrap64 (Int.tmod a1 64)) (wrap64 (Int.tmod a2 64)) t128 t129 (t129 != a0))) else (withelaw1_BitsOne.j0 k a0 (wrap64 (Int.tmod a1 64)) (wrap64 (Int.tmod a2 64)) t128 t129 true)))) = some true := by rw [if_neg (show ¬ (false = true) by decide)] at H; exact H
          clear H
          have H := H1
          clear H1
          replace H := Option.bind_eq_some_iff.mp H
          obtain ⟨t132, A140, H⟩ := H
          replace H : ((bits_Count.f t129).bind fun t133 => (if t132 = (wrap64 (t133 + 1)) then (if t128 = a0 then (withelaw1_BitsOne.j0 k a0 (wrap64 (Int.tmod a1 64)) (wrap64 (Int.tmod a2 64)) t128 t129 false) else (withelaw1_BitsOne.j0 k a0 (wrap64 (Int.tmod a1 64)) (wrap64 (Int.tmod a2 64)) t128 t129 (t129 != a0))) else (withelaw1_BitsOne.j0 k a0 (wrap64 (Int.tmod a1 64)) (wrap64 (Int.tmod a2 64)) t128 t129 true))) = some true := H
          have A14 := Aside0.mk A140
          clear A140
          replace H := Option.bind_eq_some_iff.mp H
          obtain ⟨t133, A150, H⟩ := H
          replace H : (if t132 = (wrap64 (t133 + 1)) then (if t128 = a0 then (withelaw1_BitsOne.j0 k a0 (wrap64 (Int.tmod a1 64)) (wrap64 (Int.tmod a2 64)) t128 t129 false) else (withelaw1_BitsOne.j0 k a0 (wrap64 (Int.tmod a1 64)) (wrap64 (Int.tmod a2 64)) t128 t129 (t129 != a0))) else (withelaw1_BitsOne.j0 k a0 (wrap64 (Int.tmod a1 64)) (wrap64 (Int.tmod a2 64)) t128 t129 true)) = some true := H
          have A15 := Aside0.mk A150
          clear A150
          by_cases c16 : t132 = (wrap64 (t133 + 1))
          · rw [if_pos c16] at H
            have c16b0 : (t132 == (wrap64 (t133 + 1))) = true := beq_iff_eq.mpr c16
            have c16b1 : (t132 != (wrap64 (t133 + 1))) = false := bne_eq_false_iff_eq.mpr c16
            clear c16
            (first | rw [c16b0] | rw [c16b1] | (simp only [i64_w, i32_w]; rw [c16b0]) | skip)
            by_cases c17 : t128 = a0
            · rw [if_pos c17] at H
              have c17b0 : (t128 == a0) = true := beq_iff_eq.mpr c17
              have c17b1 : (t128 != a0) = false := bne_eq_false_iff_eq.mpr c17
              clear c17
              have H' := Aside0.mk H
              clear H
              go_wp2_with (first | ((with_reducible refine gate_callee (f := 16) rfl ?_); refine goesL_ (some 27) rfl rfl Tryd.func16 (by kernel_rfl) rfl #[.int .u64 t128, .int .i64 (wrap64 (Int.tmod a1 64))] rfl (by (try simp only [List.map_toArray, List.map_cons, List.map_nil]); first | done | rfl | (simp only [List.length_drop, List.length_take]; rfl)) ?_; (with_reducible refine (bits_Has.calls t128 (wrap64 (Int.tmod a1 64)) true _ A10.out).mono ?_); rintro e w' ⟨rfl, ⟨nd, rfl⟩⟩; refine ⟨_, rfl, ?_⟩) | (go_at_call 16; (with_reducible refine (bits_Has.calls t128 (wrap64 (Int.tmod a1 64)) true _ A10.out).mono ?_); rintro e w' ⟨rfl, ⟨nd, rfl⟩⟩) | (go_at_call 16; (with_reducible refine (bits_Has.calls t129 (wrap64 (Int.tmod a1 64)) false _ A12.out).mono ?_); rintro e w' ⟨rfl, ⟨nd, rfl⟩⟩) | (go_at_call 22; (with_reducible refine (bits_Count.calls t128 t132 _ A14.out).mono ?_); rintro e w' ⟨rfl, ⟨nd, rfl⟩⟩) | (go_at_call 22; (with_reducible refine (bits_Count.calls t129 t133 _ A15.out).mono ?_); rintro e w' ⟨rfl, ⟨nd, rfl⟩⟩))
              go_meet
              case rel => exact ⟨_, (false), (by first | rfl | (simp; done) | (simp [*]; done)), H', ⟨by first | omega | exact Nat.le_refl _⟩, ⟨by repeat (first | (with_reducible first | exact HB.out | apply below_alloc | apply pw_below_drewN | apply below_drew1) | exact HB.out)⟩⟩
            · rw [if_neg c17] at H
              have c17b0 : (t128 == a0) = false := beq_eq_false_iff_ne.mpr c17
              have c17b1 : (t128 != a0) = true := bne_iff_ne.mpr c17
              have H' := Aside0.mk H
              clear H
              go_wp2_with (first | ((with_reducible refine gate_callee (f := 16) rfl ?_); refine goesL_ (some 27) rfl rfl Tryd.func16 (by kernel_rfl) rfl #[.int .u64 t128, .int .i64 (wrap64 (Int.tmod a1 64))] rfl (by (try simp only [List.map_toArray, List.map_cons, List.map_nil]); first | done | rfl | (simp only [List.length_drop, List.length_take]; rfl)) ?_; (with_reducible refine (bits_Has.calls t128 (wrap64 (Int.tmod a1 64)) true _ A10.out).mono ?_); rintro e w' ⟨rfl, ⟨nd, rfl⟩⟩; refine ⟨_, rfl, ?_⟩) | (go_at_call 16; (with_reducible refine (bits_Has.calls t128 (wrap64 (Int.tmod a1 64)) true _ A10.out).mono ?_); rintro e w' ⟨rfl, ⟨nd, rfl⟩⟩) | (go_at_call 16; (with_reducible refine (bits_Has.calls t129 (wrap64 (Int.tmod a1 64)) false _ A12.out).mono ?_); rintro e w' ⟨rfl, ⟨nd, rfl⟩⟩) | (go_at_call 22; (with_reducible refine (bits_Count.calls t128 t132 _ A14.out).mono ?_); rintro e w' ⟨rfl, ⟨nd, rfl⟩⟩) | (go_at_call 22; (with_reducible refine (bits_Count.calls t129 t133 _ A15.out).mono ?_); rintro e w' ⟨rfl, ⟨nd, rfl⟩⟩))
              go_meet
              case rel => exact ⟨_, ((t129 != a0)), (by first | rfl | (simp; done) | (simp [*]; done)), H', ⟨by first | omega | exact Nat.le_refl _⟩, ⟨by repeat (first | (with_reducible first | exact HB.out | apply below_alloc | apply pw_below_drewN | apply below_drew1) | exact HB.out)⟩⟩
          · rw [if_neg c16] at H
            have c16b0 : (t132 == (wrap64 (t133 + 1))) = false := beq_eq_false_iff_ne.mpr c16
            have c16b1 : (t132 != (wrap64 (t133 + 1))) = true := bne_iff_ne.mpr c16
            (first | rw [c16b0] | rw [c16b1] | (simp only [i64_w, i32_w]; rw [c16b0]) | skip)
            have H' := Aside0.mk H
            clear H
            go_wp2_with (first | ((with_reducible refine gate_callee (f := 16) rfl ?_); refine goesL_ (some 27) rfl rfl Tryd.func16 (by kernel_rfl) rfl #[.int .u64 t128, .int .i64 (wrap64 (Int.tmod a1 64))] rfl (by (try simp only [List.map_toArray, List.map_cons, List.map_nil]); first | done | rfl | (simp only [List.length_drop, List.length_take]; rfl)) ?_; (with_reducible refine (bits_Has.calls t128 (wrap64 (Int.tmod a1 64)) true _ A10.out).mono ?_); rintro e w' ⟨rfl, ⟨nd, rfl⟩⟩; refine ⟨_, rfl, ?_⟩) | (go_at_call 16; (with_reducible refine (bits_Has.calls t128 (wrap64 (Int.tmod a1 64)) true _ A10.out).mono ?_); rintro e w' ⟨rfl, ⟨nd, rfl⟩⟩) | (go_at_call 16; (with_reducible refine (bits_Has.calls t129 (wrap64 (Int.tmod a1 64)) false _ A12.out).mono ?_); rintro e w' ⟨rfl, ⟨nd, rfl⟩⟩) | (go_at_call 22; (with_reducible refine (bits_Count.calls t128 t132 _ A14.out).mono ?_); rintro e w' ⟨rfl, ⟨nd, rfl⟩⟩) | (go_at_call 22; (with_reducible refine (bits_Count.calls t129 t133 _ A15.out).mono ?_); rintro e w' ⟨rfl, ⟨nd, rfl⟩⟩))
            go_meet
            case rel => exact ⟨_, (true), (by first | rfl | (simp; done) | (simp [*]; done)), H', ⟨by first | omega | exact Nat.le_refl _⟩, ⟨by repeat (first | (with_reducible first | exact HB.out | apply below_alloc | apply pw_below_drewN | apply below_drew1) | exact HB.out)⟩⟩
      · replace c11 := Bool.eq_false_iff.mpr c11
        subst c11
        have H1 : (withelaw1_BitsOne.j0 k a0 (wrap64 (Int.tmod a1 64)) (wrap64 (Int.tmod a2 64)) t128 t129 true) = some true := by rw [if_neg (show ¬ (false = true) by decide)] at H; exact H
        clear H
        have H := H1
        clear H1
        have H' := Aside0.mk H
        clear H
        go_wp2_with (first | ((with_reducible refine gate_callee (f := 16) rfl ?_); refine goesL_ (some 27) rfl rfl Tryd.func16 (by kernel_rfl) rfl #[.int .u64 t128, .int .i64 (wrap64 (Int.tmod a1 64))] rfl (by (try simp only [List.map_toArray, List.map_cons, List.map_nil]); first | done | rfl | (simp only [List.length_drop, List.length_take]; rfl)) ?_; (with_reducible refine (bits_Has.calls t128 (wrap64 (Int.tmod a1 64)) false _ A10.out).mono ?_); rintro e w' ⟨rfl, ⟨nd, rfl⟩⟩; refine ⟨_, rfl, ?_⟩) | (go_at_call 16; (with_reducible refine (bits_Has.calls t128 (wrap64 (Int.tmod a1 64)) false _ A10.out).mono ?_); rintro e w' ⟨rfl, ⟨nd, rfl⟩⟩))
        go_meet
        case rel => exact ⟨_, (true), (by first | rfl | (simp; done) | (simp [*]; done)), H', ⟨by first | omega | exact Nat.le_refl _⟩, ⟨by repeat (first | (with_reducible first | exact HB.out | apply below_alloc | apply pw_below_drewN | apply below_drew1) | exact HB.out)⟩⟩
    case rest =>
      clear HC8
      try clear c1
      try clear c2
      try clear p2
      try clear c5
      try clear p6
      try clear c8
      try clear c11
      try clear c13
      try clear c16
      try clear c16b0
      try clear c16b1
      try clear c17
      try clear c17b0
      try clear c17b1
      obtain ⟨kq, x51_7, rfl, HA, HJ7, HB⟩ := hcut
      cases kq with
      | zero => exact absurd HA.out (by simp [withelaw1_BitsOne.j0])
      | succ kj7 =>
        have H := HA.out
        clear HA
        simp only [withelaw1_BitsOne.j0] at H
        by_cases c18 : x51_7 = true
        · subst c18
          have H1 : (none) = some true := by rw [if_pos rfl] at H; exact H
          clear H
          have H := H1
          clear H1
          exact absurd H (by simp)
        · replace c18 := Bool.eq_false_iff.mpr c18
          subst c18
          have H1 : (if (wrap64 (Int.tmod a1 64)) = (wrap64 (Int.tmod a2 64)) then (some true) else ((bits_Has.f t128 (wrap64 (Int.tmod a2 64))).bind fun t134 => ((bits_Has.f a0 (wrap64 (Int.tmod a2 64))).bind fun t135 => (if (t134 == t135) = true then ((bits_Has.f t129 (wrap64 (Int.tmod a2 64))).bind fun t136 => (some (t136 == t135))) else (none))))) = some true := by rw [if_neg (show ¬ (false = true) by decide)] at H; exact H
          clear H
          have H := H1
          clear H1
          by_cases c19 : (wrap64 (Int.tmod a1 64)) = (wrap64 (Int.tmod a2 64))
          · rw [if_pos c19] at H
            have c19b0 : ((wrap64 (Int.tmod a1 64)) == (wrap64 (Int.tmod a2 64))) = true := beq_iff_eq.mpr c19
            have c19b1 : ((wrap64 (Int.tmod a1 64)) != (wrap64 (Int.tmod a2 64))) = false := bne_eq_false_iff_eq.mpr c19
            clear c19
            first
              | exact absurd (Option.some.inj H) (by decide)
              | (have HT := Option.some.inj H
                 go_wp2
                 go_ret
                 exact ⟨by first | rfl | (simp [errW_none, errW_some] <;> rfl) | (simp [*, errW_none, errW_some] <;> rfl), by repeat (first | (with_reducible first | exact HB.out | apply below_alloc | apply pw_below_drewN | apply below_drew1) | exact HB.out)⟩)
          · rw [if_neg c19] at H
            have c19b0 : ((wrap64 (Int.tmod a1 64)) == (wrap64 (Int.tmod a2 64))) = false := beq_eq_false_iff_ne.mpr c19
            have c19b1 : ((wrap64 (Int.tmod a1 64)) != (wrap64 (Int.tmod a2 64))) = true := bne_iff_ne.mpr c19
            replace H := Option.bind_eq_some_iff.mp H
            obtain ⟨t134, A200, H⟩ := H
            replace H : ((bits_Has.f a0 (wrap64 (Int.tmod a2 64))).bind fun t135 => (if (t134 == t135) = true then ((bits_Has.f t129 (wrap64 (Int.tmod a2 64))).bind fun t136 => (some (t136 == t135))) else (none))) = some true := H
            have A20 := Aside0.mk A200
            clear A200
            replace H := Option.bind_eq_some_iff.mp H
            obtain ⟨t135, A210, H⟩ := H
            replace H : (if (t134 == t135) = true then ((bits_Has.f t129 (wrap64 (Int.tmod a2 64))).bind fun t136 => (some (t136 == t135))) else (none)) = some true := H
            have A21 := Aside0.mk A210
            clear A210
            by_cases c22 : (t134 == t135) = true
            · rw [if_pos c22] at H
              have c22b0 : (t134 == t135) = true := c22
              (try (have c22b1 : decide (t134 = t135) = true := by simpa using c22))
              (try (have c22b2 : (t134 == t135) = true := by simpa using c22))
              clear c22
              replace H := Option.bind_eq_some_iff.mp H
              obtain ⟨t136, A230, H⟩ := H
              replace H : (some (t136 == t135)) = some true := H
              have A23 := Aside0.mk A230
              clear A230
              first
                | exact absurd (Option.some.inj H) (by decide)
                | (have HT := Option.some.inj H
                   go_wp2_with (first | (go_at_call 16; (with_reducible refine (bits_Has.calls t128 (wrap64 (Int.tmod a2 64)) t134 _ A20.out).mono ?_); rintro e w' ⟨rfl, ⟨nd, rfl⟩⟩) | (go_at_call 16; (with_reducible refine (bits_Has.calls a0 (wrap64 (Int.tmod a2 64)) t135 _ A21.out).mono ?_); rintro e w' ⟨rfl, ⟨nd, rfl⟩⟩) | (go_at_call 16; (with_reducible refine (bits_Has.calls t129 (wrap64 (Int.tmod a2 64)) t136 _ A23.out).mono ?_); rintro e w' ⟨rfl, ⟨nd, rfl⟩⟩))
                   go_ret
                   exact ⟨by first | rfl | (simp [errW_none, errW_some] <;> rfl) | (simp [*, errW_none, errW_some] <;> rfl), by repeat (first | (with_reducible first | exact HB.out | apply below_alloc | apply pw_below_drewN | apply below_drew1) | exact HB.out)⟩)
            · rw [if_neg c22] at H
              exact absurd H (by simp)
  · replace c5 := Bool.eq_false_iff.mpr c5
    subst c5
    have H1 : (none) = some true := by rw [if_neg (show ¬ (false = true) by decide)] at H; exact H
    clear H
    have H := H1
    clear H1
    exact absurd H (by simp)

/-- THE ONE PURE STATEMENT of withelaw1_BitsOne: yours. -/
def withelaw1_BitsOne.Pure : Prop := ∀ (a0 : Int) (a1 : Int) (a2 : Int), (Lit.int .u64 a0).wf = true → (Lit.int .u8 a1).wf = true → (Lit.int .u8 a2).wf = true → ∃ k, withelaw1_BitsOne.f k a0 a1 a2 = some true
theorem withelaw1_BitsOne.walk (P : withelaw1_BitsOne.Pure) (a0 : Int) (a1 : Int) (a2 : Int) (w : World) (hTab : TabW w) (w0 : (Lit.int .u64 a0).wf = true) (w1 : (Lit.int .u8 a1).wf = true) (w2 : (Lit.int .u8 a2).wf = true) :
    Calls Tryd.prog 5 #[.int .u64 a0, .int .u8 a1, .int .u8 a2] w fun e w' => e = .returned (.bool true) ∧ Below w.heap.size w w' := by
  obtain ⟨k, h⟩ := P a0 a1 a2 w0 w1 w2
  refine (withelaw1_BitsOne.calls k a0 a1 a2 w hTab h).mono ?_
  rintro e w' ⟨rfl, hd⟩
  exact ⟨rfl, hd⟩

/-! ### withelaw1_BitsRanges: function 6 -/
def withelaw1_BitsRanges.l0 : Nat → Int → Int → Int → Int → Int → Option (Bool)
  | 0, _, _, _, _, _ => none
  | k + 1, x7, x8, x9, x10, x11 => if x11 < x9 then ((bits_Put.f x10 x11).bind fun t138 => (withelaw1_BitsRanges.l0 k x7 x8 x9 t138 (wrap64 (x11 + 1)))) else ((bits_Range.f k x7 x9).bind fun t139 => (if t139 = x10 then ((bits_Range.f k x7 x8).bind fun t140 => ((bits_Range.f k x8 x9).bind fun t141 => (if (Go.bits .or .u64 t140 t141) = x10 then ((bits_Range.f k x7 x8).bind fun t142 => ((bits_Range.f k x8 x9).bind fun t143 => (if (Go.bits .and .u64 t142 t143) = 0 then ((bits_Count.f x10).bind fun t144 => (if t144 = (wrap64 (x9 - x7)) then ((bits_Range.f k x9 x7).bind fun t145 => (some (t145 == 0))) else (none))) else (none)))) else (none)))) else (none)))
def withelaw1_BitsRanges.f (k : Nat) (a0 : Int) (a1 : Int) (a2 : Int) : Option (Bool) := (withelaw1_begun.f k).bind fun t137 => (if t137 = true then (if (wrap64 (65 - (wrap64 (Int.tmod a0 65)))) = 0 then (none) else (if (wrap64 (65 - (wrap64 ((wrap64 (Int.tmod a0 65)) + (Int.tmod (wrap64 (a1)) (wrap64 (65 - (wrap64 (Int.tmod a0 65))))))))) = 0 then (none) else (withelaw1_BitsRanges.l0 k (wrap64 (Int.tmod a0 65)) (wrap64 ((wrap64 (Int.tmod a0 65)) + (Int.tmod (wrap64 (a1)) (wrap64 (65 - (wrap64 (Int.tmod a0 65))))))) (wrap64 ((wrap64 ((wrap64 (Int.tmod a0 65)) + (Int.tmod (wrap64 (a1)) (wrap64 (65 - (wrap64 (Int.tmod a0 65))))))) + (Int.tmod (wrap64 (a2)) (wrap64 (65 - (wrap64 ((wrap64 (Int.tmod a0 65)) + (Int.tmod (wrap64 (a1)) (wrap64 (65 - (wrap64 (Int.tmod a0 65)))))))))))) 0 (wrap64 (Int.tmod a0 65))))) else (none))
theorem withelaw1_BitsRanges.mono_l : ∀ k, (∀ y0 y1 y2 y3 y4, LeO (withelaw1_BitsRanges.l0 k y0 y1 y2 y3 y4) (withelaw1_BitsRanges.l0 (k + 1) y0 y1 y2 y3 y4))
  | 0 => fun _ _ _ _ _ r h => by simp [withelaw1_BitsRanges.l0] at h
  | k + 1 => by
    have ih0 := withelaw1_BitsRanges.mono_l k
    · intro y0 y1 y2 y3 y4
      unfold withelaw1_BitsRanges.l0
      repeat' first
      | (with_reducible exact ih0 _ _ _ _ _)
      | (with_reducible exact bits_Range.mono _ _ _)
      | (with_reducible exact withelaw1_begun.mono _)
      | (with_reducible exact LeO.refl _)
      | (with_reducible exact LeO.none _)
      | (with_reducible refine LeO.ite ?_ ?_)
      | (with_reducible refine LeO.bind ?_ (fun _ => ?_))
      | exact ih0 _ _ _ _ _
      | exact bits_Range.mono _ _ _
      | exact withelaw1_begun.mono _
      | exact LeO.none _
      | refine LeO.ite ?_ ?_
      | refine LeO.bind ?_ (fun _ => ?_)
theorem withelaw1_BitsRanges.mono : ∀ a0 a1 a2 k, LeO (withelaw1_BitsRanges.f k a0 a1 a2) (withelaw1_BitsRanges.f (k + 1) a0 a1 a2) := by
  intro a0 a1 a2 k
  have ih0 := withelaw1_BitsRanges.mono_l k
  unfold withelaw1_BitsRanges.f
  repeat' first
      | (with_reducible exact ih0 _ _ _ _ _)
      | (with_reducible exact bits_Range.mono _ _ _)
      | (with_reducible exact withelaw1_begun.mono _)
      | (with_reducible exact LeO.refl _)
      | (with_reducible exact LeO.none _)
      | (with_reducible refine LeO.ite ?_ ?_)
      | (with_reducible refine LeO.bind ?_ (fun _ => ?_))
      | exact ih0 _ _ _ _ _
      | exact bits_Range.mono _ _ _
      | exact withelaw1_begun.mono _
      | exact LeO.none _
      | refine LeO.ite ?_ ?_
      | refine LeO.bind ?_ (fun _ => ?_)
set_option maxHeartbeats 8000000 in
set_option maxRecDepth 100000 in
theorem withelaw1_BitsRanges.calls (k : Nat) (a0 : Int) (a1 : Int) (a2 : Int) (w : World) (hTab : TabW w) (h : withelaw1_BitsRanges.f k a0 a1 a2 = some true) :
    Calls Tryd.prog 6 #[.int .u8 a0, .int .u8 a1, .int .u8 a2] w fun e w' => e = .returned (.bool true) ∧ Below w.heap.size w w' := by
  have HB := Aside0.mk (Below.refl w.heap.size w)
  have H : ((withelaw1_begun.f k).bind fun t137 => (if t137 = true then (if (wrap64 (65 - (wrap64 (Int.tmod a0 65)))) = 0 then (none) else (if (wrap64 (65 - (wrap64 ((wrap64 (Int.tmod a0 65)) + (Int.tmod (wrap64 (a1)) (wrap64 (65 - (wrap64 (Int.tmod a0 65))))))))) = 0 then (none) else (withelaw1_BitsRanges.l0 k (wrap64 (Int.tmod a0 65)) (wrap64 ((wrap64 (Int.tmod a0 65)) + (Int.tmod (wrap64 (a1)) (wrap64 (65 - (wrap64 (Int.tmod a0 65))))))) (wrap64 ((wrap64 ((wrap64 (Int.tmod a0 65)) + (Int.tmod (wrap64 (a1)) (wrap64 (65 - (wrap64 (Int.tmod a0 65))))))) + (Int.tmod (wrap64 (a2)) (wrap64 (65 - (wrap64 ((wrap64 (Int.tmod a0 65)) + (Int.tmod (wrap64 (a1)) (wrap64 (65 - (wrap64 (Int.tmod a0 65)))))))))))) 0 (wrap64 (Int.tmod a0 65))))) else (none))) = some true := h
  clear h
  replace H := Option.bind_eq_some_iff.mp H
  obtain ⟨t137, A40, H⟩ := H
  replace H : (if t137 = true then (if (wrap64 (65 - (wrap64 (Int.tmod a0 65)))) = 0 then (none) else (if (wrap64 (65 - (wrap64 ((wrap64 (Int.tmod a0 65)) + (Int.tmod (wrap64 (a1)) (wrap64 (65 - (wrap64 (Int.tmod a0 65))))))))) = 0 then (none) else (withelaw1_BitsRanges.l0 k (wrap64 (Int.tmod a0 65)) (wrap64 ((wrap64 (Int.tmod a0 65)) + (Int.tmod (wrap64 (a1)) (wrap64 (65 - (wrap64 (Int.tmod a0 65))))))) (wrap64 ((wrap64 ((wrap64 (Int.tmod a0 65)) + (Int.tmod (wrap64 (a1)) (wrap64 (65 - (wrap64 (Int.tmod a0 65))))))) + (Int.tmod (wrap64 (a2)) (wrap64 (65 - (wrap64 ((wrap64 (Int.tmod a0 65)) + (Int.tmod (wrap64 (a1)) (wrap64 (65 - (wrap64 (Int.tmod a0 65)))))))))))) 0 (wrap64 (Int.tmod a0 65))))) else (none)) = some true := H
  have A4 := Aside0.mk A40
  clear A40
  by_cases c5 : t137 = true
  · subst c5
    have H1 : (if (wrap64 (65 - (wrap64 (Int.tmod a0 65)))) = 0 then (none) else (if (wrap64 (65 - (wrap64 ((wrap64 (Int.tmod a0 65)) + (Int.tmod (wrap64 (a1)) (wrap64 (65 - (wrap64 (Int.tmod a0 65))))))))) = 0 then (none) else (withelaw1_BitsRanges.l0 k (wrap64 (Int.tmod a0 65)) (wrap64 ((wrap64 (Int.tmod a0 65)) + (Int.tmod (wrap64 (a1)) (wrap64 (65 - (wrap64 (Int.tmod a0 65))))))) (wrap64 ((wrap64 ((wrap64 (Int.tmod a0 65)) + (Int.tmod (wrap64 (a1)) (wrap64 (65 - (wrap64 (Int.tmod a0 65))))))) + (Int.tmod (wrap64 (a2)) (wrap64 (65 - (wrap64 ((wrap64 (Int.tmod a0 65)) + (Int.tmod (wrap64 (a1)) (wrap64 (65 - (wrap64 (Int.tmod a0 65)))))))))))) 0 (wrap64 (Int.tmod a0 65))))) = some true := by rw [if_pos rfl] at H; exact H
    clear H
    have H := H1
    clear H1
    by_cases c6 : (wrap64 (65 - (wrap64 (Int.tmod a0 65)))) = 0
    · rw [if_pos c6] at H
      exact absurd H (by simp)
    · rw [if_neg c6] at H
      have c6b0 : ((wrap64 (65 - (wrap64 (Int.tmod a0 65)))) == 0) = false := beq_eq_false_iff_ne.mpr c6
      have c6b1 : ((wrap64 (65 - (wrap64 (Int.tmod a0 65)))) != 0) = true := bne_iff_ne.mpr c6
      by_cases c7 : (wrap64 (65 - (wrap64 ((wrap64 (Int.tmod a0 65)) + (Int.tmod (wrap64 (a1)) (wrap64 (65 - (wrap64 (Int.tmod a0 65))))))))) = 0
      · rw [if_pos c7] at H
        exact absurd H (by simp)
      · rw [if_neg c7] at H
        have c7b0 : ((wrap64 (65 - (wrap64 ((wrap64 (Int.tmod a0 65)) + (Int.tmod (wrap64 (a1)) (wrap64 (65 - (wrap64 (Int.tmod a0 65))))))))) == 0) = false := beq_eq_false_iff_ne.mpr c7
        have c7b1 : ((wrap64 (65 - (wrap64 ((wrap64 (Int.tmod a0 65)) + (Int.tmod (wrap64 (a1)) (wrap64 (65 - (wrap64 (Int.tmod a0 65))))))))) != 0) = true := bne_iff_ne.mpr c7
        have H' := Aside0.mk H
        clear H
        go_enter Tryd.func6, Tryd.ntmps6
        go_wp2_with (first | ((with_reducible refine gate_callee (f := 8) rfl ?_); refine goesL_ (some 12) rfl rfl Tryd.func8 (by kernel_rfl) rfl #[] rfl (by (try simp only [List.map_toArray, List.map_cons, List.map_nil]); first | done | rfl | (simp only [List.length_drop, List.length_take]; rfl)) ?_; (with_reducible refine (withelaw1_begun.calls k  true _ (by first | exact hTab | (repeat (first | exact hTab | exact TabW.below hTab HB.out | (with_reducible apply TabW.drewN) | (with_reducible apply TabW.drew) | (with_reducible apply TabW.alloc)))) A4.out).mono ?_); rintro e w8 ⟨rfl, hb⟩; refine ⟨_, rfl, ?_⟩; have n0_ := Aside0.mk (below_step (by repeat (first | (with_reducible first | exact HB.out | apply below_alloc | apply pw_below_drewN | apply below_drew1) | exact HB.out)) hb); clear HB; have HB := n0_; clear n0_; (try clear hb); (try clear hb2); (try clear hk); (try clear hi)) | (go_at_call 8; (with_reducible refine (withelaw1_begun.calls k  true _ (by first | exact hTab | (repeat (first | exact hTab | exact TabW.below hTab HB.out | (with_reducible apply TabW.drewN) | (with_reducible apply TabW.drew) | (with_reducible apply TabW.alloc)))) A4.out).mono ?_); rintro e w8 ⟨rfl, hb⟩; have n0_ := Aside0.mk (below_step (by repeat (first | (with_reducible first | exact HB.out | apply below_alloc | apply pw_below_drewN | apply below_drew1) | exact HB.out)) hb); clear HB; have HB := n0_; clear n0_; (try clear hb); (try clear hb2); (try clear hk); (try clear hi)))
        go_loopg [10, 11] k (fun kq v10 v11 w' => ∃ (x10_1 : Int) (x11_1 : Int), v10 = .int .u64 x10_1 ∧ v11 = .int .i64 x11_1 ∧ Aside0 (withelaw1_BitsRanges.l0 kq (wrap64 (Int.tmod a0 65)) (wrap64 ((wrap64 (Int.tmod a0 65)) + (Int.tmod (wrap64 (a1)) (wrap64 (65 - (wrap64 (Int.tmod a0 65))))))) (wrap64 ((wrap64 ((wrap64 (Int.tmod a0 65)) + (Int.tmod (wrap64 (a1)) (wrap64 (65 - (wrap64 (Int.tmod a0 65))))))) + (Int.tmod (wrap64 (a2)) (wrap64 (65 - (wrap64 ((wrap64 (Int.tmod a0 65)) + (Int.tmod (wrap64 (a1)) (wrap64 (65 - (wrap64 (Int.tmod a0 65)))))))))))) x10_1 x11_1 = some true) ∧ Aside0 (kq ≤ k) ∧ Aside0 (Below w.heap.size w w'))
        case atStart => exact ⟨(0), (wrap64 (Int.tmod a0 65)), (by first | rfl | (simp; done) | (simp [*]; done)), (by first | rfl | (simp; done) | (simp [*]; done)), H', ⟨Nat.le_refl _⟩, ⟨by repeat (first | (with_reducible first | exact HB.out | apply below_alloc | apply pw_below_drewN | apply below_drew1) | exact HB.out)⟩⟩
        case round =>
          clear H'
          try clear p2
          try clear c5
          try clear c6
          try clear c6b0
          try clear c6b1
          try clear p6
          try clear c7
          try clear c7b0
          try clear c7b1
          try clear c8
          obtain ⟨x10_1, x11_1, rfl, rfl, HA, HK1, HB⟩ := hrel
          cases gk with
          | zero => exact absurd HA.out (by simp [withelaw1_BitsRanges.l0])
          | succ k1 =>
            have H := HA.out
            clear HA
            simp only [withelaw1_BitsRanges.l0] at H
            by_cases c9 : x11_1 < (wrap64 ((wrap64 ((wrap64 (Int.tmod a0 65)) + (Int.tmod (wrap64 (a1)) (wrap64 (65 - (wrap64 (Int.tmod a0 65))))))) + (Int.tmod (wrap64 (a2)) (wrap64 (65 - (wrap64 ((wrap64 (Int.tmod a0 65)) + (Int.tmod (wrap64 (a1)) (wrap64 (65 - (wrap64 (Int.tmod a0 65))))))))))))
            · rw [if_pos c9] at H
              have c9b0 : decide (x11_1 < (wrap64 ((wrap64 ((wrap64 (Int.tmod a0 65)) + (Int.tmod (wrap64 (a1)) (wrap64 (65 - (wrap64 (Int.tmod a0 65))))))) + (Int.tmod (wrap64 (a2)) (wrap64 (65 - (wrap64 ((wrap64 (Int.tmod a0 65)) + (Int.tmod (wrap64 (a1)) (wrap64 (65 - (wrap64 (Int.tmod a0 65))))))))))))) = true := decide_eq_true c9
              clear c9
              replace H := Option.bind_eq_some_iff.mp H
              obtain ⟨t138, A100, H⟩ := H
              replace H : (withelaw1_BitsRanges.l0 k1 (wrap64 (Int.tmod a0 65)) (wrap64 ((wrap64 (Int.tmod a0 65)) + (Int.tmod (wrap64 (a1)) (wrap64 (65 - (wrap64 (Int.tmod a0 65))))))) (wrap64 ((wrap64 ((wrap64 (Int.tmod a0 65)) + (Int.tmod (wrap64 (a1)) (wrap64 (65 - (wrap64 (Int.tmod a0 65))))))) + (Int.tmod (wrap64 (a2)) (wrap64 (65 - (wrap64 ((wrap64 (Int.tmod a0 65)) + (Int.tmod (wrap64 (a1)) (wrap64 (65 - (wrap64 (Int.tmod a0 65)))))))))))) t138 (wrap64 (x11_1 + 1))) = some true := H
              have A10 := Aside0.mk A100
              clear A100
              have H' := Aside0.mk H
              clear H
              go_wp2_with (first | ((with_reducible refine gate_callee (f := 18) rfl ?_); refine goesL_ (some 39) rfl rfl Tryd.func18 (by kernel_rfl) rfl #[.int .u64 x10_1, .int .i64 x11_1] rfl (by (try simp only [List.map_toArray, List.map_cons, List.map_nil]); first | done | rfl | (simp only [List.length_drop, List.length_take]; rfl)) ?_; (with_reducible refine (bits_Put.calls x10_1 x11_1 t138 _ A10.out).mono ?_); rintro e w' ⟨rfl, ⟨nd, rfl⟩⟩; refine ⟨_, rfl, ?_⟩) | (go_at_call 18; (with_reducible refine (bits_Put.calls x10_1 x11_1 t138 _ A10.out).mono ?_); rintro e w' ⟨rfl, ⟨nd, rfl⟩⟩))
              go_roundg k1
              case measure => have := HK1.out; omega
              case rel => exact ⟨(t138), (wrap64 (x11_1 + 1)), (by first | rfl | (simp; done) | (simp [*]; done)), (by first | rfl | (simp; done) | (simp [*]; done)), H', ⟨by have := HK1.out; omega⟩, ⟨by repeat (first | (with_reducible first | exact HB.out | apply below_alloc | apply pw_below_drewN | apply below_drew1) | exact HB.out)⟩⟩
            · rw [if_neg c9] at H
              have c9b0 : decide (x11_1 < (wrap64 ((wrap64 ((wrap64 (Int.tmod a0 65)) + (Int.tmod (wrap64 (a1)) (wrap64 (65 - (wrap64 (Int.tmod a0 65))))))) + (Int.tmod (wrap64 (a2)) (wrap64 (65 - (wrap64 ((wrap64 (Int.tmod a0 65)) + (Int.tmod (wrap64 (a1)) (wrap64 (65 - (wrap64 (Int.tmod a0 65))))))))))))) = false := decide_eq_false c9
              clear c9
              replace H := Option.bind_eq_some_iff.mp H
              obtain ⟨t139, A110, H⟩ := H
              replace H : (if t139 = x10_1 then ((bits_Range.f k1 (wrap64 (Int.tmod a0 65)) (wrap64 ((wrap64 (Int.tmod a0 65)) + (Int.tmod (wrap64 (a1)) (wrap64 (65 - (wrap64 (Int.tmod a0 65)))))))).bind fun t140 => ((bits_Range.f k1 (wrap64 ((wrap64 (Int.tmod a0 65)) + (Int.tmod (wrap64 (a1)) (wrap64 (65 - (wrap64 (Int.tmod a0 65))))))) (wrap64 ((wrap64 ((wrap64 (Int.tmod a0 65)) + (Int.tmod (wrap64 (a1)) (wrap64 (65 - (wrap64 (Int.tmod a0 65))))))) + (Int.tmod (wrap64 (a2)) (wrap64 (65 - (wrap64 ((wrap64 (Int.tmod a0 65)) + (Int.tmod (wrap64 (a1)) (wrap64 (65 - (wrap64 (Int.tmod a0 65))))))))))))).bind fun t141 => (if (Go.bits .or .u64 t140 t141) = x10_1 then ((bits_Range.f k1 (wrap64 (Int.tmod a0 65)) (wrap64 ((wrap64 (Int.tmod a0 65)) + (Int.tmod (wrap64 (a1)) (wrap64 (65 - (wrap64 (Int.tmod a0 65)))))))).bind fun t142 => ((bits_Range.f k1 (wrap64 ((wrap64 (Int.tmod a0 65)) + (Int.tmod (wrap64 (a1)) (wrap64 (65 - (wrap64 (Int.tmod a0 65))))))) (wrap64 ((wrap64 ((wrap64 (Int.tmod a0 65)) + (Int.tmod (wrap64 (a1)) (wrap64 (65 - (wrap64 (Int.tmod a0 65))))))) + (Int.tmod (wrap64 (a2)) (wrap64 (65 - (wrap64 ((wrap64 (Int.tmod a0 65)) + (Int.tmod (wrap64 (a1)) (wrap64 (65 - (wrap64 (Int.tmod a0 65))))))))))))).bind fun t143 => (if (Go.bits .and .u64 t142 t143) = 0 then ((bits_Count.f x10_1).bind fun t144 => (if t144 = (wrap64 ((wrap64 ((wrap64 ((wrap64 (Int.tmod a0 65)) + (Int.tmod (wrap64 (a1)) (wrap64 (65 - (wrap64 (Int.tmod a0 65))))))) + (Int.tmod (wrap64 (a2)) (wrap64 (65 - (wrap64 ((wrap64 (Int.tmod a0 65)) + (Int.tmod (wrap64 (a1)) (wrap64 (65 - (wrap64 (Int.tmod a0 65)))))))))))) - (wrap64 (Int.tmod a0 65)))) then ((bits_Range.f k1 (wrap64 ((wrap64 ((wrap64 (Int.tmod a0 65)) + (Int.tmod (wrap64 (a1)) (wrap64 (65 - (wrap64 (Int.tmod a0 65))))))) + (Int.tmod (wrap64 (a2)) (wrap64 (65 - (wrap64 ((wrap64 (Int.tmod a0 65)) + (Int.tmod (wrap64 (a1)) (wrap64 (65 - (wrap64 (Int.tmod a0 65)))))))))))) (wrap64 (Int.tmod a0 65))).bind fun t145 => (some (t145 == 0))) else (none))) else (none)))) else (none)))) else (none)) = some true := H
              have A11 := Aside0.mk A110
              clear A110
              by_cases c12 : t139 = x10_1
              · rw [if_pos c12] at H
                have c12b0 : (t139 == x10_1) = true := beq_iff_eq.mpr c12
                have c12b1 : (t139 != x10_1) = false := bne_eq_false_iff_eq.mpr c12
                clear c12
                replace H := Option.bind_eq_some_iff.mp H
                obtain ⟨t140, A130, H⟩ := H
                replace H : ((bits_Range.f k1 (wrap64 ((wrap64 (Int.tmod a0 65)) + (Int.tmod (wrap64 (a1)) (wrap64 (65 - (wrap64 (Int.tmod a0 65))))))) (wrap64 ((wrap64 ((wrap64 (Int.tmod a0 65)) + (Int.tmod (wrap64 (a1)) (wrap64 (65 - (wrap64 (Int.tmod a0 65))))))) + (Int.tmod (wrap64 (a2)) (wrap64 (65 - (wrap64 ((wrap64 (Int.tmod a0 65)) + (Int.tmod (wrap64 (a1)) (wrap64 (65 - (wrap64 (Int.tmod a0 65))))))))))))).bind fun t141 => (if (Go.bits .or .u64 t140 t141) = x10_1 then ((bits_Range.f k1 (wrap64 (Int.tmod a0 65)) (wrap64 ((wrap64 (Int.tmod a0 65)) + (Int.tmod (wrap64 (a1)) (wrap64 (65 - (wrap64 (Int.tmod a0 65)))))))).bind fun t142 => ((bits_Range.f k1 (wrap64 ((wrap64 (Int.tmod a0 65)) + (Int.tmod (wrap64 (a1)) (wrap64 (65 - (wrap64 (Int.tmod a0 65))))))) (wrap64 ((wrap64 ((wrap64 (Int.tmod a0 65)) + (Int.tmod (wrap64 (a1)) (wrap64 (65 - (wrap64 (Int.tmod a0 65))))))) + (Int.tmod (wrap64 (a2)) (wrap64 (65 - (wrap64 ((wrap64 (Int.tmod a0 65)) + (Int.tmod (wrap64 (a1)) (wrap64 (65 - (wrap64 (Int.tmod a0 65))))))))))))).bind fun t143 => (if (Go.bits .and .u64 t142 t143) = 0 then ((bits_Count.f x10_1).bind fun t144 => (if t144 = (wrap64 ((wrap64 ((wrap64 ((wrap64 (Int.tmod a0 65)) + (Int.tmod (wrap64 (a1)) (wrap64 (65 - (wrap64 (Int.tmod a0 65))))))) + (Int.tmod (wrap64 (a2)) (wrap64 (65 - (wrap64 ((wrap64 (Int.tmod a0 65)) + (Int.tmod (wrap64 (a1)) (wrap64 (65 - (wrap64 (Int.tmod a0 65)))))))))))) - (wrap64 (Int.tmod a0 65)))) then ((bits_Range.f k1 (wrap64 ((wrap64 ((wrap64 (Int.tmod a0 65)) + (Int.tmod (wrap64 (a1)) (wrap64 (65 - (wrap64 (Int.tmod a0 65))))))) + (Int.tmod (wrap64 (a2)) (wrap64 (65 - (wrap64 ((wrap64 (Int.tmod a0 65)) + (Int.tmod (wrap64 (a1)) (wrap64 (65 - (wrap64 (Int.tmod a0 65)))))))))))) (wrap64 (Int.tmod a0 65))).bind fun t145 => (some (t145 == 0))) else (none))) else (none)))) else (none))) = some true := H
                have A13 := Aside0.mk A130
                clear A130
                replace H := Option.bind_eq_some_iff.mp H
                obtain ⟨t141, A140, H⟩ := H
                replace H : (if (Go.bits .or .u64 t140 t141) = x10_1 then ((bits_Range.f k1 (wrap64 (Int.tmod a0 65)) (wrap64 ((wrap64 (Int.tmod a0 65)) + (Int.tmod (wrap64 (a1)) (wrap64 (65 - (wrap64 (Int.tmod a0 65)))))))).bind fun t142 => ((bits_Range.f k1 (wrap64 ((wrap64 (Int.tmod a0 65)) + (Int.tmod (wrap64 (a1)) (wrap64 (65 - (wrap64 (Int.tmod a0 65))))))) (wrap64 ((wrap64 ((wrap64 (Int.tmod a0 65)) + (Int.tmod (wrap64 (a1)) (wrap64 (65 - (wrap64 (Int.tmod a0 65))))))) + (Int.tmod (wrap64 (a2)) (wrap64 (65 - (wrap64 ((wrap64 (Int.tmod a0 65)) + (Int.tmod (wrap64 (a1)) (wrap64 (65 - (wrap64 (Int.tmod a0 65))))))))))))).bind fun t143 => (if (Go.bits .and .u64 t142 t143) = 0 then ((bits_Count.f x10_1).bind fun t144 => (if t144 = (wrap64 ((wrap64 ((wrap64 ((wrap64 (Int.tmod a0 65)) + (Int.tmod (wrap64 (a1)) (wrap64 (65 - (wrap64 (Int.tmod a0 65))))))) + (Int.tmod (wrap64 (a2)) (wrap64 (65 - (wrap64 ((wrap64 (Int.tmod a0 65)) + (Int.tmod (wrap64 (a1)) (wrap64 (65 - (wrap64 (Int.tmod a0 65)))))))))))) - (wrap64 (Int.tmod a0 65)))) then ((bits_Range.f k1 (wrap64 ((wrap64 ((wrap64 (Int.tmod a0 65)) + (Int.tmod (wrap64 (a1)) (wrap64 (65 - (wrap64 (Int.tmod a0 65))))))) + (Int.tmod (wrap64 (a2)) (wrap64 (65 - (wrap64 ((wrap64 (Int.tmod a0 65)) + (Int.tmod (wrap64 (a1)) (wrap64 (65 - (wrap64 (Int.tmod a0 65)))))))))))) (wrap64 (Int.tmod a0 65))).bind fun t145 => (some (t145 == 0))) else (none))) else (none)))) else (none)) = some true := H
                have A14 := Aside0.mk A140
                clear A140
                by_cases c15 : (Go.bits .or .u64 t140 t141) = x10_1
                · rw [if_pos c15] at H
                  have c15b0 : ((Go.bits .or .u64 t140 t141) == x10_1) = true := beq_iff_eq.mpr c15
                  have c15b1 : ((Go.bits .or .u64 t140 t141) != x10_1) = false := bne_eq_false_iff_eq.mpr c15
                  clear c15
                  replace H := Option.bind_eq_some_iff.mp H
                  obtain ⟨t142, A160, H⟩ := H
                  have EA160 : t142 = t140 := Option.some.inj (A160.symm.trans A13.out)
                  clear A160; subst t142; have A160 := A13.out
                  replace H : ((bits_Range.f k1 (wrap64 ((wrap64 (Int.tmod a0 65)) + (Int.tmod (wrap64 (a1)) (wrap64 (65 - (wrap64 (Int.tmod a0 65))))))) (wrap64 ((wrap64 ((wrap64 (Int.tmod a0 65)) + (Int.tmod (wrap64 (a1)) (wrap64 (65 - (wrap64 (Int.tmod a0 65))))))) + (Int.tmod (wrap64 (a2)) (wrap64 (65 - (wrap64 ((wrap64 (Int.tmod a0 65)) + (Int.tmod (wrap64 (a1)) (wrap64 (65 - (wrap64 (Int.tmod a0 65))))))))))))).bind fun t143 => (if (Go.bits .and .u64 t140 t143) = 0 then ((bits_Count.f x10_1).bind fun t144 => (if t144 = (wrap64 ((wrap64 ((wrap64 ((wrap64 (Int.tmod a0 65)) + (Int.tmod (wrap64 (a1)) (wrap64 (65 - (wrap64 (Int.tmod a0 65))))))) + (Int.tmod (wrap64 (a2)) (wrap64 (65 - (wrap64 ((wrap64 (Int.tmod a0 65)) + (Int.tmod (wrap64 (a1)) (wrap64 (65 - (wrap64 (Int.tmod a0 65)))))))))))) - (wrap64 (Int.tmod a0 65)))) then ((bits_Range.f k1 (wrap64 ((wrap64 ((wrap64 (Int.tmod a0 65)) + (Int.tmod (wrap64 (a1)) (wrap64 (65 - (wrap64 (Int.tmod a0 65))))))) + (Int.tmod (wrap64 (a2)) (wrap64 (65 - (wrap64 ((wrap64 (Int.tmod a0 65)) + (Int.tmod (wrap64 (a1)) (wrap64 (65 - (wrap64 (Int.tmod a0 65)))))))))))) (wrap64 (Int.tmod a0 65))).bind fun t145 => (some (t145 == 0))) else (none))) else (none))) = some true := H
                  have A16 := Aside0.mk A160
                  clear A160
                  replace H := Option.bind_eq_some_iff.mp H
                  obtain ⟨t143, A170, H⟩ := H
                  have EA170 : t143 = t141 := Option.some.inj (A170.symm.trans A14.out)
                  clear A170; subst t143; have A170 := A14.out
                  replace H : (if (Go.bits .and .u64 t140 t141) = 0 then ((bits_Count.f x10_1).bind fun t144 => (if t144 = (wrap64 ((wrap64 ((wrap64 ((wrap64 (Int.tmod a0 65)) + (Int.tmod (wrap64 (a1)) (wrap64 (65 - (wrap64 (Int.tmod a0 65))))))) + (Int.tmod (wrap64 (a2)) (wrap64 (65 - (wrap64 ((wrap64 (Int.tmod a0 65)) + (Int.tmod (wrap64 (a1)) (wrap64 (65 - (wrap64 (Int.tmod a0 65)))))))))))) - (wrap64 (Int.tmod a0 65)))) then ((bits_Range.f k1 (wrap64 ((wrap64 ((wrap64 (Int.tmod a0 65)) + (Int.tmod (wrap64 (a1)) (wrap64 (65 - (wrap64 (Int.tmod a0 65))))))) + (Int.tmod (wrap64 (a2)) (wrap64 (65 - (wrap64 ((wrap64 (Int.tmod a0 65)) + (Int.tmod (wrap64 (a1)) (wrap64 (65 - (wrap64 (Int.tmod a0 65)))))))))))) (wrap64 (Int.tmod a0 65))).bind fun t145 => (some (t145 == 0))) else (none))) else (none)) = some true := H
                  have A17 := Aside0.mk A170
                  clear A170
                  by_cases c18 : (Go.bits .and .u64 t140 t141) = 0
                  · rw [if_pos c18] at H
                    have c18b0 : ((Go.bits .and .u64 t140 t141) == 0) = true := beq_iff_eq.mpr c18
                    have c18b1 : ((Go.bits .and .u64 t140 t141) != 0) = false := bne_eq_false_iff_eq.mpr c18
                    clear c18
                    replace H := Option.bind_eq_some_iff.mp H
                    obtain ⟨t144, A190, H⟩ := H
                    replace H : (if t144 = (wrap64 ((wrap64 ((wrap64 ((wrap64 (Int.tmod a0 65)) + (Int.tmod (wrap64 (a1)) (wrap64 (65 - (wrap64 (Int.tmod a0 65))))))) + (Int.tmod (wrap64 (a2)) (wrap64 (65 - (wrap64 ((wrap64 (Int.tmod a0 65)) + (Int.tmod (wrap64 (a1)) (wrap64 (65 - (wrap64 (Int.tmod a0 65)))))))))))) - (wrap64 (Int.tmod a0 65)))) then ((bits_Range.f k1 (wrap64 ((wrap64 ((wrap64 (Int.tmod a0 65)) + (Int.tmod (wrap64 (a1)) (wrap64 (65 - (wrap64 (Int.tmod a0 65))))))) + (Int.tmod (wrap64 (a2)) (wrap64 (65 - (wrap64 ((wrap64 (Int.tmod a0 65)) + (Int.tmod (wrap64 (a1)) (wrap64 (65 - (wrap64 (Int.tmod a0 65)))))))))))) (wrap64 (Int.tmod a0 65))).bind fun t145 => (some (t145 == 0))) else (none)) = some true := H
                    have A19 := Aside0.mk A190
                    clear A190
                    by_cases c20 : t144 = (wrap64 ((wrap64 ((wrap64 ((wrap64 (Int.tmod a0 65)) + (Int.tmod (wrap64 (a1)) (wrap64 (65 - (wrap64 (Int.tmod a0 65))))))) + (Int.tmod (wrap64 (a2)) (wrap64 (65 - (wrap64 ((wrap64 (Int.tmod a0 65)) + (Int.tmod (wrap64 (a1)) (wrap64 (65 - (wrap64 (Int.tmod a0 65)))))))))))) - (wrap64 (Int.tmod a0 65))))
                    · rw [if_pos c20] at H
                      have c20b0 : (t144 == (wrap64 ((wrap64 ((wrap64 ((wrap64 (Int.tmod a0 65)) + (Int.tmod (wrap64 (a1)) (wrap64 (65 - (wrap64 (Int.tmod a0 65))))))) + (Int.tmod (wrap64 (a2)) (wrap64 (65 - (wrap64 ((wrap64 (Int.tmod a0 65)) + (Int.tmod (wrap64 (a1)) (wrap64 (65 - (wrap64 (Int.tmod a0 65)))))))))))) - (wrap64 (Int.tmod a0 65))))) = true := beq_iff_eq.mpr c20
                      have c20b1 : (t144 != (wrap64 ((wrap64 ((wrap64 ((wrap64 (Int.tmod a0 65)) + (Int.tmod (wrap64 (a1)) (wrap64 (65 - (wrap64 (Int.tmod a0 65))))))) + (Int.tmod (wrap64 (a2)) (wrap64 (65 - (wrap64 ((wrap64 (Int.tmod a0 65)) + (Int.tmod (wrap64 (a1)) (wrap64 (65 - (wrap64 (Int.tmod a0 65)))))))))))) - (wrap64 (Int.tmod a0 65))))) = false := bne_eq_false_iff_eq.mpr c20
                      clear c20
                      replace H := Option.bind_eq_some_iff.mp H
                      obtain ⟨t145, A210, H⟩ := H
                      replace H : (some (t145 == 0)) = some true := H
                      have A21 := Aside0.mk A210
                      clear A210
                      first
                        | exact absurd (Option.some.inj H) (by decide)
                        | (have HT := Option.some.inj H
                           go_wp2_with (first | ((with_reducible refine gate_callee (f := 14) rfl ?_); refine goesL_ (some 42) rfl rfl Tryd.func14 (by kernel_rfl) rfl #[.int .i64 (wrap64 (Int.tmod a0 65)), .int .i64 (wrap64 ((wrap64 ((wrap64 (Int.tmod a0 65)) + (Int.tmod (wrap64 (a1)) (wrap64 (65 - (wrap64 (Int.tmod a0 65))))))) + (Int.tmod (wrap64 (a2)) (wrap64 (65 - (wrap64 ((wrap64 (Int.tmod a0 65)) + (Int.tmod (wrap64 (a1)) (wrap64 (65 - (wrap64 (Int.tmod a0 65))))))))))))] rfl (by (try simp only [List.map_toArray, List.map_cons, List.map_nil]); first | done | rfl | (simp only [List.length_drop, List.length_take]; rfl)) ?_; (with_reducible refine (bits_Range.calls k1 (wrap64 (Int.tmod a0 65)) (wrap64 ((wrap64 ((wrap64 (Int.tmod a0 65)) + (Int.tmod (wrap64 (a1)) (wrap64 (65 - (wrap64 (Int.tmod a0 65))))))) + (Int.tmod (wrap64 (a2)) (wrap64 (65 - (wrap64 ((wrap64 (Int.tmod a0 65)) + (Int.tmod (wrap64 (a1)) (wrap64 (65 - (wrap64 (Int.tmod a0 65)))))))))))) t139 _ A11.out).mono ?_); rintro e w22 ⟨rfl, hb⟩; refine ⟨_, rfl, ?_⟩; have n0_ := Aside0.mk (below_step (by repeat (first | (with_reducible first | exact HB.out | apply below_alloc | apply pw_below_drewN | apply below_drew1) | exact HB.out)) hb); clear HB; have HB := n0_; clear n0_; (try clear hb); (try clear hb2); (try clear hk); (try clear hi)) | (go_at_call 14; (with_reducible refine (bits_Range.calls k1 (wrap64 (Int.tmod a0 65)) (wrap64 ((wrap64 ((wrap64 (Int.tmod a0 65)) + (Int.tmod (wrap64 (a1)) (wrap64 (65 - (wrap64 (Int.tmod a0 65))))))) + (Int.tmod (wrap64 (a2)) (wrap64 (65 - (wrap64 ((wrap64 (Int.tmod a0 65)) + (Int.tmod (wrap64 (a1)) (wrap64 (65 - (wrap64 (Int.tmod a0 65)))))))))))) t139 _ A11.out).mono ?_); rintro e w22 ⟨rfl, hb⟩; have n0_ := Aside0.mk (below_step (by repeat (first | (with_reducible first | exact HB.out | apply below_alloc | apply pw_below_drewN | apply below_drew1) | exact HB.out)) hb); clear HB; have HB := n0_; clear n0_; (try clear hb); (try clear hb2); (try clear hk); (try clear hi)) | (go_at_call 14; (with_reducible refine (bits_Range.calls k1 (wrap64 (Int.tmod a0 65)) (wrap64 ((wrap64 (Int.tmod a0 65)) + (Int.tmod (wrap64 (a1)) (wrap64 (65 - (wrap64 (Int.tmod a0 65))))))) t140 _ A13.out).mono ?_); rintro e w23 ⟨rfl, hb⟩; have n0_ := Aside0.mk (below_step (by repeat (first | (with_reducible first | exact HB.out | apply below_alloc | apply pw_below_drewN | apply below_drew1) | exact HB.out)) hb); clear HB; have HB := n0_; clear n0_; (try clear hb); (try clear hb2); (try clear hk); (try clear hi)) | (go_at_call 14; (with_reducible refine (bits_Range.calls k1 (wrap64 ((wrap64 (Int.tmod a0 65)) + (Int.tmod (wrap64 (a1)) (wrap64 (65 - (wrap64 (Int.tmod a0 65))))))) (wrap64 ((wrap64 ((wrap64 (Int.tmod a0 65)) + (Int.tmod (wrap64 (a1)) (wrap64 (65 - (wrap64 (Int.tmod a0 65))))))) + (Int.tmod (wrap64 (a2)) (wrap64 (65 - (wrap64 ((wrap64 (Int.tmod a0 65)) + (Int.tmod (wrap64 (a1)) (wrap64 (65 - (wrap64 (Int.tmod a0 65)))))))))))) t141 _ A14.out).mono ?_); rintro e w24 ⟨rfl, hb⟩; have n0_ := Aside0.mk (below_step (by repeat (first | (with_reducible first | exact HB.out | apply below_alloc | apply pw_below_drewN | apply below_drew1) | exact HB.out)) hb); clear HB; have HB := n0_; clear n0_; (try clear hb); (try clear hb2); (try clear hk); (try clear hi)) | (go_at_call 14; (with_reducible refine (bits_Range.calls k1 (wrap64 (Int.tmod a0 65)) (wrap64 ((wrap64 (Int.tmod a0 65)) + (Int.tmod (wrap64 (a1)) (wrap64 (65 - (wrap64 (Int.tmod a0 65))))))) t140 _ A16.out).mono ?_); rintro e w25 ⟨rfl, hb⟩; have n0_ := Aside0.mk (below_step (by repeat (first | (with_reducible first | exact HB.out | apply below_alloc | apply pw_below_drewN | apply below_drew1) | exact HB.out)) hb); clear HB; have HB := n0_; clear n0_; (try clear hb); (try clear hb2); (try clear hk); (try clear hi)) | (go_at_call 14; (with_reducible refine (bits_Range.calls k1 (wrap64 ((wrap64 (Int.tmod a0 65)) + (Int.tmod (wrap64 (a1)) (wrap64 (65 - (wrap64 (Int.tmod a0 65))))))) (wrap64 ((wrap64 ((wrap64 (Int.tmod a0 65)) + (Int.tmod (wrap64 (a1)) (wrap64 (65 - (wrap64 (Int.tmod a0 65))))))) + (Int.tmod (wrap64 (a2)) (wrap64 (65 - (wrap64 ((wrap64 (Int.tmod a0 65)) + (Int.tmod (wrap64 (a1)) (wrap64 (65 - (wrap64 (Int.tmod a0 65)))))))))))) t141 _ A17.out).mono ?_); rintro e w26 ⟨rfl, hb⟩; have n0_ := Aside0.mk (below_step (by repeat (first | (with_reducible first | exact HB.out | apply below_alloc | apply pw_below_drewN | apply below_drew1) | exact HB.out)) hb); clear HB; have HB := n0_; clear n0_; (try clear hb); (try clear hb2); (try clear hk); (try clear hi)) | (go_at_call 22; (with_reducible refine (bits_Count.calls x10_1 t144 _ A19.out).mono ?_); rintro e w' ⟨rfl, ⟨nd, rfl⟩⟩) | (go_at_call 14; (with_reducible refine (bits_Range.calls k1 (wrap64 ((wrap64 ((wrap64 (Int.tmod a0 65)) + (Int.tmod (wrap64 (a1)) (wrap64 (65 - (wrap64 (Int.tmod a0 65))))))) + (Int.tmod (wrap64 (a2)) (wrap64 (65 - (wrap64 ((wrap64 (Int.tmod a0 65)) + (Int.tmod (wrap64 (a1)) (wrap64 (65 - (wrap64 (Int.tmod a0 65)))))))))))) (wrap64 (Int.tmod a0 65)) t145 _ A21.out).mono ?_); rintro e w27 ⟨rfl, hb⟩; have n0_ := Aside0.mk (below_step (by repeat (first | (with_reducible first | exact HB.out | apply below_alloc | apply pw_below_drewN | apply below_drew1) | exact HB.out)) hb); clear HB; have HB := n0_; clear n0_; (try clear hb); (try clear hb2); (try clear hk); (try clear hi)))
                           go_ret
                           exact ⟨by first | rfl | (simp [errW_none, errW_some] <;> rfl) | (simp [*, errW_none, errW_some] <;> rfl), by repeat (first | (with_reducible first | exact HB.out | apply below_alloc | apply pw_below_drewN | apply below_drew1) | exact HB.out)⟩)
                    · rw [if_neg c20] at H
                      exact absurd H (by simp)
                  · rw [if_neg c18] at H
                    exact absurd H (by simp)
                · rw [if_neg c15] at H
                  exact absurd H (by simp)
              · rw [if_neg c12] at H
                exact absurd H (by simp)
  · replace c5 := Bool.eq_false_iff.mpr c5
    subst c5
    have H1 : (none) = some true := by rw [if_neg (show ¬ (false = true) by decide)] at H; exact H
    clear H
    have H := H1
    clear H1
    exact absurd H (by simp)

/-- THE ONE PURE STATEMENT of withelaw1_BitsRanges: yours. -/
def withelaw1_BitsRanges.Pure : Prop := ∀ (a0 : Int) (a1 : Int) (a2 : Int), (Lit.int .u8 a0).wf = true → (Lit.int .u8 a1).wf = true → (Lit.int .u8 a2).wf = true → ∃ k, withelaw1_BitsRanges.f k a0 a1 a2 = some true
theorem withelaw1_BitsRanges.walk (P : withelaw1_BitsRanges.Pure) (a0 : Int) (a1 : Int) (a2 : Int) (w : World) (hTab : TabW w) (w0 : (Lit.int .u8 a0).wf = true) (w1 : (Lit.int .u8 a1).wf = true) (w2 : (Lit.int .u8 a2).wf = true) :
    Calls Tryd.prog 6 #[.int .u8 a0, .int .u8 a1, .int .u8 a2] w fun e w' => e = .returned (.bool true) ∧ Below w.heap.size w w' := by
  obtain ⟨k, h⟩ := P a0 a1 a2 w0 w1 w2
  refine (withelaw1_BitsRanges.calls k a0 a1 a2 w hTab h).mono ?_
  rintro e w' ⟨rfl, hd⟩
  exact ⟨rfl, hd⟩

/-! ### witheref1_Has: function 17 -/
def witheref1_Has.f (a0 : Int) (a1 : Int) : Option (Bool) := if a1 < 0 then (some false) else (if a1 > 63 then (some false) else (if 0 ≤ (IntKind.u64.wrap (a1)) then (some ((Int.tmod (shr .u64 a0 (IntKind.u64.wrap (a1))) 2) == 1)) else (none)))
set_option maxHeartbeats 8000000 in
set_option maxRecDepth 100000 in
theorem witheref1_Has.calls (a0 : Int) (a1 : Int) (r : Bool) (w : World) (h : witheref1_Has.f a0 a1 = some r) :
    Calls Tryd.prog 17 #[.int .u64 a0, .int .i64 a1] w fun e w' => e = .returned (.bool r) ∧ Drawn0 w w' := by
  have H : (if a1 < 0 then (some false) else (if a1 > 63 then (some false) else (if 0 ≤ (IntKind.u64.wrap (a1)) then (some ((Int.tmod (shr .u64 a0 (IntKind.u64.wrap (a1))) 2) == 1)) else (none)))) = some r := h
  clear h
  by_cases c3 : a1 < 0
  · rw [if_pos c3] at H
    have c3b0 : decide (a1 < 0) = true := decide_eq_true c3
    clear c3
    obtain rfl := Option.some.inj H
    go_enter Tryd.func17, Tryd.ntmps17
    go_wp2
    go_ret
    exact ⟨by first | rfl | (simp; done) | (simp [*]; done), by repeat (first | exact Drawn0.refl _ | apply Drawn0.step)⟩
  · rw [if_neg c3] at H
    have c3b0 : decide (a1 < 0) = false := decide_eq_false c3
    clear c3
    by_cases c4 : a1 > 63
    · rw [if_pos c4] at H
      have c4b0 : decide (63 < a1) = true := decide_eq_true c4
      clear c4
      obtain rfl := Option.some.inj H
      go_enter Tryd.func17, Tryd.ntmps17
      go_wp2
      go_ret
      exact ⟨by first | rfl | (simp; done) | (simp [*]; done), by repeat (first | exact Drawn0.refl _ | apply Drawn0.step)⟩
    · rw [if_neg c4] at H
      have c4b0 : decide (63 < a1) = false := decide_eq_false c4
      clear c4
      obtain ⟨ji5, hji5⟩ : ∃ j_ : Int, (IntKind.u64.wrap (a1)) = j_ := ⟨_, rfl⟩
      replace H : (if 0 ≤ (ji5) then (some ((Int.tmod (shr .u64 a0 (ji5)) 2) == 1)) else (none)) = some r := by first | (rw [hji5] at H; exact H) | (simp only [hji5] at H ⊢; exact H)
      by_cases c6 : 0 ≤ (ji5)
      · rw [if_pos c6] at H
        have c6b0 := eq_true c6
        have c6b1 : decide (0 ≤ (ji5)) = true := decide_eq_true c6
        clear c6
        obtain ⟨ji7, hji7⟩ : ∃ j_ : Int, (shr .u64 a0 (ji5)) = j_ := ⟨_, rfl⟩
        replace H : (some ((Int.tmod (ji7) 2) == 1)) = some r := by first | (rw [hji7] at H; exact H) | (simp only [hji7] at H ⊢; exact H)
        have hji7_ : (a0 / 2 ^ min (ji5).toNat 64) = ji7 := hji7
        have hji7z : (ji5) ≤ 64 → (a0 / 2 ^ (ji5).toNat) = ji7 := shr_small hji7
        obtain rfl := Option.some.inj H
        go_enter Tryd.func17, Tryd.ntmps17
        go_wp2
        go_ret
        exact ⟨by first | rfl | (simp; done) | (simp only [← hji5, ← hji7] <;> (first | rfl | simp)) | (simp [*]; done), by repeat (first | exact Drawn0.refl _ | apply Drawn0.step)⟩
      · rw [if_neg c6] at H
        exact absurd H (by simp)

/-! ### witheref1_List: function 9 -/
def witheref1_List.l0 : Nat → Int → List Int → Int → Option (List Int)
  | 0, _, _, _ => none
  | k + 1, x0, x3, x4 => if x4 < 64 then ((witheref1_Has.f x0 x4).bind fun t146 => (if t146 = true then (if x3.length < 17592186044416 then (witheref1_List.l0 k x0 (x3 ++ [x4]) (wrap64 (x4 + 1))) else (none)) else (witheref1_List.l0 k x0 x3 (wrap64 (x4 + 1))))) else (some x3)
def witheref1_List.f (k : Nat) (a0 : Int) : Option (List Int) := witheref1_List.l0 k a0 ([] : List Int) 0
theorem witheref1_List.mono_l : ∀ k, (∀ y0 y1 y2, LeO (witheref1_List.l0 k y0 y1 y2) (witheref1_List.l0 (k + 1) y0 y1 y2))
  | 0 => fun _ _ _ r h => by simp [witheref1_List.l0] at h
  | k + 1 => by
    have ih0 := witheref1_List.mono_l k
    · intro y0 y1 y2
      unfold witheref1_List.l0
      repeat' first
      | (with_reducible exact ih0 _ _ _)
      | (with_reducible exact LeO.refl _)
      | (with_reducible exact LeO.none _)
      | (with_reducible refine LeO.ite ?_ ?_)
      | (with_reducible refine LeO.bind ?_ (fun _ => ?_))
      | exact ih0 _ _ _
      | exact LeO.none _
      | refine LeO.ite ?_ ?_
      | refine LeO.bind ?_ (fun _ => ?_)
theorem witheref1_List.mono : ∀ a0 k, LeO (witheref1_List.f k a0) (witheref1_List.f (k + 1) a0) := by
  intro a0 k
  have ih0 := witheref1_List.mono_l k
  unfold witheref1_List.f
  repeat' first
      | (with_reducible exact ih0 _ _ _)
      | (with_reducible exact LeO.refl _)
      | (with_reducible exact LeO.none _)
      | (with_reducible refine LeO.ite ?_ ?_)
      | (with_reducible refine LeO.bind ?_ (fun _ => ?_))
      | exact ih0 _ _ _
      | exact LeO.none _
      | refine LeO.ite ?_ ?_
      | refine LeO.bind ?_ (fun _ => ?_)
set_option maxHeartbeats 8000000 in
set_option maxRecDepth 100000 in
theorem witheref1_List.calls (k : Nat) (a0 : Int) (r : List Int) (w : World) (h : witheref1_List.f k a0 = some r) :
    Calls Tryd.prog 9 #[.int .u64 a0] w fun e w' => ∃ v0_ : Value, e = .returned (v0_) ∧ Kd.R (Kd.int .i64) 3 w' w.heap.size (fun _ => True) v0_ r ∧ Below w.heap.size w w' := by
  have HB := Aside0.mk (Below.refl w.heap.size w)
  have H : (witheref1_List.l0 k a0 ([] : List Int) 0) = some r := h
  clear h
  have H' := Aside0.mk H
  clear H
  go_enter Tryd.func9, Tryd.ntmps9
  go_wp2
  go_loopg [3, 4] k (fun kq v3 v4 w' => ∃ (x3_1 : List Int) (x4_1 : Int), v4 = .int .i64 x4_1 ∧ Aside0 (witheref1_List.l0 kq a0 x3_1 x4_1 = some r) ∧ Aside0 (kq ≤ k) ∧ Aside0 (Kd.R (Kd.int .i64) 3 w' w.heap.size (fun _ => True) v3 x3_1) ∧ Aside0 (Below w.heap.size w w'))
  case atStart => exact ⟨(([] : List Int)), (0), (by first | rfl | (simp; done) | (simp [*]; done)), H', ⟨Nat.le_refl _⟩, ⟨by first | exact Kd.R_nil _ _ _ _ _ | exact Kd.N_nil _ _ _ _ _ | exact Kd.V_nil _ _ _ _ _ | exact Kd.Q_nil _ _ _ _ _ | exact Kd.S_nil _ _ _ _ _⟩, ⟨by repeat (first | (with_reducible first | exact HB.out | apply below_alloc | apply pw_below_drewN | apply below_drew1) | exact HB.out)⟩⟩
  case round =>
    clear H'
    obtain ⟨x3_1, x4_1, rfl, HA, HK1, HO_3, HB⟩ := hrel
    cases gk with
    | zero => exact absurd HA.out (by simp [witheref1_List.l0])
    | succ k1 =>
      have H := HA.out
      clear HA
      simp only [witheref1_List.l0] at H
      by_cases c2 : x4_1 < 64
      · rw [if_pos c2] at H
        have c2b0 : decide (x4_1 < 64) = true := decide_eq_true c2
        clear c2
        replace H := Option.bind_eq_some_iff.mp H
        obtain ⟨t146, A30, H⟩ := H
        replace H : (if t146 = true then (if x3_1.length < 17592186044416 then (witheref1_List.l0 k1 a0 (x3_1 ++ [x4_1]) (wrap64 (x4_1 + 1))) else (none)) else (witheref1_List.l0 k1 a0 x3_1 (wrap64 (x4_1 + 1)))) = some r := H
        have A3 := Aside0.mk A30
        clear A30
        by_cases c4 : t146 = true
        · subst c4
          have H1 : (if x3_1.length < 17592186044416 then (witheref1_List.l0 k1 a0 (x3_1 ++ [x4_1]) (wrap64 (x4_1 + 1))) else (none)) = some r := by rw [if_pos rfl] at H; exact H
          clear H
          have H := H1
          clear H1
          by_cases c5 : x3_1.length < 17592186044416
          · rw [if_pos c5] at H
            have LMc5 := Aside0.mk c5
            clear c5
            obtain ⟨y147, hy147⟩ : ∃ y_ : List Int, y_ = (x3_1 ++ [x4_1]) := ⟨_, rfl⟩
            replace H : (witheref1_List.l0 k1 a0 y147 (wrap64 (x4_1 + 1))) = some r := by first | (rw [hy147]; with_reducible exact H) | (have H2_ := (Option.bind_some _ _).symm.trans H; rw [hy147]; with_reducible exact H2_) | (have H2_ := (Option.bind_some _ _).symm.trans H; with_reducible exact H2_) | with_reducible exact H | (rw [hy147]; exact H) | exact H
            have Ny147 := Aside0.mk hy147
            clear hy147
            have H' := Aside0.mk H
            clear H
            go_wp2_with (first | ((with_reducible refine gate_callee (f := 17) rfl ?_); refine goesL_ (some 11) rfl rfl Tryd.func17 (by kernel_rfl) rfl #[.int .u64 a0, .int .i64 x4_1] rfl (by (try simp only [List.map_toArray, List.map_cons, List.map_nil]); first | done | rfl | (simp only [List.length_drop, List.length_take]; rfl)) ?_; (with_reducible refine (witheref1_Has.calls a0 x4_1 true _ A3.out).mono ?_); rintro e w' ⟨rfl, ⟨nd, rfl⟩⟩; refine ⟨_, rfl, ?_⟩) | ((with_reducible refine gate_builtin (b := .append) (xs := #[.tmp 12, .tmp 14]) rfl ?_); at_builtin; refine Kd.R_append (Kd.int .i64) (w0 := w) w.heap.size rfl (.tmp 12) (.tmp 14) 23 3 (.int .i64 0) 8 rfl Tryd.underlying23 info3 rfl (by decide) (by omega) u3 x3_1 x4_1 [.int .i64 x4_1] (fun _ => True) (fun _ => False) rfl rfl ?aP (fun _ hk => hk.elim) ?aF ?aO ?aB ?aS ?aL ?_; (case aP => exact rfl); (case aB => exact (by repeat (first | (with_reducible first | exact HB.out | apply below_alloc | apply pw_below_drewN | apply below_drew1) | exact HB.out))); (case aF => exact (fun _ _ => trivial)); (case aO => exact (by (with_reducible repeat (first | apply Kd.R_alloc | apply Kd.R_drewN | apply Kd.R_drew)); exact HO_3.out)); (case aS => exact (below_size (by repeat (first | (with_reducible first | exact HB.out | apply below_alloc | apply pw_below_drewN | apply below_drew1) | exact HB.out)))); (case aL => have := LMc5.out; omega); intro v148 w6 ho hb hg hat; rw [← Ny147.out] at ho; have n0_ := Aside0.mk (hb); have n1_ := Aside0.mk (ho); clear HB; clear HO_3; have HB := n0_; have HO149 := n1_; clear n0_ n1_; clear ho hb hg hat))
            go_roundg k1
            case measure => have := HK1.out; omega
            case rel => exact ⟨(y147), (wrap64 (x4_1 + 1)), (by first | rfl | (simp; done) | (simp [*]; done)), H', ⟨by have := HK1.out; omega⟩, ⟨by (with_reducible repeat (first | apply Kd.R_alloc | apply Kd.R_drewN | apply Kd.R_drew)); exact HO149.out⟩, ⟨by repeat (first | (with_reducible first | exact HB.out | apply below_alloc | apply pw_below_drewN | apply below_drew1) | exact HB.out)⟩⟩
          · rw [if_neg c5] at H
            exact absurd H (by simp)
        · replace c4 := Bool.eq_false_iff.mpr c4
          subst c4
          have H1 : (witheref1_List.l0 k1 a0 x3_1 (wrap64 (x4_1 + 1))) = some r := by rw [if_neg (show ¬ (false = true) by decide)] at H; exact H
          clear H
          have H := H1
          clear H1
          have H' := Aside0.mk H
          clear H
          go_wp2_with (first | ((with_reducible refine gate_callee (f := 17) rfl ?_); refine goesL_ (some 11) rfl rfl Tryd.func17 (by kernel_rfl) rfl #[.int .u64 a0, .int .i64 x4_1] rfl (by (try simp only [List.map_toArray, List.map_cons, List.map_nil]); first | done | rfl | (simp only [List.length_drop, List.length_take]; rfl)) ?_; (with_reducible refine (witheref1_Has.calls a0 x4_1 false _ A3.out).mono ?_); rintro e w' ⟨rfl, ⟨nd, rfl⟩⟩; refine ⟨_, rfl, ?_⟩))
          go_roundg k1
          case measure => have := HK1.out; omega
          case rel => exact ⟨(x3_1), (wrap64 (x4_1 + 1)), (by first | rfl | (simp; done) | (simp [*]; done)), H', ⟨by have := HK1.out; omega⟩, ⟨by (with_reducible repeat (first | apply Kd.R_alloc | apply Kd.R_drewN | apply Kd.R_drew)); exact HO_3.out⟩, ⟨by repeat (first | (with_reducible first | exact HB.out | apply below_alloc | apply pw_below_drewN | apply below_drew1) | exact HB.out)⟩⟩
      · rw [if_neg c2] at H
        have c2b0 : decide (x4_1 < 64) = false := decide_eq_false c2
        clear c2
        obtain rfl := Option.some.inj H
        go_wp2
        go_ret
        exact ⟨_, by first | rfl | (simp [errW_none, errW_some] <;> rfl) | (simp [*, errW_none, errW_some] <;> rfl), by (with_reducible repeat (first | apply Kd.R_alloc | apply Kd.R_drewN | apply Kd.R_drew)); exact HO_3.out, by repeat (first | (with_reducible first | exact HB.out | apply below_alloc | apply pw_below_drewN | apply below_drew1) | exact HB.out)⟩

/-! ### witheref1_Power: function 30 -/
def witheref1_Power.l0 : Nat → Int → Int → Int → Option (Int)
  | 0, _, _, _ => none
  | k + 1, x0, x3, x4 => if x4 < x0 then (witheref1_Power.l0 k x0 (IntKind.u64.wrap (x3 + x3)) (wrap64 (x4 + 1))) else (some x3)
def witheref1_Power.f (k : Nat) (a0 : Int) : Option (Int) := witheref1_Power.l0 k a0 1 0
theorem witheref1_Power.mono_l : ∀ k, (∀ y0 y1 y2, LeO (witheref1_Power.l0 k y0 y1 y2) (witheref1_Power.l0 (k + 1) y0 y1 y2))
  | 0 => fun _ _ _ r h => by simp [witheref1_Power.l0] at h
  | k + 1 => by
    have ih0 := witheref1_Power.mono_l k
    · intro y0 y1 y2
      unfold witheref1_Power.l0
      repeat' first
      | (with_reducible exact ih0 _ _ _)
      | (with_reducible exact LeO.refl _)
      | (with_reducible exact LeO.none _)
      | (with_reducible refine LeO.ite ?_ ?_)
      | (with_reducible refine LeO.bind ?_ (fun _ => ?_))
      | exact ih0 _ _ _
      | exact LeO.none _
      | refine LeO.ite ?_ ?_
      | refine LeO.bind ?_ (fun _ => ?_)
theorem witheref1_Power.mono : ∀ a0 k, LeO (witheref1_Power.f k a0) (witheref1_Power.f (k + 1) a0) := by
  intro a0 k
  have ih0 := witheref1_Power.mono_l k
  unfold witheref1_Power.f
  repeat' first
      | (with_reducible exact ih0 _ _ _)
      | (with_reducible exact LeO.refl _)
      | (with_reducible exact LeO.none _)
      | (with_reducible refine LeO.ite ?_ ?_)
      | (with_reducible refine LeO.bind ?_ (fun _ => ?_))
      | exact ih0 _ _ _
      | exact LeO.none _
      | refine LeO.ite ?_ ?_
      | refine LeO.bind ?_ (fun _ => ?_)
set_option maxHeartbeats 8000000 in
set_option maxRecDepth 100000 in
theorem witheref1_Power.calls (k : Nat) (a0 : Int) (r : Int) (w : World) (h : witheref1_Power.f k a0 = some r) :
    Calls Tryd.prog 30 #[.int .i64 a0] w fun e w' => e = .returned (.int .u64 r) ∧ Drawn0 w w' := by
  have H : (witheref1_Power.l0 k a0 1 0) = some r := h
  clear h
  have H' := Aside0.mk H
  clear H
  go_enter Tryd.func30, Tryd.ntmps30
  go_wp2
  go_loopg [3, 4] k (fun kq v3 v4 w' => ∃ (x3_1 : Int) (x4_1 : Int), v3 = .int .u64 x3_1 ∧ v4 = .int .i64 x4_1 ∧ Aside0 (witheref1_Power.l0 kq a0 x3_1 x4_1 = some r) ∧ Aside0 (kq ≤ k) ∧ Drawn0 w w')
  case atStart => exact ⟨(1), (0), (by first | rfl | (simp; done) | (simp [*]; done)), (by first | rfl | (simp; done) | (simp [*]; done)), H', ⟨Nat.le_refl _⟩, by repeat (first | exact Drawn0.refl _ | apply Drawn0.step)⟩
  case round =>
    clear H'
    obtain ⟨x3_1, x4_1, rfl, rfl, HA, HK1, ⟨m1, rfl⟩⟩ := hrel
    cases gk with
    | zero => exact absurd HA.out (by simp [witheref1_Power.l0])
    | succ k1 =>
      have H := HA.out
      clear HA
      simp only [witheref1_Power.l0] at H
      by_cases c2 : x4_1 < a0
      · rw [if_pos c2] at H
        have c2b0 : decide (x4_1 < a0) = true := decide_eq_true c2
        clear c2
        have H' := Aside0.mk H
        clear H
        go_wp2
        go_roundg k1
        case measure => have := HK1.out; omega
        case rel => exact ⟨(IntKind.u64.wrap (x3_1 + x3_1)), (wrap64 (x4_1 + 1)), (by first | rfl | (simp; done) | (simp [*]; done)), (by first | rfl | (simp; done) | (simp [*]; done)), H', ⟨by have := HK1.out; omega⟩, by repeat (first | exact Drawn0.refl _ | apply Drawn0.step)⟩
      · rw [if_neg c2] at H
        have c2b0 : decide (x4_1 < a0) = false := decide_eq_false c2
        clear c2
        obtain rfl := Option.some.inj H
        go_wp2
        go_ret
        exact ⟨by first | rfl | (simp; done) | (simp [*]; done), by repeat (first | exact Drawn0.refl _ | apply Drawn0.step)⟩

/-! ### witheref1_Put: function 19 -/
def witheref1_Put.f (k : Nat) (a0 : Int) (a1 : Int) : Option (Int) := if a1 < 0 then (some a0) else (if a1 > 63 then (some a0) else ((witheref1_Has.f a0 a1).bind fun t150 => (if t150 = true then (some a0) else ((witheref1_Power.f k a1).bind fun t151 => (some (IntKind.u64.wrap (a0 + t151)))))))
theorem witheref1_Put.mono : ∀ a0 a1 k, LeO (witheref1_Put.f k a0 a1) (witheref1_Put.f (k + 1) a0 a1) := by
  intro a0 a1 k
  unfold witheref1_Put.f
  repeat' first
      | (with_reducible exact witheref1_Power.mono _ _)
      | (with_reducible exact LeO.refl _)
      | (with_reducible exact LeO.none _)
      | (with_reducible refine LeO.ite ?_ ?_)
      | (with_reducible refine LeO.bind ?_ (fun _ => ?_))
      | exact witheref1_Power.mono _ _
      | exact LeO.none _
      | refine LeO.ite ?_ ?_
      | refine LeO.bind ?_ (fun _ => ?_)
set_option maxHeartbeats 8000000 in
set_option maxRecDepth 100000 in
theorem witheref1_Put.calls (k : Nat) (a0 : Int) (a1 : Int) (r : Int) (w : World) (h : witheref1_Put.f k a0 a1 = some r) :
    Calls Tryd.prog 19 #[.int .u64 a0, .int .i64 a1] w fun e w' => e = .returned (.int .u64 r) ∧ Drawn0 w w' := by
  have H : (if a1 < 0 then (some a0) else (if a1 > 63 then (some a0) else ((witheref1_Has.f a0 a1).bind fun t150 => (if t150 = true then (some a0) else ((witheref1_Power.f k a1).bind fun t151 => (some (IntKind.u64.wrap (a0 + t151)))))))) = some r := h
  clear h
  by_cases c3 : a1 < 0
  · rw [if_pos c3] at H
    have c3b0 : decide (a1 < 0) = true := decide_eq_true c3
    clear c3
    obtain rfl := Option.some.inj H
    go_enter Tryd.func19, Tryd.ntmps19
    go_wp2
    go_ret
    exact ⟨by first | rfl | (simp; done) | (simp [*]; done), by repeat (first | exact Drawn0.refl _ | apply Drawn0.step)⟩
  · rw [if_neg c3] at H
    have c3b0 : decide (a1 < 0) = false := decide_eq_false c3
    clear c3
    by_cases c4 : a1 > 63
    · rw [if_pos c4] at H
      have c4b0 : decide (63 < a1) = true := decide_eq_true c4
      clear c4
      obtain rfl := Option.some.inj H
      go_enter Tryd.func19, Tryd.ntmps19
      go_wp2
      go_ret
      exact ⟨by first | rfl | (simp; done) | (simp [*]; done), by repeat (first | exact Drawn0.refl _ | apply Drawn0.step)⟩
    · rw [if_neg c4] at H
      have c4b0 : decide (63 < a1) = false := decide_eq_false c4
      clear c4
      replace H := Option.bind_eq_some_iff.mp H
      obtain ⟨t150, A50, H⟩ := H
      replace H : (if t150 = true then (some a0) else ((witheref1_Power.f k a1).bind fun t151 => (some (IntKind.u64.wrap (a0 + t151))))) = some r := H
      have A5 := Aside0.mk A50
      clear A50
      by_cases c6 : t150 = true
      · subst c6
        have H1 : (some a0) = some r := by rw [if_pos rfl] at H; exact H
        clear H
        have H := H1
        clear H1
        obtain rfl := Option.some.inj H
        go_enter Tryd.func19, Tryd.ntmps19
        go_wp2_with (first | (go_at_call 17; (with_reducible refine (witheref1_Has.calls a0 a1 true _ A5.out).mono ?_); rintro e w' ⟨rfl, ⟨nd, rfl⟩⟩))
        go_ret
        exact ⟨by first | rfl | (simp; done) | (simp [*]; done), by repeat (first | exact Drawn0.refl _ | apply Drawn0.step)⟩
      · replace c6 := Bool.eq_false_iff.mpr c6
        subst c6
        have H1 : ((witheref1_Power.f k a1).bind fun t151 => (some (IntKind.u64.wrap (a0 + t151)))) = some r := by rw [if_neg (show ¬ (false = true) by decide)] at H; exact H
        clear H
        have H := H1
        clear H1
        replace H := Option.bind_eq_some_iff.mp H
        obtain ⟨t151, A70, H⟩ := H
        replace H : (some (IntKind.u64.wrap (a0 + t151))) = some r := H
        have A7 := Aside0.mk A70
        clear A70
        obtain rfl := Option.some.inj H
        go_enter Tryd.func19, Tryd.ntmps19
        go_wp2_with (first | (go_at_call 17; (with_reducible refine (witheref1_Has.calls a0 a1 false _ A5.out).mono ?_); rintro e w' ⟨rfl, ⟨nd, rfl⟩⟩) | ((with_reducible refine gate_callee (f := 30) rfl ?_); refine goesL_ (some 19) rfl rfl Tryd.func30 (by kernel_rfl) rfl #[.int .i64 a1] rfl (by (try simp only [List.map_toArray, List.map_cons, List.map_nil]); first | done | rfl | (simp only [List.length_drop, List.length_take]; rfl)) ?_; (with_reducible refine (witheref1_Power.calls k a1 t151 _ A7.out).mono ?_); rintro e w' ⟨rfl, ⟨nd, rfl⟩⟩; refine ⟨_, rfl, ?_⟩))
        go_ret
        exact ⟨by first | rfl | (simp; done) | (simp [*]; done), by repeat (first | exact Drawn0.refl _ | apply Drawn0.step)⟩

/-! ### witheref1_Of: function 11 -/
def witheref1_Of.l0 : Nat → List Int → Int → Int → Option (Int)
  | 0, _, _, _ => none
  | k + 1, x0, x3, x4 => if x4 < (x0.length : Int) then (if 0 ≤ x4 then ((witheref1_Put.f k x3 (rd x0 x4)).bind fun t153 => (witheref1_Of.l0 k x0 t153 (wrap64 (x4 + 1)))) else (none)) else (some x3)
def witheref1_Of.f (k : Nat) (l0 : List Int) : Option (Int) := witheref1_Of.l0 k l0 0 0
theorem witheref1_Of.mono_l : ∀ k, (∀ y0 y1 y2, LeO (witheref1_Of.l0 k y0 y1 y2) (witheref1_Of.l0 (k + 1) y0 y1 y2))
  | 0 => fun _ _ _ r h => by simp [witheref1_Of.l0] at h
  | k + 1 => by
    have ih0 := witheref1_Of.mono_l k
    · intro y0 y1 y2
      unfold witheref1_Of.l0
      repeat' first
      | (with_reducible exact ih0 _ _ _)
      | (with_reducible exact witheref1_Put.mono _ _ _)
      | (with_reducible exact LeO.refl _)
      | (with_reducible exact LeO.none _)
      | (with_reducible refine LeO.ite ?_ ?_)
      | (with_reducible refine LeO.bind ?_ (fun _ => ?_))
      | exact ih0 _ _ _
      | exact witheref1_Put.mono _ _ _
      | exact LeO.none _
      | refine LeO.ite ?_ ?_
      | refine LeO.bind ?_ (fun _ => ?_)
theorem witheref1_Of.mono : ∀ a0 k, LeO (witheref1_Of.f k a0) (witheref1_Of.f (k + 1) a0) := by
  intro a0 k
  have ih0 := witheref1_Of.mono_l k
  unfold witheref1_Of.f
  repeat' first
      | (with_reducible exact ih0 _ _ _)
      | (with_reducible exact witheref1_Put.mono _ _ _)
      | (with_reducible exact LeO.refl _)
      | (with_reducible exact LeO.none _)
      | (with_reducible refine LeO.ite ?_ ?_)
      | (with_reducible refine LeO.bind ?_ (fun _ => ?_))
      | exact ih0 _ _ _
      | exact witheref1_Put.mono _ _ _
      | exact LeO.none _
      | refine LeO.ite ?_ ?_
      | refine LeO.bind ?_ (fun _ => ?_)
set_option maxHeartbeats 8000000 in
set_option maxRecDepth 100000 in
theorem witheref1_Of.calls (k : Nat) (A0 : Option Addr) (c0 : Nat) (l0 : List Int) (r : Int) (w : World) (hr0 : Kd.C (Kd.int .i64) w A0 l0.length l0) (hc0 : l0.length ≤ c0) (h : witheref1_Of.f k l0 = some r) :
    Calls Tryd.prog 11 #[.slice A0 l0.length c0] w fun e w' => e = .returned (.int .u64 r) ∧ Drawn0 w w' := by
  have HR0 := Aside0.mk hr0
  have HC0 := Aside0.mk hc0
  clear hr0 hc0
  have H : (witheref1_Of.l0 k l0 0 0) = some r := h
  clear h
  have H' := Aside0.mk H
  clear H
  go_enter Tryd.func11, Tryd.ntmps11
  go_wp2
  go_loopg [3, 4] k (fun kq v3 v4 w' => ∃ (x3_1 : Int) (x4_1 : Int), v3 = .int .u64 x3_1 ∧ v4 = .int .i64 x4_1 ∧ Aside0 (witheref1_Of.l0 kq l0 x3_1 x4_1 = some r) ∧ Aside0 (kq ≤ k) ∧ Drawn0 w w')
  case atStart => exact ⟨(0), (0), (by first | rfl | (simp; done) | (simp [*]; done)), (by first | rfl | (simp; done) | (simp [*]; done)), H', ⟨Nat.le_refl _⟩, by repeat (first | exact Drawn0.refl _ | apply Drawn0.step)⟩
  case round =>
    clear H'
    try clear c1
    obtain ⟨x3_1, x4_1, rfl, rfl, HA, HK1, ⟨m1, rfl⟩⟩ := hrel
    cases gk with
    | zero => exact absurd HA.out (by simp [witheref1_Of.l0])
    | succ k1 =>
      have H := HA.out
      clear HA
      simp only [witheref1_Of.l0] at H
      by_cases c2 : x4_1 < (l0.length : Int)
      · rw [if_pos c2] at H
        have c2b0 : decide (x4_1 < (l0.length : Int)) = true := decide_eq_true c2
        clear c2
        by_cases c3 : 0 ≤ x4_1
        · rw [if_pos c3] at H
          have c3b0 : decide (0 ≤ x4_1) = true := decide_eq_true c3
          clear c3
          replace H := Option.bind_eq_some_iff.mp H
          obtain ⟨t153, A40, H⟩ := H
          replace H : (witheref1_Of.l0 k1 l0 t153 (wrap64 (x4_1 + 1))) = some r := H
          have A4 := Aside0.mk A40
          clear A40
          have H' := Aside0.mk H
          clear H
          have p152 : 0 ≤ (x4_1 : Int) := of_decide_eq_true (by first | (with_reducible assumption) | assumption)
          have q152 : x4_1 < (l0.length : Int) := of_decide_eq_true (by first | (with_reducible assumption) | assumption)
          obtain ⟨ad152, e152, hx152_0⟩ := Kd.at_int HR0.out x4_1 p152 q152
          cases e152
          replace p152 := eq_true p152
          replace q152 := eq_true q152
          go_wp2_with (first | ((with_reducible refine gate_callee (f := 19) rfl ?_); refine goesL_ (some 16) rfl rfl Tryd.func19 (by kernel_rfl) rfl #[.int .u64 x3_1, .int .i64 (rd l0 x4_1)] rfl (by (try simp only [List.map_toArray, List.map_cons, List.map_nil]); first | done | rfl | (simp only [List.length_drop, List.length_take]; rfl)) ?_; (with_reducible refine (witheref1_Put.calls k1 x3_1 (rd l0 x4_1) t153 _ A4.out).mono ?_); rintro e w' ⟨rfl, ⟨nd, rfl⟩⟩; refine ⟨_, rfl, ?_⟩))
          go_roundg k1
          case measure => have := HK1.out; omega
          case rel => exact ⟨(t153), (wrap64 (x4_1 + 1)), (by first | rfl | (simp; done) | (simp [*]; done)), (by first | rfl | (simp; done) | (simp [*]; done)), H', ⟨by have := HK1.out; omega⟩, by repeat (first | exact Drawn0.refl _ | apply Drawn0.step)⟩
        · rw [if_neg c3] at H
          exact absurd H (by simp)
      · rw [if_neg c2] at H
        have c2b0 : decide (x4_1 < (l0.length : Int)) = false := decide_eq_false c2
        clear c2
        obtain rfl := Option.some.inj H
        go_wp2
        go_ret
        exact ⟨by first | rfl | (simp; done) | (simp [*]; done), by repeat (first | exact Drawn0.refl _ | apply Drawn0.step)⟩

end Go.Proofs.YtpkhcmholpljnabDoor.PB1
