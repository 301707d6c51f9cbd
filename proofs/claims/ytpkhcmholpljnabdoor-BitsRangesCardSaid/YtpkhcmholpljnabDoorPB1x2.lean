/- A text of a claim: it proves what its last theorem states, for every input that the given row speaks of; conditions of ours: none. Written by this claim's own program (wip/tools/xprint.py) over the kit's printer. -/
import Derived.Test.YtpkhcmholpljnabDoorPB1x0
import Derived.Test.YtpkhcmholpljnabDoorPB1x1
namespace Go.Proofs.YtpkhcmholpljnabDoor.PB1
open Go.RowKit Go.Proofs.YtpkhcmholpljnabDoorW.PrintWords Go.Proofs.YtpkhcmholpljnabDoorW.PrintLast Go.Proofs.YtpkhcmholpljnabDoorW.PrintMore
attribute [local go_sem] max2_int min2_int max_two min_two max_three min_three max_four min_four   -- for this text's walks alone
set_option linter.unusedVariables false
set_option linter.unusedSimpArgs false

/-! ### withelaw1_BitsOne: function 5 -/
def withelaw1_BitsOne.j0 : Nat → Int → Int → Int → Int → Int → Bool → Option (Bool)
  | 0, _, _, _, _, _, _ => none
  | k + 1, x0, x7, x8, x9, x10, x51 => if x51 = true then (none) else (if x7 = x8 then (some true) else ((bits_Has.f x9 x8).bind fun t134 => ((bits_Has.f x0 x8).bind fun t135 => (if (t134 == t135) = true then ((bits_Has.f x10 x8).bind fun t136 => (some (t136 == t135))) else (none)))))
def withelaw1_BitsOne.f (k : Nat) (a0 : Int) (a1 : Int) (a2 : Int) : Option (Bool) := (withelaw1_begun.f k).bind fun t127 => (if t127 = true then ((bits_Put.f a0 (wrap64 (Int.tmod a1 64))).bind fun t128 => ((bits_Drop.f a0 (wrap64 (Int.tmod a1 64))).bind fun t129 => ((bits_Has.f t128 (wrap64 (Int.tmod a1 64))).bind fun t130 => (if t130 = true then ((bits_Has.f t129 (wrap64 (Int.tmod a1 64))).bind fun t131 => (if t131 = true then (withelaw1_BitsOne.j0 k a0 (wrap64 (Int.tmod a1 64)) (wrap64 (Int.tmod a2 64)) t128 t129 true) else ((bits_Count.f t128).bind fun t132 => ((bits_Count.f t129).bind fun t133 => (if t132 = (wrap64 (t133 + 1)) then (if t128 = a0 then (withelaw1_BitsOne.j0 k a0 (wrap64 (Int.tmod a1 64)) (wrap64 (Int.tmod a2 64)) t128 t129 false) else (withelaw1_BitsOne.j0 k a0 (wrap64 (Int.tmod a1 64)) (wrap64 (Int.tmod a2 64)) t128 t129 (t129 != a0))) else (withelaw1_BitsOne.j0 k a0 (wrap64 (Int.tmod a1 64)) (wrap64 (Int.tmod a2 64)) t128 t129 true)))))) else (withelaw1_BitsOne.j0 k a0 (wrap64 (Int.tmod a1 64)) (wrap64 (Int.tmod a2 64)) t128 t129 true))))) else (none))
theorem withelaw1_BitsOne.mono_l : ∀ k, (∀ y0 y1 y2 y3 y4 y5, LeO (withelaw1_BitsOne.j0 k y0 y1 y2 y3 y4 y5) (withelaw1_BitsOne.j0 (k + 1) y0 y1 y2 y3 y4 y5))
  | 0 => fun _ _ _ _ _ _ r h => by simp [withelaw1_BitsOne.j0] at h
  | k + 1 => by
    have ih0 := withelaw1_BitsOne.mono_l k
    · intro y0 y1 y2 y3 y4 y5
      unfold withelaw1_BitsOne.j0
      repeat' first
      | (with_reducible exact ih0 _ _ _ _ _ _)
      | (with_reducible exact withelaw1_begun.mono _)
      | (with_reducible exact LeO.refl _)
      | (with_reducible exact LeO.none _)
      | (with_reducible refine LeO.ite ?_ ?_)
      | (with_reducible refine LeO.bind ?_ (fun _ => ?_))
      | exact ih0 _ _ _ _ _ _
      | exact withelaw1_begun.mono _
      | exact LeO.none _
      | refine LeO.ite ?_ ?_
      | refine LeO.bind ?_ (fun _ => ?_)
theorem withelaw1_BitsOne.mono : ∀ a0 a1 a2 k, LeO (withelaw1_BitsOne.f k a0 a1 a2) (withelaw1_BitsOne.f (k + 1) a0 a1 a2) := by
  intro a0 a1 a2 k
  have ih0 := withelaw1_BitsOne.mono_l k
  unfold withelaw1_BitsOne.f
  repeat' first
      | (with_reducible exact ih0 _ _ _ _ _ _)
      | (with_reducible exact withelaw1_begun.mono _)
      | (with_reducible exact LeO.refl _)
      | (with_reducible exact LeO.none _)
      | (with_reducible refine LeO.ite ?_ ?_)
      | (with_reducible refine LeO.bind ?_ (fun _ => ?_))
      | exact ih0 _ _ _ _ _ _
      | exact withelaw1_begun.mono _
      | exact LeO.none _
      | refine LeO.ite ?_ ?_
      | refine LeO.bind ?_ (fun _ => ?_)
set_option maxHeartbeats 8000000 in
set_option maxRecDepth 100000 in
theorem withelaw1_BitsOne.calls (k : Nat) (a0 : Int) (a1 : Int) (a2 : Int) (w : World) (hTab : TabW w) (h : withelaw1_BitsOne.f k a0 a1 a2 = some true) :
    Calls Tryd.prog 5 #[.int .u64 a0, .int .u8 a1, .int .u8 a2] w fun e w' => e = .returned (.bool true) ∧ Below w.heap.size w w' := by
  have HB := Aside0.mk (Below.refl w.heap.size w)
  have H : ((withelaw1_begun.f k).bind fun t127 => (if t127 = true then ((bits_Put.f a0 (wrap64 (Int.tmod a1 64))).bind fun t128 => ((bits_Drop.f a0 (wrap64 (Int.tmod a1 64))).bind fun t129 => ((bits_Has.f t128 (wrap64 (Int.tmod a1 64))).bind fun t130 => (if t130 = true then ((bits_Has.f t129 (wrap64 (Int.tmod a1 64))).bind fun t131 => (if t131 = true then (withelaw1_BitsOne.j0 k a0 (wrap64 (Int.tmod a1 64)) (wrap64 (Int.tmod a2 64)) t128 t129 true) else ((bits_Count.f t128).bind fun t132 => ((bits_Count.f t129).bind fun t133 => (if t132 = (wrap64 (t133 + 1)) then (if t128 = a0 then (withelaw1_BitsOne.j0 k a0 (wrap64 (Int.tmod a1 64)) (wrap64 (Int.tmod a2 64)) t128 t129 false) else (withelaw1_BitsOne.j0 k a0 (wrap64 (Int.tmod a1 64)) (wrap64 (Int.tmod a2 64)) t128 t129 (t129 != a0))) else (withelaw1_BitsOne.j0 k a0 (wrap64 (Int.tmod a1 64)) (wrap64 (Int.tmod a2 64)) t128 t129 true)))))) else (withelaw1_BitsOne.j0 k a0 (wrap64 (Int.tmod a1 64)) (wrap64 (Int.tmod a2 64)) t128 t129 true))))) else (none))) = some true := h
  clear h
  replace H := Option.bind_eq_some_iff.mp H
  obtain ⟨t127, A40, H⟩ := H
  replace H : (if t127 = true then ((bits_Put.f a0 (wrap64 (Int.tmod a1 64))).bind fun t128 => ((bits_Drop.f a0 (wrap64 (Int.tmod a1 64))).bind fun t129 => ((bits_Has.f t128 (wrap64 (Int.tmod a1 64))).bind fun t130 => (if t130 = true then ((bits_Has.f t129 (wrap64 (Int.tmod a1 64))).bind fun t131 => (if t131 = true then (withelaw1_BitsOne.j0 k a0 (wrap64 (Int.tmod a1 64)) (wrap64 (Int.tmod a2 64)) t128 t129 true) else ((bits_Count.f t128).bind fun t132 => ((bits_Count.f t129).bind fun t133 => (if t132 = (wrap64 (t133 + 1)) then (if t128 = a0 then (withelaw1_BitsOne.j0 k a0 (wrap64 (Int.tmod a1 64)) (wrap64 (Int.tmod a2 64)) t128 t129 false) else (withelaw1_BitsOne.j0 k a0 (wrap64 (Int.tmod a1 64)) (wrap64 (Int.tmod a2 64)) t128 t129 (t129 != a0))) else (withelaw1_BitsOne.j0 k a0 (wrap64 (Int.tmod a1 64)) (wrap64 (Int.tmod a2 64)) t128 t129 true)))))) else (withelaw1_BitsOne.j0 k a0 (wrap64 (Int.tmod a1 64)) (wrap64 (Int.tmod a2 64)) t128 t129 true))))) else (none)) = some true := H
  have A4 := Aside0.mk A40
  clear A40
  by_cases c5 : t127 = true
  · subst c5
    have H1 : ((bits_Put.f a0 (wrap64 (Int.tmod a1 64))).bind fun t128 => ((bits_Drop.f a0 (wrap64 (Int.tmod a1 64))).bind fun t129 => ((bits_Has.f t128 (wrap64 (Int.tmod a1 64))).bind fun t130 => (if t130 = true then ((bits_Has.f t129 (wrap64 (Int.tmod a1 64))).bind fun t131 => (if t131 = true then (withelaw1_BitsOne.j0 k a0 (wrap64 (Int.tmod a1 64)) (wrap64 (Int.tmod a2 64)) t128 t129 true) else ((bits_Count.f t128).bind fun t132 => ((bits_Count.f t129).bind fun t133 => (if t132 = (wrap64 (t133 + 1)) then (if t128 = a0 then (withelaw1_BitsOne.j0 k a0 (wrap64 (Int.tmod a1 64)) (wrap64 (Int.tmod a2 64)) t128 t129 false) else (withelaw1_BitsOne.j0 k a0 (wrap64 (Int.tmod a1 64)) (wrap64 (Int.tmod a2 64)) t128 t129 (t129 != a0))) else (withelaw1_BitsOne.j0 k a0 (wrap64 (Int.tmod a1 64)) (wrap64 (Int.tmod a2 64)) t128 t129 true)))))) else (withelaw1_BitsOne.j0 k a0 (wrap64 (Int.tmod a1 64)) (wrap64 (Int.tmod a2 64)) t128 t129 true))))) = some true := by rw [if_pos rfl] at H; exact H
    clear H
    have H := H1
    clear H1
    replace H := Option.bind_eq_some_iff.mp H
    obtain ⟨t128, A60, H⟩ := H
    replace H : ((bits_Drop.f a0 (wrap64 (Int.tmod a1 64))).bind fun t129 => ((bits_Has.f t128 (wrap64 (Int.tmod a1 64))).bind fun t130 => (if t130 = true then ((bits_Has.f t129 (wrap64 (Int.tmod a1 64))).bind fun t131 => (if t131 = true then (withelaw1_BitsOne.j0 k a0 (wrap64 (Int.tmod a1 64)) (wrap64 (Int.tmod a2 64)) t128 t129 true) else ((bits_Count.f t128).bind fun t132 => ((bits_Count.f t129).bind fun t133 => (if t132 = (wrap64 (t133 + 1)) then (if t128 = a0 then (withelaw1_BitsOne.j0 k a0 (wrap64 (Int.tmod a1 64)) (wrap64 (Int.tmod a2 64)) t128 t129 false) else (withelaw1_BitsOne.j0 k a0 (wrap64 (Int.tmod a1 64)) (wrap64 (Int.tmod a2 64)) t128 t129 (t129 != a0))) else (withelaw1_BitsOne.j0 k a0 (wrap64 (Int.tmod a1 64)) (wrap64 (Int.tmod a2 64)) t128 t129 true)))))) else (withelaw1_BitsOne.j0 k a0 (wrap64 (Int.tmod a1 64)) (wrap64 (Int.tmod a2 64)) t128 t129 true)))) = some true := H
    have A6 := Aside0.mk A60
    clear A60
    replace H := Option.bind_eq_some_iff.mp H
    obtain ⟨t129, A70, H⟩ := H
    replace H : ((bits_Has.f t128 (wrap64 (Int.tmod a1 64))).bind fun t130 => (if t130 = true then ((bits_Has.f t129 (wrap64 (Int.tmod a1 64))).bind fun t131 => (if t131 = true then (withelaw1_BitsOne.j0 k a0 (wrap64 (Int.tmod a1 64)) (wrap64 (Int.tmod a2 64)) t128 t129 true) else ((bits_Count.f t128).bind fun t132 => ((bits_Count.f t129).bind fun t133 => (if t132 = (wrap64 (t133 + 1)) then (if t128 = a0 then (withelaw1_BitsOne.j0 k a0 (wrap64 (Int.tmod a1 64)) (wrap64 (Int.tmod a2 64)) t128 t129 false) else (withelaw1_BitsOne.j0 k a0 (wrap64 (Int.tmod a1 64)) (wrap64 (Int.tmod a2 64)) t128 t129 (t129 != a0))) else (withelaw1_BitsOne.j0 k a0 (wrap64 (Int.tmod a1 64)) (wrap64 (Int.tmod a2 64)) t128 t129 true)))))) else (withelaw1_BitsOne.j0 k a0 (wrap64 (Int.tmod a1 64)) (wrap64 (Int.tmod a2 64)) t128 t129 true))) = some true := H
    have A7 := Aside0.mk A70
    clear A70
    have HC8 := Aside0.mk H
    clear H
    go_enter Tryd.func5, Tryd.ntmps5
    go_upto_region 5 with (first | ((with_reducible refine gate_callee (f := 8) rfl ?_); refine goesL_ (some 11) rfl rfl Tryd.func8 (by kernel_rfl) rfl #[] rfl (by (try simp only [List.map_toArray, List.map_cons, List.map_nil]); first | done | rfl | (simp only [List.length_drop, List.length_take]; rfl)) ?_; (with_reducible refine (withelaw1_begun.calls k  true _ (by first | exact hTab | (repeat (first | exact hTab | exact TabW.below hTab HB.out | (with_reducible apply TabW.drewN) | (with_reducible apply TabW.drew) | (with_reducible apply TabW.alloc)))) A4.out).mono ?_); rintro e w9 ⟨rfl, hb⟩; refine ⟨_, rfl, ?_⟩; have n0_ := Aside0.mk (below_step (by repeat (first | (with_reducible first | exact HB.out | apply below_alloc | apply pw_below_drewN | apply below_drew1) | exact HB.out)) hb); clear HB; have HB := n0_; clear n0_; (try clear hb); (try clear hb2); (try clear hk); (try clear hi)) | (go_at_call 8; (with_reducible refine (withelaw1_begun.calls k  true _ (by first | exact hTab | (repeat (first | exact hTab | exact TabW.below hTab HB.out | (with_reducible apply TabW.drewN) | (with_reducible apply TabW.drew) | (with_reducible apply TabW.alloc)))) A4.out).mono ?_); rintro e w9 ⟨rfl, hb⟩; have n0_ := Aside0.mk (below_step (by repeat (first | (with_reducible first | exact HB.out | apply below_alloc | apply pw_below_drewN | apply below_drew1) | exact HB.out)) hb); clear HB; have HB := n0_; clear n0_; (try clear hb); (try clear hb2); (try clear hk); (try clear hi)) | ((with_reducible refine gate_callee (f := 18) rfl ?_); refine goesL_ (some 21) rfl rfl Tryd.func18 (by kernel_rfl) rfl #[.int .u64 a0, .int .i64 (wrap64 (Int.tmod a1 64))] rfl (by (try simp only [List.map_toArray, List.map_cons, List.map_nil]); first | done | rfl | (simp only [List.length_drop, List.length_take]; rfl)) ?_; (with_reducible refine (bits_Put.calls a0 (wrap64 (Int.tmod a1 64)) t128 _ A6.out).mono ?_); rintro e w' ⟨rfl, ⟨nd, rfl⟩⟩; refine ⟨_, rfl, ?_⟩) | (go_at_call 18; (with_reducible refine (bits_Put.calls a0 (wrap64 (Int.tmod a1 64)) t128 _ A6.out).mono ?_); rintro e w' ⟨rfl, ⟨nd, rfl⟩⟩) | ((with_reducible refine gate_callee (f := 20) rfl ?_); refine goesL_ (some 24) rfl rfl Tryd.func20 (by kernel_rfl) rfl #[.int .u64 a0, .int .i64 (wrap64 (Int.tmod a1 64))] rfl (by (try simp only [List.map_toArray, List.map_cons, List.map_nil]); first | done | rfl | (simp only [List.length_drop, List.length_take]; rfl)) ?_; (with_reducible refine (bits_Drop.calls a0 (wrap64 (Int.tmod a1 64)) t129 _ A7.out).mono ?_); rintro e w' ⟨rfl, ⟨nd, rfl⟩⟩; refine ⟨_, rfl, ?_⟩) | (go_at_call 20; (with_reducible refine (bits_Drop.calls a0 (wrap64 (Int.tmod a1 64)) t129 _ A7.out).mono ?_); rintro e w' ⟨rfl, ⟨nd, rfl⟩⟩))
    (try simp only [Act.put, List.setIfInBounds_toArray, List.set_cons_zero, List.set_cons_succ])
    go_cut [51] (fun v51 wc => ∃ (kq : Nat) (x51_7 : Bool), v51 = .bool x51_7 ∧ Aside0 (withelaw1_BitsOne.j0 kq a0 (wrap64 (Int.tmod a1 64)) (wrap64 (Int.tmod a2 64)) t128 t129 x51_7 = some true) ∧ Aside0 (kq ≤ k) ∧ Aside0 (Below w.heap.size w wc))
    case first =>
      have H := HC8.out
      clear HC8
      replace H := Option.bind_eq_some_iff.mp H
      obtain ⟨t130, A100, H⟩ := H
      replace H : (if t130 = true then ((bits_Has.f t129 (wrap64 (Int.tmod a1 64))).bind fun t131 => (if t131 = true then (withelaw1_BitsOne.j0 k a0 (wrap64 (Int.tmod a1 64)) (wrap64 (Int.tmod a2 64)) t128 t129 true) else ((bits_Count.f t128).bind fun t132 => ((bits_Count.f t129).bind fun t133 => (if t132 = (wrap64 (t133 + 1)) then (if t128 = a0 then (withelaw1_BitsOne.j0 k a0 (wrap64 (Int.tmod a1 64)) (wrap64 (Int.tmod a2 64)) t128 t129 false) else (withelaw1_BitsOne.j0 k a0 (wrap64 (Int.tmod a1 64)) (wrap64 (Int.tmod a2 64)) t128 t129 (t129 != a0))) else (withelaw1_BitsOne.j0 k a0 (wrap64 (Int.tmod a1 64)) (wrap64 (Int.tmod a2 64)) t128 t129 true)))))) else (withelaw1_BitsOne.j0 k a0 (wrap64 (Int.tmod a1 64)) (wrap64 (Int.tmod a2 64)) t128 t129 true)) = some true := H
      have A10 := Aside0.mk A100
      clear A100
      by_cases c11 : t130 = true
      · subst c11
        have H1 : ((bits_Has.f t129 (wrap64 (Int.tmod a1 64))).bind fun t131 => (if t131 = true then (withelaw1_BitsOne.j0 k a0 (wrap64 (Int.tmod a1 64)) (wrap64 (Int.tmod a2 64)) t128 t129 true) else ((bits_Count.f t128).bind fun t132 => ((bits_Count.f t129).bind fun t133 => (if t132 = (wrap64 (t133 + 1)) then (if t128 = a0 then (withelaw1_BitsOne.j0 k a0 (wrap64 (Int.tmod a1 64)) (wrap64 (Int.tmod a2 64)) t128 t129 false) else (withelaw1_BitsOne.j0 k a0 (wrap64 (Int.tmod a1 64)) (wrap64 (Int.tmod a2 64)) t128 t129 (t129 != a0))) else (withelaw1_BitsOne.j0 k a0 (wrap64 (Int.tmod a1 64)) (wrap64 (Int.tmod a2 64)) t128 t129 true)))))) = some true := by rw [if_pos rfl] at H; exact H
        clear H
        have H := H1
        clear H1
        replace H := Option.bind_eq_some_iff.mp H
        obtain ⟨t131, A120, H⟩ := H
        replace H : (if t131 = true then (withelaw1_BitsOne.j0 k a0 (wrap64 (Int.tmod a1 64)) (wrap64 (Int.tmod a2 64)) t128 t129 true) else ((bits_Count.f t128).bind fun t132 => ((bits_Count.f t129).bind fun t133 => (if t132 = (wrap64 (t133 + 1)) then (if t128 = a0 then (withelaw1_BitsOne.j0 k a0 (wrap64 (Int.tmod a1 64)) (wrap64 (Int.tmod a2 64)) t128 t129 false) else (withelaw1_BitsOne.j0 k a0 (wrap64 (Int.tmod a1 64)) (wrap64 (Int.tmod a2 64)) t128 t129 (t129 != a0))) else (withelaw1_BitsOne.j0 k a0 (wrap64 (Int.tmod a1 64)) (wrap64 (Int.tmod a2 64)) t128 t129 true))))) = some true := H
        have A12 := Aside0.mk A120
        clear A120
        by_cases c13 : t131 = true
        · subst c13
          have H1 : (withelaw1_BitsOne.j0 k a0 (wrap64 (Int.tmod a1 64)) (wrap64 (Int.tmod a2 64)) t128 t129 true) = some true := by rw [if_pos rfl] at H; exact H
          clear H
          have H := H1
          clear H1
          have H' := Aside0.mk H
          clear H
          go_wp2_with (first | ((with_reducible refine gate_callee (f := 16) rfl ?_); refine goesL_ (some 27) rfl rfl Tryd.func16 (by kernel_rfl) rfl #[.int .u64 t128, .int .i64 (wrap64 (Int.tmod a1 64))] rfl (by (try simp only [List.map_toArray, List.map_cons, List.map_nil]); first | done | rfl | (simp only [List.length_drop, List.length_take]; rfl)) ?_; (with_reducible refine (bits_Has.calls t128 (wrap64 (Int.tmod a1 64)) true _ A10.out).mono ?_); rintro e w' ⟨rfl, ⟨nd, rfl⟩⟩; refine ⟨_, rfl, ?_⟩) | (go_at_call 16; (with_reducible refine (bits_Has.calls t128 (wrap64 (Int.tmod a1 64)) true _ A10.out).mono ?_); rintro e w' ⟨rfl, ⟨nd, rfl⟩⟩) | (go_at_call 16; (with_reducible refine (bits_Has.calls t129 (wrap64 (Int.tmod a1 64)) true _ A12.out).mono ?_); rintro e w' ⟨rfl, ⟨nd, rfl⟩⟩))
          go_meet
          case rel => exact ⟨_, (true), (by first | rfl | (simp; done) | (simp [*]; done)), H', ⟨by first | omega | exact Nat.le_refl _⟩, ⟨by repeat (first | (with_reducible first | exact HB.out | apply below_alloc | apply pw_below_drewN | apply below_drew1) | exact HB.out)⟩⟩
        · replace c13 := Bool.eq_false_iff.mpr c13
          subst c13
          have H1 : ((bits_Count.f t128).bind fun t132 => ((bits_Count.f t129).bind fun t133 => (if t132 = (wrap64 (t133 + 1)) then (if t128 = a0 then (withelaw1_BitsOne.j0 k a0 (wrap64 (Int.tmod a1 64)) (wrap64 (Int.tmod a2 64)) t128 t129 false) else (withelaw1_BitsOne.j0 k a0 (wrap64 (Int.tmod a1 64)) (wrap64 (Int.tmod a2 64)) t128 t129 (t129 != a0))) else (withelaw1_BitsOne.j0 k a0 (wrap64 (Int.tmod a1 64)) (wrap64 (Int.tmod a2 64)) t128 t129 true)))) = some true := by rw [if_neg (show ¬ (false = true) by decide)] at H; exact H
          clear H
          have H := H1
          clear H1
          replace H := Option.bind_eq_some_iff.mp H
          obtain ⟨t132, A140, H⟩ := H
          replace H : ((bits_Count.f t129).bind fun t133 => (if t132 = (wrap64 (t133 + 1)) then (if t128 = a0 then (withelaw1_BitsOne.j0 k a0 (wrap64 (Int.tmod a1 64)) (wrap64 (Int.tmod a2 64)) t128 t129 false) else (withelaw1_BitsOne.j0 k a0 (wrap64 (Int.tmod a1 64)) (wrap64 (Int.tmod a2 64)) t128 t129 (t129 != a0))) else (withelaw1_BitsOne.j0 k a0 (wrap64 (Int.tmod a1 64)) (wrap64 (Int.tmod a2 64)) t128 t129 true))) = some true := H
          have A14 := Aside0.mk A140
          clear A140
          replace H := Option.bind_eq_some_iff.mp H
          obtain ⟨t133, A150, H⟩ := H
          replace H : (if t132 = (wrap64 (t133 + 1)) then (if t128 = a0 then (withelaw1_BitsOne.j0 k a0 (wrap64 (Int.tmod a1 64)) (wrap64 (Int.tmod a2 64)) t128 t129 false) else (withelaw1_BitsOne.j0 k a0 (wrap64 (Int.tmod a1 64)) (wrap64 (Int.tmod a2 64)) t128 t129 (t129 != a0))) else (withelaw1_BitsOne.j0 k a0 (wrap64 (Int.tmod a1 64)) (wrap64 (Int.tmod a2 64)) t128 t129 true)) = some true := H
          have A15 := Aside0.mk A150
          clear A150
          by_cases c16 : t132 = (wrap64 (t133 + 1))
          · rw [if_pos c16] at H
            have c16b0 : (t132 == (wrap64 (t133 + 1))) = true := beq_iff_eq.mpr c16
            have c16b1 : (t132 != (wrap64 (t133 + 1))) = false := bne_eq_false_iff_eq.mpr c16
            clear c16
            (first | rw [c16b0] | (simp only [i64_w, i32_w]; rw [c16b0]) | skip)
            by_cases c17 : t128 = a0
            · rw [if_pos c17] at H
              have c17b0 : (t128 == a0) = true := beq_iff_eq.mpr c17
              have c17b1 : (t128 != a0) = false := bne_eq_false_iff_eq.mpr c17
              clear c17
              have H' := Aside0.mk H
              clear H
              go_wp2_with (first | ((with_reducible refine gate_callee (f := 16) rfl ?_); refine goesL_ (some 27) rfl rfl Tryd.func16 (by kernel_rfl) rfl #[.int .u64 t128, .int .i64 (wrap64 (Int.tmod a1 64))] rfl (by (try simp only [List.map_toArray, List.map_cons, List.map_nil]); first | done | rfl | (simp only [List.length_drop, List.length_take]; rfl)) ?_; (with_reducible refine (bits_Has.calls t128 (wrap64 (Int.tmod a1 64)) true _ A10.out).mono ?_); rintro e w' ⟨rfl, ⟨nd, rfl⟩⟩; refine ⟨_, rfl, ?_⟩) | (go_at_call 16; (with_reducible refine (bits_Has.calls t128 (wrap64 (Int.tmod a1 64)) true _ A10.out).mono ?_); rintro e w' ⟨rfl, ⟨nd, rfl⟩⟩) | (go_at_call 16; (with_reducible refine (bits_Has.calls t129 (wrap64 (Int.tmod a1 64)) false _ A12.out).mono ?_); rintro e w' ⟨rfl, ⟨nd, rfl⟩⟩) | (go_at_call 22; (with_reducible refine (bits_Count.calls t128 t132 _ A14.out).mono ?_); rintro e w' ⟨rfl, ⟨nd, rfl⟩⟩) | (go_at_call 22; (with_reducible refine (bits_Count.calls t129 t133 _ A15.out).mono ?_); rintro e w' ⟨rfl, ⟨nd, rfl⟩⟩))
              go_meet
              case rel => exact ⟨_, (false), (by first | rfl | (simp; done) | (simp [*]; done)), H', ⟨by first | omega | exact Nat.le_refl _⟩, ⟨by repeat (first | (with_reducible first | exact HB.out | apply below_alloc | apply pw_below_drewN | apply below_drew1) | exact HB.out)⟩⟩
            · rw [if_neg c17] at H
              have c17b0 : (t128 == a0) = false := beq_eq_false_iff_ne.mpr c17
              have c17b1 : (t128 != a0) = true := bne_iff_ne.mpr c17
              have H' := Aside0.mk H
              clear H
              go_wp2_with (first | ((with_reducible refine gate_callee (f := 16) rfl ?_); refine goesL_ (some 27) rfl rfl Tryd.func16 (by kernel_rfl) rfl #[.int .u64 t128, .int .i64 (wrap64 (Int.tmod a1 64))] rfl (by (try simp only [List.map_toArray, List.map_cons, List.map_nil]); first | done | rfl | (simp only [List.length_drop, List.length_take]; rfl)) ?_; (with_reducible refine (bits_Has.calls t128 (wrap64 (Int.tmod a1 64)) true _ A10.out).mono ?_); rintro e w' ⟨rfl, ⟨nd, rfl⟩⟩; refine ⟨_, rfl, ?_⟩) | (go_at_call 16; (with_reducible refine (bits_Has.calls t128 (wrap64 (Int.tmod a1 64)) true _ A10.out).mono ?_); rintro e w' ⟨rfl, ⟨nd, rfl⟩⟩) | (go_at_call 16; (with_reducible refine (bits_Has.calls t129 (wrap64 (Int.tmod a1 64)) false _ A12.out).mono ?_); rintro e w' ⟨rfl, ⟨nd, rfl⟩⟩) | (go_at_call 22; (with_reducible refine (bits_Count.calls t128 t132 _ A14.out).mono ?_); rintro e w' ⟨rfl, ⟨nd, rfl⟩⟩) | (go_at_call 22; (with_reducible refine (bits_Count.calls t129 t133 _ A15.out).mono ?_); rintro e w' ⟨rfl, ⟨nd, rfl⟩⟩))
              go_meet
              case rel => exact ⟨_, ((t129 != a0)), (by first | rfl | (simp; done) | (simp [*]; done)), H', ⟨by first | omega | exact Nat.le_refl _⟩, ⟨by repeat (first | (with_reducible first | exact HB.out | apply below_alloc | apply pw_below_drewN | apply below_drew1) | exact HB.out)⟩⟩
          · rw [if_neg c16] at H
            have c16b0 : (t132 == (wrap64 (t133 + 1))) = false := beq_eq_false_iff_ne.mpr c16
            have c16b1 : (t132 != (wrap64 (t133 + 1))) = true := bne_iff_ne.mpr c16
            (first | rw [c16b0] | (simp only [i64_w, i32_w]; rw [c16b0]) | skip)
            have H' := Aside0.mk H
            clear H
            go_wp2_with (first | ((with_reducible refine gate_callee (f := 16) rfl ?_); refine goesL_ (some 27) rfl rfl Tryd.func16 (by kernel_rfl) rfl #[.int .u64 t128, .int .i64 (wrap64 (Int.tmod a1 64))] rfl (by (try simp only [List.map_toArray, List.map_cons, List.map_nil]); first | done | rfl | (simp only [List.length_drop, List.length_take]; rfl)) ?_; (with_reducible refine (bits_Has.calls t128 (wrap64 (Int.tmod a1 64)) true _ A10.out).mono ?_); rintro e w' ⟨rfl, ⟨nd, rfl⟩⟩; refine ⟨_, rfl, ?_⟩) | (go_at_call 16; (with_reducible refine (bits_Has.calls t128 (wrap64 (Int.tmod a1 64)) true _ A10.out).mono ?_); rintro e w' ⟨rfl, ⟨nd, rfl⟩⟩) | (go_at_call 16; (with_reducible refine (bits_Has.calls t129 (wrap64 (Int.tmod a1 64)) false _ A12.out).mono ?_); rintro e w' ⟨rfl, ⟨nd, rfl⟩⟩) | (go_at_call 22; (with_reducible refine (bits_Count.calls t128 t132 _ A14.out).mono ?_); rintro e w' ⟨rfl, ⟨nd, rfl⟩⟩) | (go_at_call 22; (with_reducible refine (bits_Count.calls t129 t133 _ A15.out).mono ?_); rintro e w' ⟨rfl, ⟨nd, rfl⟩⟩))
            go_meet
            case rel => exact ⟨_, (true), (by first | rfl | (simp; done) | (simp [*]; done)), H', ⟨by first | omega | exact Nat.le_refl _⟩, ⟨by repeat (first | (with_reducible first | exact HB.out | apply below_alloc | apply pw_below_drewN | apply below_drew1) | exact HB.out)⟩⟩
      · replace c11 := Bool.eq_false_iff.mpr c11
        subst c11
        have H1 : (withelaw1_BitsOne.j0 k a0 (wrap64 (Int.tmod a1 64)) (wrap64 (Int.tmod a2 64)) t128 t129 true) = some true := by rw [if_neg (show ¬ (false = true) by decide)] at H; exact H
        clear H
        have H := H1
        clear H1
        have H' := Aside0.mk H
        clear H
        go_wp2_with (first | ((with_reducible refine gate_callee (f := 16) rfl ?_); refine goesL_ (some 27) rfl rfl Tryd.func16 (by kernel_rfl) rfl #[.int .u64 t128, .int .i64 (wrap64 (Int.tmod a1 64))] rfl (by (try simp only [List.map_toArray, List.map_cons, List.map_nil]); first | done | rfl | (simp only [List.length_drop, List.length_take]; rfl)) ?_; (with_reducible refine (bits_Has.calls t128 (wrap64 (Int.tmod a1 64)) false _ A10.out).mono ?_); rintro e w' ⟨rfl, ⟨nd, rfl⟩⟩; refine ⟨_, rfl, ?_⟩) | (go_at_call 16; (with_reducible refine (bits_Has.calls t128 (wrap64 (Int.tmod a1 64)) false _ A10.out).mono ?_); rintro e w' ⟨rfl, ⟨nd, rfl⟩⟩))
        go_meet
        case rel => exact ⟨_, (true), (by first | rfl | (simp; done) | (simp [*]; done)), H', ⟨by first | omega | exact Nat.le_refl _⟩, ⟨by repeat (first | (with_reducible first | exact HB.out | apply below_alloc | apply pw_below_drewN | apply below_drew1) | exact HB.out)⟩⟩
    case rest =>
      clear HC8
      try clear c1
      try clear c2
      try clear p2
      try clear c5
      try clear p6
      try clear c8
      try clear c11
      try clear c13
      try clear c16
      try clear c16b0
      try clear c16b1
      try clear c17
      try clear c17b0
      try clear c17b1
      obtain ⟨kq, x51_7, rfl, HA, HJ7, HB⟩ := hcut
      cases kq with
      | zero => exact absurd HA.out (by simp [withelaw1_BitsOne.j0])
      | succ kj7 =>
        have H := HA.out
        clear HA
        simp only [withelaw1_BitsOne.j0] at H
        by_cases c18 : x51_7 = true
        · subst c18
          have H1 : (none) = some true := by rw [if_pos rfl] at H; exact H
          clear H
          have H := H1
          clear H1
          exact absurd H (by simp)
        · replace c18 := Bool.eq_false_iff.mpr c18
          subst c18
          have H1 : (if (wrap64 (Int.tmod a1 64)) = (wrap64 (Int.tmod a2 64)) then (some true) else ((bits_Has.f t128 (wrap64 (Int.tmod a2 64))).bind fun t134 => ((bits_Has.f a0 (wrap64 (Int.tmod a2 64))).bind fun t135 => (if (t134 == t135) = true then ((bits_Has.f t129 (wrap64 (Int.tmod a2 64))).bind fun t136 => (some (t136 == t135))) else (none))))) = some true := by rw [if_neg (show ¬ (false = true) by decide)] at H; exact H
          clear H
          have H := H1
          clear H1
          by_cases c19 : (wrap64 (Int.tmod a1 64)) = (wrap64 (Int.tmod a2 64))
          · rw [if_pos c19] at H
            have c19b0 : ((wrap64 (Int.tmod a1 64)) == (wrap64 (Int.tmod a2 64))) = true := beq_iff_eq.mpr c19
            have c19b1 : ((wrap64 (Int.tmod a1 64)) != (wrap64 (Int.tmod a2 64))) = false := bne_eq_false_iff_eq.mpr c19
            clear c19
            first
              | exact absurd (Option.some.inj H) (by decide)
              | (have HT := Option.some.inj H
                 go_wp2
                 go_ret
                 exact ⟨by first | rfl | (simp [errW_none, errW_some] <;> rfl) | (simp [*, errW_none, errW_some] <;> rfl), by repeat (first | (with_reducible first | exact HB.out | apply below_alloc | apply pw_below_drewN | apply below_drew1) | exact HB.out)⟩)
          · rw [if_neg c19] at H
            have c19b0 : ((wrap64 (Int.tmod a1 64)) == (wrap64 (Int.tmod a2 64))) = false := beq_eq_false_iff_ne.mpr c19
            have c19b1 : ((wrap64 (Int.tmod a1 64)) != (wrap64 (Int.tmod a2 64))) = true := bne_iff_ne.mpr c19
            replace H := Option.bind_eq_some_iff.mp H
            obtain ⟨t134, A200, H⟩ := H
            replace H : ((bits_Has.f a0 (wrap64 (Int.tmod a2 64))).bind fun t135 => (if (t134 == t135) = true then ((bits_Has.f t129 (wrap64 (Int.tmod a2 64))).bind fun t136 => (some (t136 == t135))) else (none))) = some true := H
            have A20 := Aside0.mk A200
            clear A200
            replace H := Option.bind_eq_some_iff.mp H
            obtain ⟨t135, A210, H⟩ := H
            replace H : (if (t134 == t135) = true then ((bits_Has.f t129 (wrap64 (Int.tmod a2 64))).bind fun t136 => (some (t136 == t135))) else (none)) = some true := H
            have A21 := Aside0.mk A210
            clear A210
            by_cases c22 : (t134 == t135) = true
            · rw [if_pos c22] at H
              have c22b0 : (t134 == t135) = true := c22
              (try (have c22b1 : decide (t134 = t135) = true := by simpa using c22))
              (try (have c22b2 : (t134 == t135) = true := by simpa using c22))
              clear c22
              replace H := Option.bind_eq_some_iff.mp H
              obtain ⟨t136, A230, H⟩ := H
              replace H : (some (t136 == t135)) = some true := H
              have A23 := Aside0.mk A230
              clear A230
              first
                | exact absurd (Option.some.inj H) (by decide)
                | (have HT := Option.some.inj H
                   go_wp2_with (first | (go_at_call 16; (with_reducible refine (bits_Has.calls t128 (wrap64 (Int.tmod a2 64)) t134 _ A20.out).mono ?_); rintro e w' ⟨rfl, ⟨nd, rfl⟩⟩) | (go_at_call 16; (with_reducible refine (bits_Has.calls a0 (wrap64 (Int.tmod a2 64)) t135 _ A21.out).mono ?_); rintro e w' ⟨rfl, ⟨nd, rfl⟩⟩) | (go_at_call 16; (with_reducible refine (bits_Has.calls t129 (wrap64 (Int.tmod a2 64)) t136 _ A23.out).mono ?_); rintro e w' ⟨rfl, ⟨nd, rfl⟩⟩))
                   go_ret
                   exact ⟨by first | rfl | (simp [errW_none, errW_some] <;> rfl) | (simp [*, errW_none, errW_some] <;> rfl), by repeat (first | (with_reducible first | exact HB.out | apply below_alloc | apply pw_below_drewN | apply below_drew1) | exact HB.out)⟩)
            · rw [if_neg c22] at H
              exact absurd H (by simp)
  · replace c5 := Bool.eq_false_iff.mpr c5
    subst c5
    have H1 : (none) = some true := by rw [if_neg (show ¬ (false = true) by decide)] at H; exact H
    clear H
    have H := H1
    clear H1
    exact absurd H (by simp)

/-- THE ONE PURE STATEMENT of withelaw1_BitsOne: yours. -/
def withelaw1_BitsOne.Pure : Prop := ∀ (a0 : Int) (a1 : Int) (a2 : Int), (Lit.int .u64 a0).wf = true → (Lit.int .u8 a1).wf = true → (Lit.int .u8 a2).wf = true → ∃ k, withelaw1_BitsOne.f k a0 a1 a2 = some true
theorem withelaw1_BitsOne.walk (P : withelaw1_BitsOne.Pure) (a0 : Int) (a1 : Int) (a2 : Int) (w : World) (hTab : TabW w) (w0 : (Lit.int .u64 a0).wf = true) (w1 : (Lit.int .u8 a1).wf = true) (w2 : (Lit.int .u8 a2).wf = true) :
    Calls Tryd.prog 5 #[.int .u64 a0, .int .u8 a1, .int .u8 a2] w fun e w' => e = .returned (.bool true) ∧ Below w.heap.size w w' := by
  obtain ⟨k, h⟩ := P a0 a1 a2 w0 w1 w2
  refine (withelaw1_BitsOne.calls k a0 a1 a2 w hTab h).mono ?_
  rintro e w' ⟨rfl, hd⟩
  exact ⟨rfl, hd⟩

/-! ### withelaw1_BitsRanges: function 6 -/
def withelaw1_BitsRanges.l0 : Nat → Int → Int → Int → Int → Int → Option (Bool)
  | 0, _, _, _, _, _ => none
  | k + 1, x7, x8, x9, x10, x11 => if x11 < x9 then ((bits_Put.f x10 x11).bind fun t138 => (withelaw1_BitsRanges.l0 k x7 x8 x9 t138 (wrap64 (x11 + 1)))) else ((bits_Range.f k x7 x9).bind fun t139 => (if t139 = x10 then ((bits_Range.f k x7 x8).bind fun t140 => ((bits_Range.f k x8 x9).bind fun t141 => (if (Go.bits .or .u64 t140 t141) = x10 then ((bits_Range.f k x7 x8).bind fun t142 => ((bits_Range.f k x8 x9).bind fun t143 => (if (Go.bits .and .u64 t142 t143) = 0 then ((bits_Count.f x10).bind fun t144 => (if t144 = (wrap64 (x9 - x7)) then ((bits_Range.f k x9 x7).bind fun t145 => (some (t145 == 0))) else (none))) else (none)))) else (none)))) else (none)))
def withelaw1_BitsRanges.f (k : Nat) (a0 : Int) (a1 : Int) (a2 : Int) : Option (Bool) := (withelaw1_begun.f k).bind fun t137 => (if t137 = true then (if (wrap64 (65 - (wrap64 (Int.tmod a0 65)))) = 0 then (none) else (if (wrap64 (65 - (wrap64 ((wrap64 (Int.tmod a0 65)) + (Int.tmod (wrap64 (a1)) (wrap64 (65 - (wrap64 (Int.tmod a0 65))))))))) = 0 then (none) else (withelaw1_BitsRanges.l0 k (wrap64 (Int.tmod a0 65)) (wrap64 ((wrap64 (Int.tmod a0 65)) + (Int.tmod (wrap64 (a1)) (wrap64 (65 - (wrap64 (Int.tmod a0 65))))))) (wrap64 ((wrap64 ((wrap64 (Int.tmod a0 65)) + (Int.tmod (wrap64 (a1)) (wrap64 (65 - (wrap64 (Int.tmod a0 65))))))) + (Int.tmod (wrap64 (a2)) (wrap64 (65 - (wrap64 ((wrap64 (Int.tmod a0 65)) + (Int.tmod (wrap64 (a1)) (wrap64 (65 - (wrap64 (Int.tmod a0 65)))))))))))) 0 (wrap64 (Int.tmod a0 65))))) else (none))
theorem withelaw1_BitsRanges.mono_l : ∀ k, (∀ y0 y1 y2 y3 y4, LeO (withelaw1_BitsRanges.l0 k y0 y1 y2 y3 y4) (withelaw1_BitsRanges.l0 (k + 1) y0 y1 y2 y3 y4))
  | 0 => fun _ _ _ _ _ r h => by simp [withelaw1_BitsRanges.l0] at h
  | k + 1 => by
    have ih0 := withelaw1_BitsRanges.mono_l k
    · intro y0 y1 y2 y3 y4
      unfold withelaw1_BitsRanges.l0
      repeat' first
      | (with_reducible exact ih0 _ _ _ _ _)
      | (with_reducible exact bits_Range.mono _ _ _)
      | (with_reducible exact withelaw1_begun.mono _)
      | (with_reducible exact LeO.refl _)
      | (with_reducible exact LeO.none _)
      | (with_reducible refine LeO.ite ?_ ?_)
      | (with_reducible refine LeO.bind ?_ (fun _ => ?_))
      | exact ih0 _ _ _ _ _
      | exact bits_Range.mono _ _ _
      | exact withelaw1_begun.mono _
      | exact LeO.none _
      | refine LeO.ite ?_ ?_
      | refine LeO.bind ?_ (fun _ => ?_)
theorem withelaw1_BitsRanges.mono : ∀ a0 a1 a2 k, LeO (withelaw1_BitsRanges.f k a0 a1 a2) (withelaw1_BitsRanges.f (k + 1) a0 a1 a2) := by
  intro a0 a1 a2 k
  have ih0 := withelaw1_BitsRanges.mono_l k
  unfold withelaw1_BitsRanges.f
  repeat' first
      | (with_reducible exact ih0 _ _ _ _ _)
      | (with_reducible exact bits_Range.mono _ _ _)
      | (with_reducible exact withelaw1_begun.mono _)
      | (with_reducible exact LeO.refl _)
      | (with_reducible exact LeO.none _)
      | (with_reducible refine LeO.ite ?_ ?_)
      | (with_reducible refine LeO.bind ?_ (fun _ => ?_))
      | exact ih0 _ _ _ _ _
      | exact bits_Range.mono _ _ _
      | exact withelaw1_begun.mono _
      | exact LeO.none _
      | refine LeO.ite ?_ ?_
      | refine LeO.bind ?_ (fun _ => ?_)
set_option maxHeartbeats 8000000 in
set_option maxRecDepth 100000 in
theorem withelaw1_BitsRanges.calls (k : Nat) (a0 : Int) (a1 : Int) (a2 : Int) (w : World) (hTab : TabW w) (h : withelaw1_BitsRanges.f k a0 a1 a2 = some true) :
    Calls Tryd.prog 6 #[.int .u8 a0, .int .u8 a1, .int .u8 a2] w fun e w' => e = .returned (.bool true) ∧ Below w.heap.size w w' := by
  have HB := Aside0.mk (Below.refl w.heap.size w)
  have H : ((withelaw1_begun.f k).bind fun t137 => (if t137 = true then (if (wrap64 (65 - (wrap64 (Int.tmod a0 65)))) = 0 then (none) else (if (wrap64 (65 - (wrap64 ((wrap64 (Int.tmod a0 65)) + (Int.tmod (wrap64 (a1)) (wrap64 (65 - (wrap64 (Int.tmod a0 65))))))))) = 0 then (none) else (withelaw1_BitsRanges.l0 k (wrap64 (Int.tmod a0 65)) (wrap64 ((wrap64 (Int.tmod a0 65)) + (Int.tmod (wrap64 (a1)) (wrap64 (65 - (wrap64 (Int.tmod a0 65))))))) (wrap64 ((wrap64 ((wrap64 (Int.tmod a0 65)) + (Int.tmod (wrap64 (a1)) (wrap64 (65 - (wrap64 (Int.tmod a0 65))))))) + (Int.tmod (wrap64 (a2)) (wrap64 (65 - (wrap64 ((wrap64 (Int.tmod a0 65)) + (Int.tmod (wrap64 (a1)) (wrap64 (65 - (wrap64 (Int.tmod a0 65)))))))))))) 0 (wrap64 (Int.tmod a0 65))))) else (none))) = some true := h
  clear h
  replace H := Option.bind_eq_some_iff.mp H
  obtain ⟨t137, A40, H⟩ := H
  replace H : (if t137 = true then (if (wrap64 (65 - (wrap64 (Int.tmod a0 65)))) = 0 then (none) else (if (wrap64 (65 - (wrap64 ((wrap64 (Int.tmod a0 65)) + (Int.tmod (wrap64 (a1)) (wrap64 (65 - (wrap64 (Int.tmod a0 65))))))))) = 0 then (none) else (withelaw1_BitsRanges.l0 k (wrap64 (Int.tmod a0 65)) (wrap64 ((wrap64 (Int.tmod a0 65)) + (Int.tmod (wrap64 (a1)) (wrap64 (65 - (wrap64 (Int.tmod a0 65))))))) (wrap64 ((wrap64 ((wrap64 (Int.tmod a0 65)) + (Int.tmod (wrap64 (a1)) (wrap64 (65 - (wrap64 (Int.tmod a0 65))))))) + (Int.tmod (wrap64 (a2)) (wrap64 (65 - (wrap64 ((wrap64 (Int.tmod a0 65)) + (Int.tmod (wrap64 (a1)) (wrap64 (65 - (wrap64 (Int.tmod a0 65)))))))))))) 0 (wrap64 (Int.tmod a0 65))))) else (none)) = some true := H
  have A4 := Aside0.mk A40
  clear A40
  by_cases c5 : t137 = true
  · subst c5
    have H1 : (if (wrap64 (65 - (wrap64 (Int.tmod a0 65)))) = 0 then (none) else (if (wrap64 (65 - (wrap64 ((wrap64 (Int.tmod a0 65)) + (Int.tmod (wrap64 (a1)) (wrap64 (65 - (wrap64 (Int.tmod a0 65))))))))) = 0 then (none) else (withelaw1_BitsRanges.l0 k (wrap64 (Int.tmod a0 65)) (wrap64 ((wrap64 (Int.tmod a0 65)) + (Int.tmod (wrap64 (a1)) (wrap64 (65 - (wrap64 (Int.tmod a0 65))))))) (wrap64 ((wrap64 ((wrap64 (Int.tmod a0 65)) + (Int.tmod (wrap64 (a1)) (wrap64 (65 - (wrap64 (Int.tmod a0 65))))))) + (Int.tmod (wrap64 (a2)) (wrap64 (65 - (wrap64 ((wrap64 (Int.tmod a0 65)) + (Int.tmod (wrap64 (a1)) (wrap64 (65 - (wrap64 (Int.tmod a0 65)))))))))))) 0 (wrap64 (Int.tmod a0 65))))) = some true := by rw [if_pos rfl] at H; exact H
    clear H
    have H := H1
    clear H1
    by_cases c6 : (wrap64 (65 - (wrap64 (Int.tmod a0 65)))) = 0
    · rw [if_pos c6] at H
      exact absurd H (by simp)
    · rw [if_neg c6] at H
      have c6b0 : ((wrap64 (65 - (wrap64 (Int.tmod a0 65)))) == 0) = false := beq_eq_false_iff_ne.mpr c6
      have c6b1 : ((wrap64 (65 - (wrap64 (Int.tmod a0 65)))) != 0) = true := bne_iff_ne.mpr c6
      by_cases c7 : (wrap64 (65 - (wrap64 ((wrap64 (Int.tmod a0 65)) + (Int.tmod (wrap64 (a1)) (wrap64 (65 - (wrap64 (Int.tmod a0 65))))))))) = 0
      · rw [if_pos c7] at H
        exact absurd H (by simp)
      · rw [if_neg c7] at H
        have c7b0 : ((wrap64 (65 - (wrap64 ((wrap64 (Int.tmod a0 65)) + (Int.tmod (wrap64 (a1)) (wrap64 (65 - (wrap64 (Int.tmod a0 65))))))))) == 0) = false := beq_eq_false_iff_ne.mpr c7
        have c7b1 : ((wrap64 (65 - (wrap64 ((wrap64 (Int.tmod a0 65)) + (Int.tmod (wrap64 (a1)) (wrap64 (65 - (wrap64 (Int.tmod a0 65))))))))) != 0) = true := bne_iff_ne.mpr c7
        have H' := Aside0.mk H
        clear H
        go_enter Tryd.func6, Tryd.ntmps6
        go_wp2_with (first | ((with_reducible refine gate_callee (f := 8) rfl ?_); refine goesL_ (some 12) rfl rfl Tryd.func8 (by kernel_rfl) rfl #[] rfl (by (try simp only [List.map_toArray, List.map_cons, List.map_nil]); first | done | rfl | (simp only [List.length_drop, List.length_take]; rfl)) ?_; (with_reducible refine (withelaw1_begun.calls k  true _ (by first | exact hTab | (repeat (first | exact hTab | exact TabW.below hTab HB.out | (with_reducible apply TabW.drewN) | (with_reducible apply TabW.drew) | (with_reducible apply TabW.alloc)))) A4.out).mono ?_); rintro e w8 ⟨rfl, hb⟩; refine ⟨_, rfl, ?_⟩; have n0_ := Aside0.mk (below_step (by repeat (first | (with_reducible first | exact HB.out | apply below_alloc | apply pw_below_drewN | apply below_drew1) | exact HB.out)) hb); clear HB; have HB := n0_; clear n0_; (try clear hb); (try clear hb2); (try clear hk); (try clear hi)) | (go_at_call 8; (with_reducible refine (withelaw1_begun.calls k  true _ (by first | exact hTab | (repeat (first | exact hTab | exact TabW.below hTab HB.out | (with_reducible apply TabW.drewN) | (with_reducible apply TabW.drew) | (with_reducible apply TabW.alloc)))) A4.out).mono ?_); rintro e w8 ⟨rfl, hb⟩; have n0_ := Aside0.mk (below_step (by repeat (first | (with_reducible first | exact HB.out | apply below_alloc | apply pw_below_drewN | apply below_drew1) | exact HB.out)) hb); clear HB; have HB := n0_; clear n0_; (try clear hb); (try clear hb2); (try clear hk); (try clear hi)))
        go_loopg [10, 11] k (fun kq v10 v11 w' => ∃ (x10_1 : Int) (x11_1 : Int), v10 = .int .u64 x10_1 ∧ v11 = .int .i64 x11_1 ∧ Aside0 (withelaw1_BitsRanges.l0 kq (wrap64 (Int.tmod a0 65)) (wrap64 ((wrap64 (Int.tmod a0 65)) + (Int.tmod (wrap64 (a1)) (wrap64 (65 - (wrap64 (Int.tmod a0 65))))))) (wrap64 ((wrap64 ((wrap64 (Int.tmod a0 65)) + (Int.tmod (wrap64 (a1)) (wrap64 (65 - (wrap64 (Int.tmod a0 65))))))) + (Int.tmod (wrap64 (a2)) (wrap64 (65 - (wrap64 ((wrap64 (Int.tmod a0 65)) + (Int.tmod (wrap64 (a1)) (wrap64 (65 - (wrap64 (Int.tmod a0 65)))))))))))) x10_1 x11_1 = some true) ∧ Aside0 (kq ≤ k) ∧ Aside0 (Below w.heap.size w w'))
        case atStart => exact ⟨(0), (wrap64 (Int.tmod a0 65)), (by first | rfl | (simp; done) | (simp [*]; done)), (by first | rfl | (simp; done) | (simp [*]; done)), H', ⟨Nat.le_refl _⟩, ⟨by repeat (first | (with_reducible first | exact HB.out | apply below_alloc | apply pw_below_drewN | apply below_drew1) | exact HB.out)⟩⟩
        case round =>
          clear H'
          try clear p2
          try clear c5
          try clear c6
          try clear c6b0
          try clear c6b1
          try clear p6
          try clear c7
          try clear c7b0
          try clear c7b1
          try clear c8
          obtain ⟨x10_1, x11_1, rfl, rfl, HA, HK1, HB⟩ := hrel
          cases gk with
          | zero => exact absurd HA.out (by simp [withelaw1_BitsRanges.l0])
          | succ k1 =>
            have H := HA.out
            clear HA
            simp only [withelaw1_BitsRanges.l0] at H
            by_cases c9 : x11_1 < (wrap64 ((wrap64 ((wrap64 (Int.tmod a0 65)) + (Int.tmod (wrap64 (a1)) (wrap64 (65 - (wrap64 (Int.tmod a0 65))))))) + (Int.tmod (wrap64 (a2)) (wrap64 (65 - (wrap64 ((wrap64 (Int.tmod a0 65)) + (Int.tmod (wrap64 (a1)) (wrap64 (65 - (wrap64 (Int.tmod a0 65))))))))))))
            · rw [if_pos c9] at H
              have c9b0 : decide (x11_1 < (wrap64 ((wrap64 ((wrap64 (Int.tmod a0 65)) + (Int.tmod (wrap64 (a1)) (wrap64 (65 - (wrap64 (Int.tmod a0 65))))))) + (Int.tmod (wrap64 (a2)) (wrap64 (65 - (wrap64 ((wrap64 (Int.tmod a0 65)) + (Int.tmod (wrap64 (a1)) (wrap64 (65 - (wrap64 (Int.tmod a0 65))))))))))))) = true := decide_eq_true c9
              clear c9
              replace H := Option.bind_eq_some_iff.mp H
              obtain ⟨t138, A100, H⟩ := H
              replace H : (withelaw1_BitsRanges.l0 k1 (wrap64 (Int.tmod a0 65)) (wrap64 ((wrap64 (Int.tmod a0 65)) + (Int.tmod (wrap64 (a1)) (wrap64 (65 - (wrap64 (Int.tmod a0 65))))))) (wrap64 ((wrap64 ((wrap64 (Int.tmod a0 65)) + (Int.tmod (wrap64 (a1)) (wrap64 (65 - (wrap64 (Int.tmod a0 65))))))) + (Int.tmod (wrap64 (a2)) (wrap64 (65 - (wrap64 ((wrap64 (Int.tmod a0 65)) + (Int.tmod (wrap64 (a1)) (wrap64 (65 - (wrap64 (Int.tmod a0 65)))))))))))) t138 (wrap64 (x11_1 + 1))) = some true := H
              have A10 := Aside0.mk A100
              clear A100
              have H' := Aside0.mk H
              clear H
              go_wp2_with (first | ((with_reducible refine gate_callee (f := 18) rfl ?_); refine goesL_ (some 39) rfl rfl Tryd.func18 (by kernel_rfl) rfl #[.int .u64 x10_1, .int .i64 x11_1] rfl (by (try simp only [List.map_toArray, List.map_cons, List.map_nil]); first | done | rfl | (simp only [List.length_drop, List.length_take]; rfl)) ?_; (with_reducible refine (bits_Put.calls x10_1 x11_1 t138 _ A10.out).mono ?_); rintro e w' ⟨rfl, ⟨nd, rfl⟩⟩; refine ⟨_, rfl, ?_⟩) | (go_at_call 18; (with_reducible refine (bits_Put.calls x10_1 x11_1 t138 _ A10.out).mono ?_); rintro e w' ⟨rfl, ⟨nd, rfl⟩⟩))
              go_roundg k1
              case measure => have := HK1.out; omega
              case rel => exact ⟨(t138), (wrap64 (x11_1 + 1)), (by first | rfl | (simp; done) | (simp [*]; done)), (by first | rfl | (simp; done) | (simp [*]; done)), H', ⟨by have := HK1.out; omega⟩, ⟨by repeat (first | (with_reducible first | exact HB.out | apply below_alloc | apply pw_below_drewN | apply below_drew1) | exact HB.out)⟩⟩
            · rw [if_neg c9] at H
              have c9b0 : decide (x11_1 < (wrap64 ((wrap64 ((wrap64 (Int.tmod a0 65)) + (Int.tmod (wrap64 (a1)) (wrap64 (65 - (wrap64 (Int.tmod a0 65))))))) + (Int.tmod (wrap64 (a2)) (wrap64 (65 - (wrap64 ((wrap64 (Int.tmod a0 65)) + (Int.tmod (wrap64 (a1)) (wrap64 (65 - (wrap64 (Int.tmod a0 65))))))))))))) = false := decide_eq_false c9
              clear c9
              replace H := Option.bind_eq_some_iff.mp H
              obtain ⟨t139, A110, H⟩ := H
              replace H : (if t139 = x10_1 then ((bits_Range.f k1 (wrap64 (Int.tmod a0 65)) (wrap64 ((wrap64 (Int.tmod a0 65)) + (Int.tmod (wrap64 (a1)) (wrap64 (65 - (wrap64 (Int.tmod a0 65)))))))).bind fun t140 => ((bits_Range.f k1 (wrap64 ((wrap64 (Int.tmod a0 65)) + (Int.tmod (wrap64 (a1)) (wrap64 (65 - (wrap64 (Int.tmod a0 65))))))) (wrap64 ((wrap64 ((wrap64 (Int.tmod a0 65)) + (Int.tmod (wrap64 (a1)) (wrap64 (65 - (wrap64 (Int.tmod a0 65))))))) + (Int.tmod (wrap64 (a2)) (wrap64 (65 - (wrap64 ((wrap64 (Int.tmod a0 65)) + (Int.tmod (wrap64 (a1)) (wrap64 (65 - (wrap64 (Int.tmod a0 65))))))))))))).bind fun t141 => (if (Go.bits .or .u64 t140 t141) = x10_1 then ((bits_Range.f k1 (wrap64 (Int.tmod a0 65)) (wrap64 ((wrap64 (Int.tmod a0 65)) + (Int.tmod (wrap64 (a1)) (wrap64 (65 - (wrap64 (Int.tmod a0 65)))))))).bind fun t142 => ((bits_Range.f k1 (wrap64 ((wrap64 (Int.tmod a0 65)) + (Int.tmod (wrap64 (a1)) (wrap64 (65 - (wrap64 (Int.tmod a0 65))))))) (wrap64 ((wrap64 ((wrap64 (Int.tmod a0 65)) + (Int.tmod (wrap64 (a1)) (wrap64 (65 - (wrap64 (Int.tmod a0 65))))))) + (Int.tmod (wrap64 (a2)) (wrap64 (65 - (wrap64 ((wrap64 (Int.tmod a0 65)) + (Int.tmod (wrap64 (a1)) (wrap64 (65 - (wrap64 (Int.tmod a0 65))))))))))))).bind fun t143 => (if (Go.bits .and .u64 t142 t143) = 0 then ((bits_Count.f x10_1).bind fun t144 => (if t144 = (wrap64 ((wrap64 ((wrap64 ((wrap64 (Int.tmod a0 65)) + (Int.tmod (wrap64 (a1)) (wrap64 (65 - (wrap64 (Int.tmod a0 65))))))) + (Int.tmod (wrap64 (a2)) (wrap64 (65 - (wrap64 ((wrap64 (Int.tmod a0 65)) + (Int.tmod (wrap64 (a1)) (wrap64 (65 - (wrap64 (Int.tmod a0 65)))))))))))) - (wrap64 (Int.tmod a0 65)))) then ((bits_Range.f k1 (wrap64 ((wrap64 ((wrap64 (Int.tmod a0 65)) + (Int.tmod (wrap64 (a1)) (wrap64 (65 - (wrap64 (Int.tmod a0 65))))))) + (Int.tmod (wrap64 (a2)) (wrap64 (65 - (wrap64 ((wrap64 (Int.tmod a0 65)) + (Int.tmod (wrap64 (a1)) (wrap64 (65 - (wrap64 (Int.tmod a0 65)))))))))))) (wrap64 (Int.tmod a0 65))).bind fun t145 => (some (t145 == 0))) else (none))) else (none)))) else (none)))) else (none)) = some true := H
              have A11 := Aside0.mk A110
              clear A110
              by_cases c12 : t139 = x10_1
              · rw [if_pos c12] at H
                have c12b0 : (t139 == x10_1) = true := beq_iff_eq.mpr c12
                have c12b1 : (t139 != x10_1) = false := bne_eq_false_iff_eq.mpr c12
                clear c12
                replace H := Option.bind_eq_some_iff.mp H
                obtain ⟨t140, A130, H⟩ := H
                replace H : ((bits_Range.f k1 (wrap64 ((wrap64 (Int.tmod a0 65)) + (Int.tmod (wrap64 (a1)) (wrap64 (65 - (wrap64 (Int.tmod a0 65))))))) (wrap64 ((wrap64 ((wrap64 (Int.tmod a0 65)) + (Int.tmod (wrap64 (a1)) (wrap64 (65 - (wrap64 (Int.tmod a0 65))))))) + (Int.tmod (wrap64 (a2)) (wrap64 (65 - (wrap64 ((wrap64 (Int.tmod a0 65)) + (Int.tmod (wrap64 (a1)) (wrap64 (65 - (wrap64 (Int.tmod a0 65))))))))))))).bind fun t141 => (if (Go.bits .or .u64 t140 t141) = x10_1 then ((bits_Range.f k1 (wrap64 (Int.tmod a0 65)) (wrap64 ((wrap64 (Int.tmod a0 65)) + (Int.tmod (wrap64 (a1)) (wrap64 (65 - (wrap64 (Int.tmod a0 65)))))))).bind fun t142 => ((bits_Range.f k1 (wrap64 ((wrap64 (Int.tmod a0 65)) + (Int.tmod (wrap64 (a1)) (wrap64 (65 - (wrap64 (Int.tmod a0 65))))))) (wrap64 ((wrap64 ((wrap64 (Int.tmod a0 65)) + (Int.tmod (wrap64 (a1)) (wrap64 (65 - (wrap64 (Int.tmod a0 65))))))) + (Int.tmod (wrap64 (a2)) (wrap64 (65 - (wrap64 ((wrap64 (Int.tmod a0 65)) + (Int.tmod (wrap64 (a1)) (wrap64 (65 - (wrap64 (Int.tmod a0 65))))))))))))).bind fun t143 => (if (Go.bits .and .u64 t142 t143) = 0 then ((bits_Count.f x10_1).bind fun t144 => (if t144 = (wrap64 ((wrap64 ((wrap64 ((wrap64 (Int.tmod a0 65)) + (Int.tmod (wrap64 (a1)) (wrap64 (65 - (wrap64 (Int.tmod a0 65))))))) + (Int.tmod (wrap64 (a2)) (wrap64 (65 - (wrap64 ((wrap64 (Int.tmod a0 65)) + (Int.tmod (wrap64 (a1)) (wrap64 (65 - (wrap64 (Int.tmod a0 65)))))))))))) - (wrap64 (Int.tmod a0 65)))) then ((bits_Range.f k1 (wrap64 ((wrap64 ((wrap64 (Int.tmod a0 65)) + (Int.tmod (wrap64 (a1)) (wrap64 (65 - (wrap64 (Int.tmod a0 65))))))) + (Int.tmod (wrap64 (a2)) (wrap64 (65 - (wrap64 ((wrap64 (Int.tmod a0 65)) + (Int.tmod (wrap64 (a1)) (wrap64 (65 - (wrap64 (Int.tmod a0 65)))))))))))) (wrap64 (Int.tmod a0 65))).bind fun t145 => (some (t145 == 0))) else (none))) else (none)))) else (none))) = some true := H
                have A13 := Aside0.mk A130
                clear A130
                replace H := Option.bind_eq_some_iff.mp H
                obtain ⟨t141, A140, H⟩ := H
                replace H : (if (Go.bits .or .u64 t140 t141) = x10_1 then ((bits_Range.f k1 (wrap64 (Int.tmod a0 65)) (wrap64 ((wrap64 (Int.tmod a0 65)) + (Int.tmod (wrap64 (a1)) (wrap64 (65 - (wrap64 (Int.tmod a0 65)))))))).bind fun t142 => ((bits_Range.f k1 (wrap64 ((wrap64 (Int.tmod a0 65)) + (Int.tmod (wrap64 (a1)) (wrap64 (65 - (wrap64 (Int.tmod a0 65))))))) (wrap64 ((wrap64 ((wrap64 (Int.tmod a0 65)) + (Int.tmod (wrap64 (a1)) (wrap64 (65 - (wrap64 (Int.tmod a0 65))))))) + (Int.tmod (wrap64 (a2)) (wrap64 (65 - (wrap64 ((wrap64 (Int.tmod a0 65)) + (Int.tmod (wrap64 (a1)) (wrap64 (65 - (wrap64 (Int.tmod a0 65))))))))))))).bind fun t143 => (if (Go.bits .and .u64 t142 t143) = 0 then ((bits_Count.f x10_1).bind fun t144 => (if t144 = (wrap64 ((wrap64 ((wrap64 ((wrap64 (Int.tmod a0 65)) + (Int.tmod (wrap64 (a1)) (wrap64 (65 - (wrap64 (Int.tmod a0 65))))))) + (Int.tmod (wrap64 (a2)) (wrap64 (65 - (wrap64 ((wrap64 (Int.tmod a0 65)) + (Int.tmod (wrap64 (a1)) (wrap64 (65 - (wrap64 (Int.tmod a0 65)))))))))))) - (wrap64 (Int.tmod a0 65)))) then ((bits_Range.f k1 (wrap64 ((wrap64 ((wrap64 (Int.tmod a0 65)) + (Int.tmod (wrap64 (a1)) (wrap64 (65 - (wrap64 (Int.tmod a0 65))))))) + (Int.tmod (wrap64 (a2)) (wrap64 (65 - (wrap64 ((wrap64 (Int.tmod a0 65)) + (Int.tmod (wrap64 (a1)) (wrap64 (65 - (wrap64 (Int.tmod a0 65)))))))))))) (wrap64 (Int.tmod a0 65))).bind fun t145 => (some (t145 == 0))) else (none))) else (none)))) else (none)) = some true := H
                have A14 := Aside0.mk A140
                clear A140
                by_cases c15 : (Go.bits .or .u64 t140 t141) = x10_1
                · rw [if_pos c15] at H
                  have c15b0 : ((Go.bits .or .u64 t140 t141) == x10_1) = true := beq_iff_eq.mpr c15
                  have c15b1 : ((Go.bits .or .u64 t140 t141) != x10_1) = false := bne_eq_false_iff_eq.mpr c15
                  clear c15
                  replace H := Option.bind_eq_some_iff.mp H
                  obtain ⟨t142, A160, H⟩ := H
                  have EA160 : t142 = t140 := Option.some.inj (A160.symm.trans A13.out)
                  clear A160; subst t142; have A160 := A13.out
                  replace H : ((bits_Range.f k1 (wrap64 ((wrap64 (Int.tmod a0 65)) + (Int.tmod (wrap64 (a1)) (wrap64 (65 - (wrap64 (Int.tmod a0 65))))))) (wrap64 ((wrap64 ((wrap64 (Int.tmod a0 65)) + (Int.tmod (wrap64 (a1)) (wrap64 (65 - (wrap64 (Int.tmod a0 65))))))) + (Int.tmod (wrap64 (a2)) (wrap64 (65 - (wrap64 ((wrap64 (Int.tmod a0 65)) + (Int.tmod (wrap64 (a1)) (wrap64 (65 - (wrap64 (Int.tmod a0 65))))))))))))).bind fun t143 => (if (Go.bits .and .u64 t140 t143) = 0 then ((bits_Count.f x10_1).bind fun t144 => (if t144 = (wrap64 ((wrap64 ((wrap64 ((wrap64 (Int.tmod a0 65)) + (Int.tmod (wrap64 (a1)) (wrap64 (65 - (wrap64 (Int.tmod a0 65))))))) + (Int.tmod (wrap64 (a2)) (wrap64 (65 - (wrap64 ((wrap64 (Int.tmod a0 65)) + (Int.tmod (wrap64 (a1)) (wrap64 (65 - (wrap64 (Int.tmod a0 65)))))))))))) - (wrap64 (Int.tmod a0 65)))) then ((bits_Range.f k1 (wrap64 ((wrap64 ((wrap64 (Int.tmod a0 65)) + (Int.tmod (wrap64 (a1)) (wrap64 (65 - (wrap64 (Int.tmod a0 65))))))) + (Int.tmod (wrap64 (a2)) (wrap64 (65 - (wrap64 ((wrap64 (Int.tmod a0 65)) + (Int.tmod (wrap64 (a1)) (wrap64 (65 - (wrap64 (Int.tmod a0 65)))))))))))) (wrap64 (Int.tmod a0 65))).bind fun t145 => (some (t145 == 0))) else (none))) else (none))) = some true := H
                  have A16 := Aside0.mk A160
                  clear A160
                  replace H := Option.bind_eq_some_iff.mp H
                  obtain ⟨t143, A170, H⟩ := H
                  have EA170 : t143 = t141 := Option.some.inj (A170.symm.trans A14.out)
                  clear A170; subst t143; have A170 := A14.out
                  replace H : (if (Go.bits .and .u64 t140 t141) = 0 then ((bits_Count.f x10_1).bind fun t144 => (if t144 = (wrap64 ((wrap64 ((wrap64 ((wrap64 (Int.tmod a0 65)) + (Int.tmod (wrap64 (a1)) (wrap64 (65 - (wrap64 (Int.tmod a0 65))))))) + (Int.tmod (wrap64 (a2)) (wrap64 (65 - (wrap64 ((wrap64 (Int.tmod a0 65)) + (Int.tmod (wrap64 (a1)) (wrap64 (65 - (wrap64 (Int.tmod a0 65)))))))))))) - (wrap64 (Int.tmod a0 65)))) then ((bits_Range.f k1 (wrap64 ((wrap64 ((wrap64 (Int.tmod a0 65)) + (Int.tmod (wrap64 (a1)) (wrap64 (65 - (wrap64 (Int.tmod a0 65))))))) + (Int.tmod (wrap64 (a2)) (wrap64 (65 - (wrap64 ((wrap64 (Int.tmod a0 65)) + (Int.tmod (wrap64 (a1)) (wrap64 (65 - (wrap64 (Int.tmod a0 65)))))))))))) (wrap64 (Int.tmod a0 65))).bind fun t145 => (some (t145 == 0))) else (none))) else (none)) = some true := H
                  have A17 := Aside0.mk A170
                  clear A170
                  by_cases c18 : (Go.bits .and .u64 t140 t141) = 0
                  · rw [if_pos c18] at H
                    have c18b0 : ((Go.bits .and .u64 t140 t141) == 0) = true := beq_iff_eq.mpr c18
                    have c18b1 : ((Go.bits .and .u64 t140 t141) != 0) = false := bne_eq_false_iff_eq.mpr c18
                    clear c18
                    replace H := Option.bind_eq_some_iff.mp H
                    obtain ⟨t144, A190, H⟩ := H
                    replace H : (if t144 = (wrap64 ((wrap64 ((wrap64 ((wrap64 (Int.tmod a0 65)) + (Int.tmod (wrap64 (a1)) (wrap64 (65 - (wrap64 (Int.tmod a0 65))))))) + (Int.tmod (wrap64 (a2)) (wrap64 (65 - (wrap64 ((wrap64 (Int.tmod a0 65)) + (Int.tmod (wrap64 (a1)) (wrap64 (65 - (wrap64 (Int.tmod a0 65)))))))))))) - (wrap64 (Int.tmod a0 65)))) then ((bits_Range.f k1 (wrap64 ((wrap64 ((wrap64 (Int.tmod a0 65)) + (Int.tmod (wrap64 (a1)) (wrap64 (65 - (wrap64 (Int.tmod a0 65))))))) + (Int.tmod (wrap64 (a2)) (wrap64 (65 - (wrap64 ((wrap64 (Int.tmod a0 65)) + (Int.tmod (wrap64 (a1)) (wrap64 (65 - (wrap64 (Int.tmod a0 65)))))))))))) (wrap64 (Int.tmod a0 65))).bind fun t145 => (some (t145 == 0))) else (none)) = some true := H
                    have A19 := Aside0.mk A190
                    clear A190
                    by_cases c20 : t144 = (wrap64 ((wrap64 ((wrap64 ((wrap64 (Int.tmod a0 65)) + (Int.tmod (wrap64 (a1)) (wrap64 (65 - (wrap64 (Int.tmod a0 65))))))) + (Int.tmod (wrap64 (a2)) (wrap64 (65 - (wrap64 ((wrap64 (Int.tmod a0 65)) + (Int.tmod (wrap64 (a1)) (wrap64 (65 - (wrap64 (Int.tmod a0 65)))))))))))) - (wrap64 (Int.tmod a0 65))))
                    · rw [if_pos c20] at H
                      have c20b0 : (t144 == (wrap64 ((wrap64 ((wrap64 ((wrap64 (Int.tmod a0 65)) + (Int.tmod (wrap64 (a1)) (wrap64 (65 - (wrap64 (Int.tmod a0 65))))))) + (Int.tmod (wrap64 (a2)) (wrap64 (65 - (wrap64 ((wrap64 (Int.tmod a0 65)) + (Int.tmod (wrap64 (a1)) (wrap64 (65 - (wrap64 (Int.tmod a0 65)))))))))))) - (wrap64 (Int.tmod a0 65))))) = true := beq_iff_eq.mpr c20
                      have c20b1 : (t144 != (wrap64 ((wrap64 ((wrap64 ((wrap64 (Int.tmod a0 65)) + (Int.tmod (wrap64 (a1)) (wrap64 (65 - (wrap64 (Int.tmod a0 65))))))) + (Int.tmod (wrap64 (a2)) (wrap64 (65 - (wrap64 ((wrap64 (Int.tmod a0 65)) + (Int.tmod (wrap64 (a1)) (wrap64 (65 - (wrap64 (Int.tmod a0 65)))))))))))) - (wrap64 (Int.tmod a0 65))))) = false := bne_eq_false_iff_eq.mpr c20
                      clear c20
                      replace H := Option.bind_eq_some_iff.mp H
                      obtain ⟨t145, A210, H⟩ := H
                      replace H : (some (t145 == 0)) = some true := H
                      have A21 := Aside0.mk A210
                      clear A210
                      first
                        | exact absurd (Option.some.inj H) (by decide)
                        | (have HT := Option.some.inj H
                           go_wp2_with (first | ((with_reducible refine gate_callee (f := 14) rfl ?_); refine goesL_ (some 42) rfl rfl Tryd.func14 (by kernel_rfl) rfl #[.int .i64 (wrap64 (Int.tmod a0 65)), .int .i64 (wrap64 ((wrap64 ((wrap64 (Int.tmod a0 65)) + (Int.tmod (wrap64 (a1)) (wrap64 (65 - (wrap64 (Int.tmod a0 65))))))) + (Int.tmod (wrap64 (a2)) (wrap64 (65 - (wrap64 ((wrap64 (Int.tmod a0 65)) + (Int.tmod (wrap64 (a1)) (wrap64 (65 - (wrap64 (Int.tmod a0 65))))))))))))] rfl (by (try simp only [List.map_toArray, List.map_cons, List.map_nil]); first | done | rfl | (simp only [List.length_drop, List.length_take]; rfl)) ?_; (with_reducible refine (bits_Range.calls k1 (wrap64 (Int.tmod a0 65)) (wrap64 ((wrap64 ((wrap64 (Int.tmod a0 65)) + (Int.tmod (wrap64 (a1)) (wrap64 (65 - (wrap64 (Int.tmod a0 65))))))) + (Int.tmod (wrap64 (a2)) (wrap64 (65 - (wrap64 ((wrap64 (Int.tmod a0 65)) + (Int.tmod (wrap64 (a1)) (wrap64 (65 - (wrap64 (Int.tmod a0 65)))))))))))) t139 _ A11.out).mono ?_); rintro e w22 ⟨rfl, hb⟩; refine ⟨_, rfl, ?_⟩; have n0_ := Aside0.mk (below_step (by repeat (first | (with_reducible first | exact HB.out | apply below_alloc | apply pw_below_drewN | apply below_drew1) | exact HB.out)) hb); clear HB; have HB := n0_; clear n0_; (try clear hb); (try clear hb2); (try clear hk); (try clear hi)) | (go_at_call 14; (with_reducible refine (bits_Range.calls k1 (wrap64 (Int.tmod a0 65)) (wrap64 ((wrap64 ((wrap64 (Int.tmod a0 65)) + (Int.tmod (wrap64 (a1)) (wrap64 (65 - (wrap64 (Int.tmod a0 65))))))) + (Int.tmod (wrap64 (a2)) (wrap64 (65 - (wrap64 ((wrap64 (Int.tmod a0 65)) + (Int.tmod (wrap64 (a1)) (wrap64 (65 - (wrap64 (Int.tmod a0 65)))))))))))) t139 _ A11.out).mono ?_); rintro e w22 ⟨rfl, hb⟩; have n0_ := Aside0.mk (below_step (by repeat (first | (with_reducible first | exact HB.out | apply below_alloc | apply pw_below_drewN | apply below_drew1) | exact HB.out)) hb); clear HB; have HB := n0_; clear n0_; (try clear hb); (try clear hb2); (try clear hk); (try clear hi)) | (go_at_call 14; (with_reducible refine (bits_Range.calls k1 (wrap64 (Int.tmod a0 65)) (wrap64 ((wrap64 (Int.tmod a0 65)) + (Int.tmod (wrap64 (a1)) (wrap64 (65 - (wrap64 (Int.tmod a0 65))))))) t140 _ A13.out).mono ?_); rintro e w23 ⟨rfl, hb⟩; have n0_ := Aside0.mk (below_step (by repeat (first | (with_reducible first | exact HB.out | apply below_alloc | apply pw_below_drewN | apply below_drew1) | exact HB.out)) hb); clear HB; have HB := n0_; clear n0_; (try clear hb); (try clear hb2); (try clear hk); (try clear hi)) | (go_at_call 14; (with_reducible refine (bits_Range.calls k1 (wrap64 ((wrap64 (Int.tmod a0 65)) + (Int.tmod (wrap64 (a1)) (wrap64 (65 - (wrap64 (Int.tmod a0 65))))))) (wrap64 ((wrap64 ((wrap64 (Int.tmod a0 65)) + (Int.tmod (wrap64 (a1)) (wrap64 (65 - (wrap64 (Int.tmod a0 65))))))) + (Int.tmod (wrap64 (a2)) (wrap64 (65 - (wrap64 ((wrap64 (Int.tmod a0 65)) + (Int.tmod (wrap64 (a1)) (wrap64 (65 - (wrap64 (Int.tmod a0 65)))))))))))) t141 _ A14.out).mono ?_); rintro e w24 ⟨rfl, hb⟩; have n0_ := Aside0.mk (below_step (by repeat (first | (with_reducible first | exact HB.out | apply below_alloc | apply pw_below_drewN | apply below_drew1) | exact HB.out)) hb); clear HB; have HB := n0_; clear n0_; (try clear hb); (try clear hb2); (try clear hk); (try clear hi)) | (go_at_call 14; (with_reducible refine (bits_Range.calls k1 (wrap64 (Int.tmod a0 65)) (wrap64 ((wrap64 (Int.tmod a0 65)) + (Int.tmod (wrap64 (a1)) (wrap64 (65 - (wrap64 (Int.tmod a0 65))))))) t140 _ A16.out).mono ?_); rintro e w25 ⟨rfl, hb⟩; have n0_ := Aside0.mk (below_step (by repeat (first | (with_reducible first | exact HB.out | apply below_alloc | apply pw_below_drewN | apply below_drew1) | exact HB.out)) hb); clear HB; have HB := n0_; clear n0_; (try clear hb); (try clear hb2); (try clear hk); (try clear hi)) | (go_at_call 14; (with_reducible refine (bits_Range.calls k1 (wrap64 ((wrap64 (Int.tmod a0 65)) + (Int.tmod (wrap64 (a1)) (wrap64 (65 - (wrap64 (Int.tmod a0 65))))))) (wrap64 ((wrap64 ((wrap64 (Int.tmod a0 65)) + (Int.tmod (wrap64 (a1)) (wrap64 (65 - (wrap64 (Int.tmod a0 65))))))) + (Int.tmod (wrap64 (a2)) (wrap64 (65 - (wrap64 ((wrap64 (Int.tmod a0 65)) + (Int.tmod (wrap64 (a1)) (wrap64 (65 - (wrap64 (Int.tmod a0 65)))))))))))) t141 _ A17.out).mono ?_); rintro e w26 ⟨rfl, hb⟩; have n0_ := Aside0.mk (below_step (by repeat (first | (with_reducible first | exact HB.out | apply below_alloc | apply pw_below_drewN | apply below_drew1) | exact HB.out)) hb); clear HB; have HB := n0_; clear n0_; (try clear hb); (try clear hb2); (try clear hk); (try clear hi)) | (go_at_call 22; (with_reducible refine (bits_Count.calls x10_1 t144 _ A19.out).mono ?_); rintro e w' ⟨rfl, ⟨nd, rfl⟩⟩) | (go_at_call 14; (with_reducible refine (bits_Range.calls k1 (wrap64 ((wrap64 ((wrap64 (Int.tmod a0 65)) + (Int.tmod (wrap64 (a1)) (wrap64 (65 - (wrap64 (Int.tmod a0 65))))))) + (Int.tmod (wrap64 (a2)) (wrap64 (65 - (wrap64 ((wrap64 (Int.tmod a0 65)) + (Int.tmod (wrap64 (a1)) (wrap64 (65 - (wrap64 (Int.tmod a0 65)))))))))))) (wrap64 (Int.tmod a0 65)) t145 _ A21.out).mono ?_); rintro e w27 ⟨rfl, hb⟩; have n0_ := Aside0.mk (below_step (by repeat (first | (with_reducible first | exact HB.out | apply below_alloc | apply pw_below_drewN | apply below_drew1) | exact HB.out)) hb); clear HB; have HB := n0_; clear n0_; (try clear hb); (try clear hb2); (try clear hk); (try clear hi)))
                           go_ret
                           exact ⟨by first | rfl | (simp [errW_none, errW_some] <;> rfl) | (simp [*, errW_none, errW_some] <;> rfl), by repeat (first | (with_reducible first | exact HB.out | apply below_alloc | apply pw_below_drewN | apply below_drew1) | exact HB.out)⟩)
                    · rw [if_neg c20] at H
                      exact absurd H (by simp)
                  · rw [if_neg c18] at H
                    exact absurd H (by simp)
                · rw [if_neg c15] at H
                  exact absurd H (by simp)
              · rw [if_neg c12] at H
                exact absurd H (by simp)
  · replace c5 := Bool.eq_false_iff.mpr c5
    subst c5
    have H1 : (none) = some true := by rw [if_neg (show ¬ (false = true) by decide)] at H; exact H
    clear H
    have H := H1
    clear H1
    exact absurd H (by simp)

/-- THE ONE PURE STATEMENT of withelaw1_BitsRanges: yours. -/
def withelaw1_BitsRanges.Pure : Prop := ∀ (a0 : Int) (a1 : Int) (a2 : Int), (Lit.int .u8 a0).wf = true → (Lit.int .u8 a1).wf = true → (Lit.int .u8 a2).wf = true → ∃ k, withelaw1_BitsRanges.f k a0 a1 a2 = some true
theorem withelaw1_BitsRanges.walk (P : withelaw1_BitsRanges.Pure) (a0 : Int) (a1 : Int) (a2 : Int) (w : World) (hTab : TabW w) (w0 : (Lit.int .u8 a0).wf = true) (w1 : (Lit.int .u8 a1).wf = true) (w2 : (Lit.int .u8 a2).wf = true) :
    Calls Tryd.prog 6 #[.int .u8 a0, .int .u8 a1, .int .u8 a2] w fun e w' => e = .returned (.bool true) ∧ Below w.heap.size w w' := by
  obtain ⟨k, h⟩ := P a0 a1 a2 w0 w1 w2
  refine (withelaw1_BitsRanges.calls k a0 a1 a2 w hTab h).mono ?_
  rintro e w' ⟨rfl, hd⟩
  exact ⟨rfl, hd⟩

/-! ### withelaw1_BitsWithin: function 7 -/
def withelaw1_BitsWithin.j0 : Nat → Int → Int → Int → Int → Bool → Option (Bool)
  | 0, _, _, _, _, _ => none
  | k + 1, x0, x1, x2, x7, x38 => if x38 = true then (none) else ((bits_Within.f x0 x1).bind fun t151 => (if t151 = true then ((bits_Within.f x1 x2).bind fun t152 => (if t152 = true then ((bits_Within.f x0 x2).bind fun t153 => (if t153 = true then ((bits_Count.f x0).bind fun t154 => ((bits_Count.f x1).bind fun t155 => (if t154 ≤ t155 then ((bits_Count.f (Go.bits .or .u64 x0 x1)).bind fun t156 => ((bits_Count.f x7).bind fun t157 => (some ((wrap64 (t154 + t155)) == (wrap64 (t156 + t157)))))) else (none)))) else (none))) else ((bits_Count.f x0).bind fun t158 => ((bits_Count.f x1).bind fun t159 => (if t158 ≤ t159 then ((bits_Count.f (Go.bits .or .u64 x0 x1)).bind fun t160 => ((bits_Count.f x7).bind fun t161 => (some ((wrap64 (t158 + t159)) == (wrap64 (t160 + t161)))))) else (none)))))) else ((bits_Count.f x0).bind fun t162 => ((bits_Count.f x1).bind fun t163 => ((bits_Count.f (Go.bits .or .u64 x0 x1)).bind fun t164 => ((bits_Count.f x7).bind fun t165 => (some ((wrap64 (t162 + t163)) == (wrap64 (t164 + t165))))))))))
def withelaw1_BitsWithin.f (k : Nat) (a0 : Int) (a1 : Int) (a2 : Int) : Option (Bool) := (withelaw1_begun.f k).bind fun t146 => (if t146 = true then ((bits_Within.f (Go.bits .and .u64 a0 a1) a0).bind fun t147 => (if t147 = true then ((bits_Within.f a0 (Go.bits .or .u64 a0 a1)).bind fun t148 => (if t148 = true then ((bits_Within.f a0 a1).bind fun t149 => (if t149 = true then ((bits_Within.f a1 a0).bind fun t150 => (withelaw1_BitsWithin.j0 k a0 a1 a2 (Go.bits .and .u64 a0 a1) (t150 != (a0 == a1)))) else (withelaw1_BitsWithin.j0 k a0 a1 a2 (Go.bits .and .u64 a0 a1) false))) else (withelaw1_BitsWithin.j0 k a0 a1 a2 (Go.bits .and .u64 a0 a1) true))) else (withelaw1_BitsWithin.j0 k a0 a1 a2 (Go.bits .and .u64 a0 a1) true))) else (none))
theorem withelaw1_BitsWithin.mono_l : ∀ k, (∀ y0 y1 y2 y3 y4, LeO (withelaw1_BitsWithin.j0 k y0 y1 y2 y3 y4) (withelaw1_BitsWithin.j0 (k + 1) y0 y1 y2 y3 y4))
  | 0 => fun _ _ _ _ _ r h => by simp [withelaw1_BitsWithin.j0] at h
  | k + 1 => by
    have ih0 := withelaw1_BitsWithin.mono_l k
    · intro y0 y1 y2 y3 y4
      unfold withelaw1_BitsWithin.j0
      repeat' first
      | (with_reducible exact ih0 _ _ _ _ _)
      | (with_reducible exact withelaw1_begun.mono _)
      | (with_reducible exact LeO.refl _)
      | (with_reducible exact LeO.none _)
      | (with_reducible refine LeO.ite ?_ ?_)
      | (with_reducible refine LeO.bind ?_ (fun _ => ?_))
      | exact ih0 _ _ _ _ _
      | exact withelaw1_begun.mono _
      | exact LeO.none _
      | refine LeO.ite ?_ ?_
      | refine LeO.bind ?_ (fun _ => ?_)
theorem withelaw1_BitsWithin.mono : ∀ a0 a1 a2 k, LeO (withelaw1_BitsWithin.f k a0 a1 a2) (withelaw1_BitsWithin.f (k + 1) a0 a1 a2) := by
  intro a0 a1 a2 k
  have ih0 := withelaw1_BitsWithin.mono_l k
  unfold withelaw1_BitsWithin.f
  repeat' first
      | (with_reducible exact ih0 _ _ _ _ _)
      | (with_reducible exact withelaw1_begun.mono _)
      | (with_reducible exact LeO.refl _)
      | (with_reducible exact LeO.none _)
      | (with_reducible refine LeO.ite ?_ ?_)
      | (with_reducible refine LeO.bind ?_ (fun _ => ?_))
      | exact ih0 _ _ _ _ _
      | exact withelaw1_begun.mono _
      | exact LeO.none _
      | refine LeO.ite ?_ ?_
      | refine LeO.bind ?_ (fun _ => ?_)
set_option maxHeartbeats 8000000 in
set_option maxRecDepth 100000 in
theorem withelaw1_BitsWithin.calls (k : Nat) (a0 : Int) (a1 : Int) (a2 : Int) (w : World) (hTab : TabW w) (h : withelaw1_BitsWithin.f k a0 a1 a2 = some true) :
    Calls Tryd.prog 7 #[.int .u64 a0, .int .u64 a1, .int .u64 a2] w fun e w' => e = .returned (.bool true) ∧ Below w.heap.size w w' := by
  have HB := Aside0.mk (Below.refl w.heap.size w)
  have H : ((withelaw1_begun.f k).bind fun t146 => (if t146 = true then ((bits_Within.f (Go.bits .and .u64 a0 a1) a0).bind fun t147 => (if t147 = true then ((bits_Within.f a0 (Go.bits .or .u64 a0 a1)).bind fun t148 => (if t148 = true then ((bits_Within.f a0 a1).bind fun t149 => (if t149 = true then ((bits_Within.f a1 a0).bind fun t150 => (withelaw1_BitsWithin.j0 k a0 a1 a2 (Go.bits .and .u64 a0 a1) (t150 != (a0 == a1)))) else (withelaw1_BitsWithin.j0 k a0 a1 a2 (Go.bits .and .u64 a0 a1) false))) else (withelaw1_BitsWithin.j0 k a0 a1 a2 (Go.bits .and .u64 a0 a1) true))) else (withelaw1_BitsWithin.j0 k a0 a1 a2 (Go.bits .and .u64 a0 a1) true))) else (none))) = some true := h
  clear h
  replace H := Option.bind_eq_some_iff.mp H
  obtain ⟨t146, A40, H⟩ := H
  replace H : (if t146 = true then ((bits_Within.f (Go.bits .and .u64 a0 a1) a0).bind fun t147 => (if t147 = true then ((bits_Within.f a0 (Go.bits .or .u64 a0 a1)).bind fun t148 => (if t148 = true then ((bits_Within.f a0 a1).bind fun t149 => (if t149 = true then ((bits_Within.f a1 a0).bind fun t150 => (withelaw1_BitsWithin.j0 k a0 a1 a2 (Go.bits .and .u64 a0 a1) (t150 != (a0 == a1)))) else (withelaw1_BitsWithin.j0 k a0 a1 a2 (Go.bits .and .u64 a0 a1) false))) else (withelaw1_BitsWithin.j0 k a0 a1 a2 (Go.bits .and .u64 a0 a1) true))) else (withelaw1_BitsWithin.j0 k a0 a1 a2 (Go.bits .and .u64 a0 a1) true))) else (none)) = some true := H
  have A4 := Aside0.mk A40
  clear A40
  by_cases c5 : t146 = true
  · subst c5
    have H1 : ((bits_Within.f (Go.bits .and .u64 a0 a1) a0).bind fun t147 => (if t147 = true then ((bits_Within.f a0 (Go.bits .or .u64 a0 a1)).bind fun t148 => (if t148 = true then ((bits_Within.f a0 a1).bind fun t149 => (if t149 = true then ((bits_Within.f a1 a0).bind fun t150 => (withelaw1_BitsWithin.j0 k a0 a1 a2 (Go.bits .and .u64 a0 a1) (t150 != (a0 == a1)))) else (withelaw1_BitsWithin.j0 k a0 a1 a2 (Go.bits .and .u64 a0 a1) false))) else (withelaw1_BitsWithin.j0 k a0 a1 a2 (Go.bits .and .u64 a0 a1) true))) else (withelaw1_BitsWithin.j0 k a0 a1 a2 (Go.bits .and .u64 a0 a1) true))) = some true := by rw [if_pos rfl] at H; exact H
    clear H
    have H := H1
    clear H1
    have HC6 := Aside0.mk H
    clear H
    go_enter Tryd.func7, Tryd.ntmps7
    go_upto_region 4 with (first | ((with_reducible refine gate_callee (f := 8) rfl ?_); refine goesL_ (some 8) rfl rfl Tryd.func8 (by kernel_rfl) rfl #[] rfl (by (try simp only [List.map_toArray, List.map_cons, List.map_nil]); first | done | rfl | (simp only [List.length_drop, List.length_take]; rfl)) ?_; (with_reducible refine (withelaw1_begun.calls k  true _ (by first | exact hTab | (repeat (first | exact hTab | exact TabW.below hTab HB.out | (with_reducible apply TabW.drewN) | (with_reducible apply TabW.drew) | (with_reducible apply TabW.alloc)))) A4.out).mono ?_); rintro e w7 ⟨rfl, hb⟩; refine ⟨_, rfl, ?_⟩; have n0_ := Aside0.mk (below_step (by repeat (first | (with_reducible first | exact HB.out | apply below_alloc | apply pw_below_drewN | apply below_drew1) | exact HB.out)) hb); clear HB; have HB := n0_; clear n0_; (try clear hb); (try clear hb2); (try clear hk); (try clear hi)) | (go_at_call 8; (with_reducible refine (withelaw1_begun.calls k  true _ (by first | exact hTab | (repeat (first | exact hTab | exact TabW.below hTab HB.out | (with_reducible apply TabW.drewN) | (with_reducible apply TabW.drew) | (with_reducible apply TabW.alloc)))) A4.out).mono ?_); rintro e w7 ⟨rfl, hb⟩; have n0_ := Aside0.mk (below_step (by repeat (first | (with_reducible first | exact HB.out | apply below_alloc | apply pw_below_drewN | apply below_drew1) | exact HB.out)) hb); clear HB; have HB := n0_; clear n0_; (try clear hb); (try clear hb2); (try clear hk); (try clear hi)))
    (try simp only [Act.put, List.setIfInBounds_toArray, List.set_cons_zero, List.set_cons_succ])
    go_cut [38] (fun v38 wc => ∃ (kq : Nat) (x38_5 : Bool), v38 = .bool x38_5 ∧ Aside0 (withelaw1_BitsWithin.j0 kq a0 a1 a2 (Go.bits .and .u64 a0 a1) x38_5 = some true) ∧ Aside0 (kq ≤ k) ∧ Aside0 (Below w.heap.size w wc))
    case first =>
      have H := HC6.out
      clear HC6
      replace H := Option.bind_eq_some_iff.mp H
      obtain ⟨t147, A80, H⟩ := H
      replace H : (if t147 = true then ((bits_Within.f a0 (Go.bits .or .u64 a0 a1)).bind fun t148 => (if t148 = true then ((bits_Within.f a0 a1).bind fun t149 => (if t149 = true then ((bits_Within.f a1 a0).bind fun t150 => (withelaw1_BitsWithin.j0 k a0 a1 a2 (Go.bits .and .u64 a0 a1) (t150 != (a0 == a1)))) else (withelaw1_BitsWithin.j0 k a0 a1 a2 (Go.bits .and .u64 a0 a1) false))) else (withelaw1_BitsWithin.j0 k a0 a1 a2 (Go.bits .and .u64 a0 a1) true))) else (withelaw1_BitsWithin.j0 k a0 a1 a2 (Go.bits .and .u64 a0 a1) true)) = some true := H
      have A8 := Aside0.mk A80
      clear A80
      by_cases c9 : t147 = true
      · subst c9
        have H1 : ((bits_Within.f a0 (Go.bits .or .u64 a0 a1)).bind fun t148 => (if t148 = true then ((bits_Within.f a0 a1).bind fun t149 => (if t149 = true then ((bits_Within.f a1 a0).bind fun t150 => (withelaw1_BitsWithin.j0 k a0 a1 a2 (Go.bits .and .u64 a0 a1) (t150 != (a0 == a1)))) else (withelaw1_BitsWithin.j0 k a0 a1 a2 (Go.bits .and .u64 a0 a1) false))) else (withelaw1_BitsWithin.j0 k a0 a1 a2 (Go.bits .and .u64 a0 a1) true))) = some true := by rw [if_pos rfl] at H; exact H
        clear H
        have H := H1
        clear H1
        replace H := Option.bind_eq_some_iff.mp H
        obtain ⟨t148, A100, H⟩ := H
        replace H : (if t148 = true then ((bits_Within.f a0 a1).bind fun t149 => (if t149 = true then ((bits_Within.f a1 a0).bind fun t150 => (withelaw1_BitsWithin.j0 k a0 a1 a2 (Go.bits .and .u64 a0 a1) (t150 != (a0 == a1)))) else (withelaw1_BitsWithin.j0 k a0 a1 a2 (Go.bits .and .u64 a0 a1) false))) else (withelaw1_BitsWithin.j0 k a0 a1 a2 (Go.bits .and .u64 a0 a1) true)) = some true := H
        have A10 := Aside0.mk A100
        clear A100
        by_cases c11 : t148 = true
        · subst c11
          have H1 : ((bits_Within.f a0 a1).bind fun t149 => (if t149 = true then ((bits_Within.f a1 a0).bind fun t150 => (withelaw1_BitsWithin.j0 k a0 a1 a2 (Go.bits .and .u64 a0 a1) (t150 != (a0 == a1)))) else (withelaw1_BitsWithin.j0 k a0 a1 a2 (Go.bits .and .u64 a0 a1) false))) = some true := by rw [if_pos rfl] at H; exact H
          clear H
          have H := H1
          clear H1
          replace H := Option.bind_eq_some_iff.mp H
          obtain ⟨t149, A120, H⟩ := H
          replace H : (if t149 = true then ((bits_Within.f a1 a0).bind fun t150 => (withelaw1_BitsWithin.j0 k a0 a1 a2 (Go.bits .and .u64 a0 a1) (t150 != (a0 == a1)))) else (withelaw1_BitsWithin.j0 k a0 a1 a2 (Go.bits .and .u64 a0 a1) false)) = some true := H
          have A12 := Aside0.mk A120
          clear A120
          by_cases c13 : t149 = true
          · subst c13
            have H1 : ((bits_Within.f a1 a0).bind fun t150 => (withelaw1_BitsWithin.j0 k a0 a1 a2 (Go.bits .and .u64 a0 a1) (t150 != (a0 == a1)))) = some true := by rw [if_pos rfl] at H; exact H
            clear H
            have H := H1
            clear H1
            replace H := Option.bind_eq_some_iff.mp H
            obtain ⟨t150, A140, H⟩ := H
            replace H : (withelaw1_BitsWithin.j0 k a0 a1 a2 (Go.bits .and .u64 a0 a1) (t150 != (a0 == a1))) = some true := H
            have A14 := Aside0.mk A140
            clear A140
            have H' := Aside0.mk H
            clear H
            go_wp2_with (first | ((with_reducible refine gate_callee (f := 25) rfl ?_); refine goesL_ (some 15) rfl rfl Tryd.func25 (by kernel_rfl) rfl #[.int .u64 (Go.bits .and .u64 a0 a1), .int .u64 a0] rfl (by (try simp only [List.map_toArray, List.map_cons, List.map_nil]); first | done | rfl | (simp only [List.length_drop, List.length_take]; rfl)) ?_; (with_reducible refine (bits_Within.calls (Go.bits .and .u64 a0 a1) a0 true _ A8.out).mono ?_); rintro e w' ⟨rfl, ⟨nd, rfl⟩⟩; refine ⟨_, rfl, ?_⟩) | (go_at_call 25; (with_reducible refine (bits_Within.calls (Go.bits .and .u64 a0 a1) a0 true _ A8.out).mono ?_); rintro e w' ⟨rfl, ⟨nd, rfl⟩⟩) | (go_at_call 25; (with_reducible refine (bits_Within.calls a0 (Go.bits .or .u64 a0 a1) true _ A10.out).mono ?_); rintro e w' ⟨rfl, ⟨nd, rfl⟩⟩) | (go_at_call 25; (with_reducible refine (bits_Within.calls a0 a1 true _ A12.out).mono ?_); rintro e w' ⟨rfl, ⟨nd, rfl⟩⟩) | (go_at_call 25; (with_reducible refine (bits_Within.calls a1 a0 t150 _ A14.out).mono ?_); rintro e w' ⟨rfl, ⟨nd, rfl⟩⟩))
            go_meet
            case rel => exact ⟨_, ((t150 != (a0 == a1))), (by first | rfl | (simp; done) | (simp [*]; done)), H', ⟨by first | omega | exact Nat.le_refl _⟩, ⟨by repeat (first | (with_reducible first | exact HB.out | apply below_alloc | apply pw_below_drewN | apply below_drew1) | exact HB.out)⟩⟩
          · replace c13 := Bool.eq_false_iff.mpr c13
            subst c13
            have H1 : (withelaw1_BitsWithin.j0 k a0 a1 a2 (Go.bits .and .u64 a0 a1) false) = some true := by rw [if_neg (show ¬ (false = true) by decide)] at H; exact H
            clear H
            have H := H1
            clear H1
            have H' := Aside0.mk H
            clear H
            go_wp2_with (first | ((with_reducible refine gate_callee (f := 25) rfl ?_); refine goesL_ (some 15) rfl rfl Tryd.func25 (by kernel_rfl) rfl #[.int .u64 (Go.bits .and .u64 a0 a1), .int .u64 a0] rfl (by (try simp only [List.map_toArray, List.map_cons, List.map_nil]); first | done | rfl | (simp only [List.length_drop, List.length_take]; rfl)) ?_; (with_reducible refine (bits_Within.calls (Go.bits .and .u64 a0 a1) a0 true _ A8.out).mono ?_); rintro e w' ⟨rfl, ⟨nd, rfl⟩⟩; refine ⟨_, rfl, ?_⟩) | (go_at_call 25; (with_reducible refine (bits_Within.calls (Go.bits .and .u64 a0 a1) a0 true _ A8.out).mono ?_); rintro e w' ⟨rfl, ⟨nd, rfl⟩⟩) | (go_at_call 25; (with_reducible refine (bits_Within.calls a0 (Go.bits .or .u64 a0 a1) true _ A10.out).mono ?_); rintro e w' ⟨rfl, ⟨nd, rfl⟩⟩) | (go_at_call 25; (with_reducible refine (bits_Within.calls a0 a1 false _ A12.out).mono ?_); rintro e w' ⟨rfl, ⟨nd, rfl⟩⟩))
            go_meet
            case rel => exact ⟨_, (false), (by first | rfl | (simp; done) | (simp [*]; done)), H', ⟨by first | omega | exact Nat.le_refl _⟩, ⟨by repeat (first | (with_reducible first | exact HB.out | apply below_alloc | apply pw_below_drewN | apply below_drew1) | exact HB.out)⟩⟩
        · replace c11 := Bool.eq_false_iff.mpr c11
          subst c11
          have H1 : (withelaw1_BitsWithin.j0 k a0 a1 a2 (Go.bits .and .u64 a0 a1) true) = some true := by rw [if_neg (show ¬ (false = true) by decide)] at H; exact H
          clear H
          have H := H1
          clear H1
          have H' := Aside0.mk H
          clear H
          go_wp2_with (first | ((with_reducible refine gate_callee (f := 25) rfl ?_); refine goesL_ (some 15) rfl rfl Tryd.func25 (by kernel_rfl) rfl #[.int .u64 (Go.bits .and .u64 a0 a1), .int .u64 a0] rfl (by (try simp only [List.map_toArray, List.map_cons, List.map_nil]); first | done | rfl | (simp only [List.length_drop, List.length_take]; rfl)) ?_; (with_reducible refine (bits_Within.calls (Go.bits .and .u64 a0 a1) a0 true _ A8.out).mono ?_); rintro e w' ⟨rfl, ⟨nd, rfl⟩⟩; refine ⟨_, rfl, ?_⟩) | (go_at_call 25; (with_reducible refine (bits_Within.calls (Go.bits .and .u64 a0 a1) a0 true _ A8.out).mono ?_); rintro e w' ⟨rfl, ⟨nd, rfl⟩⟩) | (go_at_call 25; (with_reducible refine (bits_Within.calls a0 (Go.bits .or .u64 a0 a1) false _ A10.out).mono ?_); rintro e w' ⟨rfl, ⟨nd, rfl⟩⟩))
          go_meet
          case rel => exact ⟨_, (true), (by first | rfl | (simp; done) | (simp [*]; done)), H', ⟨by first | omega | exact Nat.le_refl _⟩, ⟨by repeat (first | (with_reducible first | exact HB.out | apply below_alloc | apply pw_below_drewN | apply below_drew1) | exact HB.out)⟩⟩
      · replace c9 := Bool.eq_false_iff.mpr c9
        subst c9
        have H1 : (withelaw1_BitsWithin.j0 k a0 a1 a2 (Go.bits .and .u64 a0 a1) true) = some true := by rw [if_neg (show ¬ (false = true) by decide)] at H; exact H
        clear H
        have H := H1
        clear H1
        have H' := Aside0.mk H
        clear H
        go_wp2_with (first | ((with_reducible refine gate_callee (f := 25) rfl ?_); refine goesL_ (some 15) rfl rfl Tryd.func25 (by kernel_rfl) rfl #[.int .u64 (Go.bits .and .u64 a0 a1), .int .u64 a0] rfl (by (try simp only [List.map_toArray, List.map_cons, List.map_nil]); first | done | rfl | (simp only [List.length_drop, List.length_take]; rfl)) ?_; (with_reducible refine (bits_Within.calls (Go.bits .and .u64 a0 a1) a0 false _ A8.out).mono ?_); rintro e w' ⟨rfl, ⟨nd, rfl⟩⟩; refine ⟨_, rfl, ?_⟩) | (go_at_call 25; (with_reducible refine (bits_Within.calls (Go.bits .and .u64 a0 a1) a0 false _ A8.out).mono ?_); rintro e w' ⟨rfl, ⟨nd, rfl⟩⟩))
        go_meet
        case rel => exact ⟨_, (true), (by first | rfl | (simp; done) | (simp [*]; done)), H', ⟨by first | omega | exact Nat.le_refl _⟩, ⟨by repeat (first | (with_reducible first | exact HB.out | apply below_alloc | apply pw_below_drewN | apply below_drew1) | exact HB.out)⟩⟩
    case rest =>
      clear HC6
      try clear c1
      try clear c2
      try clear p2
      try clear c5
      try clear c7
      try clear c8
      try clear c9
      try clear c11
      try clear c13
      obtain ⟨kq, x38_5, rfl, HA, HJ5, HB⟩ := hcut
      cases kq with
      | zero => exact absurd HA.out (by simp [withelaw1_BitsWithin.j0])
      | succ kj5 =>
        have H := HA.out
        clear HA
        simp only [withelaw1_BitsWithin.j0] at H
        by_cases c15 : x38_5 = true
        · subst c15
          have H1 : (none) = some true := by rw [if_pos rfl] at H; exact H
          clear H
          have H := H1
          clear H1
          exact absurd H (by simp)
        · replace c15 := Bool.eq_false_iff.mpr c15
          subst c15
          have H1 : ((bits_Within.f a0 a1).bind fun t151 => (if t151 = true then ((bits_Within.f a1 a2).bind fun t152 => (if t152 = true then ((bits_Within.f a0 a2).bind fun t153 => (if t153 = true then ((bits_Count.f a0).bind fun t154 => ((bits_Count.f a1).bind fun t155 => (if t154 ≤ t155 then ((bits_Count.f (Go.bits .or .u64 a0 a1)).bind fun t156 => ((bits_Count.f (Go.bits .and .u64 a0 a1)).bind fun t157 => (some ((wrap64 (t154 + t155)) == (wrap64 (t156 + t157)))))) else (none)))) else (none))) else ((bits_Count.f a0).bind fun t158 => ((bits_Count.f a1).bind fun t159 => (if t158 ≤ t159 then ((bits_Count.f (Go.bits .or .u64 a0 a1)).bind fun t160 => ((bits_Count.f (Go.bits .and .u64 a0 a1)).bind fun t161 => (some ((wrap64 (t158 + t159)) == (wrap64 (t160 + t161)))))) else (none)))))) else ((bits_Count.f a0).bind fun t162 => ((bits_Count.f a1).bind fun t163 => ((bits_Count.f (Go.bits .or .u64 a0 a1)).bind fun t164 => ((bits_Count.f (Go.bits .and .u64 a0 a1)).bind fun t165 => (some ((wrap64 (t162 + t163)) == (wrap64 (t164 + t165)))))))))) = some true := by rw [if_neg (show ¬ (false = true) by decide)] at H; exact H
          clear H
          have H := H1
          clear H1
          replace H := Option.bind_eq_some_iff.mp H
          obtain ⟨t151, A160, H⟩ := H
          replace H : (if t151 = true then ((bits_Within.f a1 a2).bind fun t152 => (if t152 = true then ((bits_Within.f a0 a2).bind fun t153 => (if t153 = true then ((bits_Count.f a0).bind fun t154 => ((bits_Count.f a1).bind fun t155 => (if t154 ≤ t155 then ((bits_Count.f (Go.bits .or .u64 a0 a1)).bind fun t156 => ((bits_Count.f (Go.bits .and .u64 a0 a1)).bind fun t157 => (some ((wrap64 (t154 + t155)) == (wrap64 (t156 + t157)))))) else (none)))) else (none))) else ((bits_Count.f a0).bind fun t158 => ((bits_Count.f a1).bind fun t159 => (if t158 ≤ t159 then ((bits_Count.f (Go.bits .or .u64 a0 a1)).bind fun t160 => ((bits_Count.f (Go.bits .and .u64 a0 a1)).bind fun t161 => (some ((wrap64 (t158 + t159)) == (wrap64 (t160 + t161)))))) else (none)))))) else ((bits_Count.f a0).bind fun t162 => ((bits_Count.f a1).bind fun t163 => ((bits_Count.f (Go.bits .or .u64 a0 a1)).bind fun t164 => ((bits_Count.f (Go.bits .and .u64 a0 a1)).bind fun t165 => (some ((wrap64 (t162 + t163)) == (wrap64 (t164 + t165))))))))) = some true := H
          have A16 := Aside0.mk A160
          clear A160
          by_cases c17 : t151 = true
          · subst c17
            have H1 : ((bits_Within.f a1 a2).bind fun t152 => (if t152 = true then ((bits_Within.f a0 a2).bind fun t153 => (if t153 = true then ((bits_Count.f a0).bind fun t154 => ((bits_Count.f a1).bind fun t155 => (if t154 ≤ t155 then ((bits_Count.f (Go.bits .or .u64 a0 a1)).bind fun t156 => ((bits_Count.f (Go.bits .and .u64 a0 a1)).bind fun t157 => (some ((wrap64 (t154 + t155)) == (wrap64 (t156 + t157)))))) else (none)))) else (none))) else ((bits_Count.f a0).bind fun t158 => ((bits_Count.f a1).bind fun t159 => (if t158 ≤ t159 then ((bits_Count.f (Go.bits .or .u64 a0 a1)).bind fun t160 => ((bits_Count.f (Go.bits .and .u64 a0 a1)).bind fun t161 => (some ((wrap64 (t158 + t159)) == (wrap64 (t160 + t161)))))) else (none)))))) = some true := by rw [if_pos rfl] at H; exact H
            clear H
            have H := H1
            clear H1
            replace H := Option.bind_eq_some_iff.mp H
            obtain ⟨t152, A180, H⟩ := H
            replace H : (if t152 = true then ((bits_Within.f a0 a2).bind fun t153 => (if t153 = true then ((bits_Count.f a0).bind fun t154 => ((bits_Count.f a1).bind fun t155 => (if t154 ≤ t155 then ((bits_Count.f (Go.bits .or .u64 a0 a1)).bind fun t156 => ((bits_Count.f (Go.bits .and .u64 a0 a1)).bind fun t157 => (some ((wrap64 (t154 + t155)) == (wrap64 (t156 + t157)))))) else (none)))) else (none))) else ((bits_Count.f a0).bind fun t158 => ((bits_Count.f a1).bind fun t159 => (if t158 ≤ t159 then ((bits_Count.f (Go.bits .or .u64 a0 a1)).bind fun t160 => ((bits_Count.f (Go.bits .and .u64 a0 a1)).bind fun t161 => (some ((wrap64 (t158 + t159)) == (wrap64 (t160 + t161)))))) else (none))))) = some true := H
            have A18 := Aside0.mk A180
            clear A180
            by_cases c19 : t152 = true
            · subst c19
              have H1 : ((bits_Within.f a0 a2).bind fun t153 => (if t153 = true then ((bits_Count.f a0).bind fun t154 => ((bits_Count.f a1).bind fun t155 => (if t154 ≤ t155 then ((bits_Count.f (Go.bits .or .u64 a0 a1)).bind fun t156 => ((bits_Count.f (Go.bits .and .u64 a0 a1)).bind fun t157 => (some ((wrap64 (t154 + t155)) == (wrap64 (t156 + t157)))))) else (none)))) else (none))) = some true := by rw [if_pos rfl] at H; exact H
              clear H
              have H := H1
              clear H1
              replace H := Option.bind_eq_some_iff.mp H
              obtain ⟨t153, A200, H⟩ := H
              replace H : (if t153 = true then ((bits_Count.f a0).bind fun t154 => ((bits_Count.f a1).bind fun t155 => (if t154 ≤ t155 then ((bits_Count.f (Go.bits .or .u64 a0 a1)).bind fun t156 => ((bits_Count.f (Go.bits .and .u64 a0 a1)).bind fun t157 => (some ((wrap64 (t154 + t155)) == (wrap64 (t156 + t157)))))) else (none)))) else (none)) = some true := H
              have A20 := Aside0.mk A200
              clear A200
              by_cases c21 : t153 = true
              · subst c21
                have H1 : ((bits_Count.f a0).bind fun t154 => ((bits_Count.f a1).bind fun t155 => (if t154 ≤ t155 then ((bits_Count.f (Go.bits .or .u64 a0 a1)).bind fun t156 => ((bits_Count.f (Go.bits .and .u64 a0 a1)).bind fun t157 => (some ((wrap64 (t154 + t155)) == (wrap64 (t156 + t157)))))) else (none)))) = some true := by rw [if_pos rfl] at H; exact H
                clear H
                have H := H1
                clear H1
                replace H := Option.bind_eq_some_iff.mp H
                obtain ⟨t154, A220, H⟩ := H
                replace H : ((bits_Count.f a1).bind fun t155 => (if t154 ≤ t155 then ((bits_Count.f (Go.bits .or .u64 a0 a1)).bind fun t156 => ((bits_Count.f (Go.bits .and .u64 a0 a1)).bind fun t157 => (some ((wrap64 (t154 + t155)) == (wrap64 (t156 + t157)))))) else (none))) = some true := H
                have A22 := Aside0.mk A220
                clear A220
                replace H := Option.bind_eq_some_iff.mp H
                obtain ⟨t155, A230, H⟩ := H
                replace H : (if t154 ≤ t155 then ((bits_Count.f (Go.bits .or .u64 a0 a1)).bind fun t156 => ((bits_Count.f (Go.bits .and .u64 a0 a1)).bind fun t157 => (some ((wrap64 (t154 + t155)) == (wrap64 (t156 + t157)))))) else (none)) = some true := H
                have A23 := Aside0.mk A230
                clear A230
                by_cases c24 : t154 ≤ t155
                · rw [if_pos c24] at H
                  have c24b0 : decide (t154 ≤ t155) = true := decide_eq_true c24
                  clear c24
                  replace H := Option.bind_eq_some_iff.mp H
                  obtain ⟨t156, A250, H⟩ := H
                  replace H : ((bits_Count.f (Go.bits .and .u64 a0 a1)).bind fun t157 => (some ((wrap64 (t154 + t155)) == (wrap64 (t156 + t157))))) = some true := H
                  have A25 := Aside0.mk A250
                  clear A250
                  replace H := Option.bind_eq_some_iff.mp H
                  obtain ⟨t157, A260, H⟩ := H
                  replace H : (some ((wrap64 (t154 + t155)) == (wrap64 (t156 + t157)))) = some true := H
                  have A26 := Aside0.mk A260
                  clear A260
                  first
                    | exact absurd (Option.some.inj H) (by decide)
                    | (have HT := Option.some.inj H
                       go_wp2_with (first | ((with_reducible refine gate_callee (f := 25) rfl ?_); refine goesL_ (some 41) rfl rfl Tryd.func25 (by kernel_rfl) rfl #[.int .u64 a0, .int .u64 a1] rfl (by (try simp only [List.map_toArray, List.map_cons, List.map_nil]); first | done | rfl | (simp only [List.length_drop, List.length_take]; rfl)) ?_; (with_reducible refine (bits_Within.calls a0 a1 true _ A16.out).mono ?_); rintro e w' ⟨rfl, ⟨nd, rfl⟩⟩; refine ⟨_, rfl, ?_⟩) | (go_at_call 25; (with_reducible refine (bits_Within.calls a0 a1 true _ A16.out).mono ?_); rintro e w' ⟨rfl, ⟨nd, rfl⟩⟩) | (go_at_call 25; (with_reducible refine (bits_Within.calls a1 a2 true _ A18.out).mono ?_); rintro e w' ⟨rfl, ⟨nd, rfl⟩⟩) | (go_at_call 25; (with_reducible refine (bits_Within.calls a0 a2 true _ A20.out).mono ?_); rintro e w' ⟨rfl, ⟨nd, rfl⟩⟩) | (go_at_call 22; (with_reducible refine (bits_Count.calls a0 t154 _ A22.out).mono ?_); rintro e w' ⟨rfl, ⟨nd, rfl⟩⟩) | (go_at_call 22; (with_reducible refine (bits_Count.calls a1 t155 _ A23.out).mono ?_); rintro e w' ⟨rfl, ⟨nd, rfl⟩⟩) | (go_at_call 22; (with_reducible refine (bits_Count.calls (Go.bits .or .u64 a0 a1) t156 _ A25.out).mono ?_); rintro e w' ⟨rfl, ⟨nd, rfl⟩⟩) | (go_at_call 22; (with_reducible refine (bits_Count.calls (Go.bits .and .u64 a0 a1) t157 _ A26.out).mono ?_); rintro e w' ⟨rfl, ⟨nd, rfl⟩⟩))
                       go_ret
                       exact ⟨by first | rfl | (simp [errW_none, errW_some] <;> rfl) | (simp [*, errW_none, errW_some] <;> rfl), by repeat (first | (with_reducible first | exact HB.out | apply below_alloc | apply pw_below_drewN | apply below_drew1) | exact HB.out)⟩)
                · rw [if_neg c24] at H
                  exact absurd H (by simp)
              · replace c21 := Bool.eq_false_iff.mpr c21
                subst c21
                have H1 : (none) = some true := by rw [if_neg (show ¬ (false = true) by decide)] at H; exact H
                clear H
                have H := H1
                clear H1
                exact absurd H (by simp)
            · replace c19 := Bool.eq_false_iff.mpr c19
              subst c19
              have H1 : ((bits_Count.f a0).bind fun t158 => ((bits_Count.f a1).bind fun t159 => (if t158 ≤ t159 then ((bits_Count.f (Go.bits .or .u64 a0 a1)).bind fun t160 => ((bits_Count.f (Go.bits .and .u64 a0 a1)).bind fun t161 => (some ((wrap64 (t158 + t159)) == (wrap64 (t160 + t161)))))) else (none)))) = some true := by rw [if_neg (show ¬ (false = true) by decide)] at H; exact H
              clear H
              have H := H1
              clear H1
              replace H := Option.bind_eq_some_iff.mp H
              obtain ⟨t158, A270, H⟩ := H
              replace H : ((bits_Count.f a1).bind fun t159 => (if t158 ≤ t159 then ((bits_Count.f (Go.bits .or .u64 a0 a1)).bind fun t160 => ((bits_Count.f (Go.bits .and .u64 a0 a1)).bind fun t161 => (some ((wrap64 (t158 + t159)) == (wrap64 (t160 + t161)))))) else (none))) = some true := H
              have A27 := Aside0.mk A270
              clear A270
              replace H := Option.bind_eq_some_iff.mp H
              obtain ⟨t159, A280, H⟩ := H
              replace H : (if t158 ≤ t159 then ((bits_Count.f (Go.bits .or .u64 a0 a1)).bind fun t160 => ((bits_Count.f (Go.bits .and .u64 a0 a1)).bind fun t161 => (some ((wrap64 (t158 + t159)) == (wrap64 (t160 + t161)))))) else (none)) = some true := H
              have A28 := Aside0.mk A280
              clear A280
              by_cases c29 : t158 ≤ t159
              · rw [if_pos c29] at H
                have c29b0 : decide (t158 ≤ t159) = true := decide_eq_true c29
                clear c29
                replace H := Option.bind_eq_some_iff.mp H
                obtain ⟨t160, A300, H⟩ := H
                replace H : ((bits_Count.f (Go.bits .and .u64 a0 a1)).bind fun t161 => (some ((wrap64 (t158 + t159)) == (wrap64 (t160 + t161))))) = some true := H
                have A30 := Aside0.mk A300
                clear A300
                replace H := Option.bind_eq_some_iff.mp H
                obtain ⟨t161, A310, H⟩ := H
                replace H : (some ((wrap64 (t158 + t159)) == (wrap64 (t160 + t161)))) = some true := H
                have A31 := Aside0.mk A310
                clear A310
                first
                  | exact absurd (Option.some.inj H) (by decide)
                  | (have HT := Option.some.inj H
                     go_wp2_with (first | ((with_reducible refine gate_callee (f := 25) rfl ?_); refine goesL_ (some 41) rfl rfl Tryd.func25 (by kernel_rfl) rfl #[.int .u64 a0, .int .u64 a1] rfl (by (try simp only [List.map_toArray, List.map_cons, List.map_nil]); first | done | rfl | (simp only [List.length_drop, List.length_take]; rfl)) ?_; (with_reducible refine (bits_Within.calls a0 a1 true _ A16.out).mono ?_); rintro e w' ⟨rfl, ⟨nd, rfl⟩⟩; refine ⟨_, rfl, ?_⟩) | (go_at_call 25; (with_reducible refine (bits_Within.calls a0 a1 true _ A16.out).mono ?_); rintro e w' ⟨rfl, ⟨nd, rfl⟩⟩) | (go_at_call 25; (with_reducible refine (bits_Within.calls a1 a2 false _ A18.out).mono ?_); rintro e w' ⟨rfl, ⟨nd, rfl⟩⟩) | (go_at_call 22; (with_reducible refine (bits_Count.calls a0 t158 _ A27.out).mono ?_); rintro e w' ⟨rfl, ⟨nd, rfl⟩⟩) | (go_at_call 22; (with_reducible refine (bits_Count.calls a1 t159 _ A28.out).mono ?_); rintro e w' ⟨rfl, ⟨nd, rfl⟩⟩) | (go_at_call 22; (with_reducible refine (bits_Count.calls (Go.bits .or .u64 a0 a1) t160 _ A30.out).mono ?_); rintro e w' ⟨rfl, ⟨nd, rfl⟩⟩) | (go_at_call 22; (with_reducible refine (bits_Count.calls (Go.bits .and .u64 a0 a1) t161 _ A31.out).mono ?_); rintro e w' ⟨rfl, ⟨nd, rfl⟩⟩))
                     go_ret
                     exact ⟨by first | rfl | (simp [errW_none, errW_some] <;> rfl) | (simp [*, errW_none, errW_some] <;> rfl), by repeat (first | (with_reducible first | exact HB.out | apply below_alloc | apply pw_below_drewN | apply below_drew1) | exact HB.out)⟩)
              · rw [if_neg c29] at H
                exact absurd H (by simp)
          · replace c17 := Bool.eq_false_iff.mpr c17
            subst c17
            have H1 : ((bits_Count.f a0).bind fun t162 => ((bits_Count.f a1).bind fun t163 => ((bits_Count.f (Go.bits .or .u64 a0 a1)).bind fun t164 => ((bits_Count.f (Go.bits .and .u64 a0 a1)).bind fun t165 => (some ((wrap64 (t162 + t163)) == (wrap64 (t164 + t165)))))))) = some true := by rw [if_neg (show ¬ (false = true) by decide)] at H; exact H
            clear H
            have H := H1
            clear H1
            replace H := Option.bind_eq_some_iff.mp H
            obtain ⟨t162, A320, H⟩ := H
            replace H : ((bits_Count.f a1).bind fun t163 => ((bits_Count.f (Go.bits .or .u64 a0 a1)).bind fun t164 => ((bits_Count.f (Go.bits .and .u64 a0 a1)).bind fun t165 => (some ((wrap64 (t162 + t163)) == (wrap64 (t164 + t165))))))) = some true := H
            have A32 := Aside0.mk A320
            clear A320
            replace H := Option.bind_eq_some_iff.mp H
            obtain ⟨t163, A330, H⟩ := H
            replace H : ((bits_Count.f (Go.bits .or .u64 a0 a1)).bind fun t164 => ((bits_Count.f (Go.bits .and .u64 a0 a1)).bind fun t165 => (some ((wrap64 (t162 + t163)) == (wrap64 (t164 + t165)))))) = some true := H
            have A33 := Aside0.mk A330
            clear A330
            replace H := Option.bind_eq_some_iff.mp H
            obtain ⟨t164, A340, H⟩ := H
            replace H : ((bits_Count.f (Go.bits .and .u64 a0 a1)).bind fun t165 => (some ((wrap64 (t162 + t163)) == (wrap64 (t164 + t165))))) = some true := H
            have A34 := Aside0.mk A340
            clear A340
            replace H := Option.bind_eq_some_iff.mp H
            obtain ⟨t165, A350, H⟩ := H
            replace H : (some ((wrap64 (t162 + t163)) == (wrap64 (t164 + t165)))) = some true := H
            have A35 := Aside0.mk A350
            clear A350
            first
              | exact absurd (Option.some.inj H) (by decide)
              | (have HT := Option.some.inj H
                 go_wp2_with (first | ((with_reducible refine gate_callee (f := 25) rfl ?_); refine goesL_ (some 41) rfl rfl Tryd.func25 (by kernel_rfl) rfl #[.int .u64 a0, .int .u64 a1] rfl (by (try simp only [List.map_toArray, List.map_cons, List.map_nil]); first | done | rfl | (simp only [List.length_drop, List.length_take]; rfl)) ?_; (with_reducible refine (bits_Within.calls a0 a1 false _ A16.out).mono ?_); rintro e w' ⟨rfl, ⟨nd, rfl⟩⟩; refine ⟨_, rfl, ?_⟩) | (go_at_call 25; (with_reducible refine (bits_Within.calls a0 a1 false _ A16.out).mono ?_); rintro e w' ⟨rfl, ⟨nd, rfl⟩⟩) | (go_at_call 22; (with_reducible refine (bits_Count.calls a0 t162 _ A32.out).mono ?_); rintro e w' ⟨rfl, ⟨nd, rfl⟩⟩) | (go_at_call 22; (with_reducible refine (bits_Count.calls a1 t163 _ A33.out).mono ?_); rintro e w' ⟨rfl, ⟨nd, rfl⟩⟩) | (go_at_call 22; (with_reducible refine (bits_Count.calls (Go.bits .or .u64 a0 a1) t164 _ A34.out).mono ?_); rintro e w' ⟨rfl, ⟨nd, rfl⟩⟩) | (go_at_call 22; (with_reducible refine (bits_Count.calls (Go.bits .and .u64 a0 a1) t165 _ A35.out).mono ?_); rintro e w' ⟨rfl, ⟨nd, rfl⟩⟩))
                 go_ret
                 exact ⟨by first | rfl | (simp [errW_none, errW_some] <;> rfl) | (simp [*, errW_none, errW_some] <;> rfl), by repeat (first | (with_reducible first | exact HB.out | apply below_alloc | apply pw_below_drewN | apply below_drew1) | exact HB.out)⟩)
  · replace c5 := Bool.eq_false_iff.mpr c5
    subst c5
    have H1 : (none) = some true := by rw [if_neg (show ¬ (false = true) by decide)] at H; exact H
    clear H
    have H := H1
    clear H1
    exact absurd H (by simp)

/-- THE ONE PURE STATEMENT of withelaw1_BitsWithin: yours. -/
def withelaw1_BitsWithin.Pure : Prop := ∀ (a0 : Int) (a1 : Int) (a2 : Int), (Lit.int .u64 a0).wf = true → (Lit.int .u64 a1).wf = true → (Lit.int .u64 a2).wf = true → ∃ k, withelaw1_BitsWithin.f k a0 a1 a2 = some true
theorem withelaw1_BitsWithin.walk (P : withelaw1_BitsWithin.Pure) (a0 : Int) (a1 : Int) (a2 : Int) (w : World) (hTab : TabW w) (w0 : (Lit.int .u64 a0).wf = true) (w1 : (Lit.int .u64 a1).wf = true) (w2 : (Lit.int .u64 a2).wf = true) :
    Calls Tryd.prog 7 #[.int .u64 a0, .int .u64 a1, .int .u64 a2] w fun e w' => e = .returned (.bool true) ∧ Below w.heap.size w w' := by
  obtain ⟨k, h⟩ := P a0 a1 a2 w0 w1 w2
  refine (withelaw1_BitsWithin.calls k a0 a1 a2 w hTab h).mono ?_
  rintro e w' ⟨rfl, hd⟩
  exact ⟨rfl, hd⟩

-- NOT PRINTED: function 4 (withelaw1_BitsBack)

end Go.Proofs.YtpkhcmholpljnabDoor.PB1
