/- A text of a claim: it proves what its last theorem states, for every input that the given row speaks of; conditions of ours: none. Written by this claim's own program (wip/tools/xprint.py) over the kit's printer. -/
import Derived.Test.YtpkhcmholpljnabDoorPB1x0
import Derived.Test.YtpkhcmholpljnabDoorPB1x1
namespace Go.Proofs.YtpkhcmholpljnabDoor.PB1
open Go.RowKit Go.Proofs.YtpkhcmholpljnabDoorW.PrintWords Go.Proofs.YtpkhcmholpljnabDoorW.PrintLast Go.Proofs.YtpkhcmholpljnabDoorW.PrintMore
attribute [local go_sem] max2_int min2_int max_two min_two max_three min_three max_four min_four   -- for this text's walks alone
set_option linter.unusedVariables false
set_option linter.unusedSimpArgs false

/-! ### withelaw1_BitsBack: function 4 -/
def withelaw1_BitsBack.l0 : Nat → Int → Int → List Int → Int → Option (Bool)
  | 0, _, _, _, _ => none
  | k + 1, x0, x1, x5, x6 => if (wrap64 (x6 + 1)) < (x5.length : Int) then (if 0 ≤ x6 then (if x6 < (x5.length : Int) then (if 0 ≤ (wrap64 (x6 + 1)) then (if (rd x5 x6) ≥ (rd x5 (wrap64 (x6 + 1))) then (none) else (withelaw1_BitsBack.l0 k x0 x1 x5 (wrap64 (x6 + 1)))) else (none)) else (none)) else (none)) else (if (x5.length : Int) = 0 then (if x0 = 0 then ((bits_Count.f x0).bind fun t190 => (some (t190 == 0))) else (none)) else ((some (([] : List Int) : List Int)).bind fun y191 => (if 0 ≤ (Int.tmod (wrap64 (x1)) (x5.length : Int)) then (if (Int.tmod (wrap64 (x1)) (x5.length : Int)) ≤ (x5.length : Int) then ((some (x5.drop ((Int.tmod (wrap64 (x1)) (x5.length : Int)) : Int).toNat : List Int)).bind fun y194 => (if y191.length + y194.length < 17592186044416 then ((some (y191 ++ y194 : List Int)).bind fun y198 => ((some (x5.take ((Int.tmod (wrap64 (x1)) (x5.length : Int)) : Int).toNat : List Int)).bind fun y201 => (if y198.length + y201.length < 17592186044416 then ((some (y198 ++ y201 : List Int)).bind fun y205 => (if (Int.tmod (wrap64 (x1)) (x5.length : Int)) < (x5.length : Int) then ((some (([rd x5 (Int.tmod (wrap64 (x1)) (x5.length : Int))] : List Int) : List Int)).bind fun y209 => (if y205.length + y209.length < 17592186044416 then (if 0 < (x5.length : Int) then (if (rd x5 0) ≥ 0 then (if 0 ≤ (wrap64 ((x5.length : Int) - 1)) then (if (wrap64 ((x5.length : Int) - 1)) < (x5.length : Int) then (if (rd x5 (wrap64 ((x5.length : Int) - 1))) < 64 then ((bits_Of.f k x5).bind fun t217 => (if t217 = x0 then ((bits_Of.f k (y205 ++ y209)).bind fun t218 => (if t218 = x0 then ((bits_Count.f x0).bind fun t219 => (if t219 = (x5.length : Int) then ((bits_First.f x0).bind fun t220 => (if t220 = (rd x5 0) then ((bits_Last.f x0).bind fun t222 => (some (t222 == (rd x5 (wrap64 ((x5.length : Int) - 1)))))) else (none))) else (none))) else (none))) else (none))) else (none)) else (none)) else (none)) else (none)) else (none)) else (none))) else (none))) else (none)))) else (none))) else (none)) else (none))))
def withelaw1_BitsBack.f (k : Nat) (a0 : Int) (a1 : Int) : Option (Bool) := (withelaw1_begun.f k).bind fun t184 => (if t184 = true then ((bits_List.f a0).bind fun t185 => (withelaw1_BitsBack.l0 k a0 a1 t185 0)) else (none))
theorem withelaw1_BitsBack.mono_l : ∀ k, (∀ y0 y1 y2 y3, LeO (withelaw1_BitsBack.l0 k y0 y1 y2 y3) (withelaw1_BitsBack.l0 (k + 1) y0 y1 y2 y3))
  | 0 => fun _ _ _ _ r h => by simp [withelaw1_BitsBack.l0] at h
  | k + 1 => by
    have ih0 := withelaw1_BitsBack.mono_l k
    · intro y0 y1 y2 y3
      unfold withelaw1_BitsBack.l0
      repeat' first
      | (with_reducible exact ih0 _ _ _ _)
      | (with_reducible exact bits_Of.mono _ _)
      | (with_reducible exact withelaw1_begun.mono _)
      | (with_reducible exact LeO.refl _)
      | (with_reducible exact LeO.none _)
      | (with_reducible refine LeO.ite ?_ ?_)
      | (with_reducible refine LeO.bind ?_ (fun _ => ?_))
      | exact ih0 _ _ _ _
      | exact bits_Of.mono _ _
      | exact withelaw1_begun.mono _
      | exact LeO.none _
      | refine LeO.ite ?_ ?_
      | refine LeO.bind ?_ (fun _ => ?_)
theorem withelaw1_BitsBack.mono : ∀ a0 a1 k, LeO (withelaw1_BitsBack.f k a0 a1) (withelaw1_BitsBack.f (k + 1) a0 a1) := by
  intro a0 a1 k
  have ih0 := withelaw1_BitsBack.mono_l k
  unfold withelaw1_BitsBack.f
  repeat' first
      | (with_reducible exact ih0 _ _ _ _)
      | (with_reducible exact bits_Of.mono _ _)
      | (with_reducible exact withelaw1_begun.mono _)
      | (with_reducible exact LeO.refl _)
      | (with_reducible exact LeO.none _)
      | (with_reducible refine LeO.ite ?_ ?_)
      | (with_reducible refine LeO.bind ?_ (fun _ => ?_))
      | exact ih0 _ _ _ _
      | exact bits_Of.mono _ _
      | exact withelaw1_begun.mono _
      | exact LeO.none _
      | refine LeO.ite ?_ ?_
      | refine LeO.bind ?_ (fun _ => ?_)
def withelaw1_BitsBack.T7 : Bool × List (List Nat × List Nat) := (true, [([], []), ([], []), ([0, 1], [0, 1]), ([2], [2]), ([], []), ([], []), ([5], [5]), ([4, 6], [4, 6]), ([7], [7]), ([3, 8], [3, 8])])
def withelaw1_BitsBack.B7 : List Nat := [0, 0, 3, 7, 0, 0, 32, 112, 240, 511]
theorem withelaw1_BitsBack.tab7 : rtab .any (opsOf Tryd.f4 7) = withelaw1_BitsBack.T7 := by kernel_rfl
theorem withelaw1_BitsBack.bits7 : waitsOk withelaw1_BitsBack.T7.2 withelaw1_BitsBack.B7 = true := by kernel_rfl
def withelaw1_BitsBack.T12 : Bool × List (List Nat × List Nat) := (true, [([], []), ([], []), ([], []), ([1, 2], [1, 2]), ([0, 3], [0, 3]), ([], []), ([], []), ([5, 6], [5, 6]), ([4, 7, 4], [4, 7]), ([], []), ([], []), ([9, 10], [9, 10]), ([11], [11]), ([12], [12]), ([8, 13, 8], [8, 13]), ([14, 14, 0, 1, 2, 3, 4, 5, 6, 7, 8, 9, 10, 11, 12, 13, 14], [14])])
def withelaw1_BitsBack.B12 : List Nat := [0, 0, 0, 6, 15, 0, 0, 96, 255, 0, 0, 1536, 3584, 7680, 16383, 32767]
theorem withelaw1_BitsBack.tab12 : rtab .any (opsOf Tryd.f4 12) = withelaw1_BitsBack.T12 := by kernel_rfl
theorem withelaw1_BitsBack.bits12 : waitsOk withelaw1_BitsBack.T12.2 withelaw1_BitsBack.B12 = true := by kernel_rfl
def withelaw1_BitsBack.T13 : Bool × List (List Nat × List Nat) := (true, [([], []), ([0], [0]), ([1], [1]), ([2], [2]), ([3], [3]), ([4], [4]), ([4], [4]), ([6, 4], [4, 6]), ([7, 4], [4, 7]), ([5, 8, 4], [4, 5, 8]), ([9, 4], [4, 9]), ([10, 4], [4, 10]), ([4, 11], [4, 11]), ([12, 4], [12]), ([13], [13]), ([14, 13, 13], [13, 14]), ([13], [13]), ([15, 16, 13], [13, 15, 16]), ([13, 17], [13, 17]), ([18, 15], [18]), ([19], [19]), ([20, 19, 19], [19, 20]), ([19], [19]), ([21, 22, 19], [19, 21, 22]), ([19, 23], [19, 23]), ([24, 21], [24]), ([25], [25]), ([26, 25, 25], [25, 26]), ([25], [25]), ([28, 25], [25, 28]), ([27, 29, 25], [25, 27, 29]), ([25, 30], [25, 30]), ([31, 27], [31]), ([32], [32]), ([33, 32, 32], [32, 33]), ([32], [32]), ([35, 32], [32, 35]), ([36, 32], [32, 36]), ([34, 37, 32], [32, 34, 37]), ([32, 38], [32, 38]), ([39, 34], [39]), ([40], [40]), ([41, 40, 40], [40, 41]), ([40], [40]), ([40], [40]), ([44, 40], [40, 44]), ([45, 40], [40, 45]), ([43, 46, 40], [40, 43, 46]), ([47, 40], [40, 47]), ([42, 48, 40], [40, 42, 48]), ([40, 49], [40, 49]), ([50, 42, 0, 1, 2, 3, 4, 5, 6, 7, 8, 9, 10, 11, 12, 13, 14, 15, 16, 17, 18, 19, 20, 21, 22, 23, 24, 25, 26, 27, 28, 29, 30, 31, 32, 33, 34, 35, 36, 37, 38, 39, 40, 41, 42, 43, 44, 45, 46, 47, 48, 49, 50], [50])])
def withelaw1_BitsBack.B13 : List Nat := [0, 1, 3, 7, 15, 31, 31, 95, 223, 511, 1023, 2047, 4095, 8191, 16383, 32767, 16383, 131071, 262143, 524287, 1048575, 2097151, 1048575, 8388607, 16777215, 33554431, 67108863, 134217727, 67108863, 335544319, 1073741823, 2147483647, 4294967295, 8589934591, 17179869183, 8589934591, 42949672959, 111669149695, 274877906943, 549755813887, 1099511627775, 2199023255551, 4398046511103, 2199023255551, 2199023255551, 19791209299967, 54975581388799, 134140418588671, 274877906943999, 562949953421311, 1125899906842623, 2251799813685247]
theorem withelaw1_BitsBack.tab13 : rtab .any (opsOf Tryd.f4 13) = withelaw1_BitsBack.T13 := by kernel_rfl
theorem withelaw1_BitsBack.bits13 : waitsOk withelaw1_BitsBack.T13.2 withelaw1_BitsBack.B13 = true := by kernel_rfl
set_option maxHeartbeats 8000000 in
set_option maxRecDepth 100000 in
theorem withelaw1_BitsBack.calls (k : Nat) (a0 : Int) (a1 : Int) (w : World) (hTab : TabW w) (h : withelaw1_BitsBack.f k a0 a1 = some true) :
    Calls Tryd.prog 4 #[.int .u64 a0, .int .u8 a1] w fun e w' => e = .returned (.bool true) ∧ Below w.heap.size w w' := by
  have HB := Aside0.mk (Below.refl w.heap.size w)
  have H : ((withelaw1_begun.f k).bind fun t184 => (if t184 = true then ((bits_List.f a0).bind fun t185 => (withelaw1_BitsBack.l0 k a0 a1 t185 0)) else (none))) = some true := h
  clear h
  replace H := Option.bind_eq_some_iff.mp H
  obtain ⟨t184, A30, H⟩ := H
  replace H : (if t184 = true then ((bits_List.f a0).bind fun t185 => (withelaw1_BitsBack.l0 k a0 a1 t185 0)) else (none)) = some true := H
  have A3 := Aside0.mk A30
  clear A30
  by_cases c4 : t184 = true
  · subst c4
    have H1 : ((bits_List.f a0).bind fun t185 => (withelaw1_BitsBack.l0 k a0 a1 t185 0)) = some true := by rw [if_pos rfl] at H; exact H
    clear H
    have H := H1
    clear H1
    replace H := Option.bind_eq_some_iff.mp H
    obtain ⟨t185, A50, H⟩ := H
    replace H : (withelaw1_BitsBack.l0 k a0 a1 t185 0) = some true := H
    have A5 := Aside0.mk A50
    clear A50
    have H' := Aside0.mk H
    clear H
    go_enter Tryd.func4, Tryd.ntmps4
    go_wp2_with (first | ((with_reducible refine gate_callee (f := 8) rfl ?_); refine goesL_ (some 9) rfl rfl Tryd.func8 (by kernel_rfl) rfl #[] rfl (by (try simp only [List.map_toArray, List.map_cons, List.map_nil]); first | done | rfl | (simp only [List.length_drop, List.length_take]; rfl)) ?_; (with_reducible refine (withelaw1_begun.calls k  true _ (by first | exact hTab | (repeat (first | exact hTab | exact TabW.below hTab HB.out | (with_reducible apply TabW.drewN) | (with_reducible apply TabW.drew) | (with_reducible apply TabW.alloc)))) A3.out).mono ?_); rintro e w6 ⟨rfl, hb⟩; refine ⟨_, rfl, ?_⟩; have n0_ := Aside0.mk (below_step (by repeat (first | (with_reducible first | exact HB.out | apply below_alloc | apply pw_below_drewN | apply below_drew1) | exact HB.out)) hb); clear HB; have HB := n0_; clear n0_; (try clear hb); (try clear hb2); (try clear hk); (try clear hi)) | (go_at_call 8; (with_reducible refine (withelaw1_begun.calls k  true _ (by first | exact hTab | (repeat (first | exact hTab | exact TabW.below hTab HB.out | (with_reducible apply TabW.drewN) | (with_reducible apply TabW.drew) | (with_reducible apply TabW.alloc)))) A3.out).mono ?_); rintro e w6 ⟨rfl, hb⟩; have n0_ := Aside0.mk (below_step (by repeat (first | (with_reducible first | exact HB.out | apply below_alloc | apply pw_below_drewN | apply below_drew1) | exact HB.out)) hb); clear HB; have HB := n0_; clear n0_; (try clear hb); (try clear hb2); (try clear hk); (try clear hi)) | ((with_reducible refine gate_callee (f := 13) rfl ?_); refine goesL_ (some 12) rfl rfl Tryd.func13 (by kernel_rfl) rfl #[.int .u64 a0] rfl (by (try simp only [List.map_toArray, List.map_cons, List.map_nil]); first | done | rfl | (simp only [List.length_drop, List.length_take]; rfl)) ?_; (with_reducible refine (bits_List.calls a0 t185 _ (by first | exact hTab | (repeat (first | exact hTab | exact TabW.below hTab HB.out | (with_reducible apply TabW.drewN) | (with_reducible apply TabW.drew) | (with_reducible apply TabW.alloc)))) A5.out).mono ?_); rintro e w7 ⟨v186, rfl, ho0, hb⟩; refine ⟨_, rfl, ?_⟩; have n0_ := Aside0.mk (Kd.R_lower ho0 (below_size (by repeat (first | (with_reducible first | exact HB.out | apply below_alloc | apply pw_below_drewN | apply below_drew1) | exact HB.out)))); have n1_ := Aside0.mk (below_step (by repeat (first | (with_reducible first | exact HB.out | apply below_alloc | apply pw_below_drewN | apply below_drew1) | exact HB.out)) hb); clear HB; have HO187 := n0_; have HB := n1_; clear n0_ n1_; (try clear hb); (try clear hb2); (try clear hk); (try clear hi); (try clear ho0)) | (go_at_call 13; (with_reducible refine (bits_List.calls a0 t185 _ (by first | exact hTab | (repeat (first | exact hTab | exact TabW.below hTab HB.out | (with_reducible apply TabW.drewN) | (with_reducible apply TabW.drew) | (with_reducible apply TabW.alloc)))) A5.out).mono ?_); rintro e w7 ⟨v186, rfl, ho0, hb⟩; have n0_ := Aside0.mk (Kd.R_lower ho0 (below_size (by repeat (first | (with_reducible first | exact HB.out | apply below_alloc | apply pw_below_drewN | apply below_drew1) | exact HB.out)))); have n1_ := Aside0.mk (below_step (by repeat (first | (with_reducible first | exact HB.out | apply below_alloc | apply pw_below_drewN | apply below_drew1) | exact HB.out)) hb); clear HB; have HO187 := n0_; have HB := n1_; clear n0_ n1_; (try clear hb); (try clear hb2); (try clear hk); (try clear hi); (try clear ho0)))
    go_loopg [6] k (fun kq v6 w' => ∃ (x6_1 : Int), v6 = .int .i64 x6_1 ∧ Aside0 (withelaw1_BitsBack.l0 kq a0 a1 t185 x6_1 = some true) ∧ Aside0 (kq ≤ k) ∧ Aside0 (Kd.R (Kd.int .i64) 3 w' w.heap.size (fun _ => True) v186 t185) ∧ Aside0 (Below w.heap.size w w'))
    case atStart => exact ⟨(0), (by first | rfl | (simp; done) | (simp [*]; done)), H', ⟨Nat.le_refl _⟩, ⟨by (with_reducible repeat (first | apply Kd.R_alloc | apply Kd.R_drewN | apply Kd.R_drew)); exact HO187.out⟩, ⟨by repeat (first | (with_reducible first | exact HB.out | apply below_alloc | apply pw_below_drewN | apply below_drew1) | exact HB.out)⟩⟩
    case round =>
      clear H'
      try clear c1
      try clear p2
      try clear c4
      obtain ⟨x6_1, rfl, HA, HK1, HO_5, HB⟩ := hrel
      cases gk with
      | zero => exact absurd HA.out (by simp [withelaw1_BitsBack.l0])
      | succ k1 =>
        have H := HA.out
        clear HA
        simp only [withelaw1_BitsBack.l0] at H
        by_cases c8 : (wrap64 (x6_1 + 1)) < (t185.length : Int)
        · rw [if_pos c8] at H
          have c8b0 : decide ((wrap64 (x6_1 + 1)) < (t185.length : Int)) = true := decide_eq_true c8
          clear c8
          by_cases c9 : 0 ≤ x6_1
          · rw [if_pos c9] at H
            have c9b0 : decide (0 ≤ x6_1) = true := decide_eq_true c9
            clear c9
            by_cases c10 : x6_1 < (t185.length : Int)
            · rw [if_pos c10] at H
              have c10b0 : decide (x6_1 < (t185.length : Int)) = true := decide_eq_true c10
              clear c10
              obtain ⟨ji11, hji11⟩ : ∃ j_ : Int, (wrap64 (x6_1 + 1)) = j_ := ⟨_, rfl⟩
              replace H : (if 0 ≤ (ji11) then (if (rd t185 x6_1) ≥ (rd t185 (ji11)) then (none) else (withelaw1_BitsBack.l0 k1 a0 a1 t185 ji11)) else (none)) = some true := by first | (rw [hji11] at H; exact H) | (simp only [hji11] at H ⊢; exact H)
              (try rw [hji11] at c8b0)
              have hji11w : (IntKind.i64.wrap (x6_1 + 1)) = ji11 := (i64_w _).trans hji11
              by_cases c12 : 0 ≤ (ji11)
              · rw [if_pos c12] at H
                have c12b0 : decide (0 ≤ (ji11)) = true := decide_eq_true c12
                clear c12
                by_cases c13 : (rd t185 x6_1) ≥ (rd t185 (ji11))
                · rw [if_pos c13] at H
                  exact absurd H (by simp)
                · rw [if_neg c13] at H
                  have c13b0 : decide ((rd t185 (ji11)) ≤ (rd t185 x6_1)) = false := decide_eq_false c13
                  clear c13
                  have H' := Aside0.mk H
                  clear H
                  obtain ⟨Ao14, co14, eo14⟩ := Kd.R_slice HO_5.out
                  subst eo14
                  try go_wp2
                  have n0_ := Aside0.mk (Kd.R_drew HO_5.out)
                  have n1_ := Aside0.mk (below_drew1 HB.out)
                  clear HO_5
                  clear HB
                  have HO_5 := n0_
                  have HB := n1_
                  clear n0_ n1_
                  have p188 : 0 ≤ (x6_1 : Int) := of_decide_eq_true (by first | (with_reducible assumption) | assumption)
                  have q188 : x6_1 < (t185.length : Int) := of_decide_eq_true (by first | (with_reducible assumption) | assumption)
                  obtain ⟨ad188, e188, hx188_0⟩ := Kd.at_int (Kd.R_reads' HO_5.out).2.2 x6_1 p188 q188
                  cases e188
                  replace p188 := eq_true p188
                  replace q188 := eq_true q188
                  have p189 : 0 ≤ ((ji11) : Int) := of_decide_eq_true (by first | (with_reducible assumption) | assumption)
                  have q189 : (ji11) < (t185.length : Int) := of_decide_eq_true (by first | (with_reducible assumption) | assumption)
                  obtain ⟨ad189, e189, hx189_0⟩ := Kd.at_int (Kd.R_reads' HO_5.out).2.2 (ji11) p189 q189
                  obtain rfl : ad188 = ad189 := (by injection e189)
                  replace p189 := eq_true p189
                  replace q189 := eq_true q189
                  refine start_ (n := 10) (S := fun w' => w'.cell? (ad188.add (x6_1).toNat) = some (.int .i64 (rd t185 x6_1)) ∧ w'.cell? (ad188.add ((ji11)).toNat) = some (.int .i64 (rd t185 (ji11)))) (ds := []) #[false, false, false, false, false, false, false, false, false, false] (by kernel_rfl) rfl rfl ⟨hx188_0, hx189_0⟩ (fun hHeld => ?_); refine with_tabW withelaw1_BitsBack.tab7 withelaw1_BitsBack.bits7 (fun HT_ HW_ => ?_)
                  generalize wr.drew = w15 at HO_5 HB hx188_0 hx189_0 hHeld ⊢
                  refine pure_ (i := 0) (N := some 20) (v := ?_) (a' := ?_) #[true, false, false, false, false, false, false, false, false, false] rfl rfl (any_of HT_.out (by kernel_rfl)) (fun _ _ _ h => h) (Or.inl ⟨by rfl, ?_⟩) ?_ ?_
                  rotate_left
                  · intro w'
                    go_simp
                    with_reducible rfl
                  rotate_left
                  · simp only [Act.put, List.setIfInBounds_toArray, List.set_cons_zero, List.set_cons_succ, i64_w, i32_w]
                    rfl
                  refine pure_ (i := 1) (N := some 21) (v := ?_) (a' := ?_) #[true, true, false, false, false, false, false, false, false, false] rfl rfl (any_of HT_.out (by kernel_rfl)) (fun _ _ _ h => h) (Or.inl ⟨by rfl, ?_⟩) ?_ ?_
                  rotate_left
                  · intro w'
                    go_simp
                    with_reducible rfl
                  rotate_left
                  · simp only [Act.put, List.setIfInBounds_toArray, List.set_cons_zero, List.set_cons_succ, i64_w, i32_w]
                    rfl
                  refine pure_ (i := 2) (N := some 22) (v := ?_) (a' := ?_) #[true, true, true, false, false, false, false, false, false, false] rfl rfl (any_of HT_.out (by kernel_rfl)) (fun _ _ _ h => h) (Or.inl ⟨by rfl, ?_⟩) ?_ ?_
                  rotate_left
                  · intro w'
                    go_simp
                    with_reducible rfl
                  rotate_left
                  · simp only [Act.put, List.setIfInBounds_toArray, List.set_cons_zero, List.set_cons_succ, i64_w, i32_w]
                    rfl
                  refine pure_ (i := 4) (N := some 24) (v := ?_) (a' := ?_) #[true, true, true, false, true, false, false, false, false, false] rfl rfl (any_of HT_.out (by kernel_rfl)) (fun _ _ _ h => h) (Or.inl ⟨by rfl, ?_⟩) ?_ ?_
                  rotate_left
                  · intro w'
                    go_simp
                    with_reducible rfl
                  rotate_left
                  · simp only [Act.put, List.setIfInBounds_toArray, List.set_cons_zero, List.set_cons_succ, i64_w, i32_w]
                    rfl
                  refine pure_ (i := 5) (N := some 25) (v := ?_) (a' := ?_) #[true, true, true, false, true, true, false, false, false, false] rfl rfl (any_of HT_.out (by kernel_rfl)) (fun _ _ _ h => h) (Or.inl ⟨by rfl, ?_⟩) ?_ ?_
                  rotate_left
                  · intro w'
                    go_simp
                    with_reducible rfl
                  rotate_left
                  · simp only [Act.put, List.setIfInBounds_toArray, List.set_cons_zero, List.set_cons_succ, i64_w, i32_w]
                    rfl
                  refine pure_ (i := 6) (N := some 26) (v := ?_) (a' := ?_) #[true, true, true, false, true, true, true, false, false, false] rfl rfl (any_of HT_.out (by kernel_rfl)) (fun _ _ _ h => h) (Or.inl ⟨by rfl, ?_⟩) ?_ ?_
                  rotate_left
                  · intro w'
                    go_simp
                    with_reducible rfl
                  rotate_left
                  · simp only [Act.put, List.setIfInBounds_toArray, List.set_cons_zero, List.set_cons_succ, i64_w, i32_w]
                    rfl
                  refine pure_ (i := 7) (N := some 27) (v := ?_) (a' := ?_) #[true, true, true, false, true, true, true, true, false, false] rfl rfl (any_of HT_.out (by kernel_rfl)) (fun _ _ _ h => h) (Or.inl ⟨by rfl, ?_⟩) ?_ ?_
                  rotate_left
                  · intro w'
                    go_simp
                    with_reducible rfl
                  rotate_left
                  · simp only [Act.put, List.setIfInBounds_toArray, List.set_cons_zero, List.set_cons_succ, i64_w, i32_w]
                    rfl
                  refine take_ (i := 3) (N := some 23) (v := ?_) (a' := ?_) #[true, true, true, true, true, true, true, true, false, false] rfl rfl (take_ofW HT_.out HW_.out (by kernel_rfl)) (fun _ _ _ h => h) (Or.inl ⟨by rfl, ?_⟩) hHeld ?_ ?_
                  rotate_left
                  · rintro w' ⟨s0, s1⟩
                    go_simp
                    with_reducible rfl
                  rotate_left
                  · simp only [Act.put, List.setIfInBounds_toArray, List.set_cons_zero, List.set_cons_succ, i64_w, i32_w]
                    rfl
                  refine take_ (i := 8) (N := some 28) (v := ?_) (a' := ?_) #[true, true, true, true, true, true, true, true, true, false] rfl rfl (take_ofW HT_.out HW_.out (by kernel_rfl)) (fun _ _ _ h => h) (Or.inl ⟨by rfl, ?_⟩) hHeld ?_ ?_
                  rotate_left
                  · rintro w' ⟨s0, s1⟩
                    go_simp
                    with_reducible rfl
                  rotate_left
                  · simp only [Act.put, List.setIfInBounds_toArray, List.set_cons_zero, List.set_cons_succ, i64_w, i32_w]
                    rfl
                  refine pure_ (i := 9) (N := some 29) (v := ?_) (a' := ?_) #[true, true, true, true, true, true, true, true, true, true] rfl rfl (any_of HT_.out (by kernel_rfl)) (fun _ _ _ h => h) (Or.inl ⟨by rfl, ?_⟩) ?_ ?_
                  rotate_left
                  · intro w'
                    go_simp
                    with_reducible rfl
                  rotate_left
                  · simp only [Act.put, List.setIfInBounds_toArray, List.set_cons_zero, List.set_cons_succ, i64_w, i32_w]
                    rfl
                  refine done_ (done_of HT_.out (by kernel_rfl)) ?_
                  try go_wp2
                  go_roundg k1
                  case measure => have := HK1.out; omega
                  case rel => exact ⟨(ji11), (by first | rfl | (simp; done) | (simp only [← hji11] <;> (first | rfl | simp)) | (simp [*]; done)), H', ⟨by have := HK1.out; omega⟩, ⟨by (with_reducible repeat (first | apply Kd.R_alloc | apply Kd.R_drewN | apply Kd.R_drew)); exact HO_5.out⟩, ⟨by repeat (first | (with_reducible first | exact HB.out | apply below_alloc | apply pw_below_drewN | apply below_drew1) | exact HB.out)⟩⟩
              · rw [if_neg c12] at H
                exact absurd H (by simp)
            · rw [if_neg c10] at H
              exact absurd H (by simp)
          · rw [if_neg c9] at H
            exact absurd H (by simp)
        · rw [if_neg c8] at H
          have c8b0 : decide ((wrap64 (x6_1 + 1)) < (t185.length : Int)) = false := decide_eq_false c8
          clear c8
          by_cases c16 : (t185.length : Int) = 0
          · rw [if_pos c16] at H
            have c16b0 : ((t185.length : Int) == 0) = true := beq_iff_eq.mpr c16
            have c16b1 : ((t185.length : Int) != 0) = false := bne_eq_false_iff_eq.mpr c16
            clear c16
            by_cases c17 : a0 = 0
            · rw [if_pos c17] at H
              have c17b0 : (a0 == 0) = true := beq_iff_eq.mpr c17
              have c17b1 : (a0 != 0) = false := bne_eq_false_iff_eq.mpr c17
              clear c17
              replace H := Option.bind_eq_some_iff.mp H
              obtain ⟨t190, A180, H⟩ := H
              replace H : (some (t190 == 0)) = some true := H
              have A18 := Aside0.mk A180
              clear A180
              first
                | exact absurd (Option.some.inj H) (by decide)
                | (have HT := Option.some.inj H
                   obtain ⟨Ao19, co19, eo19⟩ := Kd.R_slice HO_5.out
                   subst eo19
                   go_wp2_with (first | (go_at_call 22; (with_reducible refine (bits_Count.calls a0 t190 _ A18.out).mono ?_); rintro e w' ⟨rfl, ⟨nd, rfl⟩⟩))
                   go_ret
                   exact ⟨by first | rfl | (simp [errW_none, errW_some] <;> rfl) | (simp [*, errW_none, errW_some] <;> rfl), by repeat (first | (with_reducible first | exact HB.out | apply below_alloc | apply pw_below_drewN | apply below_drew1) | exact HB.out)⟩)
            · rw [if_neg c17] at H
              exact absurd H (by simp)
          · rw [if_neg c16] at H
            have c16b0 : ((t185.length : Int) == 0) = false := beq_eq_false_iff_ne.mpr c16
            have c16b1 : ((t185.length : Int) != 0) = true := bne_iff_ne.mpr c16
            have c16b2 : ¬ (t185 = []) := fun h_ => c16 (by rw [h_]; rfl)
            obtain ⟨y191, hy191⟩ : ∃ y_ : List Int, y_ = (([] : List Int)) := ⟨_, rfl⟩
            replace H : (if 0 ≤ (Int.tmod (wrap64 (a1)) (t185.length : Int)) then (if (Int.tmod (wrap64 (a1)) (t185.length : Int)) ≤ (t185.length : Int) then ((some (t185.drop ((Int.tmod (wrap64 (a1)) (t185.length : Int)) : Int).toNat : List Int)).bind fun y194 => (if y191.length + y194.length < 17592186044416 then ((some (y191 ++ y194 : List Int)).bind fun y198 => ((some (t185.take ((Int.tmod (wrap64 (a1)) (t185.length : Int)) : Int).toNat : List Int)).bind fun y201 => (if y198.length + y201.length < 17592186044416 then ((some (y198 ++ y201 : List Int)).bind fun y205 => (if (Int.tmod (wrap64 (a1)) (t185.length : Int)) < (t185.length : Int) then ((some (([rd t185 (Int.tmod (wrap64 (a1)) (t185.length : Int))] : List Int) : List Int)).bind fun y209 => (if y205.length + y209.length < 17592186044416 then (if 0 < (t185.length : Int) then (if (rd t185 0) ≥ 0 then (if 0 ≤ (wrap64 ((t185.length : Int) - 1)) then (if (wrap64 ((t185.length : Int) - 1)) < (t185.length : Int) then (if (rd t185 (wrap64 ((t185.length : Int) - 1))) < 64 then ((bits_Of.f k1 t185).bind fun t217 => (if t217 = a0 then ((bits_Of.f k1 (y205 ++ y209)).bind fun t218 => (if t218 = a0 then ((bits_Count.f a0).bind fun t219 => (if t219 = (t185.length : Int) then ((bits_First.f a0).bind fun t220 => (if t220 = (rd t185 0) then ((bits_Last.f a0).bind fun t222 => (some (t222 == (rd t185 (wrap64 ((t185.length : Int) - 1)))))) else (none))) else (none))) else (none))) else (none))) else (none)) else (none)) else (none)) else (none)) else (none)) else (none))) else (none))) else (none)))) else (none))) else (none)) else (none)) = some true := by first | (rw [hy191]; with_reducible exact H) | (have H2_ := (Option.bind_some _ _).symm.trans H; rw [hy191]; with_reducible exact H2_) | (have H2_ := (Option.bind_some _ _).symm.trans H; with_reducible exact H2_) | with_reducible exact H | (rw [hy191]; exact H) | exact H
            have Ny191 := Aside0.mk hy191
            clear hy191
            obtain ⟨ji20, hji20⟩ : ∃ j_ : Int, (Int.tmod (wrap64 (a1)) (t185.length : Int)) = j_ := ⟨_, rfl⟩
            replace H : (if 0 ≤ (ji20) then (if (ji20) ≤ (t185.length : Int) then ((some (t185.drop ((ji20) : Int).toNat : List Int)).bind fun y194 => (if y191.length + y194.length < 17592186044416 then ((some (y191 ++ y194 : List Int)).bind fun y198 => ((some (t185.take ((ji20) : Int).toNat : List Int)).bind fun y201 => (if y198.length + y201.length < 17592186044416 then ((some (y198 ++ y201 : List Int)).bind fun y205 => (if (ji20) < (t185.length : Int) then ((some (([rd t185 (ji20)] : List Int) : List Int)).bind fun y209 => (if y205.length + y209.length < 17592186044416 then (if 0 < (t185.length : Int) then (if (rd t185 0) ≥ 0 then (if 0 ≤ (wrap64 ((t185.length : Int) - 1)) then (if (wrap64 ((t185.length : Int) - 1)) < (t185.length : Int) then (if (rd t185 (wrap64 ((t185.length : Int) - 1))) < 64 then ((bits_Of.f k1 t185).bind fun t217 => (if t217 = a0 then ((bits_Of.f k1 (y205 ++ y209)).bind fun t218 => (if t218 = a0 then ((bits_Count.f a0).bind fun t219 => (if t219 = (t185.length : Int) then ((bits_First.f a0).bind fun t220 => (if t220 = (rd t185 0) then ((bits_Last.f a0).bind fun t222 => (some (t222 == (rd t185 (wrap64 ((t185.length : Int) - 1)))))) else (none))) else (none))) else (none))) else (none))) else (none)) else (none)) else (none)) else (none)) else (none)) else (none))) else (none))) else (none)))) else (none))) else (none)) else (none)) = some true := by first | (rw [hji20] at H; exact H) | (simp only [hji20] at H ⊢; exact H)
            by_cases c21 : 0 ≤ (ji20)
            · rw [if_pos c21] at H
              have c21b0 := eq_true c21
              have c21b1 : decide (0 ≤ (ji20)) = true := decide_eq_true c21
              clear c21
              by_cases c22 : (ji20) ≤ (t185.length : Int)
              · rw [if_pos c22] at H
                have c22b0 := eq_true c22
                have c22b1 : decide ((ji20) ≤ (t185.length : Int)) = true := decide_eq_true c22
                clear c22
                obtain ⟨y194, hy194⟩ : ∃ y_ : List Int, y_ = (t185.drop ((ji20) : Int).toNat) := ⟨_, rfl⟩
                replace H : (if y191.length + y194.length < 17592186044416 then ((some (y191 ++ y194 : List Int)).bind fun y198 => ((some (t185.take ((ji20) : Int).toNat : List Int)).bind fun y201 => (if y198.length + y201.length < 17592186044416 then ((some (y198 ++ y201 : List Int)).bind fun y205 => (if (ji20) < (t185.length : Int) then ((some (([rd t185 (ji20)] : List Int) : List Int)).bind fun y209 => (if y205.length + y209.length < 17592186044416 then (if 0 < (t185.length : Int) then (if (rd t185 0) ≥ 0 then (if 0 ≤ (wrap64 ((t185.length : Int) - 1)) then (if (wrap64 ((t185.length : Int) - 1)) < (t185.length : Int) then (if (rd t185 (wrap64 ((t185.length : Int) - 1))) < 64 then ((bits_Of.f k1 t185).bind fun t217 => (if t217 = a0 then ((bits_Of.f k1 (y205 ++ y209)).bind fun t218 => (if t218 = a0 then ((bits_Count.f a0).bind fun t219 => (if t219 = (t185.length : Int) then ((bits_First.f a0).bind fun t220 => (if t220 = (rd t185 0) then ((bits_Last.f a0).bind fun t222 => (some (t222 == (rd t185 (wrap64 ((t185.length : Int) - 1)))))) else (none))) else (none))) else (none))) else (none))) else (none)) else (none)) else (none)) else (none)) else (none)) else (none))) else (none))) else (none)))) else (none)) = some true := by first | (rw [hy194]; with_reducible exact H) | (have H2_ := (Option.bind_some _ _).symm.trans H; rw [hy194]; with_reducible exact H2_) | (have H2_ := (Option.bind_some _ _).symm.trans H; with_reducible exact H2_) | with_reducible exact H | (rw [hy194]; exact H) | exact H
                have Ny194 := Aside0.mk hy194
                clear hy194
                by_cases c23 : y191.length + y194.length < 17592186044416
                · rw [if_pos c23] at H
                  have LMc23 := Aside0.mk c23
                  clear c23
                  obtain ⟨y198, hy198⟩ : ∃ y_ : List Int, y_ = (y191 ++ y194) := ⟨_, rfl⟩
                  replace H : ((some (t185.take ((ji20) : Int).toNat : List Int)).bind fun y201 => (if y198.length + y201.length < 17592186044416 then ((some (y198 ++ y201 : List Int)).bind fun y205 => (if (ji20) < (t185.length : Int) then ((some (([rd t185 (ji20)] : List Int) : List Int)).bind fun y209 => (if y205.length + y209.length < 17592186044416 then (if 0 < (t185.length : Int) then (if (rd t185 0) ≥ 0 then (if 0 ≤ (wrap64 ((t185.length : Int) - 1)) then (if (wrap64 ((t185.length : Int) - 1)) < (t185.length : Int) then (if (rd t185 (wrap64 ((t185.length : Int) - 1))) < 64 then ((bits_Of.f k1 t185).bind fun t217 => (if t217 = a0 then ((bits_Of.f k1 (y205 ++ y209)).bind fun t218 => (if t218 = a0 then ((bits_Count.f a0).bind fun t219 => (if t219 = (t185.length : Int) then ((bits_First.f a0).bind fun t220 => (if t220 = (rd t185 0) then ((bits_Last.f a0).bind fun t222 => (some (t222 == (rd t185 (wrap64 ((t185.length : Int) - 1)))))) else (none))) else (none))) else (none))) else (none))) else (none)) else (none)) else (none)) else (none)) else (none)) else (none))) else (none))) else (none))) = some true := by first | (rw [hy198]; with_reducible exact H) | (have H2_ := (Option.bind_some _ _).symm.trans H; rw [hy198]; with_reducible exact H2_) | (have H2_ := (Option.bind_some _ _).symm.trans H; with_reducible exact H2_) | with_reducible exact H | (rw [hy198]; exact H) | exact H
                  have Ny198 := Aside0.mk hy198
                  clear hy198
                  have c24b0 := eq_true (of_decide_eq_true (by first | (with_reducible assumption) | assumption) : 0 ≤ (ji20))
                  have c25b0 := eq_true (of_decide_eq_true (by first | (with_reducible assumption) | assumption) : (ji20) ≤ (t185.length : Int))
                  obtain ⟨y201, hy201⟩ : ∃ y_ : List Int, y_ = (t185.take ((ji20) : Int).toNat) := ⟨_, rfl⟩
                  replace H : (if y198.length + y201.length < 17592186044416 then ((some (y198 ++ y201 : List Int)).bind fun y205 => (if (ji20) < (t185.length : Int) then ((some (([rd t185 (ji20)] : List Int) : List Int)).bind fun y209 => (if y205.length + y209.length < 17592186044416 then (if 0 < (t185.length : Int) then (if (rd t185 0) ≥ 0 then (if 0 ≤ (wrap64 ((t185.length : Int) - 1)) then (if (wrap64 ((t185.length : Int) - 1)) < (t185.length : Int) then (if (rd t185 (wrap64 ((t185.length : Int) - 1))) < 64 then ((bits_Of.f k1 t185).bind fun t217 => (if t217 = a0 then ((bits_Of.f k1 (y205 ++ y209)).bind fun t218 => (if t218 = a0 then ((bits_Count.f a0).bind fun t219 => (if t219 = (t185.length : Int) then ((bits_First.f a0).bind fun t220 => (if t220 = (rd t185 0) then ((bits_Last.f a0).bind fun t222 => (some (t222 == (rd t185 (wrap64 ((t185.length : Int) - 1)))))) else (none))) else (none))) else (none))) else (none))) else (none)) else (none)) else (none)) else (none)) else (none)) else (none))) else (none))) else (none)) = some true := by first | (rw [hy201]; with_reducible exact H) | (have H2_ := (Option.bind_some _ _).symm.trans H; rw [hy201]; with_reducible exact H2_) | (have H2_ := (Option.bind_some _ _).symm.trans H; with_reducible exact H2_) | with_reducible exact H | (rw [hy201]; exact H) | exact H
                  have Ny201 := Aside0.mk hy201
                  clear hy201
                  by_cases c26 : y198.length + y201.length < 17592186044416
                  · rw [if_pos c26] at H
                    have LMc26 := Aside0.mk c26
                    clear c26
                    obtain ⟨y205, hy205⟩ : ∃ y_ : List Int, y_ = (y198 ++ y201) := ⟨_, rfl⟩
                    replace H : (if (ji20) < (t185.length : Int) then ((some (([rd t185 (ji20)] : List Int) : List Int)).bind fun y209 => (if y205.length + y209.length < 17592186044416 then (if 0 < (t185.length : Int) then (if (rd t185 0) ≥ 0 then (if 0 ≤ (wrap64 ((t185.length : Int) - 1)) then (if (wrap64 ((t185.length : Int) - 1)) < (t185.length : Int) then (if (rd t185 (wrap64 ((t185.length : Int) - 1))) < 64 then ((bits_Of.f k1 t185).bind fun t217 => (if t217 = a0 then ((bits_Of.f k1 (y205 ++ y209)).bind fun t218 => (if t218 = a0 then ((bits_Count.f a0).bind fun t219 => (if t219 = (t185.length : Int) then ((bits_First.f a0).bind fun t220 => (if t220 = (rd t185 0) then ((bits_Last.f a0).bind fun t222 => (some (t222 == (rd t185 (wrap64 ((t185.length : Int) - 1)))))) else (none))) else (none))) else (none))) else (none))) else (none)) else (none)) else (none)) else (none)) else (none)) else (none))) else (none)) = some true := by first | (rw [hy205]; with_reducible exact H) | (have H2_ := (Option.bind_some _ _).symm.trans H; rw [hy205]; with_reducible exact H2_) | (have H2_ := (Option.bind_some _ _).symm.trans H; with_reducible exact H2_) | with_reducible exact H | (rw [hy205]; exact H) | exact H
                    have Ny205 := Aside0.mk hy205
                    clear hy205
                    by_cases c27 : (ji20) < (t185.length : Int)
                    · rw [if_pos c27] at H
                      have c27b0 : decide ((ji20) < (t185.length : Int)) = true := decide_eq_true c27
                      clear c27
                      obtain ⟨y209, hy209⟩ : ∃ y_ : List Int, y_ = (([rd t185 (ji20)] : List Int)) := ⟨_, rfl⟩
                      replace H : (if y205.length + y209.length < 17592186044416 then (if 0 < (t185.length : Int) then (if (rd t185 0) ≥ 0 then (if 0 ≤ (wrap64 ((t185.length : Int) - 1)) then (if (wrap64 ((t185.length : Int) - 1)) < (t185.length : Int) then (if (rd t185 (wrap64 ((t185.length : Int) - 1))) < 64 then ((bits_Of.f k1 t185).bind fun t217 => (if t217 = a0 then ((bits_Of.f k1 (y205 ++ y209)).bind fun t218 => (if t218 = a0 then ((bits_Count.f a0).bind fun t219 => (if t219 = (t185.length : Int) then ((bits_First.f a0).bind fun t220 => (if t220 = (rd t185 0) then ((bits_Last.f a0).bind fun t222 => (some (t222 == (rd t185 (wrap64 ((t185.length : Int) - 1)))))) else (none))) else (none))) else (none))) else (none))) else (none)) else (none)) else (none)) else (none)) else (none)) else (none)) = some true := by first | (rw [hy209]; with_reducible exact H) | (have H2_ := (Option.bind_some _ _).symm.trans H; rw [hy209]; with_reducible exact H2_) | (have H2_ := (Option.bind_some _ _).symm.trans H; with_reducible exact H2_) | with_reducible exact H | (rw [hy209]; exact H) | exact H
                      have Ny209 := Aside0.mk hy209
                      clear hy209
                      by_cases c28 : y205.length + y209.length < 17592186044416
                      · rw [if_pos c28] at H
                        have LMc28 := Aside0.mk c28
                        clear c28
                        obtain ⟨y212, hy212⟩ : ∃ y_ : List Int, y_ = (y205 ++ y209) := ⟨_, rfl⟩
                        replace H : (if 0 < (t185.length : Int) then (if (rd t185 0) ≥ 0 then (if 0 ≤ (wrap64 ((t185.length : Int) - 1)) then (if (wrap64 ((t185.length : Int) - 1)) < (t185.length : Int) then (if (rd t185 (wrap64 ((t185.length : Int) - 1))) < 64 then ((bits_Of.f k1 t185).bind fun t217 => (if t217 = a0 then ((bits_Of.f k1 y212).bind fun t218 => (if t218 = a0 then ((bits_Count.f a0).bind fun t219 => (if t219 = (t185.length : Int) then ((bits_First.f a0).bind fun t220 => (if t220 = (rd t185 0) then ((bits_Last.f a0).bind fun t222 => (some (t222 == (rd t185 (wrap64 ((t185.length : Int) - 1)))))) else (none))) else (none))) else (none))) else (none))) else (none)) else (none)) else (none)) else (none)) else (none)) = some true := by first | (rw [hy212]; with_reducible exact H) | (have H2_ := (Option.bind_some _ _).symm.trans H; rw [hy212]; with_reducible exact H2_) | (have H2_ := (Option.bind_some _ _).symm.trans H; with_reducible exact H2_) | with_reducible exact H | (rw [hy212]; exact H) | exact H
                        have Ny212 := Aside0.mk hy212
                        clear hy212
                        by_cases c29 : 0 < (t185.length : Int)
                        · rw [if_pos c29] at H
                          have c29b0 : decide (0 < (t185.length : Int)) = true := decide_eq_true c29
                          have c29b1 : decide (0 < t185.length) = true := decide_eq_true (by omega)
                          clear c29
                          by_cases c30 : (rd t185 0) ≥ 0
                          · rw [if_pos c30] at H
                            have c30b0 : decide (0 ≤ (rd t185 0)) = true := decide_eq_true c30
                            clear c30
                            obtain ⟨ji31, hji31⟩ : ∃ j_ : Int, (wrap64 ((t185.length : Int) - 1)) = j_ := ⟨_, rfl⟩
                            replace H : (if 0 ≤ (ji31) then (if (ji31) < (t185.length : Int) then (if (rd t185 (ji31)) < 64 then ((bits_Of.f k1 t185).bind fun t217 => (if t217 = a0 then ((bits_Of.f k1 y212).bind fun t218 => (if t218 = a0 then ((bits_Count.f a0).bind fun t219 => (if t219 = (t185.length : Int) then ((bits_First.f a0).bind fun t220 => (if t220 = (rd t185 0) then ((bits_Last.f a0).bind fun t222 => (some (t222 == (rd t185 (ji31))))) else (none))) else (none))) else (none))) else (none))) else (none)) else (none)) else (none)) = some true := by first | (rw [hji31] at H; exact H) | (simp only [hji31] at H ⊢; exact H)
                            have hji31w : (IntKind.i64.wrap ((t185.length : Int) - 1)) = ji31 := (i64_w _).trans hji31
                            by_cases c32 : 0 ≤ (ji31)
                            · rw [if_pos c32] at H
                              have c32b0 : decide (0 ≤ (ji31)) = true := decide_eq_true c32
                              clear c32
                              by_cases c33 : (ji31) < (t185.length : Int)
                              · rw [if_pos c33] at H
                                have c33b0 : decide ((ji31) < (t185.length : Int)) = true := decide_eq_true c33
                                clear c33
                                by_cases c34 : (rd t185 (ji31)) < 64
                                · rw [if_pos c34] at H
                                  have c34b0 : decide ((rd t185 (ji31)) < 64) = true := decide_eq_true c34
                                  clear c34
                                  replace H := Option.bind_eq_some_iff.mp H
                                  obtain ⟨t217, A350, H⟩ := H
                                  replace H : (if t217 = a0 then ((bits_Of.f k1 y212).bind fun t218 => (if t218 = a0 then ((bits_Count.f a0).bind fun t219 => (if t219 = (t185.length : Int) then ((bits_First.f a0).bind fun t220 => (if t220 = (rd t185 0) then ((bits_Last.f a0).bind fun t222 => (some (t222 == (rd t185 (ji31))))) else (none))) else (none))) else (none))) else (none)) = some true := H
                                  have A35 := Aside0.mk A350
                                  clear A350
                                  by_cases c36 : t217 = a0
                                  · rw [if_pos c36] at H
                                    have c36b0 : (t217 == a0) = true := beq_iff_eq.mpr c36
                                    have c36b1 : (t217 != a0) = false := bne_eq_false_iff_eq.mpr c36
                                    clear c36
                                    replace H := Option.bind_eq_some_iff.mp H
                                    obtain ⟨t218, A370, H⟩ := H
                                    replace H : (if t218 = a0 then ((bits_Count.f a0).bind fun t219 => (if t219 = (t185.length : Int) then ((bits_First.f a0).bind fun t220 => (if t220 = (rd t185 0) then ((bits_Last.f a0).bind fun t222 => (some (t222 == (rd t185 (ji31))))) else (none))) else (none))) else (none)) = some true := H
                                    have A37 := Aside0.mk A370
                                    clear A370
                                    by_cases c38 : t218 = a0
                                    · rw [if_pos c38] at H
                                      have c38b0 : (t218 == a0) = true := beq_iff_eq.mpr c38
                                      have c38b1 : (t218 != a0) = false := bne_eq_false_iff_eq.mpr c38
                                      clear c38
                                      replace H := Option.bind_eq_some_iff.mp H
                                      obtain ⟨t219, A390, H⟩ := H
                                      replace H : (if t219 = (t185.length : Int) then ((bits_First.f a0).bind fun t220 => (if t220 = (rd t185 0) then ((bits_Last.f a0).bind fun t222 => (some (t222 == (rd t185 (ji31))))) else (none))) else (none)) = some true := H
                                      have A39 := Aside0.mk A390
                                      clear A390
                                      by_cases c40 : t219 = (t185.length : Int)
                                      · rw [if_pos c40] at H
                                        have c40b0 : (t219 == (t185.length : Int)) = true := beq_iff_eq.mpr c40
                                        have c40b1 : (t219 != (t185.length : Int)) = false := bne_eq_false_iff_eq.mpr c40
                                        clear c40
                                        replace H := Option.bind_eq_some_iff.mp H
                                        obtain ⟨t220, A410, H⟩ := H
                                        replace H : (if t220 = (rd t185 0) then ((bits_Last.f a0).bind fun t222 => (some (t222 == (rd t185 (ji31))))) else (none)) = some true := H
                                        have A41 := Aside0.mk A410
                                        clear A410
                                        by_cases c42 : t220 = (rd t185 0)
                                        · rw [if_pos c42] at H
                                          have c42b0 : (t220 == (rd t185 0)) = true := beq_iff_eq.mpr c42
                                          have c42b1 : (t220 != (rd t185 0)) = false := bne_eq_false_iff_eq.mpr c42
                                          clear c42
                                          replace H := Option.bind_eq_some_iff.mp H
                                          obtain ⟨t222, A430, H⟩ := H
                                          replace H : (some (t222 == (rd t185 (ji31)))) = some true := H
                                          have A43 := Aside0.mk A430
                                          clear A430
                                          first
                                            | exact absurd (Option.some.inj H) (by decide)
                                            | (have HT := Option.some.inj H
                                               obtain ⟨Ao44, co44, eo44⟩ := Kd.R_slice HO_5.out
                                               subst eo44
                                               try go_wp2
                                               have n0_ := Aside0.mk (Kd.R_drew HO_5.out)
                                               have n1_ := Aside0.mk (below_drew1 HB.out)
                                               clear HO_5
                                               clear HB
                                               have HO_5 := n0_
                                               have HB := n1_
                                               clear n0_ n1_
                                               have q46 : ((ji20) : Int) ≤ ((t185.length : Int) : Int) := of_decide_eq_true (by first | (with_reducible assumption) | assumption)
                                               obtain ⟨i046, hi046, _, hsz46, _⟩ := info_parts info3
                                               have hroom46 : t185.length ≤ co44 := (Kd.R_reads' HO_5.out).2.1
                                               have hC46 : Kd.C (Kd.int .i64) _ Ao44 t185.length t185 := (Kd.R_reads' HO_5.out).2.2
                                               have q046 : (0 : Int) ≤ ((ji20) : Int) := of_decide_eq_true (by first | (with_reducible assumption) | assumption)
                                               have hcut46 := cut_from (P := Tryd.prog) 23 3 .i64 Tryd.underlying23 hi046 1 hsz46 Ao44 t185.length co44 (ji20) q046 q46
                                               have hr46 := Kd.C_drop (m := ((ji20) : Int).toNat) (c := co44) hC46 (by omega) hroom46
                                               obtain ⟨A46, hA46⟩ : ∃ A1, A1 = (if co44 = ((ji20) : Int).toNat then Ao44 else (Ao44 : Option Addr).map (·.add (((ji20) : Int).toNat * 1))) := ⟨_, rfl⟩
                                               obtain ⟨c46, hc46⟩ : ∃ c1, c1 = co44 - ((ji20) : Int).toNat := ⟨_, rfl⟩
                                               have hy46 : y194.length = t185.length - ((ji20) : Int).toNat := (by rw [Ny194.out, List.length_drop] <;> omega)
                                               rw [show (t185).drop ((ji20) : Int).toNat = y194 from Ny194.out.symm] at hr46
                                               replace hr46 : Kd.C (Kd.int .i64) _ A46 y194.length y194 := (by rw [hA46]; exact hr46)
                                               rw [← hy46, ← hA46, ← hc46] at hcut46
                                               have HR197 := Aside0.mk hr46
                                               have HC197 := Aside0.mk (show y194.length ≤ c46 from by rw [hy46, hc46]; exact Nat.sub_le_sub_right hroom46 _)
                                               clear hr46 hC46 hroom46 hi046 hsz46 hc46
                                               have KY46 := Aside0.mk hy46
                                               have KA46 := Aside0.mk hA46
                                               clear hy46 hA46
                                               have KL46 := Aside0.mk (show ((ji20) : Int).toNat ≤ t185.length from by omega)
                                               replace q46 := eq_true q46
                                               have q47 : ((ji20) : Int) ≤ ((t185.length : Int) : Int) := of_decide_eq_true (by first | (with_reducible assumption) | assumption)
                                               obtain ⟨i047, hi047, _, hsz47, _⟩ := info_parts info3
                                               have hroom47 : t185.length ≤ co44 := (Kd.R_reads' HO_5.out).2.1
                                               have hC47 : Kd.C (Kd.int .i64) _ Ao44 t185.length t185 := (Kd.R_reads' HO_5.out).2.2
                                               have hcut47 := cut_to (P := Tryd.prog) 23 3 .i64 Tryd.underlying23 hi047 Ao44 t185.length co44 (ji20) (of_decide_eq_true (by first | (with_reducible assumption) | assumption)) q47 hroom47
                                               have hr47 := Kd.C_take (m := ((ji20) : Int).toNat) hC47 (by omega)
                                               have hy47 : y201.length = ((ji20) : Int).toNat := (by rw [Ny201.out, List.length_take]; omega)
                                               rw [← Ny201.out] at hr47
                                               rw [← hy47] at hcut47
                                               have HR204 := Aside0.mk hr47
                                               have HC204 := Aside0.mk (show y201.length ≤ co44 from by omega)
                                               clear hr47 hC47 hroom47 hi047 hsz47
                                               have KY47 := Aside0.mk hy47
                                               clear hy47
                                               have KL47 := Aside0.mk (show ((ji20) : Int).toNat ≤ t185.length from by omega)
                                               replace q47 := eq_true q47
                                               have p208 : 0 ≤ ((ji20) : Int) := of_decide_eq_true (by first | (with_reducible assumption) | assumption)
                                               have q208 : (ji20) < (t185.length : Int) := of_decide_eq_true (by first | (with_reducible assumption) | assumption)
                                               obtain ⟨ad208, e208, hx208_0⟩ := Kd.at_int (Kd.R_reads' HO_5.out).2.2 (ji20) p208 q208
                                               cases e208
                                               replace p208 := eq_true p208
                                               replace q208 := eq_true q208
                                               refine start_ (n := 16) (S := fun w' => w'.cell? (ad208.add ((ji20)).toNat) = some (.int .i64 (rd t185 (ji20)))) (ds := []) #[false, false, false, false, false, false, false, false, false, false, false, false, false, false, false, false] (by kernel_rfl) rfl rfl (hx208_0) (fun hHeld => ?_); refine with_tabW withelaw1_BitsBack.tab12 withelaw1_BitsBack.bits12 (fun HT_ HW_ => ?_)
                                               generalize wr.drew = w45 at HO_5 HB HR197 HR204 hx208_0 hHeld ⊢
                                               refine pure_ (i := 1) (N := some 46) (v := ?_) (a' := ?_) #[false, true, false, false, false, false, false, false, false, false, false, false, false, false, false, false] rfl rfl (any_of HT_.out (by kernel_rfl)) (fun _ _ _ h => h) (Or.inl ⟨by rfl, ?_⟩) ?_ ?_
                                               rotate_left
                                               · intro w'
                                                 go_simp
                                                 with_reducible rfl
                                               rotate_left
                                               · simp only [Act.put, List.setIfInBounds_toArray, List.set_cons_zero, List.set_cons_succ, i64_w, i32_w]
                                                 rfl
                                               refine pure_ (i := 2) (N := some 47) (v := ?_) (a' := ?_) #[false, true, true, false, false, false, false, false, false, false, false, false, false, false, false, false] rfl rfl (any_of HT_.out (by kernel_rfl)) (fun _ _ _ h => h) (Or.inl ⟨by rfl, ?_⟩) ?_ ?_
                                               rotate_left
                                               · intro w'
                                                 go_simp
                                                 with_reducible rfl
                                               rotate_left
                                               · simp only [Act.put, List.setIfInBounds_toArray, List.set_cons_zero, List.set_cons_succ, i64_w, i32_w]
                                                 rfl
                                               refine pure_ (i := 3) (N := some 48) (v := ?_) (a' := ?_) #[false, true, true, true, false, false, false, false, false, false, false, false, false, false, false, false] rfl rfl (any_of HT_.out (by kernel_rfl)) (fun _ _ _ h => h) (Or.inl ⟨by rfl, ?_⟩) ?_ ?_
                                               rotate_left
                                               · intro w'
                                                 go_simp
                                                 with_reducible rfl
                                               rotate_left
                                               · simp only [Act.put, List.setIfInBounds_toArray, List.set_cons_zero, List.set_cons_succ, i64_w, i32_w]
                                                 rfl
                                               refine pure_ (i := 5) (N := some 50) (v := ?_) (a' := ?_) #[false, true, true, true, false, true, false, false, false, false, false, false, false, false, false, false] rfl rfl (any_of HT_.out (by kernel_rfl)) (fun _ _ _ h => h) (Or.inl ⟨by rfl, ?_⟩) ?_ ?_
                                               rotate_left
                                               · intro w'
                                                 go_simp
                                                 with_reducible rfl
                                               rotate_left
                                               · simp only [Act.put, List.setIfInBounds_toArray, List.set_cons_zero, List.set_cons_succ, i64_w, i32_w]
                                                 rfl
                                               refine pure_ (i := 6) (N := some 51) (v := ?_) (a' := ?_) #[false, true, true, true, false, true, true, false, false, false, false, false, false, false, false, false] rfl rfl (any_of HT_.out (by kernel_rfl)) (fun _ _ _ h => h) (Or.inl ⟨by rfl, ?_⟩) ?_ ?_
                                               rotate_left
                                               · intro w'
                                                 go_simp
                                                 with_reducible rfl
                                               rotate_left
                                               · simp only [Act.put, List.setIfInBounds_toArray, List.set_cons_zero, List.set_cons_succ, i64_w, i32_w]
                                                 rfl
                                               refine pure_ (i := 7) (N := some 52) (v := ?_) (a' := ?_) #[false, true, true, true, false, true, true, true, false, false, false, false, false, false, false, false] rfl rfl (any_of HT_.out (by kernel_rfl)) (fun _ _ _ h => h) (Or.inl ⟨by rfl, ?_⟩) ?_ ?_
                                               rotate_left
                                               · intro w'
                                                 go_simp
                                                 with_reducible rfl
                                               rotate_left
                                               · simp only [Act.put, List.setIfInBounds_toArray, List.set_cons_zero, List.set_cons_succ, i64_w, i32_w]
                                                 rfl
                                               refine pure_ (i := 9) (N := some 54) (v := ?_) (a' := ?_) #[false, true, true, true, false, true, true, true, false, true, false, false, false, false, false, false] rfl rfl (any_of HT_.out (by kernel_rfl)) (fun _ _ _ h => h) (Or.inl ⟨by rfl, ?_⟩) ?_ ?_
                                               rotate_left
                                               · intro w'
                                                 go_simp
                                                 with_reducible rfl
                                               rotate_left
                                               · simp only [Act.put, List.setIfInBounds_toArray, List.set_cons_zero, List.set_cons_succ, i64_w, i32_w]
                                                 rfl
                                               refine pure_ (i := 10) (N := some 55) (v := ?_) (a' := ?_) #[false, true, true, true, false, true, true, true, false, true, true, false, false, false, false, false] rfl rfl (any_of HT_.out (by kernel_rfl)) (fun _ _ _ h => h) (Or.inl ⟨by rfl, ?_⟩) ?_ ?_
                                               rotate_left
                                               · intro w'
                                                 go_simp
                                                 with_reducible rfl
                                               rotate_left
                                               · simp only [Act.put, List.setIfInBounds_toArray, List.set_cons_zero, List.set_cons_succ, i64_w, i32_w]
                                                 rfl
                                               refine pure_ (i := 11) (N := some 56) (v := ?_) (a' := ?_) #[false, true, true, true, false, true, true, true, false, true, true, true, false, false, false, false] rfl rfl (any_of HT_.out (by kernel_rfl)) (fun _ _ _ h => h) (Or.inl ⟨by rfl, ?_⟩) ?_ ?_
                                               rotate_left
                                               · intro w'
                                                 go_simp
                                                 with_reducible rfl
                                               rotate_left
                                               · simp only [Act.put, List.setIfInBounds_toArray, List.set_cons_zero, List.set_cons_succ, i64_w, i32_w]
                                                 rfl
                                               refine take_ (i := 12) (N := some 57) (v := ?_) (a' := ?_) #[false, true, true, true, false, true, true, true, false, true, true, true, true, false, false, false] rfl rfl (take_ofW HT_.out HW_.out (by kernel_rfl)) (fun _ _ _ h => h) (Or.inl ⟨by rfl, ?_⟩) hHeld ?_ ?_
                                               rotate_left
                                               · intro w' s0
                                                 go_simp
                                                 with_reducible rfl
                                               rotate_left
                                               · simp only [Act.put, List.setIfInBounds_toArray, List.set_cons_zero, List.set_cons_succ, i64_w, i32_w]
                                                 rfl
                                               refine join_ (σ := Value × Value × Value × Value) 2 #[true, true, true, true, true, true, true, true, true, true, true, true, true, true, false, false] (fun s_ => [(45, s_.1), (49, s_.2.1), (53, s_.2.2.1), (58, s_.2.2.2)]) (fun s_ w' => (w'.cell? (ad208.add ((ji20)).toNat) = some (.int .i64 (rd t185 (ji20)))) ∧ (Kd.R (Kd.int .i64) 3 w' w.heap.size (fun k_ => some k_ ≠ (s_.2.2.2 : Value).ownBlock ∧ some k_ ≠ (.slice (some ad208) t185.length co44 : Value).ownBlock) s_.2.2.1 y205) ∧ (Kd.R (Kd.int .i64) 3 w' w.heap.size (fun k_ => some k_ ≠ (s_.2.2.1 : Value).ownBlock ∧ some k_ ≠ (.slice (some ad208) t185.length co44 : Value).ownBlock) s_.2.2.2 y209) ∧ (Kd.R (Kd.int .i64) 3 w' w.heap.size (fun k_ => some k_ ≠ (s_.2.2.1 : Value).ownBlock ∧ some k_ ≠ (s_.2.2.2 : Value).ownBlock) (.slice (some ad208) t185.length co44) t185) ∧ (Below w.heap.size w w')) ?_ ?_
                                               rotate_left
                                               · intro hCont
                                                 refine two_ (i := 0) (j := 13) (Ni := some 45) (Nj := some 58) #[true, true, true, true, false, true, true, true, false, true, true, true, true, false, false, false] #[false, true, true, true, false, true, true, true, false, true, true, true, true, true, false, false] rfl rfl rfl rfl (two_of HT_.out (by kernel_rfl)) (by decide) (by decide) (fun K hK => ?_) (fun K hK => ?_)
                                                 · skip
                                                   refine Kd.R_lit_step (Kd.int .i64) _ 3 ?hg (N := 45) ?hd (xs := ([] : List Int)) (inner := []) (ok := fun _ => True) (okp := fun _ => True) ?hr ?hp (fun _ hk => hk) trivial (Below.refl _ _) (Nat.le_refl _) (by simp) ?_; (case hd => rfl); (case hg => rfl); (case hr => first | (go_simp; done) | (go_simp; rfl)); (case hp => exact (Reps.none _ _))
                                                   intro v192 w48 ho49 hb hg_ hnew_
                                                   have HS0_ := (hb.cell (World.block_lt_of_cell? _ _ (hHeld))).trans (hHeld)
                                                   clear hg_ hnew_
                                                   (first | rw [← Ny191.out] at ho49 | (simp only [Int.reduceToNat] at ho49; rw [← Ny191.out] at ho49))
                                                   have n0_ := Aside0.mk (Kd.R_elder' (by (with_reducible repeat (first | apply Kd.R_alloc | apply Kd.R_drewN | apply Kd.R_drew)); exact HO_5.out) (Kd.R_base ho49) hb)
                                                   have n1_ := Aside0.mk (Kd.R_lower (Kd.R_new' ho49 (Kd.R_lt (by (with_reducible repeat (first | apply Kd.R_alloc | apply Kd.R_drewN | apply Kd.R_drew)); exact HO_5.out))) (below_size (by repeat (first | (with_reducible first | exact HB.out | apply below_alloc | apply pw_below_drewN | apply below_drew1) | exact HB.out))))
                                                   have n2_ := Aside0.mk (Kd.C_below (by repeat (first | (with_reducible exact HR197.out) | (with_reducible refine Kd.C_alloc ?_ _) | (with_reducible refine Kd.C_drewN ?_ _) | (with_reducible refine Kd.C_drew ?_) | exact HR197.out)) hb)
                                                   have n3_ := Aside0.mk (Kd.C_below (by repeat (first | (with_reducible exact HR204.out) | (with_reducible refine Kd.C_alloc ?_ _) | (with_reducible refine Kd.C_drewN ?_ _) | (with_reducible refine Kd.C_drew ?_) | exact HR204.out)) hb)
                                                   have n4_ := Aside0.mk (below_step (by repeat (first | (with_reducible first | exact HB.out | apply below_alloc | apply pw_below_drewN | apply below_drew1) | exact HB.out)) hb)
                                                   clear HO_5
                                                   clear HR197
                                                   clear HR204
                                                   clear HB
                                                   have HO_5 := n0_
                                                   have HO193 := n1_
                                                   have HR197 := n2_
                                                   have HR204 := n3_
                                                   have HB := n4_
                                                   clear n0_ n1_ n2_ n3_ n4_
                                                   clear hb ho49
                                                   refine hK.out _ _ (HS0_) (fun hHeld => ?_)
                                                   clear hK K
                                                   refine norm_ (a' := ?_) ?_ ?_
                                                   rotate_left
                                                   · show Act.put _ (some 45) _ = _
                                                     simp only [Act.put, List.setIfInBounds_toArray, List.set_cons_zero, List.set_cons_succ, i64_w, i32_w]
                                                     rfl
                                                   refine two_ (i := 4) (j := 13) (Ni := some 49) (Nj := some 58) #[true, true, true, true, true, true, true, true, false, true, true, true, true, false, false, false] #[true, true, true, true, false, true, true, true, false, true, true, true, true, true, false, false] rfl rfl rfl rfl (two_of HT_.out (by kernel_rfl)) (by decide) (by decide) (fun K hK => ?_) (fun K hK => ?_)
                                                   · skip
                                                     refine Kd.R_append_rows_step (Kd.int .i64) (w0 := w) w.heap.size (by rfl) (.tmp 45) (.tmp 48) 23 3 (.int .i64 0) 8 rfl Tryd.underlying23 info3 rfl (by decide) (by omega) v192 y191 y194 _ _ _ (fun k_ => some k_ ≠ (.slice (some ad208) t185.length co44 : Value).ownBlock) (fun _ => False) rfl rfl ?aO ?aR (fun _ _ h => h) (fun _ h => h.elim) ?aF ?aB ?aS ?aL ?_
                                                     (case aR => repeat (first | exact (by repeat (first | (with_reducible exact HR197.out) | (with_reducible refine Kd.C_alloc ?_ _) | (with_reducible refine Kd.C_drewN ?_ _) | (with_reducible refine Kd.C_drew ?_) | exact HR197.out)) | (with_reducible refine Kd.C_alloc ?_ _) | (with_reducible refine Kd.C_drewN ?_ _) | (with_reducible refine Kd.C_drew ?_)))
                                                     (case aB => exact (by repeat (first | (with_reducible first | exact HB.out | apply below_alloc | apply pw_below_drewN | apply below_drew1) | exact HB.out)))
                                                     (case aF => exact (fun k_ hk => Kd.fresh' (Kd.R_lt (by (with_reducible repeat (first | apply Kd.R_alloc | apply Kd.R_drewN | apply Kd.R_drew)); exact HO_5.out)) k_ hk))
                                                     (case aO => exact (by (with_reducible repeat (first | apply Kd.R_alloc | apply Kd.R_drewN | apply Kd.R_drew)); exact Kd.R_mono HO193.out (fun _ hk => hk.2)))
                                                     (case aS => exact (below_size (by repeat (first | (with_reducible first | exact HB.out | apply below_alloc | apply pw_below_drewN | apply below_drew1) | exact HB.out))))
                                                     (case aL => have := LMc23.out; omega)
                                                     intro v199 w50 ho hb hg hat
                                                     (have HS0_ := cell_grown hg (hHeld) (by first | (rw [add_block]; exact (by intro e_; have z_ := HO193.out.1 _ e_.symm; first | exact z_ rfl | exact z_.1 rfl | exact z_.2 rfl | exact z_.1.1 rfl | exact z_.1.2 rfl | exact z_.2.1 rfl | exact z_.2.2 rfl)) | (show some (Addr.add _ _).block ≠ _; rw [add_block]; exact (by intro e_; have z_ := HO193.out.1 _ e_.symm; first | exact z_ rfl | exact z_.1 rfl | exact z_.2 rfl | exact z_.1.1 rfl | exact z_.1.2 rfl | exact z_.2.1 rfl | exact z_.2.2 rfl)) | exact (by intro e_; have z_ := HO193.out.1 _ e_.symm; first | exact z_ rfl | exact z_.1 rfl | exact z_.2 rfl | exact z_.1.1 rfl | exact z_.1.2 rfl | exact z_.2.1 rfl | exact z_.2.2 rfl)))
                                                     rw [← Ny198.out] at ho
                                                     have n0_ := Aside0.mk (Kd.R_after (ok := (fun _ => True)) (by (with_reducible repeat (first | apply Kd.R_alloc | apply Kd.R_drewN | apply Kd.R_drew)); exact HO_5.out) hg hat)
                                                     have n1_ := Aside0.mk (hb)
                                                     have n2_ := Aside0.mk ((show Kd.C (Kd.int .i64) w50 A46 y194.length y194 from by rw [Ny194.out, KA46.out]; exact Kd.C_drop (m := ((ji20) : Int).toNat) (c := co44) ((Kd.R_reads' (Kd.R_after (ok := (fun _ => True)) (by (with_reducible repeat (first | apply Kd.R_alloc | apply Kd.R_drewN | apply Kd.R_drew)); exact HO_5.out) hg hat)).2.2) KL46.out ((Kd.R_reads' (Kd.R_after (ok := (fun _ => True)) (by (with_reducible repeat (first | apply Kd.R_alloc | apply Kd.R_drewN | apply Kd.R_drew)); exact HO_5.out) hg hat)).2.1)))
                                                     have n3_ := Aside0.mk ((show Kd.C (Kd.int .i64) w50 (some ad208) y201.length y201 from by rw [Ny201.out]; exact Kd.C_take (m := ((ji20) : Int).toNat) ((Kd.R_reads' (Kd.R_after (ok := (fun _ => True)) (by (with_reducible repeat (first | apply Kd.R_alloc | apply Kd.R_drewN | apply Kd.R_drew)); exact HO_5.out) hg hat)).2.2) KL47.out))
                                                     have n4_ := Aside0.mk (ho)
                                                     clear HO_5
                                                     clear HB
                                                     clear HR197
                                                     clear HR204
                                                     clear HO193
                                                     have HO_5 := n0_
                                                     have HB := n1_
                                                     have HR197 := n2_
                                                     have HR204 := n3_
                                                     have HO200 := n4_
                                                     clear n0_ n1_ n2_ n3_ n4_
                                                     clear ho hb hg hat
                                                     refine hK.out _ _ (HS0_) (fun hHeld => ?_)
                                                     clear hK K
                                                     refine norm_ (a' := ?_) ?_ ?_
                                                     rotate_left
                                                     · show Act.put _ (some 49) _ = _
                                                       simp only [Act.put, List.setIfInBounds_toArray, List.set_cons_zero, List.set_cons_succ, i64_w, i32_w]
                                                       rfl
                                                     refine two_ (i := 8) (j := 13) (Ni := some 53) (Nj := some 58) #[true, true, true, true, true, true, true, true, true, true, true, true, true, false, false, false] #[true, true, true, true, true, true, true, true, false, true, true, true, true, true, false, false] rfl rfl rfl rfl (two_of HT_.out (by kernel_rfl)) (by decide) (by decide) (fun K hK => ?_) (fun K hK => ?_)
                                                     · skip
                                                       refine Kd.R_append_rows_step (Kd.int .i64) (w0 := w) w.heap.size (by rfl) (.tmp 49) (.tmp 52) 23 3 (.int .i64 0) 8 rfl Tryd.underlying23 info3 rfl (by decide) (by omega) v199 y198 y201 _ _ _ (fun k_ => some k_ ≠ (.slice (some ad208) t185.length co44 : Value).ownBlock) (fun _ => False) rfl rfl ?aO ?aR (fun _ _ h => h) (fun _ h => h.elim) ?aF ?aB ?aS ?aL ?_
                                                       (case aR => repeat (first | exact (by repeat (first | (with_reducible exact HR204.out) | (with_reducible refine Kd.C_alloc ?_ _) | (with_reducible refine Kd.C_drewN ?_ _) | (with_reducible refine Kd.C_drew ?_) | exact HR204.out)) | (with_reducible refine Kd.C_alloc ?_ _) | (with_reducible refine Kd.C_drewN ?_ _) | (with_reducible refine Kd.C_drew ?_)))
                                                       (case aB => exact (by repeat (first | (with_reducible first | exact HB.out | apply below_alloc | apply pw_below_drewN | apply below_drew1) | exact HB.out)))
                                                       (case aF => exact (fun k_ hk => Kd.fresh' (Kd.R_lt (by (with_reducible repeat (first | apply Kd.R_alloc | apply Kd.R_drewN | apply Kd.R_drew)); exact HO_5.out)) k_ hk))
                                                       (case aO => exact (by (with_reducible repeat (first | apply Kd.R_alloc | apply Kd.R_drewN | apply Kd.R_drew)); exact HO200.out))
                                                       (case aS => exact (below_size (by repeat (first | (with_reducible first | exact HB.out | apply below_alloc | apply pw_below_drewN | apply below_drew1) | exact HB.out))))
                                                       (case aL => have := LMc26.out; omega)
                                                       intro v206 w51 ho hb hg hat
                                                       (have HS0_ := cell_grown hg (hHeld) (by first | (rw [add_block]; exact (by intro e_; have z_ := HO200.out.1 _ e_.symm; first | exact z_ rfl | exact z_.1 rfl | exact z_.2 rfl | exact z_.1.1 rfl | exact z_.1.2 rfl | exact z_.2.1 rfl | exact z_.2.2 rfl)) | (show some (Addr.add _ _).block ≠ _; rw [add_block]; exact (by intro e_; have z_ := HO200.out.1 _ e_.symm; first | exact z_ rfl | exact z_.1 rfl | exact z_.2 rfl | exact z_.1.1 rfl | exact z_.1.2 rfl | exact z_.2.1 rfl | exact z_.2.2 rfl)) | exact (by intro e_; have z_ := HO200.out.1 _ e_.symm; first | exact z_ rfl | exact z_.1 rfl | exact z_.2 rfl | exact z_.1.1 rfl | exact z_.1.2 rfl | exact z_.2.1 rfl | exact z_.2.2 rfl)))
                                                       rw [← Ny205.out] at ho
                                                       have n0_ := Aside0.mk (Kd.R_after (ok := (fun _ => True)) (by (with_reducible repeat (first | apply Kd.R_alloc | apply Kd.R_drewN | apply Kd.R_drew)); exact HO_5.out) hg hat)
                                                       have n1_ := Aside0.mk (hb)
                                                       have n2_ := Aside0.mk ((show Kd.C (Kd.int .i64) w51 A46 y194.length y194 from by rw [Ny194.out, KA46.out]; exact Kd.C_drop (m := ((ji20) : Int).toNat) (c := co44) ((Kd.R_reads' (Kd.R_after (ok := (fun _ => True)) (by (with_reducible repeat (first | apply Kd.R_alloc | apply Kd.R_drewN | apply Kd.R_drew)); exact HO_5.out) hg hat)).2.2) KL46.out ((Kd.R_reads' (Kd.R_after (ok := (fun _ => True)) (by (with_reducible repeat (first | apply Kd.R_alloc | apply Kd.R_drewN | apply Kd.R_drew)); exact HO_5.out) hg hat)).2.1)))
                                                       have n3_ := Aside0.mk ((show Kd.C (Kd.int .i64) w51 (some ad208) y201.length y201 from by rw [Ny201.out]; exact Kd.C_take (m := ((ji20) : Int).toNat) ((Kd.R_reads' (Kd.R_after (ok := (fun _ => True)) (by (with_reducible repeat (first | apply Kd.R_alloc | apply Kd.R_drewN | apply Kd.R_drew)); exact HO_5.out) hg hat)).2.2) KL47.out))
                                                       have n4_ := Aside0.mk (ho)
                                                       clear HO_5
                                                       clear HB
                                                       clear HR197
                                                       clear HR204
                                                       clear HO200
                                                       have HO_5 := n0_
                                                       have HB := n1_
                                                       have HR197 := n2_
                                                       have HR204 := n3_
                                                       have HO207 := n4_
                                                       clear n0_ n1_ n2_ n3_ n4_
                                                       clear ho hb hg hat
                                                       refine hK.out _ _ (HS0_) (fun hHeld => ?_)
                                                       clear hK K
                                                       refine norm_ (a' := ?_) ?_ ?_
                                                       rotate_left
                                                       · show Act.put _ (some 53) _ = _
                                                         simp only [Act.put, List.setIfInBounds_toArray, List.set_cons_zero, List.set_cons_succ, i64_w, i32_w]
                                                         rfl
                                                       refine one_ (i := 13) (N := some 58) #[true, true, true, true, true, true, true, true, true, true, true, true, true, true, false, false] rfl rfl (one_of HT_.out (by kernel_rfl)) (by decide) (fun K hK => ?_)
                                                       refine Kd.R_lit_step (Kd.int .i64) _ 3 ?hg (N := 58) ?hd (xs := ([rd t185 (ji20)] : List Int)) (inner := [.int .i64 (rd t185 (ji20))]) (ok := fun _ => True) (okp := fun _ => True) ?hr ?hp (fun _ hk => hk) trivial (Below.refl _ _) (Nat.le_refl _) (by simp) ?_; (case hd => rfl); (case hg => rfl); (case hr => first | (go_simp; done) | (go_simp; rfl)); (case hp => exact (Reps.one (show Kd.M (Kd.int .i64) _ _ _ (rd t185 (ji20)) [.int .i64 (rd t185 (ji20))] from rfl) (Reps.none _ _)))
                                                       intro v210 w52 ho53 hb hg_ hnew_
                                                       have HS0_ := (hb.cell (World.block_lt_of_cell? _ _ (hHeld))).trans (hHeld)
                                                       clear hg_ hnew_
                                                       (first | rw [← Ny209.out] at ho53 | (simp only [Int.reduceToNat] at ho53; rw [← Ny209.out] at ho53))
                                                       have n0_ := Aside0.mk (Kd.R_elder' (by (with_reducible repeat (first | apply Kd.R_alloc | apply Kd.R_drewN | apply Kd.R_drew)); exact HO_5.out) (Kd.R_base ho53) hb)
                                                       have n1_ := Aside0.mk (Kd.R_elder' (by (with_reducible repeat (first | apply Kd.R_alloc | apply Kd.R_drewN | apply Kd.R_drew)); exact HO207.out) (Kd.R_base ho53) hb)
                                                       have n2_ := Aside0.mk (Kd.R_lower (Kd.R_new' (Kd.R_new' ho53 (Kd.R_lt (by (with_reducible repeat (first | apply Kd.R_alloc | apply Kd.R_drewN | apply Kd.R_drew)); exact HO_5.out))) (Kd.R_lt (by (with_reducible repeat (first | apply Kd.R_alloc | apply Kd.R_drewN | apply Kd.R_drew)); exact HO207.out))) (below_size (by repeat (first | (with_reducible first | exact HB.out | apply below_alloc | apply pw_below_drewN | apply below_drew1) | exact HB.out))))
                                                       have n3_ := Aside0.mk (Kd.C_below (by repeat (first | (with_reducible exact HR197.out) | (with_reducible refine Kd.C_alloc ?_ _) | (with_reducible refine Kd.C_drewN ?_ _) | (with_reducible refine Kd.C_drew ?_) | exact HR197.out)) hb)
                                                       have n4_ := Aside0.mk (Kd.C_below (by repeat (first | (with_reducible exact HR204.out) | (with_reducible refine Kd.C_alloc ?_ _) | (with_reducible refine Kd.C_drewN ?_ _) | (with_reducible refine Kd.C_drew ?_) | exact HR204.out)) hb)
                                                       have n5_ := Aside0.mk (below_step (by repeat (first | (with_reducible first | exact HB.out | apply below_alloc | apply pw_below_drewN | apply below_drew1) | exact HB.out)) hb)
                                                       clear HO_5
                                                       clear HO207
                                                       clear HR197
                                                       clear HR204
                                                       clear HB
                                                       have HO_5 := n0_
                                                       have HO207 := n1_
                                                       have HO211 := n2_
                                                       have HR197 := n3_
                                                       have HR204 := n4_
                                                       have HB := n5_
                                                       clear n0_ n1_ n2_ n3_ n4_ n5_
                                                       clear hb ho53
                                                       refine hK.out _ _ (HS0_) (fun hHeld => ?_)
                                                       clear hK K
                                                       refine norm_ (a' := ?_) ?_ ?_
                                                       rotate_left
                                                       · show Act.put _ (some 58) _ = _
                                                         simp only [Act.put, List.setIfInBounds_toArray, List.set_cons_zero, List.set_cons_succ, i64_w, i32_w]
                                                         rfl
                                                       exact norm_ (by simp only [putAll, Act.put, List.setIfInBounds_toArray, List.set_cons_zero, List.set_cons_succ]) (hCont (v192, v199, v206, v210) _ ⟨hHeld, (by (with_reducible repeat (first | apply Kd.R_alloc | apply Kd.R_drewN | apply Kd.R_drew)); exact Kd.R_mono HO207.out (fun _ hk => ⟨hk.2, hk.1⟩)), (by (with_reducible repeat (first | apply Kd.R_alloc | apply Kd.R_drewN | apply Kd.R_drew)); exact Kd.R_mono HO211.out (fun _ hk => ⟨hk.2, hk.1.2⟩)), (by (with_reducible repeat (first | apply Kd.R_alloc | apply Kd.R_drewN | apply Kd.R_drew)); exact Kd.R_mono HO_5.out (fun _ hk => ⟨hk.1.2, hk.2⟩)), (by repeat (first | (with_reducible first | exact HB.out | apply below_alloc | apply pw_below_drewN | apply below_drew1) | exact HB.out))⟩)
                                                     · skip
                                                       refine Kd.R_lit_step (Kd.int .i64) _ 3 ?hg (N := 58) ?hd (xs := ([rd t185 (ji20)] : List Int)) (inner := [.int .i64 (rd t185 (ji20))]) (ok := fun _ => True) (okp := fun _ => True) ?hr ?hp (fun _ hk => hk) trivial (Below.refl _ _) (Nat.le_refl _) (by simp) ?_; (case hd => rfl); (case hg => rfl); (case hr => first | (go_simp; done) | (go_simp; rfl)); (case hp => exact (Reps.one (show Kd.M (Kd.int .i64) _ _ _ (rd t185 (ji20)) [.int .i64 (rd t185 (ji20))] from rfl) (Reps.none _ _)))
                                                       intro v210 w51 ho52 hb hg_ hnew_
                                                       have HS0_ := (hb.cell (World.block_lt_of_cell? _ _ (hHeld))).trans (hHeld)
                                                       clear hg_ hnew_
                                                       (first | rw [← Ny209.out] at ho52 | (simp only [Int.reduceToNat] at ho52; rw [← Ny209.out] at ho52))
                                                       have n0_ := Aside0.mk (Kd.R_elder' (by (with_reducible repeat (first | apply Kd.R_alloc | apply Kd.R_drewN | apply Kd.R_drew)); exact HO_5.out) (Kd.R_base ho52) hb)
                                                       have n1_ := Aside0.mk (Kd.R_elder' (by (with_reducible repeat (first | apply Kd.R_alloc | apply Kd.R_drewN | apply Kd.R_drew)); exact HO200.out) (Kd.R_base ho52) hb)
                                                       have n2_ := Aside0.mk (Kd.R_lower (Kd.R_new' (Kd.R_new' ho52 (Kd.R_lt (by (with_reducible repeat (first | apply Kd.R_alloc | apply Kd.R_drewN | apply Kd.R_drew)); exact HO_5.out))) (Kd.R_lt (by (with_reducible repeat (first | apply Kd.R_alloc | apply Kd.R_drewN | apply Kd.R_drew)); exact HO200.out))) (below_size (by repeat (first | (with_reducible first | exact HB.out | apply below_alloc | apply pw_below_drewN | apply below_drew1) | exact HB.out))))
                                                       have n3_ := Aside0.mk (Kd.C_below (by repeat (first | (with_reducible exact HR197.out) | (with_reducible refine Kd.C_alloc ?_ _) | (with_reducible refine Kd.C_drewN ?_ _) | (with_reducible refine Kd.C_drew ?_) | exact HR197.out)) hb)
                                                       have n4_ := Aside0.mk (Kd.C_below (by repeat (first | (with_reducible exact HR204.out) | (with_reducible refine Kd.C_alloc ?_ _) | (with_reducible refine Kd.C_drewN ?_ _) | (with_reducible refine Kd.C_drew ?_) | exact HR204.out)) hb)
                                                       have n5_ := Aside0.mk (below_step (by repeat (first | (with_reducible first | exact HB.out | apply below_alloc | apply pw_below_drewN | apply below_drew1) | exact HB.out)) hb)
                                                       clear HO_5
                                                       clear HO200
                                                       clear HR197
                                                       clear HR204
                                                       clear HB
                                                       have HO_5 := n0_
                                                       have HO200 := n1_
                                                       have HO211 := n2_
                                                       have HR197 := n3_
                                                       have HR204 := n4_
                                                       have HB := n5_
                                                       clear n0_ n1_ n2_ n3_ n4_ n5_
                                                       clear hb ho52
                                                       refine hK.out _ _ (HS0_) (fun hHeld => ?_)
                                                       clear hK K
                                                       refine norm_ (a' := ?_) ?_ ?_
                                                       rotate_left
                                                       · show Act.put _ (some 58) _ = _
                                                         simp only [Act.put, List.setIfInBounds_toArray, List.set_cons_zero, List.set_cons_succ, i64_w, i32_w]
                                                         rfl
                                                       refine one_ (i := 8) (N := some 53) #[true, true, true, true, true, true, true, true, true, true, true, true, true, true, false, false] rfl rfl (one_of HT_.out (by kernel_rfl)) (by decide) (fun K hK => ?_)
                                                       refine Kd.R_append_rows_step (Kd.int .i64) (w0 := w) w.heap.size (by rfl) (.tmp 49) (.tmp 52) 23 3 (.int .i64 0) 8 rfl Tryd.underlying23 info3 rfl (by decide) (by omega) v199 y198 y201 _ _ _ (fun k_ => some k_ ≠ (.slice (some ad208) t185.length co44 : Value).ownBlock ∧ some k_ ≠ (v210 : Value).ownBlock) (fun _ => False) rfl rfl ?aO ?aR (fun _ _ h => h) (fun _ h => h.elim) ?aF ?aB ?aS ?aL ?_
                                                       (case aR => repeat (first | exact (by repeat (first | (with_reducible exact HR204.out) | (with_reducible refine Kd.C_alloc ?_ _) | (with_reducible refine Kd.C_drewN ?_ _) | (with_reducible refine Kd.C_drew ?_) | exact HR204.out)) | (with_reducible refine Kd.C_alloc ?_ _) | (with_reducible refine Kd.C_drewN ?_ _) | (with_reducible refine Kd.C_drew ?_)))
                                                       (case aB => exact (by repeat (first | (with_reducible first | exact HB.out | apply below_alloc | apply pw_below_drewN | apply below_drew1) | exact HB.out)))
                                                       (case aF => exact (fun k_ hk => ⟨Kd.fresh' (Kd.R_lt (by (with_reducible repeat (first | apply Kd.R_alloc | apply Kd.R_drewN | apply Kd.R_drew)); exact HO_5.out)) k_ hk, Kd.fresh' (Kd.R_lt (by (with_reducible repeat (first | apply Kd.R_alloc | apply Kd.R_drewN | apply Kd.R_drew)); exact HO211.out)) k_ hk⟩))
                                                       (case aO => exact (by (with_reducible repeat (first | apply Kd.R_alloc | apply Kd.R_drewN | apply Kd.R_drew)); exact HO200.out))
                                                       (case aS => exact (below_size (by repeat (first | (with_reducible first | exact HB.out | apply below_alloc | apply pw_below_drewN | apply below_drew1) | exact HB.out))))
                                                       (case aL => have := LMc26.out; omega)
                                                       intro v206 w53 ho hb hg hat
                                                       (have HS0_ := cell_grown hg (hHeld) (by first | (rw [add_block]; exact (by intro e_; have z_ := HO200.out.1 _ e_.symm; first | exact z_ rfl | exact z_.1 rfl | exact z_.2 rfl | exact z_.1.1 rfl | exact z_.1.2 rfl | exact z_.2.1 rfl | exact z_.2.2 rfl)) | (show some (Addr.add _ _).block ≠ _; rw [add_block]; exact (by intro e_; have z_ := HO200.out.1 _ e_.symm; first | exact z_ rfl | exact z_.1 rfl | exact z_.2 rfl | exact z_.1.1 rfl | exact z_.1.2 rfl | exact z_.2.1 rfl | exact z_.2.2 rfl)) | exact (by intro e_; have z_ := HO200.out.1 _ e_.symm; first | exact z_ rfl | exact z_.1 rfl | exact z_.2 rfl | exact z_.1.1 rfl | exact z_.1.2 rfl | exact z_.2.1 rfl | exact z_.2.2 rfl)))
                                                       rw [← Ny205.out] at ho
                                                       have n0_ := Aside0.mk (Kd.R_after (ok := (fun k_ => some k_ ≠ (v210 : Value).ownBlock)) (by (with_reducible repeat (first | apply Kd.R_alloc | apply Kd.R_drewN | apply Kd.R_drew)); exact Kd.R_mono HO_5.out (fun _ hk => ⟨hk.2, hk.1.2⟩)) hg hat)
                                                       have n1_ := Aside0.mk (Kd.R_after (ok := (fun k_ => some k_ ≠ (.slice (some ad208) t185.length co44 : Value).ownBlock)) (by (with_reducible repeat (first | apply Kd.R_alloc | apply Kd.R_drewN | apply Kd.R_drew)); exact Kd.R_mono HO211.out (fun _ hk => ⟨hk.1.2, hk.2⟩)) hg hat)
                                                       have n2_ := Aside0.mk (hb)
                                                       have n3_ := Aside0.mk ((show Kd.C (Kd.int .i64) w53 A46 y194.length y194 from by rw [Ny194.out, KA46.out]; exact Kd.C_drop (m := ((ji20) : Int).toNat) (c := co44) ((Kd.R_reads' (Kd.R_after (ok := (fun k_ => some k_ ≠ (v210 : Value).ownBlock)) (by (with_reducible repeat (first | apply Kd.R_alloc | apply Kd.R_drewN | apply Kd.R_drew)); exact Kd.R_mono HO_5.out (fun _ hk => ⟨hk.2, hk.1.2⟩)) hg hat)).2.2) KL46.out ((Kd.R_reads' (Kd.R_after (ok := (fun k_ => some k_ ≠ (v210 : Value).ownBlock)) (by (with_reducible repeat (first | apply Kd.R_alloc | apply Kd.R_drewN | apply Kd.R_drew)); exact Kd.R_mono HO_5.out (fun _ hk => ⟨hk.2, hk.1.2⟩)) hg hat)).2.1)))
                                                       have n4_ := Aside0.mk ((show Kd.C (Kd.int .i64) w53 (some ad208) y201.length y201 from by rw [Ny201.out]; exact Kd.C_take (m := ((ji20) : Int).toNat) ((Kd.R_reads' (Kd.R_after (ok := (fun k_ => some k_ ≠ (v210 : Value).ownBlock)) (by (with_reducible repeat (first | apply Kd.R_alloc | apply Kd.R_drewN | apply Kd.R_drew)); exact Kd.R_mono HO_5.out (fun _ hk => ⟨hk.2, hk.1.2⟩)) hg hat)).2.2) KL47.out))
                                                       have n5_ := Aside0.mk (ho)
                                                       clear HO_5
                                                       clear HO211
                                                       clear HB
                                                       clear HR197
                                                       clear HR204
                                                       clear HO200
                                                       have HO_5 := n0_
                                                       have HO211 := n1_
                                                       have HB := n2_
                                                       have HR197 := n3_
                                                       have HR204 := n4_
                                                       have HO207 := n5_
                                                       clear n0_ n1_ n2_ n3_ n4_ n5_
                                                       clear ho hb hg hat
                                                       refine hK.out _ _ (HS0_) (fun hHeld => ?_)
                                                       clear hK K
                                                       refine norm_ (a' := ?_) ?_ ?_
                                                       rotate_left
                                                       · show Act.put _ (some 53) _ = _
                                                         simp only [Act.put, List.setIfInBounds_toArray, List.set_cons_zero, List.set_cons_succ, i64_w, i32_w]
                                                         rfl
                                                       exact norm_ (by simp only [putAll, Act.put, List.setIfInBounds_toArray, List.set_cons_zero, List.set_cons_succ]) (hCont (v192, v199, v206, v210) _ ⟨hHeld, (by (with_reducible repeat (first | apply Kd.R_alloc | apply Kd.R_drewN | apply Kd.R_drew)); exact Kd.R_mono HO207.out (fun _ hk => ⟨hk.2, hk.1⟩)), (by (with_reducible repeat (first | apply Kd.R_alloc | apply Kd.R_drewN | apply Kd.R_drew)); exact Kd.R_mono HO211.out (fun _ hk => ⟨hk.2, hk.1⟩)), (by (with_reducible repeat (first | apply Kd.R_alloc | apply Kd.R_drewN | apply Kd.R_drew)); exact Kd.R_mono HO_5.out (fun _ hk => ⟨hk.2, hk.1⟩)), (by repeat (first | (with_reducible first | exact HB.out | apply below_alloc | apply pw_below_drewN | apply below_drew1) | exact HB.out))⟩)
                                                   · skip
                                                     refine Kd.R_lit_step (Kd.int .i64) _ 3 ?hg (N := 58) ?hd (xs := ([rd t185 (ji20)] : List Int)) (inner := [.int .i64 (rd t185 (ji20))]) (ok := fun _ => True) (okp := fun _ => True) ?hr ?hp (fun _ hk => hk) trivial (Below.refl _ _) (Nat.le_refl _) (by simp) ?_; (case hd => rfl); (case hg => rfl); (case hr => first | (go_simp; done) | (go_simp; rfl)); (case hp => exact (Reps.one (show Kd.M (Kd.int .i64) _ _ _ (rd t185 (ji20)) [.int .i64 (rd t185 (ji20))] from rfl) (Reps.none _ _)))
                                                     intro v210 w50 ho51 hb hg_ hnew_
                                                     have HS0_ := (hb.cell (World.block_lt_of_cell? _ _ (hHeld))).trans (hHeld)
                                                     clear hg_ hnew_
                                                     (first | rw [← Ny209.out] at ho51 | (simp only [Int.reduceToNat] at ho51; rw [← Ny209.out] at ho51))
                                                     have n0_ := Aside0.mk (Kd.R_elder' (by (with_reducible repeat (first | apply Kd.R_alloc | apply Kd.R_drewN | apply Kd.R_drew)); exact HO_5.out) (Kd.R_base ho51) hb)
                                                     have n1_ := Aside0.mk (Kd.R_elder' (by (with_reducible repeat (first | apply Kd.R_alloc | apply Kd.R_drewN | apply Kd.R_drew)); exact HO193.out) (Kd.R_base ho51) hb)
                                                     have n2_ := Aside0.mk (Kd.R_lower (Kd.R_new' (Kd.R_new' ho51 (Kd.R_lt (by (with_reducible repeat (first | apply Kd.R_alloc | apply Kd.R_drewN | apply Kd.R_drew)); exact HO_5.out))) (Kd.R_lt (by (with_reducible repeat (first | apply Kd.R_alloc | apply Kd.R_drewN | apply Kd.R_drew)); exact HO193.out))) (below_size (by repeat (first | (with_reducible first | exact HB.out | apply below_alloc | apply pw_below_drewN | apply below_drew1) | exact HB.out))))
                                                     have n3_ := Aside0.mk (Kd.C_below (by repeat (first | (with_reducible exact HR197.out) | (with_reducible refine Kd.C_alloc ?_ _) | (with_reducible refine Kd.C_drewN ?_ _) | (with_reducible refine Kd.C_drew ?_) | exact HR197.out)) hb)
                                                     have n4_ := Aside0.mk (Kd.C_below (by repeat (first | (with_reducible exact HR204.out) | (with_reducible refine Kd.C_alloc ?_ _) | (with_reducible refine Kd.C_drewN ?_ _) | (with_reducible refine Kd.C_drew ?_) | exact HR204.out)) hb)
                                                     have n5_ := Aside0.mk (below_step (by repeat (first | (with_reducible first | exact HB.out | apply below_alloc | apply pw_below_drewN | apply below_drew1) | exact HB.out)) hb)
                                                     clear HO_5
                                                     clear HO193
                                                     clear HR197
                                                     clear HR204
                                                     clear HB
                                                     have HO_5 := n0_
                                                     have HO193 := n1_
                                                     have HO211 := n2_
                                                     have HR197 := n3_
                                                     have HR204 := n4_
                                                     have HB := n5_
                                                     clear n0_ n1_ n2_ n3_ n4_ n5_
                                                     clear hb ho51
                                                     refine hK.out _ _ (HS0_) (fun hHeld => ?_)
                                                     clear hK K
                                                     refine norm_ (a' := ?_) ?_ ?_
                                                     rotate_left
                                                     · show Act.put _ (some 58) _ = _
                                                       simp only [Act.put, List.setIfInBounds_toArray, List.set_cons_zero, List.set_cons_succ, i64_w, i32_w]
                                                       rfl
                                                     refine one_ (i := 4) (N := some 49) #[true, true, true, true, true, true, true, true, false, true, true, true, true, true, false, false] rfl rfl (one_of HT_.out (by kernel_rfl)) (by decide) (fun K hK => ?_)
                                                     refine Kd.R_append_rows_step (Kd.int .i64) (w0 := w) w.heap.size (by rfl) (.tmp 45) (.tmp 48) 23 3 (.int .i64 0) 8 rfl Tryd.underlying23 info3 rfl (by decide) (by omega) v192 y191 y194 _ _ _ (fun k_ => some k_ ≠ (.slice (some ad208) t185.length co44 : Value).ownBlock ∧ some k_ ≠ (v210 : Value).ownBlock) (fun _ => False) rfl rfl ?aO ?aR (fun _ _ h => h) (fun _ h => h.elim) ?aF ?aB ?aS ?aL ?_
                                                     (case aR => repeat (first | exact (by repeat (first | (with_reducible exact HR197.out) | (with_reducible refine Kd.C_alloc ?_ _) | (with_reducible refine Kd.C_drewN ?_ _) | (with_reducible refine Kd.C_drew ?_) | exact HR197.out)) | (with_reducible refine Kd.C_alloc ?_ _) | (with_reducible refine Kd.C_drewN ?_ _) | (with_reducible refine Kd.C_drew ?_)))
                                                     (case aB => exact (by repeat (first | (with_reducible first | exact HB.out | apply below_alloc | apply pw_below_drewN | apply below_drew1) | exact HB.out)))
                                                     (case aF => exact (fun k_ hk => ⟨Kd.fresh' (Kd.R_lt (by (with_reducible repeat (first | apply Kd.R_alloc | apply Kd.R_drewN | apply Kd.R_drew)); exact HO_5.out)) k_ hk, Kd.fresh' (Kd.R_lt (by (with_reducible repeat (first | apply Kd.R_alloc | apply Kd.R_drewN | apply Kd.R_drew)); exact HO211.out)) k_ hk⟩))
                                                     (case aO => exact (by (with_reducible repeat (first | apply Kd.R_alloc | apply Kd.R_drewN | apply Kd.R_drew)); exact Kd.R_mono HO193.out (fun _ hk => ⟨hk.1.2, hk.2⟩)))
                                                     (case aS => exact (below_size (by repeat (first | (with_reducible first | exact HB.out | apply below_alloc | apply pw_below_drewN | apply below_drew1) | exact HB.out))))
                                                     (case aL => have := LMc23.out; omega)
                                                     intro v199 w52 ho hb hg hat
                                                     (have HS0_ := cell_grown hg (hHeld) (by first | (rw [add_block]; exact (by intro e_; have z_ := HO193.out.1 _ e_.symm; first | exact z_ rfl | exact z_.1 rfl | exact z_.2 rfl | exact z_.1.1 rfl | exact z_.1.2 rfl | exact z_.2.1 rfl | exact z_.2.2 rfl)) | (show some (Addr.add _ _).block ≠ _; rw [add_block]; exact (by intro e_; have z_ := HO193.out.1 _ e_.symm; first | exact z_ rfl | exact z_.1 rfl | exact z_.2 rfl | exact z_.1.1 rfl | exact z_.1.2 rfl | exact z_.2.1 rfl | exact z_.2.2 rfl)) | exact (by intro e_; have z_ := HO193.out.1 _ e_.symm; first | exact z_ rfl | exact z_.1 rfl | exact z_.2 rfl | exact z_.1.1 rfl | exact z_.1.2 rfl | exact z_.2.1 rfl | exact z_.2.2 rfl)))
                                                     rw [← Ny198.out] at ho
                                                     have n0_ := Aside0.mk (Kd.R_after (ok := (fun k_ => some k_ ≠ (v210 : Value).ownBlock)) (by (with_reducible repeat (first | apply Kd.R_alloc | apply Kd.R_drewN | apply Kd.R_drew)); exact Kd.R_mono HO_5.out (fun _ hk => ⟨hk.2, hk.1.2⟩)) hg hat)
                                                     have n1_ := Aside0.mk (Kd.R_after (ok := (fun k_ => some k_ ≠ (.slice (some ad208) t185.length co44 : Value).ownBlock)) (by (with_reducible repeat (first | apply Kd.R_alloc | apply Kd.R_drewN | apply Kd.R_drew)); exact Kd.R_mono HO211.out (fun _ hk => ⟨hk.1.2, hk.2⟩)) hg hat)
                                                     have n2_ := Aside0.mk (hb)
                                                     have n3_ := Aside0.mk ((show Kd.C (Kd.int .i64) w52 A46 y194.length y194 from by rw [Ny194.out, KA46.out]; exact Kd.C_drop (m := ((ji20) : Int).toNat) (c := co44) ((Kd.R_reads' (Kd.R_after (ok := (fun k_ => some k_ ≠ (v210 : Value).ownBlock)) (by (with_reducible repeat (first | apply Kd.R_alloc | apply Kd.R_drewN | apply Kd.R_drew)); exact Kd.R_mono HO_5.out (fun _ hk => ⟨hk.2, hk.1.2⟩)) hg hat)).2.2) KL46.out ((Kd.R_reads' (Kd.R_after (ok := (fun k_ => some k_ ≠ (v210 : Value).ownBlock)) (by (with_reducible repeat (first | apply Kd.R_alloc | apply Kd.R_drewN | apply Kd.R_drew)); exact Kd.R_mono HO_5.out (fun _ hk => ⟨hk.2, hk.1.2⟩)) hg hat)).2.1)))
                                                     have n4_ := Aside0.mk ((show Kd.C (Kd.int .i64) w52 (some ad208) y201.length y201 from by rw [Ny201.out]; exact Kd.C_take (m := ((ji20) : Int).toNat) ((Kd.R_reads' (Kd.R_after (ok := (fun k_ => some k_ ≠ (v210 : Value).ownBlock)) (by (with_reducible repeat (first | apply Kd.R_alloc | apply Kd.R_drewN | apply Kd.R_drew)); exact Kd.R_mono HO_5.out (fun _ hk => ⟨hk.2, hk.1.2⟩)) hg hat)).2.2) KL47.out))
                                                     have n5_ := Aside0.mk (ho)
                                                     clear HO_5
                                                     clear HO211
                                                     clear HB
                                                     clear HR197
                                                     clear HR204
                                                     clear HO193
                                                     have HO_5 := n0_
                                                     have HO211 := n1_
                                                     have HB := n2_
                                                     have HR197 := n3_
                                                     have HR204 := n4_
                                                     have HO200 := n5_
                                                     clear n0_ n1_ n2_ n3_ n4_ n5_
                                                     clear ho hb hg hat
                                                     refine hK.out _ _ (HS0_) (fun hHeld => ?_)
                                                     clear hK K
                                                     refine norm_ (a' := ?_) ?_ ?_
                                                     rotate_left
                                                     · show Act.put _ (some 49) _ = _
                                                       simp only [Act.put, List.setIfInBounds_toArray, List.set_cons_zero, List.set_cons_succ, i64_w, i32_w]
                                                       rfl
                                                     refine one_ (i := 8) (N := some 53) #[true, true, true, true, true, true, true, true, true, true, true, true, true, true, false, false] rfl rfl (one_of HT_.out (by kernel_rfl)) (by decide) (fun K hK => ?_)
                                                     refine Kd.R_append_rows_step (Kd.int .i64) (w0 := w) w.heap.size (by rfl) (.tmp 49) (.tmp 52) 23 3 (.int .i64 0) 8 rfl Tryd.underlying23 info3 rfl (by decide) (by omega) v199 y198 y201 _ _ _ (fun k_ => some k_ ≠ (.slice (some ad208) t185.length co44 : Value).ownBlock ∧ some k_ ≠ (v210 : Value).ownBlock) (fun _ => False) rfl rfl ?aO ?aR (fun _ _ h => h) (fun _ h => h.elim) ?aF ?aB ?aS ?aL ?_
                                                     (case aR => repeat (first | exact (by repeat (first | (with_reducible exact HR204.out) | (with_reducible refine Kd.C_alloc ?_ _) | (with_reducible refine Kd.C_drewN ?_ _) | (with_reducible refine Kd.C_drew ?_) | exact HR204.out)) | (with_reducible refine Kd.C_alloc ?_ _) | (with_reducible refine Kd.C_drewN ?_ _) | (with_reducible refine Kd.C_drew ?_)))
                                                     (case aB => exact (by repeat (first | (with_reducible first | exact HB.out | apply below_alloc | apply pw_below_drewN | apply below_drew1) | exact HB.out)))
                                                     (case aF => exact (fun k_ hk => ⟨Kd.fresh' (Kd.R_lt (by (with_reducible repeat (first | apply Kd.R_alloc | apply Kd.R_drewN | apply Kd.R_drew)); exact HO_5.out)) k_ hk, Kd.fresh' (Kd.R_lt (by (with_reducible repeat (first | apply Kd.R_alloc | apply Kd.R_drewN | apply Kd.R_drew)); exact HO211.out)) k_ hk⟩))
                                                     (case aO => exact (by (with_reducible repeat (first | apply Kd.R_alloc | apply Kd.R_drewN | apply Kd.R_drew)); exact HO200.out))
                                                     (case aS => exact (below_size (by repeat (first | (with_reducible first | exact HB.out | apply below_alloc | apply pw_below_drewN | apply below_drew1) | exact HB.out))))
                                                     (case aL => have := LMc26.out; omega)
                                                     intro v206 w53 ho hb hg hat
                                                     (have HS0_ := cell_grown hg (hHeld) (by first | (rw [add_block]; exact (by intro e_; have z_ := HO200.out.1 _ e_.symm; first | exact z_ rfl | exact z_.1 rfl | exact z_.2 rfl | exact z_.1.1 rfl | exact z_.1.2 rfl | exact z_.2.1 rfl | exact z_.2.2 rfl)) | (show some (Addr.add _ _).block ≠ _; rw [add_block]; exact (by intro e_; have z_ := HO200.out.1 _ e_.symm; first | exact z_ rfl | exact z_.1 rfl | exact z_.2 rfl | exact z_.1.1 rfl | exact z_.1.2 rfl | exact z_.2.1 rfl | exact z_.2.2 rfl)) | exact (by intro e_; have z_ := HO200.out.1 _ e_.symm; first | exact z_ rfl | exact z_.1 rfl | exact z_.2 rfl | exact z_.1.1 rfl | exact z_.1.2 rfl | exact z_.2.1 rfl | exact z_.2.2 rfl)))
                                                     rw [← Ny205.out] at ho
                                                     have n0_ := Aside0.mk (Kd.R_after (ok := (fun k_ => some k_ ≠ (v210 : Value).ownBlock)) (by (with_reducible repeat (first | apply Kd.R_alloc | apply Kd.R_drewN | apply Kd.R_drew)); exact HO_5.out) hg hat)
                                                     have n1_ := Aside0.mk (Kd.R_after (ok := (fun k_ => some k_ ≠ (.slice (some ad208) t185.length co44 : Value).ownBlock)) (by (with_reducible repeat (first | apply Kd.R_alloc | apply Kd.R_drewN | apply Kd.R_drew)); exact HO211.out) hg hat)
                                                     have n2_ := Aside0.mk (hb)
                                                     have n3_ := Aside0.mk ((show Kd.C (Kd.int .i64) w53 A46 y194.length y194 from by rw [Ny194.out, KA46.out]; exact Kd.C_drop (m := ((ji20) : Int).toNat) (c := co44) ((Kd.R_reads' (Kd.R_after (ok := (fun k_ => some k_ ≠ (v210 : Value).ownBlock)) (by (with_reducible repeat (first | apply Kd.R_alloc | apply Kd.R_drewN | apply Kd.R_drew)); exact HO_5.out) hg hat)).2.2) KL46.out ((Kd.R_reads' (Kd.R_after (ok := (fun k_ => some k_ ≠ (v210 : Value).ownBlock)) (by (with_reducible repeat (first | apply Kd.R_alloc | apply Kd.R_drewN | apply Kd.R_drew)); exact HO_5.out) hg hat)).2.1)))
                                                     have n4_ := Aside0.mk ((show Kd.C (Kd.int .i64) w53 (some ad208) y201.length y201 from by rw [Ny201.out]; exact Kd.C_take (m := ((ji20) : Int).toNat) ((Kd.R_reads' (Kd.R_after (ok := (fun k_ => some k_ ≠ (v210 : Value).ownBlock)) (by (with_reducible repeat (first | apply Kd.R_alloc | apply Kd.R_drewN | apply Kd.R_drew)); exact HO_5.out) hg hat)).2.2) KL47.out))
                                                     have n5_ := Aside0.mk (ho)
                                                     clear HO_5
                                                     clear HO211
                                                     clear HB
                                                     clear HR197
                                                     clear HR204
                                                     clear HO200
                                                     have HO_5 := n0_
                                                     have HO211 := n1_
                                                     have HB := n2_
                                                     have HR197 := n3_
                                                     have HR204 := n4_
                                                     have HO207 := n5_
                                                     clear n0_ n1_ n2_ n3_ n4_ n5_
                                                     clear ho hb hg hat
                                                     refine hK.out _ _ (HS0_) (fun hHeld => ?_)
                                                     clear hK K
                                                     refine norm_ (a' := ?_) ?_ ?_
                                                     rotate_left
                                                     · show Act.put _ (some 53) _ = _
                                                       simp only [Act.put, List.setIfInBounds_toArray, List.set_cons_zero, List.set_cons_succ, i64_w, i32_w]
                                                       rfl
                                                     exact norm_ (by simp only [putAll, Act.put, List.setIfInBounds_toArray, List.set_cons_zero, List.set_cons_succ]) (hCont (v192, v199, v206, v210) _ ⟨hHeld, (by (with_reducible repeat (first | apply Kd.R_alloc | apply Kd.R_drewN | apply Kd.R_drew)); exact Kd.R_mono HO207.out (fun _ hk => ⟨hk.2, hk.1⟩)), (by (with_reducible repeat (first | apply Kd.R_alloc | apply Kd.R_drewN | apply Kd.R_drew)); exact Kd.R_mono HO211.out (fun _ hk => ⟨hk.2, hk.1⟩)), (by (with_reducible repeat (first | apply Kd.R_alloc | apply Kd.R_drewN | apply Kd.R_drew)); exact Kd.R_mono HO_5.out (fun _ hk => ⟨hk.2, hk.1⟩)), (by repeat (first | (with_reducible first | exact HB.out | apply below_alloc | apply pw_below_drewN | apply below_drew1) | exact HB.out))⟩)
                                                 · skip
                                                   refine Kd.R_lit_step (Kd.int .i64) _ 3 ?hg (N := 58) ?hd (xs := ([rd t185 (ji20)] : List Int)) (inner := [.int .i64 (rd t185 (ji20))]) (ok := fun _ => True) (okp := fun _ => True) ?hr ?hp (fun _ hk => hk) trivial (Below.refl _ _) (Nat.le_refl _) (by simp) ?_; (case hd => rfl); (case hg => rfl); (case hr => first | (go_simp; done) | (go_simp; rfl)); (case hp => exact (Reps.one (show Kd.M (Kd.int .i64) _ _ _ (rd t185 (ji20)) [.int .i64 (rd t185 (ji20))] from rfl) (Reps.none _ _)))
                                                   intro v210 w48 ho49 hb hg_ hnew_
                                                   have HS0_ := (hb.cell (World.block_lt_of_cell? _ _ (hHeld))).trans (hHeld)
                                                   clear hg_ hnew_
                                                   (first | rw [← Ny209.out] at ho49 | (simp only [Int.reduceToNat] at ho49; rw [← Ny209.out] at ho49))
                                                   have n0_ := Aside0.mk (Kd.R_elder' (by (with_reducible repeat (first | apply Kd.R_alloc | apply Kd.R_drewN | apply Kd.R_drew)); exact HO_5.out) (Kd.R_base ho49) hb)
                                                   have n1_ := Aside0.mk (Kd.R_lower (Kd.R_new' ho49 (Kd.R_lt (by (with_reducible repeat (first | apply Kd.R_alloc | apply Kd.R_drewN | apply Kd.R_drew)); exact HO_5.out))) (below_size (by repeat (first | (with_reducible first | exact HB.out | apply below_alloc | apply pw_below_drewN | apply below_drew1) | exact HB.out))))
                                                   have n2_ := Aside0.mk (Kd.C_below (by repeat (first | (with_reducible exact HR197.out) | (with_reducible refine Kd.C_alloc ?_ _) | (with_reducible refine Kd.C_drewN ?_ _) | (with_reducible refine Kd.C_drew ?_) | exact HR197.out)) hb)
                                                   have n3_ := Aside0.mk (Kd.C_below (by repeat (first | (with_reducible exact HR204.out) | (with_reducible refine Kd.C_alloc ?_ _) | (with_reducible refine Kd.C_drewN ?_ _) | (with_reducible refine Kd.C_drew ?_) | exact HR204.out)) hb)
                                                   have n4_ := Aside0.mk (below_step (by repeat (first | (with_reducible first | exact HB.out | apply below_alloc | apply pw_below_drewN | apply below_drew1) | exact HB.out)) hb)
                                                   clear HO_5
                                                   clear HR197
                                                   clear HR204
                                                   clear HB
                                                   have HO_5 := n0_
                                                   have HO211 := n1_
                                                   have HR197 := n2_
                                                   have HR204 := n3_
                                                   have HB := n4_
                                                   clear n0_ n1_ n2_ n3_ n4_
                                                   clear hb ho49
                                                   refine hK.out _ _ (HS0_) (fun hHeld => ?_)
                                                   clear hK K
                                                   refine norm_ (a' := ?_) ?_ ?_
                                                   rotate_left
                                                   · show Act.put _ (some 58) _ = _
                                                     simp only [Act.put, List.setIfInBounds_toArray, List.set_cons_zero, List.set_cons_succ, i64_w, i32_w]
                                                     rfl
                                                   refine one_ (i := 0) (N := some 45) #[true, true, true, true, false, true, true, true, false, true, true, true, true, true, false, false] rfl rfl (one_of HT_.out (by kernel_rfl)) (by decide) (fun K hK => ?_)
                                                   refine Kd.R_lit_step (Kd.int .i64) _ 3 ?hg (N := 45) ?hd (xs := ([] : List Int)) (inner := []) (ok := fun _ => True) (okp := fun _ => True) ?hr ?hp (fun _ hk => hk) trivial (Below.refl _ _) (Nat.le_refl _) (by simp) ?_; (case hd => rfl); (case hg => rfl); (case hr => first | (go_simp; done) | (go_simp; rfl)); (case hp => exact (Reps.none _ _))
                                                   intro v192 w50 ho51 hb hg_ hnew_
                                                   have HS0_ := (hb.cell (World.block_lt_of_cell? _ _ (hHeld))).trans (hHeld)
                                                   clear hg_ hnew_
                                                   (first | rw [← Ny191.out] at ho51 | (simp only [Int.reduceToNat] at ho51; rw [← Ny191.out] at ho51))
                                                   have n0_ := Aside0.mk (Kd.R_elder' (by (with_reducible repeat (first | apply Kd.R_alloc | apply Kd.R_drewN | apply Kd.R_drew)); exact HO_5.out) (Kd.R_base ho51) hb)
                                                   have n1_ := Aside0.mk (Kd.R_elder' (by (with_reducible repeat (first | apply Kd.R_alloc | apply Kd.R_drewN | apply Kd.R_drew)); exact HO211.out) (Kd.R_base ho51) hb)
                                                   have n2_ := Aside0.mk (Kd.R_lower (Kd.R_new' (Kd.R_new' ho51 (Kd.R_lt (by (with_reducible repeat (first | apply Kd.R_alloc | apply Kd.R_drewN | apply Kd.R_drew)); exact HO_5.out))) (Kd.R_lt (by (with_reducible repeat (first | apply Kd.R_alloc | apply Kd.R_drewN | apply Kd.R_drew)); exact HO211.out))) (below_size (by repeat (first | (with_reducible first | exact HB.out | apply below_alloc | apply pw_below_drewN | apply below_drew1) | exact HB.out))))
                                                   have n3_ := Aside0.mk (Kd.C_below (by repeat (first | (with_reducible exact HR197.out) | (with_reducible refine Kd.C_alloc ?_ _) | (with_reducible refine Kd.C_drewN ?_ _) | (with_reducible refine Kd.C_drew ?_) | exact HR197.out)) hb)
                                                   have n4_ := Aside0.mk (Kd.C_below (by repeat (first | (with_reducible exact HR204.out) | (with_reducible refine Kd.C_alloc ?_ _) | (with_reducible refine Kd.C_drewN ?_ _) | (with_reducible refine Kd.C_drew ?_) | exact HR204.out)) hb)
                                                   have n5_ := Aside0.mk (below_step (by repeat (first | (with_reducible first | exact HB.out | apply below_alloc | apply pw_below_drewN | apply below_drew1) | exact HB.out)) hb)
                                                   clear HO_5
                                                   clear HO211
                                                   clear HR197
                                                   clear HR204
                                                   clear HB
                                                   have HO_5 := n0_
                                                   have HO211 := n1_
                                                   have HO193 := n2_
                                                   have HR197 := n3_
                                                   have HR204 := n4_
                                                   have HB := n5_
                                                   clear n0_ n1_ n2_ n3_ n4_ n5_
                                                   clear hb ho51
                                                   refine hK.out _ _ (HS0_) (fun hHeld => ?_)
                                                   clear hK K
                                                   refine norm_ (a' := ?_) ?_ ?_
                                                   rotate_left
                                                   · show Act.put _ (some 45) _ = _
                                                     simp only [Act.put, List.setIfInBounds_toArray, List.set_cons_zero, List.set_cons_succ, i64_w, i32_w]
                                                     rfl
                                                   refine one_ (i := 4) (N := some 49) #[true, true, true, true, true, true, true, true, false, true, true, true, true, true, false, false] rfl rfl (one_of HT_.out (by kernel_rfl)) (by decide) (fun K hK => ?_)
                                                   refine Kd.R_append_rows_step (Kd.int .i64) (w0 := w) w.heap.size (by rfl) (.tmp 45) (.tmp 48) 23 3 (.int .i64 0) 8 rfl Tryd.underlying23 info3 rfl (by decide) (by omega) v192 y191 y194 _ _ _ (fun k_ => some k_ ≠ (.slice (some ad208) t185.length co44 : Value).ownBlock ∧ some k_ ≠ (v210 : Value).ownBlock) (fun _ => False) rfl rfl ?aO ?aR (fun _ _ h => h) (fun _ h => h.elim) ?aF ?aB ?aS ?aL ?_
                                                   (case aR => repeat (first | exact (by repeat (first | (with_reducible exact HR197.out) | (with_reducible refine Kd.C_alloc ?_ _) | (with_reducible refine Kd.C_drewN ?_ _) | (with_reducible refine Kd.C_drew ?_) | exact HR197.out)) | (with_reducible refine Kd.C_alloc ?_ _) | (with_reducible refine Kd.C_drewN ?_ _) | (with_reducible refine Kd.C_drew ?_)))
                                                   (case aB => exact (by repeat (first | (with_reducible first | exact HB.out | apply below_alloc | apply pw_below_drewN | apply below_drew1) | exact HB.out)))
                                                   (case aF => exact (fun k_ hk => ⟨Kd.fresh' (Kd.R_lt (by (with_reducible repeat (first | apply Kd.R_alloc | apply Kd.R_drewN | apply Kd.R_drew)); exact HO_5.out)) k_ hk, Kd.fresh' (Kd.R_lt (by (with_reducible repeat (first | apply Kd.R_alloc | apply Kd.R_drewN | apply Kd.R_drew)); exact HO211.out)) k_ hk⟩))
                                                   (case aO => exact (by (with_reducible repeat (first | apply Kd.R_alloc | apply Kd.R_drewN | apply Kd.R_drew)); exact Kd.R_mono HO193.out (fun _ hk => ⟨hk.1.2, hk.2⟩)))
                                                   (case aS => exact (below_size (by repeat (first | (with_reducible first | exact HB.out | apply below_alloc | apply pw_below_drewN | apply below_drew1) | exact HB.out))))
                                                   (case aL => have := LMc23.out; omega)
                                                   intro v199 w52 ho hb hg hat
                                                   (have HS0_ := cell_grown hg (hHeld) (by first | (rw [add_block]; exact (by intro e_; have z_ := HO193.out.1 _ e_.symm; first | exact z_ rfl | exact z_.1 rfl | exact z_.2 rfl | exact z_.1.1 rfl | exact z_.1.2 rfl | exact z_.2.1 rfl | exact z_.2.2 rfl)) | (show some (Addr.add _ _).block ≠ _; rw [add_block]; exact (by intro e_; have z_ := HO193.out.1 _ e_.symm; first | exact z_ rfl | exact z_.1 rfl | exact z_.2 rfl | exact z_.1.1 rfl | exact z_.1.2 rfl | exact z_.2.1 rfl | exact z_.2.2 rfl)) | exact (by intro e_; have z_ := HO193.out.1 _ e_.symm; first | exact z_ rfl | exact z_.1 rfl | exact z_.2 rfl | exact z_.1.1 rfl | exact z_.1.2 rfl | exact z_.2.1 rfl | exact z_.2.2 rfl)))
                                                   rw [← Ny198.out] at ho
                                                   have n0_ := Aside0.mk (Kd.R_after (ok := (fun k_ => some k_ ≠ (v210 : Value).ownBlock)) (by (with_reducible repeat (first | apply Kd.R_alloc | apply Kd.R_drewN | apply Kd.R_drew)); exact Kd.R_mono HO_5.out (fun _ hk => ⟨hk.1.2, hk.2⟩)) hg hat)
                                                   have n1_ := Aside0.mk (Kd.R_after (ok := (fun k_ => some k_ ≠ (.slice (some ad208) t185.length co44 : Value).ownBlock)) (by (with_reducible repeat (first | apply Kd.R_alloc | apply Kd.R_drewN | apply Kd.R_drew)); exact Kd.R_mono HO211.out (fun _ hk => ⟨hk.1.2, hk.2⟩)) hg hat)
                                                   have n2_ := Aside0.mk (hb)
                                                   have n3_ := Aside0.mk ((show Kd.C (Kd.int .i64) w52 A46 y194.length y194 from by rw [Ny194.out, KA46.out]; exact Kd.C_drop (m := ((ji20) : Int).toNat) (c := co44) ((Kd.R_reads' (Kd.R_after (ok := (fun k_ => some k_ ≠ (v210 : Value).ownBlock)) (by (with_reducible repeat (first | apply Kd.R_alloc | apply Kd.R_drewN | apply Kd.R_drew)); exact Kd.R_mono HO_5.out (fun _ hk => ⟨hk.1.2, hk.2⟩)) hg hat)).2.2) KL46.out ((Kd.R_reads' (Kd.R_after (ok := (fun k_ => some k_ ≠ (v210 : Value).ownBlock)) (by (with_reducible repeat (first | apply Kd.R_alloc | apply Kd.R_drewN | apply Kd.R_drew)); exact Kd.R_mono HO_5.out (fun _ hk => ⟨hk.1.2, hk.2⟩)) hg hat)).2.1)))
                                                   have n4_ := Aside0.mk ((show Kd.C (Kd.int .i64) w52 (some ad208) y201.length y201 from by rw [Ny201.out]; exact Kd.C_take (m := ((ji20) : Int).toNat) ((Kd.R_reads' (Kd.R_after (ok := (fun k_ => some k_ ≠ (v210 : Value).ownBlock)) (by (with_reducible repeat (first | apply Kd.R_alloc | apply Kd.R_drewN | apply Kd.R_drew)); exact Kd.R_mono HO_5.out (fun _ hk => ⟨hk.1.2, hk.2⟩)) hg hat)).2.2) KL47.out))
                                                   have n5_ := Aside0.mk (ho)
                                                   clear HO_5
                                                   clear HO211
                                                   clear HB
                                                   clear HR197
                                                   clear HR204
                                                   clear HO193
                                                   have HO_5 := n0_
                                                   have HO211 := n1_
                                                   have HB := n2_
                                                   have HR197 := n3_
                                                   have HR204 := n4_
                                                   have HO200 := n5_
                                                   clear n0_ n1_ n2_ n3_ n4_ n5_
                                                   clear ho hb hg hat
                                                   refine hK.out _ _ (HS0_) (fun hHeld => ?_)
                                                   clear hK K
                                                   refine norm_ (a' := ?_) ?_ ?_
                                                   rotate_left
                                                   · show Act.put _ (some 49) _ = _
                                                     simp only [Act.put, List.setIfInBounds_toArray, List.set_cons_zero, List.set_cons_succ, i64_w, i32_w]
                                                     rfl
                                                   refine one_ (i := 8) (N := some 53) #[true, true, true, true, true, true, true, true, true, true, true, true, true, true, false, false] rfl rfl (one_of HT_.out (by kernel_rfl)) (by decide) (fun K hK => ?_)
                                                   refine Kd.R_append_rows_step (Kd.int .i64) (w0 := w) w.heap.size (by rfl) (.tmp 49) (.tmp 52) 23 3 (.int .i64 0) 8 rfl Tryd.underlying23 info3 rfl (by decide) (by omega) v199 y198 y201 _ _ _ (fun k_ => some k_ ≠ (.slice (some ad208) t185.length co44 : Value).ownBlock ∧ some k_ ≠ (v210 : Value).ownBlock) (fun _ => False) rfl rfl ?aO ?aR (fun _ _ h => h) (fun _ h => h.elim) ?aF ?aB ?aS ?aL ?_
                                                   (case aR => repeat (first | exact (by repeat (first | (with_reducible exact HR204.out) | (with_reducible refine Kd.C_alloc ?_ _) | (with_reducible refine Kd.C_drewN ?_ _) | (with_reducible refine Kd.C_drew ?_) | exact HR204.out)) | (with_reducible refine Kd.C_alloc ?_ _) | (with_reducible refine Kd.C_drewN ?_ _) | (with_reducible refine Kd.C_drew ?_)))
                                                   (case aB => exact (by repeat (first | (with_reducible first | exact HB.out | apply below_alloc | apply pw_below_drewN | apply below_drew1) | exact HB.out)))
                                                   (case aF => exact (fun k_ hk => ⟨Kd.fresh' (Kd.R_lt (by (with_reducible repeat (first | apply Kd.R_alloc | apply Kd.R_drewN | apply Kd.R_drew)); exact HO_5.out)) k_ hk, Kd.fresh' (Kd.R_lt (by (with_reducible repeat (first | apply Kd.R_alloc | apply Kd.R_drewN | apply Kd.R_drew)); exact HO211.out)) k_ hk⟩))
                                                   (case aO => exact (by (with_reducible repeat (first | apply Kd.R_alloc | apply Kd.R_drewN | apply Kd.R_drew)); exact HO200.out))
                                                   (case aS => exact (below_size (by repeat (first | (with_reducible first | exact HB.out | apply below_alloc | apply pw_below_drewN | apply below_drew1) | exact HB.out))))
                                                   (case aL => have := LMc26.out; omega)
                                                   intro v206 w53 ho hb hg hat
                                                   (have HS0_ := cell_grown hg (hHeld) (by first | (rw [add_block]; exact (by intro e_; have z_ := HO200.out.1 _ e_.symm; first | exact z_ rfl | exact z_.1 rfl | exact z_.2 rfl | exact z_.1.1 rfl | exact z_.1.2 rfl | exact z_.2.1 rfl | exact z_.2.2 rfl)) | (show some (Addr.add _ _).block ≠ _; rw [add_block]; exact (by intro e_; have z_ := HO200.out.1 _ e_.symm; first | exact z_ rfl | exact z_.1 rfl | exact z_.2 rfl | exact z_.1.1 rfl | exact z_.1.2 rfl | exact z_.2.1 rfl | exact z_.2.2 rfl)) | exact (by intro e_; have z_ := HO200.out.1 _ e_.symm; first | exact z_ rfl | exact z_.1 rfl | exact z_.2 rfl | exact z_.1.1 rfl | exact z_.1.2 rfl | exact z_.2.1 rfl | exact z_.2.2 rfl)))
                                                   rw [← Ny205.out] at ho
                                                   have n0_ := Aside0.mk (Kd.R_after (ok := (fun k_ => some k_ ≠ (v210 : Value).ownBlock)) (by (with_reducible repeat (first | apply Kd.R_alloc | apply Kd.R_drewN | apply Kd.R_drew)); exact HO_5.out) hg hat)
                                                   have n1_ := Aside0.mk (Kd.R_after (ok := (fun k_ => some k_ ≠ (.slice (some ad208) t185.length co44 : Value).ownBlock)) (by (with_reducible repeat (first | apply Kd.R_alloc | apply Kd.R_drewN | apply Kd.R_drew)); exact HO211.out) hg hat)
                                                   have n2_ := Aside0.mk (hb)
                                                   have n3_ := Aside0.mk ((show Kd.C (Kd.int .i64) w53 A46 y194.length y194 from by rw [Ny194.out, KA46.out]; exact Kd.C_drop (m := ((ji20) : Int).toNat) (c := co44) ((Kd.R_reads' (Kd.R_after (ok := (fun k_ => some k_ ≠ (v210 : Value).ownBlock)) (by (with_reducible repeat (first | apply Kd.R_alloc | apply Kd.R_drewN | apply Kd.R_drew)); exact HO_5.out) hg hat)).2.2) KL46.out ((Kd.R_reads' (Kd.R_after (ok := (fun k_ => some k_ ≠ (v210 : Value).ownBlock)) (by (with_reducible repeat (first | apply Kd.R_alloc | apply Kd.R_drewN | apply Kd.R_drew)); exact HO_5.out) hg hat)).2.1)))
                                                   have n4_ := Aside0.mk ((show Kd.C (Kd.int .i64) w53 (some ad208) y201.length y201 from by rw [Ny201.out]; exact Kd.C_take (m := ((ji20) : Int).toNat) ((Kd.R_reads' (Kd.R_after (ok := (fun k_ => some k_ ≠ (v210 : Value).ownBlock)) (by (with_reducible repeat (first | apply Kd.R_alloc | apply Kd.R_drewN | apply Kd.R_drew)); exact HO_5.out) hg hat)).2.2) KL47.out))
                                                   have n5_ := Aside0.mk (ho)
                                                   clear HO_5
                                                   clear HO211
                                                   clear HB
                                                   clear HR197
                                                   clear HR204
                                                   clear HO200
                                                   have HO_5 := n0_
                                                   have HO211 := n1_
                                                   have HB := n2_
                                                   have HR197 := n3_
                                                   have HR204 := n4_
                                                   have HO207 := n5_
                                                   clear n0_ n1_ n2_ n3_ n4_ n5_
                                                   clear ho hb hg hat
                                                   refine hK.out _ _ (HS0_) (fun hHeld => ?_)
                                                   clear hK K
                                                   refine norm_ (a' := ?_) ?_ ?_
                                                   rotate_left
                                                   · show Act.put _ (some 53) _ = _
                                                     simp only [Act.put, List.setIfInBounds_toArray, List.set_cons_zero, List.set_cons_succ, i64_w, i32_w]
                                                     rfl
                                                   exact norm_ (by simp only [putAll, Act.put, List.setIfInBounds_toArray, List.set_cons_zero, List.set_cons_succ]) (hCont (v192, v199, v206, v210) _ ⟨hHeld, (by (with_reducible repeat (first | apply Kd.R_alloc | apply Kd.R_drewN | apply Kd.R_drew)); exact Kd.R_mono HO207.out (fun _ hk => ⟨hk.2, hk.1⟩)), (by (with_reducible repeat (first | apply Kd.R_alloc | apply Kd.R_drewN | apply Kd.R_drew)); exact Kd.R_mono HO211.out (fun _ hk => ⟨hk.2, hk.1⟩)), (by (with_reducible repeat (first | apply Kd.R_alloc | apply Kd.R_drewN | apply Kd.R_drew)); exact Kd.R_mono HO_5.out (fun _ hk => ⟨hk.2, hk.1⟩)), (by repeat (first | (with_reducible first | exact HB.out | apply below_alloc | apply pw_below_drewN | apply below_drew1) | exact HB.out))⟩)
                                               rintro ⟨v192, v199, v206, v210⟩ w54 ⟨hS_, h0_, h1_, h2_, h3_⟩
                                               have n0_ : Aside0 (Kd.R (Kd.int .i64) 3 w54 w.heap.size (fun k_ => some k_ ≠ (v210 : Value).ownBlock ∧ some k_ ≠ (.slice (some ad208) t185.length co44 : Value).ownBlock) v206 y205) := ⟨h0_⟩
                                               have n1_ : Aside0 (Kd.R (Kd.int .i64) 3 w54 w.heap.size (fun k_ => some k_ ≠ (v206 : Value).ownBlock ∧ some k_ ≠ (.slice (some ad208) t185.length co44 : Value).ownBlock) v210 y209) := ⟨h1_⟩
                                               have n2_ : Aside0 (Kd.R (Kd.int .i64) 3 w54 w.heap.size (fun k_ => some k_ ≠ (v206 : Value).ownBlock ∧ some k_ ≠ (v210 : Value).ownBlock) (.slice (some ad208) t185.length co44) t185) := ⟨h2_⟩
                                               have n3_ : Aside0 (Below w.heap.size w w54) := ⟨h3_⟩
                                               clear HO_5
                                               clear HB
                                               clear h0_ h1_ h2_ h3_
                                               have HO207 := n0_
                                               have HO211 := n1_
                                               have HO_5 := n2_
                                               have HB := n3_
                                               clear n0_ n1_ n2_ n3_
                                               have hHeld : w54.cell? (ad208.add ((ji20)).toNat) = some (.int .i64 (rd t185 (ji20))) := hS_
                                               obtain ⟨Ao56, co56, eo56⟩ := Kd.R_slice HO211.out
                                               (first | subst eo56 | (injection eo56 with f1_ f2_ f3_; have f4_ := f1_.symm; have f5_ := f3_.symm; clear f1_ f2_ f3_; subst f4_; subst f5_))
                                               refine norm_ (a' := ?_) ?_ ?_
                                               rotate_left
                                               · simp only [putAll, Act.put, List.setIfInBounds_toArray, List.set_cons_zero, List.set_cons_succ]
                                                 rfl
                                               refine one_ (i := 14) (N := some 59) #[true, true, true, true, true, true, true, true, true, true, true, true, true, true, true, false] rfl rfl (one_of HT_.out (by kernel_rfl)) (by decide) (fun K hK => ?_)
                                               refine Kd.R_append_rows_step (Kd.int .i64) (w0 := w) w.heap.size (by rfl) (.tmp 53) (.tmp 58) 23 3 (.int .i64 0) 8 rfl Tryd.underlying23 info3 rfl (by decide) (by omega) v206 y205 y209 _ _ _ (fun k_ => some k_ ≠ (.slice (some ad208) t185.length co44 : Value).ownBlock ∧ some k_ ≠ (.slice Ao56 y209.length co56 : Value).ownBlock) (fun _ => False) rfl rfl ?aO ?aR (fun _ _ h => h) (fun _ h => h.elim) ?aF ?aB ?aS ?aL ?_
                                               (case aR => repeat (first | exact (Kd.R_reads' HO211.out).2.2 | (with_reducible refine Kd.C_alloc ?_ _) | (with_reducible refine Kd.C_drewN ?_ _) | (with_reducible refine Kd.C_drew ?_)))
                                               (case aB => exact (by repeat (first | (with_reducible first | exact HB.out | apply below_alloc | apply pw_below_drewN | apply below_drew1) | exact HB.out)))
                                               (case aF => exact (fun k_ hk => ⟨Kd.fresh' (Kd.R_lt (by (with_reducible repeat (first | apply Kd.R_alloc | apply Kd.R_drewN | apply Kd.R_drew)); exact HO_5.out)) k_ hk, Kd.fresh' (Kd.R_lt (by (with_reducible repeat (first | apply Kd.R_alloc | apply Kd.R_drewN | apply Kd.R_drew)); exact HO211.out)) k_ hk⟩))
                                               (case aO => exact (by (with_reducible repeat (first | apply Kd.R_alloc | apply Kd.R_drewN | apply Kd.R_drew)); exact Kd.R_mono HO207.out (fun _ hk => ⟨hk.2, hk.1⟩)))
                                               (case aS => exact (below_size (by repeat (first | (with_reducible first | exact HB.out | apply below_alloc | apply pw_below_drewN | apply below_drew1) | exact HB.out))))
                                               (case aL => have := LMc28.out; omega)
                                               intro v213 w55 ho hb hg hat
                                               (have HS0_ := cell_grown hg (hHeld) (by first | (rw [add_block]; exact (by intro e_; have z_ := HO207.out.1 _ e_.symm; first | exact z_ rfl | exact z_.1 rfl | exact z_.2 rfl | exact z_.1.1 rfl | exact z_.1.2 rfl | exact z_.2.1 rfl | exact z_.2.2 rfl)) | (show some (Addr.add _ _).block ≠ _; rw [add_block]; exact (by intro e_; have z_ := HO207.out.1 _ e_.symm; first | exact z_ rfl | exact z_.1 rfl | exact z_.2 rfl | exact z_.1.1 rfl | exact z_.1.2 rfl | exact z_.2.1 rfl | exact z_.2.2 rfl)) | exact (by intro e_; have z_ := HO207.out.1 _ e_.symm; first | exact z_ rfl | exact z_.1 rfl | exact z_.2 rfl | exact z_.1.1 rfl | exact z_.1.2 rfl | exact z_.2.1 rfl | exact z_.2.2 rfl)))
                                               rw [← Ny212.out] at ho
                                               have n0_ := Aside0.mk (Kd.R_after (ok := (fun k_ => some k_ ≠ (.slice Ao56 y209.length co56 : Value).ownBlock)) (by (with_reducible repeat (first | apply Kd.R_alloc | apply Kd.R_drewN | apply Kd.R_drew)); exact Kd.R_mono HO_5.out (fun _ hk => ⟨hk.2, hk.1⟩)) hg hat)
                                               have n1_ := Aside0.mk (Kd.R_after (ok := (fun k_ => some k_ ≠ (.slice (some ad208) t185.length co44 : Value).ownBlock)) (by (with_reducible repeat (first | apply Kd.R_alloc | apply Kd.R_drewN | apply Kd.R_drew)); exact Kd.R_mono HO211.out (fun _ hk => ⟨hk.2, hk.1⟩)) hg hat)
                                               have n2_ := Aside0.mk (hb)
                                               have n3_ := Aside0.mk (ho)
                                               clear HO_5
                                               clear HO211
                                               clear HB
                                               clear HO207
                                               have HO_5 := n0_
                                               have HO211 := n1_
                                               have HB := n2_
                                               have HO214 := n3_
                                               clear n0_ n1_ n2_ n3_
                                               clear ho hb hg hat
                                               refine hK.out _ _ (HS0_) (fun hHeld => ?_)
                                               clear hK K
                                               refine norm_ (a' := ?_) ?_ ?_
                                               rotate_left
                                               · show Act.put _ (some 59) _ = _
                                                 simp only [Act.put, List.setIfInBounds_toArray, List.set_cons_zero, List.set_cons_succ, i64_w, i32_w]
                                                 rfl
                                               refine pure_ (i := 15) (N := some 8) (v := ?_) (a' := ?_) #[true, true, true, true, true, true, true, true, true, true, true, true, true, true, true, true] rfl rfl (any_of HT_.out (by kernel_rfl)) (fun _ _ _ h => h) (Or.inl ⟨by rfl, ?_⟩) ?_ ?_
                                               rotate_left
                                               · intro w'
                                                 go_simp
                                                 with_reducible rfl
                                               rotate_left
                                               · simp only [Act.put, List.setIfInBounds_toArray, List.set_cons_zero, List.set_cons_succ, i64_w, i32_w]
                                                 rfl
                                               refine done_ (done_of HT_.out (by kernel_rfl)) ?_
                                               try go_wp2
                                               have n0_ := Aside0.mk (Kd.R_drew HO_5.out)
                                               have n1_ := Aside0.mk (Kd.R_drew HO211.out)
                                               have n2_ := Aside0.mk (Kd.R_drew HO214.out)
                                               have n3_ := Aside0.mk (below_drew1 HB.out)
                                               clear HO_5
                                               clear HO211
                                               clear HO214
                                               clear HB
                                               have HO_5 := n0_
                                               have HO211 := n1_
                                               have HO214 := n2_
                                               have HB := n3_
                                               clear n0_ n1_ n2_ n3_
                                               have p215 : 0 ≤ (0 : Int) := (by omega)
                                               have q215 : 0 < (t185.length : Int) := of_decide_eq_true (by first | (with_reducible assumption) | assumption)
                                               obtain ⟨ad215, e215, hx215_0⟩ := Kd.at_int (Kd.R_reads' HO_5.out).2.2 0 p215 q215
                                               obtain rfl : ad208 = ad215 := (by injection e215)
                                               have qi215 : (0 < t185.length) = True := eq_true (by omega)
                                               (try rw [show ((0 : Int)).toNat = 0 from rfl] at hx215_0)
                                               (try rw [Addr.add_zero'] at hx215_0)
                                               replace p215 := eq_true p215
                                               replace q215 := eq_true q215
                                               have p216 : 0 ≤ ((ji31) : Int) := of_decide_eq_true (by first | (with_reducible assumption) | assumption)
                                               have q216 : (ji31) < (t185.length : Int) := of_decide_eq_true (by first | (with_reducible assumption) | assumption)
                                               obtain ⟨ad216, e216, hx216_0⟩ := Kd.at_int (Kd.R_reads' HO_5.out).2.2 (ji31) p216 q216
                                               obtain rfl : ad208 = ad216 := (by injection e216)
                                               replace p216 := eq_true p216
                                               replace q216 := eq_true q216
                                               have p221 : 0 ≤ (0 : Int) := (by omega)
                                               have q221 : 0 < (t185.length : Int) := of_decide_eq_true (by first | (with_reducible assumption) | assumption)
                                               obtain ⟨ad221, e221, hx221_0⟩ := Kd.at_int (Kd.R_reads' HO_5.out).2.2 0 p221 q221
                                               obtain rfl : ad208 = ad221 := (by injection e221)
                                               have qi221 : (0 < t185.length) = True := eq_true (by omega)
                                               (try rw [show ((0 : Int)).toNat = 0 from rfl] at hx221_0)
                                               (try rw [Addr.add_zero'] at hx221_0)
                                               replace p221 := eq_true p221
                                               replace q221 := eq_true q221
                                               have p223 : 0 ≤ ((ji31) : Int) := of_decide_eq_true (by first | (with_reducible assumption) | assumption)
                                               have q223 : (ji31) < (t185.length : Int) := of_decide_eq_true (by first | (with_reducible assumption) | assumption)
                                               obtain ⟨ad223, e223, hx223_0⟩ := Kd.at_int (Kd.R_reads' HO_5.out).2.2 (ji31) p223 q223
                                               obtain rfl : ad208 = ad223 := (by injection e223)
                                               replace p223 := eq_true p223
                                               replace q223 := eq_true q223
                                               refine start_ (n := 52) (S := fun w' => w'.cell? ad208 = some (.int .i64 (rd t185 0)) ∧ w'.cell? (ad208.add ((ji31)).toNat) = some (.int .i64 (rd t185 (ji31))) ∧ w'.cell? ad208 = some (.int .i64 (rd t185 0)) ∧ w'.cell? (ad208.add ((ji31)).toNat) = some (.int .i64 (rd t185 (ji31)))) (ds := []) #[false, false, false, false, false, false, false, false, false, false, false, false, false, false, false, false, false, false, false, false, false, false, false, false, false, false, false, false, false, false, false, false, false, false, false, false, false, false, false, false, false, false, false, false, false, false, false, false, false, false, false, false] (by kernel_rfl) rfl rfl ⟨hx215_0, hx216_0, hx221_0, hx223_0⟩ (fun hHeld => ?_); refine with_tabW withelaw1_BitsBack.tab13 withelaw1_BitsBack.bits13 (fun HT_ HW_ => ?_)
                                               generalize w55.drew = w57 at HO_5 HO211 HO214 HB hx215_0 hx216_0 hx221_0 hx223_0 hHeld ⊢
                                               refine pure_ (i := 0) (N := some 60) (v := ?_) (a' := ?_) #[true, false, false, false, false, false, false, false, false, false, false, false, false, false, false, false, false, false, false, false, false, false, false, false, false, false, false, false, false, false, false, false, false, false, false, false, false, false, false, false, false, false, false, false, false, false, false, false, false, false, false, false] rfl rfl (any_of HT_.out (by kernel_rfl)) (fun _ _ _ h => h) (Or.inl ⟨by rfl, ?_⟩) ?_ ?_
                                               rotate_left
                                               · intro w'
                                                 go_simp
                                                 with_reducible rfl
                                               rotate_left
                                               · simp only [Act.put, List.setIfInBounds_toArray, List.set_cons_zero, List.set_cons_succ, i64_w, i32_w]
                                                 rfl
                                               refine pure_ (i := 1) (N := some 61) (v := ?_) (a' := ?_) #[true, true, false, false, false, false, false, false, false, false, false, false, false, false, false, false, false, false, false, false, false, false, false, false, false, false, false, false, false, false, false, false, false, false, false, false, false, false, false, false, false, false, false, false, false, false, false, false, false, false, false, false] rfl rfl (any_of HT_.out (by kernel_rfl)) (fun _ _ _ h => h) (Or.inl ⟨by rfl, ?_⟩) ?_ ?_
                                               rotate_left
                                               · intro w'
                                                 go_simp
                                                 with_reducible rfl
                                               rotate_left
                                               · simp only [Act.put, List.setIfInBounds_toArray, List.set_cons_zero, List.set_cons_succ, i64_w, i32_w]
                                                 rfl
                                               refine take_ (i := 2) (N := some 62) (v := ?_) (a' := ?_) #[true, true, true, false, false, false, false, false, false, false, false, false, false, false, false, false, false, false, false, false, false, false, false, false, false, false, false, false, false, false, false, false, false, false, false, false, false, false, false, false, false, false, false, false, false, false, false, false, false, false, false, false] rfl rfl (take_ofW HT_.out HW_.out (by kernel_rfl)) (fun _ _ _ h => h) (Or.inl ⟨by rfl, ?_⟩) hHeld ?_ ?_
                                               rotate_left
                                               · rintro w' ⟨s0, s1, s2, s3⟩
                                                 go_simp
                                                 with_reducible rfl
                                               rotate_left
                                               · simp only [Act.put, List.setIfInBounds_toArray, List.set_cons_zero, List.set_cons_succ, i64_w, i32_w]
                                                 rfl
                                               refine pure_ (i := 3) (N := some 63) (v := ?_) (a' := ?_) #[true, true, true, true, false, false, false, false, false, false, false, false, false, false, false, false, false, false, false, false, false, false, false, false, false, false, false, false, false, false, false, false, false, false, false, false, false, false, false, false, false, false, false, false, false, false, false, false, false, false, false, false] rfl rfl (any_of HT_.out (by kernel_rfl)) (fun _ _ _ h => h) (Or.inl ⟨by rfl, ?_⟩) ?_ ?_
                                               rotate_left
                                               · intro w'
                                                 go_simp
                                                 with_reducible rfl
                                               rotate_left
                                               · simp only [Act.put, List.setIfInBounds_toArray, List.set_cons_zero, List.set_cons_succ, i64_w, i32_w]
                                                 rfl
                                               refine pure_ (i := 4) (N := some 64) (v := ?_) (a' := ?_) #[true, true, true, true, true, false, false, false, false, false, false, false, false, false, false, false, false, false, false, false, false, false, false, false, false, false, false, false, false, false, false, false, false, false, false, false, false, false, false, false, false, false, false, false, false, false, false, false, false, false, false, false] rfl rfl (any_of HT_.out (by kernel_rfl)) (fun _ _ _ h => h) (Or.inl ⟨by rfl, ?_⟩) ?_ ?_
                                               rotate_left
                                               · intro w'
                                                 go_simp
                                                 with_reducible rfl
                                               rotate_left
                                               · simp only [Act.put, List.setIfInBounds_toArray, List.set_cons_zero, List.set_cons_succ, i64_w, i32_w]
                                                 rfl
                                               refine pure_ (i := 5) (N := some 65) (v := ?_) (a' := ?_) #[true, true, true, true, true, true, false, false, false, false, false, false, false, false, false, false, false, false, false, false, false, false, false, false, false, false, false, false, false, false, false, false, false, false, false, false, false, false, false, false, false, false, false, false, false, false, false, false, false, false, false, false] rfl rfl (any_of HT_.out (by kernel_rfl)) (fun _ _ _ h => h) (Or.inl ⟨by rfl, ?_⟩) ?_ ?_
                                               rotate_left
                                               · intro w'
                                                 go_simp
                                                 with_reducible rfl
                                               rotate_left
                                               · simp only [Act.put, List.setIfInBounds_toArray, List.set_cons_zero, List.set_cons_succ, i64_w, i32_w]
                                                 rfl
                                               refine pure_ (i := 6) (N := some 66) (v := ?_) (a' := ?_) #[true, true, true, true, true, true, true, false, false, false, false, false, false, false, false, false, false, false, false, false, false, false, false, false, false, false, false, false, false, false, false, false, false, false, false, false, false, false, false, false, false, false, false, false, false, false, false, false, false, false, false, false] rfl rfl (any_of HT_.out (by kernel_rfl)) (fun _ _ _ h => h) (Or.inl ⟨by rfl, ?_⟩) ?_ ?_
                                               rotate_left
                                               · intro w'
                                                 go_simp
                                                 with_reducible rfl
                                               rotate_left
                                               · simp only [Act.put, List.setIfInBounds_toArray, List.set_cons_zero, List.set_cons_succ, i64_w, i32_w]
                                                 rfl
                                               refine pure_ (i := 7) (N := some 67) (v := ?_) (a' := ?_) #[true, true, true, true, true, true, true, true, false, false, false, false, false, false, false, false, false, false, false, false, false, false, false, false, false, false, false, false, false, false, false, false, false, false, false, false, false, false, false, false, false, false, false, false, false, false, false, false, false, false, false, false] rfl rfl (any_of HT_.out (by kernel_rfl)) (fun _ _ _ h => h) (Or.inl ⟨by rfl, ?_⟩) ?_ ?_
                                               rotate_left
                                               · intro w'
                                                 go_simp
                                                 with_reducible rfl
                                               rotate_left
                                               · simp only [Act.put, List.setIfInBounds_toArray, List.set_cons_zero, List.set_cons_succ, i64_w, i32_w]
                                                 rfl
                                               refine pure_ (i := 8) (N := some 68) (v := ?_) (a' := ?_) #[true, true, true, true, true, true, true, true, true, false, false, false, false, false, false, false, false, false, false, false, false, false, false, false, false, false, false, false, false, false, false, false, false, false, false, false, false, false, false, false, false, false, false, false, false, false, false, false, false, false, false, false] rfl rfl (any_of HT_.out (by kernel_rfl)) (fun _ _ _ h => h) (Or.inl ⟨by rfl, ?_⟩) ?_ ?_
                                               rotate_left
                                               · intro w'
                                                 go_simp
                                                 with_reducible rfl
                                               rotate_left
                                               · simp only [Act.put, List.setIfInBounds_toArray, List.set_cons_zero, List.set_cons_succ, i64_w, i32_w]
                                                 rfl
                                               refine pure_ (i := 9) (N := some 69) (v := ?_) (a' := ?_) #[true, true, true, true, true, true, true, true, true, true, false, false, false, false, false, false, false, false, false, false, false, false, false, false, false, false, false, false, false, false, false, false, false, false, false, false, false, false, false, false, false, false, false, false, false, false, false, false, false, false, false, false] rfl rfl (any_of HT_.out (by kernel_rfl)) (fun _ _ _ h => h) (Or.inl ⟨by rfl, ?_⟩) ?_ ?_
                                               rotate_left
                                               · intro w'
                                                 go_simp
                                                 with_reducible rfl
                                               rotate_left
                                               · simp only [Act.put, List.setIfInBounds_toArray, List.set_cons_zero, List.set_cons_succ, i64_w, i32_w]
                                                 rfl
                                               refine take_ (i := 10) (N := some 70) (v := ?_) (a' := ?_) #[true, true, true, true, true, true, true, true, true, true, true, false, false, false, false, false, false, false, false, false, false, false, false, false, false, false, false, false, false, false, false, false, false, false, false, false, false, false, false, false, false, false, false, false, false, false, false, false, false, false, false, false] rfl rfl (take_ofW HT_.out HW_.out (by kernel_rfl)) (fun _ _ _ h => h) (Or.inl ⟨by rfl, ?_⟩) hHeld ?_ ?_
                                               rotate_left
                                               · rintro w' ⟨s0, s1, s2, s3⟩
                                                 go_simp
                                                 with_reducible rfl
                                               rotate_left
                                               · simp only [Act.put, List.setIfInBounds_toArray, List.set_cons_zero, List.set_cons_succ, i64_w, i32_w]
                                                 rfl
                                               refine pure_ (i := 11) (N := some 71) (v := ?_) (a' := ?_) #[true, true, true, true, true, true, true, true, true, true, true, true, false, false, false, false, false, false, false, false, false, false, false, false, false, false, false, false, false, false, false, false, false, false, false, false, false, false, false, false, false, false, false, false, false, false, false, false, false, false, false, false] rfl rfl (any_of HT_.out (by kernel_rfl)) (fun _ _ _ h => h) (Or.inl ⟨by rfl, ?_⟩) ?_ ?_
                                               rotate_left
                                               · intro w'
                                                 go_simp
                                                 with_reducible rfl
                                               rotate_left
                                               · simp only [Act.put, List.setIfInBounds_toArray, List.set_cons_zero, List.set_cons_succ, i64_w, i32_w]
                                                 rfl
                                               refine pure_ (i := 12) (N := some 72) (v := ?_) (a' := ?_) #[true, true, true, true, true, true, true, true, true, true, true, true, true, false, false, false, false, false, false, false, false, false, false, false, false, false, false, false, false, false, false, false, false, false, false, false, false, false, false, false, false, false, false, false, false, false, false, false, false, false, false, false] rfl rfl (any_of HT_.out (by kernel_rfl)) (fun _ _ _ h => h) (Or.inl ⟨by rfl, ?_⟩) ?_ ?_
                                               rotate_left
                                               · intro w'
                                                 go_simp
                                                 with_reducible rfl
                                               rotate_left
                                               · simp only [Act.put, List.setIfInBounds_toArray, List.set_cons_zero, List.set_cons_succ, i64_w, i32_w]
                                                 rfl
                                               refine pure_ (i := 13) (N := some 73) (v := ?_) (a' := ?_) #[true, true, true, true, true, true, true, true, true, true, true, true, true, true, false, false, false, false, false, false, false, false, false, false, false, false, false, false, false, false, false, false, false, false, false, false, false, false, false, false, false, false, false, false, false, false, false, false, false, false, false, false] rfl rfl (any_of HT_.out (by kernel_rfl)) (fun _ _ _ h => h) (Or.inl ⟨by rfl, ?_⟩) ?_ ?_
                                               rotate_left
                                               · intro w'
                                                 go_simp
                                                 with_reducible rfl
                                               rotate_left
                                               · simp only [Act.put, List.setIfInBounds_toArray, List.set_cons_zero, List.set_cons_succ, i64_w, i32_w]
                                                 rfl
                                               refine pure_ (i := 14) (N := some 74) (v := ?_) (a' := ?_) #[true, true, true, true, true, true, true, true, true, true, true, true, true, true, true, false, false, false, false, false, false, false, false, false, false, false, false, false, false, false, false, false, false, false, false, false, false, false, false, false, false, false, false, false, false, false, false, false, false, false, false, false] rfl rfl (any_of HT_.out (by kernel_rfl)) (fun _ _ _ h => h) (Or.inl ⟨by rfl, ?_⟩) ?_ ?_
                                               rotate_left
                                               · intro w'
                                                 go_simp
                                                 with_reducible rfl
                                               rotate_left
                                               · simp only [Act.put, List.setIfInBounds_toArray, List.set_cons_zero, List.set_cons_succ, i64_w, i32_w]
                                                 rfl
                                               refine pure_ (i := 16) (N := some 76) (v := ?_) (a' := ?_) #[true, true, true, true, true, true, true, true, true, true, true, true, true, true, true, false, true, false, false, false, false, false, false, false, false, false, false, false, false, false, false, false, false, false, false, false, false, false, false, false, false, false, false, false, false, false, false, false, false, false, false, false] rfl rfl (any_of HT_.out (by kernel_rfl)) (fun _ _ _ h => h) (Or.inl ⟨by rfl, ?_⟩) ?_ ?_
                                               rotate_left
                                               · intro w'
                                                 go_simp
                                                 with_reducible rfl
                                               rotate_left
                                               · simp only [Act.put, List.setIfInBounds_toArray, List.set_cons_zero, List.set_cons_succ, i64_w, i32_w]
                                                 rfl
                                               refine one_ (i := 15) (N := some 75) #[true, true, true, true, true, true, true, true, true, true, true, true, true, true, true, true, true, false, false, false, false, false, false, false, false, false, false, false, false, false, false, false, false, false, false, false, false, false, false, false, false, false, false, false, false, false, false, false, false, false, false, false] rfl rfl (one_of HT_.out (by kernel_rfl)) (by decide) (fun K hK => ?_)
                                               refine goes_ Tryd.func10 (by kernel_rfl) rfl #[.slice (some ad208) t185.length co44] (by rfl) rfl rfl (by (try simp only [List.map_toArray, List.map_cons, List.map_nil]); first | done | rfl | (simp only [List.length_drop, List.length_take]; rfl)) ?_
                                               with_reducible refine (bits_Of.calls k1 _ _ t185 t217 _ ?side1 ?side2 A35.out).mono ?_
                                               (case side1 => repeat (first | exact (Kd.R_reads' HO_5.out).2.2 | (with_reducible refine Kd.C_alloc ?_ _) | (with_reducible refine Kd.C_drewN ?_ _) | (with_reducible refine Kd.C_drew ?_)))
                                               (case side2 => exact (Kd.R_reads' HO_5.out).2.1)
                                               rintro e w' ⟨rfl, ⟨nd, rfl⟩⟩
                                               refine ⟨_, rfl, ?_⟩
                                               obtain ⟨Ao58, co58, eo58⟩ := Kd.R_slice HO214.out
                                               (first | subst eo58 | (injection eo58 with f1_ f2_ f3_; have f4_ := f1_.symm; have f5_ := f3_.symm; clear f1_ f2_ f3_; subst f4_; subst f5_))
                                               refine hK.out _ _ ⟨hHeld.1, hHeld.2.1, hHeld.2.2.1, hHeld.2.2.2⟩ (fun hHeld => ?_)
                                               clear hK K
                                               refine norm_ (a' := ?_) ?_ ?_
                                               rotate_left
                                               · show Act.put _ (some 75) _ = _
                                                 simp only [Act.put, List.setIfInBounds_toArray, List.set_cons_zero, List.set_cons_succ, i64_w, i32_w]
                                                 rfl
                                               refine pure_ (i := 17) (N := some 77) (v := ?_) (a' := ?_) #[true, true, true, true, true, true, true, true, true, true, true, true, true, true, true, true, true, true, false, false, false, false, false, false, false, false, false, false, false, false, false, false, false, false, false, false, false, false, false, false, false, false, false, false, false, false, false, false, false, false, false, false] rfl rfl (any_of HT_.out (by kernel_rfl)) (fun _ _ _ h => h) (Or.inl ⟨by rfl, ?_⟩) ?_ ?_
                                               rotate_left
                                               · intro w'
                                                 go_simp
                                                 with_reducible rfl
                                               rotate_left
                                               · simp only [Act.put, List.setIfInBounds_toArray, List.set_cons_zero, List.set_cons_succ, i64_w, i32_w]
                                                 rfl
                                               refine pure_ (i := 18) (N := some 78) (v := ?_) (a' := ?_) #[true, true, true, true, true, true, true, true, true, true, true, true, true, true, true, true, true, true, true, false, false, false, false, false, false, false, false, false, false, false, false, false, false, false, false, false, false, false, false, false, false, false, false, false, false, false, false, false, false, false, false, false] rfl rfl (any_of HT_.out (by kernel_rfl)) (fun _ _ _ h => h) (Or.inl ⟨by rfl, ?_⟩) ?_ ?_
                                               rotate_left
                                               · intro w'
                                                 go_simp
                                                 with_reducible rfl
                                               rotate_left
                                               · simp only [Act.put, List.setIfInBounds_toArray, List.set_cons_zero, List.set_cons_succ, i64_w, i32_w]
                                                 rfl
                                               refine pure_ (i := 19) (N := some 79) (v := ?_) (a' := ?_) #[true, true, true, true, true, true, true, true, true, true, true, true, true, true, true, true, true, true, true, true, false, false, false, false, false, false, false, false, false, false, false, false, false, false, false, false, false, false, false, false, false, false, false, false, false, false, false, false, false, false, false, false] rfl rfl (any_of HT_.out (by kernel_rfl)) (fun _ _ _ h => h) (Or.inl ⟨by rfl, ?_⟩) ?_ ?_
                                               rotate_left
                                               · intro w'
                                                 go_simp
                                                 with_reducible rfl
                                               rotate_left
                                               · simp only [Act.put, List.setIfInBounds_toArray, List.set_cons_zero, List.set_cons_succ, i64_w, i32_w]
                                                 rfl
                                               refine pure_ (i := 20) (N := some 80) (v := ?_) (a' := ?_) #[true, true, true, true, true, true, true, true, true, true, true, true, true, true, true, true, true, true, true, true, true, false, false, false, false, false, false, false, false, false, false, false, false, false, false, false, false, false, false, false, false, false, false, false, false, false, false, false, false, false, false, false] rfl rfl (any_of HT_.out (by kernel_rfl)) (fun _ _ _ h => h) (Or.inl ⟨by rfl, ?_⟩) ?_ ?_
                                               rotate_left
                                               · intro w'
                                                 go_simp
                                                 with_reducible rfl
                                               rotate_left
                                               · simp only [Act.put, List.setIfInBounds_toArray, List.set_cons_zero, List.set_cons_succ, i64_w, i32_w]
                                                 rfl
                                               refine pure_ (i := 22) (N := some 82) (v := ?_) (a' := ?_) #[true, true, true, true, true, true, true, true, true, true, true, true, true, true, true, true, true, true, true, true, true, false, true, false, false, false, false, false, false, false, false, false, false, false, false, false, false, false, false, false, false, false, false, false, false, false, false, false, false, false, false, false] rfl rfl (any_of HT_.out (by kernel_rfl)) (fun _ _ _ h => h) (Or.inl ⟨by rfl, ?_⟩) ?_ ?_
                                               rotate_left
                                               · intro w'
                                                 go_simp
                                                 with_reducible rfl
                                               rotate_left
                                               · simp only [Act.put, List.setIfInBounds_toArray, List.set_cons_zero, List.set_cons_succ, i64_w, i32_w]
                                                 rfl
                                               refine one_ (i := 21) (N := some 81) #[true, true, true, true, true, true, true, true, true, true, true, true, true, true, true, true, true, true, true, true, true, true, true, false, false, false, false, false, false, false, false, false, false, false, false, false, false, false, false, false, false, false, false, false, false, false, false, false, false, false, false, false] rfl rfl (one_of HT_.out (by kernel_rfl)) (by decide) (fun K hK => ?_)
                                               refine goes_ Tryd.func10 (by kernel_rfl) rfl #[.slice Ao58 y212.length co58] (by rfl) rfl rfl (by (try simp only [List.map_toArray, List.map_cons, List.map_nil]); first | done | rfl | (simp only [List.length_drop, List.length_take]; rfl)) ?_
                                               with_reducible refine (bits_Of.calls k1 _ _ y212 t218 _ ?side1 ?side2 A37.out).mono ?_
                                               (case side1 => repeat (first | exact (Kd.R_reads' HO214.out).2.2 | (with_reducible refine Kd.C_alloc ?_ _) | (with_reducible refine Kd.C_drewN ?_ _) | (with_reducible refine Kd.C_drew ?_)))
                                               (case side2 => exact (Kd.R_reads' HO214.out).2.1)
                                               rintro e w' ⟨rfl, ⟨nd, rfl⟩⟩
                                               refine ⟨_, rfl, ?_⟩
                                               refine hK.out _ _ ⟨hHeld.1, hHeld.2.1, hHeld.2.2.1, hHeld.2.2.2⟩ (fun hHeld => ?_)
                                               clear hK K
                                               refine norm_ (a' := ?_) ?_ ?_
                                               rotate_left
                                               · show Act.put _ (some 81) _ = _
                                                 simp only [Act.put, List.setIfInBounds_toArray, List.set_cons_zero, List.set_cons_succ, i64_w, i32_w]
                                                 rfl
                                               refine pure_ (i := 23) (N := some 83) (v := ?_) (a' := ?_) #[true, true, true, true, true, true, true, true, true, true, true, true, true, true, true, true, true, true, true, true, true, true, true, true, false, false, false, false, false, false, false, false, false, false, false, false, false, false, false, false, false, false, false, false, false, false, false, false, false, false, false, false] rfl rfl (any_of HT_.out (by kernel_rfl)) (fun _ _ _ h => h) (Or.inl ⟨by rfl, ?_⟩) ?_ ?_
                                               rotate_left
                                               · intro w'
                                                 go_simp
                                                 with_reducible rfl
                                               rotate_left
                                               · simp only [Act.put, List.setIfInBounds_toArray, List.set_cons_zero, List.set_cons_succ, i64_w, i32_w]
                                                 rfl
                                               refine pure_ (i := 24) (N := some 84) (v := ?_) (a' := ?_) #[true, true, true, true, true, true, true, true, true, true, true, true, true, true, true, true, true, true, true, true, true, true, true, true, true, false, false, false, false, false, false, false, false, false, false, false, false, false, false, false, false, false, false, false, false, false, false, false, false, false, false, false] rfl rfl (any_of HT_.out (by kernel_rfl)) (fun _ _ _ h => h) (Or.inl ⟨by rfl, ?_⟩) ?_ ?_
                                               rotate_left
                                               · intro w'
                                                 go_simp
                                                 with_reducible rfl
                                               rotate_left
                                               · simp only [Act.put, List.setIfInBounds_toArray, List.set_cons_zero, List.set_cons_succ, i64_w, i32_w]
                                                 rfl
                                               refine pure_ (i := 25) (N := some 85) (v := ?_) (a' := ?_) #[true, true, true, true, true, true, true, true, true, true, true, true, true, true, true, true, true, true, true, true, true, true, true, true, true, true, false, false, false, false, false, false, false, false, false, false, false, false, false, false, false, false, false, false, false, false, false, false, false, false, false, false] rfl rfl (any_of HT_.out (by kernel_rfl)) (fun _ _ _ h => h) (Or.inl ⟨by rfl, ?_⟩) ?_ ?_
                                               rotate_left
                                               · intro w'
                                                 go_simp
                                                 with_reducible rfl
                                               rotate_left
                                               · simp only [Act.put, List.setIfInBounds_toArray, List.set_cons_zero, List.set_cons_succ, i64_w, i32_w]
                                                 rfl
                                               refine pure_ (i := 26) (N := some 86) (v := ?_) (a' := ?_) #[true, true, true, true, true, true, true, true, true, true, true, true, true, true, true, true, true, true, true, true, true, true, true, true, true, true, true, false, false, false, false, false, false, false, false, false, false, false, false, false, false, false, false, false, false, false, false, false, false, false, false, false] rfl rfl (any_of HT_.out (by kernel_rfl)) (fun _ _ _ h => h) (Or.inl ⟨by rfl, ?_⟩) ?_ ?_
                                               rotate_left
                                               · intro w'
                                                 go_simp
                                                 with_reducible rfl
                                               rotate_left
                                               · simp only [Act.put, List.setIfInBounds_toArray, List.set_cons_zero, List.set_cons_succ, i64_w, i32_w]
                                                 rfl
                                               refine pure_ (i := 28) (N := some 88) (v := ?_) (a' := ?_) #[true, true, true, true, true, true, true, true, true, true, true, true, true, true, true, true, true, true, true, true, true, true, true, true, true, true, true, false, true, false, false, false, false, false, false, false, false, false, false, false, false, false, false, false, false, false, false, false, false, false, false, false] rfl rfl (any_of HT_.out (by kernel_rfl)) (fun _ _ _ h => h) (Or.inl ⟨by rfl, ?_⟩) ?_ ?_
                                               rotate_left
                                               · intro w'
                                                 go_simp
                                                 with_reducible rfl
                                               rotate_left
                                               · simp only [Act.put, List.setIfInBounds_toArray, List.set_cons_zero, List.set_cons_succ, i64_w, i32_w]
                                                 rfl
                                               refine pure_ (i := 29) (N := some 89) (v := ?_) (a' := ?_) #[true, true, true, true, true, true, true, true, true, true, true, true, true, true, true, true, true, true, true, true, true, true, true, true, true, true, true, false, true, true, false, false, false, false, false, false, false, false, false, false, false, false, false, false, false, false, false, false, false, false, false, false] rfl rfl (any_of HT_.out (by kernel_rfl)) (fun _ _ _ h => h) (Or.inl ⟨by rfl, ?_⟩) ?_ ?_
                                               rotate_left
                                               · intro w'
                                                 go_simp
                                                 with_reducible rfl
                                               rotate_left
                                               · simp only [Act.put, List.setIfInBounds_toArray, List.set_cons_zero, List.set_cons_succ, i64_w, i32_w]
                                                 rfl
                                               refine one_ (i := 27) (N := some 87) #[true, true, true, true, true, true, true, true, true, true, true, true, true, true, true, true, true, true, true, true, true, true, true, true, true, true, true, true, true, true, false, false, false, false, false, false, false, false, false, false, false, false, false, false, false, false, false, false, false, false, false, false] rfl rfl (one_of HT_.out (by kernel_rfl)) (by decide) (fun K hK => ?_)
                                               refine goes_ Tryd.func22 (by kernel_rfl) rfl #[.int .u64 a0] (by rfl) rfl rfl (by (try simp only [List.map_toArray, List.map_cons, List.map_nil]); first | done | rfl | (simp only [List.length_drop, List.length_take]; rfl)) ?_
                                               with_reducible refine (bits_Count.calls a0 t219 _ A39.out).mono ?_
                                               rintro e w' ⟨rfl, ⟨nd, rfl⟩⟩
                                               refine ⟨_, rfl, ?_⟩
                                               refine hK.out _ _ ⟨hHeld.1, hHeld.2.1, hHeld.2.2.1, hHeld.2.2.2⟩ (fun hHeld => ?_)
                                               clear hK K
                                               refine norm_ (a' := ?_) ?_ ?_
                                               rotate_left
                                               · show Act.put _ (some 87) _ = _
                                                 simp only [Act.put, List.setIfInBounds_toArray, List.set_cons_zero, List.set_cons_succ, i64_w, i32_w]
                                                 rfl
                                               refine pure_ (i := 30) (N := some 90) (v := ?_) (a' := ?_) #[true, true, true, true, true, true, true, true, true, true, true, true, true, true, true, true, true, true, true, true, true, true, true, true, true, true, true, true, true, true, true, false, false, false, false, false, false, false, false, false, false, false, false, false, false, false, false, false, false, false, false, false] rfl rfl (any_of HT_.out (by kernel_rfl)) (fun _ _ _ h => h) (Or.inl ⟨by rfl, ?_⟩) ?_ ?_
                                               rotate_left
                                               · intro w'
                                                 go_simp
                                                 with_reducible rfl
                                               rotate_left
                                               · simp only [Act.put, List.setIfInBounds_toArray, List.set_cons_zero, List.set_cons_succ, i64_w, i32_w]
                                                 rfl
                                               refine pure_ (i := 31) (N := some 91) (v := ?_) (a' := ?_) #[true, true, true, true, true, true, true, true, true, true, true, true, true, true, true, true, true, true, true, true, true, true, true, true, true, true, true, true, true, true, true, true, false, false, false, false, false, false, false, false, false, false, false, false, false, false, false, false, false, false, false, false] rfl rfl (any_of HT_.out (by kernel_rfl)) (fun _ _ _ h => h) (Or.inl ⟨by rfl, ?_⟩) ?_ ?_
                                               rotate_left
                                               · intro w'
                                                 go_simp
                                                 with_reducible rfl
                                               rotate_left
                                               · simp only [Act.put, List.setIfInBounds_toArray, List.set_cons_zero, List.set_cons_succ, i64_w, i32_w]
                                                 rfl
                                               refine pure_ (i := 32) (N := some 92) (v := ?_) (a' := ?_) #[true, true, true, true, true, true, true, true, true, true, true, true, true, true, true, true, true, true, true, true, true, true, true, true, true, true, true, true, true, true, true, true, true, false, false, false, false, false, false, false, false, false, false, false, false, false, false, false, false, false, false, false] rfl rfl (any_of HT_.out (by kernel_rfl)) (fun _ _ _ h => h) (Or.inl ⟨by rfl, ?_⟩) ?_ ?_
                                               rotate_left
                                               · intro w'
                                                 go_simp
                                                 with_reducible rfl
                                               rotate_left
                                               · simp only [Act.put, List.setIfInBounds_toArray, List.set_cons_zero, List.set_cons_succ, i64_w, i32_w]
                                                 rfl
                                               refine pure_ (i := 33) (N := some 93) (v := ?_) (a' := ?_) #[true, true, true, true, true, true, true, true, true, true, true, true, true, true, true, true, true, true, true, true, true, true, true, true, true, true, true, true, true, true, true, true, true, true, false, false, false, false, false, false, false, false, false, false, false, false, false, false, false, false, false, false] rfl rfl (any_of HT_.out (by kernel_rfl)) (fun _ _ _ h => h) (Or.inl ⟨by rfl, ?_⟩) ?_ ?_
                                               rotate_left
                                               · intro w'
                                                 go_simp
                                                 with_reducible rfl
                                               rotate_left
                                               · simp only [Act.put, List.setIfInBounds_toArray, List.set_cons_zero, List.set_cons_succ, i64_w, i32_w]
                                                 rfl
                                               refine pure_ (i := 35) (N := some 95) (v := ?_) (a' := ?_) #[true, true, true, true, true, true, true, true, true, true, true, true, true, true, true, true, true, true, true, true, true, true, true, true, true, true, true, true, true, true, true, true, true, true, false, true, false, false, false, false, false, false, false, false, false, false, false, false, false, false, false, false] rfl rfl (any_of HT_.out (by kernel_rfl)) (fun _ _ _ h => h) (Or.inl ⟨by rfl, ?_⟩) ?_ ?_
                                               rotate_left
                                               · intro w'
                                                 go_simp
                                                 with_reducible rfl
                                               rotate_left
                                               · simp only [Act.put, List.setIfInBounds_toArray, List.set_cons_zero, List.set_cons_succ, i64_w, i32_w]
                                                 rfl
                                               refine pure_ (i := 36) (N := some 96) (v := ?_) (a' := ?_) #[true, true, true, true, true, true, true, true, true, true, true, true, true, true, true, true, true, true, true, true, true, true, true, true, true, true, true, true, true, true, true, true, true, true, false, true, true, false, false, false, false, false, false, false, false, false, false, false, false, false, false, false] rfl rfl (any_of HT_.out (by kernel_rfl)) (fun _ _ _ h => h) (Or.inl ⟨by rfl, ?_⟩) ?_ ?_
                                               rotate_left
                                               · intro w'
                                                 go_simp
                                                 with_reducible rfl
                                               rotate_left
                                               · simp only [Act.put, List.setIfInBounds_toArray, List.set_cons_zero, List.set_cons_succ, i64_w, i32_w]
                                                 rfl
                                               refine take_ (i := 37) (N := some 97) (v := ?_) (a' := ?_) #[true, true, true, true, true, true, true, true, true, true, true, true, true, true, true, true, true, true, true, true, true, true, true, true, true, true, true, true, true, true, true, true, true, true, false, true, true, true, false, false, false, false, false, false, false, false, false, false, false, false, false, false] rfl rfl (take_ofW HT_.out HW_.out (by kernel_rfl)) (fun _ _ _ h => h) (Or.inl ⟨by rfl, ?_⟩) hHeld ?_ ?_
                                               rotate_left
                                               · rintro w' ⟨s0, s1, s2, s3⟩
                                                 go_simp
                                                 with_reducible rfl
                                               rotate_left
                                               · simp only [Act.put, List.setIfInBounds_toArray, List.set_cons_zero, List.set_cons_succ, i64_w, i32_w]
                                                 rfl
                                               refine one_ (i := 34) (N := some 94) #[true, true, true, true, true, true, true, true, true, true, true, true, true, true, true, true, true, true, true, true, true, true, true, true, true, true, true, true, true, true, true, true, true, true, true, true, true, true, false, false, false, false, false, false, false, false, false, false, false, false, false, false] rfl rfl (one_of HT_.out (by kernel_rfl)) (by decide) (fun K hK => ?_)
                                               refine goes_ Tryd.func23 (by kernel_rfl) rfl #[.int .u64 a0] (by rfl) rfl rfl (by (try simp only [List.map_toArray, List.map_cons, List.map_nil]); first | done | rfl | (simp only [List.length_drop, List.length_take]; rfl)) ?_
                                               with_reducible refine (bits_First.calls a0 t220 _ (by first | exact hTab | (repeat (first | exact hTab | exact TabW.below hTab HB.out | (with_reducible apply TabW.drewN) | (with_reducible apply TabW.drew) | (with_reducible apply TabW.alloc)))) A41.out).mono ?_
                                               rintro e w' ⟨rfl, ⟨nd, rfl⟩⟩
                                               refine ⟨_, rfl, ?_⟩
                                               refine hK.out _ _ ⟨hHeld.1, hHeld.2.1, hHeld.2.2.1, hHeld.2.2.2⟩ (fun hHeld => ?_)
                                               clear hK K
                                               refine norm_ (a' := ?_) ?_ ?_
                                               rotate_left
                                               · show Act.put _ (some 94) _ = _
                                                 simp only [Act.put, List.setIfInBounds_toArray, List.set_cons_zero, List.set_cons_succ, i64_w, i32_w]
                                                 rfl
                                               refine pure_ (i := 38) (N := some 98) (v := ?_) (a' := ?_) #[true, true, true, true, true, true, true, true, true, true, true, true, true, true, true, true, true, true, true, true, true, true, true, true, true, true, true, true, true, true, true, true, true, true, true, true, true, true, true, false, false, false, false, false, false, false, false, false, false, false, false, false] rfl rfl (any_of HT_.out (by kernel_rfl)) (fun _ _ _ h => h) (Or.inl ⟨by rfl, ?_⟩) ?_ ?_
                                               rotate_left
                                               · intro w'
                                                 go_simp
                                                 with_reducible rfl
                                               rotate_left
                                               · simp only [Act.put, List.setIfInBounds_toArray, List.set_cons_zero, List.set_cons_succ, i64_w, i32_w]
                                                 rfl
                                               refine pure_ (i := 39) (N := some 99) (v := ?_) (a' := ?_) #[true, true, true, true, true, true, true, true, true, true, true, true, true, true, true, true, true, true, true, true, true, true, true, true, true, true, true, true, true, true, true, true, true, true, true, true, true, true, true, true, false, false, false, false, false, false, false, false, false, false, false, false] rfl rfl (any_of HT_.out (by kernel_rfl)) (fun _ _ _ h => h) (Or.inl ⟨by rfl, ?_⟩) ?_ ?_
                                               rotate_left
                                               · intro w'
                                                 go_simp
                                                 with_reducible rfl
                                               rotate_left
                                               · simp only [Act.put, List.setIfInBounds_toArray, List.set_cons_zero, List.set_cons_succ, i64_w, i32_w]
                                                 rfl
                                               refine pure_ (i := 40) (N := some 100) (v := ?_) (a' := ?_) #[true, true, true, true, true, true, true, true, true, true, true, true, true, true, true, true, true, true, true, true, true, true, true, true, true, true, true, true, true, true, true, true, true, true, true, true, true, true, true, true, true, false, false, false, false, false, false, false, false, false, false, false] rfl rfl (any_of HT_.out (by kernel_rfl)) (fun _ _ _ h => h) (Or.inl ⟨by rfl, ?_⟩) ?_ ?_
                                               rotate_left
                                               · intro w'
                                                 go_simp
                                                 with_reducible rfl
                                               rotate_left
                                               · simp only [Act.put, List.setIfInBounds_toArray, List.set_cons_zero, List.set_cons_succ, i64_w, i32_w]
                                                 rfl
                                               refine pure_ (i := 41) (N := some 101) (v := ?_) (a' := ?_) #[true, true, true, true, true, true, true, true, true, true, true, true, true, true, true, true, true, true, true, true, true, true, true, true, true, true, true, true, true, true, true, true, true, true, true, true, true, true, true, true, true, true, false, false, false, false, false, false, false, false, false, false] rfl rfl (any_of HT_.out (by kernel_rfl)) (fun _ _ _ h => h) (Or.inl ⟨by rfl, ?_⟩) ?_ ?_
                                               rotate_left
                                               · intro w'
                                                 go_simp
                                                 with_reducible rfl
                                               rotate_left
                                               · simp only [Act.put, List.setIfInBounds_toArray, List.set_cons_zero, List.set_cons_succ, i64_w, i32_w]
                                                 rfl
                                               refine pure_ (i := 43) (N := some 103) (v := ?_) (a' := ?_) #[true, true, true, true, true, true, true, true, true, true, true, true, true, true, true, true, true, true, true, true, true, true, true, true, true, true, true, true, true, true, true, true, true, true, true, true, true, true, true, true, true, true, false, true, false, false, false, false, false, false, false, false] rfl rfl (any_of HT_.out (by kernel_rfl)) (fun _ _ _ h => h) (Or.inl ⟨by rfl, ?_⟩) ?_ ?_
                                               rotate_left
                                               · intro w'
                                                 go_simp
                                                 with_reducible rfl
                                               rotate_left
                                               · simp only [Act.put, List.setIfInBounds_toArray, List.set_cons_zero, List.set_cons_succ, i64_w, i32_w]
                                                 rfl
                                               refine pure_ (i := 44) (N := some 104) (v := ?_) (a' := ?_) #[true, true, true, true, true, true, true, true, true, true, true, true, true, true, true, true, true, true, true, true, true, true, true, true, true, true, true, true, true, true, true, true, true, true, true, true, true, true, true, true, true, true, false, true, true, false, false, false, false, false, false, false] rfl rfl (any_of HT_.out (by kernel_rfl)) (fun _ _ _ h => h) (Or.inl ⟨by rfl, ?_⟩) ?_ ?_
                                               rotate_left
                                               · intro w'
                                                 go_simp
                                                 with_reducible rfl
                                               rotate_left
                                               · simp only [Act.put, List.setIfInBounds_toArray, List.set_cons_zero, List.set_cons_succ, i64_w, i32_w]
                                                 rfl
                                               refine pure_ (i := 45) (N := some 105) (v := ?_) (a' := ?_) #[true, true, true, true, true, true, true, true, true, true, true, true, true, true, true, true, true, true, true, true, true, true, true, true, true, true, true, true, true, true, true, true, true, true, true, true, true, true, true, true, true, true, false, true, true, true, false, false, false, false, false, false] rfl rfl (any_of HT_.out (by kernel_rfl)) (fun _ _ _ h => h) (Or.inl ⟨by rfl, ?_⟩) ?_ ?_
                                               rotate_left
                                               · intro w'
                                                 go_simp
                                                 with_reducible rfl
                                               rotate_left
                                               · simp only [Act.put, List.setIfInBounds_toArray, List.set_cons_zero, List.set_cons_succ, i64_w, i32_w]
                                                 rfl
                                               refine pure_ (i := 46) (N := some 106) (v := ?_) (a' := ?_) #[true, true, true, true, true, true, true, true, true, true, true, true, true, true, true, true, true, true, true, true, true, true, true, true, true, true, true, true, true, true, true, true, true, true, true, true, true, true, true, true, true, true, false, true, true, true, true, false, false, false, false, false] rfl rfl (any_of HT_.out (by kernel_rfl)) (fun _ _ _ h => h) (Or.inl ⟨by rfl, ?_⟩) ?_ ?_
                                               rotate_left
                                               · intro w'
                                                 go_simp
                                                 with_reducible rfl
                                               rotate_left
                                               · simp only [Act.put, List.setIfInBounds_toArray, List.set_cons_zero, List.set_cons_succ, i64_w, i32_w]
                                                 rfl
                                               refine pure_ (i := 47) (N := some 107) (v := ?_) (a' := ?_) #[true, true, true, true, true, true, true, true, true, true, true, true, true, true, true, true, true, true, true, true, true, true, true, true, true, true, true, true, true, true, true, true, true, true, true, true, true, true, true, true, true, true, false, true, true, true, true, true, false, false, false, false] rfl rfl (any_of HT_.out (by kernel_rfl)) (fun _ _ _ h => h) (Or.inl ⟨by rfl, ?_⟩) ?_ ?_
                                               rotate_left
                                               · intro w'
                                                 go_simp
                                                 with_reducible rfl
                                               rotate_left
                                               · simp only [Act.put, List.setIfInBounds_toArray, List.set_cons_zero, List.set_cons_succ, i64_w, i32_w]
                                                 rfl
                                               refine take_ (i := 48) (N := some 108) (v := ?_) (a' := ?_) #[true, true, true, true, true, true, true, true, true, true, true, true, true, true, true, true, true, true, true, true, true, true, true, true, true, true, true, true, true, true, true, true, true, true, true, true, true, true, true, true, true, true, false, true, true, true, true, true, true, false, false, false] rfl rfl (take_ofW HT_.out HW_.out (by kernel_rfl)) (fun _ _ _ h => h) (Or.inl ⟨by rfl, ?_⟩) hHeld ?_ ?_
                                               rotate_left
                                               · rintro w' ⟨s0, s1, s2, s3⟩
                                                 go_simp
                                                 with_reducible rfl
                                               rotate_left
                                               · simp only [Act.put, List.setIfInBounds_toArray, List.set_cons_zero, List.set_cons_succ, i64_w, i32_w]
                                                 rfl
                                               refine one_ (i := 42) (N := some 102) #[true, true, true, true, true, true, true, true, true, true, true, true, true, true, true, true, true, true, true, true, true, true, true, true, true, true, true, true, true, true, true, true, true, true, true, true, true, true, true, true, true, true, true, true, true, true, true, true, true, false, false, false] rfl rfl (one_of HT_.out (by kernel_rfl)) (by decide) (fun K hK => ?_)
                                               refine goes_ Tryd.func24 (by kernel_rfl) rfl #[.int .u64 a0] (by rfl) rfl rfl (by (try simp only [List.map_toArray, List.map_cons, List.map_nil]); first | done | rfl | (simp only [List.length_drop, List.length_take]; rfl)) ?_
                                               with_reducible refine (bits_Last.calls a0 t222 _ A43.out).mono ?_
                                               rintro e w' ⟨rfl, ⟨nd, rfl⟩⟩
                                               refine ⟨_, rfl, ?_⟩
                                               refine hK.out _ _ ⟨hHeld.1, hHeld.2.1, hHeld.2.2.1, hHeld.2.2.2⟩ (fun hHeld => ?_)
                                               clear hK K
                                               refine norm_ (a' := ?_) ?_ ?_
                                               rotate_left
                                               · show Act.put _ (some 102) _ = _
                                                 simp only [Act.put, List.setIfInBounds_toArray, List.set_cons_zero, List.set_cons_succ, i64_w, i32_w]
                                                 rfl
                                               refine pure_ (i := 49) (N := some 109) (v := ?_) (a' := ?_) #[true, true, true, true, true, true, true, true, true, true, true, true, true, true, true, true, true, true, true, true, true, true, true, true, true, true, true, true, true, true, true, true, true, true, true, true, true, true, true, true, true, true, true, true, true, true, true, true, true, true, false, false] rfl rfl (any_of HT_.out (by kernel_rfl)) (fun _ _ _ h => h) (Or.inl ⟨by rfl, ?_⟩) ?_ ?_
                                               rotate_left
                                               · intro w'
                                                 go_simp
                                                 with_reducible rfl
                                               rotate_left
                                               · simp only [Act.put, List.setIfInBounds_toArray, List.set_cons_zero, List.set_cons_succ, i64_w, i32_w]
                                                 rfl
                                               refine pure_ (i := 50) (N := some 110) (v := ?_) (a' := ?_) #[true, true, true, true, true, true, true, true, true, true, true, true, true, true, true, true, true, true, true, true, true, true, true, true, true, true, true, true, true, true, true, true, true, true, true, true, true, true, true, true, true, true, true, true, true, true, true, true, true, true, true, false] rfl rfl (any_of HT_.out (by kernel_rfl)) (fun _ _ _ h => h) (Or.inl ⟨by rfl, ?_⟩) ?_ ?_
                                               rotate_left
                                               · intro w'
                                                 go_simp
                                                 with_reducible rfl
                                               rotate_left
                                               · simp only [Act.put, List.setIfInBounds_toArray, List.set_cons_zero, List.set_cons_succ, i64_w, i32_w]
                                                 rfl
                                               refine pure_ (i := 51) (N := some 4) (v := ?_) (a' := ?_) #[true, true, true, true, true, true, true, true, true, true, true, true, true, true, true, true, true, true, true, true, true, true, true, true, true, true, true, true, true, true, true, true, true, true, true, true, true, true, true, true, true, true, true, true, true, true, true, true, true, true, true, true] rfl rfl (any_of HT_.out (by kernel_rfl)) (fun _ _ _ h => h) (Or.inl ⟨by rfl, ?_⟩) ?_ ?_
                                               rotate_left
                                               · intro w'
                                                 go_simp
                                                 with_reducible rfl
                                               rotate_left
                                               · simp only [Act.put, List.setIfInBounds_toArray, List.set_cons_zero, List.set_cons_succ, i64_w, i32_w]
                                                 rfl
                                               refine done_ (done_of HT_.out (by kernel_rfl)) ?_
                                               try go_wp2
                                               go_ret
                                               exact ⟨by first | rfl | (simp [errW_none, errW_some] <;> rfl) | (simp only [← hji20, ← hji31]; first | rfl | (simp [errW_none, errW_some] <;> rfl)) | (simp [*, errW_none, errW_some] <;> rfl), by repeat (first | (with_reducible first | exact HB.out | apply below_alloc | apply pw_below_drewN | apply below_drew1) | exact HB.out)⟩)
                                        · rw [if_neg c42] at H
                                          have c42b0 : (t220 == (rd t185 0)) = false := beq_eq_false_iff_ne.mpr c42
                                          have c42b1 : (t220 != (rd t185 0)) = true := bne_iff_ne.mpr c42
                                          exact absurd H (by simp)
                                      · rw [if_neg c40] at H
                                        have c40b0 : (t219 == (t185.length : Int)) = false := beq_eq_false_iff_ne.mpr c40
                                        have c40b1 : (t219 != (t185.length : Int)) = true := bne_iff_ne.mpr c40
                                        exact absurd H (by simp)
                                    · rw [if_neg c38] at H
                                      have c38b0 : (t218 == a0) = false := beq_eq_false_iff_ne.mpr c38
                                      have c38b1 : (t218 != a0) = true := bne_iff_ne.mpr c38
                                      exact absurd H (by simp)
                                  · rw [if_neg c36] at H
                                    have c36b0 : (t217 == a0) = false := beq_eq_false_iff_ne.mpr c36
                                    have c36b1 : (t217 != a0) = true := bne_iff_ne.mpr c36
                                    exact absurd H (by simp)
                                · rw [if_neg c34] at H
                                  have c34b0 : decide ((rd t185 (ji31)) < 64) = false := decide_eq_false c34
                                  clear c34
                                  exact absurd H (by simp)
                              · rw [if_neg c33] at H
                                exact absurd H (by simp)
                            · rw [if_neg c32] at H
                              exact absurd H (by simp)
                          · rw [if_neg c30] at H
                            have c30b0 : decide (0 ≤ (rd t185 0)) = false := decide_eq_false c30
                            clear c30
                            exact absurd H (by simp)
                        · rw [if_neg c29] at H
                          exact absurd H (by simp)
                      · rw [if_neg c28] at H
                        exact absurd H (by simp)
                    · rw [if_neg c27] at H
                      exact absurd H (by simp)
                  · rw [if_neg c26] at H
                    exact absurd H (by simp)
                · rw [if_neg c23] at H
                  exact absurd H (by simp)
              · rw [if_neg c22] at H
                exact absurd H (by simp)
            · rw [if_neg c21] at H
              exact absurd H (by simp)
  · replace c4 := Bool.eq_false_iff.mpr c4
    subst c4
    have H1 : (none) = some true := by rw [if_neg (show ¬ (false = true) by decide)] at H; exact H
    clear H
    have H := H1
    clear H1
    exact absurd H (by simp)

/-- THE ONE PURE STATEMENT of withelaw1_BitsBack: yours. -/
def withelaw1_BitsBack.Pure : Prop := ∀ (a0 : Int) (a1 : Int), (Lit.int .u64 a0).wf = true → (Lit.int .u8 a1).wf = true → ∃ k, withelaw1_BitsBack.f k a0 a1 = some true
theorem withelaw1_BitsBack.walk (P : withelaw1_BitsBack.Pure) (a0 : Int) (a1 : Int) (w : World) (hTab : TabW w) (w0 : (Lit.int .u64 a0).wf = true) (w1 : (Lit.int .u8 a1).wf = true) :
    Calls Tryd.prog 4 #[.int .u64 a0, .int .u8 a1] w fun e w' => e = .returned (.bool true) ∧ Below w.heap.size w w' := by
  obtain ⟨k, h⟩ := P a0 a1 w0 w1
  refine (withelaw1_BitsBack.calls k a0 a1 w hTab h).mono ?_
  rintro e w' ⟨rfl, hd⟩
  exact ⟨rfl, hd⟩

end Go.Proofs.YtpkhcmholpljnabDoor.PB1
