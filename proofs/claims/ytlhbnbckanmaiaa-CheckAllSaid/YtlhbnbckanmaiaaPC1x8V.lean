/- A text of a claim: it proves what its last theorem states, for every input that the given row speaks of; conditions of ours: none. Written by this claim's own program (wip/tools/xprint.py) over the kit's printer. -/
import Derived.Test.YtlhbnbckanmaiaaPC1x0V
namespace Go.Proofs.Ytlhbnbckanmaiaa.PC1
open Go.RowKit Go.Proofs.YtlhbnbckanmaiaaW.PrintWords Go.Proofs.YtlhbnbckanmaiaaW.PrintLast Go.Proofs.YtlhbnbckanmaiaaW.PrintMore
attribute [local go_sem] max2_int min2_int max_two min_two max_three min_three max_four min_four   -- for this text's walks alone
set_option linter.unusedVariables false
set_option linter.unusedSimpArgs false
-- NOT PRINTED: function 50 (witheref9_walk_one)
-- NOT PRINTED: function 28 (witheref9_walk_all)
/-! ### witheref9_condDeep: function 29 -/
mutual
def witheref9_condDeep.l0 : Nat → Int → Int → Int → Int → ByteArray → Int → List (S26) → Option (Int)
  | 0, _, _, _, _, _, _, _ => none
  | k + 1, x3, x4, x190000, x190001, x190002, x190003, x190004 => if x4 < (x190004.length : Int) then (if 0 ≤ x4 then ((witheref9_condDeep.f k ((rd_T26 x190004 x4).f0) ((rd_T26 x190004 x4).f1) ((rd_T26 x190004 x4).f2) ((rd_T26 x190004 x4).f3) ((rd_T26 x190004 x4).f4)).bind fun t191 => (if t191 > x3 then (witheref9_condDeep.l0 k t191 (wrap64 (x4 + 1)) x190000 x190001 x190002 x190003 x190004) else (witheref9_condDeep.l0 k x3 (wrap64 (x4 + 1)) x190000 x190001 x190002 x190003 x190004))) else (none)) else (some (wrap64 (x3 + 1)))
def witheref9_condDeep.f : Nat → Int → Int → ByteArray → Int → List (S26) → Option (Int)
  | 0, _, _, _, _, _ => none
  | k + 1, a0_0, a0_1, a0_2, a0_3, l0_4 => witheref9_condDeep.l0 k 0 0 a0_0 a0_1 a0_2 a0_3 l0_4
end
set_option maxHeartbeats 8000000 in
set_option maxRecDepth 100000 in
theorem witheref9_condDeep.calls (k : Nat) : ∀ (a0_0 : Int) (a0_1 : Int) (a0_2 : ByteArray) (a0_3 : Int) (A0_4 : Option Addr) (c0_4 : Nat) (l0_4 : List (S26)) (r : Int) (w : World) (hr0_4 : Kd.C k26 w A0_4 l0_4.length l0_4) (hc0_4 : l0_4.length ≤ c0_4) (h : witheref9_condDeep.f k a0_0 a0_1 a0_2 a0_3 l0_4 = some r),
    Calls Try.prog 29 #[.agg #[.int .i64 a0_0, .int .i64 a0_1, .string a0_2, .int .i64 a0_3, .slice A0_4 l0_4.length c0_4]] w fun e w' => e = .returned (.int .i64 r) ∧ Below w.heap.size w w' := by
  induction k using Nat.strongRecOn with
  | _ k ih =>
  intro a0_0 a0_1 a0_2 a0_3 A0_4 c0_4 l0_4 r w hr0_4 hc0_4 h
  cases k with
  | zero => exact absurd h (by simp [witheref9_condDeep.f])
  | succ k =>
  simp only [witheref9_condDeep.f] at h
  have hu26 := Try.underlying26
  have HR0_4 := Aside0.mk hr0_4
  have HC0_4 := Aside0.mk hc0_4
  clear hr0_4 hc0_4
  have HB := Aside0.mk (Below.refl w.heap.size w)
  have H : (witheref9_condDeep.l0 k 0 0 a0_0 a0_1 a0_2 a0_3 l0_4) = some r := h
  clear h
  have H' := Aside0.mk H
  clear H
  go_enter Try.func29, Try.ntmps29
  go_wp2_with (first | ((with_reducible refine gate_dst (N := 1) rfl ?_); refine box_event ?hg (N := 1) ?hd (cs := #[.int .i64 a0_0, .int .i64 a0_1, .string a0_2, .int .i64 a0_3, .slice A0_4 l0_4.length c0_4]) (t := 26) ?hr ?_; (case hd => rfl); (case hg => rfl); (case hr => first | (go_simp; done) | (go_simp; rfl)); intro gb189 hg w2 hbox hb; have n0_ := Aside0.mk (below_step (by repeat (first | (with_reducible first | exact HB.out | apply below_alloc | apply pw_below_drewN | apply below_drew1) | exact HB.out)) hb); have n1_ := Aside0.mk (hbox); have n2_ := Aside0.mk ((by rw [hg]; exact (below_size (by repeat (first | (with_reducible first | exact HB.out | apply below_alloc | apply pw_below_drewN | apply below_drew1) | exact HB.out))) : w.heap.size ≤ gb189)); have n3_ := Aside0.mk ((by rw [hg]; exact (below_size (by repeat (first | (with_reducible first | exact HB.out | apply below_alloc | apply pw_below_drewN | apply below_drew1) | exact HB.out))) : w.heap.size ≤ gb189)); clear HB; have HB := n0_; have BK189 := n1_; have GW189 := n2_; have GE189 := n3_; clear n0_ n1_ n2_ n3_; clear hb hbox hg))
  go_loopg [3, 4] k (fun kq v3 v4 w' => ∃ (x3_1 : Int) (x4_1 : Int), v3 = .int .i64 x3_1 ∧ v4 = .int .i64 x4_1 ∧ Aside0 (witheref9_condDeep.l0 kq x3_1 x4_1 a0_0 a0_1 a0_2 a0_3 l0_4 = some r) ∧ Aside0 (kq ≤ k) ∧ Aside0 (w'.heap[gb189]? = some (.cells #[.int .i64 a0_0, .int .i64 a0_1, .string a0_2, .int .i64 a0_3, (.slice A0_4 l0_4.length c0_4)] 26 (0, 0))) ∧ Aside0 (Below w.heap.size w w'))
  case atStart => exact ⟨(0), (0), (by first | rfl | (simp; done) | (simp [*]; done)), (by first | rfl | (simp; done) | (simp [*]; done)), H', ⟨Nat.le_refl _⟩, ⟨by (with_reducible repeat (first | refine blk_drewN ?_ _ | refine blk_drew ?_ | refine blk_alloc ?_ _)); exact BK189.out⟩, ⟨by repeat (first | (with_reducible first | exact HB.out | apply below_alloc | apply pw_below_drewN | apply below_drew1 | refine below_set ?_ GE189.out) | exact HB.out)⟩⟩
  case round =>
    clear H'
    try clear c2
    try clear p2
    obtain ⟨x3_1, x4_1, rfl, rfl, HA, HK1, BK189, HB⟩ := hrel
    cases gk with
    | zero => exact absurd HA.out (by simp [witheref9_condDeep.l0])
    | succ k1 =>
      have H := HA.out
      clear HA
      simp only [witheref9_condDeep.l0] at H
      by_cases c3 : x4_1 < (l0_4.length : Int)
      · rw [if_pos c3] at H
        have c3b0 : decide (x4_1 < (l0_4.length : Int)) = true := decide_eq_true c3
        clear c3
        by_cases c4 : 0 ≤ x4_1
        · rw [if_pos c4] at H
          have c4b0 : decide (0 ≤ x4_1) = true := decide_eq_true c4
          clear c4
          replace H := Option.bind_eq_some_iff.mp H
          obtain ⟨t191, A50, H⟩ := H
          replace H : (if t191 > x3_1 then (witheref9_condDeep.l0 k1 t191 (wrap64 (x4_1 + 1)) a0_0 a0_1 a0_2 a0_3 l0_4) else (witheref9_condDeep.l0 k1 x3_1 (wrap64 (x4_1 + 1)) a0_0 a0_1 a0_2 a0_3 l0_4)) = some r := H
          have A5 := Aside0.mk A50
          clear A50
          by_cases c6 : t191 > x3_1
          · rw [if_pos c6] at H
            have c6b0 : decide (x3_1 < t191) = true := decide_eq_true c6
            clear c6
            have H' := Aside0.mk H
            clear H
            have hcz7_0 : wr.cell? ⟨gb189, 0, none⟩ = some (.int .i64 a0_0) := (blk_cell BK189.out 0).trans rfl
            have hcz7_1 : wr.cell? ⟨gb189, 1, none⟩ = some (.int .i64 a0_1) := (blk_cell BK189.out 1).trans rfl
            have hcz7_2 : wr.cell? ⟨gb189, 2, none⟩ = some (.string a0_2) := (blk_cell BK189.out 2).trans rfl
            have hcz7_3 : wr.cell? ⟨gb189, 3, none⟩ = some (.int .i64 a0_3) := (blk_cell BK189.out 3).trans rfl
            have hcz7_4 : wr.cell? ⟨gb189, 4, none⟩ = some (.slice A0_4 l0_4.length c0_4) := (blk_cell BK189.out 4).trans rfl
            have hfz7_0 := blk_frozen BK189.out 0
            have hfz7_1 := blk_frozen BK189.out 1
            have hfz7_2 := blk_frozen BK189.out 2
            have hfz7_3 := blk_frozen BK189.out 3
            have hfz7_4 := blk_frozen BK189.out 4
            have p190 : 0 ≤ (x4_1 : Int) := of_decide_eq_true (by first | (with_reducible assumption) | assumption)
            have q190 : x4_1 < (l0_4.length : Int) := of_decide_eq_true (by first | (with_reducible assumption) | assumption)
            obtain ⟨ad190, A190_4, c190_4, e190, hx190_0, hx190_1, hx190_2, hx190_3, hx190_4, hl190_4, hi190_4⟩ := at_T26 HR0_4.out x4_1 p190 q190
            cases e190
            replace hx190_0 := (HB.out.cell (World.block_lt_of_cell? w _ hx190_0)).trans hx190_0
            replace hx190_1 := (HB.out.cell (World.block_lt_of_cell? w _ hx190_1)).trans hx190_1
            replace hx190_2 := (HB.out.cell (World.block_lt_of_cell? w _ hx190_2)).trans hx190_2
            replace hx190_3 := (HB.out.cell (World.block_lt_of_cell? w _ hx190_3)).trans hx190_3
            replace hx190_4 := (HB.out.cell (World.block_lt_of_cell? w _ hx190_4)).trans hx190_4
            have HR190_4 := Aside0.mk hi190_4
            have HC190_4 := Aside0.mk hl190_4
            clear hi190_4 hl190_4
            replace p190 := eq_true p190
            replace q190 := eq_true q190
            go_wp2_with (first | ((with_reducible refine gate_callee (f := 29) rfl ?_); refine goesL_ (some 18) rfl rfl Try.func29 (by kernel_rfl) rfl #[.agg #[.int .i64 ((rd_T26 l0_4 x4_1).f0), .int .i64 ((rd_T26 l0_4 x4_1).f1), .string ((rd_T26 l0_4 x4_1).f2), .int .i64 ((rd_T26 l0_4 x4_1).f3), .slice A190_4 ((rd_T26 l0_4 x4_1).f4).length c190_4]] rfl (by (try simp only [List.map_toArray, List.map_cons, List.map_nil]); first | done | rfl | (simp only [List.length_drop, List.length_take]; rfl)) ?_; (with_reducible refine (ih k1 (by have := HK1.out; omega) ((rd_T26 l0_4 x4_1).f0) ((rd_T26 l0_4 x4_1).f1) ((rd_T26 l0_4 x4_1).f2) ((rd_T26 l0_4 x4_1).f3) _ _ ((rd_T26 l0_4 x4_1).f4) t191 _ ?side1 ?side2 A5.out).mono ?_); (case side1 => repeat (first | exact (Kd.C_below HR190_4.out HB.out) | (with_reducible refine Kd.C_alloc ?_ _) | (with_reducible refine Kd.C_drewN ?_ _) | (with_reducible refine Kd.C_drew ?_))); (case side2 => exact HC190_4.out); rintro e w8 ⟨rfl, hb⟩; refine ⟨_, rfl, ?_⟩; have n0_ := Aside0.mk (blk_below (g := gb189) (o := .cells #[.int .i64 a0_0, .int .i64 a0_1, .string a0_2, .int .i64 a0_3, .slice (some ad190) l0_4.length c0_4] 26 (0, 0)) (by (with_reducible repeat (first | refine blk_drewN ?_ _ | refine blk_drew ?_ | refine blk_alloc ?_ _)); exact BK189.out) hb); have n1_ := Aside0.mk (below_step (by repeat (first | (with_reducible first | exact HB.out | apply below_alloc | apply pw_below_drewN | apply below_drew1 | refine below_set ?_ GE189.out) | exact HB.out)) hb); clear BK189; clear HB; have BK189 := n0_; have HB := n1_; clear n0_ n1_; (try clear hb); (try clear hb2); (try clear hgn); (try clear hk); (try clear hi)))
            go_roundg k1
            case measure => have := HK1.out; omega
            case rel => exact ⟨(t191), (wrap64 (x4_1 + 1)), (by first | rfl | (simp; done) | (simp [*]; done)), (by first | rfl | (simp; done) | (simp [*]; done)), H', ⟨by have := HK1.out; omega⟩, ⟨by (with_reducible repeat (first | refine blk_drewN ?_ _ | refine blk_drew ?_ | refine blk_alloc ?_ _)); exact BK189.out⟩, ⟨by repeat (first | (with_reducible first | exact HB.out | apply below_alloc | apply pw_below_drewN | apply below_drew1 | refine below_set ?_ GE189.out) | exact HB.out)⟩⟩
          · rw [if_neg c6] at H
            have c6b0 : decide (x3_1 < t191) = false := decide_eq_false c6
            clear c6
            have H' := Aside0.mk H
            clear H
            have hcz9_0 : wr.cell? ⟨gb189, 0, none⟩ = some (.int .i64 a0_0) := (blk_cell BK189.out 0).trans rfl
            have hcz9_1 : wr.cell? ⟨gb189, 1, none⟩ = some (.int .i64 a0_1) := (blk_cell BK189.out 1).trans rfl
            have hcz9_2 : wr.cell? ⟨gb189, 2, none⟩ = some (.string a0_2) := (blk_cell BK189.out 2).trans rfl
            have hcz9_3 : wr.cell? ⟨gb189, 3, none⟩ = some (.int .i64 a0_3) := (blk_cell BK189.out 3).trans rfl
            have hcz9_4 : wr.cell? ⟨gb189, 4, none⟩ = some (.slice A0_4 l0_4.length c0_4) := (blk_cell BK189.out 4).trans rfl
            have hfz9_0 := blk_frozen BK189.out 0
            have hfz9_1 := blk_frozen BK189.out 1
            have hfz9_2 := blk_frozen BK189.out 2
            have hfz9_3 := blk_frozen BK189.out 3
            have hfz9_4 := blk_frozen BK189.out 4
            have p190 : 0 ≤ (x4_1 : Int) := of_decide_eq_true (by first | (with_reducible assumption) | assumption)
            have q190 : x4_1 < (l0_4.length : Int) := of_decide_eq_true (by first | (with_reducible assumption) | assumption)
            obtain ⟨ad190, A190_4, c190_4, e190, hx190_0, hx190_1, hx190_2, hx190_3, hx190_4, hl190_4, hi190_4⟩ := at_T26 HR0_4.out x4_1 p190 q190
            cases e190
            replace hx190_0 := (HB.out.cell (World.block_lt_of_cell? w _ hx190_0)).trans hx190_0
            replace hx190_1 := (HB.out.cell (World.block_lt_of_cell? w _ hx190_1)).trans hx190_1
            replace hx190_2 := (HB.out.cell (World.block_lt_of_cell? w _ hx190_2)).trans hx190_2
            replace hx190_3 := (HB.out.cell (World.block_lt_of_cell? w _ hx190_3)).trans hx190_3
            replace hx190_4 := (HB.out.cell (World.block_lt_of_cell? w _ hx190_4)).trans hx190_4
            have HR190_4 := Aside0.mk hi190_4
            have HC190_4 := Aside0.mk hl190_4
            clear hi190_4 hl190_4
            replace p190 := eq_true p190
            replace q190 := eq_true q190
            go_wp2_with (first | ((with_reducible refine gate_callee (f := 29) rfl ?_); refine goesL_ (some 18) rfl rfl Try.func29 (by kernel_rfl) rfl #[.agg #[.int .i64 ((rd_T26 l0_4 x4_1).f0), .int .i64 ((rd_T26 l0_4 x4_1).f1), .string ((rd_T26 l0_4 x4_1).f2), .int .i64 ((rd_T26 l0_4 x4_1).f3), .slice A190_4 ((rd_T26 l0_4 x4_1).f4).length c190_4]] rfl (by (try simp only [List.map_toArray, List.map_cons, List.map_nil]); first | done | rfl | (simp only [List.length_drop, List.length_take]; rfl)) ?_; (with_reducible refine (ih k1 (by have := HK1.out; omega) ((rd_T26 l0_4 x4_1).f0) ((rd_T26 l0_4 x4_1).f1) ((rd_T26 l0_4 x4_1).f2) ((rd_T26 l0_4 x4_1).f3) _ _ ((rd_T26 l0_4 x4_1).f4) t191 _ ?side1 ?side2 A5.out).mono ?_); (case side1 => repeat (first | exact (Kd.C_below HR190_4.out HB.out) | (with_reducible refine Kd.C_alloc ?_ _) | (with_reducible refine Kd.C_drewN ?_ _) | (with_reducible refine Kd.C_drew ?_))); (case side2 => exact HC190_4.out); rintro e w10 ⟨rfl, hb⟩; refine ⟨_, rfl, ?_⟩; have n0_ := Aside0.mk (blk_below (g := gb189) (o := .cells #[.int .i64 a0_0, .int .i64 a0_1, .string a0_2, .int .i64 a0_3, .slice (some ad190) l0_4.length c0_4] 26 (0, 0)) (by (with_reducible repeat (first | refine blk_drewN ?_ _ | refine blk_drew ?_ | refine blk_alloc ?_ _)); exact BK189.out) hb); have n1_ := Aside0.mk (below_step (by repeat (first | (with_reducible first | exact HB.out | apply below_alloc | apply pw_below_drewN | apply below_drew1 | refine below_set ?_ GE189.out) | exact HB.out)) hb); clear BK189; clear HB; have BK189 := n0_; have HB := n1_; clear n0_ n1_; (try clear hb); (try clear hb2); (try clear hgn); (try clear hk); (try clear hi)))
            go_roundg k1
            case measure => have := HK1.out; omega
            case rel => exact ⟨(x3_1), (wrap64 (x4_1 + 1)), (by first | rfl | (simp; done) | (simp [*]; done)), (by first | rfl | (simp; done) | (simp [*]; done)), H', ⟨by have := HK1.out; omega⟩, ⟨by (with_reducible repeat (first | refine blk_drewN ?_ _ | refine blk_drew ?_ | refine blk_alloc ?_ _)); exact BK189.out⟩, ⟨by repeat (first | (with_reducible first | exact HB.out | apply below_alloc | apply pw_below_drewN | apply below_drew1 | refine below_set ?_ GE189.out) | exact HB.out)⟩⟩
        · rw [if_neg c4] at H
          exact absurd H (by simp)
      · rw [if_neg c3] at H
        have c3b0 : decide (x4_1 < (l0_4.length : Int)) = false := decide_eq_false c3
        clear c3
        obtain rfl := Option.some.inj H
        have hcz11_0 : wr.cell? ⟨gb189, 0, none⟩ = some (.int .i64 a0_0) := (blk_cell BK189.out 0).trans rfl
        have hcz11_1 : wr.cell? ⟨gb189, 1, none⟩ = some (.int .i64 a0_1) := (blk_cell BK189.out 1).trans rfl
        have hcz11_2 : wr.cell? ⟨gb189, 2, none⟩ = some (.string a0_2) := (blk_cell BK189.out 2).trans rfl
        have hcz11_3 : wr.cell? ⟨gb189, 3, none⟩ = some (.int .i64 a0_3) := (blk_cell BK189.out 3).trans rfl
        have hcz11_4 : wr.cell? ⟨gb189, 4, none⟩ = some (.slice A0_4 l0_4.length c0_4) := (blk_cell BK189.out 4).trans rfl
        have hfz11_0 := blk_frozen BK189.out 0
        have hfz11_1 := blk_frozen BK189.out 1
        have hfz11_2 := blk_frozen BK189.out 2
        have hfz11_3 := blk_frozen BK189.out 3
        have hfz11_4 := blk_frozen BK189.out 4
        go_wp2
        go_ret
        exact ⟨by first | rfl | (simp [errW_none, errW_some] <;> rfl) | (simp [*, errW_none, errW_some] <;> rfl), by repeat (first | (with_reducible first | exact HB.out | apply below_alloc | apply pw_below_drewN | apply below_drew1 | refine below_set ?_ GE189.out) | exact HB.out)⟩
end Go.Proofs.Ytlhbnbckanmaiaa.PC1
