/- A text of a claim: it proves what its last theorem states, for every input that the given row speaks of; conditions of ours: none. Written by this claim's own program (wip/tools/xprint.py) over the kit's printer. -/
import Derived.Test.YtlhbnbckanmaiaaPC1x0I
import Derived.Test.YtlhbnbckanmaiaaPC1x11I
namespace Go.Proofs.Ytlhbnbckanmaiaa.PC1
open Go.RowKit Go.Proofs.YtlhbnbckanmaiaaW.PrintWords Go.Proofs.YtlhbnbckanmaiaaW.PrintLast Go.Proofs.YtlhbnbckanmaiaaW.PrintMore
attribute [local go_sem] max2_int min2_int max_two min_two max_three min_three max_four min_four   -- for this text's walks alone
set_option linter.unusedVariables false
set_option linter.unusedSimpArgs false
/-! ### withemade_Maker_Pick: function 37 -/
def withemade_Maker_Pick.f (s0_0 : List Int) (s0_1 : Int) (a1 : Int) : Option (Int × Int) := if s0_1 ≥ (s0_0.length : Int) then (some (0, s0_1)) else (if a1 < 1 then (some (0, s0_1)) else (if 0 ≤ (wrap64 ((wrap64 (s0_1 + 1)) - 1)) then (if (wrap64 ((wrap64 (s0_1 + 1)) - 1)) < (s0_0.length : Int) then (if a1 = 0 then (none) else (some (Int.tmod (wrap64 (rd s0_0 (wrap64 ((wrap64 (s0_1 + 1)) - 1)))) a1, wrap64 (s0_1 + 1)))) else (none)) else (none)))
set_option maxHeartbeats 8000000 in
set_option maxRecDepth 100000 in
theorem withemade_Maker_Pick.calls (g : Nat) (s0_0 : List Int) (s0_1 : Int) (a1 : Int) (r1 : Int) (r2 : Int) (w0 w : World) (hI : IsS91 w0 w g s0_0 s0_1) (hB : Below w0.heap.size w0 w) (h : withemade_Maker_Pick.f s0_0 s0_1 a1 = some (r1, r2)) :
    Calls Try.prog 37 #[.pointer (some ⟨g, 0, none⟩), .int .i64 a1] w fun e w' => e = .returned (.int .i64 r1) ∧ IsS91 w0 w' g s0_0 r2 ∧ Below w0.heap.size w0 w' ∧ KeepBut w w' g none := by
  have HI0 := Aside0.mk hI
  have HK := Aside0.mk (KeepBut.refl w g none)
  have HL := Aside0.mk hB.size
  clear hI
  have HW0 := Aside0.mk hB.size
  have HB := Aside0.mk hB
  clear hB
  have H : (if s0_1 ≥ (s0_0.length : Int) then (some (0, s0_1)) else (if a1 < 1 then (some (0, s0_1)) else (if 0 ≤ (wrap64 ((wrap64 (s0_1 + 1)) - 1)) then (if (wrap64 ((wrap64 (s0_1 + 1)) - 1)) < (s0_0.length : Int) then (if a1 = 0 then (none) else (some (Int.tmod (wrap64 (rd s0_0 (wrap64 ((wrap64 (s0_1 + 1)) - 1)))) a1, wrap64 (s0_1 + 1)))) else (none)) else (none)))) = some (r1, r2) := h
  clear h
  by_cases c3 : s0_1 ≥ (s0_0.length : Int)
  · rw [if_pos c3] at H
    have c3b0 : decide ((s0_0.length : Int) ≤ s0_1) = true := decide_eq_true c3
    clear c3
    simp only [Option.some.injEq, Prod.mk.injEq] at H
    obtain ⟨rfl, rfl⟩ := H
    obtain ⟨ASz4_0, cSz4_0, HGz4, hgz4, HSz4_0⟩ := HI0.out
    have hcz4_0 := cellS91_0 HGz4
    have hcz4_1 := cellS91_1 HGz4
    have hfz4_1 := blk_frozen HGz4 1
    clear HGz4 hgz4
    go_enter Try.func37, Try.ntmps37
    go_wp2
    repeat (go_quiet (fail); try go_wp2)
    go_ret
    exact ⟨by first | rfl | (simp [errW_none, errW_some] <;> rfl) | (simp [*, errW_none, errW_some] <;> rfl), by repeat (first | (with_reducible first | exact HI0.out | apply IsS91.alloc | apply IsS91.drewN | apply IsS91.drew | apply IsS91.set_1) | exact HI0.out), by repeat (first | (with_reducible first | exact HB.out | apply below_alloc | apply pw_below_drewN | apply below_drew1 | refine below_set ?_ (IsS91.ge HI0.out)) | exact HB.out), by repeat (first | (with_reducible first | exact HK.out | apply KeepBut.set_ | apply keep_drewN | apply keep_drew | apply keep_alloc) | exact HK.out)⟩
  · rw [if_neg c3] at H
    have c3b0 : decide ((s0_0.length : Int) ≤ s0_1) = false := decide_eq_false c3
    clear c3
    by_cases c5 : a1 < 1
    · rw [if_pos c5] at H
      have c5b0 : decide (a1 < 1) = true := decide_eq_true c5
      clear c5
      simp only [Option.some.injEq, Prod.mk.injEq] at H
      obtain ⟨rfl, rfl⟩ := H
      obtain ⟨ASz6_0, cSz6_0, HGz6, hgz6, HSz6_0⟩ := HI0.out
      have hcz6_0 := cellS91_0 HGz6
      have hcz6_1 := cellS91_1 HGz6
      have hfz6_1 := blk_frozen HGz6 1
      clear HGz6 hgz6
      go_enter Try.func37, Try.ntmps37
      go_wp2
      repeat (go_quiet (fail); try go_wp2)
      go_ret
      exact ⟨by first | rfl | (simp [errW_none, errW_some] <;> rfl) | (simp [*, errW_none, errW_some] <;> rfl), by repeat (first | (with_reducible first | exact HI0.out | apply IsS91.alloc | apply IsS91.drewN | apply IsS91.drew | apply IsS91.set_1) | exact HI0.out), by repeat (first | (with_reducible first | exact HB.out | apply below_alloc | apply pw_below_drewN | apply below_drew1 | refine below_set ?_ (IsS91.ge HI0.out)) | exact HB.out), by repeat (first | (with_reducible first | exact HK.out | apply KeepBut.set_ | apply keep_drewN | apply keep_drew | apply keep_alloc) | exact HK.out)⟩
    · rw [if_neg c5] at H
      have c5b0 : decide (a1 < 1) = false := decide_eq_false c5
      clear c5
      obtain ⟨ji7, hji7⟩ : ∃ j_ : Int, (wrap64 ((wrap64 (s0_1 + 1)) - 1)) = j_ := ⟨_, rfl⟩
      replace H : (if 0 ≤ (ji7) then (if (ji7) < (s0_0.length : Int) then (if a1 = 0 then (none) else (some (Int.tmod (wrap64 (rd s0_0 (ji7))) a1, wrap64 (s0_1 + 1)))) else (none)) else (none)) = some (r1, r2) := by first | (rw [hji7] at H; exact H) | (simp only [hji7] at H ⊢; exact H)
      have hji7w : (IntKind.i64.wrap ((wrap64 (s0_1 + 1)) - 1)) = ji7 := (i64_w _).trans hji7
      by_cases c8 : 0 ≤ (ji7)
      · rw [if_pos c8] at H
        have c8b0 : decide (0 ≤ (ji7)) = true := decide_eq_true c8
        clear c8
        by_cases c9 : (ji7) < (s0_0.length : Int)
        · rw [if_pos c9] at H
          have c9b0 : decide ((ji7) < (s0_0.length : Int)) = true := decide_eq_true c9
          clear c9
          by_cases c10 : a1 = 0
          · rw [if_pos c10] at H
            exact absurd H (by simp)
          · rw [if_neg c10] at H
            have c10b0 : (a1 == 0) = false := beq_eq_false_iff_ne.mpr c10
            have c10b1 : (a1 != 0) = true := bne_iff_ne.mpr c10
            simp only [Option.some.injEq, Prod.mk.injEq] at H
            obtain ⟨rfl, rfl⟩ := H
            obtain ⟨ASz11_0, cSz11_0, HGz11, hgz11, HSz11_0⟩ := HI0.out
            have hcz11_0 := cellS91_0 HGz11
            have hcz11_1 := cellS91_1 HGz11
            have hfz11_1 := blk_frozen HGz11 1
            clear HGz11 hgz11
            have p253 : 0 ≤ ((ji7) : Int) := of_decide_eq_true (by first | (with_reducible assumption) | assumption)
            have q253 : (ji7) < (s0_0.length : Int) := of_decide_eq_true (by first | (with_reducible assumption) | assumption)
            obtain ⟨ad253, e253, hx253_0⟩ := Kd.at_int HSz11_0 (ji7) p253 q253
            cases e253
            have hn253_0 : ad253.block ≠ g := Nat.ne_of_lt (Nat.lt_of_lt_of_le (by have := World.block_lt_of_cell? _ _ hx253_0; first | rwa [add_block] at this | exact this) (IsS91.ge HI0.out))
            replace hx253_0 := pw_cell_below HB.out hx253_0
            replace hx253_0 := (cell_far (p := ⟨g, 1, none⟩) (by first | (rw [add_block]; exact hn253_0) | (show (Addr.add _ _).block ≠ _; rw [add_block]; exact hn253_0) | exact hn253_0) (.int .i64 (wrap64 (s0_1 + 1)))).trans hx253_0
            (try have hy253_0 := fun (n_ : Nat) => (show (((w.drewN n_).setCell ⟨g, 1, none⟩ (.int .i64 (wrap64 (s0_1 + 1))))).cell? _ = some _ from hx253_0))
            clear hn253_0
            replace p253 := eq_true p253
            replace q253 := eq_true q253
            go_enter Try.func37, Try.ntmps37
            go_wp2
            repeat (go_quiet (fail); try go_wp2)
            go_ret
            exact ⟨by first | rfl | (simp [errW_none, errW_some] <;> rfl) | (simp only [← hji7]; first | rfl | (simp [errW_none, errW_some] <;> rfl)) | (simp [*, errW_none, errW_some] <;> rfl), by repeat (first | (with_reducible first | exact HI0.out | apply IsS91.alloc | apply IsS91.drewN | apply IsS91.drew | apply IsS91.set_1) | exact HI0.out), by repeat (first | (with_reducible first | exact HB.out | apply below_alloc | apply pw_below_drewN | apply below_drew1 | refine below_set ?_ (IsS91.ge HI0.out)) | exact HB.out), by repeat (first | (with_reducible first | exact HK.out | apply KeepBut.set_ | apply keep_drewN | apply keep_drew | apply keep_alloc) | exact HK.out)⟩
        · rw [if_neg c9] at H
          exact absurd H (by simp)
      · rw [if_neg c8] at H
        exact absurd H (by simp)
/-! ### withemade_Loc: function 64 -/
def withemade_Loc.f (a0 : Int) : Option (ByteArray) := if 0 ≤ (Int.tmod a0 4) then (if (Int.tmod a0 4) ≤ (wrap64 ((Int.tmod a0 4) + 1)) then (if (wrap64 ((Int.tmod a0 4) + 1)) ≤ 4 then (some ((⟨#[120, 121, 122, 119]⟩ : ByteArray).extract ((Int.tmod a0 4) : Int).toNat ((wrap64 ((Int.tmod a0 4) + 1)) : Int).toNat)) else (none)) else (none)) else (none)
set_option maxHeartbeats 8000000 in
set_option maxRecDepth 100000 in
theorem withemade_Loc.calls (a0 : Int) (r : ByteArray) (w : World) (h : withemade_Loc.f a0 = some r) :
    Calls Try.prog 64 #[.int .i64 a0] w fun e w' => e = .returned (.string r) ∧ Drawn0 w w' := by
  have H : (if 0 ≤ (Int.tmod a0 4) then (if (Int.tmod a0 4) ≤ (wrap64 ((Int.tmod a0 4) + 1)) then (if (wrap64 ((Int.tmod a0 4) + 1)) ≤ 4 then (some ((⟨#[120, 121, 122, 119]⟩ : ByteArray).extract ((Int.tmod a0 4) : Int).toNat ((wrap64 ((Int.tmod a0 4) + 1)) : Int).toNat)) else (none)) else (none)) else (none)) = some r := h
  clear h
  obtain ⟨ji2, hji2⟩ : ∃ j_ : Int, (Int.tmod a0 4) = j_ := ⟨_, rfl⟩
  replace H : (if 0 ≤ (ji2) then (if (ji2) ≤ (wrap64 ((ji2) + 1)) then (if (wrap64 ((ji2) + 1)) ≤ 4 then (some ((⟨#[120, 121, 122, 119]⟩ : ByteArray).extract ((ji2) : Int).toNat ((wrap64 ((ji2) + 1)) : Int).toNat)) else (none)) else (none)) else (none)) = some r := by first | (rw [hji2] at H; exact H) | (simp only [hji2] at H ⊢; exact H)
  by_cases c3 : 0 ≤ (ji2)
  · rw [if_pos c3] at H
    have c3b0 := eq_true c3
    have c3b1 : decide (0 ≤ (ji2)) = true := decide_eq_true c3
    clear c3
    by_cases c4 : (ji2) ≤ (wrap64 ((ji2) + 1))
    · rw [if_pos c4] at H
      have c4b0 := eq_true c4
      have c4b1 : decide ((ji2) ≤ (wrap64 ((ji2) + 1))) = true := decide_eq_true c4
      by_cases c5 : (wrap64 ((ji2) + 1)) ≤ 4
      · rw [if_pos c5] at H
        have c5b0 := eq_true c5
        have c5b1 : decide ((wrap64 ((ji2) + 1)) ≤ 4) = true := decide_eq_true c5
        obtain rfl := Option.some.inj H
        go_enter Try.func64, Try.ntmps64
        go_wp2
        go_ret
        exact ⟨by first | rfl | (simp; done) | (simp only [← hji2] <;> (first | rfl | simp)) | (simp [*]; done), by repeat (first | exact Drawn0.refl _ | apply Drawn0.step)⟩
      · rw [if_neg c5] at H
        exact absurd H (by simp)
    · rw [if_neg c4] at H
      exact absurd H (by simp)
  · rw [if_neg c3] at H
    exact absurd H (by simp)
/-! ### withemade_Reg: function 85 -/
def withemade_Reg.f (a0 : Int) : Option (ByteArray) := if 0 ≤ (Int.tmod a0 4) then (if (Int.tmod a0 4) ≤ (wrap64 ((Int.tmod a0 4) + 1)) then (if (wrap64 ((Int.tmod a0 4) + 1)) ≤ 4 then (some ((⟨#[97, 98, 99, 100]⟩ : ByteArray).extract ((Int.tmod a0 4) : Int).toNat ((wrap64 ((Int.tmod a0 4) + 1)) : Int).toNat)) else (none)) else (none)) else (none)
set_option maxHeartbeats 8000000 in
set_option maxRecDepth 100000 in
theorem withemade_Reg.calls (a0 : Int) (r : ByteArray) (w : World) (h : withemade_Reg.f a0 = some r) :
    Calls Try.prog 85 #[.int .i64 a0] w fun e w' => e = .returned (.string r) ∧ Drawn0 w w' := by
  have H : (if 0 ≤ (Int.tmod a0 4) then (if (Int.tmod a0 4) ≤ (wrap64 ((Int.tmod a0 4) + 1)) then (if (wrap64 ((Int.tmod a0 4) + 1)) ≤ 4 then (some ((⟨#[97, 98, 99, 100]⟩ : ByteArray).extract ((Int.tmod a0 4) : Int).toNat ((wrap64 ((Int.tmod a0 4) + 1)) : Int).toNat)) else (none)) else (none)) else (none)) = some r := h
  clear h
  obtain ⟨ji2, hji2⟩ : ∃ j_ : Int, (Int.tmod a0 4) = j_ := ⟨_, rfl⟩
  replace H : (if 0 ≤ (ji2) then (if (ji2) ≤ (wrap64 ((ji2) + 1)) then (if (wrap64 ((ji2) + 1)) ≤ 4 then (some ((⟨#[97, 98, 99, 100]⟩ : ByteArray).extract ((ji2) : Int).toNat ((wrap64 ((ji2) + 1)) : Int).toNat)) else (none)) else (none)) else (none)) = some r := by first | (rw [hji2] at H; exact H) | (simp only [hji2] at H ⊢; exact H)
  by_cases c3 : 0 ≤ (ji2)
  · rw [if_pos c3] at H
    have c3b0 := eq_true c3
    have c3b1 : decide (0 ≤ (ji2)) = true := decide_eq_true c3
    clear c3
    by_cases c4 : (ji2) ≤ (wrap64 ((ji2) + 1))
    · rw [if_pos c4] at H
      have c4b0 := eq_true c4
      have c4b1 : decide ((ji2) ≤ (wrap64 ((ji2) + 1))) = true := decide_eq_true c4
      by_cases c5 : (wrap64 ((ji2) + 1)) ≤ 4
      · rw [if_pos c5] at H
        have c5b0 := eq_true c5
        have c5b1 : decide ((wrap64 ((ji2) + 1)) ≤ 4) = true := decide_eq_true c5
        obtain rfl := Option.some.inj H
        go_enter Try.func85, Try.ntmps85
        go_wp2
        go_ret
        exact ⟨by first | rfl | (simp; done) | (simp only [← hji2] <;> (first | rfl | simp)) | (simp [*]; done), by repeat (first | exact Drawn0.refl _ | apply Drawn0.step)⟩
      · rw [if_neg c5] at H
        exact absurd H (by simp)
    · rw [if_neg c4] at H
      exact absurd H (by simp)
  · rw [if_neg c3] at H
    exact absurd H (by simp)
/-! ### withemade_Maker_mode: function 86 -/
def withemade_Maker_mode.f (s0_0 : List Int) (s0_1 : Int) (a1_0 : Int) (a1_1 : Int) (a1_2 : Bool) (a1_3 : Bool) (l2 : List Int) : Option (Int × Int) := if a1_2 = true then (some (4, s0_1)) else ((withemade_Maker_Pick.f s0_0 s0_1 (l2.length : Int)).bind fun bt255 => (if 0 ≤ bt255.1 then (if bt255.1 < (l2.length : Int) then (if a1_3 = true then (some (0, bt255.2)) else (some (rd l2 bt255.1, bt255.2))) else (none)) else (none)))
set_option maxHeartbeats 8000000 in
set_option maxRecDepth 100000 in
theorem withemade_Maker_mode.calls (g : Nat) (s0_0 : List Int) (s0_1 : Int) (a1_0 : Int) (a1_1 : Int) (a1_2 : Bool) (a1_3 : Bool) (A2 : Option Addr) (c2 : Nat) (l2 : List Int) (r1 : Int) (r2 : Int) (w0 w : World) (hI : IsS91 w0 w g s0_0 s0_1) (hB : Below w0.heap.size w0 w) (hr2 : Kd.C (Kd.int .i64) w A2 l2.length l2) (hc2 : l2.length ≤ c2) (hf2 : ∀ ad, A2 = some ad → 0 < l2.length → ad.block ≠ g) (h : withemade_Maker_mode.f s0_0 s0_1 a1_0 a1_1 a1_2 a1_3 l2 = some (r1, r2)) :
    Calls Try.prog 86 #[.pointer (some ⟨g, 0, none⟩), .agg #[.int .i64 a1_0, .int .i64 a1_1, .bool a1_2, .bool a1_3], .slice A2 l2.length c2] w fun e w' => e = .returned (.int .i64 r1) ∧ IsS91 w0 w' g s0_0 r2 ∧ Below w0.heap.size w0 w' ∧ KeepBut w w' g none := by
  have hu94 := Try.underlying94
  have HR2 := Aside0.mk hr2
  have HC2 := Aside0.mk hc2
  clear hr2 hc2
  have HI0 := Aside0.mk hI
  have HK := Aside0.mk (KeepBut.refl w g none)
  have HL := Aside0.mk hB.size
  clear hI
  have HW0 := Aside0.mk hB.size
  have HB := Aside0.mk hB
  clear hB
  have H : (if a1_2 = true then (some (4, s0_1)) else ((withemade_Maker_Pick.f s0_0 s0_1 (l2.length : Int)).bind fun bt255 => (if 0 ≤ bt255.1 then (if bt255.1 < (l2.length : Int) then (if a1_3 = true then (some (0, bt255.2)) else (some (rd l2 bt255.1, bt255.2))) else (none)) else (none)))) = some (r1, r2) := h
  clear h
  by_cases c4 : a1_2 = true
  · subst c4
    have H1 : (some (4, s0_1)) = some (r1, r2) := by rw [if_pos rfl] at H; exact H
    clear H
    have H := H1
    clear H1
    simp only [Option.some.injEq, Prod.mk.injEq] at H
    obtain ⟨rfl, rfl⟩ := H
    go_enter Try.func86, Try.ntmps86
    go_wp2_with (first | ((with_reducible refine gate_dst (N := 4) rfl ?_); refine box_event ?hg (N := 4) ?hd (cs := #[.int .i64 a1_0, .int .i64 a1_1, .bool true, .bool a1_3]) (t := 94) ?hr ?_; (case hd => rfl); (case hg => rfl); (case hr => first | (go_simp; done) | (go_simp; rfl)); intro gb254 hg w5 hbox hb; have n0_ := Aside0.mk (IsS91.below (by repeat (first | (with_reducible first | exact HI0.out | apply IsS91.alloc | apply IsS91.drewN | apply IsS91.drew | apply IsS91.set_1) | exact HI0.out)) hb); have n1_ := Aside0.mk (KeepBut.trans (by repeat (first | (with_reducible first | exact HK.out | apply KeepBut.set_ | apply keep_drewN | apply keep_drew | apply keep_alloc) | exact HK.out)) (KeepBut.of_below hb g none) (.inl rfl)); have n2_ := Aside0.mk (below_step (by repeat (first | (with_reducible first | exact HB.out | apply below_alloc | apply pw_below_drewN | apply below_drew1 | refine below_set ?_ (IsS91.ge HI0.out)) | exact HB.out)) hb); have n3_ := Aside0.mk (hbox); have n4_ := Aside0.mk ((by rw [hg]; exact (keep_size (w := w) (g := g) (row := none) (by repeat (first | (with_reducible first | exact HK.out | apply KeepBut.set_ | apply keep_drewN | apply keep_drew | apply keep_alloc) | exact HK.out))) : w.heap.size ≤ gb254)); have n5_ := Aside0.mk ((Nat.le_trans HW0.out (by rw [hg]; exact (keep_size (w := w) (g := g) (row := none) (by repeat (first | (with_reducible first | exact HK.out | apply KeepBut.set_ | apply keep_drewN | apply keep_drew | apply keep_alloc) | exact HK.out))) : w.heap.size ≤ gb254) : w0.heap.size ≤ gb254)); have n6_ := Aside0.mk ((by rw [hg]; exact Nat.ne_of_lt (IsS91.lt (show IsS91 w0 _ g s0_0 s0_1 from by repeat (first | (with_reducible first | exact HI0.out | apply IsS91.alloc | apply IsS91.drewN | apply IsS91.drew | apply IsS91.set_1) | exact HI0.out))) : g ≠ gb254)); have n7_ := Aside0.mk ((by rw [hg]; exact Nat.ne_of_gt (IsS91.lt (show IsS91 w0 _ g s0_0 s0_1 from by repeat (first | (with_reducible first | exact HI0.out | apply IsS91.alloc | apply IsS91.drewN | apply IsS91.drew | apply IsS91.set_1) | exact HI0.out))) : gb254 ≠ g)); clear HI0; clear HK; clear HB; have HI0 := n0_; have HK := n1_; have HB := n2_; have BK254 := n3_; have GW254 := n4_; have GE254 := n5_; have NB0_254 := n6_; have NB254_0 := n7_; clear n0_ n1_ n2_ n3_ n4_ n5_ n6_ n7_; clear hb hbox hg; have hnb6 := NB254_0.out; have hnc6 := NB0_254.out; have hcz7_0 : w5.cell? ⟨gb254, 0, none⟩ = some (.int .i64 a1_0) := (blk_cell BK254.out 0).trans rfl; have hcz7_1 : w5.cell? ⟨gb254, 1, none⟩ = some (.int .i64 a1_1) := (blk_cell BK254.out 1).trans rfl; have hcz7_2 : w5.cell? ⟨gb254, 2, none⟩ = some (.bool true) := (blk_cell BK254.out 2).trans rfl; have hcz7_3 : w5.cell? ⟨gb254, 3, none⟩ = some (.bool a1_3) := (blk_cell BK254.out 3).trans rfl; have hfz7_0 := blk_frozen BK254.out 0; have hfz7_1 := blk_frozen BK254.out 1; have hfz7_2 := blk_frozen BK254.out 2; have hfz7_3 := blk_frozen BK254.out 3))
    go_ret
    exact ⟨by first | rfl | (simp [errW_none, errW_some] <;> rfl) | (simp [*, errW_none, errW_some] <;> rfl), by repeat (first | (with_reducible first | exact HI0.out | apply IsS91.alloc | apply IsS91.drewN | apply IsS91.drew | apply IsS91.set_1 | refine IsS91.far ?_ NB0_254.out _) | exact HI0.out), by repeat (first | (with_reducible first | exact HB.out | apply below_alloc | apply pw_below_drewN | apply below_drew1 | refine below_set ?_ (IsS91.ge HI0.out) | refine below_set ?_ GE254.out) | exact HB.out), by repeat (first | (with_reducible first | exact HK.out | apply KeepBut.set_ | apply keep_drewN | apply keep_drew | apply keep_alloc | refine keep_far ?_ GW254.out _) | exact HK.out)⟩
  · replace c4 := Bool.eq_false_iff.mpr c4
    subst c4
    have H1 : ((withemade_Maker_Pick.f s0_0 s0_1 (l2.length : Int)).bind fun bt255 => (if 0 ≤ bt255.1 then (if bt255.1 < (l2.length : Int) then (if a1_3 = true then (some (0, bt255.2)) else (some (rd l2 bt255.1, bt255.2))) else (none)) else (none))) = some (r1, r2) := by rw [if_neg (show ¬ (false = true) by decide)] at H; exact H
    clear H
    have H := H1
    clear H1
    replace H := Option.bind_eq_some_iff.mp H
    obtain ⟨⟨t255, t256⟩, A80, H⟩ := H
    replace H : (if 0 ≤ t255 then (if t255 < (l2.length : Int) then (if a1_3 = true then (some (0, t256)) else (some (rd l2 t255, t256))) else (none)) else (none)) = some (r1, r2) := H
    have A8 := Aside0.mk A80
    clear A80
    by_cases c9 : 0 ≤ t255
    · rw [if_pos c9] at H
      have c9b0 : decide (0 ≤ t255) = true := decide_eq_true c9
      clear c9
      by_cases c10 : t255 < (l2.length : Int)
      · rw [if_pos c10] at H
        have c10b0 : decide (t255 < (l2.length : Int)) = true := decide_eq_true c10
        clear c10
        by_cases c11 : a1_3 = true
        · subst c11
          have H1 : (some (0, t256)) = some (r1, r2) := by rw [if_pos rfl] at H; exact H
          clear H
          have H := H1
          clear H1
          simp only [Option.some.injEq, Prod.mk.injEq] at H
          obtain ⟨rfl, rfl⟩ := H
          go_enter Try.func86, Try.ntmps86
          go_wp2_with (first | ((with_reducible refine gate_dst (N := 4) rfl ?_); refine box_event ?hg (N := 4) ?hd (cs := #[.int .i64 a1_0, .int .i64 a1_1, .bool false, .bool true]) (t := 94) ?hr ?_; (case hd => rfl); (case hg => rfl); (case hr => first | (go_simp; done) | (go_simp; rfl)); intro gb254 hg w12 hbox hb; have n0_ := Aside0.mk (IsS91.below (by repeat (first | (with_reducible first | exact HI0.out | apply IsS91.alloc | apply IsS91.drewN | apply IsS91.drew | apply IsS91.set_1) | exact HI0.out)) hb); have n1_ := Aside0.mk (KeepBut.trans (by repeat (first | (with_reducible first | exact HK.out | apply KeepBut.set_ | apply keep_drewN | apply keep_drew | apply keep_alloc) | exact HK.out)) (KeepBut.of_below hb g none) (.inl rfl)); have n2_ := Aside0.mk (below_step (by repeat (first | (with_reducible first | exact HB.out | apply below_alloc | apply pw_below_drewN | apply below_drew1 | refine below_set ?_ (IsS91.ge HI0.out)) | exact HB.out)) hb); have n3_ := Aside0.mk (hbox); have n4_ := Aside0.mk ((by rw [hg]; exact (keep_size (w := w) (g := g) (row := none) (by repeat (first | (with_reducible first | exact HK.out | apply KeepBut.set_ | apply keep_drewN | apply keep_drew | apply keep_alloc) | exact HK.out))) : w.heap.size ≤ gb254)); have n5_ := Aside0.mk ((Nat.le_trans HW0.out (by rw [hg]; exact (keep_size (w := w) (g := g) (row := none) (by repeat (first | (with_reducible first | exact HK.out | apply KeepBut.set_ | apply keep_drewN | apply keep_drew | apply keep_alloc) | exact HK.out))) : w.heap.size ≤ gb254) : w0.heap.size ≤ gb254)); have n6_ := Aside0.mk ((by rw [hg]; exact Nat.ne_of_lt (IsS91.lt (show IsS91 w0 _ g s0_0 s0_1 from by repeat (first | (with_reducible first | exact HI0.out | apply IsS91.alloc | apply IsS91.drewN | apply IsS91.drew | apply IsS91.set_1) | exact HI0.out))) : g ≠ gb254)); have n7_ := Aside0.mk ((by rw [hg]; exact Nat.ne_of_gt (IsS91.lt (show IsS91 w0 _ g s0_0 s0_1 from by repeat (first | (with_reducible first | exact HI0.out | apply IsS91.alloc | apply IsS91.drewN | apply IsS91.drew | apply IsS91.set_1) | exact HI0.out))) : gb254 ≠ g)); clear HI0; clear HK; clear HB; have HI0 := n0_; have HK := n1_; have HB := n2_; have BK254 := n3_; have GW254 := n4_; have GE254 := n5_; have NB0_254 := n6_; have NB254_0 := n7_; clear n0_ n1_ n2_ n3_ n4_ n5_ n6_ n7_; clear hb hbox hg; have hnb13 := NB254_0.out; have hnc13 := NB0_254.out; have hcz14_0 : w12.cell? ⟨gb254, 0, none⟩ = some (.int .i64 a1_0) := (blk_cell BK254.out 0).trans rfl; have hcz14_1 : w12.cell? ⟨gb254, 1, none⟩ = some (.int .i64 a1_1) := (blk_cell BK254.out 1).trans rfl; have hcz14_2 : w12.cell? ⟨gb254, 2, none⟩ = some (.bool false) := (blk_cell BK254.out 2).trans rfl; have hcz14_3 : w12.cell? ⟨gb254, 3, none⟩ = some (.bool true) := (blk_cell BK254.out 3).trans rfl; have hfz14_0 := blk_frozen BK254.out 0; have hfz14_1 := blk_frozen BK254.out 1; have hfz14_2 := blk_frozen BK254.out 2; have hfz14_3 := blk_frozen BK254.out 3) | ((with_reducible refine gate_callee (f := 37) rfl ?_); refine goesL_ (some 14) rfl rfl Try.func37 (by kernel_rfl) rfl #[.pointer (some ⟨g, 0, none⟩), .int .i64 (l2.length : Int)] rfl (by (try simp only [List.map_toArray, List.map_cons, List.map_nil]); first | done | rfl | (simp only [List.length_drop, List.length_take]; rfl)) ?_; (with_reducible refine (withemade_Maker_Pick.calls g s0_0 s0_1 (l2.length : Int) t255 t256 w0 _ ?side1 ?side2 A8.out).mono ?_); (case side1 => repeat (first | (with_reducible first | exact HI0.out | apply IsS91.alloc | apply IsS91.drewN | apply IsS91.drew | apply IsS91.set_1 | refine IsS91.far ?_ NB0_254.out _) | exact HI0.out)); (case side2 => repeat (first | (with_reducible first | exact HB.out | apply below_alloc | apply pw_below_drewN | apply below_drew1 | refine below_set ?_ (IsS91.ge HI0.out) | refine below_set ?_ GE254.out) | exact HB.out)); rintro e w15 ⟨rfl, hi, hb, hk⟩; refine ⟨_, rfl, ?_⟩; have n0_ := Aside0.mk (KeepBut.blk hk (g' := gb254) (o := .cells #[.int .i64 a1_0, .int .i64 a1_1, .bool false, .bool true] 94 (0, 0)) (by (with_reducible repeat (first | refine blk_drewN ?_ _ | refine blk_drew ?_ | refine blk_alloc ?_ _)); exact BK254.out) NB254_0.out (by simp)); have n1_ := Aside0.mk (KeepBut.trans (by repeat (first | (with_reducible first | exact HK.out | apply KeepBut.set_ | apply keep_drewN | apply keep_drew | apply keep_alloc | refine keep_far ?_ GW254.out _) | exact HK.out)) hk (.inl rfl)); have n2_ := Aside0.mk (hb); have n3_ := Aside0.mk (hi); clear BK254; clear HK; clear HB; clear HI0; have BK254 := n0_; have HK := n1_; have HB := n2_; have HI0 := n3_; clear n0_ n1_ n2_ n3_; (try clear hb); (try clear hb2); (try clear hgn); (try clear hk); (try clear hi); have p257 : 0 ≤ (t255 : Int) := of_decide_eq_true (by first | (with_reducible assumption) | assumption); have q257 : t255 < (l2.length : Int) := of_decide_eq_true (by first | (with_reducible assumption) | assumption); obtain ⟨ad257, e257, hx257_0⟩ := Kd.at_int HR2.out t255 p257 q257; cases e257; replace hx257_0 := keep_cell HK.out hx257_0 (by first | (rw [add_block]; exact hf2 _ rfl (by omega)) | exact hf2 _ rfl (by omega) | exact hf2 ad257 rfl (by omega)); replace p257 := eq_true p257; replace q257 := eq_true q257; have hcz16_0 : w15.cell? ⟨gb254, 0, none⟩ = some (.int .i64 a1_0) := (blk_cell BK254.out 0).trans rfl; have hcz16_1 : w15.cell? ⟨gb254, 1, none⟩ = some (.int .i64 a1_1) := (blk_cell BK254.out 1).trans rfl; have hcz16_2 : w15.cell? ⟨gb254, 2, none⟩ = some (.bool false) := (blk_cell BK254.out 2).trans rfl; have hcz16_3 : w15.cell? ⟨gb254, 3, none⟩ = some (.bool true) := (blk_cell BK254.out 3).trans rfl; have hfz16_0 := blk_frozen BK254.out 0; have hfz16_1 := blk_frozen BK254.out 1; have hfz16_2 := blk_frozen BK254.out 2; have hfz16_3 := blk_frozen BK254.out 3))
          go_ret
          exact ⟨by first | rfl | (simp [errW_none, errW_some] <;> rfl) | (simp [*, errW_none, errW_some] <;> rfl), by repeat (first | (with_reducible first | exact HI0.out | apply IsS91.alloc | apply IsS91.drewN | apply IsS91.drew | apply IsS91.set_1 | refine IsS91.far ?_ NB0_254.out _) | exact HI0.out), by repeat (first | (with_reducible first | exact HB.out | apply below_alloc | apply pw_below_drewN | apply below_drew1 | refine below_set ?_ (IsS91.ge HI0.out) | refine below_set ?_ GE254.out) | exact HB.out), by repeat (first | (with_reducible first | exact HK.out | apply KeepBut.set_ | apply keep_drewN | apply keep_drew | apply keep_alloc | refine keep_far ?_ GW254.out _) | exact HK.out)⟩
        · replace c11 := Bool.eq_false_iff.mpr c11
          subst c11
          have H1 : (some (rd l2 t255, t256)) = some (r1, r2) := by rw [if_neg (show ¬ (false = true) by decide)] at H; exact H
          clear H
          have H := H1
          clear H1
          simp only [Option.some.injEq, Prod.mk.injEq] at H
          obtain ⟨rfl, rfl⟩ := H
          go_enter Try.func86, Try.ntmps86
          go_wp2_with (first | ((with_reducible refine gate_dst (N := 4) rfl ?_); refine box_event ?hg (N := 4) ?hd (cs := #[.int .i64 a1_0, .int .i64 a1_1, .bool false, .bool false]) (t := 94) ?hr ?_; (case hd => rfl); (case hg => rfl); (case hr => first | (go_simp; done) | (go_simp; rfl)); intro gb254 hg w17 hbox hb; have n0_ := Aside0.mk (IsS91.below (by repeat (first | (with_reducible first | exact HI0.out | apply IsS91.alloc | apply IsS91.drewN | apply IsS91.drew | apply IsS91.set_1) | exact HI0.out)) hb); have n1_ := Aside0.mk (KeepBut.trans (by repeat (first | (with_reducible first | exact HK.out | apply KeepBut.set_ | apply keep_drewN | apply keep_drew | apply keep_alloc) | exact HK.out)) (KeepBut.of_below hb g none) (.inl rfl)); have n2_ := Aside0.mk (below_step (by repeat (first | (with_reducible first | exact HB.out | apply below_alloc | apply pw_below_drewN | apply below_drew1 | refine below_set ?_ (IsS91.ge HI0.out)) | exact HB.out)) hb); have n3_ := Aside0.mk (hbox); have n4_ := Aside0.mk ((by rw [hg]; exact (keep_size (w := w) (g := g) (row := none) (by repeat (first | (with_reducible first | exact HK.out | apply KeepBut.set_ | apply keep_drewN | apply keep_drew | apply keep_alloc) | exact HK.out))) : w.heap.size ≤ gb254)); have n5_ := Aside0.mk ((Nat.le_trans HW0.out (by rw [hg]; exact (keep_size (w := w) (g := g) (row := none) (by repeat (first | (with_reducible first | exact HK.out | apply KeepBut.set_ | apply keep_drewN | apply keep_drew | apply keep_alloc) | exact HK.out))) : w.heap.size ≤ gb254) : w0.heap.size ≤ gb254)); have n6_ := Aside0.mk ((by rw [hg]; exact Nat.ne_of_lt (IsS91.lt (show IsS91 w0 _ g s0_0 s0_1 from by repeat (first | (with_reducible first | exact HI0.out | apply IsS91.alloc | apply IsS91.drewN | apply IsS91.drew | apply IsS91.set_1) | exact HI0.out))) : g ≠ gb254)); have n7_ := Aside0.mk ((by rw [hg]; exact Nat.ne_of_gt (IsS91.lt (show IsS91 w0 _ g s0_0 s0_1 from by repeat (first | (with_reducible first | exact HI0.out | apply IsS91.alloc | apply IsS91.drewN | apply IsS91.drew | apply IsS91.set_1) | exact HI0.out))) : gb254 ≠ g)); clear HI0; clear HK; clear HB; have HI0 := n0_; have HK := n1_; have HB := n2_; have BK254 := n3_; have GW254 := n4_; have GE254 := n5_; have NB0_254 := n6_; have NB254_0 := n7_; clear n0_ n1_ n2_ n3_ n4_ n5_ n6_ n7_; clear hb hbox hg; have hnb18 := NB254_0.out; have hnc18 := NB0_254.out; have hcz19_0 : w17.cell? ⟨gb254, 0, none⟩ = some (.int .i64 a1_0) := (blk_cell BK254.out 0).trans rfl; have hcz19_1 : w17.cell? ⟨gb254, 1, none⟩ = some (.int .i64 a1_1) := (blk_cell BK254.out 1).trans rfl; have hcz19_2 : w17.cell? ⟨gb254, 2, none⟩ = some (.bool false) := (blk_cell BK254.out 2).trans rfl; have hcz19_3 : w17.cell? ⟨gb254, 3, none⟩ = some (.bool false) := (blk_cell BK254.out 3).trans rfl; have hfz19_0 := blk_frozen BK254.out 0; have hfz19_1 := blk_frozen BK254.out 1; have hfz19_2 := blk_frozen BK254.out 2; have hfz19_3 := blk_frozen BK254.out 3) | ((with_reducible refine gate_callee (f := 37) rfl ?_); refine goesL_ (some 14) rfl rfl Try.func37 (by kernel_rfl) rfl #[.pointer (some ⟨g, 0, none⟩), .int .i64 (l2.length : Int)] rfl (by (try simp only [List.map_toArray, List.map_cons, List.map_nil]); first | done | rfl | (simp only [List.length_drop, List.length_take]; rfl)) ?_; (with_reducible refine (withemade_Maker_Pick.calls g s0_0 s0_1 (l2.length : Int) t255 t256 w0 _ ?side1 ?side2 A8.out).mono ?_); (case side1 => repeat (first | (with_reducible first | exact HI0.out | apply IsS91.alloc | apply IsS91.drewN | apply IsS91.drew | apply IsS91.set_1 | refine IsS91.far ?_ NB0_254.out _) | exact HI0.out)); (case side2 => repeat (first | (with_reducible first | exact HB.out | apply below_alloc | apply pw_below_drewN | apply below_drew1 | refine below_set ?_ (IsS91.ge HI0.out) | refine below_set ?_ GE254.out) | exact HB.out)); rintro e w20 ⟨rfl, hi, hb, hk⟩; refine ⟨_, rfl, ?_⟩; have n0_ := Aside0.mk (KeepBut.blk hk (g' := gb254) (o := .cells #[.int .i64 a1_0, .int .i64 a1_1, .bool false, .bool false] 94 (0, 0)) (by (with_reducible repeat (first | refine blk_drewN ?_ _ | refine blk_drew ?_ | refine blk_alloc ?_ _)); exact BK254.out) NB254_0.out (by simp)); have n1_ := Aside0.mk (KeepBut.trans (by repeat (first | (with_reducible first | exact HK.out | apply KeepBut.set_ | apply keep_drewN | apply keep_drew | apply keep_alloc | refine keep_far ?_ GW254.out _) | exact HK.out)) hk (.inl rfl)); have n2_ := Aside0.mk (hb); have n3_ := Aside0.mk (hi); clear BK254; clear HK; clear HB; clear HI0; have BK254 := n0_; have HK := n1_; have HB := n2_; have HI0 := n3_; clear n0_ n1_ n2_ n3_; (try clear hb); (try clear hb2); (try clear hgn); (try clear hk); (try clear hi); have p257 : 0 ≤ (t255 : Int) := of_decide_eq_true (by first | (with_reducible assumption) | assumption); have q257 : t255 < (l2.length : Int) := of_decide_eq_true (by first | (with_reducible assumption) | assumption); obtain ⟨ad257, e257, hx257_0⟩ := Kd.at_int HR2.out t255 p257 q257; cases e257; replace hx257_0 := keep_cell HK.out hx257_0 (by first | (rw [add_block]; exact hf2 _ rfl (by omega)) | exact hf2 _ rfl (by omega) | exact hf2 ad257 rfl (by omega)); replace p257 := eq_true p257; replace q257 := eq_true q257; have hcz21_0 : w20.cell? ⟨gb254, 0, none⟩ = some (.int .i64 a1_0) := (blk_cell BK254.out 0).trans rfl; have hcz21_1 : w20.cell? ⟨gb254, 1, none⟩ = some (.int .i64 a1_1) := (blk_cell BK254.out 1).trans rfl; have hcz21_2 : w20.cell? ⟨gb254, 2, none⟩ = some (.bool false) := (blk_cell BK254.out 2).trans rfl; have hcz21_3 : w20.cell? ⟨gb254, 3, none⟩ = some (.bool false) := (blk_cell BK254.out 3).trans rfl; have hfz21_0 := blk_frozen BK254.out 0; have hfz21_1 := blk_frozen BK254.out 1; have hfz21_2 := blk_frozen BK254.out 2; have hfz21_3 := blk_frozen BK254.out 3))
          go_ret
          exact ⟨by first | rfl | (simp [errW_none, errW_some] <;> rfl) | (simp [*, errW_none, errW_some] <;> rfl), by repeat (first | (with_reducible first | exact HI0.out | apply IsS91.alloc | apply IsS91.drewN | apply IsS91.drew | apply IsS91.set_1 | refine IsS91.far ?_ NB0_254.out _) | exact HI0.out), by repeat (first | (with_reducible first | exact HB.out | apply below_alloc | apply pw_below_drewN | apply below_drew1 | refine below_set ?_ (IsS91.ge HI0.out) | refine below_set ?_ GE254.out) | exact HB.out), by repeat (first | (with_reducible first | exact HK.out | apply KeepBut.set_ | apply keep_drewN | apply keep_drew | apply keep_alloc | refine keep_far ?_ GW254.out _) | exact HK.out)⟩
      · rw [if_neg c10] at H
        exact absurd H (by simp)
    · rw [if_neg c9] at H
      exact absurd H (by simp)
/-! ### withemade_Maker_Expr: function 87 -/
mutual
def withemade_Maker_Expr.j0 : Nat → List ByteArray → Int → Int → Int → Bool → List Int → Int → Option (Int × Int × ByteArray × (List (S57)) × Int)
  | 0, _, _, _, _, _, _, _ => none
  | k + 1, x1, x2, x3, x9, x19, x1000, x1001 => if x19 = true then ((withemade_Maker_Pick.f x1000 x1001 4).bind fun bt261 => ((withemade_Maker_Expr.f k x1000 bt261.2 x1 x2 (wrap64 (x3 - 1))).bind fun bt263 => ((withemade_Maker_Expr.f k x1000 bt263.2.2.2.2 x1 x2 (wrap64 (x3 - 1))).bind fun bt271 => (some (wrap64 (3 + bt261.1), 0, (⟨#[]⟩ : ByteArray), (([(⟨bt263.1, bt263.2.1, bt263.2.2.1, bt263.2.2.2.1⟩ : S57), (⟨bt271.1, bt271.2.1, bt271.2.2.1, bt271.2.2.2.1⟩ : S57)] : List (S57))), bt271.2.2.2.2))))) else (if (x1.length : Int) > 0 then (withemade_Maker_Expr.j1 k x1 x2 (decide (x9 > 2)) x1000 x1001) else (withemade_Maker_Expr.j1 k x1 x2 false x1000 x1001))
def withemade_Maker_Expr.j1 : Nat → List ByteArray → Int → Bool → List Int → Int → Option (Int × Int × ByteArray × (List (S57)) × Int)
  | 0, _, _, _, _, _ => none
  | k + 1, x1, x2, x45, x1000, x1001 => if x45 = true then ((withemade_Maker_Pick.f x1000 x1001 (x1.length : Int)).bind fun bt281 => (if 0 ≤ bt281.1 then (if bt281.1 < (x1.length : Int) then (some (2, 0, rdOf ByteArray.empty x1 bt281.1, ([] : List (S57)), bt281.2)) else (none)) else (none))) else ((withemade_Maker_Pick.f x1000 x1001 x2).bind fun bt284 => (some (1, bt284.1, (⟨#[]⟩ : ByteArray), ([] : List (S57)), bt284.2)))
def withemade_Maker_Expr.f : Nat → List Int → Int → List ByteArray → Int → Int → Option (Int × Int × ByteArray × (List (S57)) × Int)
  | 0, _, _, _, _, _ => none
  | k + 1, s0_0, s0_1, l1, a2, a3 => (withemade_Maker_Pick.f s0_0 s0_1 8).bind fun bt259 => (if a3 > 0 then (withemade_Maker_Expr.j0 k l1 a2 a3 bt259.1 (decide (bt259.1 > 5)) s0_0 bt259.2) else (withemade_Maker_Expr.j0 k l1 a2 a3 bt259.1 false s0_0 bt259.2))
end
def withemade_Maker_Expr.T5 : Bool × List (List Nat × List Nat) := (true, [([], []), ([], []), ([], []), ([], []), ([], []), ([], []), ([5], [5]), ([2, 3, 4, 6], [2, 3, 4, 6]), ([1, 7], [1, 7]), ([0, 8], [0, 8]), ([9, 7, 0, 1, 2, 3, 4, 5, 6, 7, 8, 9], [9])])
def withemade_Maker_Expr.B5 : List Nat := [0, 0, 0, 0, 0, 0, 32, 124, 254, 511, 1023]
theorem withemade_Maker_Expr.tab5 : rtab .any (opsOf Try.f87 5) = withemade_Maker_Expr.T5 := by kernel_rfl
theorem withemade_Maker_Expr.bits5 : waitsOk withemade_Maker_Expr.T5.2 withemade_Maker_Expr.B5 = true := by kernel_rfl
set_option maxHeartbeats 8000000 in
set_option maxRecDepth 100000 in
theorem withemade_Maker_Expr.calls (k : Nat) : ∀ (g : Nat) (s0_0 : List Int) (s0_1 : Int) (A1 : Option Addr) (c1 : Nat) (l1 : List ByteArray) (a2 : Int) (a3 : Int) (r1 : Int) (r2 : Int) (r3 : ByteArray) (r4 : List (S57)) (r5 : Int) (w0 w : World) (hI : IsS91 w0 w g s0_0 s0_1) (hB : Below w0.heap.size w0 w) (hr1 : Kd.C Kd.string w A1 l1.length l1) (hc1 : l1.length ≤ c1) (hf1 : ∀ ad, A1 = some ad → 0 < l1.length → ad.block ≠ g) (h : withemade_Maker_Expr.f k s0_0 s0_1 l1 a2 a3 = some (r1, r2, r3, r4, r5)),
    Calls Try.prog 87 #[.pointer (some ⟨g, 0, none⟩), .slice A1 l1.length c1, .int .i64 a2, .int .i64 a3] w fun e w' => ∃ v3_ : Value, e = .returned (.agg #[.int .i64 r1, .int .i64 r2, .string r3, v3_]) ∧ Kd.N k57 57 w' w.heap.size (fun k_ => (w.heap.size ≤ k_)) v3_ r4 ∧ IsS91 w0 w' g s0_0 r5 ∧ Below w0.heap.size w0 w' ∧ KeepBut w w' g none := by
  induction k using Nat.strongRecOn with
  | _ k ih =>
  intro g s0_0 s0_1 A1 c1 l1 a2 a3 r1 r2 r3 r4 r5 w0 w hI hB hr1 hc1 hf1 h
  cases k with
  | zero => exact absurd h (by simp [withemade_Maker_Expr.f])
  | succ k =>
  simp only [withemade_Maker_Expr.f] at h
  have hu57 := Try.underlying57
  have HR1 := Aside0.mk hr1
  have HC1 := Aside0.mk hc1
  clear hr1 hc1
  have HI0 := Aside0.mk hI
  have HK := Aside0.mk (KeepBut.refl w g none)
  have HL := Aside0.mk hB.size
  clear hI
  have HW0 := Aside0.mk hB.size
  have HB := Aside0.mk hB
  clear hB
  have H : ((withemade_Maker_Pick.f s0_0 s0_1 8).bind fun bt259 => (if a3 > 0 then (withemade_Maker_Expr.j0 k l1 a2 a3 bt259.1 (decide (bt259.1 > 5)) s0_0 bt259.2) else (withemade_Maker_Expr.j0 k l1 a2 a3 bt259.1 false s0_0 bt259.2))) = some (r1, r2, r3, r4, r5) := h
  clear h
  replace H := Option.bind_eq_some_iff.mp H
  obtain ⟨⟨t259, t260⟩, A50, H⟩ := H
  replace H : (if a3 > 0 then (withemade_Maker_Expr.j0 k l1 a2 a3 t259 (decide (t259 > 5)) s0_0 t260) else (withemade_Maker_Expr.j0 k l1 a2 a3 t259 false s0_0 t260)) = some (r1, r2, r3, r4, r5) := H
  have A5 := Aside0.mk A50
  clear A50
  have HC6 := Aside0.mk H
  clear H
  go_enter Try.func87, Try.ntmps87
  go_upto_region 2 with (first | ((with_reducible refine gate_dst (N := 8) rfl ?_); refine box_event ?hg (N := 8) ?hd (cs := #[.int .i64 0, .int .i64 0, .string (⟨#[]⟩ : ByteArray), .slice none 0 0]) (t := 57) ?hr ?_; (case hd => rfl); (case hg => rfl); (case hr => first | (go_simp; done) | (go_simp; rfl)); intro gb258 hg w7 hbox hb; have n0_ := Aside0.mk (IsS91.below (by repeat (first | (with_reducible first | exact HI0.out | apply IsS91.alloc | apply IsS91.drewN | apply IsS91.drew | apply IsS91.set_1) | exact HI0.out)) hb); have n1_ := Aside0.mk (KeepBut.trans (by repeat (first | (with_reducible first | exact HK.out | apply KeepBut.set_ | apply keep_drewN | apply keep_drew | apply keep_alloc) | exact HK.out)) (KeepBut.of_below hb g none) (.inl rfl)); have n2_ := Aside0.mk (below_step (by repeat (first | (with_reducible first | exact HB.out | apply below_alloc | apply pw_below_drewN | apply below_drew1 | refine below_set ?_ (IsS91.ge HI0.out)) | exact HB.out)) hb); have n3_ := Aside0.mk (hbox); have n4_ := Aside0.mk ((by rw [hg]; exact (keep_size (w := w) (g := g) (row := none) (by repeat (first | (with_reducible first | exact HK.out | apply KeepBut.set_ | apply keep_drewN | apply keep_drew | apply keep_alloc) | exact HK.out))) : w.heap.size ≤ gb258)); have n5_ := Aside0.mk ((Nat.le_trans HW0.out (by rw [hg]; exact (keep_size (w := w) (g := g) (row := none) (by repeat (first | (with_reducible first | exact HK.out | apply KeepBut.set_ | apply keep_drewN | apply keep_drew | apply keep_alloc) | exact HK.out))) : w.heap.size ≤ gb258) : w0.heap.size ≤ gb258)); have n6_ := Aside0.mk ((by rw [hg]; exact Nat.ne_of_lt (IsS91.lt (show IsS91 w0 _ g s0_0 s0_1 from by repeat (first | (with_reducible first | exact HI0.out | apply IsS91.alloc | apply IsS91.drewN | apply IsS91.drew | apply IsS91.set_1) | exact HI0.out))) : g ≠ gb258)); have n7_ := Aside0.mk ((by rw [hg]; exact Nat.ne_of_gt (IsS91.lt (show IsS91 w0 _ g s0_0 s0_1 from by repeat (first | (with_reducible first | exact HI0.out | apply IsS91.alloc | apply IsS91.drewN | apply IsS91.drew | apply IsS91.set_1) | exact HI0.out))) : gb258 ≠ g)); clear HI0; clear HK; clear HB; have HI0 := n0_; have HK := n1_; have HB := n2_; have BK258 := n3_; have GW258 := n4_; have GE258 := n5_; have NB0_258 := n6_; have NB258_0 := n7_; clear n0_ n1_ n2_ n3_ n4_ n5_ n6_ n7_; clear hb hbox hg) | ((with_reducible refine gate_callee (f := 37) rfl ?_); refine goesL_ (some 13) rfl rfl Try.func37 (by kernel_rfl) rfl #[.pointer (some ⟨g, 0, none⟩), .int .i64 8] rfl (by (try simp only [List.map_toArray, List.map_cons, List.map_nil]); first | done | rfl | (simp only [List.length_drop, List.length_take]; rfl)) ?_; (with_reducible refine (withemade_Maker_Pick.calls g s0_0 s0_1 8 t259 t260 w0 _ ?side1 ?side2 A5.out).mono ?_); (case side1 => repeat (first | (with_reducible first | exact HI0.out | apply IsS91.alloc | apply IsS91.drewN | apply IsS91.drew | apply IsS91.set_1 | refine IsS91.far ?_ NB0_258.out _) | exact HI0.out)); (case side2 => repeat (first | (with_reducible first | exact HB.out | apply below_alloc | apply pw_below_drewN | apply below_drew1 | refine below_set ?_ (IsS91.ge HI0.out) | refine below_set ?_ GE258.out) | exact HB.out)); rintro e w8 ⟨rfl, hi, hb, hk⟩; refine ⟨_, rfl, ?_⟩; have n0_ := Aside0.mk (KeepBut.blk hk (g' := gb258) (o := .cells #[.int .i64 0, .int .i64 0, .string (⟨#[]⟩ : ByteArray), .slice none 0 0] 57 (0, 0)) (by (with_reducible repeat (first | refine blk_drewN ?_ _ | refine blk_drew ?_ | refine blk_alloc ?_ _)); exact BK258.out) NB258_0.out (by simp)); have n1_ := Aside0.mk (KeepBut.trans (by repeat (first | (with_reducible first | exact HK.out | apply KeepBut.set_ | apply keep_drewN | apply keep_drew | apply keep_alloc | refine keep_far ?_ GW258.out _) | exact HK.out)) hk (.inl rfl)); have n2_ := Aside0.mk (hb); have n3_ := Aside0.mk (hi); clear BK258; clear HK; clear HB; clear HI0; have BK258 := n0_; have HK := n1_; have HB := n2_; have HI0 := n3_; clear n0_ n1_ n2_ n3_; (try clear hb); (try clear hb2); (try clear hgn); (try clear hk); (try clear hi)))
  (try simp only [Act.put, List.setIfInBounds_toArray, List.set_cons_zero, List.set_cons_succ])
  go_cut [19] (fun v19 wc => ∃ (kq : Nat) (x19_5 : Bool), v19 = .bool x19_5 ∧ Aside0 (withemade_Maker_Expr.j0 kq l1 a2 a3 t259 x19_5 s0_0 t260 = some (r1, r2, r3, r4, r5)) ∧ Aside0 (kq ≤ k) ∧ Aside0 (wc.heap[gb258]? = some (.cells #[.int .i64 0, .int .i64 0, .string (⟨#[]⟩ : ByteArray), (.slice none 0 0)] 57 (0, 0))) ∧ Aside0 (IsS91 w0 wc g s0_0 t260) ∧ Aside0 (KeepBut w wc g none) ∧ Aside0 (Below w0.heap.size w0 wc))
  case first =>
    have H := HC6.out
    clear HC6
    by_cases c9 : a3 > 0
    · rw [if_pos c9] at H
      have c9b0 : decide (0 < a3) = true := decide_eq_true c9
      clear c9
      (first | rw [c9b0] | (simp only [i64_w, i32_w]; rw [c9b0]) | skip)
      have H' := Aside0.mk H
      clear H
      go_wp2
      go_meet
      case rel => exact ⟨_, (decide (t259 > 5)), (by first | rfl | (simp; done) | (simp [*]; done)), H', ⟨by first | omega | exact Nat.le_refl _⟩, ⟨by (with_reducible repeat (first | refine blk_drewN ?_ _ | refine blk_drew ?_ | refine blk_alloc ?_ _)); exact BK258.out⟩, ⟨by repeat (first | (with_reducible first | exact HI0.out | apply IsS91.alloc | apply IsS91.drewN | apply IsS91.drew | apply IsS91.set_1 | refine IsS91.far ?_ NB0_258.out _) | exact HI0.out)⟩, ⟨by repeat (first | (with_reducible first | exact HK.out | apply KeepBut.set_ | apply keep_drewN | apply keep_drew | apply keep_alloc | refine keep_far ?_ GW258.out _) | exact HK.out)⟩, ⟨by repeat (first | (with_reducible first | exact HB.out | apply below_alloc | apply pw_below_drewN | apply below_drew1 | refine below_set ?_ (IsS91.ge HI0.out) | refine below_set ?_ GE258.out) | exact HB.out)⟩⟩
    · rw [if_neg c9] at H
      have c9b0 : decide (0 < a3) = false := decide_eq_false c9
      clear c9
      (first | rw [c9b0] | (simp only [i64_w, i32_w]; rw [c9b0]) | skip)
      have H' := Aside0.mk H
      clear H
      go_wp2
      go_meet
      case rel => exact ⟨_, (false), (by first | rfl | (simp; done) | (simp [*]; done)), H', ⟨by first | omega | exact Nat.le_refl _⟩, ⟨by (with_reducible repeat (first | refine blk_drewN ?_ _ | refine blk_drew ?_ | refine blk_alloc ?_ _)); exact BK258.out⟩, ⟨by repeat (first | (with_reducible first | exact HI0.out | apply IsS91.alloc | apply IsS91.drewN | apply IsS91.drew | apply IsS91.set_1 | refine IsS91.far ?_ NB0_258.out _) | exact HI0.out)⟩, ⟨by repeat (first | (with_reducible first | exact HK.out | apply KeepBut.set_ | apply keep_drewN | apply keep_drew | apply keep_alloc | refine keep_far ?_ GW258.out _) | exact HK.out)⟩, ⟨by repeat (first | (with_reducible first | exact HB.out | apply below_alloc | apply pw_below_drewN | apply below_drew1 | refine below_set ?_ (IsS91.ge HI0.out) | refine below_set ?_ GE258.out) | exact HB.out)⟩⟩
  case rest =>
    clear HC6
    try clear c1
    try clear p2
    try clear c3
    try clear c8
    try clear c9
    try clear c9b0
    obtain ⟨kq, x19_5, rfl, HA, HJ5, BK258, HI0, HK, HB⟩ := hcut
    cases kq with
    | zero => exact absurd HA.out (by simp [withemade_Maker_Expr.j0])
    | succ kj5 =>
      have H := HA.out
      clear HA
      simp only [withemade_Maker_Expr.j0] at H
      by_cases c10 : x19_5 = true
      · subst c10
        have H1 : ((withemade_Maker_Pick.f s0_0 t260 4).bind fun bt261 => ((withemade_Maker_Expr.f kj5 s0_0 bt261.2 l1 a2 (wrap64 (a3 - 1))).bind fun bt263 => ((withemade_Maker_Expr.f kj5 s0_0 bt263.2.2.2.2 l1 a2 (wrap64 (a3 - 1))).bind fun bt271 => (some (wrap64 (3 + bt261.1), 0, (⟨#[]⟩ : ByteArray), (([(⟨bt263.1, bt263.2.1, bt263.2.2.1, bt263.2.2.2.1⟩ : S57), (⟨bt271.1, bt271.2.1, bt271.2.2.1, bt271.2.2.2.1⟩ : S57)] : List (S57))), bt271.2.2.2.2))))) = some (r1, r2, r3, r4, r5) := by rw [if_pos rfl] at H; exact H
        clear H
        have H := H1
        clear H1
        replace H := Option.bind_eq_some_iff.mp H
        obtain ⟨⟨t261, t262⟩, A110, H⟩ := H
        replace H : ((withemade_Maker_Expr.f kj5 s0_0 t262 l1 a2 (wrap64 (a3 - 1))).bind fun bt263 => ((withemade_Maker_Expr.f kj5 s0_0 bt263.2.2.2.2 l1 a2 (wrap64 (a3 - 1))).bind fun bt271 => (some (wrap64 (3 + t261), 0, (⟨#[]⟩ : ByteArray), (([(⟨bt263.1, bt263.2.1, bt263.2.2.1, bt263.2.2.2.1⟩ : S57), (⟨bt271.1, bt271.2.1, bt271.2.2.1, bt271.2.2.2.1⟩ : S57)] : List (S57))), bt271.2.2.2.2)))) = some (r1, r2, r3, r4, r5) := H
        have A11 := Aside0.mk A110
        clear A110
        replace H := Option.bind_eq_some_iff.mp H
        obtain ⟨⟨t263, t264, t265, t266, t269⟩, A120, H⟩ := H
        replace H : ((withemade_Maker_Expr.f kj5 s0_0 t269 l1 a2 (wrap64 (a3 - 1))).bind fun bt271 => (some (wrap64 (3 + t261), 0, (⟨#[]⟩ : ByteArray), (([(⟨t263, t264, t265, t266⟩ : S57), (⟨bt271.1, bt271.2.1, bt271.2.2.1, bt271.2.2.2.1⟩ : S57)] : List (S57))), bt271.2.2.2.2))) = some (r1, r2, r3, r4, r5) := H
        have A12 := Aside0.mk A120
        clear A120
        replace H := Option.bind_eq_some_iff.mp H
        obtain ⟨⟨t271, t272, t273, t274, t277⟩, A130, H⟩ := H
        replace H : (some (wrap64 (3 + t261), 0, (⟨#[]⟩ : ByteArray), (([(⟨t263, t264, t265, t266⟩ : S57), (⟨t271, t272, t273, t274⟩ : S57)] : List (S57))), t277)) = some (r1, r2, r3, r4, r5) := H
        have A13 := Aside0.mk A130
        clear A130
        obtain ⟨y278, hy278⟩ : ∃ y_ : List (S57), y_ = (([(⟨t263, t264, t265, t266⟩ : S57), (⟨t271, t272, t273, t274⟩ : S57)] : List (S57))) := ⟨_, rfl⟩
        replace H : (some (wrap64 (3 + t261), 0, (⟨#[]⟩ : ByteArray), y278, t277)) = some (r1, r2, r3, r4, r5) := by first | (rw [hy278]; with_reducible exact H) | (have H2_ := (Option.bind_some _ _).symm.trans H; rw [hy278]; with_reducible exact H2_) | (have H2_ := (Option.bind_some _ _).symm.trans H; with_reducible exact H2_) | with_reducible exact H | (rw [hy278]; exact H) | exact H
        have Ny278 := Aside0.mk hy278
        clear hy278
        simp only [Option.some.injEq, Prod.mk.injEq] at H
        obtain ⟨rfl, rfl, rfl, rfl, rfl⟩ := H
        try go_wp2_with (first | ((with_reducible refine gate_callee (f := 37) rfl ?_); refine goesL_ (some 21) rfl rfl Try.func37 (by kernel_rfl) rfl #[.pointer (some ⟨g, 0, none⟩), .int .i64 4] rfl (by (try simp only [List.map_toArray, List.map_cons, List.map_nil]); first | done | rfl | (simp only [List.length_drop, List.length_take]; rfl)) ?_; (with_reducible refine (withemade_Maker_Pick.calls g s0_0 t260 4 t261 t262 w0 _ ?side1 ?side2 A11.out).mono ?_); (case side1 => repeat (first | (with_reducible first | exact HI0.out | apply IsS91.alloc | apply IsS91.drewN | apply IsS91.drew | apply IsS91.set_1 | refine IsS91.far ?_ NB0_258.out _) | exact HI0.out)); (case side2 => repeat (first | (with_reducible first | exact HB.out | apply below_alloc | apply pw_below_drewN | apply below_drew1 | refine below_set ?_ (IsS91.ge HI0.out) | refine below_set ?_ GE258.out) | exact HB.out)); rintro e w14 ⟨rfl, hi, hb, hk⟩; refine ⟨_, rfl, ?_⟩; have n0_ := Aside0.mk (KeepBut.blk hk (g' := gb258) (o := .cells #[.int .i64 0, .int .i64 0, .string (⟨#[]⟩ : ByteArray), .slice none 0 0] 57 (0, 0)) (by (with_reducible repeat (first | refine blk_drewN ?_ _ | refine blk_drew ?_ | refine blk_alloc ?_ _)); exact BK258.out) NB258_0.out (by simp)); have n1_ := Aside0.mk (KeepBut.trans (by repeat (first | (with_reducible first | exact HK.out | apply KeepBut.set_ | apply keep_drewN | apply keep_drew | apply keep_alloc | refine keep_far ?_ GW258.out _) | exact HK.out)) hk (.inl rfl)); have n2_ := Aside0.mk (hb); have n3_ := Aside0.mk (hi); clear BK258; clear HK; clear HB; clear HI0; have BK258 := n0_; have HK := n1_; have HB := n2_; have HI0 := n3_; clear n0_ n1_ n2_ n3_; (try clear hb); (try clear hb2); (try clear hgn); (try clear hk); (try clear hi)) | ((with_reducible refine gate_callee (f := 87) rfl ?_); refine goesL_ (some 28) rfl rfl Try.func87 (by kernel_rfl) rfl #[.pointer (some ⟨g, 0, none⟩), .slice A1 l1.length c1, .int .i64 a2, .int .i64 (wrap64 (a3 - 1))] rfl (by (try simp only [List.map_toArray, List.map_cons, List.map_nil]); first | done | rfl | (simp only [List.length_drop, List.length_take]; rfl)) ?_; (with_reducible refine (ih kj5 (by have := HJ5.out; omega) g s0_0 t262 _ _ l1 a2 (wrap64 (a3 - 1)) t263 t264 t265 t266 t269 w0 _ ?side1 ?side2 ?side3 ?side4 ?side5 A12.out).mono ?_); (case side1 => repeat (first | (with_reducible first | exact HI0.out | apply IsS91.alloc | apply IsS91.drewN | apply IsS91.drew | apply IsS91.set_1 | refine IsS91.far ?_ NB0_258.out _) | exact HI0.out)); (case side2 => repeat (first | (with_reducible first | exact HB.out | apply below_alloc | apply pw_below_drewN | apply below_drew1 | refine below_set ?_ (IsS91.ge HI0.out) | refine below_set ?_ GE258.out) | exact HB.out)); (case side3 => exact Kd.C_keep (⟨#[]⟩ : ByteArray) HR1.out (by repeat (first | (with_reducible first | exact HK.out | apply KeepBut.set_ | apply keep_drewN | apply keep_drew | apply keep_alloc | refine keep_far ?_ GW258.out _) | exact HK.out)) hf1); (case side4 => exact HC1.out); (case side5 => exact hf1); rintro e w15 ⟨v267, rfl, ho0, hi, hb, hk⟩; refine ⟨_, rfl, ?_⟩; have n0_ := Aside0.mk (KeepBut.blk hk (g' := gb258) (o := .cells #[.int .i64 0, .int .i64 0, .string (⟨#[]⟩ : ByteArray), .slice none 0 0] 57 (0, 0)) (by (with_reducible repeat (first | refine blk_drewN ?_ _ | refine blk_drew ?_ | refine blk_alloc ?_ _)); exact BK258.out) NB258_0.out (by simp)); have n1_ := Aside0.mk (Kd.N_lower (Kd.N_mono (ok' := fun k_ => (w.heap.size ≤ k_) ∧ k_ ≠ gb258 ∧ k_ ≠ g) ho0 (fun k_ hk_ => ⟨(Nat.le_trans (keep_size (w := w) (g := g) (row := none) (by repeat (first | (with_reducible first | exact HK.out | apply KeepBut.set_ | apply keep_drewN | apply keep_drew | apply keep_alloc | refine keep_far ?_ GW258.out _) | exact HK.out))) hk_), (Kd.freshB (g := gb258) (o := .cells #[.int .i64 0, .int .i64 0, .string (⟨#[]⟩ : ByteArray), .slice none 0 0] 57 (0, 0)) (by (with_reducible repeat (first | refine blk_drewN ?_ _ | refine blk_drew ?_ | refine blk_alloc ?_ _)); exact BK258.out) k_ hk_), (IsS91.fresh (by repeat (first | (with_reducible first | exact HI0.out | apply IsS91.alloc | apply IsS91.drewN | apply IsS91.drew | apply IsS91.set_1 | refine IsS91.far ?_ NB0_258.out _) | exact HI0.out)) k_ hk_)⟩)) (keep_size (w := w) (g := g) (row := none) (by repeat (first | (with_reducible first | exact HK.out | apply KeepBut.set_ | apply keep_drewN | apply keep_drew | apply keep_alloc | refine keep_far ?_ GW258.out _) | exact HK.out)))); have n2_ := Aside0.mk (KeepBut.trans (by repeat (first | (with_reducible first | exact HK.out | apply KeepBut.set_ | apply keep_drewN | apply keep_drew | apply keep_alloc | refine keep_far ?_ GW258.out _) | exact HK.out)) hk (.inl rfl)); have n3_ := Aside0.mk (hb); have n4_ := Aside0.mk (hi); clear BK258; clear HK; clear HB; clear HI0; have BK258 := n0_; have HO268 := n1_; have HK := n2_; have HB := n3_; have HI0 := n4_; clear n0_ n1_ n2_ n3_ n4_; (try clear hb); (try clear hb2); (try clear hgn); (try clear hk); (try clear hi); (try clear ho0)) | ((with_reducible refine gate_dst (N := 11) rfl ?_); refine box_event ?hg (N := 11) ?hd (cs := #[.int .i64 0, .int .i64 0, .string (⟨#[]⟩ : ByteArray), .slice none 0 0]) (t := 57) ?hr ?_; (case hd => rfl); (case hg => rfl); (case hr => first | (go_simp; done) | (go_simp; rfl)); intro gb270 hg w16 hbox hb; have n0_ := Aside0.mk (Kd.N_below (Kd.N_elderB (by (with_reducible repeat (first | apply Kd.N_alloc | apply Kd.N_drewN | apply Kd.N_drew)); exact HO268.out) gb270 (Nat.le_of_eq hg.symm)) hb); have n1_ := Aside0.mk (blk_below (g := gb258) (o := .cells #[.int .i64 0, .int .i64 0, .string (⟨#[]⟩ : ByteArray), .slice none 0 0] 57 (0, 0)) (by (with_reducible repeat (first | refine blk_drewN ?_ _ | refine blk_drew ?_ | refine blk_alloc ?_ _)); exact BK258.out) hb); have n2_ := Aside0.mk (IsS91.below (by repeat (first | (with_reducible first | exact HI0.out | apply IsS91.alloc | apply IsS91.drewN | apply IsS91.drew | apply IsS91.set_1 | refine IsS91.far ?_ NB0_258.out _) | exact HI0.out)) hb); have n3_ := Aside0.mk (KeepBut.trans (by repeat (first | (with_reducible first | exact HK.out | apply KeepBut.set_ | apply keep_drewN | apply keep_drew | apply keep_alloc | refine keep_far ?_ GW258.out _) | exact HK.out)) (KeepBut.of_below hb g none) (.inl rfl)); have n4_ := Aside0.mk (below_step (by repeat (first | (with_reducible first | exact HB.out | apply below_alloc | apply pw_below_drewN | apply below_drew1 | refine below_set ?_ (IsS91.ge HI0.out) | refine below_set ?_ GE258.out) | exact HB.out)) hb); have n5_ := Aside0.mk (hbox); have n6_ := Aside0.mk ((by rw [hg]; exact (keep_size (w := w) (g := g) (row := none) (by repeat (first | (with_reducible first | exact HK.out | apply KeepBut.set_ | apply keep_drewN | apply keep_drew | apply keep_alloc | refine keep_far ?_ GW258.out _) | exact HK.out))) : w.heap.size ≤ gb270)); have n7_ := Aside0.mk ((Nat.le_trans HW0.out (by rw [hg]; exact (keep_size (w := w) (g := g) (row := none) (by repeat (first | (with_reducible first | exact HK.out | apply KeepBut.set_ | apply keep_drewN | apply keep_drew | apply keep_alloc | refine keep_far ?_ GW258.out _) | exact HK.out))) : w.heap.size ≤ gb270) : w0.heap.size ≤ gb270)); have n8_ := Aside0.mk ((by rw [hg]; exact Nat.ne_of_lt (blk_lt (g := gb258) (o := .cells #[.int .i64 0, .int .i64 0, .string (⟨#[]⟩ : ByteArray), .slice none 0 0] 57 (0, 0)) (by (with_reducible repeat (first | refine blk_drewN ?_ _ | refine blk_drew ?_ | refine blk_alloc ?_ _)); exact BK258.out)) : gb258 ≠ gb270)); have n9_ := Aside0.mk ((by rw [hg]; exact Nat.ne_of_gt (blk_lt (g := gb258) (o := .cells #[.int .i64 0, .int .i64 0, .string (⟨#[]⟩ : ByteArray), .slice none 0 0] 57 (0, 0)) (by (with_reducible repeat (first | refine blk_drewN ?_ _ | refine blk_drew ?_ | refine blk_alloc ?_ _)); exact BK258.out)) : gb270 ≠ gb258)); have n10_ := Aside0.mk ((by rw [hg]; exact Nat.ne_of_lt (IsS91.lt (show IsS91 w0 _ g s0_0 t269 from by repeat (first | (with_reducible first | exact HI0.out | apply IsS91.alloc | apply IsS91.drewN | apply IsS91.drew | apply IsS91.set_1 | refine IsS91.far ?_ NB0_258.out _) | exact HI0.out))) : g ≠ gb270)); have n11_ := Aside0.mk ((by rw [hg]; exact Nat.ne_of_gt (IsS91.lt (show IsS91 w0 _ g s0_0 t269 from by repeat (first | (with_reducible first | exact HI0.out | apply IsS91.alloc | apply IsS91.drewN | apply IsS91.drew | apply IsS91.set_1 | refine IsS91.far ?_ NB0_258.out _) | exact HI0.out))) : gb270 ≠ g)); clear HO268; clear BK258; clear HI0; clear HK; clear HB; have HO268 := n0_; have BK258 := n1_; have HI0 := n2_; have HK := n3_; have HB := n4_; have BK270 := n5_; have GW270 := n6_; have GE270 := n7_; have NB258_270 := n8_; have NB270_258 := n9_; have NB0_270 := n10_; have NB270_0 := n11_; clear n0_ n1_ n2_ n3_ n4_ n5_ n6_ n7_ n8_ n9_ n10_ n11_; clear hb hbox hg; have hnb17 := NB270_258.out; have hnc17 := NB258_270.out; have hnb18 := NB270_0.out; have hnc18 := NB0_270.out; have hcz19_0 : w16.cell? ⟨gb270, 0, none⟩ = some (.int .i64 0) := (blk_cell BK270.out 0).trans rfl; have hcz19_1 : w16.cell? ⟨gb270, 1, none⟩ = some (.int .i64 0) := (blk_cell BK270.out 1).trans rfl; have hcz19_2 : w16.cell? ⟨gb270, 2, none⟩ = some (.string (⟨#[]⟩ : ByteArray)) := (blk_cell BK270.out 2).trans rfl; have hcz19_3 : w16.cell? ⟨gb270, 3, none⟩ = some (.slice none 0 0) := (blk_cell BK270.out 3).trans rfl; have hfz19_0 := blk_frozen BK270.out 0; have hfz19_1 := blk_frozen BK270.out 1; have hfz19_2 := blk_frozen BK270.out 2; have hfz19_3 := blk_frozen BK270.out 3; obtain ⟨Ao20, co20, eo20⟩ := Kd.N_slice HO268.out; subst eo20))
        have n0_ : Aside0 (Kd.N k57 57 ((((w16.setCell ⟨gb270, 0, none⟩ (.int .i64 t263)).setCell ⟨gb270, 1, none⟩ (.int .i64 t264)).setCell ⟨gb270, 2, none⟩ (.string t265)).setCell ⟨gb270, 3, none⟩ (.slice Ao20 t266.length co20)) w.heap.size (fun k_ => (w.heap.size ≤ k_) ∧ k_ ≠ gb258 ∧ k_ ≠ g ∧ k_ ≠ gb270) (.slice Ao20 t266.length co20) t266) := ⟨by (with_reducible repeat (first | apply Kd.N_alloc | apply Kd.N_drewN | apply Kd.N_drew)); exact Kd.N_mono (Kd.N_far (p := ⟨gb270, 3, none⟩) (Kd.N_far (p := ⟨gb270, 2, none⟩) (Kd.N_far (p := ⟨gb270, 1, none⟩) (Kd.N_far (p := ⟨gb270, 0, none⟩) (Kd.N_mono HO268.out (fun k_ hk => (⟨hk, hk.2⟩ : _ ∧ k_ ≠ gb270))) (fun _ hk => hk.2) (.int .i64 t263)) (fun _ hk => hk.2) (.int .i64 t264)) (fun _ hk => hk.2) (.string t265)) (fun _ hk => hk.2) (.slice Ao20 t266.length co20)) (fun _ hk => ⟨hk.1.1.1, ⟨hk.1.1.2.1, ⟨hk.1.1.2.2, hk.1.2⟩⟩⟩)⟩
        have n1_ : Aside0 (((((w16.setCell ⟨gb270, 0, none⟩ (.int .i64 t263)).setCell ⟨gb270, 1, none⟩ (.int .i64 t264)).setCell ⟨gb270, 2, none⟩ (.string t265)).setCell ⟨gb270, 3, none⟩ (.slice Ao20 t266.length co20)).heap[gb258]? = some (.cells #[.int .i64 0, .int .i64 0, .string (⟨#[]⟩ : ByteArray), .slice none 0 0] 57 (0, 0))) := ⟨by (with_reducible repeat (first | refine blk_drewN ?_ _ | refine blk_drew ?_ | refine blk_alloc ?_ _)); refine blk_far ?_ NB258_270.out _; (with_reducible repeat (first | refine blk_drewN ?_ _ | refine blk_drew ?_ | refine blk_alloc ?_ _)); refine blk_far ?_ NB258_270.out _; (with_reducible repeat (first | refine blk_drewN ?_ _ | refine blk_drew ?_ | refine blk_alloc ?_ _)); refine blk_far ?_ NB258_270.out _; (with_reducible repeat (first | refine blk_drewN ?_ _ | refine blk_drew ?_ | refine blk_alloc ?_ _)); refine blk_far ?_ NB258_270.out _; (with_reducible repeat (first | refine blk_drewN ?_ _ | refine blk_drew ?_ | refine blk_alloc ?_ _)); exact BK258.out⟩
        have n2_ : Aside0 (((((w16.setCell ⟨gb270, 0, none⟩ (.int .i64 t263)).setCell ⟨gb270, 1, none⟩ (.int .i64 t264)).setCell ⟨gb270, 2, none⟩ (.string t265)).setCell ⟨gb270, 3, none⟩ (.slice Ao20 t266.length co20)).heap[gb270]? = some (.cells #[.int .i64 t263, .int .i64 t264, .string t265, .slice Ao20 t266.length co20] 57 (0, 0))) := ⟨by (with_reducible repeat (first | refine blk_drewN ?_ _ | refine blk_drew ?_ | refine blk_alloc ?_ _)); refine blk_put (cs := #[.int .i64 t263, .int .i64 t264, .string t265, .slice none 0 0]) ?_ 3 _ rfl; (with_reducible repeat (first | refine blk_drewN ?_ _ | refine blk_drew ?_ | refine blk_alloc ?_ _)); refine blk_put (cs := #[.int .i64 t263, .int .i64 t264, .string (⟨#[]⟩ : ByteArray), .slice none 0 0]) ?_ 2 _ rfl; (with_reducible repeat (first | refine blk_drewN ?_ _ | refine blk_drew ?_ | refine blk_alloc ?_ _)); refine blk_put (cs := #[.int .i64 t263, .int .i64 0, .string (⟨#[]⟩ : ByteArray), .slice none 0 0]) ?_ 1 _ rfl; (with_reducible repeat (first | refine blk_drewN ?_ _ | refine blk_drew ?_ | refine blk_alloc ?_ _)); refine blk_put (cs := #[.int .i64 0, .int .i64 0, .string (⟨#[]⟩ : ByteArray), .slice none 0 0]) ?_ 0 _ rfl; (with_reducible repeat (first | refine blk_drewN ?_ _ | refine blk_drew ?_ | refine blk_alloc ?_ _)); exact BK270.out⟩
        have n3_ : Aside0 (IsS91 w0 ((((w16.setCell ⟨gb270, 0, none⟩ (.int .i64 t263)).setCell ⟨gb270, 1, none⟩ (.int .i64 t264)).setCell ⟨gb270, 2, none⟩ (.string t265)).setCell ⟨gb270, 3, none⟩ (.slice Ao20 t266.length co20)) g s0_0 t269) := ⟨by repeat (first | (with_reducible first | exact HI0.out | apply IsS91.alloc | apply IsS91.drewN | apply IsS91.drew | apply IsS91.set_1 | refine IsS91.far ?_ NB0_258.out _ | refine IsS91.far ?_ NB0_270.out _) | exact HI0.out)⟩
        have n4_ : Aside0 (KeepBut w ((((w16.setCell ⟨gb270, 0, none⟩ (.int .i64 t263)).setCell ⟨gb270, 1, none⟩ (.int .i64 t264)).setCell ⟨gb270, 2, none⟩ (.string t265)).setCell ⟨gb270, 3, none⟩ (.slice Ao20 t266.length co20)) g none) := ⟨by repeat (first | (with_reducible first | exact HK.out | apply KeepBut.set_ | apply keep_drewN | apply keep_drew | apply keep_alloc | refine keep_far ?_ GW258.out _ | refine keep_far ?_ GW270.out _) | exact HK.out)⟩
        have n5_ : Aside0 (Below w0.heap.size w0 ((((w16.setCell ⟨gb270, 0, none⟩ (.int .i64 t263)).setCell ⟨gb270, 1, none⟩ (.int .i64 t264)).setCell ⟨gb270, 2, none⟩ (.string t265)).setCell ⟨gb270, 3, none⟩ (.slice Ao20 t266.length co20))) := ⟨by repeat (first | (with_reducible first | exact HB.out | apply below_alloc | apply pw_below_drewN | apply below_drew1 | refine below_set ?_ (IsS91.ge HI0.out) | refine below_set ?_ GE258.out | refine below_set ?_ GE270.out) | exact HB.out)⟩
        (try clear HO268)
        (try clear BK258)
        (try clear BK270)
        (try clear HI0)
        (try clear HK)
        (try clear HB)
        generalize ((((w16.setCell ⟨gb270, 0, none⟩ (.int .i64 t263)).setCell ⟨gb270, 1, none⟩ (.int .i64 t264)).setCell ⟨gb270, 2, none⟩ (.string t265)).setCell ⟨gb270, 3, none⟩ (.slice Ao20 t266.length co20)) = w21 at n0_ n1_ n2_ n3_ n4_ n5_ ⊢
        have HO268 := n0_
        have BK258 := n1_
        have BK270 := n2_
        have HI0 := n3_
        have HK := n4_
        have HB := n5_
        clear n0_ n1_ n2_ n3_ n4_ n5_
        have n0_ := Aside0.mk (Kd.N_drew HO268.out)
        have n1_ := Aside0.mk (blk_drew BK258.out)
        have n2_ := Aside0.mk (blk_drew BK270.out)
        have n3_ := Aside0.mk (IsS91.drew HI0.out)
        have n4_ := Aside0.mk (keep_drew HK.out)
        have n5_ := Aside0.mk (below_drew1 HB.out)
        clear HO268
        clear BK258
        clear BK270
        clear HI0
        clear HK
        clear HB
        have HO268 := n0_
        have BK258 := n1_
        have BK270 := n2_
        have HI0 := n3_
        have HK := n4_
        have HB := n5_
        clear n0_ n1_ n2_ n3_ n4_ n5_
        refine start_ (n := 11) (S := fun w' => w'.cell? ⟨gb270, 0, none⟩ = some (.int .i64 t263) ∧ w'.cell? ⟨gb270, 1, none⟩ = some (.int .i64 t264) ∧ w'.cell? ⟨gb270, 2, none⟩ = some (.string t265) ∧ w'.cell? ⟨gb270, 3, none⟩ = some (.slice Ao20 t266.length co20)) (ds := []) #[false, false, false, false, false, false, false, false, false, false, false] (by kernel_rfl) rfl rfl ⟨(blk_cell BK270.out 0).trans rfl, (blk_cell BK270.out 1).trans rfl, (blk_cell BK270.out 2).trans rfl, (blk_cell BK270.out 3).trans rfl⟩ (fun hHeld => ?_); refine with_tabW withemade_Maker_Expr.tab5 withemade_Maker_Expr.bits5 (fun HT_ HW_ => ?_)
        generalize w21.drew = w22 at HO268 BK258 BK270 HI0 HK HB hHeld ⊢
        refine pure_ (i := 0) (N := some 29) (v := ?_) (a' := ?_) #[true, false, false, false, false, false, false, false, false, false, false] rfl rfl (any_of HT_.out (by kernel_rfl)) (fun _ _ _ h => h) (Or.inl ⟨by rfl, ?_⟩) ?_ ?_
        rotate_left
        · intro w'
          go_simp
          with_reducible rfl
        rotate_left
        · simp only [Act.put, List.setIfInBounds_toArray, List.set_cons_zero, List.set_cons_succ, i64_w, i32_w]
          rfl
        refine pure_ (i := 2) (N := some 31) (v := ?_) (a' := ?_) #[true, false, true, false, false, false, false, false, false, false, false] rfl rfl (any_of HT_.out (by kernel_rfl)) (fun _ _ _ h => h) (Or.inl ⟨by rfl, ?_⟩) ?_ ?_
        rotate_left
        · intro w'
          go_simp
          with_reducible rfl
        rotate_left
        · simp only [Act.put, List.setIfInBounds_toArray, List.set_cons_zero, List.set_cons_succ, i64_w, i32_w]
          rfl
        refine pure_ (i := 3) (N := some 32) (v := ?_) (a' := ?_) #[true, false, true, true, false, false, false, false, false, false, false] rfl rfl (any_of HT_.out (by kernel_rfl)) (fun _ _ _ h => h) (Or.inl ⟨by rfl, ?_⟩) ?_ ?_
        rotate_left
        · intro w'
          go_simp
          with_reducible rfl
        rotate_left
        · simp only [Act.put, List.setIfInBounds_toArray, List.set_cons_zero, List.set_cons_succ, i64_w, i32_w]
          rfl
        refine pure_ (i := 4) (N := some 33) (v := ?_) (a' := ?_) #[true, false, true, true, true, false, false, false, false, false, false] rfl rfl (any_of HT_.out (by kernel_rfl)) (fun _ _ _ h => h) (Or.inl ⟨by rfl, ?_⟩) ?_ ?_
        rotate_left
        · intro w'
          go_simp
          with_reducible rfl
        rotate_left
        · simp only [Act.put, List.setIfInBounds_toArray, List.set_cons_zero, List.set_cons_succ, i64_w, i32_w]
          rfl
        refine pure_ (i := 5) (N := some 34) (v := ?_) (a' := ?_) #[true, false, true, true, true, true, false, false, false, false, false] rfl rfl (any_of HT_.out (by kernel_rfl)) (fun _ _ _ h => h) (Or.inl ⟨by rfl, ?_⟩) ?_ ?_
        rotate_left
        · intro w'
          go_simp
          with_reducible rfl
        rotate_left
        · simp only [Act.put, List.setIfInBounds_toArray, List.set_cons_zero, List.set_cons_succ, i64_w, i32_w]
          rfl
        refine pure_ (i := 6) (N := some 35) (v := ?_) (a' := ?_) #[true, false, true, true, true, true, true, false, false, false, false] rfl rfl (any_of HT_.out (by kernel_rfl)) (fun _ _ _ h => h) (Or.inl ⟨by rfl, ?_⟩) ?_ ?_
        rotate_left
        · intro w'
          go_simp
          with_reducible rfl
        rotate_left
        · simp only [Act.put, List.setIfInBounds_toArray, List.set_cons_zero, List.set_cons_succ, i64_w, i32_w]
          rfl
        refine take_ (i := 1) (N := some 30) (v := ?_) (a' := ?_) #[true, true, true, true, true, true, true, false, false, false, false] rfl rfl (take_ofW HT_.out HW_.out (by kernel_rfl)) (fun _ _ _ h => h) (Or.inl ⟨by rfl, ?_⟩) hHeld ?_ ?_
        rotate_left
        · rintro w' ⟨s0, s1, s2, s3⟩
          go_simp
          with_reducible rfl
        rotate_left
        · simp only [Act.put, List.setIfInBounds_toArray, List.set_cons_zero, List.set_cons_succ, i64_w, i32_w]
          rfl
        refine one_ (i := 7) (N := some 36) #[true, true, true, true, true, true, true, true, false, false, false] rfl rfl (one_of HT_.out (by kernel_rfl)) (by decide) (fun K hK => ?_)
        refine goes_ Try.func87 (by kernel_rfl) rfl #[.pointer (some ⟨g, 0, none⟩), .slice A1 l1.length c1, .int .i64 a2, .int .i64 (wrap64 (a3 - 1))] (by rfl) rfl rfl (by (try simp only [List.map_toArray, List.map_cons, List.map_nil]); first | done | rfl | (simp only [List.length_drop, List.length_take]; rfl)) ?_
        with_reducible refine (ih kj5 (by have := HJ5.out; omega) g s0_0 t269 _ _ l1 a2 (wrap64 (a3 - 1)) t271 t272 t273 t274 t277 w0 _ ?side1 ?side2 ?side3 ?side4 ?side5 A13.out).mono ?_
        (case side1 => repeat (first | (with_reducible first | exact HI0.out | apply IsS91.alloc | apply IsS91.drewN | apply IsS91.drew | apply IsS91.set_1 | refine IsS91.far ?_ NB0_258.out _ | refine IsS91.far ?_ NB0_270.out _) | exact HI0.out))
        (case side2 => repeat (first | (with_reducible first | exact HB.out | apply below_alloc | apply pw_below_drewN | apply below_drew1 | refine below_set ?_ (IsS91.ge HI0.out) | refine below_set ?_ GE258.out | refine below_set ?_ GE270.out) | exact HB.out))
        (case side3 => exact Kd.C_keep (⟨#[]⟩ : ByteArray) HR1.out (by repeat (first | (with_reducible first | exact HK.out | apply KeepBut.set_ | apply keep_drewN | apply keep_drew | apply keep_alloc | refine keep_far ?_ GW258.out _ | refine keep_far ?_ GW270.out _) | exact HK.out)) hf1)
        (case side4 => exact HC1.out)
        (case side5 => exact hf1)
        rintro e w23 ⟨v275, rfl, ho0, hi, hb, hk⟩
        refine ⟨_, rfl, ?_⟩
        have n0_ := Aside0.mk (KeepBut.blk hk (g' := gb258) (o := .cells #[.int .i64 0, .int .i64 0, .string (⟨#[]⟩ : ByteArray), .slice none 0 0] 57 (0, 0)) (by (with_reducible repeat (first | refine blk_drewN ?_ _ | refine blk_drew ?_ | refine blk_alloc ?_ _)); exact BK258.out) NB258_0.out (by simp))
        have n1_ := Aside0.mk (Kd.N_mono (Kd.N_told (Kd.N_oldK (Kd.N_mono (ok := fun k_ => (((w.heap.size ≤ k_)) ∧ (k_ ≠ gb258 ∧ (k_ ≠ g ∧ k_ ≠ gb270)))) (by (with_reducible repeat (first | apply Kd.N_alloc | apply Kd.N_drewN | apply Kd.N_drew)); exact HO268.out) (fun k_ hk_ => (⟨hk_, hk_.2.2.1⟩ : _ ∧ k_ ≠ g))) hk) (Kd.N_base ho0)) (fun _ h_ => h_.1))
        have n2_ := Aside0.mk (KeepBut.blk hk (g' := gb270) (o := .cells #[.int .i64 t263, .int .i64 t264, .string t265, .slice Ao20 t266.length co20] 57 (0, 0)) (by (with_reducible repeat (first | refine blk_drewN ?_ _ | refine blk_drew ?_ | refine blk_alloc ?_ _)); exact BK270.out) NB270_0.out (by simp))
        have n3_ := Aside0.mk (Kd.N_lower (Kd.N_mono (ok' := fun k_ => (w.heap.size ≤ k_) ∧ some k_ ≠ (.slice Ao20 t266.length co20 : Value).ownBlock ∧ k_ ≠ gb258 ∧ k_ ≠ gb270 ∧ k_ ≠ g) ho0 (fun k_ hk_ => ⟨(Nat.le_trans (keep_size (w := w) (g := g) (row := none) (by repeat (first | (with_reducible first | exact HK.out | apply KeepBut.set_ | apply keep_drewN | apply keep_drew | apply keep_alloc | refine keep_far ?_ GW258.out _ | refine keep_far ?_ GW270.out _) | exact HK.out))) hk_), (Kd.fresh' (Kd.N_lt (by (with_reducible repeat (first | apply Kd.N_alloc | apply Kd.N_drewN | apply Kd.N_drew)); exact HO268.out)) k_ hk_), (Kd.freshB (g := gb258) (o := .cells #[.int .i64 0, .int .i64 0, .string (⟨#[]⟩ : ByteArray), .slice none 0 0] 57 (0, 0)) (by (with_reducible repeat (first | refine blk_drewN ?_ _ | refine blk_drew ?_ | refine blk_alloc ?_ _)); exact BK258.out) k_ hk_), (Kd.freshB (g := gb270) (o := .cells #[.int .i64 t263, .int .i64 t264, .string t265, .slice Ao20 t266.length co20] 57 (0, 0)) (by (with_reducible repeat (first | refine blk_drewN ?_ _ | refine blk_drew ?_ | refine blk_alloc ?_ _)); exact BK270.out) k_ hk_), (IsS91.fresh (by repeat (first | (with_reducible first | exact HI0.out | apply IsS91.alloc | apply IsS91.drewN | apply IsS91.drew | apply IsS91.set_1 | refine IsS91.far ?_ NB0_258.out _ | refine IsS91.far ?_ NB0_270.out _) | exact HI0.out)) k_ hk_)⟩)) (keep_size (w := w) (g := g) (row := none) (by repeat (first | (with_reducible first | exact HK.out | apply KeepBut.set_ | apply keep_drewN | apply keep_drew | apply keep_alloc | refine keep_far ?_ GW258.out _ | refine keep_far ?_ GW270.out _) | exact HK.out))))
        have n4_ := Aside0.mk (KeepBut.trans (by repeat (first | (with_reducible first | exact HK.out | apply KeepBut.set_ | apply keep_drewN | apply keep_drew | apply keep_alloc | refine keep_far ?_ GW258.out _ | refine keep_far ?_ GW270.out _) | exact HK.out)) hk (.inl rfl))
        have n5_ := Aside0.mk (hb)
        have n6_ := Aside0.mk (hi)
        clear BK258
        clear HO268
        clear BK270
        clear HK
        clear HB
        clear HI0
        have BK258 := n0_
        have HO268 := n1_
        have BK270 := n2_
        have HO276 := n3_
        have HK := n4_
        have HB := n5_
        have HI0 := n6_
        clear n0_ n1_ n2_ n3_ n4_ n5_ n6_
        (try clear hb)
        (try clear hb2)
        (try clear hgn)
        (try clear hk)
        (try clear hi)
        (try clear ho0)
        obtain ⟨Ao24, co24, eo24⟩ := Kd.N_slice HO276.out
        (first | subst eo24 | (injection eo24 with f1_ f2_ f3_; have f4_ := f1_.symm; have f5_ := f3_.symm; clear f1_ f2_ f3_; subst f4_; subst f5_))
        refine hK.out _ _ ⟨(blk_cell BK270.out 0).trans rfl, (blk_cell BK270.out 1).trans rfl, (blk_cell BK270.out 2).trans rfl, (blk_cell BK270.out 3).trans rfl⟩ (fun hHeld => ?_)
        clear hK K
        refine norm_ (a' := ?_) ?_ ?_
        rotate_left
        · show Act.put _ (some 36) _ = _
          simp only [Act.put, List.setIfInBounds_toArray, List.set_cons_zero, List.set_cons_succ, i64_w, i32_w]
          rfl
        refine one_ (i := 8) (N := some 37) #[true, true, true, true, true, true, true, true, true, false, false] rfl rfl (one_of HT_.out (by kernel_rfl)) (by decide) (fun K hK => ?_)
        refine Kd.N_lit_step k57 _ 57 ?hg (N' := 37) ?hd (xs := ([(⟨t263, t264, t265, t266⟩ : S57), (⟨t271, t272, t273, t274⟩ : S57)] : List (S57))) (inner := [.int .i64 t263, .int .i64 t264, .string t265, .slice Ao20 t266.length co20, .int .i64 t271, .int .i64 t272, .string t273, .slice Ao24 t274.length co24]) (ok := (fun k_ => (w.heap.size ≤ k_) ∧ k_ ≠ gb258 ∧ k_ ≠ gb270 ∧ k_ ≠ g)) (okp := (fun k_ => (w.heap.size ≤ k_) ∧ k_ ≠ gb258 ∧ k_ ≠ gb270 ∧ k_ ≠ g)) ?hr ?hp (fun _ hk => hk) ((show ∀ k_, w23.heap.size ≤ k_ → (fun k_ => (w.heap.size ≤ k_) ∧ k_ ≠ gb258 ∧ k_ ≠ gb270 ∧ k_ ≠ g) k_ from fun k_ hk => ⟨(Nat.le_trans (keep_size (w := w) (g := g) (row := none) (by repeat (first | (with_reducible first | exact HK.out | apply KeepBut.set_ | apply keep_drewN | apply keep_drew | apply keep_alloc | refine keep_far ?_ GW258.out _ | refine keep_far ?_ GW270.out _) | exact HK.out))) hk), Kd.freshB (g := gb258) (o := .cells #[.int .i64 0, .int .i64 0, .string (⟨#[]⟩ : ByteArray), .slice none 0 0] 57 (0, 0)) (by (with_reducible repeat (first | refine blk_drewN ?_ _ | refine blk_drew ?_ | refine blk_alloc ?_ _)); exact BK258.out) k_ hk, Kd.freshB (g := gb270) (o := .cells #[.int .i64 t263, .int .i64 t264, .string t265, .slice Ao20 t266.length co20] 57 (0, 0)) (by (with_reducible repeat (first | refine blk_drewN ?_ _ | refine blk_drew ?_ | refine blk_alloc ?_ _)); exact BK270.out) k_ hk, IsS91.fresh (by repeat (first | (with_reducible first | exact HI0.out | apply IsS91.alloc | apply IsS91.drewN | apply IsS91.drew | apply IsS91.set_1 | refine IsS91.far ?_ NB0_258.out _ | refine IsS91.far ?_ NB0_270.out _) | exact HI0.out)) k_ hk⟩) _ (Nat.le_refl _)) (Below.refl _ _) (Nat.le_refl _) (by simp) ?_; (case hd => rfl); (case hg => rfl); (case hr => first | (go_simp; done) | (go_simp; rfl)); (case hp => exact (Reps.c4 (show Kd.FK k57 _ _ (⟨t263, t264, t265, t266⟩ : S57) [.int .i64 t263, .int .i64 t264, .string t265, .slice Ao20 t266.length co20] from (k57_mkF _ _ (⟨t263, t264, t265, t266⟩ : S57) (Kd.N_reads' (Kd.N_mono (ok' := (fun k_ => (w.heap.size ≤ k_) ∧ k_ ≠ gb258 ∧ k_ ≠ gb270 ∧ k_ ≠ g)) (HO268.out) (fun k_ hk => ⟨hk.1.1, ⟨hk.1.2.1, ⟨hk.1.2.2.2, hk.1.2.2.1⟩⟩⟩))).2.1 (Kd.N_F (Kd.N_mono (ok' := (fun k_ => (w.heap.size ≤ k_) ∧ k_ ≠ gb258 ∧ k_ ≠ gb270 ∧ k_ ≠ g)) (HO268.out) (fun k_ hk => ⟨hk.1.1, ⟨hk.1.2.1, ⟨hk.1.2.2.2, hk.1.2.2.1⟩⟩⟩))))) (Reps.c4 (show Kd.FK k57 _ _ (⟨t271, t272, t273, t274⟩ : S57) [.int .i64 t271, .int .i64 t272, .string t273, .slice Ao24 t274.length co24] from (k57_mkF _ _ (⟨t271, t272, t273, t274⟩ : S57) (Kd.N_reads' (Kd.N_mono (ok' := (fun k_ => (w.heap.size ≤ k_) ∧ k_ ≠ gb258 ∧ k_ ≠ gb270 ∧ k_ ≠ g)) (HO276.out) (fun k_ hk => ⟨hk.1, ⟨hk.2.2.1, ⟨hk.2.2.2.1, hk.2.2.2.2⟩⟩⟩))).2.1 (Kd.N_F (Kd.N_mono (ok' := (fun k_ => (w.heap.size ≤ k_) ∧ k_ ≠ gb258 ∧ k_ ≠ gb270 ∧ k_ ≠ g)) (HO276.out) (fun k_ hk => ⟨hk.1, ⟨hk.2.2.1, ⟨hk.2.2.2.1, hk.2.2.2.2⟩⟩⟩))))) (Reps.none _ _))))
        intro v279 w25 ho26 hb hg_ hnew_
        clear hg_ hnew_
        (first | rw [← Ny278.out] at ho26 | (simp only [Int.reduceToNat] at ho26; rw [← Ny278.out] at ho26))
        have n0_ := Aside0.mk (Kd.N_lower ho26 (keep_size (w := w) (g := g) (row := none) (by repeat (first | (with_reducible first | exact HK.out | apply KeepBut.set_ | apply keep_drewN | apply keep_drew | apply keep_alloc | refine keep_far ?_ GW258.out _ | refine keep_far ?_ GW270.out _) | exact HK.out))))
        have n1_ := Aside0.mk (blk_below (g := gb258) (o := .cells #[.int .i64 0, .int .i64 0, .string (⟨#[]⟩ : ByteArray), .slice none 0 0] 57 (0, 0)) (by (with_reducible repeat (first | refine blk_drewN ?_ _ | refine blk_drew ?_ | refine blk_alloc ?_ _)); exact BK258.out) hb)
        have n2_ := Aside0.mk (IsS91.below (by repeat (first | (with_reducible first | exact HI0.out | apply IsS91.alloc | apply IsS91.drewN | apply IsS91.drew | apply IsS91.set_1 | refine IsS91.far ?_ NB0_258.out _ | refine IsS91.far ?_ NB0_270.out _) | exact HI0.out)) hb)
        have n3_ := Aside0.mk (blk_below (g := gb270) (o := .cells #[.int .i64 t263, .int .i64 t264, .string t265, .slice Ao20 t266.length co20] 57 (0, 0)) (by (with_reducible repeat (first | refine blk_drewN ?_ _ | refine blk_drew ?_ | refine blk_alloc ?_ _)); exact BK270.out) hb)
        have n4_ := Aside0.mk (KeepBut.trans (by repeat (first | (with_reducible first | exact HK.out | apply KeepBut.set_ | apply keep_drewN | apply keep_drew | apply keep_alloc | refine keep_far ?_ GW258.out _ | refine keep_far ?_ GW270.out _) | exact HK.out)) (KeepBut.of_below hb g none) (.inl rfl))
        have n5_ := Aside0.mk (below_step (by repeat (first | (with_reducible first | exact HB.out | apply below_alloc | apply pw_below_drewN | apply below_drew1 | refine below_set ?_ (IsS91.ge HI0.out) | refine below_set ?_ GE258.out | refine below_set ?_ GE270.out) | exact HB.out)) hb)
        clear BK258
        clear HI0
        clear BK270
        clear HK
        clear HB
        clear HO268
        clear HO276
        have HO280 := n0_
        have BK258 := n1_
        have HI0 := n2_
        have BK270 := n3_
        have HK := n4_
        have HB := n5_
        clear n0_ n1_ n2_ n3_ n4_ n5_
        clear hb ho26
        obtain ⟨Ao27, co27, eo27⟩ := Kd.N_slice HO280.out
        (first | subst eo27 | (injection eo27 with f1_ f2_ f3_; have f4_ := f1_.symm; have f5_ := f3_.symm; clear f1_ f2_ f3_; subst f4_; subst f5_))
        refine hK.out _ _ ⟨(blk_cell BK270.out 0).trans rfl, (blk_cell BK270.out 1).trans rfl, (blk_cell BK270.out 2).trans rfl, (blk_cell BK270.out 3).trans rfl⟩ (fun hHeld => ?_)
        clear hK K
        refine norm_ (a' := ?_) ?_ ?_
        rotate_left
        · show Act.put _ (some 37) _ = _
          simp only [Act.put, List.setIfInBounds_toArray, List.set_cons_zero, List.set_cons_succ, i64_w, i32_w]
          rfl
        refine pure_ (i := 9) (N := some 38) (v := ?_) (a' := ?_) #[true, true, true, true, true, true, true, true, true, true, false] rfl rfl (any_of HT_.out (by kernel_rfl)) (fun _ _ _ h => h) (Or.inl ⟨by rfl, ?_⟩) ?_ ?_
        rotate_left
        · intro w'
          go_simp
          with_reducible rfl
        rotate_left
        · simp only [Act.put, List.setIfInBounds_toArray, List.set_cons_zero, List.set_cons_succ, i64_w, i32_w]
          rfl
        refine one_ (i := 10) (N := none) #[true, true, true, true, true, true, true, true, true, true, true] rfl rfl (one_of HT_.out (by kernel_rfl)) (by decide) (fun K hK => ?_)
        have hs28 : w25.cell? ⟨gb258, 0, none⟩ = some (.int .i64 0) := (blk_cell BK258.out 0).trans rfl
        have hfs28 := blk_frozen BK258.out 0
        have hns28_1 := NB270_258.out
        have hms28_1 := NB258_270.out
        have hs29 : w25.cell? ⟨gb258, 1, none⟩ = some (.int .i64 0) := (blk_cell BK258.out 1).trans rfl
        have hfs29 := blk_frozen BK258.out 1
        have hns29_1 := NB270_258.out
        have hms29_1 := NB258_270.out
        have hs30 : w25.cell? ⟨gb258, 2, none⟩ = some (.string (⟨#[]⟩ : ByteArray)) := (blk_cell BK258.out 2).trans rfl
        have hfs30 := blk_frozen BK258.out 2
        have hns30_1 := NB270_258.out
        have hms30_1 := NB258_270.out
        have hs31 : w25.cell? ⟨gb258, 3, none⟩ = some (.slice none 0 0) := (blk_cell BK258.out 3).trans rfl
        have hfs31 := blk_frozen BK258.out 3
        have hns31_1 := NB270_258.out
        have hms31_1 := NB258_270.out
        refine skip_ (w1 := ?_) (by rfl) rfl ?_ ?_
        rotate_left
        · go_simp
          rfl
        refine hK.out _ _ ⟨((cell_far (p := ⟨gb258, _, none⟩) NB270_258.out _).trans (((cell_far (p := ⟨gb258, _, none⟩) NB270_258.out _).trans (((cell_far (p := ⟨gb258, _, none⟩) NB270_258.out _).trans (((cell_far (p := ⟨gb258, _, none⟩) NB270_258.out _).trans (hHeld.1)))))))), ((cell_far (p := ⟨gb258, _, none⟩) NB270_258.out _).trans (((cell_far (p := ⟨gb258, _, none⟩) NB270_258.out _).trans (((cell_far (p := ⟨gb258, _, none⟩) NB270_258.out _).trans (((cell_far (p := ⟨gb258, _, none⟩) NB270_258.out _).trans (hHeld.2.1)))))))), ((cell_far (p := ⟨gb258, _, none⟩) NB270_258.out _).trans (((cell_far (p := ⟨gb258, _, none⟩) NB270_258.out _).trans (((cell_far (p := ⟨gb258, _, none⟩) NB270_258.out _).trans (((cell_far (p := ⟨gb258, _, none⟩) NB270_258.out _).trans (hHeld.2.2.1)))))))), ((cell_far (p := ⟨gb258, _, none⟩) NB270_258.out _).trans (((cell_far (p := ⟨gb258, _, none⟩) NB270_258.out _).trans (((cell_far (p := ⟨gb258, _, none⟩) NB270_258.out _).trans (((cell_far (p := ⟨gb258, _, none⟩) NB270_258.out _).trans (hHeld.2.2.2))))))))⟩ (fun hHeld => ?_)
        clear hK K
        refine done_ (done_of HT_.out (by kernel_rfl)) ?_
        try go_wp2
        refine bodyPost_ret (results_cell_row rfl _ _ gb258 57 #[.int .i64 (wrap64 (3 + t261)), .int .i64 0, .string (⟨#[]⟩ : ByteArray), .slice Ao27 y278.length co27] (0, 0) _ rfl (by (with_reducible repeat (first | refine blk_drewN ?_ _ | refine blk_drew ?_ | refine blk_alloc ?_ _)); refine blk_put (cs := #[.int .i64 (wrap64 (3 + t261)), .int .i64 0, .string (⟨#[]⟩ : ByteArray), .slice none 0 0]) ?_ 3 _ rfl; (with_reducible repeat (first | refine blk_drewN ?_ _ | refine blk_drew ?_ | refine blk_alloc ?_ _)); refine blk_put (cs := #[.int .i64 (wrap64 (3 + t261)), .int .i64 0, .string (⟨#[]⟩ : ByteArray), .slice none 0 0]) ?_ 2 _ rfl; (with_reducible repeat (first | refine blk_drewN ?_ _ | refine blk_drew ?_ | refine blk_alloc ?_ _)); refine blk_put (cs := #[.int .i64 (wrap64 (3 + t261)), .int .i64 0, .string (⟨#[]⟩ : ByteArray), .slice none 0 0]) ?_ 1 _ rfl; (with_reducible repeat (first | refine blk_drewN ?_ _ | refine blk_drew ?_ | refine blk_alloc ?_ _)); refine blk_put (cs := #[.int .i64 0, .int .i64 0, .string (⟨#[]⟩ : ByteArray), .slice none 0 0]) ?_ 0 _ rfl; (with_reducible repeat (first | refine blk_drewN ?_ _ | refine blk_drew ?_ | refine blk_alloc ?_ _)); exact BK258.out) Try.underlying57 rfl (by kernel_rfl)) rfl ?_
        exact ⟨_, by first | rfl | (simp [errW_none, errW_some] <;> rfl) | (simp [*, errW_none, errW_some] <;> rfl), by (with_reducible repeat (first | apply Kd.N_alloc | apply Kd.N_drewN | apply Kd.N_drew)); exact Kd.N_mono (Kd.N_far (p := ⟨gb258, 3, none⟩) (Kd.N_far (p := ⟨gb258, 2, none⟩) (Kd.N_far (p := ⟨gb258, 1, none⟩) (Kd.N_far (p := ⟨gb258, 0, none⟩) (Kd.N_mono HO280.out (fun k_ hk => (⟨hk, hk.2.1⟩ : _ ∧ k_ ≠ gb258))) (fun _ hk => hk.2) (.int .i64 (wrap64 (3 + t261)))) (fun _ hk => hk.2) (.int .i64 0)) (fun _ hk => hk.2) (.string (⟨#[]⟩ : ByteArray))) (fun _ hk => hk.2) (.slice Ao27 y278.length co27)) (fun _ hk => hk.1.1), by repeat (first | (with_reducible first | exact HI0.out | apply IsS91.alloc | apply IsS91.drewN | apply IsS91.drew | apply IsS91.set_1 | refine IsS91.far ?_ NB0_258.out _ | refine IsS91.far ?_ NB0_270.out _) | exact HI0.out), by repeat (first | (with_reducible first | exact HB.out | apply below_alloc | apply pw_below_drewN | apply below_drew1 | refine below_set ?_ (IsS91.ge HI0.out) | refine below_set ?_ GE258.out | refine below_set ?_ GE270.out) | exact HB.out), by repeat (first | (with_reducible first | exact HK.out | apply KeepBut.set_ | apply keep_drewN | apply keep_drew | apply keep_alloc | refine keep_far ?_ GW258.out _ | refine keep_far ?_ GW270.out _) | exact HK.out)⟩
      · replace c10 := Bool.eq_false_iff.mpr c10
        subst c10
        have H1 : (if (l1.length : Int) > 0 then (withemade_Maker_Expr.j1 kj5 l1 a2 (decide (t259 > 2)) s0_0 t260) else (withemade_Maker_Expr.j1 kj5 l1 a2 false s0_0 t260)) = some (r1, r2, r3, r4, r5) := by rw [if_neg (show ¬ (false = true) by decide)] at H; exact H
        clear H
        have H := H1
        clear H1
        have HC32 := Aside0.mk H
        clear H
        go_upto_region 6 with (fail)
        go_cut [45] (fun v45 wc => ∃ (kq : Nat) (x45_31 : Bool), v45 = .bool x45_31 ∧ Aside0 (withemade_Maker_Expr.j1 kq l1 a2 x45_31 s0_0 t260 = some (r1, r2, r3, r4, r5)) ∧ Aside0 (kq ≤ kj5) ∧ Aside0 (wc.heap[gb258]? = some (.cells #[.int .i64 0, .int .i64 0, .string (⟨#[]⟩ : ByteArray), (.slice none 0 0)] 57 (0, 0))) ∧ Aside0 (IsS91 w0 wc g s0_0 t260) ∧ Aside0 (KeepBut w wc g none) ∧ Aside0 (Below w0.heap.size w0 wc))
        case first =>
          have H := HC32.out
          clear HC32
          by_cases c33 : (l1.length : Int) > 0
          · rw [if_pos c33] at H
            have c33b0 : decide (0 < (l1.length : Int)) = true := decide_eq_true c33
            have c33b1 : decide (0 < l1.length) = true := decide_eq_true (by omega)
            clear c33
            (first | rw [c33b0] | rw [c33b1] | (simp only [i64_w, i32_w]; rw [c33b0]) | skip)
            have H' := Aside0.mk H
            clear H
            go_wp2
            go_meet
            case rel => exact ⟨_, (decide (t259 > 2)), (by first | rfl | (simp; done) | (simp [*]; done)), H', ⟨by have := HJ5.out; first | omega | exact Nat.le_refl _⟩, ⟨by (with_reducible repeat (first | refine blk_drewN ?_ _ | refine blk_drew ?_ | refine blk_alloc ?_ _)); exact BK258.out⟩, ⟨by repeat (first | (with_reducible first | exact HI0.out | apply IsS91.alloc | apply IsS91.drewN | apply IsS91.drew | apply IsS91.set_1 | refine IsS91.far ?_ NB0_258.out _) | exact HI0.out)⟩, ⟨by repeat (first | (with_reducible first | exact HK.out | apply KeepBut.set_ | apply keep_drewN | apply keep_drew | apply keep_alloc | refine keep_far ?_ GW258.out _) | exact HK.out)⟩, ⟨by repeat (first | (with_reducible first | exact HB.out | apply below_alloc | apply pw_below_drewN | apply below_drew1 | refine below_set ?_ (IsS91.ge HI0.out) | refine below_set ?_ GE258.out) | exact HB.out)⟩⟩
          · rw [if_neg c33] at H
            have c33b0 : decide (0 < (l1.length : Int)) = false := decide_eq_false c33
            have c33b1 : decide (0 < l1.length) = false := decide_eq_false (by omega)
            clear c33
            (first | rw [c33b0] | rw [c33b1] | (simp only [i64_w, i32_w]; rw [c33b0]) | skip)
            have H' := Aside0.mk H
            clear H
            go_wp2
            go_meet
            case rel => exact ⟨_, (false), (by first | rfl | (simp; done) | (simp [*]; done)), H', ⟨by have := HJ5.out; first | omega | exact Nat.le_refl _⟩, ⟨by (with_reducible repeat (first | refine blk_drewN ?_ _ | refine blk_drew ?_ | refine blk_alloc ?_ _)); exact BK258.out⟩, ⟨by repeat (first | (with_reducible first | exact HI0.out | apply IsS91.alloc | apply IsS91.drewN | apply IsS91.drew | apply IsS91.set_1 | refine IsS91.far ?_ NB0_258.out _) | exact HI0.out)⟩, ⟨by repeat (first | (with_reducible first | exact HK.out | apply KeepBut.set_ | apply keep_drewN | apply keep_drew | apply keep_alloc | refine keep_far ?_ GW258.out _) | exact HK.out)⟩, ⟨by repeat (first | (with_reducible first | exact HB.out | apply below_alloc | apply pw_below_drewN | apply below_drew1 | refine below_set ?_ (IsS91.ge HI0.out) | refine below_set ?_ GE258.out) | exact HB.out)⟩⟩
        case rest =>
          clear HC32
          try clear c1
          try clear p2
          try clear c3
          try clear c4
          try clear p6
          try clear c8
          try clear c9
          try clear c9b0
          try clear c10
          try clear c17
          try clear c18
          try clear c33
          try clear c33b0
          try clear c33b1
          try clear hcz19_0
          try clear hcz19_1
          try clear hcz19_2
          try clear hcz19_3
          try clear hfz19_0
          try clear hfz19_1
          try clear hfz19_2
          try clear hfz19_3
          try clear p2
          obtain ⟨kq, x45_31, rfl, HA, HJ31, BK258, HI0, HK, HB⟩ := hcut
          cases kq with
          | zero => exact absurd HA.out (by simp [withemade_Maker_Expr.j1])
          | succ kj31 =>
            have H := HA.out
            clear HA
            simp only [withemade_Maker_Expr.j1] at H
            by_cases c34 : x45_31 = true
            · subst c34
              have H1 : ((withemade_Maker_Pick.f s0_0 t260 (l1.length : Int)).bind fun bt281 => (if 0 ≤ bt281.1 then (if bt281.1 < (l1.length : Int) then (some (2, 0, rdOf ByteArray.empty l1 bt281.1, ([] : List (S57)), bt281.2)) else (none)) else (none))) = some (r1, r2, r3, r4, r5) := by rw [if_pos rfl] at H; exact H
              clear H
              have H := H1
              clear H1
              replace H := Option.bind_eq_some_iff.mp H
              obtain ⟨⟨t281, t282⟩, A350, H⟩ := H
              replace H : (if 0 ≤ t281 then (if t281 < (l1.length : Int) then (some (2, 0, rdOf ByteArray.empty l1 t281, ([] : List (S57)), t282)) else (none)) else (none)) = some (r1, r2, r3, r4, r5) := H
              have A35 := Aside0.mk A350
              clear A350
              by_cases c36 : 0 ≤ t281
              · rw [if_pos c36] at H
                have c36b0 : decide (0 ≤ t281) = true := decide_eq_true c36
                clear c36
                by_cases c37 : t281 < (l1.length : Int)
                · rw [if_pos c37] at H
                  have c37b0 : decide (t281 < (l1.length : Int)) = true := decide_eq_true c37
                  clear c37
                  simp only [Option.some.injEq, Prod.mk.injEq] at H
                  obtain ⟨rfl, rfl, rfl, rfl, rfl⟩ := H
                  go_wp2_with (first | ((with_reducible refine gate_callee (f := 37) rfl ?_); refine goesL_ (some 50) rfl rfl Try.func37 (by kernel_rfl) rfl #[.pointer (some ⟨g, 0, none⟩), .int .i64 (l1.length : Int)] rfl (by (try simp only [List.map_toArray, List.map_cons, List.map_nil]); first | done | rfl | (simp only [List.length_drop, List.length_take]; rfl)) ?_; (with_reducible refine (withemade_Maker_Pick.calls g s0_0 t260 (l1.length : Int) t281 t282 w0 _ ?side1 ?side2 A35.out).mono ?_); (case side1 => repeat (first | (with_reducible first | exact HI0.out | apply IsS91.alloc | apply IsS91.drewN | apply IsS91.drew | apply IsS91.set_1 | refine IsS91.far ?_ NB0_258.out _) | exact HI0.out)); (case side2 => repeat (first | (with_reducible first | exact HB.out | apply below_alloc | apply pw_below_drewN | apply below_drew1 | refine below_set ?_ (IsS91.ge HI0.out) | refine below_set ?_ GE258.out) | exact HB.out)); rintro e w38 ⟨rfl, hi, hb, hk⟩; refine ⟨_, rfl, ?_⟩; have n0_ := Aside0.mk (KeepBut.blk hk (g' := gb258) (o := .cells #[.int .i64 0, .int .i64 0, .string (⟨#[]⟩ : ByteArray), .slice none 0 0] 57 (0, 0)) (by (with_reducible repeat (first | refine blk_drewN ?_ _ | refine blk_drew ?_ | refine blk_alloc ?_ _)); exact BK258.out) NB258_0.out (by simp)); have n1_ := Aside0.mk (KeepBut.trans (by repeat (first | (with_reducible first | exact HK.out | apply KeepBut.set_ | apply keep_drewN | apply keep_drew | apply keep_alloc | refine keep_far ?_ GW258.out _) | exact HK.out)) hk (.inl rfl)); have n2_ := Aside0.mk (hb); have n3_ := Aside0.mk (hi); clear BK258; clear HK; clear HB; clear HI0; have BK258 := n0_; have HK := n1_; have HB := n2_; have HI0 := n3_; clear n0_ n1_ n2_ n3_; (try clear hb); (try clear hb2); (try clear hgn); (try clear hk); (try clear hi); have p283 : 0 ≤ (t281 : Int) := of_decide_eq_true (by first | (with_reducible assumption) | assumption); have q283 : t281 < (l1.length : Int) := of_decide_eq_true (by first | (with_reducible assumption) | assumption); obtain ⟨ad283, e283, hx283_0⟩ := Kd.at_string HR1.out t281 p283 q283; cases e283; replace hx283_0 := keep_cell HK.out hx283_0 (by first | (rw [add_block]; exact hf1 _ rfl (by omega)) | exact hf1 _ rfl (by omega) | exact hf1 ad283 rfl (by omega)); replace p283 := eq_true p283; replace q283 := eq_true q283; have hnb39 := NB258_0.out; have hnc39 := NB0_258.out; have hcz40_0 : w38.cell? ⟨gb258, 0, none⟩ = some (.int .i64 0) := (blk_cell BK258.out 0).trans rfl; have hcz40_1 : w38.cell? ⟨gb258, 1, none⟩ = some (.int .i64 0) := (blk_cell BK258.out 1).trans rfl; have hcz40_2 : w38.cell? ⟨gb258, 2, none⟩ = some (.string (⟨#[]⟩ : ByteArray)) := (blk_cell BK258.out 2).trans rfl; have hcz40_3 : w38.cell? ⟨gb258, 3, none⟩ = some (.slice none 0 0) := (blk_cell BK258.out 3).trans rfl; have hfz40_0 := blk_frozen BK258.out 0; have hfz40_1 := blk_frozen BK258.out 1; have hfz40_2 := blk_frozen BK258.out 2; have hfz40_3 := blk_frozen BK258.out 3))
                  refine bodyPost_ret (results_cell_row rfl _ _ gb258 57 #[.int .i64 2, .int .i64 0, .string (rdOf ByteArray.empty l1 t281), .slice none 0 0] (0, 0) _ rfl (by (with_reducible repeat (first | refine blk_drewN ?_ _ | refine blk_drew ?_ | refine blk_alloc ?_ _)); refine blk_put (cs := #[.int .i64 2, .int .i64 0, .string (rdOf ByteArray.empty l1 t281), .slice none 0 0]) ?_ 3 _ rfl; (with_reducible repeat (first | refine blk_drewN ?_ _ | refine blk_drew ?_ | refine blk_alloc ?_ _)); refine blk_put (cs := #[.int .i64 2, .int .i64 0, .string (⟨#[]⟩ : ByteArray), .slice none 0 0]) ?_ 2 _ rfl; (with_reducible repeat (first | refine blk_drewN ?_ _ | refine blk_drew ?_ | refine blk_alloc ?_ _)); refine blk_put (cs := #[.int .i64 2, .int .i64 0, .string (⟨#[]⟩ : ByteArray), .slice none 0 0]) ?_ 1 _ rfl; (with_reducible repeat (first | refine blk_drewN ?_ _ | refine blk_drew ?_ | refine blk_alloc ?_ _)); refine blk_put (cs := #[.int .i64 0, .int .i64 0, .string (⟨#[]⟩ : ByteArray), .slice none 0 0]) ?_ 0 _ rfl; (with_reducible repeat (first | refine blk_drewN ?_ _ | refine blk_drew ?_ | refine blk_alloc ?_ _)); exact BK258.out) Try.underlying57 rfl (by kernel_rfl)) rfl ?_
                  exact ⟨_, by first | rfl | (simp [errW_none, errW_some] <;> rfl) | (simp [*, errW_none, errW_some] <;> rfl), by first | exact Kd.R_nil _ _ _ _ _ | exact Kd.N_nil _ _ _ _ _ | exact Kd.V_nil _ _ _ _ _ | exact Kd.Q_nil _ _ _ _ _ | exact Kd.S_nil _ _ _ _ _, by repeat (first | (with_reducible first | exact HI0.out | apply IsS91.alloc | apply IsS91.drewN | apply IsS91.drew | apply IsS91.set_1 | refine IsS91.far ?_ NB0_258.out _) | exact HI0.out), by repeat (first | (with_reducible first | exact HB.out | apply below_alloc | apply pw_below_drewN | apply below_drew1 | refine below_set ?_ (IsS91.ge HI0.out) | refine below_set ?_ GE258.out) | exact HB.out), by repeat (first | (with_reducible first | exact HK.out | apply KeepBut.set_ | apply keep_drewN | apply keep_drew | apply keep_alloc | refine keep_far ?_ GW258.out _) | exact HK.out)⟩
                · rw [if_neg c37] at H
                  exact absurd H (by simp)
              · rw [if_neg c36] at H
                exact absurd H (by simp)
            · replace c34 := Bool.eq_false_iff.mpr c34
              subst c34
              have H1 : ((withemade_Maker_Pick.f s0_0 t260 a2).bind fun bt284 => (some (1, bt284.1, (⟨#[]⟩ : ByteArray), ([] : List (S57)), bt284.2))) = some (r1, r2, r3, r4, r5) := by rw [if_neg (show ¬ (false = true) by decide)] at H; exact H
              clear H
              have H := H1
              clear H1
              replace H := Option.bind_eq_some_iff.mp H
              obtain ⟨⟨t284, t285⟩, A410, H⟩ := H
              replace H : (some (1, t284, (⟨#[]⟩ : ByteArray), ([] : List (S57)), t285)) = some (r1, r2, r3, r4, r5) := H
              have A41 := Aside0.mk A410
              clear A410
              simp only [Option.some.injEq, Prod.mk.injEq] at H
              obtain ⟨rfl, rfl, rfl, rfl, rfl⟩ := H
              go_wp2_with (first | ((with_reducible refine gate_callee (f := 37) rfl ?_); refine goesL_ (some 56) rfl rfl Try.func37 (by kernel_rfl) rfl #[.pointer (some ⟨g, 0, none⟩), .int .i64 a2] rfl (by (try simp only [List.map_toArray, List.map_cons, List.map_nil]); first | done | rfl | (simp only [List.length_drop, List.length_take]; rfl)) ?_; (with_reducible refine (withemade_Maker_Pick.calls g s0_0 t260 a2 t284 t285 w0 _ ?side1 ?side2 A41.out).mono ?_); (case side1 => repeat (first | (with_reducible first | exact HI0.out | apply IsS91.alloc | apply IsS91.drewN | apply IsS91.drew | apply IsS91.set_1 | refine IsS91.far ?_ NB0_258.out _) | exact HI0.out)); (case side2 => repeat (first | (with_reducible first | exact HB.out | apply below_alloc | apply pw_below_drewN | apply below_drew1 | refine below_set ?_ (IsS91.ge HI0.out) | refine below_set ?_ GE258.out) | exact HB.out)); rintro e w42 ⟨rfl, hi, hb, hk⟩; refine ⟨_, rfl, ?_⟩; have n0_ := Aside0.mk (KeepBut.blk hk (g' := gb258) (o := .cells #[.int .i64 0, .int .i64 0, .string (⟨#[]⟩ : ByteArray), .slice none 0 0] 57 (0, 0)) (by (with_reducible repeat (first | refine blk_drewN ?_ _ | refine blk_drew ?_ | refine blk_alloc ?_ _)); exact BK258.out) NB258_0.out (by simp)); have n1_ := Aside0.mk (KeepBut.trans (by repeat (first | (with_reducible first | exact HK.out | apply KeepBut.set_ | apply keep_drewN | apply keep_drew | apply keep_alloc | refine keep_far ?_ GW258.out _) | exact HK.out)) hk (.inl rfl)); have n2_ := Aside0.mk (hb); have n3_ := Aside0.mk (hi); clear BK258; clear HK; clear HB; clear HI0; have BK258 := n0_; have HK := n1_; have HB := n2_; have HI0 := n3_; clear n0_ n1_ n2_ n3_; (try clear hb); (try clear hb2); (try clear hgn); (try clear hk); (try clear hi); have hnb43 := NB258_0.out; have hnc43 := NB0_258.out; have hcz44_0 : w42.cell? ⟨gb258, 0, none⟩ = some (.int .i64 0) := (blk_cell BK258.out 0).trans rfl; have hcz44_1 : w42.cell? ⟨gb258, 1, none⟩ = some (.int .i64 0) := (blk_cell BK258.out 1).trans rfl; have hcz44_2 : w42.cell? ⟨gb258, 2, none⟩ = some (.string (⟨#[]⟩ : ByteArray)) := (blk_cell BK258.out 2).trans rfl; have hcz44_3 : w42.cell? ⟨gb258, 3, none⟩ = some (.slice none 0 0) := (blk_cell BK258.out 3).trans rfl; have hfz44_0 := blk_frozen BK258.out 0; have hfz44_1 := blk_frozen BK258.out 1; have hfz44_2 := blk_frozen BK258.out 2; have hfz44_3 := blk_frozen BK258.out 3))
              refine bodyPost_ret (results_cell_row rfl _ _ gb258 57 #[.int .i64 1, .int .i64 t284, .string (⟨#[]⟩ : ByteArray), .slice none 0 0] (0, 0) _ rfl (by (with_reducible repeat (first | refine blk_drewN ?_ _ | refine blk_drew ?_ | refine blk_alloc ?_ _)); refine blk_put (cs := #[.int .i64 1, .int .i64 t284, .string (⟨#[]⟩ : ByteArray), .slice none 0 0]) ?_ 3 _ rfl; (with_reducible repeat (first | refine blk_drewN ?_ _ | refine blk_drew ?_ | refine blk_alloc ?_ _)); refine blk_put (cs := #[.int .i64 1, .int .i64 t284, .string (⟨#[]⟩ : ByteArray), .slice none 0 0]) ?_ 2 _ rfl; (with_reducible repeat (first | refine blk_drewN ?_ _ | refine blk_drew ?_ | refine blk_alloc ?_ _)); refine blk_put (cs := #[.int .i64 1, .int .i64 0, .string (⟨#[]⟩ : ByteArray), .slice none 0 0]) ?_ 1 _ rfl; (with_reducible repeat (first | refine blk_drewN ?_ _ | refine blk_drew ?_ | refine blk_alloc ?_ _)); refine blk_put (cs := #[.int .i64 0, .int .i64 0, .string (⟨#[]⟩ : ByteArray), .slice none 0 0]) ?_ 0 _ rfl; (with_reducible repeat (first | refine blk_drewN ?_ _ | refine blk_drew ?_ | refine blk_alloc ?_ _)); exact BK258.out) Try.underlying57 rfl (by kernel_rfl)) rfl ?_
              exact ⟨_, by first | rfl | (simp [errW_none, errW_some] <;> rfl) | (simp [*, errW_none, errW_some] <;> rfl), by first | exact Kd.R_nil _ _ _ _ _ | exact Kd.N_nil _ _ _ _ _ | exact Kd.V_nil _ _ _ _ _ | exact Kd.Q_nil _ _ _ _ _ | exact Kd.S_nil _ _ _ _ _, by repeat (first | (with_reducible first | exact HI0.out | apply IsS91.alloc | apply IsS91.drewN | apply IsS91.drew | apply IsS91.set_1 | refine IsS91.far ?_ NB0_258.out _) | exact HI0.out), by repeat (first | (with_reducible first | exact HB.out | apply below_alloc | apply pw_below_drewN | apply below_drew1 | refine below_set ?_ (IsS91.ge HI0.out) | refine below_set ?_ GE258.out) | exact HB.out), by repeat (first | (with_reducible first | exact HK.out | apply KeepBut.set_ | apply keep_drewN | apply keep_drew | apply keep_alloc | refine keep_far ?_ GW258.out _) | exact HK.out)⟩
/-! ### withemade_with: function 88 -/
end Go.Proofs.Ytlhbnbckanmaiaa.PC1
