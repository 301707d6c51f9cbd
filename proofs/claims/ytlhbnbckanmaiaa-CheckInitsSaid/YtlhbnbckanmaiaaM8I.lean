/- A text of a claim (ours): the maker of programs: its statements: the walk; conditions: none of ours. -/
import Derived.Test.YtlhbnbckanmaiaaM7I
namespace Go.Proofs.Ytlhbnbckanmaiaa.K
open Go Go.RowKit Go.Proofs.YtlhbnbckanmaiaaW.PrintWords Go.Proofs.YtlhbnbckanmaiaaW.PrintLast Go.Proofs.YtlhbnbckanmaiaaW.PrintMore Go.Proofs.Ytlhbnbckanmaiaa.PC1
set_option linter.unusedVariables false
set_option linter.unusedSimpArgs false
theorem infoStm2 : (Try.prog.info? 55).map (fun i => (i.zero, i.size, i.bytes)) = some (some (.agg #[.int .i64 0, .int .i64 0, .string ⟨#[]⟩, .string ⟨#[]⟩, .slice none 0 0, .slice none 0 0, .slice none 0 0]), 7, 120) := by kernel_rfl
def StmtsOk (D : Nat) : Prop := ∀ (w0 w : World) (m : Nat), MS w0 w m → ∀ (vals : Int) (nl n : Nat) (v : Value) (R : List ByteArray), 2 ≤ vals → vals ≤ 100 → 1 ≤ nl → nl ≤ 4 → n ≤ 4 → RG w0 w v R → R.length + 10 * D ≤ 900 →
  Calls Try.prog 65 #[.pointer (some ⟨m, 0, none⟩), .agg #[.int .i64 vals, .int .i64 nl, .bool false, .bool false], .int .i64 n, .int .i64 D, v] w
    fun e w' => ∃ vo vr l R', e = .returned (.tuple #[vo, vr]) ∧ Kd.N kStmt 55 w' w.heap.size (fun k => w.heap.size ≤ k) vo l ∧ RG w0 w' vr R' ∧ gdB vals nl D R l R' ∧ l.length ≤ n ∧ MS w0 w' m ∧ Chg (fun k => k = m) w w'
set_option maxHeartbeats 8000000 in
set_option maxRecDepth 100000 in
theorem stmts_step (D : Nat) (ih : ∀ D', D = D' + 1 → StmtsOk D') : StmtsOk D := by
  intro w0 w m hM vals nl n v R hv2 hv100 hn1 hn4 hnn hRG hRl
  obtain ⟨AR, cR, rfl, hcR, -⟩ := hRG.reads
  have HF := Aside0.mk (And.intro hM (And.intro hRG (And.intro hv2 (And.intro hn1 hn4))))
  have HL := Aside0.mk hRl
  have hms := hM.lt
  clear hM hRG hv2 hn1 hn4 hRl
  go_enter Try.func65, Try.ntmps65
  go_wp2_with fail
  have HS0 := Aside0.mk (show SMk w0 w (w.alloc (.cells #[.int .i64 vals, .int .i64 nl, .bool false, .bool false] 94 (0, 0))) m w.heap.size vals nl D R 0 [] R (.slice none 0 0) (.slice AR R.length cR) from
    ⟨HF.out.1.step (below_al (Below.refl _ _) _), blk_new _ _, Nat.le_refl _, hms, Chg.of_below (below_al (Below.refl _ _) _), HF.out.2.1.chg (F := fun _ => False) (Chg.of_below (below_al (Below.refl _ _) _)) (fun _ h => h.elim), Kd.N_nil _ _ _ _ _, by rw [gdB_eq]; rfl, Nat.le_refl _, Nat.le_refl _⟩)
  go_loopw [12, 13, 4] (fun v12 v13 v4 wr => ∃ (i : Nat) (l : List TStmt) (R1 : List ByteArray), i ≤ n ∧ v13 = .int .i64 i ∧ Aside0 (SMk w0 w wr m w.heap.size vals nl D R i l R1 v12 v4)) (fun _ v13 _ _ => n - (intOf v13).toNat)
  case atStart => exact ⟨0, [], R, Nat.zero_le _, rfl, HS0⟩
  case round =>
    clear HS0
    obtain ⟨i, l, R1, hi, rfl, HS⟩ := hrel
    by_cases hlt : i < n
    · have e1 : decide ((i : Int) < (n : Int)) = true := decide_eq_true (by omega)
      have e2 : decide (i < n) = true := decide_eq_true hlt
      obtain ⟨A1, c1, hv4, -, -⟩ := HS.out.rg.reads
      obtain ⟨AO, cO, hv12⟩ := Kd.N_slice HS.out.nn
      subst hv4
      subst hv12
      have hwr : w.heap.size < wr.heap.size := blk_lt HS.out.hbk
      have hbm : ¬ w.heap.size = m := by omega
      have hbs : ¬ w.heap.size = wr.heap.size := by omega
      have hms2 : m ≠ wr.heap.size := by omega
      have hs0 : w0.heap.size ≤ wr.heap.size := HS.out.ms.1.size
      go_wp2_with fail
      have hb1 := below_al (Below.refl wr.heap.size wr) zStm
      have HA1 := Aside0.mk (show MS w0 (wr.alloc zStm) m ∧ Chg (fun k => k = m ∨ k = wr.heap.size) wr (wr.alloc zStm) ∧ (wr.alloc zStm).heap[wr.heap.size]? = some zStm from ⟨HS.out.ms.step hb1, Chg.of_below hb1, blk_new _ _⟩)
      clear hb1
      refine (pick_any w0 _ m HA1.out.1 12).mono ?_
      rintro e w2 ⟨k, rfl, hk0, hk1, hm2, hc2⟩
      have hk12 : k < 12 := by omega
      have HA2 := Aside0.mk (And.intro hm2 (And.intro (HA1.out.2.1.step (hc2.mono (fun _ e => .inl e))) (hc2.heap HA1.out.2.2 (fun q => hms2 q.symm))))
      clear hm2 hc2 hk1 HA1
      go_wp2_with fail
      refine (pick_any w0 _ m HA2.out.1 4).mono ?_
      rintro e w3 ⟨q, rfl, hq0, hq1, hm3, hc3⟩
      have HA3 := Aside0.mk (And.intro hm3 (And.intro (HA2.out.2.1.step (hc3.mono (fun _ e => .inl e))) (hc3.heap HA2.out.2.2 (fun q => hms2 q.symm))))
      clear hm3 hc3 HA2
      go_wp2_with fail
      refine (mreg_any w3 q hq0 (by omega)).mono ?_
      rintro e w4 ⟨rg, rfl, hrg, hd4⟩
      have hd4' := drawn_below' hd4
      have HRGM := Aside0.mk hrg
      have HA4 := Aside0.mk (And.intro (HA3.out.1.step hd4') (And.intro (HA3.out.2.1.step (Chg.of_below hd4')) (blk_below HA3.out.2.2 hd4')))
      clear hd4 hd4' hrg HA3 hq0 hq1
      have x1 := (blk_cell (HA4.out.2.1.heap HS.out.hbk (fun e => e.elim hbm hbs)) 1).trans rfl
      go_wp2_with fail
      refine (pick_any w0 _ m HA4.out.1 (nl : Int)).mono ?_
      rintro e w5 ⟨p, rfl, hp0, hp1, hm5, hc5⟩
      have hpn : p < (nl : Int) := by have := HF.out.2.2.2.1; omega
      have HA5 := Aside0.mk (And.intro hm5 (And.intro (HA4.out.2.1.step (hc5.mono (fun _ e => .inl e))) (hc5.heap HA4.out.2.2 (fun q => hms2 q.symm))))
      clear hm5 hc5 HA4 hp1 x1
      go_wp2_with fail
      refine (mloc_any w5 p nl hp0 hpn HF.out.2.2.2.2).mono ?_
      rintro e w6 ⟨rfl, hd6⟩
      have hd6' := drawn_below' hd6
      obtain ⟨lc, hlc⟩ : ∃ lc, loc4.getD p.toNat ⟨#[]⟩ = lc := ⟨_, rfl⟩
      have HLC := Aside0.mk (show lc ∈ loc4.take nl from hlc ▸ loc_mem p nl hp0 hpn HF.out.2.2.2.2)
      rw [hlc]
      have HA := Aside0.mk (And.intro (HA5.out.1.step hd6') (And.intro (HA5.out.2.1.step (Chg.of_below hd6')) (blk_below HA5.out.2.2 hd6')))
      clear hd6 hd6' HA5 hlc hp0 hpn
      go_upto_block 2 with fail
      go_cut [12] (fun v12 wx => v12 = .slice AO l.length cO ∧ Aside0 (SW w0 wr wx m wr.heap.size vals nl D R1))
      case first =>
        have hb6 := HA.out.2.1.heap HS.out.hbk (fun e => e.elim hbm hbs)
        have h0 := (blk_cell hb6 0).trans rfl
        have h1 := (blk_cell hb6 1).trans rfl
        have h2 := (blk_cell hb6 2).trans rfl
        have h3 := (blk_cell hb6 3).trans rfl
        clear hb6
        by_cases c4 : k < 4
        · have d4 : decide (k < 4) = true := decide_eq_true c4
          clear c4
          go_wp2_with fail
          have hb7 := below_al (Below.refl w6.heap.size w6) (.cells (([0, 1, 4] : List Int).map (fun n => Value.int .i64 n)).toArray 3 (0, 0))
          refine (mode_any w0 _ m (HA.out.1.step hb7) vals nl (some ⟨w6.heap.size, 0, none⟩) 3 [0, 1, 4] (by decide) (consts_C (blk_new _ _) (by decide)) (by decide) (fun ad e => by cases e; show w6.heap.size ≠ m; have := HA.out.1.lt; omega)).mono ?_
          rintro e w7 ⟨md, rfl, hmd, hm7, hc7⟩
          have hc7' := (HA.out.2.1.step (Chg.of_below hb7)).step (hc7.mono (fun _ e => .inl e))
          have hz7 := hc7.heap (blk_below HA.out.2.2 hb7) (fun q => hms2 q.symm)
          have z0 := (blk_cell hz7 0).trans rfl
          have z1 := (blk_cell hz7 1).trans rfl
          have z2 := (blk_cell hz7 2).trans rfl
          have z3 := (blk_cell hz7 3).trans rfl
          have z4 := (blk_cell hz7 4).trans rfl
          have z5 := (blk_cell hz7 5).trans rfl
          have z6 := (blk_cell hz7 6).trans rfl
          have zf := blk_frozen hz7
          have zl := blk_lt hz7
          have HX := Aside0.mk (sw_put (vals := vals) (nl := nl) (D := D) (R := R1) hm7 hc7' hz7 hms2 hs0 2 md rg lc (A := none) (c := 0) [] (Nat.le_refl 0) (Kd.F_nil _ _ _) (gd_mk 2 md rg lc [] (by decide) (by decide) hmd rfl (by simp) HRGM.out HLC.out rfl))
          clear hb7 hc7 hmd
          clear hm7 hc7' hz7 h0 h1 h2 h3
          go_wp2
          go_meet
          exact ⟨rfl, HX⟩
        have d4 : decide (k < 4) = false := decide_eq_false c4
        by_cases c8 : k < 8
        · have d8 : decide (k < 8) = true := decide_eq_true c8
          clear c8 c4 h0 h1 h2 h3
          go_upto_region 13 with fail
          refine wp_region_any (by kernel_rfl) ?_
          obtain ⟨wd, hwd⟩ : ∃ wd, wd = w6.drew := ⟨_, rfl⟩
          change wpAny _ _ _ _ _ _ _ w6.drew
          rw [← hwd]
          have hbd : Below w6.heap.size w6 wd := by rw [hwd]; exact below_drew (Below.refl _ _)
          clear hwd
          have HD := Aside0.mk (And.intro (HA.out.1.step hbd) (And.intro (HA.out.2.1.step (Chg.of_below hbd)) (blk_below HA.out.2.2 hbd)))
          have HBD := Aside0.mk (HD.out.2.1.heap HS.out.hbk (fun e => e.elim hbm hbs))
          have hmd : m < wd.heap.size := HD.out.1.lt
          have hsd : wr.heap.size < wd.heap.size := blk_lt HD.out.2.2
          have HRT := Aside0.mk (show ∀ w9, Chg (fun k => k = m ∨ k = wr.heap.size) wd w9 → RG w0 w9 (.slice A1 R1.length c1) R1 from fun w9 hc9 => HS.out.rg.chg (HD.out.2.1.step hc9) (fun k hk hlt => by
            rcases hk with rfl | rfl
            · obtain ⟨cs, hcs⟩ := HS.out.ms.typ; exact ⟨cs, _, hcs, by decide⟩
            · exact absurd hlt (Nat.lt_irrefl _)))
          clear hbd
          refine wpAny_flow2 rfl (by kernel_rfl) [some 55, some 56, some 57, some 58, some 59, some 60, some 61, some 62, some 63, some 64, some 65, some 66, none] rfl (by decide) [55, 56, 57, 58, 59, 60, 61, 62, 63, 64, 65, 66] rfl 168 rfl (by decide) (PhiM vals nl D R1 wd [Tag.fix (.pointer (some (⟨m, 0, none⟩ : Addr))), Tag.fix (.agg #[.int .i64 vals, .int .i64 (nl : Int), .bool false, .bool false]), Tag.row [0, 2, 4], Tag.mode [0, 2, 4], Tag.fix (.string lc), Tag.fix (.pointer (some (⟨m, 0, none⟩ : Addr))), Tag.fix (.slice A1 R1.length c1), Tag.fix (.pointer (some (⟨w.heap.size, 0, none⟩ : Addr))), Tag.fix (.int .i64 vals), Tag.ex, Tag.exs 1, Tag.stm 3, Tag.any]) (JM w0 wd m wr.heap.size vals nl D R1 3 12) ?_ ?_ ?_ _ _ (by simp) (by decide) (no_flag 13)
          · intro i9 o dd r9 f a w9 ho hp hr9 hI hf hd K hK
            have hi9 : i9 < 13 := (Array.getElem?_eq_some_iff.1 ho).1
            match i9, hi9 with
            | 0, _ =>
              obtain rfl := Option.some.inj ho
              obtain rfl := Option.some.inj hp
              obtain rfl := Option.some.inj hr9
              refine want_yes rfl ?_
              have e := (hI.sl 0 rfl).trans (rfl : _ = (.pointer (some (⟨m, 0, none⟩ : Addr)) : Value))
              unfold Oper.wp; simp [execOp, e, go_sem]; exact hK _ _ (fun _ _ => rfl) (fun _ _ _ _ h => h) (hI.j.other (by decide))
            | 1, _ =>
              obtain rfl := Option.some.inj ho
              obtain rfl := Option.some.inj hp
              obtain rfl := Option.some.inj hr9
              refine want_yes rfl ?_
              have e := (hI.sl 6 rfl).trans (rfl : _ = (.pointer (some (⟨w.heap.size, 0, none⟩ : Addr)) : Value))
              have hk := hI.j.chg.heap HBD.out (fun e => e.elim hbm hbs)
              have c0 := (blk_cell hk 0).trans rfl
              have c1 := (blk_cell hk 1).trans rfl
              have c2 := (blk_cell hk 2).trans rfl
              have c3 := (blk_cell hk 3).trans rfl
              unfold Oper.wp; simp [execOp, e, c0, c1, c2, c3, go_sem]; exact hK _ _ (fun _ _ => rfl) (fun _ _ _ _ h => h) (hI.j.other (by decide))
            | 2, _ =>
              obtain rfl := Option.some.inj ho
              obtain rfl := Option.some.inj hp
              obtain rfl := Option.some.inj hr9
              refine want_yes rfl ?_
              have n3 : f 3 = false := hI.nf2 (i := 2) (k := 3) hf (by kernel_rfl)
              have n11 : f 11 = false := hI.nf2 (i := 3) (k := 11) n3 (by kernel_rfl)
              have n12 : f 12 = false := hI.nf2 (i := 11) (k := 12) n11 (by kernel_rfl)
              have hb := below_al (Below.refl w9.heap.size w9) (.cells (([0, 2, 4] : List Int).map (fun n => Value.int .i64 n)).toArray 3 (0, 0))
              unfold Oper.wp; simp [execOp, go_sem]
              exact hK _ _ (fun _ _ => ⟨w9.heap.size, rfl, hI.j.chg.size, blk_new _ _⟩) (fun _ _ _ _ h => h.move (fun j _ h2 => hb.block j h2)) ((hI.j.below n12 hb).other (by decide))
            | 3, _ =>
              obtain rfl := Option.some.inj ho
              obtain rfl := Option.some.inj hp
              obtain rfl := Option.some.inj hr9
              have e0 : gt a 55 = .pointer (some (⟨m, 0, none⟩ : Addr)) := hI.v 0 55 rfl (hd 0 (of_decide_eq_true (by kernel_rfl)))
              have e1 : gt a 56 = .agg #[.int .i64 vals, .int .i64 (nl : Int), .bool false, .bool false] := hI.v 1 56 rfl (hd 1 (of_decide_eq_true (by kernel_rfl)))
              obtain ⟨b, e2, hb2, hbk2⟩ := (show ∃ b, gt a 57 = .slice (some ⟨b, 0, none⟩) 3 3 ∧ wd.heap.size ≤ b ∧ w9.heap[b]? = some (.cells (([0, 2, 4] : List Int).map (fun n => Value.int .i64 n)).toArray 3 (0, 0)) from hI.v 2 57 rfl (hd 2 (of_decide_eq_true (by kernel_rfl))))
              have n11 : f 11 = false := hI.nf2 (i := 3) (k := 11) hf (by kernel_rfl)
              have n12 : f 12 = false := hI.nf2 (i := 11) (k := 12) n11 (by kernel_rfl)
              refine goes_ (N := some 58) Try.func86 (by kernel_rfl) rfl #[.pointer (some (⟨m, 0, none⟩ : Addr)), .agg #[.int .i64 vals, .int .i64 (nl : Int), .bool false, .bool false], .slice (some ⟨b, 0, none⟩) 3 3] (by simp [Region.wanted]) rfl rfl (by simp [Act.eval]; exact ⟨e0, e1, e2⟩) ?_
              refine Calls.mono (mode_any w0 w9 m hI.j.ms vals nl (some ⟨b, 0, none⟩) 3 [0, 2, 4] (by decide) (consts_C hbk2 (by decide)) (by decide) (fun ad e => by cases e; show b ≠ m; omega)) ?_
              rintro _ w5 ⟨r, rfl, hr, hm5, hc5⟩
              exact ⟨_, rfl, hK _ _ (fun _ _ => ⟨r, rfl, hr⟩) (fun _ _ _ _ h => h.chg hc5 (fun j e => by subst e; exact hmd)) ((hI.j.call n12 hm5 hc5 hms2).other (by decide))⟩
            | 4, _ =>
              obtain rfl := Option.some.inj ho
              obtain rfl := Option.some.inj hp
              obtain rfl := Option.some.inj hr9
              refine want_yes rfl ?_
              have e := (hI.sl 17 rfl).trans (rfl : _ = (.string lc : Value))
              unfold Oper.wp; simp [execOp, e, go_sem]; exact hK _ _ (fun _ _ => rfl) (fun _ _ _ _ h => h) (hI.j.other (by decide))
            | 5, _ =>
              obtain rfl := Option.some.inj ho
              obtain rfl := Option.some.inj hp
              obtain rfl := Option.some.inj hr9
              refine want_yes rfl ?_
              have e := (hI.sl 0 rfl).trans (rfl : _ = (.pointer (some (⟨m, 0, none⟩ : Addr)) : Value))
              unfold Oper.wp; simp [execOp, e, go_sem]; exact hK _ _ (fun _ _ => rfl) (fun _ _ _ _ h => h) (hI.j.other (by decide))
            | 6, _ =>
              obtain rfl := Option.some.inj ho
              obtain rfl := Option.some.inj hp
              obtain rfl := Option.some.inj hr9
              refine want_yes rfl ?_
              have e := (hI.sl 4 rfl).trans (rfl : _ = (.slice A1 R1.length c1 : Value))
              unfold Oper.wp; simp [execOp, e, go_sem]; exact hK _ _ (fun _ _ => rfl) (fun _ _ _ _ h => h) (hI.j.other (by decide))
            | 7, _ =>
              obtain rfl := Option.some.inj ho
              obtain rfl := Option.some.inj hp
              obtain rfl := Option.some.inj hr9
              refine want_yes rfl ?_
              have e := (hI.sl 6 rfl).trans (rfl : _ = (.pointer (some (⟨w.heap.size, 0, none⟩ : Addr)) : Value))
              unfold Oper.wp; simp [execOp, e, go_sem]; exact hK _ _ (fun _ _ => rfl) (fun _ _ _ _ h => h) (hI.j.other (by decide))
            | 8, _ =>
              obtain rfl := Option.some.inj ho
              obtain rfl := Option.some.inj hp
              obtain rfl := Option.some.inj hr9
              refine want_yes rfl ?_
              have e : gt a 62 = .pointer (some (⟨w.heap.size, 0, none⟩ : Addr)) := hI.v 7 62 rfl (hd 7 (of_decide_eq_true (by kernel_rfl)))
              have hk := hI.j.chg.heap HBD.out (fun e => e.elim hbm hbs)
              have c := (blk_cell hk 0).trans rfl
              unfold Oper.wp; simp [execOp, e, c, go_sem]; exact hK _ _ (fun _ _ => rfl) (fun _ _ _ _ h => h) (hI.j.other (by decide))
            | 9, _ =>
              obtain rfl := Option.some.inj ho
              obtain rfl := Option.some.inj hp
              obtain rfl := Option.some.inj hr9
              have e0 : gt a 60 = .pointer (some (⟨m, 0, none⟩ : Addr)) := hI.v 5 60 rfl (hd 5 (of_decide_eq_true (by kernel_rfl)))
              have e1 : gt a 61 = .slice A1 R1.length c1 := hI.v 6 61 rfl (hd 6 (of_decide_eq_true (by kernel_rfl)))
              have e2 : gt a 63 = .int .i64 vals := hI.v 8 63 rfl (hd 8 (of_decide_eq_true (by kernel_rfl)))
              have n10 : f 10 = false := hI.nf2 (i := 9) (k := 10) hf (by kernel_rfl)
              have n11 : f 11 = false := hI.nf2 (i := 10) (k := 11) n10 (by kernel_rfl)
              have n12 : f 12 = false := hI.nf2 (i := 11) (k := 12) n11 (by kernel_rfl)
              have hrg := HRT.out w9 hI.j.chg
              obtain ⟨cm, hcm⟩ := hI.j.ms.typ
              have hrr := Kd.R_reads' hrg
              refine goes_ (N := some 64) Try.func87 (by kernel_rfl) rfl #[.pointer (some (⟨m, 0, none⟩ : Addr)), .slice A1 R1.length c1, .int .i64 vals, .int .i64 1] (by simp [Region.wanted]) rfl rfl (by simp [Act.eval]; exact ⟨e0, e1, e2⟩) ?_
              refine Calls.mono (mexpr_any w0 w9 m hI.j.ms vals HF.out.2.2.1 A1 c1 R1 hrr.2.2 hrr.2.1 (hrg.ne hcm (by decide)) 1 (by decide)) ?_
              rintro _ w5 ⟨x, A3, c3, rfl, hl3, hg3, hF3, hm5, hc5⟩
              exact ⟨_, rfl, hK _ _ (fun _ _ => ⟨x, A3, c3, rfl, hl3, ⟨1, by decide, hg3⟩, Kd.F_mono hF3 (fun k hk => Nat.le_trans hI.j.chg.size hk)⟩) (fun _ _ _ _ h => h.chg hc5 (fun j e => by subst e; exact hmd)) ((hI.j.call n12 hm5 hc5 hms2).other (by decide))⟩
            | 10, _ =>
              obtain rfl := Option.some.inj ho
              obtain rfl := Option.some.inj hp
              obtain rfl := Option.some.inj hr9
              refine want_yes rfl ?_
              obtain ⟨x, A3, c3, e, hl3, hg3, hF3⟩ := (show ∃ (x : TExpr) (A : Option Addr) (c : Nat), gt a 64 = .agg #[.int .i64 x.f0, .int .i64 x.f1, .string x.f2, .slice A x.f3.length c] ∧ x.f3.length ≤ c ∧ (∃ d, d ≤ 2 ∧ geE vals R1 d x) ∧ Kd.F kExpr w9 (fun k => wd.heap.size ≤ k) A x.f3.length x.f3 from hI.v 9 64 rfl (hd 9 (of_decide_eq_true (by kernel_rfl))))
              have n11 : f 11 = false := hI.nf2 (i := 10) (k := 11) hf (by kernel_rfl)
              have n12 : f 12 = false := hI.nf2 (i := 11) (k := 12) n11 (by kernel_rfl)
              have hb := below_al (Below.refl w9.heap.size w9) (.cells #[.int .i64 x.f0, .int .i64 x.f1, .string x.f2, .slice A3 x.f3.length c3] 57 (0, 0))
              unfold Oper.wp; simp [execOp, e, go_sem]
              exact hK _ _ (fun _ _ => ⟨w9.heap.size, [x], rfl, rfl, (fun y hy => by obtain rfl := List.mem_singleton.1 hy; exact hg3), exs_one (blk_new _ _) hI.j.chg.size hl3 (Kd.F_alloc hF3 _)⟩) (fun _ _ _ _ h => h.move (fun j _ h2 => hb.block j h2)) ((hI.j.below n12 hb).other (by decide))
            | 11, _ =>
              obtain rfl := Option.some.inj ho
              obtain rfl := Option.some.inj hp
              obtain rfl := Option.some.inj hr9
              refine want_yes rfl ?_
              obtain ⟨r, e0, hr⟩ := (show ∃ r, gt a 58 = .int .i64 r ∧ r ∈ ([0, 2, 4] : List Int) from hI.v 3 58 rfl (hd 3 (of_decide_eq_true (by kernel_rfl))))
              have e1 : gt a 59 = .string lc := hI.v 4 59 rfl (hd 4 (of_decide_eq_true (by kernel_rfl)))
              obtain ⟨b, xs, e9, hlen, hgs, hF⟩ := (show ∃ (b : Nat) (xs : List TExpr), gt a 65 = .slice (some ⟨b, 0, none⟩) 1 1 ∧ xs.length = 1 ∧ (∀ x ∈ xs, ∃ d, d ≤ 2 ∧ geE vals R1 d x) ∧ Kd.F kExpr w9 (fun k => wd.heap.size ≤ k) (some ⟨b, 0, none⟩) 1 xs from hI.v 10 65 rfl (hd 10 (of_decide_eq_true (by kernel_rfl))))
              unfold Oper.wp; simp [execOp, e0, e1, e9, go_sem]
              exact hK _ _ (fun _ _ => ⟨⟨3, r, ⟨#[]⟩, lc, xs, [], []⟩, [.int .i64 3, .int .i64 r, .string ⟨#[]⟩, .string lc, .slice (some ⟨b, 0, none⟩) xs.length xs.length, .slice none 0 0, .slice none 0 0], by rw [hlen], rfl, gd_mk 3 r ⟨#[]⟩ lc xs (by decide) (by decide) hr (by rw [hlen]; rfl) hgs rfl HLC.out rfl, stm_FK 3 r ⟨#[]⟩ lc xs (Nat.le_refl _) (by rw [hlen]; exact hF)⟩) (fun _ _ _ _ h => h) (hI.j.other (by decide))
            | 12, _ =>
              obtain rfl := Option.some.inj ho
              obtain rfl := Option.some.inj hp
              obtain rfl := Option.some.inj hr9
              refine want_yes rfl ?_
              have e := (hI.sl 14 rfl).trans (rfl : _ = (.pointer (some (⟨wr.heap.size, 0, none⟩ : Addr)) : Value))
              obtain ⟨x, cs, e1, hk0, hgd, hFK⟩ := (show ∃ (x : TStmt) (cs : List Value), gt a 66 = .agg cs.toArray ∧ x.f0 = 3 ∧ gdS vals nl (recB vals nl D) R1 x ∧ Kd.FK kStmt w9 (fun k => wd.heap.size ≤ k) x cs from hI.v 11 66 rfl (hd 11 (of_decide_eq_true (by kernel_rfl))))
              obtain ⟨A4, c4, A5, c5, A6, c6, rfl, -, -, -, -, -, -⟩ := k55_openF hFK
              have hz := hI.j.zb hf
              have c0' := (blk_cell hz 0).trans rfl
              have c1' := (blk_cell hz 1).trans rfl
              have c2' := (blk_cell hz 2).trans rfl
              have c3' := (blk_cell hz 3).trans rfl
              have c4' := (blk_cell hz 4).trans rfl
              have c5' := (blk_cell hz 5).trans rfl
              have c6' := (blk_cell hz 6).trans rfl
              have fz := blk_frozen hz
              obtain ⟨hp7, hch7⟩ := put7 hz (.int .i64 x.f0) (.int .i64 x.f1) (.string x.f2) (.string x.f3) (.slice A4 x.f4.length c4) (.slice A5 x.f5.length c5) (.slice A6 x.f6.length c6)
              unfold Oper.wp; simp [execOp, e, e1, c0', c1', c2', c3', c4', c5', c6', fz, go_sem]
              exact hK undef _ (fun d h => by cases h) (fun _ _ _ _ h => h.chg hch7 (fun j e => by subst e; exact hsd)) ⟨hI.j.ms.chg hch7 hms2 (fun _ e => e ▸ hs0), hI.j.chg.step (hch7.mono (fun _ e => .inr e)), fun e => absurd ((upd_eq f 12).symm.trans e) (by decide), fun _ => ⟨x, _, hp7, hk0, hgd, Kd.FK_step hFK (fun j h1 h2 => hch7.block j h2 (fun e => by omega))⟩⟩
          · intro f g w9 hall hJ hg
            have HX := Aside0.mk (show SW w0 wr w9 m wr.heap.size vals nl D R1 from by
              obtain ⟨x, cs, h1, h2, h3, h4⟩ := hJ.st (hall 12 (by decide))
              exact ⟨hJ.ms, HD.out.2.1.step hJ.chg, x, cs, h1, h3, Kd.FK_mono h4 (fun k hk => by omega)⟩)
            clear hJ hg
            simp only [List.map_cons, List.map_nil, fill, List.setIfInBounds_toArray, List.set_cons_zero, List.set_cons_succ]
            go_wp2
            go_meet
            exact ⟨rfl, HX⟩
          · intro f hf
            exact ⟨HD.out.1, Chg.refl _ _, fun _ => HD.out.2.2, fun e => absurd ((hf 12).symm.trans e) (by decide)⟩
        by_cases c88 : k = 8
        · subst c88
          clear c8 c4 d4 h0 h1 h2 h3
          go_upto_region 15 with fail
          refine wp_region_any (by kernel_rfl) ?_
          obtain ⟨wd, hwd⟩ : ∃ wd, wd = w6.drew := ⟨_, rfl⟩
          change wpAny _ _ _ _ _ _ _ w6.drew
          rw [← hwd]
          have hbd : Below w6.heap.size w6 wd := by rw [hwd]; exact below_drew (Below.refl _ _)
          clear hwd
          have HD := Aside0.mk (And.intro (HA.out.1.step hbd) (And.intro (HA.out.2.1.step (Chg.of_below hbd)) (blk_below HA.out.2.2 hbd)))
          have HBD := Aside0.mk (HD.out.2.1.heap HS.out.hbk (fun e => e.elim hbm hbs))
          have hmd : m < wd.heap.size := HD.out.1.lt
          have hsd : wr.heap.size < wd.heap.size := blk_lt HD.out.2.2
          have HRT := Aside0.mk (show ∀ w9, Chg (fun k => k = m ∨ k = wr.heap.size) wd w9 → RG w0 w9 (.slice A1 R1.length c1) R1 from fun w9 hc9 => HS.out.rg.chg (HD.out.2.1.step hc9) (fun k hk hlt => by
            rcases hk with rfl | rfl
            · obtain ⟨cs, hcs⟩ := HS.out.ms.typ; exact ⟨cs, _, hcs, by decide⟩
            · exact absurd hlt (Nat.lt_irrefl _)))
          clear hbd
          refine wpAny_flow2 rfl (by kernel_rfl) [some 70, some 71, some 72, some 73, some 74, some 75, some 76, some 77, some 78, some 79, some 80, some 81, some 82, none] rfl (by decide) [70, 71, 72, 73, 74, 75, 76, 77, 78, 79, 80, 81, 82] rfl 168 rfl (by decide) (PhiM vals nl D R1 wd [Tag.fix (.pointer (some (⟨m, 0, none⟩ : Addr))), Tag.fix (.agg #[.int .i64 vals, .int .i64 (nl : Int), .bool false, .bool false]), Tag.row [0, 1, 2, 3, 4], Tag.mode [0, 1, 2, 3, 4], Tag.fix (.string rg), Tag.fix (.string lc), Tag.fix (.pointer (some (⟨m, 0, none⟩ : Addr))), Tag.fix (.slice A1 R1.length c1), Tag.fix (.pointer (some (⟨w.heap.size, 0, none⟩ : Addr))), Tag.fix (.int .i64 vals), Tag.ex, Tag.exs 1, Tag.stm 4, Tag.any]) (JM w0 wd m wr.heap.size vals nl D R1 4 13) ?_ ?_ ?_ _ _ (by simp) (by decide) (no_flag 14)
          · intro i9 o dd r9 f a w9 ho hp hr9 hI hf hd K hK
            have hi9 : i9 < 14 := (Array.getElem?_eq_some_iff.1 ho).1
            match i9, hi9 with
            | 0, _ =>
              obtain rfl := Option.some.inj ho
              obtain rfl := Option.some.inj hp
              obtain rfl := Option.some.inj hr9
              refine want_yes rfl ?_
              have e := (hI.sl 0 rfl).trans (rfl : _ = (.pointer (some (⟨m, 0, none⟩ : Addr)) : Value))
              unfold Oper.wp; simp [execOp, e, go_sem]; exact hK _ _ (fun _ _ => rfl) (fun _ _ _ _ h => h) (hI.j.other (by decide))
            | 1, _ =>
              obtain rfl := Option.some.inj ho
              obtain rfl := Option.some.inj hp
              obtain rfl := Option.some.inj hr9
              refine want_yes rfl ?_
              have e := (hI.sl 6 rfl).trans (rfl : _ = (.pointer (some (⟨w.heap.size, 0, none⟩ : Addr)) : Value))
              have hk := hI.j.chg.heap HBD.out (fun e => e.elim hbm hbs)
              have c0 := (blk_cell hk 0).trans rfl
              have c1 := (blk_cell hk 1).trans rfl
              have c2 := (blk_cell hk 2).trans rfl
              have c3 := (blk_cell hk 3).trans rfl
              unfold Oper.wp; simp [execOp, e, c0, c1, c2, c3, go_sem]; exact hK _ _ (fun _ _ => rfl) (fun _ _ _ _ h => h) (hI.j.other (by decide))
            | 2, _ =>
              obtain rfl := Option.some.inj ho
              obtain rfl := Option.some.inj hp
              obtain rfl := Option.some.inj hr9
              refine want_yes rfl ?_
              have n3 : f 3 = false := hI.nf2 (i := 2) (k := 3) hf (by kernel_rfl)
              have n12 : f 12 = false := hI.nf2 (i := 3) (k := 12) n3 (by kernel_rfl)
              have n13 : f 13 = false := hI.nf2 (i := 12) (k := 13) n12 (by kernel_rfl)
              have hb := below_al (Below.refl w9.heap.size w9) (.cells (([0, 1, 2, 3, 4] : List Int).map (fun n => Value.int .i64 n)).toArray 3 (0, 0))
              unfold Oper.wp; simp [execOp, go_sem]
              exact hK _ _ (fun _ _ => ⟨w9.heap.size, rfl, hI.j.chg.size, blk_new _ _⟩) (fun _ _ _ _ h => h.move (fun j _ h2 => hb.block j h2)) ((hI.j.below n13 hb).other (by decide))
            | 3, _ =>
              obtain rfl := Option.some.inj ho
              obtain rfl := Option.some.inj hp
              obtain rfl := Option.some.inj hr9
              have e0 : gt a 70 = .pointer (some (⟨m, 0, none⟩ : Addr)) := hI.v 0 70 rfl (hd 0 (of_decide_eq_true (by kernel_rfl)))
              have e1 : gt a 71 = .agg #[.int .i64 vals, .int .i64 (nl : Int), .bool false, .bool false] := hI.v 1 71 rfl (hd 1 (of_decide_eq_true (by kernel_rfl)))
              obtain ⟨b, e2, hb2, hbk2⟩ := (show ∃ b, gt a 72 = .slice (some ⟨b, 0, none⟩) 5 5 ∧ wd.heap.size ≤ b ∧ w9.heap[b]? = some (.cells (([0, 1, 2, 3, 4] : List Int).map (fun n => Value.int .i64 n)).toArray 3 (0, 0)) from hI.v 2 72 rfl (hd 2 (of_decide_eq_true (by kernel_rfl))))
              have n12 : f 12 = false := hI.nf2 (i := 3) (k := 12) hf (by kernel_rfl)
              have n13 : f 13 = false := hI.nf2 (i := 12) (k := 13) n12 (by kernel_rfl)
              refine goes_ (N := some 73) Try.func86 (by kernel_rfl) rfl #[.pointer (some (⟨m, 0, none⟩ : Addr)), .agg #[.int .i64 vals, .int .i64 (nl : Int), .bool false, .bool false], .slice (some ⟨b, 0, none⟩) 5 5] (by simp [Region.wanted]) rfl rfl (by simp [Act.eval]; exact ⟨e0, e1, e2⟩) ?_
              refine Calls.mono (mode_any w0 w9 m hI.j.ms vals nl (some ⟨b, 0, none⟩) 5 [0, 1, 2, 3, 4] (by decide) (consts_C hbk2 (by decide)) (by decide) (fun ad e => by cases e; show b ≠ m; omega)) ?_
              rintro _ w5 ⟨r, rfl, hr, hm5, hc5⟩
              exact ⟨_, rfl, hK _ _ (fun _ _ => ⟨r, rfl, hr⟩) (fun _ _ _ _ h => h.chg hc5 (fun j e => by subst e; exact hmd)) ((hI.j.call n13 hm5 hc5 hms2).other (by decide))⟩
            | 4, _ =>
              obtain rfl := Option.some.inj ho
              obtain rfl := Option.some.inj hp
              obtain rfl := Option.some.inj hr9
              refine want_yes rfl ?_
              have e := (hI.sl 16 rfl).trans (rfl : _ = (.string rg : Value))
              unfold Oper.wp; simp [execOp, e, go_sem]; exact hK _ _ (fun _ _ => rfl) (fun _ _ _ _ h => h) (hI.j.other (by decide))
            | 5, _ =>
              obtain rfl := Option.some.inj ho
              obtain rfl := Option.some.inj hp
              obtain rfl := Option.some.inj hr9
              refine want_yes rfl ?_
              have e := (hI.sl 17 rfl).trans (rfl : _ = (.string lc : Value))
              unfold Oper.wp; simp [execOp, e, go_sem]; exact hK _ _ (fun _ _ => rfl) (fun _ _ _ _ h => h) (hI.j.other (by decide))
            | 6, _ =>
              obtain rfl := Option.some.inj ho
              obtain rfl := Option.some.inj hp
              obtain rfl := Option.some.inj hr9
              refine want_yes rfl ?_
              have e := (hI.sl 0 rfl).trans (rfl : _ = (.pointer (some (⟨m, 0, none⟩ : Addr)) : Value))
              unfold Oper.wp; simp [execOp, e, go_sem]; exact hK _ _ (fun _ _ => rfl) (fun _ _ _ _ h => h) (hI.j.other (by decide))
            | 7, _ =>
              obtain rfl := Option.some.inj ho
              obtain rfl := Option.some.inj hp
              obtain rfl := Option.some.inj hr9
              refine want_yes rfl ?_
              have e := (hI.sl 4 rfl).trans (rfl : _ = (.slice A1 R1.length c1 : Value))
              unfold Oper.wp; simp [execOp, e, go_sem]; exact hK _ _ (fun _ _ => rfl) (fun _ _ _ _ h => h) (hI.j.other (by decide))
            | 8, _ =>
              obtain rfl := Option.some.inj ho
              obtain rfl := Option.some.inj hp
              obtain rfl := Option.some.inj hr9
              refine want_yes rfl ?_
              have e := (hI.sl 6 rfl).trans (rfl : _ = (.pointer (some (⟨w.heap.size, 0, none⟩ : Addr)) : Value))
              unfold Oper.wp; simp [execOp, e, go_sem]; exact hK _ _ (fun _ _ => rfl) (fun _ _ _ _ h => h) (hI.j.other (by decide))
            | 9, _ =>
              obtain rfl := Option.some.inj ho
              obtain rfl := Option.some.inj hp
              obtain rfl := Option.some.inj hr9
              refine want_yes rfl ?_
              have e : gt a 78 = .pointer (some (⟨w.heap.size, 0, none⟩ : Addr)) := hI.v 8 78 rfl (hd 8 (of_decide_eq_true (by kernel_rfl)))
              have hk := hI.j.chg.heap HBD.out (fun e => e.elim hbm hbs)
              have c := (blk_cell hk 0).trans rfl
              unfold Oper.wp; simp [execOp, e, c, go_sem]; exact hK _ _ (fun _ _ => rfl) (fun _ _ _ _ h => h) (hI.j.other (by decide))
            | 10, _ =>
              obtain rfl := Option.some.inj ho
              obtain rfl := Option.some.inj hp
              obtain rfl := Option.some.inj hr9
              have e0 : gt a 76 = .pointer (some (⟨m, 0, none⟩ : Addr)) := hI.v 6 76 rfl (hd 6 (of_decide_eq_true (by kernel_rfl)))
              have e1 : gt a 77 = .slice A1 R1.length c1 := hI.v 7 77 rfl (hd 7 (of_decide_eq_true (by kernel_rfl)))
              have e2 : gt a 79 = .int .i64 vals := hI.v 9 79 rfl (hd 9 (of_decide_eq_true (by kernel_rfl)))
              have n11 : f 11 = false := hI.nf2 (i := 10) (k := 11) hf (by kernel_rfl)
              have n12 : f 12 = false := hI.nf2 (i := 11) (k := 12) n11 (by kernel_rfl)
              have n13 : f 13 = false := hI.nf2 (i := 12) (k := 13) n12 (by kernel_rfl)
              have hrg := HRT.out w9 hI.j.chg
              obtain ⟨cm, hcm⟩ := hI.j.ms.typ
              have hrr := Kd.R_reads' hrg
              refine goes_ (N := some 80) Try.func87 (by kernel_rfl) rfl #[.pointer (some (⟨m, 0, none⟩ : Addr)), .slice A1 R1.length c1, .int .i64 vals, .int .i64 1] (by simp [Region.wanted]) rfl rfl (by simp [Act.eval]; exact ⟨e0, e1, e2⟩) ?_
              refine Calls.mono (mexpr_any w0 w9 m hI.j.ms vals HF.out.2.2.1 A1 c1 R1 hrr.2.2 hrr.2.1 (hrg.ne hcm (by decide)) 1 (by decide)) ?_
              rintro _ w5 ⟨x, A3, c3, rfl, hl3, hg3, hF3, hm5, hc5⟩
              exact ⟨_, rfl, hK _ _ (fun _ _ => ⟨x, A3, c3, rfl, hl3, ⟨1, by decide, hg3⟩, Kd.F_mono hF3 (fun k hk => Nat.le_trans hI.j.chg.size hk)⟩) (fun _ _ _ _ h => h.chg hc5 (fun j e => by subst e; exact hmd)) ((hI.j.call n13 hm5 hc5 hms2).other (by decide))⟩
            | 11, _ =>
              obtain rfl := Option.some.inj ho
              obtain rfl := Option.some.inj hp
              obtain rfl := Option.some.inj hr9
              refine want_yes rfl ?_
              obtain ⟨x, A3, c3, e, hl3, hg3, hF3⟩ := (show ∃ (x : TExpr) (A : Option Addr) (c : Nat), gt a 80 = .agg #[.int .i64 x.f0, .int .i64 x.f1, .string x.f2, .slice A x.f3.length c] ∧ x.f3.length ≤ c ∧ (∃ d, d ≤ 2 ∧ geE vals R1 d x) ∧ Kd.F kExpr w9 (fun k => wd.heap.size ≤ k) A x.f3.length x.f3 from hI.v 10 80 rfl (hd 10 (of_decide_eq_true (by kernel_rfl))))
              have n12 : f 12 = false := hI.nf2 (i := 11) (k := 12) hf (by kernel_rfl)
              have n13 : f 13 = false := hI.nf2 (i := 12) (k := 13) n12 (by kernel_rfl)
              have hb := below_al (Below.refl w9.heap.size w9) (.cells #[.int .i64 x.f0, .int .i64 x.f1, .string x.f2, .slice A3 x.f3.length c3] 57 (0, 0))
              unfold Oper.wp; simp [execOp, e, go_sem]
              exact hK _ _ (fun _ _ => ⟨w9.heap.size, [x], rfl, rfl, (fun y hy => by obtain rfl := List.mem_singleton.1 hy; exact hg3), exs_one (blk_new _ _) hI.j.chg.size hl3 (Kd.F_alloc hF3 _)⟩) (fun _ _ _ _ h => h.move (fun j _ h2 => hb.block j h2)) ((hI.j.below n13 hb).other (by decide))
            | 12, _ =>
              obtain rfl := Option.some.inj ho
              obtain rfl := Option.some.inj hp
              obtain rfl := Option.some.inj hr9
              refine want_yes rfl ?_
              obtain ⟨r, e0, hr⟩ := (show ∃ r, gt a 73 = .int .i64 r ∧ r ∈ ([0, 1, 2, 3, 4] : List Int) from hI.v 3 73 rfl (hd 3 (of_decide_eq_true (by kernel_rfl))))
              have e1 : gt a 74 = .string rg := hI.v 4 74 rfl (hd 4 (of_decide_eq_true (by kernel_rfl)))
              have e2 : gt a 75 = .string lc := hI.v 5 75 rfl (hd 5 (of_decide_eq_true (by kernel_rfl)))
              obtain ⟨b, xs, e9, hlen, hgs, hF⟩ := (show ∃ (b : Nat) (xs : List TExpr), gt a 81 = .slice (some ⟨b, 0, none⟩) 1 1 ∧ xs.length = 1 ∧ (∀ x ∈ xs, ∃ d, d ≤ 2 ∧ geE vals R1 d x) ∧ Kd.F kExpr w9 (fun k => wd.heap.size ≤ k) (some ⟨b, 0, none⟩) 1 xs from hI.v 11 81 rfl (hd 11 (of_decide_eq_true (by kernel_rfl))))
              unfold Oper.wp; simp [execOp, e0, e1, e2, e9, go_sem]
              exact hK _ _ (fun _ _ => ⟨⟨4, r, rg, lc, xs, [], []⟩, [.int .i64 4, .int .i64 r, .string rg, .string lc, .slice (some ⟨b, 0, none⟩) xs.length xs.length, .slice none 0 0, .slice none 0 0], by rw [hlen], rfl, gd_mk 4 r rg lc xs (by decide) (by decide) hr (by rw [hlen]; rfl) hgs HRGM.out HLC.out rfl, stm_FK 4 r rg lc xs (Nat.le_refl _) (by rw [hlen]; exact hF)⟩) (fun _ _ _ _ h => h) (hI.j.other (by decide))
            | 13, _ =>
              obtain rfl := Option.some.inj ho
              obtain rfl := Option.some.inj hp
              obtain rfl := Option.some.inj hr9
              refine want_yes rfl ?_
              have e := (hI.sl 14 rfl).trans (rfl : _ = (.pointer (some (⟨wr.heap.size, 0, none⟩ : Addr)) : Value))
              obtain ⟨x, cs, e1, hk0, hgd, hFK⟩ := (show ∃ (x : TStmt) (cs : List Value), gt a 82 = .agg cs.toArray ∧ x.f0 = 4 ∧ gdS vals nl (recB vals nl D) R1 x ∧ Kd.FK kStmt w9 (fun k => wd.heap.size ≤ k) x cs from hI.v 12 82 rfl (hd 12 (of_decide_eq_true (by kernel_rfl))))
              obtain ⟨A4, c4, A5, c5, A6, c6, rfl, -, -, -, -, -, -⟩ := k55_openF hFK
              have hz := hI.j.zb hf
              have c0' := (blk_cell hz 0).trans rfl
              have c1' := (blk_cell hz 1).trans rfl
              have c2' := (blk_cell hz 2).trans rfl
              have c3' := (blk_cell hz 3).trans rfl
              have c4' := (blk_cell hz 4).trans rfl
              have c5' := (blk_cell hz 5).trans rfl
              have c6' := (blk_cell hz 6).trans rfl
              have fz := blk_frozen hz
              obtain ⟨hp7, hch7⟩ := put7 hz (.int .i64 x.f0) (.int .i64 x.f1) (.string x.f2) (.string x.f3) (.slice A4 x.f4.length c4) (.slice A5 x.f5.length c5) (.slice A6 x.f6.length c6)
              unfold Oper.wp; simp [execOp, e, e1, c0', c1', c2', c3', c4', c5', c6', fz, go_sem]
              exact hK undef _ (fun d h => by cases h) (fun _ _ _ _ h => h.chg hch7 (fun j e => by subst e; exact hsd)) ⟨hI.j.ms.chg hch7 hms2 (fun _ e => e ▸ hs0), hI.j.chg.step (hch7.mono (fun _ e => .inr e)), fun e => absurd ((upd_eq f 13).symm.trans e) (by decide), fun _ => ⟨x, _, hp7, hk0, hgd, Kd.FK_step hFK (fun j h1 h2 => hch7.block j h2 (fun e => by omega))⟩⟩
          · intro f g w9 hall hJ hg
            have HX := Aside0.mk (show SW w0 wr w9 m wr.heap.size vals nl D R1 from by
              obtain ⟨x, cs, h1, h2, h3, h4⟩ := hJ.st (hall 13 (by decide))
              exact ⟨hJ.ms, HD.out.2.1.step hJ.chg, x, cs, h1, h3, Kd.FK_mono h4 (fun k hk => by omega)⟩)
            clear hJ hg
            simp only [List.map_cons, List.map_nil, fill, List.setIfInBounds_toArray, List.set_cons_zero, List.set_cons_succ]
            go_wp2
            go_meet
            exact ⟨rfl, HX⟩
          · intro f hf
            exact ⟨HD.out.1, Chg.refl _ _, fun _ => HD.out.2.2, fun e => absurd ((hf 13).symm.trans e) (by decide)⟩
        by_cases c9 : k = 9
        · subst c9
          clear c8 c4 d4 c88
          by_cases hD : D = 0
          · have dD : decide (0 < (D : Int)) = false := decide_eq_false (by omega)
            clear h0 h1 h2 h3
            go_upto_region 23 with fail
            refine wp_region_any (by kernel_rfl) ?_
            obtain ⟨wd, hwd⟩ : ∃ wd, wd = w6.drew := ⟨_, rfl⟩
            change wpAny _ _ _ _ _ _ _ w6.drew
            rw [← hwd]
            have hbd : Below w6.heap.size w6 wd := by rw [hwd]; exact below_drew (Below.refl _ _)
            clear hwd
            have HD := Aside0.mk (And.intro (HA.out.1.step hbd) (And.intro (HA.out.2.1.step (Chg.of_below hbd)) (blk_below HA.out.2.2 hbd)))
            have HBD := Aside0.mk (HD.out.2.1.heap HS.out.hbk (fun e => e.elim hbm hbs))
            have hmd : m < wd.heap.size := HD.out.1.lt
            have hsd : wr.heap.size < wd.heap.size := blk_lt HD.out.2.2
            have HRT := Aside0.mk (show ∀ w9, Chg (fun k => k = m ∨ k = wr.heap.size) wd w9 → RG w0 w9 (.slice A1 R1.length c1) R1 from fun w9 hc9 => HS.out.rg.chg (HD.out.2.1.step hc9) (fun k hk hlt => by
              rcases hk with rfl | rfl
              · obtain ⟨cs, hcs⟩ := HS.out.ms.typ; exact ⟨cs, _, hcs, by decide⟩
              · exact absurd hlt (Nat.lt_irrefl _)))
            clear hbd
            refine wpAny_flow2 rfl (by kernel_rfl) [some 127, some 128, some 129, some 130, some 131, some 132, some 133, some 134, some 135, some 136, some 137, some 138, some 139, some 140, some 141, some 142, some 143, some 144, none] rfl (by decide) [127, 128, 129, 130, 131, 132, 133, 134, 135, 136, 137, 138, 139, 140, 141, 142, 143, 144] rfl 168 rfl (by decide) (PhiM vals nl D R1 wd [Tag.fix (.pointer (some (⟨m, 0, none⟩ : Addr))), Tag.fix (.agg #[.int .i64 vals, .int .i64 (nl : Int), .bool false, .bool false]), Tag.row [0, 1, 2, 3, 4], Tag.mode [0, 1, 2, 3, 4], Tag.fix (.string rg), Tag.fix (.string lc), Tag.fix (.pointer (some (⟨m, 0, none⟩ : Addr))), Tag.fix (.slice A1 R1.length c1), Tag.fix (.pointer (some (⟨w.heap.size, 0, none⟩ : Addr))), Tag.fix (.int .i64 vals), Tag.ex, Tag.fix (.pointer (some (⟨m, 0, none⟩ : Addr))), Tag.fix (.slice A1 R1.length c1), Tag.fix (.pointer (some (⟨w.heap.size, 0, none⟩ : Addr))), Tag.fix (.int .i64 vals), Tag.ex, Tag.exs 2, Tag.stm 5, Tag.any]) (JM w0 wd m wr.heap.size vals nl D R1 5 18) ?_ ?_ ?_ _ _ (by simp) (by decide) (no_flag 19)
            · intro i9 o dd r9 f a w9 ho hp hr9 hI hf hd K hK
              have hi9 : i9 < 19 := (Array.getElem?_eq_some_iff.1 ho).1
              match i9, hi9 with
              | 0, _ =>
                obtain rfl := Option.some.inj ho
                obtain rfl := Option.some.inj hp
                obtain rfl := Option.some.inj hr9
                refine want_yes rfl ?_
                have e := (hI.sl 0 rfl).trans (rfl : _ = (.pointer (some (⟨m, 0, none⟩ : Addr)) : Value))
                unfold Oper.wp; simp [execOp, e, go_sem]; exact hK _ _ (fun _ _ => rfl) (fun _ _ _ _ h => h) (hI.j.other (by decide))
              | 1, _ =>
                obtain rfl := Option.some.inj ho
                obtain rfl := Option.some.inj hp
                obtain rfl := Option.some.inj hr9
                refine want_yes rfl ?_
                have e := (hI.sl 6 rfl).trans (rfl : _ = (.pointer (some (⟨w.heap.size, 0, none⟩ : Addr)) : Value))
                have hk := hI.j.chg.heap HBD.out (fun e => e.elim hbm hbs)
                have c0 := (blk_cell hk 0).trans rfl
                have c1 := (blk_cell hk 1).trans rfl
                have c2 := (blk_cell hk 2).trans rfl
                have c3 := (blk_cell hk 3).trans rfl
                unfold Oper.wp; simp [execOp, e, c0, c1, c2, c3, go_sem]; exact hK _ _ (fun _ _ => rfl) (fun _ _ _ _ h => h) (hI.j.other (by decide))
              | 2, _ =>
                obtain rfl := Option.some.inj ho
                obtain rfl := Option.some.inj hp
                obtain rfl := Option.some.inj hr9
                refine want_yes rfl ?_
                have n3 : f 3 = false := hI.nf2 (i := 2) (k := 3) hf (by kernel_rfl)
                have n17 : f 17 = false := hI.nf2 (i := 3) (k := 17) n3 (by kernel_rfl)
                have n18 : f 18 = false := hI.nf2 (i := 17) (k := 18) n17 (by kernel_rfl)
                have hb := below_al (Below.refl w9.heap.size w9) (.cells (([0, 1, 2, 3, 4] : List Int).map (fun n => Value.int .i64 n)).toArray 3 (0, 0))
                unfold Oper.wp; simp [execOp, go_sem]
                exact hK _ _ (fun _ _ => ⟨w9.heap.size, rfl, hI.j.chg.size, blk_new _ _⟩) (fun _ _ _ _ h => h.move (fun j _ h2 => hb.block j h2)) ((hI.j.below n18 hb).other (by decide))
              | 3, _ =>
                obtain rfl := Option.some.inj ho
                obtain rfl := Option.some.inj hp
                obtain rfl := Option.some.inj hr9
                have e0 : gt a 127 = .pointer (some (⟨m, 0, none⟩ : Addr)) := hI.v 0 127 rfl (hd 0 (of_decide_eq_true (by kernel_rfl)))
                have e1 : gt a 128 = .agg #[.int .i64 vals, .int .i64 (nl : Int), .bool false, .bool false] := hI.v 1 128 rfl (hd 1 (of_decide_eq_true (by kernel_rfl)))
                obtain ⟨b, e2, hb2, hbk2⟩ := (show ∃ b, gt a 129 = .slice (some ⟨b, 0, none⟩) 5 5 ∧ wd.heap.size ≤ b ∧ w9.heap[b]? = some (.cells (([0, 1, 2, 3, 4] : List Int).map (fun n => Value.int .i64 n)).toArray 3 (0, 0)) from hI.v 2 129 rfl (hd 2 (of_decide_eq_true (by kernel_rfl))))
                have n17 : f 17 = false := hI.nf2 (i := 3) (k := 17) hf (by kernel_rfl)
                have n18 : f 18 = false := hI.nf2 (i := 17) (k := 18) n17 (by kernel_rfl)
                refine goes_ (N := some 130) Try.func86 (by kernel_rfl) rfl #[.pointer (some (⟨m, 0, none⟩ : Addr)), .agg #[.int .i64 vals, .int .i64 (nl : Int), .bool false, .bool false], .slice (some ⟨b, 0, none⟩) 5 5] (by simp [Region.wanted]) rfl rfl (by simp [Act.eval]; exact ⟨e0, e1, e2⟩) ?_
                refine Calls.mono (mode_any w0 w9 m hI.j.ms vals nl (some ⟨b, 0, none⟩) 5 [0, 1, 2, 3, 4] (by decide) (consts_C hbk2 (by decide)) (by decide) (fun ad e => by cases e; show b ≠ m; omega)) ?_
                rintro _ w5 ⟨r, rfl, hr, hm5, hc5⟩
                exact ⟨_, rfl, hK _ _ (fun _ _ => ⟨r, rfl, hr⟩) (fun _ _ _ _ h => h.chg hc5 (fun j e => by subst e; exact hmd)) ((hI.j.call n18 hm5 hc5 hms2).other (by decide))⟩
              | 4, _ =>
                obtain rfl := Option.some.inj ho
                obtain rfl := Option.some.inj hp
                obtain rfl := Option.some.inj hr9
                refine want_yes rfl ?_
                have e := (hI.sl 16 rfl).trans (rfl : _ = (.string rg : Value))
                unfold Oper.wp; simp [execOp, e, go_sem]; exact hK _ _ (fun _ _ => rfl) (fun _ _ _ _ h => h) (hI.j.other (by decide))
              | 5, _ =>
                obtain rfl := Option.some.inj ho
                obtain rfl := Option.some.inj hp
                obtain rfl := Option.some.inj hr9
                refine want_yes rfl ?_
                have e := (hI.sl 17 rfl).trans (rfl : _ = (.string lc : Value))
                unfold Oper.wp; simp [execOp, e, go_sem]; exact hK _ _ (fun _ _ => rfl) (fun _ _ _ _ h => h) (hI.j.other (by decide))
              | 6, _ =>
                obtain rfl := Option.some.inj ho
                obtain rfl := Option.some.inj hp
                obtain rfl := Option.some.inj hr9
                refine want_yes rfl ?_
                have e := (hI.sl 0 rfl).trans (rfl : _ = (.pointer (some (⟨m, 0, none⟩ : Addr)) : Value))
                unfold Oper.wp; simp [execOp, e, go_sem]; exact hK _ _ (fun _ _ => rfl) (fun _ _ _ _ h => h) (hI.j.other (by decide))
              | 7, _ =>
                obtain rfl := Option.some.inj ho
                obtain rfl := Option.some.inj hp
                obtain rfl := Option.some.inj hr9
                refine want_yes rfl ?_
                have e := (hI.sl 4 rfl).trans (rfl : _ = (.slice A1 R1.length c1 : Value))
                unfold Oper.wp; simp [execOp, e, go_sem]; exact hK _ _ (fun _ _ => rfl) (fun _ _ _ _ h => h) (hI.j.other (by decide))
              | 8, _ =>
                obtain rfl := Option.some.inj ho
                obtain rfl := Option.some.inj hp
                obtain rfl := Option.some.inj hr9
                refine want_yes rfl ?_
                have e := (hI.sl 6 rfl).trans (rfl : _ = (.pointer (some (⟨w.heap.size, 0, none⟩ : Addr)) : Value))
                unfold Oper.wp; simp [execOp, e, go_sem]; exact hK _ _ (fun _ _ => rfl) (fun _ _ _ _ h => h) (hI.j.other (by decide))
              | 9, _ =>
                obtain rfl := Option.some.inj ho
                obtain rfl := Option.some.inj hp
                obtain rfl := Option.some.inj hr9
                refine want_yes rfl ?_
                have e : gt a 135 = .pointer (some (⟨w.heap.size, 0, none⟩ : Addr)) := hI.v 8 135 rfl (hd 8 (of_decide_eq_true (by kernel_rfl)))
                have hk := hI.j.chg.heap HBD.out (fun e => e.elim hbm hbs)
                have c := (blk_cell hk 0).trans rfl
                unfold Oper.wp; simp [execOp, e, c, go_sem]; exact hK _ _ (fun _ _ => rfl) (fun _ _ _ _ h => h) (hI.j.other (by decide))
              | 10, _ =>
                obtain rfl := Option.some.inj ho
                obtain rfl := Option.some.inj hp
                obtain rfl := Option.some.inj hr9
                have e0 : gt a 133 = .pointer (some (⟨m, 0, none⟩ : Addr)) := hI.v 6 133 rfl (hd 6 (of_decide_eq_true (by kernel_rfl)))
                have e1 : gt a 134 = .slice A1 R1.length c1 := hI.v 7 134 rfl (hd 7 (of_decide_eq_true (by kernel_rfl)))
                have e2 : gt a 136 = .int .i64 vals := hI.v 9 136 rfl (hd 9 (of_decide_eq_true (by kernel_rfl)))
                have n16 : f 16 = false := hI.nf2 (i := 10) (k := 16) hf (by kernel_rfl)
                have n17 : f 17 = false := hI.nf2 (i := 16) (k := 17) n16 (by kernel_rfl)
                have n18 : f 18 = false := hI.nf2 (i := 17) (k := 18) n17 (by kernel_rfl)
                have hrg := HRT.out w9 hI.j.chg
                obtain ⟨cm, hcm⟩ := hI.j.ms.typ
                have hrr := Kd.R_reads' hrg
                refine goes_ (N := some 137) Try.func87 (by kernel_rfl) rfl #[.pointer (some (⟨m, 0, none⟩ : Addr)), .slice A1 R1.length c1, .int .i64 vals, .int .i64 0] (by simp [Region.wanted]) rfl rfl (by simp [Act.eval]; exact ⟨e0, e1, e2⟩) ?_
                refine Calls.mono (mexpr_any w0 w9 m hI.j.ms vals HF.out.2.2.1 A1 c1 R1 hrr.2.2 hrr.2.1 (hrg.ne hcm (by decide)) 0 (by decide)) ?_
                rintro _ w5 ⟨x, A3, c3, rfl, hl3, hg3, hF3, hm5, hc5⟩
                exact ⟨_, rfl, hK _ _ (fun _ _ => ⟨x, A3, c3, rfl, hl3, ⟨0, by decide, hg3⟩, Kd.F_mono hF3 (fun k hk => Nat.le_trans hI.j.chg.size hk)⟩) (fun _ _ _ _ h => h.chg hc5 (fun j e => by subst e; exact hmd)) ((hI.j.call n18 hm5 hc5 hms2).other (by decide))⟩
              | 11, _ =>
                obtain rfl := Option.some.inj ho
                obtain rfl := Option.some.inj hp
                obtain rfl := Option.some.inj hr9
                refine want_yes rfl ?_
                have e := (hI.sl 0 rfl).trans (rfl : _ = (.pointer (some (⟨m, 0, none⟩ : Addr)) : Value))
                unfold Oper.wp; simp [execOp, e, go_sem]; exact hK _ _ (fun _ _ => rfl) (fun _ _ _ _ h => h) (hI.j.other (by decide))
              | 12, _ =>
                obtain rfl := Option.some.inj ho
                obtain rfl := Option.some.inj hp
                obtain rfl := Option.some.inj hr9
                refine want_yes rfl ?_
                have e := (hI.sl 4 rfl).trans (rfl : _ = (.slice A1 R1.length c1 : Value))
                unfold Oper.wp; simp [execOp, e, go_sem]; exact hK _ _ (fun _ _ => rfl) (fun _ _ _ _ h => h) (hI.j.other (by decide))
              | 13, _ =>
                obtain rfl := Option.some.inj ho
                obtain rfl := Option.some.inj hp
                obtain rfl := Option.some.inj hr9
                refine want_yes rfl ?_
                have e := (hI.sl 6 rfl).trans (rfl : _ = (.pointer (some (⟨w.heap.size, 0, none⟩ : Addr)) : Value))
                unfold Oper.wp; simp [execOp, e, go_sem]; exact hK _ _ (fun _ _ => rfl) (fun _ _ _ _ h => h) (hI.j.other (by decide))
              | 14, _ =>
                obtain rfl := Option.some.inj ho
                obtain rfl := Option.some.inj hp
                obtain rfl := Option.some.inj hr9
                refine want_yes rfl ?_
                have e : gt a 140 = .pointer (some (⟨w.heap.size, 0, none⟩ : Addr)) := hI.v 13 140 rfl (hd 13 (of_decide_eq_true (by kernel_rfl)))
                have hk := hI.j.chg.heap HBD.out (fun e => e.elim hbm hbs)
                have c := (blk_cell hk 0).trans rfl
                unfold Oper.wp; simp [execOp, e, c, go_sem]; exact hK _ _ (fun _ _ => rfl) (fun _ _ _ _ h => h) (hI.j.other (by decide))
              | 15, _ =>
                obtain rfl := Option.some.inj ho
                obtain rfl := Option.some.inj hp
                obtain rfl := Option.some.inj hr9
                have e0 : gt a 138 = .pointer (some (⟨m, 0, none⟩ : Addr)) := hI.v 11 138 rfl (hd 11 (of_decide_eq_true (by kernel_rfl)))
                have e1 : gt a 139 = .slice A1 R1.length c1 := hI.v 12 139 rfl (hd 12 (of_decide_eq_true (by kernel_rfl)))
                have e2 : gt a 141 = .int .i64 vals := hI.v 14 141 rfl (hd 14 (of_decide_eq_true (by kernel_rfl)))
                have n16 : f 16 = false := hI.nf2 (i := 15) (k := 16) hf (by kernel_rfl)
                have n17 : f 17 = false := hI.nf2 (i := 16) (k := 17) n16 (by kernel_rfl)
                have n18 : f 18 = false := hI.nf2 (i := 17) (k := 18) n17 (by kernel_rfl)
                have hrg := HRT.out w9 hI.j.chg
                obtain ⟨cm, hcm⟩ := hI.j.ms.typ
                have hrr := Kd.R_reads' hrg
                refine goes_ (N := some 142) Try.func87 (by kernel_rfl) rfl #[.pointer (some (⟨m, 0, none⟩ : Addr)), .slice A1 R1.length c1, .int .i64 vals, .int .i64 0] (by simp [Region.wanted]) rfl rfl (by simp [Act.eval]; exact ⟨e0, e1, e2⟩) ?_
                refine Calls.mono (mexpr_any w0 w9 m hI.j.ms vals HF.out.2.2.1 A1 c1 R1 hrr.2.2 hrr.2.1 (hrg.ne hcm (by decide)) 0 (by decide)) ?_
                rintro _ w5 ⟨x, A3, c3, rfl, hl3, hg3, hF3, hm5, hc5⟩
                exact ⟨_, rfl, hK _ _ (fun _ _ => ⟨x, A3, c3, rfl, hl3, ⟨0, by decide, hg3⟩, Kd.F_mono hF3 (fun k hk => Nat.le_trans hI.j.chg.size hk)⟩) (fun _ _ _ _ h => h.chg hc5 (fun j e => by subst e; exact hmd)) ((hI.j.call n18 hm5 hc5 hms2).other (by decide))⟩
              | 16, _ =>
                obtain rfl := Option.some.inj ho
                obtain rfl := Option.some.inj hp
                obtain rfl := Option.some.inj hr9
                refine want_yes rfl ?_
                obtain ⟨x, A3, c3, e, hl3, hg3, hF3⟩ := (show ∃ (x : TExpr) (A : Option Addr) (c : Nat), gt a 137 = .agg #[.int .i64 x.f0, .int .i64 x.f1, .string x.f2, .slice A x.f3.length c] ∧ x.f3.length ≤ c ∧ (∃ d, d ≤ 2 ∧ geE vals R1 d x) ∧ Kd.F kExpr w9 (fun k => wd.heap.size ≤ k) A x.f3.length x.f3 from hI.v 10 137 rfl (hd 10 (of_decide_eq_true (by kernel_rfl))))
                obtain ⟨y, A4, c4, e', hl4, hg4, hF4⟩ := (show ∃ (x : TExpr) (A : Option Addr) (c : Nat), gt a 142 = .agg #[.int .i64 x.f0, .int .i64 x.f1, .string x.f2, .slice A x.f3.length c] ∧ x.f3.length ≤ c ∧ (∃ d, d ≤ 2 ∧ geE vals R1 d x) ∧ Kd.F kExpr w9 (fun k => wd.heap.size ≤ k) A x.f3.length x.f3 from hI.v 15 142 rfl (hd 15 (of_decide_eq_true (by kernel_rfl))))
                have n17 : f 17 = false := hI.nf2 (i := 16) (k := 17) hf (by kernel_rfl)
                have n18 : f 18 = false := hI.nf2 (i := 17) (k := 18) n17 (by kernel_rfl)
                have hb := below_al (Below.refl w9.heap.size w9) (.cells #[.int .i64 x.f0, .int .i64 x.f1, .string x.f2, .slice A3 x.f3.length c3, .int .i64 y.f0, .int .i64 y.f1, .string y.f2, .slice A4 y.f3.length c4] 57 (0, 0))
                unfold Oper.wp; simp [execOp, e, e', go_sem]
                exact hK _ _ (fun _ _ => ⟨w9.heap.size, [x, y], rfl, rfl, (fun q hq => by rcases List.mem_cons.1 hq with rfl | hq; exact hg3; obtain rfl := List.mem_singleton.1 hq; exact hg4), exs_two (blk_new _ _) hI.j.chg.size hl3 (Kd.F_alloc hF3 _) hl4 (Kd.F_alloc hF4 _)⟩) (fun _ _ _ _ h => h.move (fun j _ h2 => hb.block j h2)) ((hI.j.below n18 hb).other (by decide))
              | 17, _ =>
                obtain rfl := Option.some.inj ho
                obtain rfl := Option.some.inj hp
                obtain rfl := Option.some.inj hr9
                refine want_yes rfl ?_
                obtain ⟨r, e0, hr⟩ := (show ∃ r, gt a 130 = .int .i64 r ∧ r ∈ ([0, 1, 2, 3, 4] : List Int) from hI.v 3 130 rfl (hd 3 (of_decide_eq_true (by kernel_rfl))))
                have e1 : gt a 131 = .string rg := hI.v 4 131 rfl (hd 4 (of_decide_eq_true (by kernel_rfl)))
                have e2 : gt a 132 = .string lc := hI.v 5 132 rfl (hd 5 (of_decide_eq_true (by kernel_rfl)))
                obtain ⟨b, xs, e9, hlen, hgs, hF⟩ := (show ∃ (b : Nat) (xs : List TExpr), gt a 143 = .slice (some ⟨b, 0, none⟩) 2 2 ∧ xs.length = 2 ∧ (∀ x ∈ xs, ∃ d, d ≤ 2 ∧ geE vals R1 d x) ∧ Kd.F kExpr w9 (fun k => wd.heap.size ≤ k) (some ⟨b, 0, none⟩) 2 xs from hI.v 16 143 rfl (hd 16 (of_decide_eq_true (by kernel_rfl))))
                unfold Oper.wp; simp [execOp, e0, e1, e2, e9, go_sem]
                exact hK _ _ (fun _ _ => ⟨⟨5, r, rg, lc, xs, [], []⟩, [.int .i64 5, .int .i64 r, .string rg, .string lc, .slice (some ⟨b, 0, none⟩) xs.length xs.length, .slice none 0 0, .slice none 0 0], by rw [hlen], rfl, gd_mk 5 r rg lc xs (by decide) (by decide) hr (by rw [hlen]; rfl) hgs HRGM.out HLC.out rfl, stm_FK 5 r rg lc xs (Nat.le_refl _) (by rw [hlen]; exact hF)⟩) (fun _ _ _ _ h => h) (hI.j.other (by decide))
              | 18, _ =>
                obtain rfl := Option.some.inj ho
                obtain rfl := Option.some.inj hp
                obtain rfl := Option.some.inj hr9
                refine want_yes rfl ?_
                have e := (hI.sl 14 rfl).trans (rfl : _ = (.pointer (some (⟨wr.heap.size, 0, none⟩ : Addr)) : Value))
                obtain ⟨x, cs, e1, hk0, hgd, hFK⟩ := (show ∃ (x : TStmt) (cs : List Value), gt a 144 = .agg cs.toArray ∧ x.f0 = 5 ∧ gdS vals nl (recB vals nl D) R1 x ∧ Kd.FK kStmt w9 (fun k => wd.heap.size ≤ k) x cs from hI.v 17 144 rfl (hd 17 (of_decide_eq_true (by kernel_rfl))))
                obtain ⟨A4, c4, A5, c5, A6, c6, rfl, -, -, -, -, -, -⟩ := k55_openF hFK
                have hz := hI.j.zb hf
                have c0' := (blk_cell hz 0).trans rfl
                have c1' := (blk_cell hz 1).trans rfl
                have c2' := (blk_cell hz 2).trans rfl
                have c3' := (blk_cell hz 3).trans rfl
                have c4' := (blk_cell hz 4).trans rfl
                have c5' := (blk_cell hz 5).trans rfl
                have c6' := (blk_cell hz 6).trans rfl
                have fz := blk_frozen hz
                obtain ⟨hp7, hch7⟩ := put7 hz (.int .i64 x.f0) (.int .i64 x.f1) (.string x.f2) (.string x.f3) (.slice A4 x.f4.length c4) (.slice A5 x.f5.length c5) (.slice A6 x.f6.length c6)
                unfold Oper.wp; simp [execOp, e, e1, c0', c1', c2', c3', c4', c5', c6', fz, go_sem]
                exact hK undef _ (fun d h => by cases h) (fun _ _ _ _ h => h.chg hch7 (fun j e => by subst e; exact hsd)) ⟨hI.j.ms.chg hch7 hms2 (fun _ e => e ▸ hs0), hI.j.chg.step (hch7.mono (fun _ e => .inr e)), fun e => absurd ((upd_eq f 18).symm.trans e) (by decide), fun _ => ⟨x, _, hp7, hk0, hgd, Kd.FK_step hFK (fun j h1 h2 => hch7.block j h2 (fun e => by omega))⟩⟩
            · intro f g w9 hall hJ hg
              have HX := Aside0.mk (show SW w0 wr w9 m wr.heap.size vals nl D R1 from by
                obtain ⟨x, cs, h1, h2, h3, h4⟩ := hJ.st (hall 18 (by decide))
                exact ⟨hJ.ms, HD.out.2.1.step hJ.chg, x, cs, h1, h3, Kd.FK_mono h4 (fun k hk => by omega)⟩)
              clear hJ hg
              simp only [List.map_cons, List.map_nil, fill, List.setIfInBounds_toArray, List.set_cons_zero, List.set_cons_succ]
              go_wp2
              go_meet
              exact ⟨rfl, HX⟩
            · intro f hf
              exact ⟨HD.out.1, Chg.refl _ _, fun _ => HD.out.2.2, fun e => absurd ((hf 18).symm.trans e) (by decide)⟩
          · skip
            obtain ⟨D', hDD⟩ : ∃ D', D = D' + 1 := ⟨D - 1, by omega⟩
            have dD : decide (0 < (D : Int)) = true := decide_eq_true (by omega)
            have dD2 : decide (0 < D) = true := decide_eq_true (by omega)
            have hD1 : wrap64 ((D : Int) - 1) = (D' : Int) := by have := HL.out; unfold wrap64; omega
            have HDD := Aside0.mk hDD
            clear hDD hD
            have hmlt : m < wr.heap.size := by omega
            go_wp2_with fail
            have hrg6 := HS.out.rg.chg HA.out.2.1 (fun k hk hlt => by
              rcases hk with rfl | rfl
              · obtain ⟨cs, hcs⟩ := HS.out.ms.typ; exact ⟨cs, _, hcs, by decide⟩
              · exact absurd hlt (Nat.lt_irrefl _))
            obtain ⟨cm, hcm⟩ := HA.out.1.typ
            have hrr := Kd.R_reads' hrg6
            refine (mexpr_any w0 w6 m HA.out.1 vals HF.out.2.2.1 A1 c1 R1 hrr.2.2 hrr.2.1 (hrg6.ne hcm (by decide)) 1 (by decide)).mono ?_
            rintro e w7 ⟨x, A3, c3, rfl, hl3, hg3, hF3, hm7, hc7⟩
            have hsx : wr.heap.size < w6.heap.size := blk_lt HA.out.2.2
            have hc7' := HA.out.2.1.step (hc7.mono (fun _ e => .inl e))
            have hz7 := hc7.heap HA.out.2.2 (fun q => hms2 q.symm)
            have z0 := (blk_cell hz7 0).trans rfl
            have z1 := (blk_cell hz7 1).trans rfl
            have z2 := (blk_cell hz7 2).trans rfl
            have z3 := (blk_cell hz7 3).trans rfl
            have z4 := (blk_cell hz7 4).trans rfl
            have z5 := (blk_cell hz7 5).trans rfl
            have z6 := (blk_cell hz7 6).trans rfl
            have zf := blk_frozen hz7
            have zl := blk_lt hz7
            obtain ⟨W1, hW1, h1m, h1c, h1b, h1F⟩ := sw_put1 hm7 hc7' hz7 hms2 hs0 7 0 ⟨#[]⟩ ⟨#[]⟩ x hl3 (Kd.F_mono hF3 (fun k hk => by omega))
            have HI1 := Aside0.mk (show IFS w0 wr W1 m wr.heap.size w7.heap.size x none 0 [] none 0 [] from ⟨h1m, h1c, h1b, h1F, Nat.le_refl 0, Kd.F_nil _ _ _, Nat.le_refl 0, Kd.F_nil _ _ _⟩)
            have HG3 := Aside0.mk hg3
            have HW1 := Aside0.mk hW1
            clear hc7 hg3 hF3 hl3 hrg6 hrr hcm hm7 hc7' hz7 hW1 h1m h1c h1b h1F
            go_upto_region 18 with fail
            rw [← HW1.out]
            clear z0 z1 z2 z3 z4 z5 z6 zf zl HW1
            generalize w7.heap.size = be at HI1 ⊢
            clear h0 h1 h2 h3
            have hbk8 := (HI1.out.chg).heap HS.out.hbk (fun e => e.elim hbm hbs)
            have g0 := (blk_cell hbk8 0).trans rfl
            have g1 := (blk_cell hbk8 1).trans rfl
            have g2 := (blk_cell hbk8 2).trans rfl
            have g3 := (blk_cell hbk8 3).trans rfl
            clear hbk8
            have s5 := (blk_cell HI1.out.sb 5).trans rfl
            have hrg8 := HS.out.rg.chg HI1.out.chg (fun k hk hlt => by
              rcases hk with rfl | rfl
              · obtain ⟨cs, hcs⟩ := HS.out.ms.typ; exact ⟨cs, _, hcs, by decide⟩
              · exact absurd hlt (Nat.lt_irrefl _))
            have HQ := Aside0.mk (ih D' HDD.out w0 W1 m HI1.out.ms vals nl 1 _ R1 HF.out.2.2.1 hv100 HF.out.2.2.2.1 HF.out.2.2.2.2 (by decide) hrg8 (by have := HL.out; have := HS.out.rl; have := HDD.out; omega))
            clear hrg8
            go_wp2_with fail
            refine HQ.out.mono ?_
            rintro e w8 ⟨vt, vrt, lt, Rt, rfl, hNt, -, hgt, hlt1, hm8, hc8⟩
            obtain ⟨At, ct, rfl⟩ := Kd.N_slice hNt
            have HI2 := Aside0.mk (HI1.out.call hmlt hm8 hc8)
            have hsW1 : wr.heap.size < W1.heap.size := blk_lt HI1.out.sb
            have HT := Aside0.mk (And.intro (Kd.N_reads' hNt).2.1 (And.intro (Kd.F_mono (Kd.N_F hNt) (fun k hk => show wr.heap.size < k by omega)) (And.intro hgt hlt1)))
            have HI3 := Aside0.mk (HI2.out.set5 hmlt hs0 HT.out.1 HT.out.2.1)
            have s5' := (blk_cell HI2.out.sb 5).trans rfl
            have sf := blk_frozen HI2.out.sb 5
            clear hNt hgt hlt1 hm8 hc8 g0 g1 g2 g3 s5 HQ HI1 hsW1
            go_upto_region 19 with fail
            generalize World.setCell _ _ _ = W2 at HI3 ⊢
            clear s5' sf
            go_wp2_with fail
            refine (pick_any w0 W2 m HI3.out.ms 2).mono ?_
            rintro e w10 ⟨pk, rfl, hpk0, hpk1, hm10, hc10⟩
            have HI4 := Aside0.mk (HI3.out.call hmlt hm10 hc10)
            clear hm10 hc10 HI3 HI2
            by_cases cp : pk = 1
            · subst cp
              have hbk8 := (HI4.out.chg).heap HS.out.hbk (fun e => e.elim hbm hbs)
              have g0 := (blk_cell hbk8 0).trans rfl
              have g1 := (blk_cell hbk8 1).trans rfl
              have g2 := (blk_cell hbk8 2).trans rfl
              have g3 := (blk_cell hbk8 3).trans rfl
              clear hbk8
              have hrg8 := HS.out.rg.chg HI4.out.chg (fun k hk hlt => by
                rcases hk with rfl | rfl
                · obtain ⟨cs, hcs⟩ := HS.out.ms.typ; exact ⟨cs, _, hcs, by decide⟩
                · exact absurd hlt (Nat.lt_irrefl _))
              have HQ := Aside0.mk (ih D' HDD.out w0 w10 m HI4.out.ms vals nl 1 _ R1 HF.out.2.2.1 hv100 HF.out.2.2.2.1 HF.out.2.2.2.2 (by decide) hrg8 (by have := HL.out; have := HS.out.rl; have := HDD.out; omega))
              clear hrg8
              go_wp2_with fail
              refine HQ.out.mono ?_
              rintro e w8 ⟨vt, vrt, le, Re, rfl, hNt, -, hgt, hlt1, hm8, hc8⟩
              obtain ⟨Ae, ce, rfl⟩ := Kd.N_slice hNt
              have HI5 := Aside0.mk (HI4.out.call hmlt hm8 hc8)
              have hsW1 : wr.heap.size < w10.heap.size := blk_lt HI4.out.sb
              have HE := Aside0.mk (And.intro (Kd.N_reads' hNt).2.1 (And.intro (Kd.F_mono (Kd.N_F hNt) (fun k hk => show wr.heap.size < k by omega)) (And.intro hgt hlt1)))
              have HI6 := Aside0.mk (HI5.out.set6 hmlt hs0 HE.out.1 HE.out.2.1)
              have s6' := (blk_cell HI5.out.sb 6).trans rfl
              have sf := blk_frozen HI5.out.sb 6
              clear hNt hgt hlt1 hm8 hc8 g0 g1 g2 g3 HQ HI4 hsW1
              go_upto_region 21 with fail
              generalize World.setCell _ _ _ = W3 at HI6 ⊢
              clear s6' sf HI5
              have y0 := (blk_cell HI6.out.sb 0).trans rfl
              have y1 := (blk_cell HI6.out.sb 1).trans rfl
              have y2 := (blk_cell HI6.out.sb 2).trans rfl
              have y3 := (blk_cell HI6.out.sb 3).trans rfl
              have y4 := (blk_cell HI6.out.sb 4).trans rfl
              have y5 := (blk_cell HI6.out.sb 5).trans rfl
              have y6 := (blk_cell HI6.out.sb 6).trans rfl
              have HWS := Aside0.mk (blk_lt HI6.out.sb)
              have HWC := Aside0.mk HI6.out.chg
              go_wp2_with (first | ((with_reducible refine gate_builtin (b := .append) (xs := #[.tmp 120, .tmp 122]) rfl ?_); refine hold ?_))
              refine ⟨?_⟩
              (at_builtin; refine Kd.N_append kStmt (w0 := W3) w.heap.size rfl (.tmp 120) (.tmp 122) 35 55 _ 120 rfl Try.underlying35 infoStm2 rfl (by decide) (by decide) (.slice AO l.length cO) l ⟨7, 0, ⟨#[]⟩, ⟨#[]⟩, [x], lt, le⟩ _ (fun k => w.heap.size ≤ k) (fun k => wr.heap.size < k) (by first | rfl | (simp [Act.eval]; done)) (by first | rfl | (simp [Act.eval]; done)) HI6.out.fk (fun k hk => ⟨by omega, fun e => by have := Kd.N_lt HS.out.nn k e.symm; omega⟩) (fun k hk => by have := HWS.out; omega) (HS.out.nW HWC.out) (Below.refl _ _) (by have := HWS.out; omega) (by have := HS.out.len; omega) ?_; intro v9 w9 hn9 hb9 hg9 _)
              have hap := HS.out.app HI6.out.ms HI6.out.chg ⟨_, HI6.out.sb⟩ hb9 hg9
              have HZ := Aside0.mk (show SMk w0 w w9 m w.heap.size vals nl D R (i + 1) (l ++ [⟨7, 0, ⟨#[]⟩, ⟨#[]⟩, [x], lt, le⟩]) R1 v9 (.slice A1 R1.length c1) from ⟨hap.1, hap.2.1, Nat.le_refl _, HS.out.ml, hap.2.2.1, hap.2.2.2, hn9, (by have q := gdL_snoc _ l R R1 _ (by rw [← gdB_eq]; exact HS.out.gd) (gd_if HDD.out x lt le HG3.out ⟨HT.out.2.2.2, _, HT.out.2.2.1⟩ ⟨HE.out.2.2.2, _, HE.out.2.2.1⟩); rw [gdB_eq]; rw [show nextR R1 _ = R1 from nextR_nil R1] at q; exact q), (by rw [List.length_append]; exact Nat.succ_le_succ HS.out.len), (by have := HS.out.rl; omega)⟩)
              have HI9 := Aside0.mk hlt
              clear hap hn9 hb9 hg9 y0 y1 y2 y3 y4 y5 y6 HI6 HWC HWS HE HT hlt
              go_wp2
              go_roundw
              case rel => exact ⟨i + 1, _, R1, HI9.out, by go_num, HZ⟩
              case measure => have := HI9.out; simp [intOf]; omega
            · have cp1 : (pk == 1) = false := beq_eq_false_iff_ne.2 cp
              have HE := Aside0.mk (And.intro (Nat.le_refl 0) (And.intro (Kd.F_nil kStmt w10 (fun j => wr.heap.size < j)) (And.intro (gdB_nil vals nl D' R1) (Nat.zero_le 1))))
              have HI6 := HI4
              clear HI4 cp
              go_upto_region 21 with fail
              have y0 := (blk_cell HI6.out.sb 0).trans rfl
              have y1 := (blk_cell HI6.out.sb 1).trans rfl
              have y2 := (blk_cell HI6.out.sb 2).trans rfl
              have y3 := (blk_cell HI6.out.sb 3).trans rfl
              have y4 := (blk_cell HI6.out.sb 4).trans rfl
              have y5 := (blk_cell HI6.out.sb 5).trans rfl
              have y6 := (blk_cell HI6.out.sb 6).trans rfl
              have HWS := Aside0.mk (blk_lt HI6.out.sb)
              have HWC := Aside0.mk HI6.out.chg
              go_wp2_with (first | ((with_reducible refine gate_builtin (b := .append) (xs := #[.tmp 120, .tmp 122]) rfl ?_); refine hold ?_))
              refine ⟨?_⟩
              (at_builtin; refine Kd.N_append kStmt (w0 := w10) w.heap.size rfl (.tmp 120) (.tmp 122) 35 55 _ 120 rfl Try.underlying35 infoStm2 rfl (by decide) (by decide) (.slice AO l.length cO) l ⟨7, 0, ⟨#[]⟩, ⟨#[]⟩, [x], lt, []⟩ _ (fun k => w.heap.size ≤ k) (fun k => wr.heap.size < k) (by first | rfl | (simp [Act.eval]; done)) (by first | rfl | (simp [Act.eval]; done)) HI6.out.fk (fun k hk => ⟨by omega, fun e => by have := Kd.N_lt HS.out.nn k e.symm; omega⟩) (fun k hk => by have := HWS.out; omega) (HS.out.nW HWC.out) (Below.refl _ _) (by have := HWS.out; omega) (by have := HS.out.len; omega) ?_; intro v9 w9 hn9 hb9 hg9 _)
              have hap := HS.out.app HI6.out.ms HI6.out.chg ⟨_, HI6.out.sb⟩ hb9 hg9
              have HZ := Aside0.mk (show SMk w0 w w9 m w.heap.size vals nl D R (i + 1) (l ++ [⟨7, 0, ⟨#[]⟩, ⟨#[]⟩, [x], lt, []⟩]) R1 v9 (.slice A1 R1.length c1) from ⟨hap.1, hap.2.1, Nat.le_refl _, HS.out.ml, hap.2.2.1, hap.2.2.2, hn9, (by have q := gdL_snoc _ l R R1 _ (by rw [← gdB_eq]; exact HS.out.gd) (gd_if HDD.out x lt [] HG3.out ⟨HT.out.2.2.2, _, HT.out.2.2.1⟩ ⟨HE.out.2.2.2, _, HE.out.2.2.1⟩); rw [gdB_eq]; rw [show nextR R1 _ = R1 from nextR_nil R1] at q; exact q), (by rw [List.length_append]; exact Nat.succ_le_succ HS.out.len), (by have := HS.out.rl; omega)⟩)
              have HI9 := Aside0.mk hlt
              clear hap hn9 hb9 hg9 y0 y1 y2 y3 y4 y5 y6 HI6 HWC HWS HE HT hlt
              go_wp2
              go_roundw
              case rel => exact ⟨i + 1, _, R1, HI9.out, by go_num, HZ⟩
              case measure => have := HI9.out; simp [intOf]; omega
        by_cases c10 : k = 10
        · subst c10
          clear c8 c4 d4 c88 c9
          go_wp2_with fail
          have hb7 := below_al (Below.refl w6.heap.size w6) (.cells (([1, 2, 3, 4] : List Int).map (fun n => Value.int .i64 n)).toArray 3 (0, 0))
          refine (mode_any w0 _ m (HA.out.1.step hb7) vals nl (some ⟨w6.heap.size, 0, none⟩) 4 [1, 2, 3, 4] (by decide) (consts_C (blk_new _ _) (by decide)) (by decide) (fun ad e => by cases e; show w6.heap.size ≠ m; have := HA.out.1.lt; omega)).mono ?_
          rintro e w7 ⟨md, rfl, hmd, hm7, hc7⟩
          have hc7' := (HA.out.2.1.step (Chg.of_below hb7)).step (hc7.mono (fun _ e => .inl e))
          have hz7 := hc7.heap (blk_below HA.out.2.2 hb7) (fun q => hms2 q.symm)
          have z0 := (blk_cell hz7 0).trans rfl
          have z1 := (blk_cell hz7 1).trans rfl
          have z2 := (blk_cell hz7 2).trans rfl
          have z3 := (blk_cell hz7 3).trans rfl
          have z4 := (blk_cell hz7 4).trans rfl
          have z5 := (blk_cell hz7 5).trans rfl
          have z6 := (blk_cell hz7 6).trans rfl
          have zf := blk_frozen hz7
          have zl := blk_lt hz7
          have h3' := (blk_cell (hc7'.heap HS.out.hbk (fun e => e.elim hbm hbs)) 3).trans rfl
          have hh := blk_lt (hc7'.heap HS.out.hbk (fun e => e.elim hbm hbs))
          have HX := Aside0.mk (sw_put (vals := vals) (nl := nl) (D := D) (R := R1) hm7 hc7' hz7 hms2 hs0 6 md ⟨#[]⟩ ⟨#[]⟩ (A := none) (c := 0) [] (Nat.le_refl 0) (Kd.F_nil _ _ _) (gd_mk 6 md ⟨#[]⟩ ⟨#[]⟩ [] (by decide) (by decide) hmd rfl (by simp) rfl rfl rfl))
          clear hb7 hc7 hmd
          clear hm7 hc7' hz7 h0 h1 h2 h3
          go_wp2
          go_meet
          exact ⟨rfl, HX⟩
        obtain rfl : k = 11 := by omega
        go_wp2_with fail
        have hrg6 := HS.out.rg.chg HA.out.2.1 (fun k hk hlt => by
          rcases hk with rfl | rfl
          · obtain ⟨cs, hcs⟩ := HS.out.ms.typ; exact ⟨cs, _, hcs, by decide⟩
          · exact absurd hlt (Nat.lt_irrefl _))
        obtain ⟨cm, hcm⟩ := HA.out.1.typ
        have hrr := Kd.R_reads' hrg6
        refine (mexpr_any w0 w6 m HA.out.1 vals HF.out.2.2.1 A1 c1 R1 hrr.2.2 hrr.2.1 (hrg6.ne hcm (by decide)) 2 (by decide)).mono ?_
        rintro e w7 ⟨x, A3, c3, rfl, hl3, hg3, hF3, hm7, hc7⟩
        have hsx : wr.heap.size < w6.heap.size := blk_lt HA.out.2.2
        have hb8 := below_al (Below.refl w7.heap.size w7) (.cells #[.int .i64 x.f0, .int .i64 x.f1, .string x.f2, .slice A3 x.f3.length c3] 57 (0, 0))
        have hc7' := HA.out.2.1.step (hc7.mono (fun _ e => .inl e))
        have hz7 := hc7.heap HA.out.2.2 (fun q => hms2 q.symm)
        have z0 := (blk_cell hz7 0).trans rfl
        have z1 := (blk_cell hz7 1).trans rfl
        have z2 := (blk_cell hz7 2).trans rfl
        have z3 := (blk_cell hz7 3).trans rfl
        have z4 := (blk_cell hz7 4).trans rfl
        have z5 := (blk_cell hz7 5).trans rfl
        have z6 := (blk_cell hz7 6).trans rfl
        have zf := blk_frozen hz7
        have zl := blk_lt hz7
        obtain ⟨W1, hW1, h1m, h1c, h1b, h1F⟩ := sw_put1 hm7 hc7' hz7 hms2 hs0 1 0 rg ⟨#[]⟩ x hl3 (Kd.F_mono hF3 (fun k hk => by omega))
        have HX := Aside0.mk (And.intro hW1 (show SW w0 wr W1 m wr.heap.size vals nl D R1 from ⟨h1m, h1c, _, _, h1b, gd_mk 1 0 rg ⟨#[]⟩ [x] (by decide) (by decide) (by decide) rfl (fun y hy => by obtain rfl := List.mem_singleton.1 hy; exact ⟨2, by decide, hg3⟩) HRGM.out rfl rfl, stm_FK 1 0 rg ⟨#[]⟩ [x] (Nat.le_refl 1) h1F⟩))
        clear hb8 hc7 hg3 hF3 hl3 hrg6 hrr hcm hm7 hc7' hz7 h0 h1 h2 h3 hW1 h1m h1c h1b h1F
        go_wp2
        rw [← HX.out.1]
        go_meet
        exact ⟨rfl, ⟨HX.out.2⟩⟩
      case rest =>
        obtain ⟨rfl, hcut⟩ := hcut
        obtain ⟨hm, hc, x, cs, hsb, hgd, hFK⟩ := hcut.out
        obtain ⟨A4, c4, A5, c5, A6, c6, rfl, -, -, -, -, -, -⟩ := k55_openF hFK
        have HX := Aside0.mk (And.intro hm (And.intro hc (And.intro hsb (And.intro hgd hFK))))
        have HWS := Aside0.mk (blk_lt hsb)
        have HWC := Aside0.mk hc
        have y0 := (blk_cell hsb 0).trans rfl
        have y1 := (blk_cell hsb 1).trans rfl
        have y2 := (blk_cell hsb 2).trans rfl
        have y3 := (blk_cell hsb 3).trans rfl
        have y4 := (blk_cell hsb 4).trans rfl
        have y5 := (blk_cell hsb 5).trans rfl
        have y6 := (blk_cell hsb 6).trans rfl
        clear hm hc hsb hgd hFK hcut HA
        go_wp2_with (first | ((with_reducible refine gate_builtin (b := .append) (xs := #[.tmp 155, .tmp 157]) rfl ?_); refine hold ?_))
        refine ⟨?_⟩
        (at_builtin; refine Kd.N_append kStmt (w0 := wc) w.heap.size rfl (.tmp 155) (.tmp 157) 35 55 _ 120 rfl Try.underlying35 infoStm2 rfl (by decide) (by decide) (.slice AO l.length cO) l x _ (fun k => w.heap.size ≤ k) (fun k => wr.heap.size < k) (by first | rfl | (simp [Act.eval]; done)) (by first | rfl | (simp [Act.eval]; done)) HX.out.2.2.2.2 (fun k hk => ⟨by omega, fun e => by have := Kd.N_lt HS.out.nn k e.symm; omega⟩) (fun k hk => by have := HWS.out; omega) (HS.out.nW HWC.out) (Below.refl _ _) (by have := HWS.out; omega) (by have := HS.out.len; omega) ?_; intro v9 w9 hn9 hb9 hg9 _)
        have hap := HS.out.app HX.out.1 HX.out.2.1 ⟨_, HX.out.2.2.1⟩ hb9 hg9
        have HP := Aside0.mk hap
        have HN9 := Aside0.mk hn9
        have HGX := Aside0.mk (show gdB vals nl D R (l ++ [x]) (nextR R1 x.f2) from by rw [gdB_eq]; exact gdL_snoc _ l R R1 _ (by rw [← gdB_eq]; exact HS.out.gd) HX.out.2.2.2.1)
        have hs9 : w9.heap[wr.heap.size]? = _ := (Chg.grown (F := fun k => some k = (Value.slice AO l.length cO).ownBlock) hg9 (fun k hk => hk.symm)).heap HX.out.2.2.1 (fun e => by have := Kd.N_lt HS.out.nn _ e.symm; omega)
        have y2' := (blk_cell hs9 2).trans rfl
        clear hap hn9 hb9 hg9 y0 y1 y2 y3 y4 y5 y6 hs9
        have HI9 := Aside0.mk hlt
        cases hx2 : (x.f2.toList == ([] : List UInt8)) with
        | true =>
          have hx2' : x.f2.toList = [] := beq_iff_eq.1 hx2
          have HNR := Aside0.mk (show nextR R1 x.f2 = R1 from if_pos hx2')
          clear hlt
          go_upto_region 28 with fail
          go_wp2
          go_roundw
          case rel => exact ⟨i + 1, _, R1, HI9.out, by go_num, ⟨⟨HP.out.1, HP.out.2.1, Nat.le_refl _, HS.out.ml, HP.out.2.2.1, HP.out.2.2.2, HN9.out, by have := HGX.out; rw [HNR.out] at this; exact this, by rw [List.length_append]; exact Nat.succ_le_succ HS.out.len, by have := HS.out.rl; omega⟩⟩⟩
          case measure => have := HI9.out; simp [intOf]; omega
        | false =>
          have hx2' : ¬ x.f2.toList = [] := beq_eq_false_iff_ne.1 hx2
          have HNR := Aside0.mk (show nextR R1 x.f2 = withF R1 x.f2 from if_neg hx2')
          clear hlt
          go_wp2_with fail
          refine (with_any w0 w9 _ R1 HP.out.2.2.2 HP.out.1.1 (by have := HS.out.rl; have := HL.out; omega) x.f2).mono ?_
          rintro e w10 ⟨vr, rfl, hrg, hb10⟩
          have HB := Aside0.mk (And.intro hrg hb10)
          clear hrg hb10 y2'
          go_wp2
          go_roundw
          case rel => exact ⟨i + 1, _, withF R1 x.f2, HI9.out, by go_num, ⟨⟨HP.out.1.step HB.out.2, blk_below HP.out.2.1 HB.out.2, Nat.le_refl _, HS.out.ml, HP.out.2.2.1.step (Chg.of_below HB.out.2), HB.out.1, Kd.N_below HN9.out HB.out.2, by have := HGX.out; rw [HNR.out] at this; exact this, by rw [List.length_append]; exact Nat.succ_le_succ HS.out.len, by have := HS.out.rl; unfold withF; split; omega; rw [List.length_append]; simp; omega⟩⟩⟩
          case measure => have := HI9.out; simp [intOf]; omega
    · have e1 : decide ((i : Int) < (n : Int)) = false := decide_eq_false (by omega)
      have e2 : decide (i < n) = false := decide_eq_false hlt
      go_wp2
      go_ret2
      exact ⟨_, _, l, R1, rfl, HS.out.nn, HS.out.rg, HS.out.gd, Nat.le_trans HS.out.len hi, HS.out.ms, HS.out.chg⟩
theorem mstmts_any : ∀ D, StmtsOk D
  | 0 => stmts_step 0 (fun D' e => by omega)
  | D + 1 => stmts_step (D + 1) (fun D' e => by
    obtain rfl : D' = D := by omega
    exact mstmts_any D')
end Go.Proofs.Ytlhbnbckanmaiaa.K
