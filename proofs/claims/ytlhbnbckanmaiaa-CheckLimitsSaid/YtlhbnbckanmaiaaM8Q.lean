/- A text of a claim (ours): CheckLimits: the walk; conditions: none of ours. -/
import Derived.Test.YtlhbnbckanmaiaaM7Q
namespace Go.Proofs.Ytlhbnbckanmaiaa.K
open Go Go.RowKit Go.Proofs.YtlhbnbckanmaiaaW.PrintWords Go.Proofs.YtlhbnbckanmaiaaW.PrintLast Go.Proofs.YtlhbnbckanmaiaaW.PrintMore Go.Proofs.Ytlhbnbckanmaiaa.PC1
set_option linter.unusedVariables false
set_option linter.unusedSimpArgs false
set_option maxHeartbeats 8000000 in
set_option maxRecDepth 100000 in
theorem limits_any (W : World) (t s r d : Int) (ht0 : 0 ≤ t) (hs0 : 0 ≤ s) (hr0 : 0 ≤ r) (hd0 : 0 ≤ d) : Calls Try.prog 8 #[.int .u8 t, .int .u8 s, .int .u8 r, .int .u8 d] W fun e W' => e = .returned (.bool true) ∧ Below W.heap.size W W' := by
  have HT := Aside0.mk (And.intro ht0 (And.intro hs0 (And.intro hr0 hd0)))
  clear ht0 hs0 hr0 hd0
  go_enter Try.func8, Try.ntmps8
  go_wp2_with fail
  refine (begun_any W).mono ?_
  rintro e w1 ⟨rfl, hb1⟩
  have HB1 := Aside0.mk hb1
  clear hb1
  go_wp2_with fail
  obtain ⟨W3, hW3⟩ : ∃ W3, W3 = (w1.alloc (.cells #[.string ⟨#[120]⟩, .int .i64 0] 51 (0, 0))).alloc (limBlk w1.heap.size (.slice none 0 0)) := ⟨_, rfl⟩
  have HL := Aside0.mk (show LW W W3 w1.heap.size (w1.heap.size + 1) (w1.heap.size + 2) (.slice none 0 0) from by
    subst hW3
    exact ⟨below_step HB1.out (below_al (below_al (Below.refl _ _) _) _), HB1.out.size, by omega, by have := HB1.out.size; omega, by omega, by omega, by simp, blk_alloc (blk_new _ _) _, alloc_at _ _ _ (by simp)⟩)
  obtain ⟨kt, hkt, hwt, hkt6⟩ : ∃ kt : Nat, t.tmod 6 = (kt : Int) ∧ wrap64 (t.tmod 6) = (kt : Int) ∧ kt < 6 := by
    have h1 : 0 ≤ t.tmod 6 := Int.tmod_nonneg 6 HT.out.1
    have h2 : t.tmod 6 < 6 := Int.tmod_lt_of_pos t (by decide)
    refine ⟨(t.tmod 6).toNat, by omega, ?_, by omega⟩
    unfold wrap64; omega
  go_loopw [10] (fun v10 wr => ∃ (i : Nat) (A : Option Addr) (c : Nat), i ≤ kt ∧ v10 = .int .i64 i ∧ Aside0 (LW W wr w1.heap.size (w1.heap.size + 1) (w1.heap.size + 2) (.slice A i c) ∧ Kd.R kThr 35 wr (w1.heap.size + 2) (fun _ => True) (.slice A i c) (List.replicate i []))) (fun v10 _ => 6 - (intOf v10).toNat)
  case atStart => exact ⟨0, none, 0, Nat.zero_le _, rfl, ⟨hW3 ▸ HL.out, Kd.R_nil _ _ _ _ _⟩⟩
  case round =>
    clear HL hW3
    obtain ⟨i, A, c, hi, rfl, HS⟩ := hrel
    by_cases hlt : i < kt
    · have e1 : decide ((i : Int) < wrap64 (t.tmod 6)) = true := decide_eq_true (by omega)
      have x3 := (blk_cell HS.out.1.ip 3).trans rfl
      have HI := Aside0.mk hlt
      clear hlt hkt hwt
      go_wp2_with (first | ((with_reducible refine gate_builtin (b := .append) (xs := #[.tmp 34, .tmp 35]) rfl ?_); refine hold ?_))
      refine ⟨?_⟩
      (at_builtin; refine Kd.R_append kThr (w0 := wr) (w1.heap.size + 2) rfl (.tmp 34) (.tmp 35) 23 35 (.slice none 0 0) 24 rfl Try.underlying23 infoThr rfl (show 0 < kThr.sz from Nat.one_pos) (by omega) _ (List.replicate i []) [] [.slice none 0 0] (fun _ => True) (fun _ => False) (by first | rfl | (simp [Act.eval]; done)) (by first | rfl | (simp [Act.eval]; done)) ⟨_, rfl, Kd.R_nil _ _ _ _ _⟩ (fun _ hk => hk.elim) (fun _ _ => trivial) HS.out.2 (Below.refl _ _) HS.out.1.sz (by rw [List.length_replicate]; omega) ?_; intro v3 w3 ho3 hb3 hg3 _)
      obtain ⟨A3, c3, rfl⟩ := Kd.R_slice ho3
      have hL3 := HS.out.1.stepB hb3
      have f3 := blk_frozen hL3.ip 3
      have x3' := (blk_cell hL3.ip 3).trans rfl
      have HS3 := Aside0.mk (And.intro hL3 ho3)
      clear hb3 hg3 ho3 hL3 x3
      go_wp2
      go_roundw
      case rel => exact ⟨i + 1, A3, c3, HI.out, by go_num, ⟨by
        have q := (HS3.out.1.put (.slice A3 (List.replicate i ([] : List TStmt) ++ [[]]).length c3))
        have q2 := Kd.R_set HS3.out.2 HS3.out.1.ip (by decide) 3 (.slice A3 (List.replicate i ([] : List TStmt) ++ [[]]).length c3)
        rw [← List.replicate_succ'] at q q2
        rw [List.length_replicate] at q q2
        exact ⟨q, q2⟩⟩⟩
      case measure => simp [intOf]; omega
    · have e1 : decide ((i : Int) < wrap64 (t.tmod 6)) = false := decide_eq_false (by omega)
      obtain rfl : i = kt := by omega
      have y0 := (blk_cell HS.out.1.ip 0).trans rfl
      have y1 := (blk_cell HS.out.1.ip 1).trans rfl
      have y2 := (blk_cell HS.out.1.ip 2).trans rfl
      have y3 := (blk_cell HS.out.1.ip 3).trans rfl
      have y4 := (blk_cell HS.out.1.ip 4).trans rfl
      have y5 := (blk_cell HS.out.1.ip 5).trans rfl
      have y6 := (blk_cell HS.out.1.ip 6).trans rfl
      have y7 := (blk_cell HS.out.1.ip 7).trans rfl
      have y8 := (blk_cell HS.out.1.ip 8).trans rfl
      have y9 := (blk_cell HS.out.1.ip 9).trans rfl
      obtain ⟨hn3, hc3, hC3⟩ := Kd.R_reads' HS.out.2
      rw [List.length_replicate] at hn3
      have hM := lim_ask HS.out.1 (ths := List.replicate i []) (by rw [List.length_replicate]) hC3 (by rw [List.length_replicate]; exact hc3) (by rw [List.length_replicate]; omega) (fun l hl => by
        obtain rfl := List.eq_of_mem_replicate hl
        exact ⟨by simp [smSs], by decide, by decide⟩) (thrE i) 0 (thr_may _ _ _ i hkt6).1 (thr_may _ _ _ i hkt6).2
      clear hn3 hc3 hC3
      go_wp2_with fail
      refine hM.mono ?_
      rintro r9 w9 ⟨rfl, hb9⟩
      have HL9 := Aside0.mk (HS.out.1.step hb9)
      clear hb9 hM y0 y1 y2 y3 y4 y5 y6 y7 y8 y9 HS e1 hlt
      go_upto_if 45 with fail
      go_cut [13] (fun v13 wx => v13 = .int .i64 (thrE i) ∧ wx = w9)
      case first =>
        rcases Nat.lt_or_ge 0 i with h0 | h0
        · rcases Nat.lt_or_ge 4 i with h4 | h4
          · have g1 : ((i : Int) == 0) = false := beq_eq_false_iff_ne.2 (by omega)
            have g2 : decide (4 < (i : Int)) = true := decide_eq_true (by omega)
            have HE := Aside0.mk (show thrE i = 3 from by unfold thrE; rw [if_neg (by omega), if_pos h4])
            go_wp2
            go_meet
            exact ⟨by rw [HE.out], rfl⟩
          · have g1 : ((i : Int) == 0) = false := beq_eq_false_iff_ne.2 (by omega)
            have g2 : decide (4 < (i : Int)) = false := decide_eq_false (by omega)
            have HE := Aside0.mk (show thrE i = 0 from by unfold thrE; rw [if_neg (by omega), if_neg (by omega)])
            go_wp2
            go_meet
            exact ⟨by rw [HE.out], rfl⟩
        · obtain rfl : i = 0 := by omega
          go_wp2
          go_meet
          exact ⟨rfl, rfl⟩
      case rest =>
      obtain ⟨rfl, rfl⟩ := hcut
      have g1 : (thrE i == thrE i) = true := beq_self_eq_true _
      generalize thrE i = eI at g1 ⊢
      have x3 := (blk_cell HL9.out.ip 3).trans rfl
      have f3 := blk_frozen HL9.out.ip 3
      have l3 := blk_lt HL9.out.ip
      clear hkt hwt hkt6
      have HS5 := Aside0.mk HL9.out.begin
      obtain ⟨tb, htb⟩ : ∃ tb : Nat, wc.heap.size = tb := ⟨_, rfl⟩
      rw [htb] at HS5
      have HTB := Aside0.mk htb
      clear htb
      obtain ⟨ks, hks, hks20⟩ : ∃ ks : Nat, wrap64 (s.tmod 20) = (ks : Int) ∧ ks < 20 := by
        have h1 : 0 ≤ s.tmod 20 := Int.tmod_nonneg 20 HT.out.2.1
        have h2 : s.tmod 20 < 20 := Int.tmod_lt_of_pos s (by decide)
        refine ⟨(s.tmod 20).toNat, ?_, by omega⟩
        unfold wrap64; omega
      have HKS := Aside0.mk hks
      clear hks
      go_upto_region 18 with fail
      clear x3 f3 l3
      rw [HTB.out]
      generalize (wc.setCell _ _).alloc _ = W5 at HS5 ⊢
      go_wp2_with fail
      go_loopw [15] (fun v15 wr => ∃ (i : Nat) (v : Value), i ≤ ks ∧ v15 = .int .i64 i ∧ Aside0 (LS W wr w1.heap.size (w1.heap.size + 1) tb (tb + 1) v (List.replicate i fenS))) (fun v15 _ => 20 - (intOf v15).toNat)
      case atStart => exact ⟨0, .slice none 0 0, Nat.zero_le _, rfl, HS5⟩
      case round =>
        clear HS5
        obtain ⟨i, v, hi, rfl, HS⟩ := hrel
        by_cases hlt : i < ks
        · have e1 : decide ((i : Int) < wrap64 (s.tmod 20)) = true := decide_eq_true (by have := HKS.out; omega)
          go_upto_block 3 with fail
          go_cut [] (fun wx => Aside0 (∃ v', LS W wx w1.heap.size (w1.heap.size + 1) tb (tb + 1) v' (List.replicate i fenS ++ [fenS])))
          case first =>
            go_upto_region 21 with fail
            go_cut [67] (fun v67 wx => ∃ b, v67 = .bool b ∧ Aside0 (LS W wx w1.heap.size (w1.heap.size + 1) tb (tb + 1) v (List.replicate i fenS)))
            case first =>
              go_region
              all_goals go_wp2
              all_goals go_meet
              all_goals exact ⟨_, rfl, ⟨HS.out.step (below_drew (below_al (Below.refl _ _) _))⟩⟩
            case rest =>
            obtain ⟨b, rfl, HS2⟩ := hcut
            clear HS
            obtain ⟨Av, cv, hvv⟩ := Kd.R_slice HS2.out.r
            rw [List.length_replicate] at hvv
            subst hvv
            have x3 := (blk_cell HS2.out.lw.ip 3).trans rfl
            have t0 := (blk_cell HS2.out.it 0).trans rfl
            cases b with
            | true =>
              go_wp2_with (first | ((with_reducible refine gate_builtin (b := .append) (xs := #[.tmp 71, .tmp 74]) rfl ?_); refine hold ?_))
              refine ⟨?_⟩
              (at_builtin; refine Kd.R_append kStmt (w0 := wc) (tb + 1) rfl (.tmp 71) (.tmp 74) 35 55 _ 120 rfl Try.underlying35 infoStm rfl (by decide) (by decide) _ (List.replicate i fenS) zerS [.int .i64 0, .int .i64 0, .string ⟨#[]⟩, .string ⟨#[]⟩, .slice none 0 0, .slice none 0 0, .slice none 0 0] (fun _ => True) (fun _ => False) (by first | rfl | (simp [Act.eval]; done)) (by first | rfl | (simp [Act.eval]; done)) (stm_M _ _ _ 0 0 _ _) (fun _ hk => hk.elim) (fun _ _ => trivial) HS2.out.r (Below.refl _ _) HS2.out.lw.sz (by rw [List.length_replicate]; omega) ?_; intro v3 w3 ho3 hb3 hg3 _)
              have hG := HS2.out.lg.grow hb3 ho3
              obtain ⟨g, cap, hv3, hgb, hgl, cells3, hcell3⟩ := Kd.R_form ho3 (by simp)
              rw [List.length_append, List.length_replicate] at hv3
              simp only [List.length_cons, List.length_nil, Nat.zero_add] at hv3
              subst hv3
              have c3 := (blk_cell hG.it 0).trans rfl
              have z3 := blk_frozen hG.it 0
              have HG := Aside0.mk hG
              have hgtb : ¬ g = tb := by omega
              have i0 : (0 : Int) ≤ (i : Int) := by omega
              have i1 : (i : Int) < ((i + 1 : Nat) : Int) := by omega
              have i2 : (i : Int) < (i : Int) + 1 := by omega
              clear hG ho3 hb3 hg3 x3 t0 hcell3
              go_wp2_with (first | ((with_reducible refine gate_store (p := 77) rfl ?_); refine hold ?_))
              refine ⟨?_⟩
              have HS4 := HG.out.put
              obtain ⟨c, hcl, -, hcc, -⟩ := Kd.R_elem HS4.r zerS (i : Int) i0 i1
              refine Kd.R_store kStmt (w0 := w3.setCell ⟨tb, 0, none⟩ (.slice (some ⟨g, 0, none⟩) (i + 1) cap)) (tb + 1) rfl rfl 55 (.tmp 77) (.tmp 72) rfl 55 (i : Int) 0 (List.replicate i fenS ++ [zerS]) fenS (.agg #[.int .i64 6, .int .i64 4, .string ⟨#[]⟩, .string ⟨#[]⟩, .slice none 0 0, .slice none 0 0, .slice none 0 0]) [.int .i64 6, .int .i64 4, .string ⟨#[]⟩, .string ⟨#[]⟩, .slice none 0 0, .slice none 0 0, .slice none 0 0] c (fun _ => True) (fun _ => False) rfl (by show _ = (i : Int).toNat * 7 + 0; simp) rfl rfl (by kernel_rfl) (by decide) HS4.r i0 i1 hcl hcc (by decide) (by rw [List.drop_eq_nil_of_le (by rw [hcl]; decide), List.append_nil]; exact stm_M _ _ _ 6 4 _ _) (fun _ h => h.elim) (Below.refl _ _) ?_
              intro w5 ho5 hb5 hg5
              rw [show (List.replicate i fenS ++ [zerS]).set (i : Int).toNat fenS = List.replicate i fenS ++ [fenS] from by
                have := set_last (List.replicate i fenS) zerS fenS
                rw [List.length_replicate] at this
                rw [Int.toNat_natCast]; exact this] at ho5
              have HX := Aside0.mk (HS4.turn hb5 ho5)
              clear ho5 hb5 hg5 hcc hcl HS4 HG c3 z3
              go_wp2
              go_meet
              exact ⟨⟨_, HX.out⟩⟩
            | false =>
              go_upto_region 24 with fail
              refine wp_region_any (by kernel_rfl) ?_
              replace HS2 := Aside0.mk (HS2.out.step (below_drew (Below.refl _ _)))
              clear x3 t0
              refine wpAny_flow2 rfl (by kernel_rfl) [some 78, some 79, some 80, some 81, some 82, some 83, some 84, some 85, some 86, some 87, none] rfl (by decide) [78, 79, 80, 81, 82, 83, 84, 85, 86, 87] rfl 226 rfl (by decide) (PhiA (fun k => (([some (.pointer (some (⟨w1.heap.size + 1, 3, none⟩ : Addr))), some (.slice (some (⟨tb, 0, none⟩ : Addr)) 1 1), some (.pointer (some (⟨w1.heap.size + 1, 3, none⟩ : Addr))), some (.slice (some (⟨tb, 0, none⟩ : Addr)) 1 1), some (.pointer (some (⟨tb, 0, none⟩ : Addr))), some (.slice Av i cv), some (.agg #[.int .i64 6, .int .i64 4, .string ⟨#[]⟩, .string ⟨#[]⟩, .slice none 0 0, .slice none 0 0, .slice none 0 0]), none, none, some (.pointer (some (⟨tb, 0, none⟩ : Addr))), none] : List (Option Value))[k]?).join) 7 8 wc.drew tb (tb + 1) (.slice Av i cv) (List.replicate i fenS ++ [fenS]) [.int .i64 6, .int .i64 4, .string ⟨#[]⟩, .string ⟨#[]⟩, .slice none 0 0, .slice none 0 0, .slice none 0 0]) (JA W wc.drew w1.heap.size (w1.heap.size + 1) tb (tb + 1) (.slice Av i cv) (List.replicate i fenS ++ [fenS]) 8 10) ?_ ?_ ?_ _ _ (by simp) (by decide) (no_flag 11)
              · intro i9 o dd r9 f a w ho hp hr9 hI hf hd K hK
                have hi9 : i9 < 11 := (Array.getElem?_eq_some_iff.1 ho).1
                match i9, hi9 with
                | 0, _ =>
                  obtain rfl := Option.some.inj ho
                  obtain rfl := Option.some.inj hp
                  obtain rfl := Option.some.inj hr9
                  refine want_yes rfl ?_
                  have e := (hI.sl 9 rfl).trans (rfl : _ = (.pointer (some (⟨w1.heap.size + 1, 0, none⟩ : Addr)) : Value))
                  unfold Oper.wp; simp [execOp, e, go_sem]; exact hK _ _ (fun _ _ => rfl) (fun _ _ _ _ h => h) (hI.j.other (by decide) (by decide))
                | 1, _ =>
                  obtain rfl := Option.some.inj ho
                  obtain rfl := Option.some.inj hp
                  obtain rfl := Option.some.inj hr9
                  refine want_yes rfl ?_
                  have e : gt a 78 = .pointer (some (⟨w1.heap.size + 1, 3, none⟩ : Addr)) := hI.v 0 78 rfl (hd 0 (of_decide_eq_true (by kernel_rfl)))
                  have n9 : f 9 = false := hI.nf2 (i := 1) (k := 9) hf (by kernel_rfl)
                  have n10 : f 10 = false := hI.nf2 (i := 9) (k := 10) n9 (by kernel_rfl)
                  have c := (blk_cell (hI.j.g n10).lw.ip 3).trans rfl
                  unfold Oper.wp; simp [execOp, e, c, go_sem]; exact hK _ _ (fun _ _ => rfl) (fun _ _ _ _ h => h) (hI.j.other (by decide) (by decide))
                | 2, _ =>
                  obtain rfl := Option.some.inj ho
                  obtain rfl := Option.some.inj hp
                  obtain rfl := Option.some.inj hr9
                  refine want_yes rfl ?_
                  have e := (hI.sl 9 rfl).trans (rfl : _ = (.pointer (some (⟨w1.heap.size + 1, 0, none⟩ : Addr)) : Value))
                  unfold Oper.wp; simp [execOp, e, go_sem]; exact hK _ _ (fun _ _ => rfl) (fun _ _ _ _ h => h) (hI.j.other (by decide) (by decide))
                | 3, _ =>
                  obtain rfl := Option.some.inj ho
                  obtain rfl := Option.some.inj hp
                  obtain rfl := Option.some.inj hr9
                  refine want_yes rfl ?_
                  have e : gt a 80 = .pointer (some (⟨w1.heap.size + 1, 3, none⟩ : Addr)) := hI.v 2 80 rfl (hd 2 (of_decide_eq_true (by kernel_rfl)))
                  have n4 : f 4 = false := hI.nf2 (i := 3) (k := 4) hf (by kernel_rfl)
                  have n5 : f 5 = false := hI.nf2 (i := 4) (k := 5) n4 (by kernel_rfl)
                  have n8 : f 8 = false := hI.nf2 (i := 5) (k := 8) n5 (by kernel_rfl)
                  have n10 : f 10 = false := hI.nf2 (i := 8) (k := 10) n8 (by kernel_rfl)
                  have c := (blk_cell (hI.j.g n10).lw.ip 3).trans rfl
                  unfold Oper.wp; simp [execOp, e, c, go_sem]; exact hK _ _ (fun _ _ => rfl) (fun _ _ _ _ h => h) (hI.j.other (by decide) (by decide))
                | 4, _ =>
                  obtain rfl := Option.some.inj ho
                  obtain rfl := Option.some.inj hp
                  obtain rfl := Option.some.inj hr9
                  refine want_yes rfl ?_
                  have e0 : gt a 81 = .slice (some (⟨tb, 0, none⟩ : Addr)) 1 1 := hI.v 3 81 rfl (hd 3 (of_decide_eq_true (by kernel_rfl)))
                  unfold Oper.wp; simp [execOp, e0, go_sem]; exact hK _ _ (fun _ _ => rfl) (fun _ _ _ _ h => h) (hI.j.other (by decide) (by decide))
                | 5, _ =>
                  obtain rfl := Option.some.inj ho
                  obtain rfl := Option.some.inj hp
                  obtain rfl := Option.some.inj hr9
                  refine want_yes rfl ?_
                  have e : gt a 82 = .pointer (some (⟨tb, 0, none⟩ : Addr)) := hI.v 4 82 rfl (hd 4 (of_decide_eq_true (by kernel_rfl)))
                  have n8 : f 8 = false := hI.nf2 (i := 5) (k := 8) hf (by kernel_rfl)
                  have n10 : f 10 = false := hI.nf2 (i := 8) (k := 10) n8 (by kernel_rfl)
                  have c := (blk_cell (hI.j.g n10).it 0).trans rfl
                  unfold Oper.wp; simp [execOp, e, c, go_sem]; exact hK _ _ (fun _ _ => rfl) (fun _ _ _ _ h => h) (hI.j.other (by decide) (by decide))
                | 6, _ =>
                  obtain rfl := Option.some.inj ho
                  obtain rfl := Option.some.inj hp
                  obtain rfl := Option.some.inj hr9
                  refine want_yes rfl ?_
                  unfold Oper.wp; simp [execOp, go_sem]; exact hK _ _ (fun _ _ => rfl) (fun _ _ _ _ h => h) (hI.j.other (by decide) (by decide))
                | 7, _ =>
                  obtain rfl := Option.some.inj ho
                  obtain rfl := Option.some.inj hp
                  obtain rfl := Option.some.inj hr9
                  refine want_yes rfl ?_
                  have e0 : gt a 84 = .agg #[.int .i64 6, .int .i64 4, .string ⟨#[]⟩, .string ⟨#[]⟩, .slice none 0 0, .slice none 0 0, .slice none 0 0] := hI.v 6 84 rfl (hd 6 (of_decide_eq_true (by kernel_rfl)))
                  have n8 : f 8 = false := hI.nf2 (i := 7) (k := 8) hf (by kernel_rfl)
                  have hb := below_al (Below.refl w.heap.size w) (.cells ([.int .i64 6, .int .i64 4, .string ⟨#[]⟩, .string ⟨#[]⟩, .slice none 0 0, .slice none 0 0, .slice none 0 0]).toArray 55 (0, 0))
                  unfold Oper.wp; simp [execOp, e0, go_sem]
                  exact hK _ _ (fun _ _ => ⟨w.heap.size, rfl, (hI.j.b n8).size, blk_new _ _⟩) (fun _ _ _ _ h => h.below hb) ((hI.j.below hb).other (by decide) (by decide))
                | 8, _ =>
                  obtain rfl := Option.some.inj ho
                  obtain rfl := Option.some.inj hp
                  obtain rfl := Option.some.inj hr9
                  have e1 : gt a 83 = .slice Av i cv := hI.v 5 83 rfl (hd 5 (of_decide_eq_true (by kernel_rfl)))
                  obtain ⟨b, e2, hb0, hbx⟩ : ∃ b, gt a 85 = .slice (some ⟨b, 0, none⟩) 1 1 ∧ (wc.drew).heap.size ≤ b ∧ w.heap[b]? = some (.cells ([.int .i64 6, .int .i64 4, .string ⟨#[]⟩, .string ⟨#[]⟩, .slice none 0 0, .slice none 0 0, .slice none 0 0]).toArray 55 (0, 0)) := hI.v 7 85 rfl (hd 7 (of_decide_eq_true (by kernel_rfl)))
                  have n10 : f 10 = false := hI.nf2 (i := 8) (k := 10) hf (by kernel_rfl)
                  have hbw := hI.j.b hf
                  have hrow := Kd.R_below HS2.out.r hbw
                  refine Kd.R_append_rows_step kStmt (w0 := w) (tb + 1) rfl (.tmp 83) (.tmp 85) 35 55 _ 120 rfl Try.underlying35 infoStm rfl (by decide) (by decide) _ _ [fenS] _ 1 1 (fun _ => True) (fun _ => False) (by simp [Act.eval]; exact e1) (by simp [Act.eval]; exact e2) hrow (reads_new (d := kStmt) (base := 0) (okp := fun _ => False) hbx rfl) (by rintro _ _ ⟨rfl, rfl⟩; exact stm_M _ _ _ 6 4 _ _) (fun _ h => h.elim) (fun _ _ => trivial) (Below.refl _ _) (Nat.le_trans HS2.out.lw.sz hbw.size) (by rw [List.length_replicate]; omega) ?_
                  intro v1 w1 ho1 hb1 hg1 _
                  exact hK _ _ (fun _ _ => ⟨ho1, .inr ((hb1.block _ HS2.out.tbb).trans (hI.j.g n10).it)⟩) (fun k d hk hfk hu => hu.move (fun _ b o hb hx => row_not HS2.out.r hg1 hb hx) (fun e _ => absurd (hfk.symm.trans ((congrArg f e).trans hf)) (by decide)) (fun e _ => absurd (hfk.symm.trans ((congrArg f e).trans hf)) (by decide))) (JA.append (v' := v1) hI.j n10 (by decide) hb1)
                | 9, _ =>
                  obtain rfl := Option.some.inj ho
                  obtain rfl := Option.some.inj hp
                  obtain rfl := Option.some.inj hr9
                  refine want_yes rfl ?_
                  have e0 : gt a 79 = .slice (some (⟨tb, 0, none⟩ : Addr)) 1 1 := hI.v 1 79 rfl (hd 1 (of_decide_eq_true (by kernel_rfl)))
                  unfold Oper.wp; simp [execOp, e0, go_sem]; exact hK _ _ (fun _ _ => rfl) (fun _ _ _ _ h => h) (hI.j.other (by decide) (by decide))
                | 10, _ =>
                  obtain rfl := Option.some.inj ho
                  obtain rfl := Option.some.inj hp
                  obtain rfl := Option.some.inj hr9
                  refine want_yes rfl ?_
                  have e1 : gt a 87 = .pointer (some (⟨tb, 0, none⟩ : Addr)) := hI.v 9 87 rfl (hd 9 (of_decide_eq_true (by kernel_rfl)))
                  have hr : Kd.R kStmt 55 w (tb + 1) (fun _ => True) (gt a 86) (List.replicate i fenS ++ [fenS]) := (show _ ∧ _ from hI.v 8 86 rfl (hd 8 (of_decide_eq_true (by kernel_rfl)))).1
                  have hq : f 8 = true := hd 8 (of_decide_eq_true (by kernel_rfl))
                  obtain ⟨v', hv'⟩ : ∃ v', gt a 86 = v' := ⟨_, rfl⟩
                  rw [hv'] at hr
                  obtain ⟨Ax, cx, rfl⟩ := Kd.R_slice hr
                  have hlen : (List.replicate i fenS ++ [fenS]).length = i + 1 := by simp
                  rw [hlen] at hr hv'
                  have hg := hI.j.g hf
                  have c := (blk_cell hg.it 0).trans rfl
                  have fz := blk_frozen hg.it 0
                  have hne : tb < (wc.drew).heap.size := Nat.lt_of_lt_of_le HS2.out.tbb HS2.out.lw.sz
                  unfold Oper.wp; simp [execOp, e1, hv', c, fz, go_sem]
                  exact hK undef _ (fun d h => by cases h) (fun k d hk hfk hu => hu.move (fun _ b o hb hx => (Below.heap_setCell w ⟨tb, 0, none⟩ _ b (fun e => by simp at e; omega)).trans hx) (fun _ hr => Kd.R_set hr hg.it (by decide) 0 _) (fun e _ => .inl (by subst e; cases hk; rw [hv']; exact blk_put hg.it 0 _ rfl))) (hI.j.store hq hf (by decide) hr)
              · intro f g w hall hJ hg
                have HX := Aside0.mk (hJ.s (hall 10 (by decide)))
                clear hJ hg
                simp only [List.map_cons, List.map_nil, fill, List.setIfInBounds_toArray, List.set_cons_zero, List.set_cons_succ]
                go_wp2
                go_meet
                exact HX
              · intro f hf
                exact ⟨fun _ => Below.refl _ _, fun _ => HS2.out.lg, fun e => absurd ((hf 10).symm.trans e) (by decide)⟩
          case rest =>
          obtain ⟨v', HS3⟩ := hcut.out
          have HS4 := Aside0.mk HS3
          have HI := Aside0.mk hlt
          clear HS3 hcut hlt
          go_wp2
          go_roundw
          case rel => exact ⟨i + 1, v', HI.out, by go_num, ⟨by rw [List.replicate_succ']; exact HS4.out⟩⟩
          case measure => simp [intOf]; omega
        · have e1 : decide ((i : Int) < wrap64 (s.tmod 20)) = false := decide_eq_false (by have := HKS.out; omega)
          obtain rfl : i = ks := by omega
          have y0 := (blk_cell HS.out.lw.ip 0).trans rfl
          have y1 := (blk_cell HS.out.lw.ip 1).trans rfl
          have y2 := (blk_cell HS.out.lw.ip 2).trans rfl
          have y3 := (blk_cell HS.out.lw.ip 3).trans rfl
          have y4 := (blk_cell HS.out.lw.ip 4).trans rfl
          have y5 := (blk_cell HS.out.lw.ip 5).trans rfl
          have y6 := (blk_cell HS.out.lw.ip 6).trans rfl
          have y7 := (blk_cell HS.out.lw.ip 7).trans rfl
          have y8 := (blk_cell HS.out.lw.ip 8).trans rfl
          have y9 := (blk_cell HS.out.lw.ip 9).trans rfl
          have hM := HS.out.ask (by rw [List.length_replicate]; omega) (sm_rep _ sm_fen i) (by unfold fenS; rw [cnt_rep]; omega) (stE i) (stN i) (fun A c => (st_may w1.heap.size A c i hks20).1) (fun A c => (st_may w1.heap.size A c i hks20).2)
          go_wp2_with fail
          refine hM.mono ?_
          rintro r9 w9 ⟨rfl, hb9⟩
          have HL10 := Aside0.mk (HS.out.step hb9).lw
          clear hb9 hM y0 y1 y2 y3 y4 y5 y6 y7 y8 y9 HS e1 hlt
          go_upto_region 26 with fail
          go_cut [11, 12, 114] (fun v11 v12 v114 wx => (∃ e, v11 = .int .i64 e) ∧ (∃ e, v12 = .int .i64 e) ∧ v114 = .bool false ∧ wx = w9)
          case first =>
            by_cases h16 : i ≤ 16
            · have d1 : decide (wrap64 (s.tmod 20) ≤ 16) = true := decide_eq_true (by have := HKS.out; omega)
              have d2 : decide (16 < wrap64 (s.tmod 20)) = false := decide_eq_false (by have := HKS.out; omega)
              have q1 : (stE i != 0) = false := by unfold stE; rw [if_pos h16]; rfl
              have q2 : (stN i != 0) = false := by unfold stN; rw [if_pos h16]; rfl
              clear h16
              go_wp2
              go_meet
              exact ⟨⟨_, rfl⟩, ⟨_, rfl⟩, (by first | rfl | exact congrArg Value.bool q2), rfl⟩
            · have d1 : decide (wrap64 (s.tmod 20) ≤ 16) = false := decide_eq_false (by have := HKS.out; omega)
              have d2 : decide (16 < wrap64 (s.tmod 20)) = true := decide_eq_true (by have := HKS.out; omega)
              have q1 : (stE i != 3) = false := by unfold stE; rw [if_neg h16]; rfl
              have q2 : (stN i != 18) = false := by unfold stN; rw [if_neg h16]; rfl
              clear h16
              go_wp2
              go_meet
              exact ⟨⟨_, rfl⟩, ⟨_, rfl⟩, (by first | rfl | exact congrArg Value.bool q2), rfl⟩
          case rest =>
          obtain ⟨⟨eS, rfl⟩, ⟨eM, rfl⟩, rfl, rfl⟩ := hcut
          have x3 := (blk_cell HL10.out.ip 3).trans rfl
          have f3 := blk_frozen HL10.out.ip 3
          have l3 := blk_lt HL10.out.ip
          have HS6 := Aside0.mk HL10.out.begin
          obtain ⟨tc, htc⟩ : ∃ tc : Nat, wc.heap.size = tc := ⟨_, rfl⟩
          rw [htc] at HS6
          have HTC := Aside0.mk htc
          clear htc
          obtain ⟨kr, hkr, hkr7⟩ : ∃ kr : Nat, wrap64 (r.tmod 7) = (kr : Int) ∧ kr < 7 := by
            have h1 : 0 ≤ r.tmod 7 := Int.tmod_nonneg 7 HT.out.2.2.1
            have h2 : r.tmod 7 < 7 := Int.tmod_lt_of_pos r (by decide)
            refine ⟨(r.tmod 7).toNat, ?_, by omega⟩
            unfold wrap64; omega
          have HKR := Aside0.mk hkr
          clear hkr
          go_upto_region 30 with fail
          clear x3 f3 l3
          rw [HTC.out]
          generalize (wc.setCell _ _).alloc _ = W6 at HS6 ⊢
          go_wp2_with fail
          go_loopw [17] (fun v17 wr => ∃ (i : Nat) (v : Value), i ≤ kr ∧ v17 = .int .i64 i ∧ Aside0 (LS W wr w1.heap.size (w1.heap.size + 1) tc (tc + 1) v ((List.range i).map ldS))) (fun v17 _ => 20 - (intOf v17).toNat)
          case atStart => exact ⟨0, .slice none 0 0, Nat.zero_le _, rfl, HS6⟩
          case round =>
            clear HS6
            obtain ⟨i, v, hi, rfl, HS⟩ := hrel
            by_cases hlt : i < kr
            · have e1 : decide ((i : Int) < wrap64 (r.tmod 7)) = true := decide_eq_true (by have := HKR.out; omega)
              have hi7 : i < 7 := by omega
              go_upto_block 5 with fail
              go_cut [] (fun wx => Aside0 (∃ v', LS W wx w1.heap.size (w1.heap.size + 1) tc (tc + 1) v' ((List.range i).map ldS ++ [ldS i])))
              case first =>
                go_upto_region 33 with fail
                go_cut [126] (fun v126 wx => ∃ b, v126 = .bool b ∧ Aside0 (LS W wx w1.heap.size (w1.heap.size + 1) tc (tc + 1) v ((List.range i).map ldS)))
                case first =>
                  go_region
                  all_goals go_wp2
                  all_goals go_meet
                  all_goals exact ⟨_, rfl, ⟨HS.out.step (below_drew (below_al (Below.refl _ _) _))⟩⟩
                case rest =>
                obtain ⟨b, rfl, HS2⟩ := hcut
                clear HS
                obtain ⟨Av, cv, hvv⟩ := Kd.R_slice HS2.out.r
                rw [List.length_map, List.length_range] at hvv
                subst hvv
                cases b with
                | true =>
                  go_upto_region 34 with fail
                  refine wp_region_any (by kernel_rfl) ?_
                  replace HS2 := Aside0.mk (HS2.out.step (below_drew (Below.refl _ _)))
                  refine wpAny_flow2 rfl (by kernel_rfl) [some 127, some 128, some 129, some 130, some 131, some 132, some 133, some 134, some 135, some 136, some 137, some 138, none] rfl (by decide) [127, 128, 129, 130, 131, 132, 133, 134, 135, 136, 137, 138] rfl 226 rfl (by decide) (PhiA (fun k => (([some (.pointer (some (⟨w1.heap.size + 1, 3, none⟩ : Addr))), some (.slice (some (⟨tc, 0, none⟩ : Addr)) 1 1), some (.pointer (some (⟨tc, 0, none⟩ : Addr))), some (.slice Av i cv), some (.int .i64 (i : Int)), some (.string (digE i)), some (.string ((⟨#[114]⟩ : ByteArray) ++ digE i)), some (.agg #[.int .i64 2, .int .i64 0, .string (⟨#[114]⟩ ++ digE i), .string ⟨#[120]⟩, .slice none 0 0, .slice none 0 0, .slice none 0 0]), some (.int .i64 (i : Int)), none, none, some (.pointer (some (⟨tc, 0, none⟩ : Addr))), none] : List (Option Value))[k]?).join) 9 10 wc.drew tc (tc + 1) (.slice Av i cv) ((List.range i).map ldS ++ [zerS]) [.int .i64 0, .int .i64 0, .string ⟨#[]⟩, .string ⟨#[]⟩, .slice none 0 0, .slice none 0 0, .slice none 0 0]) (JA W wc.drew w1.heap.size (w1.heap.size + 1) tc (tc + 1) (.slice Av i cv) ((List.range i).map ldS ++ [zerS]) 10 12) ?_ ?_ ?_ _ _ (by simp) (by decide) (no_flag 13)
                  · intro i9 o dd r9 f a w ho hp hr9 hI hf hd K hK
                    have hi9 : i9 < 13 := (Array.getElem?_eq_some_iff.1 ho).1
                    match i9, hi9 with
                    | 0, _ =>
                      obtain rfl := Option.some.inj ho
                      obtain rfl := Option.some.inj hp
                      obtain rfl := Option.some.inj hr9
                      refine want_yes rfl ?_
                      have e := (hI.sl 9 rfl).trans (rfl : _ = (.pointer (some (⟨w1.heap.size + 1, 0, none⟩ : Addr)) : Value))
                      unfold Oper.wp; simp [execOp, e, go_sem]; exact hK _ _ (fun _ _ => rfl) (fun _ _ _ _ h => h) (hI.j.other (by decide) (by decide))
                    | 1, _ =>
                      obtain rfl := Option.some.inj ho
                      obtain rfl := Option.some.inj hp
                      obtain rfl := Option.some.inj hr9
                      refine want_yes rfl ?_
                      have e : gt a 127 = .pointer (some (⟨w1.heap.size + 1, 3, none⟩ : Addr)) := hI.v 0 127 rfl (hd 0 (of_decide_eq_true (by kernel_rfl)))
                      have n11 : f 11 = false := hI.nf2 (i := 1) (k := 11) hf (by kernel_rfl)
                      have n12 : f 12 = false := hI.nf2 (i := 11) (k := 12) n11 (by kernel_rfl)
                      have c := (blk_cell (hI.j.g n12).lw.ip 3).trans rfl
                      unfold Oper.wp; simp [execOp, e, c, go_sem]; exact hK _ _ (fun _ _ => rfl) (fun _ _ _ _ h => h) (hI.j.other (by decide) (by decide))
                    | 2, _ =>
                      obtain rfl := Option.some.inj ho
                      obtain rfl := Option.some.inj hp
                      obtain rfl := Option.some.inj hr9
                      refine want_yes rfl ?_
                      have e0 : gt a 128 = .slice (some (⟨tc, 0, none⟩ : Addr)) 1 1 := hI.v 1 128 rfl (hd 1 (of_decide_eq_true (by kernel_rfl)))
                      unfold Oper.wp; simp [execOp, e0, go_sem]; exact hK _ _ (fun _ _ => rfl) (fun _ _ _ _ h => h) (hI.j.other (by decide) (by decide))
                    | 3, _ =>
                      obtain rfl := Option.some.inj ho
                      obtain rfl := Option.some.inj hp
                      obtain rfl := Option.some.inj hr9
                      refine want_yes rfl ?_
                      have e : gt a 129 = .pointer (some (⟨tc, 0, none⟩ : Addr)) := hI.v 2 129 rfl (hd 2 (of_decide_eq_true (by kernel_rfl)))
                      have n10 : f 10 = false := hI.nf2 (i := 3) (k := 10) hf (by kernel_rfl)
                      have n12 : f 12 = false := hI.nf2 (i := 10) (k := 12) n10 (by kernel_rfl)
                      have c := (blk_cell (hI.j.g n12).it 0).trans rfl
                      unfold Oper.wp; simp [execOp, e, c, go_sem]; exact hK _ _ (fun _ _ => rfl) (fun _ _ _ _ h => h) (hI.j.other (by decide) (by decide))
                    | 4, _ =>
                      obtain rfl := Option.some.inj ho
                      obtain rfl := Option.some.inj hp
                      obtain rfl := Option.some.inj hr9
                      refine want_yes rfl ?_
                      have e := (hI.sl 17 rfl).trans (rfl : _ = (.int .i64 (i : Int) : Value))
                      unfold Oper.wp; simp [execOp, e, go_sem]; exact hK _ _ (fun _ _ => rfl) (fun _ _ _ _ h => h) (hI.j.other (by decide) (by decide))
                    | 5, _ =>
                      obtain rfl := Option.some.inj ho
                      obtain rfl := Option.some.inj hp
                      obtain rfl := Option.some.inj hr9
                      have e : gt a 131 = .int .i64 (i : Int) := hI.v 4 131 rfl (hd 4 (of_decide_eq_true (by kernel_rfl)))
                      refine goes_ (N := some 132) Try.func21 (by kernel_rfl) rfl #[.int .i64 (i : Int)] (by simp [Region.wanted]) rfl rfl (by simp [Act.eval]; exact e) ?_
                      refine Calls.mono (digits_any w i hi7) ?_
                      rintro _ w5 ⟨rfl, hb⟩
                      exact ⟨_, rfl, hK _ _ (fun _ _ => rfl) (fun _ _ _ _ h => h.below hb) ((hI.j.below hb).other (by decide) (by decide))⟩
                    | 6, _ =>
                      obtain rfl := Option.some.inj ho
                      obtain rfl := Option.some.inj hp
                      obtain rfl := Option.some.inj hr9
                      refine want_yes rfl ?_
                      have e0 : gt a 132 = .string (digE i) := hI.v 5 132 rfl (hd 5 (of_decide_eq_true (by kernel_rfl)))
                      have hsz : (digE i).size = 1 := rfl
                      unfold Oper.wp; simp [execOp, e0, hsz, go_sem]; exact hK _ _ (fun _ _ => rfl) (fun _ _ _ _ h => h) (hI.j.other (by decide) (by decide))
                    | 7, _ =>
                      obtain rfl := Option.some.inj ho
                      obtain rfl := Option.some.inj hp
                      obtain rfl := Option.some.inj hr9
                      refine want_yes rfl ?_
                      have e0 : gt a 133 = .string ((⟨#[114]⟩ : ByteArray) ++ digE i) := hI.v 6 133 rfl (hd 6 (of_decide_eq_true (by kernel_rfl)))
                      unfold Oper.wp; simp [execOp, e0, go_sem]; exact hK _ _ (fun _ _ => rfl) (fun _ _ _ _ h => h) (hI.j.other (by decide) (by decide))
                    | 8, _ =>
                      obtain rfl := Option.some.inj ho
                      obtain rfl := Option.some.inj hp
                      obtain rfl := Option.some.inj hr9
                      refine want_yes rfl ?_
                      have e0 : gt a 130 = .slice Av i cv := hI.v 3 130 rfl (hd 3 (of_decide_eq_true (by kernel_rfl)))
                      unfold Oper.wp; simp [execOp, e0, go_sem]; exact hK _ _ (fun _ _ => rfl) (fun _ _ _ _ h => h) (hI.j.other (by decide) (by decide))
                    | 9, _ =>
                      obtain rfl := Option.some.inj ho
                      obtain rfl := Option.some.inj hp
                      obtain rfl := Option.some.inj hr9
                      refine want_yes rfl ?_
                      have n10 : f 10 = false := hI.nf2 (i := 9) (k := 10) hf (by kernel_rfl)
                      have hb := below_al (Below.refl w.heap.size w) (.cells ([.int .i64 0, .int .i64 0, .string ⟨#[]⟩, .string ⟨#[]⟩, .slice none 0 0, .slice none 0 0, .slice none 0 0]).toArray 55 (0, 0))
                      unfold Oper.wp; simp [execOp, go_sem]
                      exact hK _ _ (fun _ _ => ⟨w.heap.size, rfl, (hI.j.b n10).size, blk_new _ _⟩) (fun _ _ _ _ h => h.below hb) ((hI.j.below hb).other (by decide) (by decide))
                    | 10, _ =>
                      obtain rfl := Option.some.inj ho
                      obtain rfl := Option.some.inj hp
                      obtain rfl := Option.some.inj hr9
                      have e1 : gt a 130 = .slice Av i cv := hI.v 3 130 rfl (hd 3 (of_decide_eq_true (by kernel_rfl)))
                      obtain ⟨b, e2, hb0, hbx⟩ : ∃ b, gt a 136 = .slice (some ⟨b, 0, none⟩) 1 1 ∧ (wc.drew).heap.size ≤ b ∧ w.heap[b]? = some (.cells ([.int .i64 0, .int .i64 0, .string ⟨#[]⟩, .string ⟨#[]⟩, .slice none 0 0, .slice none 0 0, .slice none 0 0]).toArray 55 (0, 0)) := hI.v 9 136 rfl (hd 9 (of_decide_eq_true (by kernel_rfl)))
                      have n12 : f 12 = false := hI.nf2 (i := 10) (k := 12) hf (by kernel_rfl)
                      have hbw := hI.j.b hf
                      have hrow := Kd.R_below HS2.out.r hbw
                      refine Kd.R_append_rows_step kStmt (w0 := w) (tc + 1) rfl (.tmp 130) (.tmp 136) 35 55 _ 120 rfl Try.underlying35 infoStm rfl (by decide) (by decide) _ _ [zerS] _ 1 1 (fun _ => True) (fun _ => False) (by simp [Act.eval]; exact e1) (by simp [Act.eval]; exact e2) hrow (reads_new (d := kStmt) (base := 0) (okp := fun _ => False) hbx rfl) (by rintro _ _ ⟨rfl, rfl⟩; exact stm_M _ _ _ 0 0 _ _) (fun _ h => h.elim) (fun _ _ => trivial) (Below.refl _ _) (Nat.le_trans HS2.out.lw.sz hbw.size) (by rw [List.length_map, List.length_range]; omega) ?_
                      intro v1 w1 ho1 hb1 hg1 _
                      exact hK _ _ (fun _ _ => ⟨ho1, .inr ((hb1.block _ HS2.out.tbb).trans (hI.j.g n12).it)⟩) (fun k d hk hfk hu => hu.move (fun _ b o hb hx => row_not HS2.out.r hg1 hb hx) (fun e _ => absurd (hfk.symm.trans ((congrArg f e).trans hf)) (by decide)) (fun e _ => absurd (hfk.symm.trans ((congrArg f e).trans hf)) (by decide))) (JA.append (v' := v1) hI.j n12 (by decide) hb1)
                    | 11, _ =>
                      obtain rfl := Option.some.inj ho
                      obtain rfl := Option.some.inj hp
                      obtain rfl := Option.some.inj hr9
                      refine want_yes rfl ?_
                      have e0 : gt a 128 = .slice (some (⟨tc, 0, none⟩ : Addr)) 1 1 := hI.v 1 128 rfl (hd 1 (of_decide_eq_true (by kernel_rfl)))
                      unfold Oper.wp; simp [execOp, e0, go_sem]; exact hK _ _ (fun _ _ => rfl) (fun _ _ _ _ h => h) (hI.j.other (by decide) (by decide))
                    | 12, _ =>
                      obtain rfl := Option.some.inj ho
                      obtain rfl := Option.some.inj hp
                      obtain rfl := Option.some.inj hr9
                      refine want_yes rfl ?_
                      have e1 : gt a 138 = .pointer (some (⟨tc, 0, none⟩ : Addr)) := hI.v 11 138 rfl (hd 11 (of_decide_eq_true (by kernel_rfl)))
                      have hr : Kd.R kStmt 55 w (tc + 1) (fun _ => True) (gt a 137) ((List.range i).map ldS ++ [zerS]) := (show _ ∧ _ from hI.v 10 137 rfl (hd 10 (of_decide_eq_true (by kernel_rfl)))).1
                      have hq : f 10 = true := hd 10 (of_decide_eq_true (by kernel_rfl))
                      obtain ⟨v', hv'⟩ : ∃ v', gt a 137 = v' := ⟨_, rfl⟩
                      rw [hv'] at hr
                      obtain ⟨Ax, cx, rfl⟩ := Kd.R_slice hr
                      have hlen : ((List.range i).map ldS ++ [zerS]).length = i + 1 := by simp
                      rw [hlen] at hr hv'
                      have hg := hI.j.g hf
                      have c := (blk_cell hg.it 0).trans rfl
                      have fz := blk_frozen hg.it 0
                      have hne : tc < (wc.drew).heap.size := Nat.lt_of_lt_of_le HS2.out.tbb HS2.out.lw.sz
                      unfold Oper.wp; simp [execOp, e1, hv', c, fz, go_sem]
                      exact hK undef _ (fun d h => by cases h) (fun k d hk hfk hu => hu.move (fun _ b o hb hx => (Below.heap_setCell w ⟨tc, 0, none⟩ _ b (fun e => by simp at e; omega)).trans hx) (fun _ hr => Kd.R_set hr hg.it (by decide) 0 _) (fun e _ => .inl (by subst e; cases hk; rw [hv']; exact blk_put hg.it 0 _ rfl))) (hI.j.store hq hf (by decide) hr)
                  · intro f g w hall hJ hg
                    obtain ⟨v', hv'⟩ := hJ.s (hall 12 (by decide))
                    have g134 : g 134 = .agg #[.int .i64 2, .int .i64 0, .string (⟨#[114]⟩ ++ digE i), .string ⟨#[120]⟩, .slice none 0 0, .slice none 0 0, .slice none 0 0] := hg 7 134 rfl
                    have g135 : g 135 = .int .i64 (i : Int) := hg 8 135 rfl
                    have g137 := (show _ ∧ _ from hg 10 137 rfl).2
                    obtain rfl := LS.same hv' (by simp) g137
                    obtain ⟨gx, cap, hv3, hgb, hgl, cells3, hcell3⟩ := Kd.R_form hv'.r (by simp)
                    rw [List.length_append, List.length_map, List.length_range] at hv3
                    simp only [List.length_cons, List.length_nil, Nat.zero_add] at hv3
                    have HX := Aside0.mk hv'
                    clear hJ hg g137 hv' hcell3 hgl
                    simp only [List.map_cons, List.map_nil, fill, List.setIfInBounds_toArray, List.set_cons_zero, List.set_cons_succ]
                    rw [g134, g135, hv3]
                    rw [hv3] at HX
                    clear g134 g135 hv3
                    have i0 : (0 : Int) ≤ (i : Int) := by omega
                    have i1 : (i : Int) < ((i + 1 : Nat) : Int) := by omega
                    have i2 : (i : Int) < (i : Int) + 1 := by omega
                    go_wp2_with (first | ((with_reducible refine gate_store (p := 139) rfl ?_); refine hold ?_))
                    refine ⟨?_⟩
                    obtain ⟨c, hcl, -, hcc, -⟩ := Kd.R_elem HX.out.r zerS (i : Int) i0 i1
                    refine Kd.R_store kStmt (w0 := w) (tc + 1) rfl rfl 55 (.tmp 139) (.tmp 134) rfl 55 (i : Int) 0 ((List.range i).map ldS ++ [zerS]) (ldS i) (.agg #[.int .i64 2, .int .i64 0, .string (⟨#[114]⟩ ++ digE i), .string ⟨#[120]⟩, .slice none 0 0, .slice none 0 0, .slice none 0 0]) [.int .i64 2, .int .i64 0, .string (⟨#[114]⟩ ++ digE i), .string ⟨#[120]⟩, .slice none 0 0, .slice none 0 0, .slice none 0 0] c (fun _ => True) (fun _ => False) rfl (by show _ = (i : Int).toNat * 7 + 0; simp) rfl rfl (by kernel_rfl) (by intro q hq; simp at hq; rcases hq with rfl | rfl | rfl | rfl | rfl <;> rfl) HX.out.r i0 i1 hcl hcc (show 0 + 7 ≤ 7 by decide) (by rw [List.drop_eq_nil_of_le (by rw [hcl]; exact (show 7 ≤ 0 + 7 by decide)), List.append_nil]; exact stm_M _ _ _ 2 0 _ _) (fun _ h => h.elim) (Below.refl _ _) ?_
                    intro w5 ho5 hb5 hg5
                    rw [show ((List.range i).map ldS ++ [zerS]).set (i : Int).toNat (ldS i) = (List.range i).map ldS ++ [ldS i] from by
                      have := set_last ((List.range i).map ldS) zerS (ldS i)
                      rw [List.length_map, List.length_range] at this
                      rw [Int.toNat_natCast]; exact this] at ho5
                    have HX5 := Aside0.mk (HX.out.turn hb5 ho5)
                    clear ho5 hb5 hg5 hcc hcl HX
                    go_wp2
                    go_meet
                    exact ⟨⟨_, HX5.out⟩⟩
                  · intro f hf
                    exact ⟨fun _ => Below.refl _ _, fun _ => HS2.out.lg, fun e => absurd ((hf 12).symm.trans e) (by decide)⟩
                | false =>
                  go_upto_region 36 with fail
                  refine wp_region_any (by kernel_rfl) ?_
                  replace HS2 := Aside0.mk (HS2.out.step (below_drew (Below.refl _ _)))
                  refine wpAny_flow2 rfl (by kernel_rfl) [some 140, some 141, some 142, some 143, some 144, some 145, some 146, some 147, some 148, some 149, some 150, some 151, some 152, none] rfl (by decide) [140, 141, 142, 143, 144, 145, 146, 147, 148, 149, 150, 151, 152] rfl 226 rfl (by decide) (PhiA (fun k => (([some (.pointer (some (⟨w1.heap.size + 1, 3, none⟩ : Addr))), some (.slice (some (⟨tc, 0, none⟩ : Addr)) 1 1), some (.pointer (some (⟨w1.heap.size + 1, 3, none⟩ : Addr))), some (.slice (some (⟨tc, 0, none⟩ : Addr)) 1 1), some (.pointer (some (⟨tc, 0, none⟩ : Addr))), some (.slice Av i cv), some (.int .i64 (i : Int)), some (.string (digE i)), some (.string ((⟨#[114]⟩ : ByteArray) ++ digE i)), some (.agg #[.int .i64 2, .int .i64 0, .string (⟨#[114]⟩ ++ digE i), .string ⟨#[120]⟩, .slice none 0 0, .slice none 0 0, .slice none 0 0]), none, none, some (.pointer (some (⟨tc, 0, none⟩ : Addr))), none] : List (Option Value))[k]?).join) 10 11 wc.drew tc (tc + 1) (.slice Av i cv) ((List.range i).map ldS ++ [ldS i]) [.int .i64 2, .int .i64 0, .string (⟨#[114]⟩ ++ digE i), .string ⟨#[120]⟩, .slice none 0 0, .slice none 0 0, .slice none 0 0]) (JA W wc.drew w1.heap.size (w1.heap.size + 1) tc (tc + 1) (.slice Av i cv) ((List.range i).map ldS ++ [ldS i]) 11 13) ?_ ?_ ?_ _ _ (by simp) (by decide) (no_flag 14)
                  · intro i9 o dd r9 f a w ho hp hr9 hI hf hd K hK
                    have hi9 : i9 < 14 := (Array.getElem?_eq_some_iff.1 ho).1
                    match i9, hi9 with
                    | 0, _ =>
                      obtain rfl := Option.some.inj ho
                      obtain rfl := Option.some.inj hp
                      obtain rfl := Option.some.inj hr9
                      refine want_yes rfl ?_
                      have e := (hI.sl 9 rfl).trans (rfl : _ = (.pointer (some (⟨w1.heap.size + 1, 0, none⟩ : Addr)) : Value))
                      unfold Oper.wp; simp [execOp, e, go_sem]; exact hK _ _ (fun _ _ => rfl) (fun _ _ _ _ h => h) (hI.j.other (by decide) (by decide))
                    | 1, _ =>
                      obtain rfl := Option.some.inj ho
                      obtain rfl := Option.some.inj hp
                      obtain rfl := Option.some.inj hr9
                      refine want_yes rfl ?_
                      have e : gt a 140 = .pointer (some (⟨w1.heap.size + 1, 3, none⟩ : Addr)) := hI.v 0 140 rfl (hd 0 (of_decide_eq_true (by kernel_rfl)))
                      have n12 : f 12 = false := hI.nf2 (i := 1) (k := 12) hf (by kernel_rfl)
                      have n13 : f 13 = false := hI.nf2 (i := 12) (k := 13) n12 (by kernel_rfl)
                      have c := (blk_cell (hI.j.g n13).lw.ip 3).trans rfl
                      unfold Oper.wp; simp [execOp, e, c, go_sem]; exact hK _ _ (fun _ _ => rfl) (fun _ _ _ _ h => h) (hI.j.other (by decide) (by decide))
                    | 2, _ =>
                      obtain rfl := Option.some.inj ho
                      obtain rfl := Option.some.inj hp
                      obtain rfl := Option.some.inj hr9
                      refine want_yes rfl ?_
                      have e := (hI.sl 9 rfl).trans (rfl : _ = (.pointer (some (⟨w1.heap.size + 1, 0, none⟩ : Addr)) : Value))
                      unfold Oper.wp; simp [execOp, e, go_sem]; exact hK _ _ (fun _ _ => rfl) (fun _ _ _ _ h => h) (hI.j.other (by decide) (by decide))
                    | 3, _ =>
                      obtain rfl := Option.some.inj ho
                      obtain rfl := Option.some.inj hp
                      obtain rfl := Option.some.inj hr9
                      refine want_yes rfl ?_
                      have e : gt a 142 = .pointer (some (⟨w1.heap.size + 1, 3, none⟩ : Addr)) := hI.v 2 142 rfl (hd 2 (of_decide_eq_true (by kernel_rfl)))
                      have n4 : f 4 = false := hI.nf2 (i := 3) (k := 4) hf (by kernel_rfl)
                      have n5 : f 5 = false := hI.nf2 (i := 4) (k := 5) n4 (by kernel_rfl)
                      have n11 : f 11 = false := hI.nf2 (i := 5) (k := 11) n5 (by kernel_rfl)
                      have n13 : f 13 = false := hI.nf2 (i := 11) (k := 13) n11 (by kernel_rfl)
                      have c := (blk_cell (hI.j.g n13).lw.ip 3).trans rfl
                      unfold Oper.wp; simp [execOp, e, c, go_sem]; exact hK _ _ (fun _ _ => rfl) (fun _ _ _ _ h => h) (hI.j.other (by decide) (by decide))
                    | 4, _ =>
                      obtain rfl := Option.some.inj ho
                      obtain rfl := Option.some.inj hp
                      obtain rfl := Option.some.inj hr9
                      refine want_yes rfl ?_
                      have e0 : gt a 143 = .slice (some (⟨tc, 0, none⟩ : Addr)) 1 1 := hI.v 3 143 rfl (hd 3 (of_decide_eq_true (by kernel_rfl)))
                      unfold Oper.wp; simp [execOp, e0, go_sem]; exact hK _ _ (fun _ _ => rfl) (fun _ _ _ _ h => h) (hI.j.other (by decide) (by decide))
                    | 5, _ =>
                      obtain rfl := Option.some.inj ho
                      obtain rfl := Option.some.inj hp
                      obtain rfl := Option.some.inj hr9
                      refine want_yes rfl ?_
                      have e : gt a 144 = .pointer (some (⟨tc, 0, none⟩ : Addr)) := hI.v 4 144 rfl (hd 4 (of_decide_eq_true (by kernel_rfl)))
                      have n11 : f 11 = false := hI.nf2 (i := 5) (k := 11) hf (by kernel_rfl)
                      have n13 : f 13 = false := hI.nf2 (i := 11) (k := 13) n11 (by kernel_rfl)
                      have c := (blk_cell (hI.j.g n13).it 0).trans rfl
                      unfold Oper.wp; simp [execOp, e, c, go_sem]; exact hK _ _ (fun _ _ => rfl) (fun _ _ _ _ h => h) (hI.j.other (by decide) (by decide))
                    | 6, _ =>
                      obtain rfl := Option.some.inj ho
                      obtain rfl := Option.some.inj hp
                      obtain rfl := Option.some.inj hr9
                      refine want_yes rfl ?_
                      have e := (hI.sl 17 rfl).trans (rfl : _ = (.int .i64 (i : Int) : Value))
                      unfold Oper.wp; simp [execOp, e, go_sem]; exact hK _ _ (fun _ _ => rfl) (fun _ _ _ _ h => h) (hI.j.other (by decide) (by decide))
                    | 7, _ =>
                      obtain rfl := Option.some.inj ho
                      obtain rfl := Option.some.inj hp
                      obtain rfl := Option.some.inj hr9
                      have e : gt a 146 = .int .i64 (i : Int) := hI.v 6 146 rfl (hd 6 (of_decide_eq_true (by kernel_rfl)))
                      refine goes_ (N := some 147) Try.func21 (by kernel_rfl) rfl #[.int .i64 (i : Int)] (by simp [Region.wanted]) rfl rfl (by simp [Act.eval]; exact e) ?_
                      refine Calls.mono (digits_any w i hi7) ?_
                      rintro _ w5 ⟨rfl, hb⟩
                      exact ⟨_, rfl, hK _ _ (fun _ _ => rfl) (fun _ _ _ _ h => h.below hb) ((hI.j.below hb).other (by decide) (by decide))⟩
                    | 8, _ =>
                      obtain rfl := Option.some.inj ho
                      obtain rfl := Option.some.inj hp
                      obtain rfl := Option.some.inj hr9
                      refine want_yes rfl ?_
                      have e0 : gt a 147 = .string (digE i) := hI.v 7 147 rfl (hd 7 (of_decide_eq_true (by kernel_rfl)))
                      have hsz : (digE i).size = 1 := rfl
                      unfold Oper.wp; simp [execOp, e0, hsz, go_sem]; exact hK _ _ (fun _ _ => rfl) (fun _ _ _ _ h => h) (hI.j.other (by decide) (by decide))
                    | 9, _ =>
                      obtain rfl := Option.some.inj ho
                      obtain rfl := Option.some.inj hp
                      obtain rfl := Option.some.inj hr9
                      refine want_yes rfl ?_
                      have e0 : gt a 148 = .string ((⟨#[114]⟩ : ByteArray) ++ digE i) := hI.v 8 148 rfl (hd 8 (of_decide_eq_true (by kernel_rfl)))
                      unfold Oper.wp; simp [execOp, e0, go_sem]; exact hK _ _ (fun _ _ => rfl) (fun _ _ _ _ h => h) (hI.j.other (by decide) (by decide))
                    | 10, _ =>
                      obtain rfl := Option.some.inj ho
                      obtain rfl := Option.some.inj hp
                      obtain rfl := Option.some.inj hr9
                      refine want_yes rfl ?_
                      have e0 : gt a 149 = .agg #[.int .i64 2, .int .i64 0, .string (⟨#[114]⟩ ++ digE i), .string ⟨#[120]⟩, .slice none 0 0, .slice none 0 0, .slice none 0 0] := hI.v 9 149 rfl (hd 9 (of_decide_eq_true (by kernel_rfl)))
                      have n11 : f 11 = false := hI.nf2 (i := 10) (k := 11) hf (by kernel_rfl)
                      have hb := below_al (Below.refl w.heap.size w) (.cells ([.int .i64 2, .int .i64 0, .string (⟨#[114]⟩ ++ digE i), .string ⟨#[120]⟩, .slice none 0 0, .slice none 0 0, .slice none 0 0]).toArray 55 (0, 0))
                      unfold Oper.wp; simp [execOp, e0, go_sem]
                      exact hK _ _ (fun _ _ => ⟨w.heap.size, rfl, (hI.j.b n11).size, blk_new _ _⟩) (fun _ _ _ _ h => h.below hb) ((hI.j.below hb).other (by decide) (by decide))
                    | 11, _ =>
                      obtain rfl := Option.some.inj ho
                      obtain rfl := Option.some.inj hp
                      obtain rfl := Option.some.inj hr9
                      have e1 : gt a 145 = .slice Av i cv := hI.v 5 145 rfl (hd 5 (of_decide_eq_true (by kernel_rfl)))
                      obtain ⟨b, e2, hb0, hbx⟩ : ∃ b, gt a 150 = .slice (some ⟨b, 0, none⟩) 1 1 ∧ (wc.drew).heap.size ≤ b ∧ w.heap[b]? = some (.cells ([.int .i64 2, .int .i64 0, .string (⟨#[114]⟩ ++ digE i), .string ⟨#[120]⟩, .slice none 0 0, .slice none 0 0, .slice none 0 0]).toArray 55 (0, 0)) := hI.v 10 150 rfl (hd 10 (of_decide_eq_true (by kernel_rfl)))
                      have n13 : f 13 = false := hI.nf2 (i := 11) (k := 13) hf (by kernel_rfl)
                      have hbw := hI.j.b hf
                      have hrow := Kd.R_below HS2.out.r hbw
                      refine Kd.R_append_rows_step kStmt (w0 := w) (tc + 1) rfl (.tmp 145) (.tmp 150) 35 55 _ 120 rfl Try.underlying35 infoStm rfl (by decide) (by decide) _ _ [ldS i] _ 1 1 (fun _ => True) (fun _ => False) (by simp [Act.eval]; exact e1) (by simp [Act.eval]; exact e2) hrow (reads_new (d := kStmt) (base := 0) (okp := fun _ => False) hbx rfl) (by rintro _ _ ⟨rfl, rfl⟩; exact stm_M _ _ _ 2 0 _ _) (fun _ h => h.elim) (fun _ _ => trivial) (Below.refl _ _) (Nat.le_trans HS2.out.lw.sz hbw.size) (by rw [List.length_map, List.length_range]; omega) ?_
                      intro v1 w1 ho1 hb1 hg1 _
                      exact hK _ _ (fun _ _ => ⟨ho1, .inr ((hb1.block _ HS2.out.tbb).trans (hI.j.g n13).it)⟩) (fun k d hk hfk hu => hu.move (fun _ b o hb hx => row_not HS2.out.r hg1 hb hx) (fun e _ => absurd (hfk.symm.trans ((congrArg f e).trans hf)) (by decide)) (fun e _ => absurd (hfk.symm.trans ((congrArg f e).trans hf)) (by decide))) (JA.append (v' := v1) hI.j n13 (by decide) hb1)
                    | 12, _ =>
                      obtain rfl := Option.some.inj ho
                      obtain rfl := Option.some.inj hp
                      obtain rfl := Option.some.inj hr9
                      refine want_yes rfl ?_
                      have e0 : gt a 141 = .slice (some (⟨tc, 0, none⟩ : Addr)) 1 1 := hI.v 1 141 rfl (hd 1 (of_decide_eq_true (by kernel_rfl)))
                      unfold Oper.wp; simp [execOp, e0, go_sem]; exact hK _ _ (fun _ _ => rfl) (fun _ _ _ _ h => h) (hI.j.other (by decide) (by decide))
                    | 13, _ =>
                      obtain rfl := Option.some.inj ho
                      obtain rfl := Option.some.inj hp
                      obtain rfl := Option.some.inj hr9
                      refine want_yes rfl ?_
                      have e1 : gt a 152 = .pointer (some (⟨tc, 0, none⟩ : Addr)) := hI.v 12 152 rfl (hd 12 (of_decide_eq_true (by kernel_rfl)))
                      have hr : Kd.R kStmt 55 w (tc + 1) (fun _ => True) (gt a 151) ((List.range i).map ldS ++ [ldS i]) := (show _ ∧ _ from hI.v 11 151 rfl (hd 11 (of_decide_eq_true (by kernel_rfl)))).1
                      have hq : f 11 = true := hd 11 (of_decide_eq_true (by kernel_rfl))
                      obtain ⟨v', hv'⟩ : ∃ v', gt a 151 = v' := ⟨_, rfl⟩
                      rw [hv'] at hr
                      obtain ⟨Ax, cx, rfl⟩ := Kd.R_slice hr
                      have hlen : ((List.range i).map ldS ++ [ldS i]).length = i + 1 := by simp
                      rw [hlen] at hr hv'
                      have hg := hI.j.g hf
                      have c := (blk_cell hg.it 0).trans rfl
                      have fz := blk_frozen hg.it 0
                      have hne : tc < (wc.drew).heap.size := Nat.lt_of_lt_of_le HS2.out.tbb HS2.out.lw.sz
                      unfold Oper.wp; simp [execOp, e1, hv', c, fz, go_sem]
                      exact hK undef _ (fun d h => by cases h) (fun k d hk hfk hu => hu.move (fun _ b o hb hx => (Below.heap_setCell w ⟨tc, 0, none⟩ _ b (fun e => by simp at e; omega)).trans hx) (fun _ hr => Kd.R_set hr hg.it (by decide) 0 _) (fun e _ => .inl (by subst e; cases hk; rw [hv']; exact blk_put hg.it 0 _ rfl))) (hI.j.store hq hf (by decide) hr)
                  · intro f g w hall hJ hg
                    have HX := Aside0.mk (hJ.s (hall 13 (by decide)))
                    clear hJ hg
                    simp only [List.map_cons, List.map_nil, fill, List.setIfInBounds_toArray, List.set_cons_zero, List.set_cons_succ]
                    go_wp2
                    go_meet
                    exact HX
                  · intro f hf
                    exact ⟨fun _ => Below.refl _ _, fun _ => HS2.out.lg, fun e => absurd ((hf 13).symm.trans e) (by decide)⟩
              case rest =>
              obtain ⟨v', HS3⟩ := hcut.out
              have HS4 := Aside0.mk HS3
              have HI := Aside0.mk hlt
              clear HS3 hcut hlt
              go_wp2
              go_roundw
              case rel => exact ⟨i + 1, v', HI.out, by go_num, ⟨by rw [List.range_succ, List.map_append]; exact HS4.out⟩⟩
              case measure => simp [intOf]; omega
            · have e1 : decide ((i : Int) < wrap64 (r.tmod 7)) = false := decide_eq_false (by have := HKR.out; omega)
              obtain rfl : i = kr := by omega
              have y0 := (blk_cell HS.out.lw.ip 0).trans rfl
              have y1 := (blk_cell HS.out.lw.ip 1).trans rfl
              have y2 := (blk_cell HS.out.lw.ip 2).trans rfl
              have y3 := (blk_cell HS.out.lw.ip 3).trans rfl
              have y4 := (blk_cell HS.out.lw.ip 4).trans rfl
              have y5 := (blk_cell HS.out.lw.ip 5).trans rfl
              have y6 := (blk_cell HS.out.lw.ip 6).trans rfl
              have y7 := (blk_cell HS.out.lw.ip 7).trans rfl
              have y8 := (blk_cell HS.out.lw.ip 8).trans rfl
              have y9 := (blk_cell HS.out.lw.ip 9).trans rfl
              have hM := HS.out.ask (by rw [List.length_map, List.length_range]; omega) (sm_all _ (fun x hx => by obtain ⟨j, -, rfl⟩ := List.mem_map.1 hx; exact sm_ld j)) (by rw [cnt_plain _ (fun x hx => by obtain ⟨j, -, rfl⟩ := List.mem_map.1 hx; exact ⟨rfl, rfl⟩), List.length_map, List.length_range]; omega) (rgE i) (rgN i) (fun A c => (rg_may w1.heap.size A c i hkr7).1) (fun A c => (rg_may w1.heap.size A c i hkr7).2)
              go_wp2_with fail
              refine hM.mono ?_
              rintro r9 w9 ⟨rfl, hb9⟩
              have HL10 := Aside0.mk (HS.out.step hb9).lw
              clear hb9 hM y0 y1 y2 y3 y4 y5 y6 y7 y8 y9 HS e1 hlt
              go_upto_region 38 with fail
              go_cut [11, 12, 179] (fun v11 v12 v179 wx => (∃ e, v11 = .int .i64 e) ∧ (∃ e, v12 = .int .i64 e) ∧ v179 = .bool false ∧ wx = w9)
              case first =>
                by_cases h16 : i ≤ 4
                · have d1 : decide (wrap64 (r.tmod 7) ≤ 4) = true := decide_eq_true (by have := HKR.out; omega)
                  have d2 : decide (4 < wrap64 (r.tmod 7)) = false := decide_eq_false (by have := HKR.out; omega)
                  have q1 : (rgE i != 0) = false := by unfold rgE; rw [if_pos h16]; rfl
                  have q2 : (rgN i != 0) = false := by unfold rgN; rw [if_pos h16]; rfl
                  clear h16
                  go_wp2
                  go_meet
                  exact ⟨⟨_, rfl⟩, ⟨_, rfl⟩, (by first | rfl | exact congrArg Value.bool q2), rfl⟩
                · have d1 : decide (wrap64 (r.tmod 7) ≤ 4) = false := decide_eq_false (by have := HKR.out; omega)
                  have d2 : decide (4 < wrap64 (r.tmod 7)) = true := decide_eq_true (by have := HKR.out; omega)
                  have q1 : (rgE i != 3) = false := by unfold rgE; rw [if_neg h16]; rfl
                  have q2 : (rgN i != 6) = false := by unfold rgN; rw [if_neg h16]; rfl
                  clear h16
                  go_wp2
                  go_meet
                  exact ⟨⟨_, rfl⟩, ⟨_, rfl⟩, (by first | rfl | exact congrArg Value.bool q2), rfl⟩
              case rest =>
              obtain ⟨⟨eR, rfl⟩, ⟨eQ, rfl⟩, rfl, rfl⟩ := hcut
              have hb9 := below_al (Below.refl wc.heap.size wc) (.cells #[.int .i64 1, .int .i64 1, .string ⟨#[]⟩, .slice none 0 0] 57 (0, 0))
              have HD := Aside0.mk (DX.start (HL10.out.step hb9) (Nat.le_trans HL10.out.sz (Nat.le_refl _)) (blk_new wc _))
              obtain ⟨kd, hkd, hkd9⟩ : ∃ kd : Nat, wrap64 (1 + wrap64 (d.tmod 9)) = (kd : Int) + 1 ∧ kd < 9 := by
                have h1 : 0 ≤ d.tmod 9 := Int.tmod_nonneg 9 HT.out.2.2.2
                have h2 : d.tmod 9 < 9 := Int.tmod_lt_of_pos d (by decide)
                refine ⟨(d.tmod 9).toNat, ?_, by omega⟩
                unfold wrap64; omega
              have HKD := Aside0.mk hkd
              obtain ⟨xb, hxb⟩ : ∃ xb : Nat, wc.heap.size = xb := ⟨_, rfl⟩
              rw [hxb] at HD
              have HXB := Aside0.mk hxb
              clear hkd hxb hb9
              go_wp2_with fail
              rw [HXB.out]
              generalize wc.alloc _ = W7 at HD ⊢
              clear HXB HL10
              go_loopw [19] (fun v19 wr => ∃ k : Nat, k ≤ kd ∧ v19 = .int .i64 ((k : Int) + 1) ∧ Aside0 (DX W wr w1.heap.size (w1.heap.size + 1) (tc + 1) (.slice (some ⟨tc, 0, none⟩) 1 1) xb k)) (fun v19 _ => 20 - (intOf v19).toNat)
              case atStart => exact ⟨0, Nat.zero_le _, rfl, HD⟩
              case round =>
                clear HD
                obtain ⟨k, hk, rfl, HS⟩ := hrel
                by_cases hlt : k < kd
                · have e1 : decide ((k : Int) + 1 < wrap64 (1 + wrap64 (d.tmod 9))) = true := decide_eq_true (by have := HKD.out; omega)
                  obtain ⟨A9, c9, hx9, hl9, hF9⟩ := HS.out.x
                  have x0 := (blk_cell hx9 0).trans rfl
                  have x1 := (blk_cell hx9 1).trans rfl
                  have x2 := (blk_cell hx9 2).trans rfl
                  have x3 := (blk_cell hx9 3).trans rfl
                  have xf := blk_frozen hx9
                  have xl := blk_lt hx9
                  have HX9 := Aside0.mk (And.intro hx9 (And.intro hl9 hF9))
                  clear hx9 hl9 hF9
                  go_upto_region 43 with fail
                  have HN := Aside0.mk (HS.out.next (w' := ((((wr.setCell ⟨xb, 0, none⟩ (.int .i64 3)).setCell ⟨xb, 1, none⟩ (.int .i64 0)).setCell ⟨xb, 2, none⟩ (.string ⟨#[]⟩)).setCell ⟨xb, 3, none⟩ (.slice (some ⟨wr.heap.size, 0, none⟩) 2 2)).alloc (.cells #[.int .i64 (dpX k).f0, .int .i64 (dpX k).f1, .string (dpX k).f2, .slice A9 (dpX k).f3.length c9, .int .i64 1, .int .i64 0, .string ⟨#[]⟩, .slice none 0 0] 57 (0, 0)))
                    (Chg.alloc ((((chg_set _ _ _ _).step (chg_set _ _ _ _)).step (chg_set _ _ _ _)).step (chg_set _ _ _ _)) _) (b := wr.heap.size) (by omega) (Nat.le_refl _) HX9.out.2.1 HX9.out.2.2 (alloc_at _ _ _ (by simp only [World.size_setCell])) (blk_alloc (blk_put (blk_put (blk_put (blk_put HX9.out.1 0 _ rfl) 1 _ rfl) 2 _ rfl) 3 _ rfl) _))
                  clear HX9 HS x0 x1 x2 x3 xf xl e1
                  have HK := Aside0.mk hlt
                  have hk9 : k < 9 := by omega
                  clear hlt hk
                  generalize World.alloc _ _ = W8 at HN ⊢
                  go_wp2
                  go_roundw
                  case rel => exact ⟨k + 1, HK.out, by go_num, HN⟩
                  case measure => simp [intOf]; omega
                · have e1 : decide ((k : Int) + 1 < wrap64 (1 + wrap64 (d.tmod 9))) = false := decide_eq_false (by have := HKD.out; omega)
                  obtain rfl : k = kd := by omega
                  obtain ⟨A9, c9, hx9, hl9, hF9⟩ := HS.out.x
                  have x0 := (blk_cell hx9 0).trans rfl
                  have x1 := (blk_cell hx9 1).trans rfl
                  have x2 := (blk_cell hx9 2).trans rfl
                  have x3 := (blk_cell hx9 3).trans rfl
                  have HX9 := Aside0.mk (And.intro hx9 (And.intro hl9 hF9))
                  clear hx9 hl9 hF9
                  have p3 := (blk_cell HS.out.lw.ip 3).trans rfl
                  have pf := blk_frozen HS.out.lw.ip 3
                  have pl := blk_lt HS.out.lw.ip
                  have pz : ∀ o1 o2 o3, (((wr.alloc o1).alloc o2).alloc o3).frozen? ⟨w1.heap.size + 1, 3, none⟩ = false := fun _ _ _ => blk_frozen (blk_alloc (blk_alloc (blk_alloc HS.out.lw.ip _) _) _) 3
                  have pc : ∀ o1 o2 o3, (((wr.alloc o1).alloc o2).alloc o3).cell? ⟨w1.heap.size + 1, 3, none⟩ = some (.slice (some ⟨tc, 0, none⟩) 1 1) := fun _ _ _ => (blk_cell (blk_alloc (blk_alloc (blk_alloc HS.out.lw.ip _) _) _) 3).trans rfl
                  go_upto_region 46 with fail
                  have HQ := Aside0.mk (HS.out.ready HX9.out.2.1 HX9.out.2.2)
                  generalize World.setCell _ _ _ = WZ at HQ ⊢
                  clear HX9 HS x0 x1 x2 x3 p3 pf pl pz pc
                  have HLZ := Aside0.mk HQ.out.1
                  have y0 := (blk_cell HLZ.out.ip 0).trans rfl
                  have y1 := (blk_cell HLZ.out.ip 1).trans rfl
                  have y2 := (blk_cell HLZ.out.ip 2).trans rfl
                  have y3 := (blk_cell HLZ.out.ip 3).trans rfl
                  have y4 := (blk_cell HLZ.out.ip 4).trans rfl
                  have y5 := (blk_cell HLZ.out.ip 5).trans rfl
                  have y6 := (blk_cell HLZ.out.ip 6).trans rfl
                  have y7 := (blk_cell HLZ.out.ip 7).trans rfl
                  have y8 := (blk_cell HLZ.out.ip 8).trans rfl
                  have y9 := (blk_cell HLZ.out.ip 9).trans rfl
                  have hM := lim_ask HLZ.out (ths := [[stX k]]) rfl HQ.out.2 (Nat.le_refl 1) (show 1 ≤ 1000 by decide) (fun l hl' => by
                    obtain rfl := List.mem_singleton.1 hl'
                    exact ⟨sm_stX k, show 1 ≤ 1000 by decide, by rw [cnt_plain _ (fun x hx => by obtain rfl := List.mem_singleton.1 hx; exact ⟨rfl, rfl⟩)]; exact (show 1 ≤ 1000 by decide)⟩) (dpE k) (dpN k) (dp_may _ _ _ k hkd9).1 (dp_may _ _ _ k hkd9).2
                  have HM := Aside0.mk hM
                  clear hM
                  go_wp2_with fail
                  refine HM.out.mono ?_
                  rintro r9 w9 ⟨rfl, hb9⟩
                  have HB9 := Aside0.mk (HLZ.out.step hb9).bel
                  clear hb9 HM HLZ HQ y0 y1 y2 y3 y4 y5 y6 y7 y8 y9 e1 hlt
                  by_cases h16 : k ≤ 5
                  · have d1 : decide ((k : Int) + 1 ≤ 6) = true := decide_eq_true (by omega)
                    have q1 : (dpE k == 0) = true := by unfold dpE; rw [if_pos h16]; rfl
                    have q2 : (dpN k == 0) = true := by unfold dpN; rw [if_pos h16]; rfl
                    clear h16
                    go_wp2
                    go_ret
                    exact ⟨rfl, HB9.out⟩
                  · have d1 : decide ((k : Int) + 1 ≤ 6) = false := decide_eq_false (by omega)
                    have d2 : decide (6 < (k : Int) + 1) = true := decide_eq_true (by omega)
                    have q1 : (dpE k == 3) = true := by unfold dpE; rw [if_neg h16]; rfl
                    have q2 : (dpN k == 2) = true := by unfold dpN; rw [if_neg h16]; rfl
                    clear h16
                    go_wp2
                    go_ret
                    exact ⟨rfl, HB9.out⟩
end Go.Proofs.Ytlhbnbckanmaiaa.K
