/- A text of a claim (ours): the document's count of statements walked; conditions: none of ours. -/
import Derived.Test.YtlhbnbckanmaiaaN9V
import Derived.Test.YtlhbnbckanmaiaaM6V
namespace Go.Proofs.Ytlhbnbckanmaiaa.K
open Go Go.RowKit Go.Proofs.YtlhbnbckanmaiaaW.PrintWords Go.Proofs.YtlhbnbckanmaiaaW.PrintLast Go.Proofs.YtlhbnbckanmaiaaW.PrintMore Go.Proofs.Ytlhbnbckanmaiaa.PC1
set_option linter.unusedVariables false
set_option linter.unusedSimpArgs false
theorem initE_bad (P : AP) (i : Nat) (h : (nameB (cellAt P i).f0 && !(locB (P.init.take i) (cellAt P i).f0)) = false) : initE P i 0 = 4 := by
  unfold initE; rw [h, show needE false 4 0 = 4 from rfl, needE_err _ _ _ (by decide)]
theorem initE_val (P : AP) (i : Nat) (h : (nameB (cellAt P i).f0 && !(locB (P.init.take i) (cellAt P i).f0)) = true) (hv : valB P.vals (cellAt P i).f1 = false) : initE P i 0 = 1 := by
  unfold initE; rw [h, need0 _ _ rfl, hv]; rfl
theorem initE_ok (P : AP) (i : Nat) (h : (nameB (cellAt P i).f0 && !(locB (P.init.take i) (cellAt P i).f0)) = true) (hv : valB P.vals (cellAt P i).f1 = true) : initE P i 0 = 0 := by
  unfold initE; rw [h, need0 _ _ rfl, hv]; rfl
theorem rlocs_take (P : AP) (i : Nat) (s : ByteArray) : hasB ((rlocs P).take i) s = locB (P.init.take i) s := by
  rw [← List.map_take, locs_hasB]
theorem rlocs_snoc (P : AP) (i : Nat) (hi : i < P.init.length) : (rlocs P).take i ++ [(cellAt P i).f0] = (rlocs P).take (i + 1) := by
  rw [List.take_succ_eq_append_getElem (by rw [List.length_map]; exact hi), cellAt_eq P i hi, List.getElem_map]
theorem infoStrR : (Try.prog.info? 9).map (fun i => (i.zero, i.size, i.bytes)) = some (some (.string ⟨#[]⟩), 1, 16) := by kernel_rfl
theorem infoRgR : (Try.prog.info? 37).map (fun i => (i.zero, i.size, i.bytes)) = some (some (.slice none 0 0), 1, 24) := by kernel_rfl
/-- .. with the registers of the threads so far. -/
structure RL2 (W wr : World) (P : AP) (vL vR : Value) (RS : List (List ByteArray)) : Prop where
  g : RL W wr P vL (rlocs P)
  nR : Kd.N kRegs0 37 wr (W.heap.size + 1) (fun k => W.heap.size + 1 ≤ k) vR RS
theorem RL2.step {W wr w1 : World} {P : AP} {vL vR : Value} {RS : List (List ByteArray)} (h : RL2 W wr P vL vR RS) (hb : Below wr.heap.size wr w1) : RL2 W w1 P vL vR RS := ⟨h.g.step hb, Kd.N_below h.nR hb⟩
theorem rregs_snoc (P : AP) (i : Nat) (hi : i < P.threads.length) : (rregs P).take i ++ [regsL [] P.threads[i]] = (rregs P).take (i + 1) := by
  rw [List.take_succ_eq_append_getElem (by rw [List.length_map]; exact hi), List.getElem_map]
theorem thread_at {W : World} {P : AP} (hC : Kd.C (Kd.slice 55 kStmt) W P.AT P.threads.length P.threads) (i : Nat) (y : List TStmt) (hy : P.threads[i]? = some y) : ∃ ad A c, P.AT = some ad ∧ W.cell? (ad.add i) = some (.slice A y.length c) ∧ y.length ≤ c ∧ Kd.C kStmt W A y.length y := by
  have hi := (List.getElem?_eq_some_iff.1 hy).1
  obtain ⟨ad, c, e1, _, hK, hc0⟩ := Kd.C_get hC [] (i : Int) (by omega) (by omega)
  have hg : P.threads.getD (i : Int).toNat [] = y := by rw [Int.toNat_natCast, List.getD_eq_getElem?_getD, hy]; rfl
  rw [hg] at hK
  obtain ⟨A, cc, rfl, h1, h2⟩ := hK
  have := hc0 0 _ rfl
  rw [Int.toNat_natCast] at this
  have h3 : W.cell? (ad.add i) = some (.slice A y.length cc) := by simpa [Kd.slice] using this
  exact ⟨ad, A, cc, e1, h3, h1, h2⟩
/-- The names that a walker knows, as an element of the row of them. -/
theorem known_FK {w0 W : World} {y : Nat} {v : Value} {xs : List ByteArray} (h : RegsO w0 y W v xs) : ∃ base, y < base ∧ Kd.FK kRegs0 W (fun k => base ≤ k) xs [v] := by
  obtain ⟨base, h1, h2, h3⟩ := h
  have hR : Kd.R Kd.string 9 W base (fun k => base ≤ k) v xs := Kd.R_of_own h3 (fun k hk => (h3.lt k hk).1)
  obtain ⟨A, c, e, hl, -⟩ := Kd.R_reads hR
  subst e
  exact ⟨base, h2, Kd.FK_slice_mk hl (Kd.R_F hR)⟩
/-- A walker is begun. -/
theorem RL2.begin {W wr : World} {P : AP} {AL : Option Addr} {cL : Nat} {vR : Value} {RS : List (List ByteArray)} (h : RL2 W wr P (.slice AL P.init.length cL) vR RS) (part : Int) :
    WS W (wr.alloc (wblk P.vals AL P.init.length cL (.slice none 0 0) 0 part)) wr.heap.size P.vals AL cL (rlocs P) (.slice none 0 0) [] 0 part := by
  have hr := Kd.R_reads' h.g.rL
  have hq := h.g.rL
  rw [hr.1] at hq ⊢
  have hb := below_al (Below.refl wr.heap.size wr) (wblk P.vals AL (rlocs P).length cL (.slice none 0 0) 0 part)
  refine ⟨below_step h.g.bel0 hb, h.g.bel0.size, blk_new _ _, fun W' c => ?_, by have := hr.2.1; omega, ⟨wr.heap.size + 1, by have := h.g.bel0.size; omega, by omega, ⟨rfl, .inl ⟨rfl, rfl⟩⟩⟩⟩
  have q := Kd.R_step (w1 := W') (Kd.R_bound hq) (fun k hk hlt => (c.block k (by have := hb.size; omega) (by omega)).trans (hb.block k hlt))
  exact (Kd.R_reads' q).2.2
set_option maxHeartbeats 8000000 in
set_option maxRecDepth 100000 in
theorem refMay_any (W : World) (P : AP) (hd : P.dat W) (hsm : P.sm) (hcn : P.cn.size ≤ 1000) (hh : ∀ l ∈ P.threads, hdL l) (hc : dC 20 ⟨P.op, P.th, P.cn, P.n, P.kids⟩) :
    Calls Try.prog 12 #[pAgg P] W fun r W' => r = .returned (.tuple #[.int .i64 (mayE P), .int .i64 (mayN P)]) ∧ Below W.heap.size W W' := by
  have HA := Aside0.mk (And.intro hd (And.intro hsm (And.intro hcn (And.intro hh hc))))
  clear hd hsm hcn hh hc
  go_enter Try.func12, Try.ntmps12
  have hb0 := below_al (Below.refl W.heap.size W) (pObj P)
  have HD0 := Aside0.mk (show Kd.C kCell (W.alloc (pObj P)) P.AI P.init.length P.init ∧ Kd.C (Kd.slice 55 kStmt) (W.alloc (pObj P)) P.AT P.threads.length P.threads ∧ Kd.C kCond (W.alloc (pObj P)) P.AK P.kids.length P.kids from ⟨Kd.C_below HA.out.1.ci hb0, Kd.C_below HA.out.1.ct hb0, Kd.C_below HA.out.1.ck hb0⟩)
  have HRL := Aside0.mk (show RL W (W.alloc (pObj P)) P (.slice none 0 0) [] from ⟨Below.refl _ _, blk_new _ _, Kd.R_nil _ _ _ _ _⟩)
  clear hb0
  go_wp2_with fail
  refine (rhead_any _ P HA.out.1.nm HA.out.1.ni HA.out.1.nt).mono ?_
  rintro e w1 ⟨rfl, hb1⟩
  have HR1 := Aside0.mk (HRL.out.step hb1)
  clear hb1 HRL HD0
  by_cases hd0 : headE P 0 = 0
  case neg =>
    have HM := Aside0.mk (may_head P _ hd0 rfl)
    have g1 : (headE P 0 != 0) = true := by simpa using hd0
    clear hd0
    go_wp2
    go_ret2
    rw [HM.out.1, HM.out.2]
    exact ⟨rfl, HR1.out.bel0⟩
  have HH := Aside0.mk (show runF P s0 .head = s0 from by
    unfold runF; rw [if_pos (show s0.e = 0 from rfl)]; unfold stepF
    have : headE P s0.e = 0 := hd0
    rw [this]; rfl)
  have HHV := Aside0.mk hd0
  rw [hd0]
  clear hd0
  have hil := HA.out.1.ni
  go_wp2_with fail
  go_loopw [5, 6] (fun v5 v6 wr => ∃ (i : Nat), i ≤ P.init.length ∧ v6 = .int .i64 i ∧ Aside0 (RL W wr P v5 ((rlocs P).take i) ∧ ∀ j < i, initE P j 0 = 0)) (fun _ v6 _ => P.init.length - (intOf v6).toNat)
  case atStart => exact ⟨0, Nat.zero_le _, rfl, ⟨by rw [List.take_zero]; exact HR1.out, fun j hj => by omega⟩⟩
  case round =>
    clear HR1
    obtain ⟨i, hi, rfl, HS⟩ := hrel
    have c2 := (blk_cell HS.out.1.blk 2).trans rfl
    by_cases hlt : i < P.init.length
    · have e1 : decide ((i : Int) < (P.init.length : Int)) = true := decide_eq_true (by omega)
      have e2 : decide (i < P.init.length) = true := decide_eq_true hlt
      obtain ⟨ad, hA, h0, h1⟩ := at_T51 HA.out.1.ci (i : Int) (by omega) (by omega)
      rw [hA] at c2
      clear hA
      rw [Int.toNat_natCast] at h0 h1
      replace h0 := pw_cell_below HS.out.1.bel0 h0
      replace h1 := pw_cell_below HS.out.1.bel0 h1
      change wr.cell? (ad.add (i * 2)) = some (.string (cellAt P i).f0) at h0
      change wr.cell? ⟨(ad.add (i * 2)).block, (ad.add (i * 2)).off + 1, none⟩ = some (.int .i64 (cellAt P i).f1) at h1
      have hb := below_al (Below.refl wr.heap.size wr) (.cells #[.string (cellAt P i).f0, .int .i64 (cellAt P i).f1] 51 (0, 0))
      have HS1 := Aside0.mk (HS.out.1.step hb)
      have HX1 := Aside0.mk (blk_new wr (.cells #[.string (cellAt P i).f0, .int .i64 (cellAt P i).f1] 51 (0, 0)))
      have HNS := Aside0.mk (show (cellAt P i).f0.size ≤ 1000 from by rw [cellAt_eq P i hlt]; exact HA.out.1.na _ (List.getElem_mem hlt))
      obtain ⟨AL, cL, hvL⟩ := Kd.R_slice HS.out.1.rL
      subst hvL
      have hll : ((rlocs P).take i).length = i := by rw [List.length_take, List.length_map]; omega
      clear hb
      have hi0 : (0 : Int) ≤ (i : Int) := by omega
      have hi1 : (i : Int) < (P.init.length : Int) := by omega
      have hw1 : wrap64 ((i : Int) + 1) = (i : Int) + 1 := by unfold wrap64; omega
      go_wp2_with fail
      refine (witheref6_Name.calls 1003 (cellAt P i).f0 _ _ (refName_eq _ HNS.out)).mono ?_
      rintro e w2 ⟨rfl, hb2⟩
      have HS2 := Aside0.mk (HS1.out.step hb2)
      have HX2 := Aside0.mk (blk_below HX1.out hb2)
      clear hb2 h0 h1 c2 HX1 HS1
      cases hn : nameB (cellAt P i).f0 with
      | false =>
        have HM := Aside0.mk (may_init P HH.out i hlt HS.out.2 4 (by decide) (initE_bad P i (by rw [hn]; rfl)))
        clear hn
        go_wp2
        go_ret2
        rw [HM.out.1, HM.out.2]
        exact ⟨rfl, HS2.out.bel0⟩
      | true =>
      have HNM := Aside0.mk hn
      clear hn
      have x0 := (blk_cell HX2.out 0).trans rfl
      go_wp2_with fail
      have hrd := Kd.R_reads' HS2.out.rL
      have hQ := witheref9_In.calls 1002 AL cL ((rlocs P).take i) (cellAt P i).f0 (hasB ((rlocs P).take i) (cellAt P i).f0) w2 hrd.2.2 hrd.2.1 (in_str _ _ (by omega))
      clear hrd
      rw [hll] at hQ
      with_reducible refine hQ.mono ?_
      clear hQ
      rintro e w3 ⟨rfl, hd3⟩
      have HS3 := Aside0.mk (HS2.out.step (drawn_below hd3))
      have HX3 := Aside0.mk (blk_below HX2.out (drawn_below hd3))
      clear hd3 x0 HX2 HS2
      rw [rlocs_take]
      cases hl : locB (P.init.take i) (cellAt P i).f0 with
      | true =>
        have HM := Aside0.mk (may_init P HH.out i hlt HS.out.2 4 (by decide) (initE_bad P i (by rw [hl, Bool.and_eq_false_iff]; exact .inr rfl)))
        clear hl
        go_wp2
        go_ret2
        rw [HM.out.1, HM.out.2]
        exact ⟨rfl, HS3.out.bel0⟩
      | false =>
      have HOK := Aside0.mk (show (nameB (cellAt P i).f0 && !(locB (P.init.take i) (cellAt P i).f0)) = true from by rw [HNM.out, hl]; rfl)
      clear hl
      have x0 := (blk_cell HX3.out 0).trans rfl
      have x1 := (blk_cell HX3.out 1).trans rfl
      have c1 := (blk_cell HS3.out.blk 1).trans rfl
      by_cases v0 : (cellAt P i).f1 < 0
      · have g0 : decide ((cellAt P i).f1 < 0) = true := decide_eq_true v0
        have HM := Aside0.mk (may_init P HH.out i hlt HS.out.2 1 (by decide) (initE_val P i HOK.out (by unfold valB; rw [show decide (0 ≤ (cellAt P i).f1) = false from decide_eq_false (by omega)]; rfl)))
        clear v0
        go_wp2
        go_ret2
        rw [HM.out.1, HM.out.2]
        exact ⟨rfl, HS3.out.bel0⟩
      have g0 : decide ((cellAt P i).f1 < 0) = false := decide_eq_false v0
      by_cases v1 : P.vals ≤ (cellAt P i).f1
      · have g1 : decide (P.vals ≤ (cellAt P i).f1) = true := decide_eq_true v1
        have HM := Aside0.mk (may_init P HH.out i hlt HS.out.2 1 (by decide) (initE_val P i HOK.out (by unfold valB; rw [show decide ((cellAt P i).f1 < P.vals) = false from decide_eq_false (by omega), Bool.and_false])))
        clear v0 v1
        go_wp2
        go_ret2
        rw [HM.out.1, HM.out.2]
        exact ⟨rfl, HS3.out.bel0⟩
      have g1 : decide (P.vals ≤ (cellAt P i).f1) = false := decide_eq_false v1
      have HIO := Aside0.mk (show ∀ j < i + 1, initE P j 0 = 0 from fun j hj => by
        by_cases hji : j = i
        · subst hji
          exact initE_ok P j HOK.out (by unfold valB; rw [decide_eq_true (by omega), decide_eq_true (by omega)]; rfl)
        · exact HS.out.2 j (by omega))
      clear v0 v1
      go_wp2_with (first | ((with_reducible refine gate_builtin (b := .append) (xs := #[.tmp 55, .tmp 58]) rfl ?_); refine hold ?_))
      refine ⟨?_⟩
      have hrl3 := HS3.out.rL
      rw [hll] at hrl3
      (at_builtin; refine Kd.R_append Kd.string (w0 := W.alloc (pObj P)) (W.heap.size + 1) rfl (.tmp 55) (.tmp 58) 37 9 (.string ⟨#[]⟩) 16 rfl Try.underlying37 infoStrR rfl (by decide) (by decide) _ ((rlocs P).take i) (cellAt P i).f0 [.string (cellAt P i).f0] (fun k => W.heap.size + 1 ≤ k) (fun _ => False) (by first | rfl | (simp [Act.eval]; done)) (by first | rfl | (simp [Act.eval]; done)) rfl (fun _ hk => hk.elim) (fun k hk => Nat.le_trans HS3.out.size hk) hrl3 HS3.out.bel HS3.out.size (by omega) ?_; intro v4 w4 ho4 hb4 hg4 _)
      rw [rlocs_snoc P i hlt] at ho4
      have HS4 := Aside0.mk (show RL W w4 P v4 ((rlocs P).take (i + 1)) from ⟨hb4, (hg4.block _ (blk_lt HS3.out.blk) (fun e => by have := Kd.R_base hrl3 _ e.symm; omega)).trans HS3.out.blk, ho4⟩)
      clear ho4 hb4 hg4 hrl3 x0 x1 c1 HX3
      have HLT := Aside0.mk hlt
      clear hll hlt
      go_wp2
      go_roundw
      case rel => exact ⟨i + 1, HLT.out, by go_num, ⟨HS4.out, HIO.out⟩⟩
      case measure => have := HLT.out; simp [intOf]; omega
    · have e1 : decide ((i : Int) < (P.init.length : Int)) = false := decide_eq_false (by omega)
      have e2 : decide (i < P.init.length) = false := decide_eq_false hlt
      obtain rfl : i = P.init.length := by omega
      have HIO := Aside0.mk HS.out.2
      have hR0 := HS.out.1
      rw [show (rlocs P).take P.init.length = rlocs P from by rw [← List.length_map (f := fun x : TCell => x.f0), List.take_length]] at hR0
      obtain ⟨AL, cL, hvL⟩ := Kd.R_slice hR0.rL
      have hlc : (rlocs P).length = P.init.length := List.length_map _
      rw [hlc] at hvL
      subst hvL
      have HR2 := Aside0.mk (show RL2 W wr P (.slice AL P.init.length cL) (.slice none 0 0) ((rregs P).take 0) from ⟨hR0, by rw [List.take_zero]; exact Kd.N_nil _ _ _ _ _⟩)
      have HLC := Aside0.mk hlc
      have hnt := HA.out.1.nt
      clear HS hR0 hlt hi hlc
      go_wp2_with fail
      rw [Int.add_comm 1 (P.init.length : Int)]
      clear c2 e1 e2
      go_loopw [8, 9, 10] (fun v8 v9 v10 wr => ∃ (i : Nat) (sp : BS), i ≤ P.threads.length ∧ v8 = .int .i64 (sp.part + 1) ∧ v10 = .int .i64 i ∧ Aside0 (RL2 W wr P (.slice AL P.init.length cL) v9 ((rregs P).take i) ∧ thrF P i ⟨P.init.length, 0, 0, []⟩ = sp ∧ sp.e = 0 ∧ 0 ≤ sp.part ∧ sp.part ≤ 1000 + 1000 * i)) (fun _ _ v10 _ => P.threads.length - (intOf v10).toNat)
      case atStart => exact ⟨0, ⟨P.init.length, 0, 0, []⟩, Nat.zero_le _, rfl, rfl, ⟨HR2.out, rfl, rfl, by show (0 : Int) ≤ P.init.length; omega, by show (P.init.length : Int) ≤ _; omega⟩⟩
      case round =>
        clear HR2
        obtain ⟨i, sp, hi, rfl, rfl, HS⟩ := hrel
        have c3 := (blk_cell HS.out.1.g.blk 3).trans rfl
        have c1 := (blk_cell HS.out.1.g.blk 1).trans rfl
        by_cases hlt : i < P.threads.length
        · have e1 : decide ((i : Int) < (P.threads.length : Int)) = true := decide_eq_true (by omega)
          have e2 : decide (i < P.threads.length) = true := decide_eq_true hlt
          obtain ⟨y, hy⟩ : ∃ y, P.threads[i]? = some y := ⟨_, List.getElem?_eq_getElem hlt⟩
          obtain ⟨RSi, hRSi⟩ : ∃ RSi, RSi = (rregs P).take i := ⟨_, rfl⟩
          rw [← hRSi] at HS
          have HRI := Aside0.mk hRSi
          clear hRSi
          obtain ⟨AR, cR, hvR⟩ := Kd.N_slice HS.out.1.nR
          subst hvR
          obtain ⟨ad, A3, c3', hA, t0, hl3, hC3⟩ := thread_at HA.out.1.ct i y hy
          rw [hA] at c3
          clear hA
          have HC3 := Aside0.mk hC3
          have HY := Aside0.mk hy
          have hsmy := HA.out.2.1.st y (List.mem_of_getElem? hy)
          have HSM := Aside0.mk hsmy
          have hhy := Aside0.mk (HA.out.2.2.2.1 y (List.mem_of_getElem? hy))
          have HW1 := Aside0.mk (HS.out.1.begin (sp.part + 1))
          have hb := below_al (Below.refl wr.heap.size wr) (wblk P.vals AL P.init.length cL (.slice none 0 0) 0 (sp.part + 1))
          have HS1 := Aside0.mk (HS.out.1.step hb)
          have t1 := pw_cell_below (below_step HS.out.1.g.bel0 hb) t0
          have f3 := pw_cell_below hb c3
          have hi0 : (0 : Int) ≤ (i : Int) := by omega
          have hi1 : (i : Int) < (P.threads.length : Int) := by omega
          clear hC3 hy hsmy hl3 t0
          go_upto_region 20 with fail
          have HB2 := Aside0.mk hb
          clear hb
          generalize World.alloc wr _ = w2 at HW1 HS1 t1 f3 HB2 ⊢
          go_wp2_with fail
          refine (all_ok W wr.heap.size P AL cL HA.out.1.ni (SizeOf.sizeOf y + 1) y (Nat.lt_succ_self _) w2 ⟨sp.part, 0, 0, []⟩ (.slice none 0 0) A3 c3' 0 HW1.out rfl (Nat.zero_le _) HC3.out HSM.out.1 hhy.out HSM.out.2.1 HS.out.2.2.2.1 (Int.le_refl _) (Int.le_refl _) (by have := HS.out.2.2.2.2; have := HSM.out.2.2; show sp.part + _ ≤ _; omega) (by have := HSM.out.2.2; show (0 : Int) + _ ≤ _; omega) (by have := HSM.out.2.2; omega)).mono ?_
          rintro e w5 ⟨vK, k2, n', p', rfl, hW5, hc5, h50, h51⟩
          have hTH : thrOf P i = y := by rw [thrOf_eq P i hlt]; have := HY.out; rw [List.getElem?_eq_getElem hlt] at this; exact Option.some.inj this
          have HBR := Aside0.mk (blockL_regs P 0 ⟨sp.part, 0, 0, []⟩ y rfl)
          obtain ⟨t, ht⟩ : ∃ t, blockL P 0 ⟨sp.part, 0, 0, []⟩ y = t := ⟨_, rfl⟩
          have HTF := Aside0.mk (show thrF P (i + 1) ⟨P.init.length, 0, 0, []⟩ = t from by
            rw [thrF_succ, HS.out.2.1]
            unfold runF; rw [if_pos HS.out.2.2.1]; unfold stepF
            simp only
            rw [HS.out.2.2.1, hTH, ht])
          have HFA := Aside0.mk (blockL_far P 0 ⟨sp.part, 0, 0, []⟩ y)
          have HMT := Aside0.mk (fun hte => may_thr P HH.out HIO.out i hlt sp HS.out.2.1 HS.out.2.2.1 t (by rw [hTH, ht]) hte)
          rw [ht] at h50 h51 HBR HFA ⊢
          have hyv : some wr.heap.size ≠ (Value.slice AL P.init.length cL).ownBlock := fun e => by have := Kd.R_lt HS.out.1.g.rL _ e.symm; omega
          have hyr : some wr.heap.size ≠ (Value.slice AR RSi.length cR).ownBlock := fun e => by have := Kd.N_lt HS.out.1.nR _ e.symm; omega
          have HS5 := Aside0.mk (show RL2 W w5 P (.slice AL P.init.length cL) (.slice AR RSi.length cR) RSi from ⟨HS1.out.g.chg hc5 HS.out.1.g.size hyv, Kd.N_mono (Kd.N_step (Kd.N_bound HS.out.1.nR) (fun k hk hlt => (hc5.block k (by have := HB2.out.size; omega) (by omega)).trans (HB2.out.block k hlt))) (fun k hk => hk.1)⟩)
          have HW5 := Aside0.mk (And.intro hW5 (And.intro h50 h51))
          have HLT := Aside0.mk hlt
          clear hW5 hc5 h50 h51 ht hTH hyv hyr t1 f3 c3 c1 HS1 HW1 hlt
          have y4 := (blk_cell HW5.out.1.blk 4).trans rfl
          by_cases hte : t.e = 0
          · rw [hte]
            obtain ⟨rfl, rfl, rfl, hk4⟩ := HW5.out.2.1 hte
            have HTE := Aside0.mk hte
            clear hte hk4
            obtain ⟨A2, c2', hvK, -, -⟩ := HW5.out.1.lk
            subst hvK
            have y2 := (blk_cell HW5.out.1.blk 2).trans rfl
            have hrl : RSi.length ≤ 1000 := by rw [HRI.out, List.length_take, List.length_map]; omega
            have hregs := Aside0.mk (show t.regs = regsL [] y from HBR.out HTE.out)
            obtain ⟨bK, hbK, hFK⟩ := known_FK HW5.out.1.lo
            have hsz5 := HS5.out.g.size
            go_wp2_with (first | ((with_reducible refine gate_builtin (b := .append) (xs := #[.tmp 95, .tmp 100]) rfl ?_); refine hold ?_))
            refine ⟨?_⟩
            (at_builtin; refine Kd.N_append kRegs0 (w0 := W.alloc (pObj P)) (W.heap.size + 1) rfl (.tmp 95) (.tmp 100) 71 37 (.slice none 0 0) 24 rfl Try.underlying71 infoRgR rfl (by decide) (by decide) (.slice AR RSi.length cR) RSi t.regs [.slice A2 t.regs.length c2'] (fun k => W.heap.size + 1 ≤ k) (fun k => bK ≤ k) (by first | rfl | (simp [Act.eval]; done)) (by first | rfl | (simp [Act.eval]; done)) hFK (fun k hk => ⟨by have := HS.out.1.g.size; omega, fun e => by have := Kd.N_lt HS.out.1.nR k e.symm; omega⟩) (fun k hk => Nat.le_trans hsz5 hk) HS5.out.nR HS5.out.g.bel hsz5 (by omega) ?_; intro v1 w1 hn1 hb1 hg1 hat1)
            have HS6 := Aside0.mk (show RL2 W w1 P (.slice AL P.init.length cL) v1 ((rregs P).take (i + 1)) ∧ thrF P (i + 1) ⟨P.init.length, 0, 0, []⟩ = t ∧ t.e = 0 ∧ 0 ≤ t.part ∧ t.part ≤ 1000 + 1000 * ((i + 1 : Nat) : Int) from by
              refine ⟨⟨⟨hb1, (hg1.block _ (blk_lt HS5.out.g.blk) (fun e => by have := Kd.N_base HS5.out.nR _ e.symm; omega)).trans HS5.out.g.blk, Kd.R_over' HS5.out.g.rL (Kd.N_typed HS5.out.nR) (by decide) hg1⟩, ?_⟩, HTF.out, HTE.out, ?_, ?_⟩
              · have hsn := rregs_snoc P i HLT.out
                have hyy : P.threads[i]'HLT.out = y := by have := HY.out; rw [List.getElem?_eq_getElem HLT.out] at this; exact Option.some.inj this
                rw [hyy, ← HRI.out, ← hregs.out] at hsn
                rw [← hsn]; exact hn1
              · have h1 : sp.part ≤ t.part ∧ t.part ≤ sp.part + cntL y := HFA.out.p
                have := HS.out.2.2.2.1; omega
              · have h1 : sp.part ≤ t.part ∧ t.part ≤ sp.part + cntL y := HFA.out.p
                have h2 := HS.out.2.2.2.2; have h3 := HSM.out.2.2; omega)
            clear hn1 hb1 hg1 hat1 hFK hbK hregs hrl y2 y4 hsz5
            go_wp2
            go_roundw
            case rel => exact ⟨i + 1, t, HLT.out, rfl, by go_num, HS6⟩
            case measure => have := HLT.out; simp [intOf]; omega
          · have g1 : (t.e != 0) = true := by simpa using hte
            have hpe := HW5.out.2.2 hte
            subst hpe
            have HM := Aside0.mk (HMT.out hte)
            have HB5 := Aside0.mk HS5.out.g.bel0
            clear hte
            go_wp2
            go_quiet (fail)
            go_wp2
            go_ret2
            rw [HM.out.1, HM.out.2]
            exact ⟨rfl, pw_below_drewN HB5.out nq⟩
        · have e1 : decide ((i : Int) < (P.threads.length : Int)) = false := decide_eq_false (by omega)
          have e2 : decide (i < P.threads.length) = false := decide_eq_false hlt
          obtain rfl : i = P.threads.length := by omega
          have hRA : (rregs P).take P.threads.length = rregs P := by rw [← List.length_map (f := regsL []), List.take_length]
          have hR2 := HS.out.1
          rw [hRA] at hR2
          obtain ⟨AR, cR, hvR⟩ := Kd.N_slice hR2.nR
          have hrc : (rregs P).length = P.threads.length := List.length_map _
          rw [hrc] at hvR
          subst hvR
          have HQ := Aside0.mk (may_quest P HH.out HIO.out sp HS.out.2.1 HS.out.2.2.1)
          have HR2 := Aside0.mk hR2
          have hcL := (Kd.R_reads' hR2.g.rL)
          have hcR := (Kd.N_reads' hR2.nR)
          have c4 := (blk_cell hR2.g.blk 4).trans rfl
          have c5 := (blk_cell hR2.g.blk 5).trans rfl
          have c6 := (blk_cell hR2.g.blk 6).trans rfl
          have c7 := (blk_cell hR2.g.blk 7).trans rfl
          have c8 := (blk_cell hR2.g.blk 8).trans rfl
          have c9 := (blk_cell hR2.g.blk 9).trans rfl
          have hsmC : smC ⟨P.op, P.th, P.cn, P.n, P.kids⟩ := (smC_def _).2 ⟨HA.out.2.2.1, HA.out.2.1.kd.2, HA.out.2.1.kd.1⟩
          have hv2 : 2 ≤ P.vals := by
            have h := HHV.out
            unfold headE at h
            have h1 := need_zero _ _ _ (need_zero _ _ _ (need_zero _ _ _ h (by decide)).2 (by decide)).2 (by decide)
            have h2 := (need_zero _ _ _ h1.2 (by decide)).1
            rw [Bool.and_eq_true, decide_eq_true_eq, decide_eq_true_eq] at h2
            exact h2.1
          obtain ⟨K1, hK1⟩ := condDeep_ev 20 (by decide) ⟨P.op, P.th, P.cn, P.n, P.kids⟩ HA.out.2.2.2.2 hsmC
          have HNR := Aside0.mk (show ∀ l ∈ P.threads, (regsL [] l).length ≤ 1000 from fun l hl => by have h1 := regsL_len [] l; have h2 := (HA.out.2.1.st l hl).2.2; simp only [List.length_nil] at h1; omega)
          have HSC := Aside0.mk (And.intro hsmC hv2)
          have HK1 := Aside0.mk (hK1 K1 (Nat.le_refl _))
          have HCL := Aside0.mk (And.intro hcL hcR)
          have hDI := depC_iff 6 20 ⟨P.op, P.th, P.cn, P.n, P.kids⟩ (by decide)
          have HDI := Aside0.mk hDI
          clear hR2 hRA hrc hcL hcR hsmC hv2 hK1 hDI HS hlt hi
          by_cases ha : P.ask = 1
          · have g1 : (P.ask != 1) = false := by rw [ha]; rfl
            have g2 : (P.ask != 2) = true := by rw [ha]; rfl
            have HQ1 := Aside0.mk (show questE P 0 = condF P (needE (decide (depC 7 ⟨P.op, P.th, P.cn, P.n, P.kids⟩ ≤ 6)) 3 0) ⟨P.op, P.th, P.cn, P.n, P.kids⟩ from by unfold questE; rw [need0 _ 1 (by rw [ha]; rfl)])
            clear ha
            go_wp2_with fail
            refine (witheref9_condDeep.calls K1 P.op P.th P.cn P.n P.AK P.cK P.kids (depC 20 ⟨P.op, P.th, P.cn, P.n, P.kids⟩) _ (Kd.C_below HA.out.1.ck HR2.out.g.bel0) HA.out.1.lk HK1.out).mono ?_
            rintro e w5 ⟨rfl, hb5⟩
            have HR5 := Aside0.mk (HR2.out.step hb5)
            clear hb5 c1 c3 c4 c5 c6 c7 c8 c9
            by_cases hdp : 6 < depC 20 ⟨P.op, P.th, P.cn, P.n, P.kids⟩
            · have d1 : decide (6 < depC 20 ⟨P.op, P.th, P.cn, P.n, P.kids⟩) = true := decide_eq_true hdp
              have HM := Aside0.mk (show mayE P = 3 ∧ mayN P = sp.part + 1 from by
                have h1 : ¬ depC 7 ⟨P.op, P.th, P.cn, P.n, P.kids⟩ ≤ 6 := fun h => by have := HDI.out.2 h; omega
                have h2 : questE P 0 = 3 := by rw [HQ1.out, need_bad0 _ 3 (decide_eq_false h1), condF_err _ _ _ (by decide)]
                rw [HQ.out.1, HQ.out.2, h2]; exact ⟨rfl, rfl⟩)
              clear hdp
              go_wp2
              go_ret2
              rw [HM.out.1, HM.out.2]
              exact ⟨rfl, HR5.out.g.bel0⟩
            have d1 : decide (6 < depC 20 ⟨P.op, P.th, P.cn, P.n, P.kids⟩) = false := decide_eq_false hdp
            have HQ2 := Aside0.mk (show questE P 0 = condF P 0 ⟨P.op, P.th, P.cn, P.n, P.kids⟩ from by
              have h1 : depC 7 ⟨P.op, P.th, P.cn, P.n, P.kids⟩ ≤ 6 := HDI.out.1 (by omega)
              rw [HQ1.out, need0 _ 3 (decide_eq_true h1)])
            have k1 := (blk_cell HR5.out.g.blk 1).trans rfl
            have k5 := (blk_cell HR5.out.g.blk 5).trans rfl
            have k6 := (blk_cell HR5.out.g.blk 6).trans rfl
            have k7 := (blk_cell HR5.out.g.blk 7).trans rfl
            have k8 := (blk_cell HR5.out.g.blk 8).trans rfl
            have k9 := (blk_cell HR5.out.g.blk 9).trans rfl
            clear hdp
            go_wp2_with fail
            have hcL := Kd.R_reads' HR5.out.g.rL
            have hcR := Kd.N_reads' HR5.out.nR
            have hcc := rcond_ok w5 P AL cL AR cR ⟨by rw [hcL.1]; exact hcL.2.2, hcL.2.1, by rw [hcR.1]; exact hcR.2.2, hcR.2.1, HSC.out.2, HA.out.1.ni, HA.out.1.nt, HNR.out⟩ (SizeOf.sizeOf (S26.mk P.op P.th P.cn P.n P.kids) + 1) ⟨P.op, P.th, P.cn, P.n, P.kids⟩ (Nat.lt_succ_self _) w5 P.AK P.cK (Below.refl _ _) (Kd.C_below HA.out.1.ck HR5.out.g.bel0) HA.out.1.lk HSC.out.1
            clear hcL hcR
            with_reducible refine hcc.mono ?_
            clear hcc
            rintro e w6 ⟨rfl, hb6⟩
            rw [← HQ2.out]
            have HR6 := Aside0.mk (HR5.out.step hb6)
            clear hb6 k1 k5 k6 k7 k8 k9
            by_cases hq0 : questE P 0 = 0
            · have HM := Aside0.mk (show mayE P = 0 ∧ mayN P = 0 from by rw [HQ.out.1, HQ.out.2, hq0]; exact ⟨rfl, rfl⟩)
              rw [hq0]
              clear hq0
              go_wp2
              go_ret2
              rw [HM.out.1, HM.out.2]
              exact ⟨rfl, HR6.out.g.bel0⟩
            · have q1 : (questE P 0 != 0) = true := by simpa using hq0
              have HM := Aside0.mk (show mayE P = questE P 0 ∧ mayN P = sp.part + 1 from by rw [HQ.out.1, HQ.out.2, if_neg hq0]; exact ⟨rfl, rfl⟩)
              clear hq0
              go_wp2
              go_ret2
              rw [HM.out.1, HM.out.2]
              exact ⟨rfl, HR6.out.g.bel0⟩
          · by_cases ha2 : P.ask = 2
            · have g1 : (P.ask != 1) = true := by rw [ha2]; rfl
              have g2 : (P.ask != 2) = false := by rw [ha2]; rfl
              have HQ1 := Aside0.mk (show questE P 0 = condF P (needE (decide (depC 7 ⟨P.op, P.th, P.cn, P.n, P.kids⟩ ≤ 6)) 3 0) ⟨P.op, P.th, P.cn, P.n, P.kids⟩ from by unfold questE; rw [need0 _ 1 (by rw [ha2]; rfl)])
              clear ha ha2
              go_wp2_with fail
              refine (witheref9_condDeep.calls K1 P.op P.th P.cn P.n P.AK P.cK P.kids (depC 20 ⟨P.op, P.th, P.cn, P.n, P.kids⟩) _ (Kd.C_below HA.out.1.ck HR2.out.g.bel0) HA.out.1.lk HK1.out).mono ?_
              rintro e w5 ⟨rfl, hb5⟩
              have HR5 := Aside0.mk (HR2.out.step hb5)
              clear hb5 c1 c3 c4 c5 c6 c7 c8 c9
              by_cases hdp : 6 < depC 20 ⟨P.op, P.th, P.cn, P.n, P.kids⟩
              · have d1 : decide (6 < depC 20 ⟨P.op, P.th, P.cn, P.n, P.kids⟩) = true := decide_eq_true hdp
                have HM := Aside0.mk (show mayE P = 3 ∧ mayN P = sp.part + 1 from by
                  have h1 : ¬ depC 7 ⟨P.op, P.th, P.cn, P.n, P.kids⟩ ≤ 6 := fun h => by have := HDI.out.2 h; omega
                  have h2 : questE P 0 = 3 := by rw [HQ1.out, need_bad0 _ 3 (decide_eq_false h1), condF_err _ _ _ (by decide)]
                  rw [HQ.out.1, HQ.out.2, h2]; exact ⟨rfl, rfl⟩)
                clear hdp
                go_wp2
                go_ret2
                rw [HM.out.1, HM.out.2]
                exact ⟨rfl, HR5.out.g.bel0⟩
              have d1 : decide (6 < depC 20 ⟨P.op, P.th, P.cn, P.n, P.kids⟩) = false := decide_eq_false hdp
              have HQ2 := Aside0.mk (show questE P 0 = condF P 0 ⟨P.op, P.th, P.cn, P.n, P.kids⟩ from by
                have h1 : depC 7 ⟨P.op, P.th, P.cn, P.n, P.kids⟩ ≤ 6 := HDI.out.1 (by omega)
                rw [HQ1.out, need0 _ 3 (decide_eq_true h1)])
              have k1 := (blk_cell HR5.out.g.blk 1).trans rfl
              have k5 := (blk_cell HR5.out.g.blk 5).trans rfl
              have k6 := (blk_cell HR5.out.g.blk 6).trans rfl
              have k7 := (blk_cell HR5.out.g.blk 7).trans rfl
              have k8 := (blk_cell HR5.out.g.blk 8).trans rfl
              have k9 := (blk_cell HR5.out.g.blk 9).trans rfl
              clear hdp
              go_wp2_with fail
              have hcL := Kd.R_reads' HR5.out.g.rL
              have hcR := Kd.N_reads' HR5.out.nR
              have hcc := rcond_ok w5 P AL cL AR cR ⟨by rw [hcL.1]; exact hcL.2.2, hcL.2.1, by rw [hcR.1]; exact hcR.2.2, hcR.2.1, HSC.out.2, HA.out.1.ni, HA.out.1.nt, HNR.out⟩ (SizeOf.sizeOf (S26.mk P.op P.th P.cn P.n P.kids) + 1) ⟨P.op, P.th, P.cn, P.n, P.kids⟩ (Nat.lt_succ_self _) w5 P.AK P.cK (Below.refl _ _) (Kd.C_below HA.out.1.ck HR5.out.g.bel0) HA.out.1.lk HSC.out.1
              clear hcL hcR
              with_reducible refine hcc.mono ?_
              clear hcc
              rintro e w6 ⟨rfl, hb6⟩
              rw [← HQ2.out]
              have HR6 := Aside0.mk (HR5.out.step hb6)
              clear hb6 k1 k5 k6 k7 k8 k9
              by_cases hq0 : questE P 0 = 0
              · have HM := Aside0.mk (show mayE P = 0 ∧ mayN P = 0 from by rw [HQ.out.1, HQ.out.2, hq0]; exact ⟨rfl, rfl⟩)
                rw [hq0]
                clear hq0
                go_wp2
                go_ret2
                rw [HM.out.1, HM.out.2]
                exact ⟨rfl, HR6.out.g.bel0⟩
              · have q1 : (questE P 0 != 0) = true := by simpa using hq0
                have HM := Aside0.mk (show mayE P = questE P 0 ∧ mayN P = sp.part + 1 from by rw [HQ.out.1, HQ.out.2, if_neg hq0]; exact ⟨rfl, rfl⟩)
                clear hq0
                go_wp2
                go_ret2
                rw [HM.out.1, HM.out.2]
                exact ⟨rfl, HR6.out.g.bel0⟩
            · have g1 : (P.ask != 1) = true := by simpa using ha
              have g2 : (P.ask != 2) = true := by simpa using ha2
              have HM := Aside0.mk (show mayE P = 1 ∧ mayN P = sp.part + 1 from by
                have h2 : questE P 0 = 1 := by
                  unfold questE
                  rw [need_bad0 ((P.ask == 1) || (P.ask == 2)) 1 (by rw [beq_eq_false_iff_ne.2 ha, beq_eq_false_iff_ne.2 ha2]; rfl), needE_err _ _ _ (by decide), condF_err _ _ _ (by decide)]
                rw [HQ.out.1, HQ.out.2, h2]; exact ⟨rfl, rfl⟩)
              clear ha ha2
              go_wp2
              go_ret2
              rw [HM.out.1, HM.out.2]
              exact ⟨rfl, HR2.out.g.bel0⟩
end Go.Proofs.Ytlhbnbckanmaiaa.K
namespace Go.Proofs.Ytlhbnbckanmaiaa.K
open Go Go.RowKit Go.Proofs.YtlhbnbckanmaiaaW.PrintWords Go.Proofs.YtlhbnbckanmaiaaW.PrintLast Go.Proofs.YtlhbnbckanmaiaaW.PrintMore Go.Proofs.Ytlhbnbckanmaiaa.PC1
set_option linter.unusedVariables false
set_option linter.unusedSimpArgs false
/-- A statement of a row, opened. -/
structure StK (w0 : World) (N : Nat) (l : List TStmt) (i : Nat) (x : TStmt) (A5 A6 : Option Addr) : Prop where
  lt : i < l.length
  cn : cntL (l.take (i + 1)) = cntL (l.take i) + (1 + cntL x.f5 + cntL x.f6)
  n : cntL (l.take i) + 1 + cntL x.f5 + cntL x.f6 ≤ 1000
  k5 : Kd.C kStmt w0 A5 x.f5.length x.f5
  k6 : Kd.C kStmt w0 A6 x.f6.length x.f6
  s5 : smSs x.f5
  s6 : smSs x.f6
  sz5 : SizeOf.sizeOf x.f5 < N
  sz6 : SizeOf.sizeOf x.f6 < N
theorem cntL_len : ∀ (l : List TStmt), l.length ≤ cntL l
  | [] => by rw [cntL]; decide
  | x :: xs => by have := cntL_len xs; have := cntS_def x; rw [cntL, List.length_cons]; omega
theorem smSs_at (l : List TStmt) (i : Nat) (hi : i < l.length) (h : smSs l) : smS l[i] := by
  induction l generalizing i with
  | nil => exact absurd hi (by simp)
  | cons x xs ih =>
    rw [smSs] at h
    cases i with
    | zero => exact h.1
    | succ i => exact ih i (by simpa using hi) h.2
def RCntOk (w0 : World) (N : Nat) : Prop :=
  ∀ (l : List TStmt), SizeOf.sizeOf l < N → ∀ (W : World) (A : Option Addr) (c : Nat), Below w0.heap.size w0 W → Kd.C kStmt w0 A l.length l → smSs l → cntL l ≤ 1000 →
    Calls Try.prog 14 #[.slice A l.length c] W fun r W' => r = .returned (.int .i64 (cntL l : Int)) ∧ Below W.heap.size W W'
set_option maxHeartbeats 8000000 in
set_option maxRecDepth 100000 in
theorem rcnt_step (w0 : World) (N : Nat) (ih : RCntOk w0 N) : RCntOk w0 (N + 1) := by
  intro l hN W A c hb hC hsm hcn
  have HI := Aside0.mk ih
  have HA := Aside0.mk (And.intro hb (And.intro hC (And.intro hsm (And.intro hcn hN))))
  have hl1 : l.length ≤ 1000 := Nat.le_trans (cntL_len l) hcn
  clear ih hb hC hsm hcn hN
  go_enter Try.func14, Try.ntmps14
  go_wp2_with fail
  go_loopw [3, 4] (fun v3 v4 wr => ∃ (i : Nat), i ≤ l.length ∧ v4 = .int .i64 i ∧ v3 = .int .i64 (cntL (l.take i) : Int) ∧ Aside0 (Below w0.heap.size w0 wr ∧ Below W.heap.size W wr)) (fun _ v4 _ => l.length - (intOf v4).toNat)
  case atStart => exact ⟨0, Nat.zero_le _, rfl, by rw [List.take_zero, cntL]; rfl, ⟨HA.out.1, Below.refl _ _⟩⟩
  case round =>
    obtain ⟨i, hi, rfl, rfl, HB⟩ := hrel
    by_cases hlt : i < l.length
    · have e1 : decide ((i : Int) < (l.length : Int)) = true := decide_eq_true (by omega)
      have e2 : decide (i < l.length) = true := decide_eq_true hlt
      obtain ⟨ad, A4, c4, A5, c5, A6, c6, hA, h0, h1, h2, h3, h4, h5, h6, hl4, hk4, hl5, hk5, hl6, hk6⟩ := at_T55 HA.out.2.1 (i : Int) (by omega) (by omega)
      subst hA
      rw [Int.toNat_natCast] at h5 h6
      rw [rdS_eq l i hlt] at h5 h6 hk5 hk6
      replace h5 := pw_cell_below HB.out.1 h5
      replace h6 := pw_cell_below HB.out.1 h6
      have hs := (smS_def _).1 (smSs_at l i hlt HA.out.2.2.1)
      have hct := cntL_take l i hlt
      have hcs := cntS_def l[i]
      have hz := sizeS l i hlt
      have HK := Aside0.mk (show StK w0 N l i l[i] A5 A6 from ⟨hlt, by omega, by have := HA.out.2.2.2.1; omega, hk5, hk6, hs.2.2.2.2.2.1, hs.2.2.2.2.2.2.2, by have := HA.out.2.2.2.2; omega, by have := HA.out.2.2.2.2; omega⟩)
      generalize l[i] = x at h5 h6 HK
      generalize hn0 : (cntL (l.take i) : Int) = n0
      have hx : 0 ≤ n0 ∧ n0 + 1 + (cntL x.f5 : Int) + (cntL x.f6 : Int) ≤ 1000 := by have := HK.out.n; omega
      have HZ := Aside0.mk (show n0 + 1 + (cntL x.f5 : Int) + (cntL x.f6 : Int) = (cntL (l.take (i + 1)) : Int) by have := HK.out.cn; omega)
      have hw1 : IntKind.i64.wrap (n0 + 1) = n0 + 1 := by rw [IntKind.wrap_i64]; omega
      have hw2 : IntKind.i64.wrap (n0 + 1 + (cntL x.f5 : Int)) = n0 + 1 + (cntL x.f5 : Int) := by rw [IntKind.wrap_i64]; omega
      have hw3 : IntKind.i64.wrap (n0 + 1 + (cntL x.f5 : Int) + (cntL x.f6 : Int)) = n0 + 1 + (cntL x.f5 : Int) + (cntL x.f6 : Int) := by rw [IntKind.wrap_i64]; omega
      have hi0 : (0 : Int) ≤ (i : Int) := by omega
      have hi1 : (i : Int) < (l.length : Int) := by omega
      have hi2 := hlt
      clear hn0 hx h0 h1 h2 h3 h4 hk4 hl4 hk5 hl5 hk6 hl6 hs hct hcs hz hlt hi
      go_upto_region 5 with fail
      refine wp_region_any (by kernel_rfl) ?_
      have HD2 := Aside0.mk (below_step HB.out.2 (below_drew (Below.refl _ _)))
      have HD := Aside0.mk (below_step HB.out.1 (below_drew (Below.refl _ _)))
      replace h5 := pw_cell_below (below_drew (Below.refl _ _)) h5
      replace h6 := pw_cell_below (below_drew (Below.refl _ _)) h6
      change wpAny _ _ _ _ _ _ _ wr.drew
      generalize wr.drew = wD at HD HD2 h5 h6 ⊢
      refine wpAny_vals3 rfl (by kernel_rfl) ([(11, Value.int .i64 n0), (12, Value.int .i64 (n0 + 1)), (13, Value.slice (some ad) l.length c), (14, Value.int .i64 (i : Int)), (15, Value.pointer (some (ad.add (i * 7)))), (16, Value.pointer (some (⟨(ad.add (i * 7)).block, (ad.add (i * 7)).off + 5, none⟩ : Addr))), (17, Value.slice A5 x.f5.length c5), (18, Value.int .i64 (cntL x.f5 : Int)), (19, Value.int .i64 (n0 + 1 + (cntL x.f5 : Int))), (20, Value.slice (some ad) l.length c), (21, Value.int .i64 (i : Int)), (22, Value.pointer (some (ad.add (i * 7)))), (23, Value.pointer (some (⟨(ad.add (i * 7)).block, (ad.add (i * 7)).off + 6, none⟩ : Addr))), (24, Value.slice A6 x.f6.length c6), (25, Value.int .i64 (cntL x.f6 : Int)), (26, Value.int .i64 (n0 + 1 + (cntL x.f5 : Int) + (cntL x.f6 : Int))), (3, Value.int .i64 (n0 + 1 + (cntL x.f5 : Int) + (cntL x.f6 : Int)))]) [11, 12, 13, 14, 15, 16, 17, 18, 19, 20, 21, 22, 23, 24, 25, 26, 3] rfl rfl (by decide) 28 rfl (by decide) ?_ ?_ _ _ (by simp) (by decide) (no_flag 17)
      · intro i_ o p r0 a w ho hp hr0 hsl hv hnx hb K hK
        have hi_ : i_ < 17 := (Array.getElem?_eq_some_iff.1 ho).1
        match i_, hi_ with
        | 0, _ =>
          obtain rfl := Option.some.inj ho
          obtain rfl := Option.some.inj hp
          obtain rfl := Option.some.inj hr0
          refine want_yes rfl ?_
          have e0 := (hnx 16 _ rfl (of_decide_eq_true (by kernel_rfl)) _ rfl).trans (rfl : _ = Value.int .i64 n0)
          unfold Oper.wp; simp [execOp, e0, go_sem, -List.length_map]; exact hK _ (Below.refl _ _)
        | 1, _ =>
          obtain rfl := Option.some.inj ho
          obtain rfl := Option.some.inj hp
          obtain rfl := Option.some.inj hr0
          refine want_yes rfl ?_
          have e0 := hv 0 (of_decide_eq_true (by kernel_rfl)) _ rfl
          unfold Oper.wp; simp [execOp, e0, hw1, go_sem, -List.length_map]; exact hK _ (Below.refl _ _)
        | 2, _ =>
          obtain rfl := Option.some.inj ho
          obtain rfl := Option.some.inj hp
          obtain rfl := Option.some.inj hr0
          refine want_yes rfl ?_
          have e0 := (hsl 0 rfl).trans (rfl : _ = Value.slice (some ad) l.length c)
          unfold Oper.wp; simp [execOp, e0, go_sem, -List.length_map]; exact hK _ (Below.refl _ _)
        | 3, _ =>
          obtain rfl := Option.some.inj ho
          obtain rfl := Option.some.inj hp
          obtain rfl := Option.some.inj hr0
          refine want_yes rfl ?_
          have e0 := (hsl 4 rfl).trans (rfl : _ = Value.int .i64 (i : Int))
          unfold Oper.wp; simp [execOp, e0, go_sem, -List.length_map]; exact hK _ (Below.refl _ _)
        | 4, _ =>
          obtain rfl := Option.some.inj ho
          obtain rfl := Option.some.inj hp
          obtain rfl := Option.some.inj hr0
          refine want_yes rfl ?_
          have e0 := hv 2 (of_decide_eq_true (by kernel_rfl)) _ rfl
          have e1 := hv 3 (of_decide_eq_true (by kernel_rfl)) _ rfl
          unfold Oper.wp; simp [execOp, e0, e1, hi0, hi1, hi2, go_sem, -List.length_map]; exact hK _ (Below.refl _ _)
        | 5, _ =>
          obtain rfl := Option.some.inj ho
          obtain rfl := Option.some.inj hp
          obtain rfl := Option.some.inj hr0
          refine want_yes rfl ?_
          have e0 := hv 4 (of_decide_eq_true (by kernel_rfl)) _ rfl
          unfold Oper.wp; simp [execOp, e0, go_sem, -List.length_map]; exact hK _ (Below.refl _ _)
        | 6, _ =>
          obtain rfl := Option.some.inj ho
          obtain rfl := Option.some.inj hp
          obtain rfl := Option.some.inj hr0
          refine want_yes rfl ?_
          have e0 := hv 5 (of_decide_eq_true (by kernel_rfl)) _ rfl
          have c := pw_cell_below hb h5
          unfold Oper.wp; simp [execOp, e0, c, go_sem, -List.length_map]; exact hK _ (Below.refl _ _)
        | 7, _ =>
          obtain rfl := Option.some.inj ho
          obtain rfl := Option.some.inj hp
          obtain rfl := Option.some.inj hr0
          have e0 := hv 6 (of_decide_eq_true (by kernel_rfl)) _ rfl
          refine goes_ (N := some 18) Try.func14 (by kernel_rfl) rfl #[.slice A5 x.f5.length c5] (by simp [Region.wanted]) rfl rfl (by simp [Act.eval, -List.length_map]; exact e0) ?_
          refine (HI.out x.f5 HK.out.sz5 w A5 c5 (below_step HD.out hb) HK.out.k5 HK.out.s5 (by have := HK.out.n; omega)).mono ?_
          rintro _ w6 ⟨rfl, hb6⟩
          exact ⟨_, rfl, hK _ hb6⟩
        | 8, _ =>
          obtain rfl := Option.some.inj ho
          obtain rfl := Option.some.inj hp
          obtain rfl := Option.some.inj hr0
          refine want_yes rfl ?_
          have e0 := hv 1 (of_decide_eq_true (by kernel_rfl)) _ rfl
          have e1 := hv 7 (of_decide_eq_true (by kernel_rfl)) _ rfl
          unfold Oper.wp; simp [execOp, e0, e1, hw2, go_sem, -List.length_map]; exact hK _ (Below.refl _ _)
        | 9, _ =>
          obtain rfl := Option.some.inj ho
          obtain rfl := Option.some.inj hp
          obtain rfl := Option.some.inj hr0
          refine want_yes rfl ?_
          have e0 := (hsl 0 rfl).trans (rfl : _ = Value.slice (some ad) l.length c)
          unfold Oper.wp; simp [execOp, e0, go_sem, -List.length_map]; exact hK _ (Below.refl _ _)
        | 10, _ =>
          obtain rfl := Option.some.inj ho
          obtain rfl := Option.some.inj hp
          obtain rfl := Option.some.inj hr0
          refine want_yes rfl ?_
          have e0 := (hsl 4 rfl).trans (rfl : _ = Value.int .i64 (i : Int))
          unfold Oper.wp; simp [execOp, e0, go_sem, -List.length_map]; exact hK _ (Below.refl _ _)
        | 11, _ =>
          obtain rfl := Option.some.inj ho
          obtain rfl := Option.some.inj hp
          obtain rfl := Option.some.inj hr0
          refine want_yes rfl ?_
          have e0 := hv 9 (of_decide_eq_true (by kernel_rfl)) _ rfl
          have e1 := hv 10 (of_decide_eq_true (by kernel_rfl)) _ rfl
          unfold Oper.wp; simp [execOp, e0, e1, hi0, hi1, hi2, go_sem, -List.length_map]; exact hK _ (Below.refl _ _)
        | 12, _ =>
          obtain rfl := Option.some.inj ho
          obtain rfl := Option.some.inj hp
          obtain rfl := Option.some.inj hr0
          refine want_yes rfl ?_
          have e0 := hv 11 (of_decide_eq_true (by kernel_rfl)) _ rfl
          unfold Oper.wp; simp [execOp, e0, go_sem, -List.length_map]; exact hK _ (Below.refl _ _)
        | 13, _ =>
          obtain rfl := Option.some.inj ho
          obtain rfl := Option.some.inj hp
          obtain rfl := Option.some.inj hr0
          refine want_yes rfl ?_
          have e0 := hv 12 (of_decide_eq_true (by kernel_rfl)) _ rfl
          have c := pw_cell_below hb h6
          unfold Oper.wp; simp [execOp, e0, c, go_sem, -List.length_map]; exact hK _ (Below.refl _ _)
        | 14, _ =>
          obtain rfl := Option.some.inj ho
          obtain rfl := Option.some.inj hp
          obtain rfl := Option.some.inj hr0
          have e0 := hv 13 (of_decide_eq_true (by kernel_rfl)) _ rfl
          refine goes_ (N := some 25) Try.func14 (by kernel_rfl) rfl #[.slice A6 x.f6.length c6] (by simp [Region.wanted]) rfl rfl (by simp [Act.eval, -List.length_map]; exact e0) ?_
          refine (HI.out x.f6 HK.out.sz6 w A6 c6 (below_step HD.out hb) HK.out.k6 HK.out.s6 (by have := HK.out.n; omega)).mono ?_
          rintro _ w6 ⟨rfl, hb6⟩
          exact ⟨_, rfl, hK _ hb6⟩
        | 15, _ =>
          obtain rfl := Option.some.inj ho
          obtain rfl := Option.some.inj hp
          obtain rfl := Option.some.inj hr0
          refine want_yes rfl ?_
          have e0 := hv 8 (of_decide_eq_true (by kernel_rfl)) _ rfl
          have e1 := hv 14 (of_decide_eq_true (by kernel_rfl)) _ rfl
          unfold Oper.wp; simp [execOp, e0, e1, hw3, go_sem, -List.length_map]; exact hK _ (Below.refl _ _)
        | 16, _ =>
          obtain rfl := Option.some.inj ho
          obtain rfl := Option.some.inj hp
          obtain rfl := Option.some.inj hr0
          refine want_yes rfl ?_
          have e0 := hv 15 (of_decide_eq_true (by kernel_rfl)) _ rfl
          unfold Oper.wp; simp [execOp, e0, go_sem, -List.length_map]; exact hK _ (Below.refl _ _)
      intro w5 hb5
      simp only [fill, List.setIfInBounds_toArray, List.set_cons_zero, List.set_cons_succ]
      have HB2 := Aside0.mk (And.intro (below_step HD.out hb5) (below_step HD2.out hb5))
      clear hb5 h5 h6 hw1 hw2 hw3
      go_wp2
      go_roundw
      case rel => exact ⟨i + 1, HK.out.lt, by go_num, by rw [HZ.out], HB2⟩
      case measure => have := HK.out.lt; simp [intOf]; omega
    · have e1 : decide ((i : Int) < (l.length : Int)) = false := decide_eq_false (by omega)
      have e2 : decide (i < l.length) = false := decide_eq_false hlt
      obtain rfl : i = l.length := by omega
      have HZ := Aside0.mk (show (cntL (l.take l.length) : Int) = (cntL l : Int) by rw [List.take_length])
      generalize (cntL (l.take l.length) : Int) = n0 at HZ ⊢
      clear hlt hi
      go_wp2
      go_ret
      exact ⟨by rw [← HZ.out]; rfl, HB.out.2⟩
theorem rcnt_ok (w0 : World) : ∀ N, RCntOk w0 N
  | 0 => fun l hN => by omega
  | N + 1 => rcnt_step w0 N (rcnt_ok w0 N)
end Go.Proofs.Ytlhbnbckanmaiaa.K
