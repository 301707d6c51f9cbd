/- A text of a claim (ours): the asker's statements: words, and what a copy leaves; conditions: none of ours. -/
import Derived.Test.YtlhbnbckanmaiaaM3V
import Derived.Test.YtlhbnbckanmaiaaM1V
import Derived.Test.YtlhbnbckanmaiaaM2V
namespace Go.Proofs.Ytlhbnbckanmaiaa.K
open Go Go.RowKit Go.Proofs.YtlhbnbckanmaiaaW.PrintWords Go.Proofs.YtlhbnbckanmaiaaW.PrintLast Go.Proofs.YtlhbnbckanmaiaaW.PrintMore Go.Proofs.Ytlhbnbckanmaiaa.PC1
set_option linter.unusedVariables false
set_option linter.unusedSimpArgs false
structure RN (w0 wd : World) (q : Nat) (P : AP) (part e st : Int) (vR : Value) (f : Nat → Bool) (a : Act) (w : World) (a0 : Act) : Prop where
  sz : a.tmps.size = 46
  df : a.defers = []
  s : ∀ j, j < 22 ∨ 40 ≤ j → gt a j = gt a0 j
  v0 : f 0 = true → gt a 22 = .pointer (some ⟨q, 0, none⟩)
  v1 : f 1 = true → gt a 23 = .bool false
  v2 : f 2 = true → gt a 24 = .bool false
  v16 : f 16 = true → gt a 38 = .bool false
  w0' : f 17 = false → w = wd
  w1 : f 17 = true → Asked w0 wd q P part (needE false 4 e) st vR (.returned (.tuple #[])) w
theorem RN.put {w0 wd w : World} {q : Nat} {P : AP} {part e st : Int} {vR : Value} {f : Nat → Bool} {a a0 : Act} (h : RN w0 wd q P part e st vR f a w a0) (i d : Nat) (v : Value) (hd : 22 ≤ d ∧ d < 40) (hi : i ≠ 17)
    (h0 : i = 0 ∨ d ≠ 22) (h1 : i = 1 ∨ d ≠ 23) (h2 : i = 2 ∨ d ≠ 24) (h16 : i = 16 ∨ d ≠ 38) (k0 : i = 0 → d = 22 ∧ v = .pointer (some ⟨q, 0, none⟩)) (k1 : i = 1 → d = 23 ∧ v = .bool false) (k2 : i = 2 → d = 24 ∧ v = .bool false) (k16 : i = 16 → d = 38 ∧ v = .bool false) :
    RN w0 wd q P part e st vR (upd f i) ⟨a.tmps.setIfInBounds d v, a.defers⟩ w a0 where
  sz := by rw [Array.size_setIfInBounds]; exact h.sz
  df := h.df
  s j hj := (gt_ne _ _ _ _ _ (by omega)).trans (h.s j hj)
  v0 q := by
    by_cases e : i = 0
    · obtain ⟨rfl, rfl⟩ := k0 e; exact gt_eq _ _ _ _ (by rw [h.sz]; decide)
    · exact (gt_ne _ _ _ _ _ (by omega)).trans (h.v0 ((upd_ne f (Ne.symm e)).symm.trans q))
  v1 q := by
    by_cases e : i = 1
    · obtain ⟨rfl, rfl⟩ := k1 e; exact gt_eq _ _ _ _ (by rw [h.sz]; decide)
    · exact (gt_ne _ _ _ _ _ (by omega)).trans (h.v1 ((upd_ne f (Ne.symm e)).symm.trans q))
  v2 q := by
    by_cases e : i = 2
    · obtain ⟨rfl, rfl⟩ := k2 e; exact gt_eq _ _ _ _ (by rw [h.sz]; decide)
    · exact (gt_ne _ _ _ _ _ (by omega)).trans (h.v2 ((upd_ne f (Ne.symm e)).symm.trans q))
  v16 q := by
    by_cases e : i = 16
    · obtain ⟨rfl, rfl⟩ := k16 e; exact gt_eq _ _ _ _ (by rw [h.sz]; decide)
    · exact (gt_ne _ _ _ _ _ (by omega)).trans (h.v16 ((upd_ne f (Ne.symm e)).symm.trans q))
  w0' q := h.w0' ((upd_ne f (Ne.symm hi)).symm.trans q)
  w1 q := h.w1 ((upd_ne f (Ne.symm hi)).symm.trans q)
theorem RN.call {w0 wd w w' : World} {q : Nat} {P : AP} {part e st : Int} {vR : Value} {f : Nat → Bool} {a a0 : Act} (h : RN w0 wd q P part e st vR f a w a0) (v : Value) (hA : Asked w0 wd q P part (needE false 4 e) st vR (.returned (.tuple #[])) w') :
    RN w0 wd q P part e st vR (upd f 17) ⟨a.tmps.setIfInBounds 39 v, a.defers⟩ w' a0 where
  sz := by rw [Array.size_setIfInBounds]; exact h.sz
  df := h.df
  s j hj := (gt_ne _ _ _ _ _ (by omega)).trans (h.s j hj)
  v0 q := (gt_ne _ _ _ _ _ (by decide)).trans (h.v0 ((upd_ne f (by decide)).symm.trans q))
  v1 q := (gt_ne _ _ _ _ _ (by decide)).trans (h.v1 ((upd_ne f (by decide)).symm.trans q))
  v2 q := (gt_ne _ _ _ _ _ (by decide)).trans (h.v2 ((upd_ne f (by decide)).symm.trans q))
  v16 q := (gt_ne _ _ _ _ _ (by decide)).trans (h.v16 ((upd_ne f (by decide)).symm.trans q))
  w0' q := absurd ((upd_eq f 17).symm.trans q) (by decide)
  w1 _ := hA
theorem guard_no {ops : Array Oper} {t : Array Value} {o oj : Oper} {j d : Nat} (hg : o.guard = some (j, true)) (hj : ops[j]? = some oj) (hd : oj.dst = some d) (h : t[d]?.getD undef = .bool false) : Region.wanted o (yielded ops t) = false := by
  simp only [Region.wanted, hg, yielded, hj, hd]
  cases hq : t[d]? with
  | none => simp [hq, hd]
  | some x => rw [hq] at h; simp at h; subst h; simp [hq, hd]
theorem want_yes {ops : Array Oper} {o : Oper} {a : Act} {w : World} {K : Act → World → Prop} {Q : Exit → Act → World → Prop} {E : Prop} (hg : o.guard = none) (h : o.wp Try.prog a w K Q) : if Region.wanted o (yielded ops a.tmps) = true then o.wp Try.prog a w K Q else E := by
  rw [if_pos (by simp [Region.wanted, hg])]; exact h
theorem want_no {ops : Array Oper} {o oj : Oper} {a : Act} {j d : Nat} {X E : Prop} (hg : o.guard = some (j, true)) (hj : ops[j]? = some oj) (hd : oj.dst = some d) (h : a.tmps[d]?.getD undef = .bool false) (hE : E) : if Region.wanted o (yielded ops a.tmps) = true then X else E := by
  rw [if_neg (by rw [guard_no hg hj hd h]; decide)]; exact hE
theorem arr46 (t : Array Value) (h : t.size = 46) : ∃ x0 x1 x2 x3 x4 x5 x6 x7 x8 x9 x10 x11 x12 x13 x14 x15 x16 x17 x18 x19 x20 x21 x22 x23 x24 x25 x26 x27 x28 x29 x30 x31 x32 x33 x34 x35 x36 x37 x38 x39 x40 x41 x42 x43 x44 x45, t = #[x0, x1, x2, x3, x4, x5, x6, x7, x8, x9, x10, x11, x12, x13, x14, x15, x16, x17, x18, x19, x20, x21, x22, x23, x24, x25, x26, x27, x28, x29, x30, x31, x32, x33, x34, x35, x36, x37, x38, x39, x40, x41, x42, x43, x44, x45] := by
  refine ⟨t[0], t[1], t[2], t[3], t[4], t[5], t[6], t[7], t[8], t[9], t[10], t[11], t[12], t[13], t[14], t[15], t[16], t[17], t[18], t[19], t[20], t[21], t[22], t[23], t[24], t[25], t[26], t[27], t[28], t[29], t[30], t[31], t[32], t[33], t[34], t[35], t[36], t[37], t[38], t[39], t[40], t[41], t[42], t[43], t[44], t[45], ?_⟩
  apply Array.ext
  · simp [h]
  · intro i h1 h2
    have hi : i < 46 := by omega
    rcases i with _ | i
    · simp
    rcases i with _ | i
    · simp
    rcases i with _ | i
    · simp
    rcases i with _ | i
    · simp
    rcases i with _ | i
    · simp
    rcases i with _ | i
    · simp
    rcases i with _ | i
    · simp
    rcases i with _ | i
    · simp
    rcases i with _ | i
    · simp
    rcases i with _ | i
    · simp
    rcases i with _ | i
    · simp
    rcases i with _ | i
    · simp
    rcases i with _ | i
    · simp
    rcases i with _ | i
    · simp
    rcases i with _ | i
    · simp
    rcases i with _ | i
    · simp
    rcases i with _ | i
    · simp
    rcases i with _ | i
    · simp
    rcases i with _ | i
    · simp
    rcases i with _ | i
    · simp
    rcases i with _ | i
    · simp
    rcases i with _ | i
    · simp
    rcases i with _ | i
    · simp
    rcases i with _ | i
    · simp
    rcases i with _ | i
    · simp
    rcases i with _ | i
    · simp
    rcases i with _ | i
    · simp
    rcases i with _ | i
    · simp
    rcases i with _ | i
    · simp
    rcases i with _ | i
    · simp
    rcases i with _ | i
    · simp
    rcases i with _ | i
    · simp
    rcases i with _ | i
    · simp
    rcases i with _ | i
    · simp
    rcases i with _ | i
    · simp
    rcases i with _ | i
    · simp
    rcases i with _ | i
    · simp
    rcases i with _ | i
    · simp
    rcases i with _ | i
    · simp
    rcases i with _ | i
    · simp
    rcases i with _ | i
    · simp
    rcases i with _ | i
    · simp
    rcases i with _ | i
    · simp
    rcases i with _ | i
    · simp
    rcases i with _ | i
    · simp
    rcases i with _ | i
    · simp
    omega
theorem threads_at {w0 W : World} {q : Nat} {P : AP} {part e st : Int} {vR : Value} (h : AS w0 W q P part e st vR) (i : Nat) (hi : i < P.threads.length) : ∃ ad A c, P.AT = some ad ∧ W.cell? (ad.add i) = some (.slice A P.threads[i].length c) ∧ P.threads[i].length ≤ c ∧ Kd.C kStmt W A P.threads[i].length P.threads[i] ∧ Kd.C kStmt w0 A P.threads[i].length P.threads[i] ∧ w0.cell? (ad.add i) = some (.slice A P.threads[i].length c) := by
  have hC := h.dat.ct
  obtain ⟨ad, c, e1, _, hK, hc0⟩ := Kd.C_get hC [] (i : Int) (by omega) (by omega)
  have hg : P.threads.getD (i : Int).toNat [] = P.threads[i] := by rw [Int.toNat_natCast, List.getD_eq_getElem?_getD, List.getElem?_eq_getElem hi]; rfl
  rw [hg] at hK
  obtain ⟨A, cc, rfl, h1, h2⟩ := hK
  have := hc0 0 _ rfl
  rw [Int.toNat_natCast] at this
  have h3 : w0.cell? (ad.add i) = some (.slice A P.threads[i].length cc) := by simpa [Kd.slice] using this
  exact ⟨ad, A, cc, e1, pw_cell_below h.bel h3, h1, Kd.C_below h2 h.bel, h2, h3⟩
/-- The programs that are asked: none of their parts is great. -/
structure AP.sm (P : AP) : Prop where
  st : ∀ l ∈ P.threads, smSs l ∧ l.length ≤ 1000 ∧ cntL l ≤ 1000
  kd : smCs P.kids ∧ P.kids.length ≤ 1000
def AP.th1 (P : AP) (i : Int) : List TStmt := rdOf [] P.threads i
def thereB (P : AP) (th : Int) : Bool := decide (0 ≤ th) && decide (th < (P.threads.length : Int))
def regIsE (P : AP) (op th : Int) (nm : ByteArray) (n : Int) (e : Int) : Int := needE (valB P.vals n) 1 (needE (thereB P th && hasB (regsL [] (P.th1 th)) nm) 4 (needE (thereB P th) 1 e))
set_option maxHeartbeats 4000000 in
set_option maxRecDepth 100000 in
theorem regIs_neg (w0 W : World) (q : Nat) (P : AP) (hsm : P.sm) (part e st : Int) (vR : Value) (h : AS w0 W q P part e st vR) (op th : Int) (nm : ByteArray) (n : Int) (AK : Option Addr) (kl cK : Nat) (h0 : decide (0 ≤ th) = false) :
    Calls Try.prog 102 #[.pointer (some ⟨q, 0, none⟩), .agg #[.int .i64 op, .int .i64 th, .string nm, .int .i64 n, .slice AK kl cK]] W (Asked w0 W q P part (regIsE P op th nm n e) st vR) := by
  have HM := Aside0.mk hsm
  have hb := below_alloc (Below.refl W.heap.size W) (.cells #[.int .i64 op, .int .i64 th, .string nm, .int .i64 n, .slice AK kl cK] 26 (0, 0))
  have HX := Aside0.mk (blk_new W (.cells #[.int .i64 op, .int .i64 th, .string nm, .int .i64 n, .slice AK kl cK] 26 (0, 0)))
  have HS := Aside0.mk (AS.move (And.intro h (Chg.refl (fun k => k = q) W)) hb)
  have HQ := Aside0.mk (show ¬ W.heap.size = q from by have := h.lt; omega)
  have c3 := HS.out.1.cells.2.2.2.1
  have x1 := (blk_cell HX.out 1).trans rfl
  have hq := h.lt
  clear h hb hsm
  have HT := Aside0.mk (show thereB P th = false from by unfold thereB; rw [h0]; rfl)
  go_enter Try.func102, Try.ntmps102
  go_wp2
  go_quiet (fail)
  go_wp2_with fail
  refine (need w0 _ q P _ _ _ _ (HS.out.1.step (pw_below_drewN (Below.refl _ _) nq)) _ _).mono ?_
  rintro r w1 hA
  obtain rfl := hA.ret
  replace HX := Aside0.mk (hA.chg.heap (blk_below HX.out (pw_below_drewN (Below.refl _ _) nq)) HQ.out)
  replace HS := Aside0.mk (hA.next (HS.out.2.step (Chg.of_below (pw_below_drewN (Below.refl _ _) nq))))
  clear hA
  clear c3 x1
  go_wp2_with fail
  have HSD := Aside0.mk (HS.out.1.step (below_drew (Below.refl _ _)))
  have HXD := Aside0.mk (blk_drew HX.out)
  have HCD := Aside0.mk (HS.out.2.step (Chg.of_below (below_drew (Below.refl _ _))))
  refine wp_region_any (by kernel_rfl) ?_
  refine wpAny_inv3 rfl (by kernel_rfl) (fun a0 f a w => RN w0 w1.drew q P part (needE false 1 e) st vR f a w a0) ?step ?fin _ _ (by simp) (by decide) ?init
  case init =>
    have hno : ∀ j, flag (Array.replicate 18 false) j = false := fun j => by
      unfold flag
      by_cases hj : j < 18 <;> simp [hj]
    exact { sz := rfl, df := rfl, s := fun j _ => rfl, v0 := fun q => absurd (q.symm.trans (hno _)) (by decide), v1 := fun q => absurd (q.symm.trans (hno _)) (by decide), v2 := fun q => absurd (q.symm.trans (hno _)) (by decide), v16 := fun q => absurd (q.symm.trans (hno _)) (by decide), w0' := fun _ => rfl, w1 := fun q => absurd (q.symm.trans (hno _)) (by decide) }
  case step =>
    rintro f a w i o r hI ho hr hf hd K hK
    have hi : i < 18 := (Array.getElem?_eq_some_iff.1 ho).1
    have hr2 := rtab_some (md := .any) ho
    rw [hr] at hr2
    obtain rfl := Option.some.inj hr2
    clear hr hr2
    have e0 : a.tmps[0]?.getD undef = .pointer (some ⟨q, 0, none⟩) := hI.s 0 (by decide)
    have e4 : a.tmps[4]?.getD undef = .bool false := hI.s 4 (by decide)
    match i, hi with
    | 0, _ =>
      obtain rfl := Option.some.inj ho
      have ex : a.tmps[0]?.getD undef = _ := e0
      refine want_yes rfl ?_
      unfold Oper.wp
      simp [execOp, go_sem, ex]
      exact hK _ _ (hI.put 0 22 _ (by decide) (by decide) (by decide) (by decide) (by decide) (by decide) (fun e => by first | exact ⟨rfl, rfl⟩ | (exact absurd e (by decide))) (fun e => by first | exact ⟨rfl, rfl⟩ | (exact absurd e (by decide))) (fun e => by first | exact ⟨rfl, rfl⟩ | (exact absurd e (by decide))) (fun e => by first | exact ⟨rfl, rfl⟩ | (exact absurd e (by decide))))
    | 1, _ =>
      obtain rfl := Option.some.inj ho
      have ex : a.tmps[4]?.getD undef = _ := e4
      refine want_yes rfl ?_
      unfold Oper.wp
      simp [execOp, go_sem, ex]
      exact hK _ _ (hI.put 1 23 _ (by decide) (by decide) (by decide) (by decide) (by decide) (by decide) (fun e => by first | exact ⟨rfl, rfl⟩ | (exact absurd e (by decide))) (fun e => by first | exact ⟨rfl, rfl⟩ | (exact absurd e (by decide))) (fun e => by first | exact ⟨rfl, rfl⟩ | (exact absurd e (by decide))) (fun e => by first | exact ⟨rfl, rfl⟩ | (exact absurd e (by decide))))
    | 2, _ =>
      obtain rfl := Option.some.inj ho
      have d1 : f 1 = true := List.all_eq_true.1 hd 1 (of_decide_eq_true (by kernel_rfl))
      have ex : a.tmps[23]?.getD undef = _ := hI.v1 d1
      refine want_yes rfl ?_
      unfold Oper.wp
      simp [execOp, go_sem, ex]
      exact hK _ _ (hI.put 2 24 _ (by decide) (by decide) (by decide) (by decide) (by decide) (by decide) (fun e => by first | exact ⟨rfl, rfl⟩ | (exact absurd e (by decide))) (fun e => by first | exact ⟨rfl, rfl⟩ | (exact absurd e (by decide))) (fun e => by first | exact ⟨rfl, rfl⟩ | (exact absurd e (by decide))) (fun e => by first | exact ⟨rfl, rfl⟩ | (exact absurd e (by decide))))
    | 3, _ =>
      obtain rfl := Option.some.inj ho
      have d2 : f 2 = true := List.all_eq_true.1 hd 2 (of_decide_eq_true (by kernel_rfl))
      have ex : a.tmps[24]?.getD undef = _ := hI.v2 d2
      refine want_no (j := 2) (d := 24) rfl rfl rfl ex ?_
      exact hK _ _ (hI.put 3 25 _ (by decide) (by decide) (by decide) (by decide) (by decide) (by decide) (fun e => by first | exact ⟨rfl, rfl⟩ | (exact absurd e (by decide))) (fun e => by first | exact ⟨rfl, rfl⟩ | (exact absurd e (by decide))) (fun e => by first | exact ⟨rfl, rfl⟩ | (exact absurd e (by decide))) (fun e => by first | exact ⟨rfl, rfl⟩ | (exact absurd e (by decide))))
    | 4, _ =>
      obtain rfl := Option.some.inj ho
      have d2 : f 2 = true := List.all_eq_true.1 hd 2 (of_decide_eq_true (by kernel_rfl))
      have ex : a.tmps[24]?.getD undef = _ := hI.v2 d2
      refine want_no (j := 2) (d := 24) rfl rfl rfl ex ?_
      exact hK _ _ (hI.put 4 26 _ (by decide) (by decide) (by decide) (by decide) (by decide) (by decide) (fun e => by first | exact ⟨rfl, rfl⟩ | (exact absurd e (by decide))) (fun e => by first | exact ⟨rfl, rfl⟩ | (exact absurd e (by decide))) (fun e => by first | exact ⟨rfl, rfl⟩ | (exact absurd e (by decide))) (fun e => by first | exact ⟨rfl, rfl⟩ | (exact absurd e (by decide))))
    | 5, _ =>
      obtain rfl := Option.some.inj ho
      have d2 : f 2 = true := List.all_eq_true.1 hd 2 (of_decide_eq_true (by kernel_rfl))
      have ex : a.tmps[24]?.getD undef = _ := hI.v2 d2
      refine want_no (j := 2) (d := 24) rfl rfl rfl ex ?_
      exact hK _ _ (hI.put 5 27 _ (by decide) (by decide) (by decide) (by decide) (by decide) (by decide) (fun e => by first | exact ⟨rfl, rfl⟩ | (exact absurd e (by decide))) (fun e => by first | exact ⟨rfl, rfl⟩ | (exact absurd e (by decide))) (fun e => by first | exact ⟨rfl, rfl⟩ | (exact absurd e (by decide))) (fun e => by first | exact ⟨rfl, rfl⟩ | (exact absurd e (by decide))))
    | 6, _ =>
      obtain rfl := Option.some.inj ho
      have d2 : f 2 = true := List.all_eq_true.1 hd 2 (of_decide_eq_true (by kernel_rfl))
      have ex : a.tmps[24]?.getD undef = _ := hI.v2 d2
      refine want_no (j := 2) (d := 24) rfl rfl rfl ex ?_
      exact hK _ _ (hI.put 6 28 _ (by decide) (by decide) (by decide) (by decide) (by decide) (by decide) (fun e => by first | exact ⟨rfl, rfl⟩ | (exact absurd e (by decide))) (fun e => by first | exact ⟨rfl, rfl⟩ | (exact absurd e (by decide))) (fun e => by first | exact ⟨rfl, rfl⟩ | (exact absurd e (by decide))) (fun e => by first | exact ⟨rfl, rfl⟩ | (exact absurd e (by decide))))
    | 7, _ =>
      obtain rfl := Option.some.inj ho
      have d2 : f 2 = true := List.all_eq_true.1 hd 2 (of_decide_eq_true (by kernel_rfl))
      have ex : a.tmps[24]?.getD undef = _ := hI.v2 d2
      refine want_no (j := 2) (d := 24) rfl rfl rfl ex ?_
      exact hK _ _ (hI.put 7 29 _ (by decide) (by decide) (by decide) (by decide) (by decide) (by decide) (fun e => by first | exact ⟨rfl, rfl⟩ | (exact absurd e (by decide))) (fun e => by first | exact ⟨rfl, rfl⟩ | (exact absurd e (by decide))) (fun e => by first | exact ⟨rfl, rfl⟩ | (exact absurd e (by decide))) (fun e => by first | exact ⟨rfl, rfl⟩ | (exact absurd e (by decide))))
    | 8, _ =>
      obtain rfl := Option.some.inj ho
      have d2 : f 2 = true := List.all_eq_true.1 hd 2 (of_decide_eq_true (by kernel_rfl))
      have ex : a.tmps[24]?.getD undef = _ := hI.v2 d2
      refine want_no (j := 2) (d := 24) rfl rfl rfl ex ?_
      exact hK _ _ (hI.put 8 30 _ (by decide) (by decide) (by decide) (by decide) (by decide) (by decide) (fun e => by first | exact ⟨rfl, rfl⟩ | (exact absurd e (by decide))) (fun e => by first | exact ⟨rfl, rfl⟩ | (exact absurd e (by decide))) (fun e => by first | exact ⟨rfl, rfl⟩ | (exact absurd e (by decide))) (fun e => by first | exact ⟨rfl, rfl⟩ | (exact absurd e (by decide))))
    | 9, _ =>
      obtain rfl := Option.some.inj ho
      have d2 : f 2 = true := List.all_eq_true.1 hd 2 (of_decide_eq_true (by kernel_rfl))
      have ex : a.tmps[24]?.getD undef = _ := hI.v2 d2
      refine want_no (j := 2) (d := 24) rfl rfl rfl ex ?_
      exact hK _ _ (hI.put 9 31 _ (by decide) (by decide) (by decide) (by decide) (by decide) (by decide) (fun e => by first | exact ⟨rfl, rfl⟩ | (exact absurd e (by decide))) (fun e => by first | exact ⟨rfl, rfl⟩ | (exact absurd e (by decide))) (fun e => by first | exact ⟨rfl, rfl⟩ | (exact absurd e (by decide))) (fun e => by first | exact ⟨rfl, rfl⟩ | (exact absurd e (by decide))))
    | 10, _ =>
      obtain rfl := Option.some.inj ho
      have d2 : f 2 = true := List.all_eq_true.1 hd 2 (of_decide_eq_true (by kernel_rfl))
      have ex : a.tmps[24]?.getD undef = _ := hI.v2 d2
      refine want_no (j := 2) (d := 24) rfl rfl rfl ex ?_
      exact hK _ _ (hI.put 10 32 _ (by decide) (by decide) (by decide) (by decide) (by decide) (by decide) (fun e => by first | exact ⟨rfl, rfl⟩ | (exact absurd e (by decide))) (fun e => by first | exact ⟨rfl, rfl⟩ | (exact absurd e (by decide))) (fun e => by first | exact ⟨rfl, rfl⟩ | (exact absurd e (by decide))) (fun e => by first | exact ⟨rfl, rfl⟩ | (exact absurd e (by decide))))
    | 11, _ =>
      obtain rfl := Option.some.inj ho
      have d2 : f 2 = true := List.all_eq_true.1 hd 2 (of_decide_eq_true (by kernel_rfl))
      have ex : a.tmps[24]?.getD undef = _ := hI.v2 d2
      refine want_no (j := 2) (d := 24) rfl rfl rfl ex ?_
      exact hK _ _ (hI.put 11 33 _ (by decide) (by decide) (by decide) (by decide) (by decide) (by decide) (fun e => by first | exact ⟨rfl, rfl⟩ | (exact absurd e (by decide))) (fun e => by first | exact ⟨rfl, rfl⟩ | (exact absurd e (by decide))) (fun e => by first | exact ⟨rfl, rfl⟩ | (exact absurd e (by decide))) (fun e => by first | exact ⟨rfl, rfl⟩ | (exact absurd e (by decide))))
    | 12, _ =>
      obtain rfl := Option.some.inj ho
      have d2 : f 2 = true := List.all_eq_true.1 hd 2 (of_decide_eq_true (by kernel_rfl))
      have ex : a.tmps[24]?.getD undef = _ := hI.v2 d2
      refine want_no (j := 2) (d := 24) rfl rfl rfl ex ?_
      exact hK _ _ (hI.put 12 34 _ (by decide) (by decide) (by decide) (by decide) (by decide) (by decide) (fun e => by first | exact ⟨rfl, rfl⟩ | (exact absurd e (by decide))) (fun e => by first | exact ⟨rfl, rfl⟩ | (exact absurd e (by decide))) (fun e => by first | exact ⟨rfl, rfl⟩ | (exact absurd e (by decide))) (fun e => by first | exact ⟨rfl, rfl⟩ | (exact absurd e (by decide))))
    | 13, _ =>
      obtain rfl := Option.some.inj ho
      have d2 : f 2 = true := List.all_eq_true.1 hd 2 (of_decide_eq_true (by kernel_rfl))
      have ex : a.tmps[24]?.getD undef = _ := hI.v2 d2
      refine want_no (j := 2) (d := 24) rfl rfl rfl ex ?_
      exact hK _ _ (hI.put 13 35 _ (by decide) (by decide) (by decide) (by decide) (by decide) (by decide) (fun e => by first | exact ⟨rfl, rfl⟩ | (exact absurd e (by decide))) (fun e => by first | exact ⟨rfl, rfl⟩ | (exact absurd e (by decide))) (fun e => by first | exact ⟨rfl, rfl⟩ | (exact absurd e (by decide))) (fun e => by first | exact ⟨rfl, rfl⟩ | (exact absurd e (by decide))))
    | 14, _ =>
      obtain rfl := Option.some.inj ho
      have d2 : f 2 = true := List.all_eq_true.1 hd 2 (of_decide_eq_true (by kernel_rfl))
      have ex : a.tmps[24]?.getD undef = _ := hI.v2 d2
      refine want_no (j := 2) (d := 24) rfl rfl rfl ex ?_
      exact hK _ _ (hI.put 14 36 _ (by decide) (by decide) (by decide) (by decide) (by decide) (by decide) (fun e => by first | exact ⟨rfl, rfl⟩ | (exact absurd e (by decide))) (fun e => by first | exact ⟨rfl, rfl⟩ | (exact absurd e (by decide))) (fun e => by first | exact ⟨rfl, rfl⟩ | (exact absurd e (by decide))) (fun e => by first | exact ⟨rfl, rfl⟩ | (exact absurd e (by decide))))
    | 15, _ =>
      obtain rfl := Option.some.inj ho
      have d2 : f 2 = true := List.all_eq_true.1 hd 2 (of_decide_eq_true (by kernel_rfl))
      have ex : a.tmps[24]?.getD undef = _ := hI.v2 d2
      refine want_no (j := 2) (d := 24) rfl rfl rfl ex ?_
      exact hK _ _ (hI.put 15 37 _ (by decide) (by decide) (by decide) (by decide) (by decide) (by decide) (fun e => by first | exact ⟨rfl, rfl⟩ | (exact absurd e (by decide))) (fun e => by first | exact ⟨rfl, rfl⟩ | (exact absurd e (by decide))) (fun e => by first | exact ⟨rfl, rfl⟩ | (exact absurd e (by decide))) (fun e => by first | exact ⟨rfl, rfl⟩ | (exact absurd e (by decide))))
    | 16, _ =>
      obtain rfl := Option.some.inj ho
      have d2 : f 2 = true := List.all_eq_true.1 hd 2 (of_decide_eq_true (by kernel_rfl))
      have ex : a.tmps[24]?.getD undef = _ := hI.v2 d2
      refine want_yes rfl ?_
      unfold Oper.wp
      simp [execOp, go_sem, ex]
      exact hK _ _ (hI.put 16 38 _ (by decide) (by decide) (by decide) (by decide) (by decide) (by decide) (fun e => by first | exact ⟨rfl, rfl⟩ | (exact absurd e (by decide))) (fun e => by first | exact ⟨rfl, rfl⟩ | (exact absurd e (by decide))) (fun e => by first | exact ⟨rfl, rfl⟩ | (exact absurd e (by decide))) (fun e => by first | exact ⟨rfl, rfl⟩ | (exact absurd e (by decide))))
    | 17, _ =>
      obtain rfl := Option.some.inj ho
      have d0 : f 0 = true := List.all_eq_true.1 hd 0 (of_decide_eq_true (by kernel_rfl))
      have d16 : f 16 = true := List.all_eq_true.1 hd 16 (of_decide_eq_true (by kernel_rfl))
      have ex : a.tmps[22]?.getD undef = _ := hI.v0 d0
      have ey : a.tmps[38]?.getD undef = _ := hI.v16 d16
      obtain rfl := hI.w0' hf
      refine want_yes rfl ?_
      unfold Oper.wp
      simp [execOp, go_sem, ex, ey]
      refine (need w0 _ q P _ _ _ _ HSD.out _ _).mono ?_
      rintro r w2 hA
      obtain rfl := hA.ret
      exact hK _ _ (hI.call _ hA)
  case fin =>
    rintro f a w hI hall
    have ha : ∀ i, i < 18 → f i = true := hall
    clear hall
    have hA := hI.w1 (ha 17 (by decide))
    obtain ⟨t, ds⟩ := a
    obtain rfl : ds = [] := hI.df
    obtain ⟨x0, x1, x2, x3, x4, x5, x6, x7, x8, x9, x10, x11, x12, x13, x14, x15, x16, x17, x18, x19, x20, x21, x22, x23, x24, x25, x26, x27, x28, x29, x30, x31, x32, x33, x34, x35, x36, x37, x38, x39, x40, x41, x42, x43, x44, x45, rfl⟩ := arr46 t hI.sz
    obtain rfl : x0 = _ := hI.s 0 (by decide)
    obtain rfl : x1 = _ := hI.s 1 (by decide)
    obtain rfl : x2 = _ := hI.s 2 (by decide)
    obtain rfl : x3 = _ := hI.s 3 (by decide)
    obtain rfl : x4 = _ := hI.s 4 (by decide)
    obtain rfl : x5 = _ := hI.s 5 (by decide)
    obtain rfl : x6 = _ := hI.s 6 (by decide)
    obtain rfl : x7 = _ := hI.s 7 (by decide)
    obtain rfl : x8 = _ := hI.s 8 (by decide)
    obtain rfl : x9 = _ := hI.s 9 (by decide)
    obtain rfl : x10 = _ := hI.s 10 (by decide)
    obtain rfl : x11 = _ := hI.s 11 (by decide)
    obtain rfl : x12 = _ := hI.s 12 (by decide)
    obtain rfl : x13 = _ := hI.s 13 (by decide)
    obtain rfl : x14 = _ := hI.s 14 (by decide)
    obtain rfl : x15 = _ := hI.s 15 (by decide)
    obtain rfl : x16 = _ := hI.s 16 (by decide)
    obtain rfl : x17 = _ := hI.s 17 (by decide)
    obtain rfl : x18 = _ := hI.s 18 (by decide)
    obtain rfl : x19 = _ := hI.s 19 (by decide)
    obtain rfl : x20 = _ := hI.s 20 (by decide)
    obtain rfl : x21 = _ := hI.s 21 (by decide)
    obtain rfl : x40 = _ := hI.s 40 (by decide)
    obtain rfl : x41 = _ := hI.s 41 (by decide)
    obtain rfl : x42 = _ := hI.s 42 (by decide)
    obtain rfl : x43 = _ := hI.s 43 (by decide)
    obtain rfl : x44 = _ := hI.s 44 (by decide)
    obtain rfl : x45 = _ := hI.s 45 (by decide)
    replace HX := Aside0.mk (hA.chg.heap HXD.out HQ.out)
    replace HS := Aside0.mk (And.intro hA.stt (HCD.out.step hA.chg))
    clear hA hI ha HSD HXD HCD
    simp only [gt, List.getElem?_toArray, List.getElem?_cons_zero, List.getElem?_cons_succ, Option.getD_some]
    have y3 := (blk_cell HX.out 3).trans rfl
    go_wp2_with fail
    refine (value w0 _ q P _ _ _ _ HS.out.1 n).mono ?_
    rintro r w4 ⟨rfl, rfl⟩
    go_wp2_with fail
    refine (need w0 _ q P _ _ _ _ (HS.out.1) _ _).mono ?_
    rintro r w1 hA
    obtain rfl := hA.ret
    replace HX := Aside0.mk (hA.chg.heap (HX.out) HQ.out)
    replace HS := Aside0.mk (hA.next (HS.out.2))
    clear hA
    go_wp2
    go_end0
    refine ⟨rfl, ?_, HS.out.2⟩
    have := HS.out.1
    unfold regIsE
    rw [HT.out]
    simpa using this
set_option maxHeartbeats 4000000 in
set_option maxRecDepth 100000 in
theorem regIs_far (w0 W : World) (q : Nat) (P : AP) (hsm : P.sm) (part e st : Int) (vR : Value) (h : AS w0 W q P part e st vR) (op th : Int) (nm : ByteArray) (n : Int) (AK : Option Addr) (kl cK : Nat) (h0 : decide (0 ≤ th) = true) (h1 : decide (th < (P.threads.length : Int)) = false) :
    Calls Try.prog 102 #[.pointer (some ⟨q, 0, none⟩), .agg #[.int .i64 op, .int .i64 th, .string nm, .int .i64 n, .slice AK kl cK]] W (Asked w0 W q P part (regIsE P op th nm n e) st vR) := by
  have HM := Aside0.mk hsm
  have hb := below_alloc (Below.refl W.heap.size W) (.cells #[.int .i64 op, .int .i64 th, .string nm, .int .i64 n, .slice AK kl cK] 26 (0, 0))
  have HX := Aside0.mk (blk_new W (.cells #[.int .i64 op, .int .i64 th, .string nm, .int .i64 n, .slice AK kl cK] 26 (0, 0)))
  have HS := Aside0.mk (AS.move (And.intro h (Chg.refl (fun k => k = q) W)) hb)
  have HQ := Aside0.mk (show ¬ W.heap.size = q from by have := h.lt; omega)
  have c3 := HS.out.1.cells.2.2.2.1
  have x1 := (blk_cell HX.out 1).trans rfl
  have hq := h.lt
  clear h hb hsm
  have HT := Aside0.mk (show thereB P th = false from by unfold thereB; rw [h0, h1]; rfl)
  go_enter Try.func102, Try.ntmps102
  go_wp2
  go_quiet (fail)
  go_wp2_with fail
  refine (need w0 _ q P _ _ _ _ (HS.out.1.step (pw_below_drewN (Below.refl _ _) nq)) _ _).mono ?_
  rintro r w1 hA
  obtain rfl := hA.ret
  replace HX := Aside0.mk (hA.chg.heap (blk_below HX.out (pw_below_drewN (Below.refl _ _) nq)) HQ.out)
  replace HS := Aside0.mk (hA.next (HS.out.2.step (Chg.of_below (pw_below_drewN (Below.refl _ _) nq))))
  clear hA
  clear c3 x1
  go_wp2_with fail
  have HSD := Aside0.mk (HS.out.1.step (below_drew (Below.refl _ _)))
  have HXD := Aside0.mk (blk_drew HX.out)
  have HCD := Aside0.mk (HS.out.2.step (Chg.of_below (below_drew (Below.refl _ _))))
  refine wp_region_any (by kernel_rfl) ?_
  refine wpAny_inv3 rfl (by kernel_rfl) (fun a0 f a w => RN w0 w1.drew q P part (needE false 1 e) st vR f a w a0) ?step ?fin _ _ (by simp) (by decide) ?init
  case init =>
    have hno : ∀ j, flag (Array.replicate 18 false) j = false := fun j => by
      unfold flag
      by_cases hj : j < 18 <;> simp [hj]
    exact { sz := rfl, df := rfl, s := fun j _ => rfl, v0 := fun q => absurd (q.symm.trans (hno _)) (by decide), v1 := fun q => absurd (q.symm.trans (hno _)) (by decide), v2 := fun q => absurd (q.symm.trans (hno _)) (by decide), v16 := fun q => absurd (q.symm.trans (hno _)) (by decide), w0' := fun _ => rfl, w1 := fun q => absurd (q.symm.trans (hno _)) (by decide) }
  case step =>
    rintro f a w i o r hI ho hr hf hd K hK
    have hi : i < 18 := (Array.getElem?_eq_some_iff.1 ho).1
    have hr2 := rtab_some (md := .any) ho
    rw [hr] at hr2
    obtain rfl := Option.some.inj hr2
    clear hr hr2
    have e0 : a.tmps[0]?.getD undef = .pointer (some ⟨q, 0, none⟩) := hI.s 0 (by decide)
    have e4 : a.tmps[4]?.getD undef = .bool false := hI.s 4 (by decide)
    match i, hi with
    | 0, _ =>
      obtain rfl := Option.some.inj ho
      have ex : a.tmps[0]?.getD undef = _ := e0
      refine want_yes rfl ?_
      unfold Oper.wp
      simp [execOp, go_sem, ex]
      exact hK _ _ (hI.put 0 22 _ (by decide) (by decide) (by decide) (by decide) (by decide) (by decide) (fun e => by first | exact ⟨rfl, rfl⟩ | (exact absurd e (by decide))) (fun e => by first | exact ⟨rfl, rfl⟩ | (exact absurd e (by decide))) (fun e => by first | exact ⟨rfl, rfl⟩ | (exact absurd e (by decide))) (fun e => by first | exact ⟨rfl, rfl⟩ | (exact absurd e (by decide))))
    | 1, _ =>
      obtain rfl := Option.some.inj ho
      have ex : a.tmps[4]?.getD undef = _ := e4
      refine want_yes rfl ?_
      unfold Oper.wp
      simp [execOp, go_sem, ex]
      exact hK _ _ (hI.put 1 23 _ (by decide) (by decide) (by decide) (by decide) (by decide) (by decide) (fun e => by first | exact ⟨rfl, rfl⟩ | (exact absurd e (by decide))) (fun e => by first | exact ⟨rfl, rfl⟩ | (exact absurd e (by decide))) (fun e => by first | exact ⟨rfl, rfl⟩ | (exact absurd e (by decide))) (fun e => by first | exact ⟨rfl, rfl⟩ | (exact absurd e (by decide))))
    | 2, _ =>
      obtain rfl := Option.some.inj ho
      have d1 : f 1 = true := List.all_eq_true.1 hd 1 (of_decide_eq_true (by kernel_rfl))
      have ex : a.tmps[23]?.getD undef = _ := hI.v1 d1
      refine want_yes rfl ?_
      unfold Oper.wp
      simp [execOp, go_sem, ex]
      exact hK _ _ (hI.put 2 24 _ (by decide) (by decide) (by decide) (by decide) (by decide) (by decide) (fun e => by first | exact ⟨rfl, rfl⟩ | (exact absurd e (by decide))) (fun e => by first | exact ⟨rfl, rfl⟩ | (exact absurd e (by decide))) (fun e => by first | exact ⟨rfl, rfl⟩ | (exact absurd e (by decide))) (fun e => by first | exact ⟨rfl, rfl⟩ | (exact absurd e (by decide))))
    | 3, _ =>
      obtain rfl := Option.some.inj ho
      have d2 : f 2 = true := List.all_eq_true.1 hd 2 (of_decide_eq_true (by kernel_rfl))
      have ex : a.tmps[24]?.getD undef = _ := hI.v2 d2
      refine want_no (j := 2) (d := 24) rfl rfl rfl ex ?_
      exact hK _ _ (hI.put 3 25 _ (by decide) (by decide) (by decide) (by decide) (by decide) (by decide) (fun e => by first | exact ⟨rfl, rfl⟩ | (exact absurd e (by decide))) (fun e => by first | exact ⟨rfl, rfl⟩ | (exact absurd e (by decide))) (fun e => by first | exact ⟨rfl, rfl⟩ | (exact absurd e (by decide))) (fun e => by first | exact ⟨rfl, rfl⟩ | (exact absurd e (by decide))))
    | 4, _ =>
      obtain rfl := Option.some.inj ho
      have d2 : f 2 = true := List.all_eq_true.1 hd 2 (of_decide_eq_true (by kernel_rfl))
      have ex : a.tmps[24]?.getD undef = _ := hI.v2 d2
      refine want_no (j := 2) (d := 24) rfl rfl rfl ex ?_
      exact hK _ _ (hI.put 4 26 _ (by decide) (by decide) (by decide) (by decide) (by decide) (by decide) (fun e => by first | exact ⟨rfl, rfl⟩ | (exact absurd e (by decide))) (fun e => by first | exact ⟨rfl, rfl⟩ | (exact absurd e (by decide))) (fun e => by first | exact ⟨rfl, rfl⟩ | (exact absurd e (by decide))) (fun e => by first | exact ⟨rfl, rfl⟩ | (exact absurd e (by decide))))
    | 5, _ =>
      obtain rfl := Option.some.inj ho
      have d2 : f 2 = true := List.all_eq_true.1 hd 2 (of_decide_eq_true (by kernel_rfl))
      have ex : a.tmps[24]?.getD undef = _ := hI.v2 d2
      refine want_no (j := 2) (d := 24) rfl rfl rfl ex ?_
      exact hK _ _ (hI.put 5 27 _ (by decide) (by decide) (by decide) (by decide) (by decide) (by decide) (fun e => by first | exact ⟨rfl, rfl⟩ | (exact absurd e (by decide))) (fun e => by first | exact ⟨rfl, rfl⟩ | (exact absurd e (by decide))) (fun e => by first | exact ⟨rfl, rfl⟩ | (exact absurd e (by decide))) (fun e => by first | exact ⟨rfl, rfl⟩ | (exact absurd e (by decide))))
    | 6, _ =>
      obtain rfl := Option.some.inj ho
      have d2 : f 2 = true := List.all_eq_true.1 hd 2 (of_decide_eq_true (by kernel_rfl))
      have ex : a.tmps[24]?.getD undef = _ := hI.v2 d2
      refine want_no (j := 2) (d := 24) rfl rfl rfl ex ?_
      exact hK _ _ (hI.put 6 28 _ (by decide) (by decide) (by decide) (by decide) (by decide) (by decide) (fun e => by first | exact ⟨rfl, rfl⟩ | (exact absurd e (by decide))) (fun e => by first | exact ⟨rfl, rfl⟩ | (exact absurd e (by decide))) (fun e => by first | exact ⟨rfl, rfl⟩ | (exact absurd e (by decide))) (fun e => by first | exact ⟨rfl, rfl⟩ | (exact absurd e (by decide))))
    | 7, _ =>
      obtain rfl := Option.some.inj ho
      have d2 : f 2 = true := List.all_eq_true.1 hd 2 (of_decide_eq_true (by kernel_rfl))
      have ex : a.tmps[24]?.getD undef = _ := hI.v2 d2
      refine want_no (j := 2) (d := 24) rfl rfl rfl ex ?_
      exact hK _ _ (hI.put 7 29 _ (by decide) (by decide) (by decide) (by decide) (by decide) (by decide) (fun e => by first | exact ⟨rfl, rfl⟩ | (exact absurd e (by decide))) (fun e => by first | exact ⟨rfl, rfl⟩ | (exact absurd e (by decide))) (fun e => by first | exact ⟨rfl, rfl⟩ | (exact absurd e (by decide))) (fun e => by first | exact ⟨rfl, rfl⟩ | (exact absurd e (by decide))))
    | 8, _ =>
      obtain rfl := Option.some.inj ho
      have d2 : f 2 = true := List.all_eq_true.1 hd 2 (of_decide_eq_true (by kernel_rfl))
      have ex : a.tmps[24]?.getD undef = _ := hI.v2 d2
      refine want_no (j := 2) (d := 24) rfl rfl rfl ex ?_
      exact hK _ _ (hI.put 8 30 _ (by decide) (by decide) (by decide) (by decide) (by decide) (by decide) (fun e => by first | exact ⟨rfl, rfl⟩ | (exact absurd e (by decide))) (fun e => by first | exact ⟨rfl, rfl⟩ | (exact absurd e (by decide))) (fun e => by first | exact ⟨rfl, rfl⟩ | (exact absurd e (by decide))) (fun e => by first | exact ⟨rfl, rfl⟩ | (exact absurd e (by decide))))
    | 9, _ =>
      obtain rfl := Option.some.inj ho
      have d2 : f 2 = true := List.all_eq_true.1 hd 2 (of_decide_eq_true (by kernel_rfl))
      have ex : a.tmps[24]?.getD undef = _ := hI.v2 d2
      refine want_no (j := 2) (d := 24) rfl rfl rfl ex ?_
      exact hK _ _ (hI.put 9 31 _ (by decide) (by decide) (by decide) (by decide) (by decide) (by decide) (fun e => by first | exact ⟨rfl, rfl⟩ | (exact absurd e (by decide))) (fun e => by first | exact ⟨rfl, rfl⟩ | (exact absurd e (by decide))) (fun e => by first | exact ⟨rfl, rfl⟩ | (exact absurd e (by decide))) (fun e => by first | exact ⟨rfl, rfl⟩ | (exact absurd e (by decide))))
    | 10, _ =>
      obtain rfl := Option.some.inj ho
      have d2 : f 2 = true := List.all_eq_true.1 hd 2 (of_decide_eq_true (by kernel_rfl))
      have ex : a.tmps[24]?.getD undef = _ := hI.v2 d2
      refine want_no (j := 2) (d := 24) rfl rfl rfl ex ?_
      exact hK _ _ (hI.put 10 32 _ (by decide) (by decide) (by decide) (by decide) (by decide) (by decide) (fun e => by first | exact ⟨rfl, rfl⟩ | (exact absurd e (by decide))) (fun e => by first | exact ⟨rfl, rfl⟩ | (exact absurd e (by decide))) (fun e => by first | exact ⟨rfl, rfl⟩ | (exact absurd e (by decide))) (fun e => by first | exact ⟨rfl, rfl⟩ | (exact absurd e (by decide))))
    | 11, _ =>
      obtain rfl := Option.some.inj ho
      have d2 : f 2 = true := List.all_eq_true.1 hd 2 (of_decide_eq_true (by kernel_rfl))
      have ex : a.tmps[24]?.getD undef = _ := hI.v2 d2
      refine want_no (j := 2) (d := 24) rfl rfl rfl ex ?_
      exact hK _ _ (hI.put 11 33 _ (by decide) (by decide) (by decide) (by decide) (by decide) (by decide) (fun e => by first | exact ⟨rfl, rfl⟩ | (exact absurd e (by decide))) (fun e => by first | exact ⟨rfl, rfl⟩ | (exact absurd e (by decide))) (fun e => by first | exact ⟨rfl, rfl⟩ | (exact absurd e (by decide))) (fun e => by first | exact ⟨rfl, rfl⟩ | (exact absurd e (by decide))))
    | 12, _ =>
      obtain rfl := Option.some.inj ho
      have d2 : f 2 = true := List.all_eq_true.1 hd 2 (of_decide_eq_true (by kernel_rfl))
      have ex : a.tmps[24]?.getD undef = _ := hI.v2 d2
      refine want_no (j := 2) (d := 24) rfl rfl rfl ex ?_
      exact hK _ _ (hI.put 12 34 _ (by decide) (by decide) (by decide) (by decide) (by decide) (by decide) (fun e => by first | exact ⟨rfl, rfl⟩ | (exact absurd e (by decide))) (fun e => by first | exact ⟨rfl, rfl⟩ | (exact absurd e (by decide))) (fun e => by first | exact ⟨rfl, rfl⟩ | (exact absurd e (by decide))) (fun e => by first | exact ⟨rfl, rfl⟩ | (exact absurd e (by decide))))
    | 13, _ =>
      obtain rfl := Option.some.inj ho
      have d2 : f 2 = true := List.all_eq_true.1 hd 2 (of_decide_eq_true (by kernel_rfl))
      have ex : a.tmps[24]?.getD undef = _ := hI.v2 d2
      refine want_no (j := 2) (d := 24) rfl rfl rfl ex ?_
      exact hK _ _ (hI.put 13 35 _ (by decide) (by decide) (by decide) (by decide) (by decide) (by decide) (fun e => by first | exact ⟨rfl, rfl⟩ | (exact absurd e (by decide))) (fun e => by first | exact ⟨rfl, rfl⟩ | (exact absurd e (by decide))) (fun e => by first | exact ⟨rfl, rfl⟩ | (exact absurd e (by decide))) (fun e => by first | exact ⟨rfl, rfl⟩ | (exact absurd e (by decide))))
    | 14, _ =>
      obtain rfl := Option.some.inj ho
      have d2 : f 2 = true := List.all_eq_true.1 hd 2 (of_decide_eq_true (by kernel_rfl))
      have ex : a.tmps[24]?.getD undef = _ := hI.v2 d2
      refine want_no (j := 2) (d := 24) rfl rfl rfl ex ?_
      exact hK _ _ (hI.put 14 36 _ (by decide) (by decide) (by decide) (by decide) (by decide) (by decide) (fun e => by first | exact ⟨rfl, rfl⟩ | (exact absurd e (by decide))) (fun e => by first | exact ⟨rfl, rfl⟩ | (exact absurd e (by decide))) (fun e => by first | exact ⟨rfl, rfl⟩ | (exact absurd e (by decide))) (fun e => by first | exact ⟨rfl, rfl⟩ | (exact absurd e (by decide))))
    | 15, _ =>
      obtain rfl := Option.some.inj ho
      have d2 : f 2 = true := List.all_eq_true.1 hd 2 (of_decide_eq_true (by kernel_rfl))
      have ex : a.tmps[24]?.getD undef = _ := hI.v2 d2
      refine want_no (j := 2) (d := 24) rfl rfl rfl ex ?_
      exact hK _ _ (hI.put 15 37 _ (by decide) (by decide) (by decide) (by decide) (by decide) (by decide) (fun e => by first | exact ⟨rfl, rfl⟩ | (exact absurd e (by decide))) (fun e => by first | exact ⟨rfl, rfl⟩ | (exact absurd e (by decide))) (fun e => by first | exact ⟨rfl, rfl⟩ | (exact absurd e (by decide))) (fun e => by first | exact ⟨rfl, rfl⟩ | (exact absurd e (by decide))))
    | 16, _ =>
      obtain rfl := Option.some.inj ho
      have d2 : f 2 = true := List.all_eq_true.1 hd 2 (of_decide_eq_true (by kernel_rfl))
      have ex : a.tmps[24]?.getD undef = _ := hI.v2 d2
      refine want_yes rfl ?_
      unfold Oper.wp
      simp [execOp, go_sem, ex]
      exact hK _ _ (hI.put 16 38 _ (by decide) (by decide) (by decide) (by decide) (by decide) (by decide) (fun e => by first | exact ⟨rfl, rfl⟩ | (exact absurd e (by decide))) (fun e => by first | exact ⟨rfl, rfl⟩ | (exact absurd e (by decide))) (fun e => by first | exact ⟨rfl, rfl⟩ | (exact absurd e (by decide))) (fun e => by first | exact ⟨rfl, rfl⟩ | (exact absurd e (by decide))))
    | 17, _ =>
      obtain rfl := Option.some.inj ho
      have d0 : f 0 = true := List.all_eq_true.1 hd 0 (of_decide_eq_true (by kernel_rfl))
      have d16 : f 16 = true := List.all_eq_true.1 hd 16 (of_decide_eq_true (by kernel_rfl))
      have ex : a.tmps[22]?.getD undef = _ := hI.v0 d0
      have ey : a.tmps[38]?.getD undef = _ := hI.v16 d16
      obtain rfl := hI.w0' hf
      refine want_yes rfl ?_
      unfold Oper.wp
      simp [execOp, go_sem, ex, ey]
      refine (need w0 _ q P _ _ _ _ HSD.out _ _).mono ?_
      rintro r w2 hA
      obtain rfl := hA.ret
      exact hK _ _ (hI.call _ hA)
  case fin =>
    rintro f a w hI hall
    have ha : ∀ i, i < 18 → f i = true := hall
    clear hall
    have hA := hI.w1 (ha 17 (by decide))
    obtain ⟨t, ds⟩ := a
    obtain rfl : ds = [] := hI.df
    obtain ⟨x0, x1, x2, x3, x4, x5, x6, x7, x8, x9, x10, x11, x12, x13, x14, x15, x16, x17, x18, x19, x20, x21, x22, x23, x24, x25, x26, x27, x28, x29, x30, x31, x32, x33, x34, x35, x36, x37, x38, x39, x40, x41, x42, x43, x44, x45, rfl⟩ := arr46 t hI.sz
    obtain rfl : x0 = _ := hI.s 0 (by decide)
    obtain rfl : x1 = _ := hI.s 1 (by decide)
    obtain rfl : x2 = _ := hI.s 2 (by decide)
    obtain rfl : x3 = _ := hI.s 3 (by decide)
    obtain rfl : x4 = _ := hI.s 4 (by decide)
    obtain rfl : x5 = _ := hI.s 5 (by decide)
    obtain rfl : x6 = _ := hI.s 6 (by decide)
    obtain rfl : x7 = _ := hI.s 7 (by decide)
    obtain rfl : x8 = _ := hI.s 8 (by decide)
    obtain rfl : x9 = _ := hI.s 9 (by decide)
    obtain rfl : x10 = _ := hI.s 10 (by decide)
    obtain rfl : x11 = _ := hI.s 11 (by decide)
    obtain rfl : x12 = _ := hI.s 12 (by decide)
    obtain rfl : x13 = _ := hI.s 13 (by decide)
    obtain rfl : x14 = _ := hI.s 14 (by decide)
    obtain rfl : x15 = _ := hI.s 15 (by decide)
    obtain rfl : x16 = _ := hI.s 16 (by decide)
    obtain rfl : x17 = _ := hI.s 17 (by decide)
    obtain rfl : x18 = _ := hI.s 18 (by decide)
    obtain rfl : x19 = _ := hI.s 19 (by decide)
    obtain rfl : x20 = _ := hI.s 20 (by decide)
    obtain rfl : x21 = _ := hI.s 21 (by decide)
    obtain rfl : x40 = _ := hI.s 40 (by decide)
    obtain rfl : x41 = _ := hI.s 41 (by decide)
    obtain rfl : x42 = _ := hI.s 42 (by decide)
    obtain rfl : x43 = _ := hI.s 43 (by decide)
    obtain rfl : x44 = _ := hI.s 44 (by decide)
    obtain rfl : x45 = _ := hI.s 45 (by decide)
    replace HX := Aside0.mk (hA.chg.heap HXD.out HQ.out)
    replace HS := Aside0.mk (And.intro hA.stt (HCD.out.step hA.chg))
    clear hA hI ha HSD HXD HCD
    simp only [gt, List.getElem?_toArray, List.getElem?_cons_zero, List.getElem?_cons_succ, Option.getD_some]
    have y3 := (blk_cell HX.out 3).trans rfl
    go_wp2_with fail
    refine (value w0 _ q P _ _ _ _ HS.out.1 n).mono ?_
    rintro r w4 ⟨rfl, rfl⟩
    go_wp2_with fail
    refine (need w0 _ q P _ _ _ _ (HS.out.1) _ _).mono ?_
    rintro r w1 hA
    obtain rfl := hA.ret
    replace HX := Aside0.mk (hA.chg.heap (HX.out) HQ.out)
    replace HS := Aside0.mk (hA.next (HS.out.2))
    clear hA
    go_wp2
    go_end0
    refine ⟨rfl, ?_, HS.out.2⟩
    have := HS.out.1
    unfold regIsE
    rw [HT.out]
    simpa using this
end Go.Proofs.Ytlhbnbckanmaiaa.K
namespace Go.Proofs.Ytlhbnbckanmaiaa.K
open Go Go.RowKit Go.Proofs.YtlhbnbckanmaiaaW.PrintWords Go.Proofs.YtlhbnbckanmaiaaW.PrintLast Go.Proofs.YtlhbnbckanmaiaaW.PrintMore Go.Proofs.Ytlhbnbckanmaiaa.PC1
set_option linter.unusedVariables false
set_option linter.unusedSimpArgs false
set_option maxHeartbeats 4000000 in
set_option maxRecDepth 100000 in
theorem regIs_in (w0 W : World) (q : Nat) (P : AP) (hsm : P.sm) (part e st : Int) (vR : Value) (h : AS w0 W q P part e st vR) (op th : Int) (nm : ByteArray) (n : Int) (AK : Option Addr) (kl cK : Nat) (h0 : decide (0 ≤ th) = true) (h1 : decide (th < (P.threads.length : Int)) = true) :
    Calls Try.prog 102 #[.pointer (some ⟨q, 0, none⟩), .agg #[.int .i64 op, .int .i64 th, .string nm, .int .i64 n, .slice AK kl cK]] W (Asked w0 W q P part (regIsE P op th nm n e) st vR) := by
  have HM := Aside0.mk hsm
  have hb := below_alloc (Below.refl W.heap.size W) (.cells #[.int .i64 op, .int .i64 th, .string nm, .int .i64 n, .slice AK kl cK] 26 (0, 0))
  have HX := Aside0.mk (blk_new W (.cells #[.int .i64 op, .int .i64 th, .string nm, .int .i64 n, .slice AK kl cK] 26 (0, 0)))
  have HS := Aside0.mk (AS.move (And.intro h (Chg.refl (fun k => k = q) W)) hb)
  have HQ := Aside0.mk (show ¬ W.heap.size = q from by have := h.lt; omega)
  have c3 := HS.out.1.cells.2.2.2.1
  have x1 := (blk_cell HX.out 1).trans rfl
  have hq := h.lt
  clear h hb hsm
  have HT := Aside0.mk (show thereB P th = true from by unfold thereB; rw [h0, h1]; rfl)
  have HI := Aside0.mk (And.intro (of_decide_eq_true h0) (of_decide_eq_true h1))
  go_enter Try.func102, Try.ntmps102
  go_wp2
  go_quiet (fail)
  go_wp2_with fail
  refine (need w0 _ q P _ _ _ _ (HS.out.1.step (pw_below_drewN (Below.refl _ _) nq)) _ _).mono ?_
  rintro r w1 hA
  obtain rfl := hA.ret
  replace HX := Aside0.mk (hA.chg.heap (blk_below HX.out (pw_below_drewN (Below.refl _ _) nq)) HQ.out)
  replace HS := Aside0.mk (hA.next (HS.out.2.step (Chg.of_below (pw_below_drewN (Below.refl _ _) nq))))
  clear hA
  clear c3 x1
  obtain ⟨i, rfl⟩ : ∃ i : Nat, th = (i : Int) := ⟨th.toNat, by have := HI.out; omega⟩
  have hit : i < P.threads.length := by have := HI.out; omega
  have HE := Aside0.mk (show P.th1 (i : Int) = P.threads[i] from rdOf_get _ _ _ hit)
  obtain ⟨ad, Ai, ci, hA, hcl, hli, hCi, -, hcl0⟩ := threads_at HS.out.1 i hit
  have HCI := Aside0.mk (And.intro hli (And.intro hCi (HM.out.st _ (List.getElem_mem hit))))
  have c3 := HS.out.1.cells.2.2.2.1
  rw [hA] at c3
  have HAD := Aside0.mk hA
  clear hA hli hCi
  have hi0 : (0 : Int) ≤ (i : Int) := by omega
  have hi1 : (i : Int) < (P.threads.length : Int) := by omega
  have x1 := (blk_cell HX.out 1).trans rfl
  have x2 := (blk_cell HX.out 2).trans rfl
  have hb1 := World.block_lt_of_cell? _ _ c3
  have hb2 := World.block_lt_of_cell? _ _ x1
  have hb3 := World.block_lt_of_cell? _ _ hcl
  dsimp only at hb1 hb2 hb3
  generalize P.threads[i] = li at HE HCI hcl hcl0
  have HCL0 := Aside0.mk hcl0
  clear hcl0
  clear h0 h1 hit
  go_wp2_with fail
  go_region_held3 (fun w' => w'.cell? ⟨q, 3, none⟩ = some (.slice (some ad) P.threads.length P.cT) ∧ w'.cell? ⟨W.heap.size, 1, none⟩ = some (.int .i64 (i : Int)) ∧ w'.cell? ⟨W.heap.size, 2, none⟩ = some (.string nm) ∧ w'.cell? (ad.add i) = some (.slice Ai li.length ci)) (first | (exact ⟨z3, z1, z2, z4⟩) | (exact ⟨pw_cell_below hb c3, pw_cell_below hb x1, pw_cell_below hb x2, pw_cell_below hb hcl⟩) | go_keep)
    (first
      | (go_at_call 16; refine (regs_any _ li Ai ci (Kd.C_drew HCI.out.2.1) HCI.out.2.2.1 HCI.out.2.2.2.1 HCI.out.2.2.2.2).mono ?_; rintro r w2 ⟨A2, c2, rfl, g1, g2, g3⟩; have hb := below_step (below_drew (Below.refl _ _)) g3; have HG := Aside0.mk (And.intro g1 (And.intro g2 hb)); clear g1 g2 g3)
      | (go_at_call 52; refine (has_any (regsL [] li) A2 c2 nm _ HG.out.2.1 HG.out.1 (by have := regsL_len [] li; have := HCI.out.2.2.2.2; simp at *; omega)).mono ?_; rintro r w3 ⟨rfl, g3⟩; have hb := below_step HG.out.2.2 g3; have HG2 := Aside0.mk hb; clear g3)
      | (go_at_call 67; refine (need w0 _ q P _ _ _ _ (HS.out.1.step HG2.out) _ _).mono ?_; rintro r w4 hA; obtain rfl := hA.ret; have HX4 := Aside0.mk (hA.chg.heap (blk_below HX.out HG2.out) HQ.out); have HS4 := Aside0.mk (hA.next (HS.out.2.step (Chg.of_below HG2.out))); have z3 := hA.stt.cells.2.2.2.1; rw [HAD.out] at z3; have z1 := (blk_cell HX4.out 1).trans rfl; have z2 := (blk_cell HX4.out 2).trans rfl; have z4 := pw_cell_below hA.stt.bel HCL0.out; clear hA))
  clear z1 z2 z3 z4 c3 x1 x2 hcl hb1 hb2 hb3
  replace HX := HX4
  replace HS := HS4
  have y3 := (blk_cell HX.out 3).trans rfl
  go_wp2_with fail
  refine (value w0 _ q P _ _ _ _ HS.out.1 n).mono ?_
  rintro r w4 ⟨rfl, rfl⟩
  go_wp2_with fail
  refine (need w0 _ q P _ _ _ _ (HS.out.1) _ _).mono ?_
  rintro r w1 hA
  obtain rfl := hA.ret
  replace HX := Aside0.mk (hA.chg.heap (HX.out) HQ.out)
  replace HS := Aside0.mk (hA.next (HS.out.2))
  clear hA
  go_wp2
  go_end0
  refine ⟨rfl, ?_, HS.out.2⟩
  have := HS.out.1
  unfold regIsE
  rw [HT.out, HE.out]
  simpa using this
end Go.Proofs.Ytlhbnbckanmaiaa.K
namespace Go.Proofs.Ytlhbnbckanmaiaa.K
open Go Go.RowKit Go.Proofs.YtlhbnbckanmaiaaW.PrintWords Go.Proofs.YtlhbnbckanmaiaaW.PrintLast Go.Proofs.YtlhbnbckanmaiaaW.PrintMore Go.Proofs.Ytlhbnbckanmaiaa.PC1
set_option linter.unusedVariables false
set_option linter.unusedSimpArgs false
theorem regIs_any (w0 W : World) (q : Nat) (P : AP) (hsm : P.sm) (part e st : Int) (vR : Value) (h : AS w0 W q P part e st vR) (op th : Int) (nm : ByteArray) (n : Int) (AK : Option Addr) (kl cK : Nat) :
    Calls Try.prog 102 #[.pointer (some ⟨q, 0, none⟩), .agg #[.int .i64 op, .int .i64 th, .string nm, .int .i64 n, .slice AK kl cK]] W (Asked w0 W q P part (regIsE P op th nm n e) st vR) := by
  cases h0 : decide (0 ≤ th) with
  | false => exact regIs_neg w0 W q P hsm part e st vR h op th nm n AK kl cK h0
  | true =>
    cases h1 : decide (th < (P.threads.length : Int)) with
    | false => exact regIs_far w0 W q P hsm part e st vR h op th nm n AK kl cK h0 h1
    | true => exact regIs_in w0 W q P hsm part e st vR h op th nm n AK kl cK h0 h1
def kidsF (op : Int) : Int := if op = 1 then 0 else if op = 2 then 0 else if op = 3 then 1 else if op = 4 then 2 else if op = 5 then 2 else 0
def okC (op : Int) : Bool := decide (1 ≤ op) && decide (op ≤ 5)
def askF (P : AP) (op th : Int) (nm : ByteArray) (n : Int) (e : Int) : Int := if op = 1 then memE P op th nm n e else if op = 2 then regIsE P op th nm n e else noneE op th nm n e
def condHead (P : AP) (op th : Int) (nm : ByteArray) (n : Int) (len : Nat) (e : Int) : Int := askF P op th nm n (needE (okC op && ((len : Int) == kidsF op)) 1 e)
mutual
def condF (P : AP) (e : Int) : TCond → Int
  | ⟨op, th, nm, n, kids⟩ => if e = 0 then condFs P (condHead P op th nm n kids.length e) kids else e
def condFs (P : AP) (e : Int) : List TCond → Int
  | [] => e
  | x :: xs => condFs P (condF P e x) xs
end
theorem condFs_snoc (P : AP) : ∀ (l : List TCond) (e : Int) (x : TCond), condFs P e (l ++ [x]) = condF P (condFs P e l) x
  | [], e, x => by rw [List.nil_append, condFs, condFs, condFs]
  | y :: ys, e, x => by rw [List.cons_append, condFs, condFs, condFs_snoc]
theorem condFs_take (P : AP) (l : List TCond) (e : Int) (i : Nat) (hi : i < l.length) : condFs P e (l.take (i + 1)) = condF P (condFs P e (l.take i)) l[i] := by
  rw [List.take_succ_eq_append_getElem hi, condFs_snoc]
theorem sizeC (l : List TCond) (i : Nat) (hi : i < l.length) (op th n : Int) (nm : ByteArray) : SizeOf.sizeOf l[i] < SizeOf.sizeOf (S26.mk op th nm n l) := by
  have := List.sizeOf_lt_of_mem (List.getElem_mem hi)
  simp
  omega
def CondOk (w0 : World) (q : Nat) (P : AP) (part st : Int) (vR : Value) (N : Nat) : Prop :=
  ∀ (x : TCond), SizeOf.sizeOf x < N → ∀ (W : World) (e : Int) (A : Option Addr) (c : Nat), AS w0 W q P part e st vR → Kd.C kCond w0 A x.f4.length x.f4 → smC x →
    Calls Try.prog 75 #[.pointer (some ⟨q, 0, none⟩), .agg #[.int .i64 x.f0, .int .i64 x.f1, .string x.f2, .int .i64 x.f3, .slice A x.f4.length c]] W (Asked w0 W q P part (condF P e x) st vR)
theorem cins1 (w : World) (r : Nat) (hb : w.heap[r]? = some (.map #[] 0)) : (Instr.mapUpdate 146 (.map (some r)) (.int .i64 1) (.int .i64 0)).run Try.prog w = .ok () (mput w r #[⟨.int .i64 1, .int .i64 0, 0⟩] 1) :=
  run_ins 146 3 3 w r 0 _ 1 (.int .i64 0) Try.underlying146 Try.underlying3 hb rfl
theorem cins2 (w : World) (r : Nat) (hb : w.heap[r]? = some (.map #[⟨.int .i64 1, .int .i64 0, 0⟩] 1)) : (Instr.mapUpdate 146 (.map (some r)) (.int .i64 2) (.int .i64 0)).run Try.prog w = .ok () (mput w r #[⟨.int .i64 1, .int .i64 0, 0⟩, ⟨.int .i64 2, .int .i64 0, 1⟩] 2) :=
  run_ins 146 3 3 w r 1 _ 2 (.int .i64 0) Try.underlying146 Try.underlying3 hb rfl
theorem cins3 (w : World) (r : Nat) (hb : w.heap[r]? = some (.map #[⟨.int .i64 1, .int .i64 0, 0⟩, ⟨.int .i64 2, .int .i64 0, 1⟩] 2)) : (Instr.mapUpdate 146 (.map (some r)) (.int .i64 3) (.int .i64 1)).run Try.prog w = .ok () (mput w r #[⟨.int .i64 1, .int .i64 0, 0⟩, ⟨.int .i64 2, .int .i64 0, 1⟩, ⟨.int .i64 3, .int .i64 1, 2⟩] 3) :=
  run_ins 146 3 3 w r 2 _ 3 (.int .i64 1) Try.underlying146 Try.underlying3 hb rfl
theorem cins4 (w : World) (r : Nat) (hb : w.heap[r]? = some (.map #[⟨.int .i64 1, .int .i64 0, 0⟩, ⟨.int .i64 2, .int .i64 0, 1⟩, ⟨.int .i64 3, .int .i64 1, 2⟩] 3)) : (Instr.mapUpdate 146 (.map (some r)) (.int .i64 4) (.int .i64 2)).run Try.prog w = .ok () (mput w r #[⟨.int .i64 1, .int .i64 0, 0⟩, ⟨.int .i64 2, .int .i64 0, 1⟩, ⟨.int .i64 3, .int .i64 1, 2⟩, ⟨.int .i64 4, .int .i64 2, 3⟩] 4) :=
  run_ins 146 3 3 w r 3 _ 4 (.int .i64 2) Try.underlying146 Try.underlying3 hb rfl
theorem cins5 (w : World) (r : Nat) (hb : w.heap[r]? = some (.map #[⟨.int .i64 1, .int .i64 0, 0⟩, ⟨.int .i64 2, .int .i64 0, 1⟩, ⟨.int .i64 3, .int .i64 1, 2⟩, ⟨.int .i64 4, .int .i64 2, 3⟩] 4)) : (Instr.mapUpdate 146 (.map (some r)) (.int .i64 5) (.int .i64 2)).run Try.prog w = .ok () (mput w r #[⟨.int .i64 1, .int .i64 0, 0⟩, ⟨.int .i64 2, .int .i64 0, 1⟩, ⟨.int .i64 3, .int .i64 1, 2⟩, ⟨.int .i64 4, .int .i64 2, 3⟩, ⟨.int .i64 5, .int .i64 2, 4⟩] 5) :=
  run_ins 146 3 3 w r 4 _ 5 (.int .i64 2) Try.underlying146 Try.underlying3 hb rfl
theorem clook1 (w : World) (r : Nat) (hb : w.heap[r]? = some (.map #[⟨.int .i64 1, .int .i64 0, 0⟩, ⟨.int .i64 2, .int .i64 0, 1⟩, ⟨.int .i64 3, .int .i64 1, 2⟩, ⟨.int .i64 4, .int .i64 2, 3⟩, ⟨.int .i64 5, .int .i64 2, 4⟩] 5)) : (Instr.lookup 146 (.map (some r)) (.int .i64 1) true).run Try.prog w = .ok (.tuple #[.int .i64 0, .bool true]) w :=
  run_look 146 3 3 w r 5 _ 1 0 _ Try.underlying146 Try.underlying3 hb rfl
theorem clook2 (w : World) (r : Nat) (hb : w.heap[r]? = some (.map #[⟨.int .i64 1, .int .i64 0, 0⟩, ⟨.int .i64 2, .int .i64 0, 1⟩, ⟨.int .i64 3, .int .i64 1, 2⟩, ⟨.int .i64 4, .int .i64 2, 3⟩, ⟨.int .i64 5, .int .i64 2, 4⟩] 5)) : (Instr.lookup 146 (.map (some r)) (.int .i64 2) true).run Try.prog w = .ok (.tuple #[.int .i64 0, .bool true]) w :=
  run_look 146 3 3 w r 5 _ 2 1 _ Try.underlying146 Try.underlying3 hb rfl
theorem clook3 (w : World) (r : Nat) (hb : w.heap[r]? = some (.map #[⟨.int .i64 1, .int .i64 0, 0⟩, ⟨.int .i64 2, .int .i64 0, 1⟩, ⟨.int .i64 3, .int .i64 1, 2⟩, ⟨.int .i64 4, .int .i64 2, 3⟩, ⟨.int .i64 5, .int .i64 2, 4⟩] 5)) : (Instr.lookup 146 (.map (some r)) (.int .i64 3) true).run Try.prog w = .ok (.tuple #[.int .i64 1, .bool true]) w :=
  run_look 146 3 3 w r 5 _ 3 2 _ Try.underlying146 Try.underlying3 hb rfl
theorem clook4 (w : World) (r : Nat) (hb : w.heap[r]? = some (.map #[⟨.int .i64 1, .int .i64 0, 0⟩, ⟨.int .i64 2, .int .i64 0, 1⟩, ⟨.int .i64 3, .int .i64 1, 2⟩, ⟨.int .i64 4, .int .i64 2, 3⟩, ⟨.int .i64 5, .int .i64 2, 4⟩] 5)) : (Instr.lookup 146 (.map (some r)) (.int .i64 4) true).run Try.prog w = .ok (.tuple #[.int .i64 2, .bool true]) w :=
  run_look 146 3 3 w r 5 _ 4 3 _ Try.underlying146 Try.underlying3 hb rfl
theorem clook5 (w : World) (r : Nat) (hb : w.heap[r]? = some (.map #[⟨.int .i64 1, .int .i64 0, 0⟩, ⟨.int .i64 2, .int .i64 0, 1⟩, ⟨.int .i64 3, .int .i64 1, 2⟩, ⟨.int .i64 4, .int .i64 2, 3⟩, ⟨.int .i64 5, .int .i64 2, 4⟩] 5)) : (Instr.lookup 146 (.map (some r)) (.int .i64 5) true).run Try.prog w = .ok (.tuple #[.int .i64 2, .bool true]) w :=
  run_look 146 3 3 w r 5 _ 5 4 _ Try.underlying146 Try.underlying3 hb rfl
theorem clook0 (w : World) (r : Nat) (op : Int) (h1 : op ≠ 1) (h2 : op ≠ 2) (h3 : op ≠ 3) (h4 : op ≠ 4) (h5 : op ≠ 5) (hb : w.heap[r]? = some (.map #[⟨.int .i64 1, .int .i64 0, 0⟩, ⟨.int .i64 2, .int .i64 0, 1⟩, ⟨.int .i64 3, .int .i64 1, 2⟩, ⟨.int .i64 4, .int .i64 2, 3⟩, ⟨.int .i64 5, .int .i64 2, 4⟩] 5)) : (Instr.lookup 146 (.map (some r)) (.int .i64 op) true).run Try.prog w = .ok (.tuple #[.int .i64 0, .bool false]) w := by
  have e1 : (op == 1) = false := beq_eq_false_iff_ne.2 h1
  have e2 : (op == 2) = false := beq_eq_false_iff_ne.2 h2
  have e3 : (op == 3) = false := beq_eq_false_iff_ne.2 h3
  have e4 : (op == 4) = false := beq_eq_false_iff_ne.2 h4
  have e5 : (op == 5) = false := beq_eq_false_iff_ne.2 h5
  exact run_look_no 146 3 3 w r 5 _ op (.int .i64 0) Try.underlying146 Try.underlying3 hb (by simp [Instr.findNow, Instr.sameNow, e1, e2, e3, e4, e5]) (by simp [go_sem])
theorem okC_no (op : Int) (h : op ≠ 1 ∧ op ≠ 2 ∧ op ≠ 3 ∧ op ≠ 4 ∧ op ≠ 5) : okC op = false := by
  unfold okC
  by_cases a : 1 ≤ op <;> by_cases b : op ≤ 5 <;> simp [a, b]
  omega
def mw0 (W : World) (o : Obj) : World := (W.alloc o).alloc (.map #[] 0)
def mw1 (W : World) (o : Obj) : World := mput (mw0 W o) (W.heap.size + 1) #[⟨.int .i64 1, .int .i64 0, 0⟩] 1
def mw2 (W : World) (o : Obj) : World := mput (mw1 W o) (W.heap.size + 1) #[⟨.int .i64 1, .int .i64 0, 0⟩, ⟨.int .i64 2, .int .i64 0, 1⟩] 2
def mw3 (W : World) (o : Obj) : World := mput (mw2 W o) (W.heap.size + 1) #[⟨.int .i64 1, .int .i64 0, 0⟩, ⟨.int .i64 2, .int .i64 0, 1⟩, ⟨.int .i64 3, .int .i64 1, 2⟩] 3
def mw4 (W : World) (o : Obj) : World := mput (mw3 W o) (W.heap.size + 1) #[⟨.int .i64 1, .int .i64 0, 0⟩, ⟨.int .i64 2, .int .i64 0, 1⟩, ⟨.int .i64 3, .int .i64 1, 2⟩, ⟨.int .i64 4, .int .i64 2, 3⟩] 4
def mw5 (W : World) (o : Obj) : World := mput (mw4 W o) (W.heap.size + 1) #[⟨.int .i64 1, .int .i64 0, 0⟩, ⟨.int .i64 2, .int .i64 0, 1⟩, ⟨.int .i64 3, .int .i64 1, 2⟩, ⟨.int .i64 4, .int .i64 2, 3⟩, ⟨.int .i64 5, .int .i64 2, 4⟩] 5
theorem mws0 (W : World) (o : Obj) : (mw0 W o).heap.size = W.heap.size + 2 := by simp [mw0]
theorem mws1 (W : World) (o : Obj) : (mw1 W o).heap.size = W.heap.size + 2 := by rw [mw1, mput_size, mws0]
theorem mws2 (W : World) (o : Obj) : (mw2 W o).heap.size = W.heap.size + 2 := by rw [mw2, mput_size, mws1]
theorem mws3 (W : World) (o : Obj) : (mw3 W o).heap.size = W.heap.size + 2 := by rw [mw3, mput_size, mws2]
theorem mws4 (W : World) (o : Obj) : (mw4 W o).heap.size = W.heap.size + 2 := by rw [mw4, mput_size, mws3]
theorem mws5 (W : World) (o : Obj) : (mw5 W o).heap.size = W.heap.size + 2 := by rw [mw5, mput_size, mws4]
theorem mwm0 (W : World) (o : Obj) : (mw0 W o).heap[W.heap.size + 1]? = some (.map #[] 0) := alloc_at _ _ _ (by simp)
theorem mwm1 (W : World) (o : Obj) : (mw1 W o).heap[W.heap.size + 1]? = some (.map #[⟨.int .i64 1, .int .i64 0, 0⟩] 1) := mput_at _ _ _ _ (by rw [mws0]; omega)
theorem mwm2 (W : World) (o : Obj) : (mw2 W o).heap[W.heap.size + 1]? = some (.map #[⟨.int .i64 1, .int .i64 0, 0⟩, ⟨.int .i64 2, .int .i64 0, 1⟩] 2) := mput_at _ _ _ _ (by rw [mws1]; omega)
theorem mwm3 (W : World) (o : Obj) : (mw3 W o).heap[W.heap.size + 1]? = some (.map #[⟨.int .i64 1, .int .i64 0, 0⟩, ⟨.int .i64 2, .int .i64 0, 1⟩, ⟨.int .i64 3, .int .i64 1, 2⟩] 3) := mput_at _ _ _ _ (by rw [mws2]; omega)
theorem mwm4 (W : World) (o : Obj) : (mw4 W o).heap[W.heap.size + 1]? = some (.map #[⟨.int .i64 1, .int .i64 0, 0⟩, ⟨.int .i64 2, .int .i64 0, 1⟩, ⟨.int .i64 3, .int .i64 1, 2⟩, ⟨.int .i64 4, .int .i64 2, 3⟩] 4) := mput_at _ _ _ _ (by rw [mws3]; omega)
theorem mwm5 (W : World) (o : Obj) : (mw5 W o).heap[W.heap.size + 1]? = some (.map #[⟨.int .i64 1, .int .i64 0, 0⟩, ⟨.int .i64 2, .int .i64 0, 1⟩, ⟨.int .i64 3, .int .i64 1, 2⟩, ⟨.int .i64 4, .int .i64 2, 3⟩, ⟨.int .i64 5, .int .i64 2, 4⟩] 5) := mput_at _ _ _ _ (by rw [mws4]; omega)
theorem mwb0 (W : World) (o : Obj) : Below W.heap.size W (mw0 W o) ∧ (mw0 W o).heap[W.heap.size]? = some o := ⟨below_alloc (below_alloc (Below.refl _ _) _) _, blk_alloc (blk_new W o) _⟩
theorem mwb1 (W : World) (o : Obj) : Below W.heap.size W (mw1 W o) ∧ (mw1 W o).heap[W.heap.size]? = some o := ⟨mput_below (mwb0 W o).1 _ _ _ (by omega), (mput_ne _ _ _ _ _ (by omega)).trans (mwb0 W o).2⟩
theorem mwb2 (W : World) (o : Obj) : Below W.heap.size W (mw2 W o) ∧ (mw2 W o).heap[W.heap.size]? = some o := ⟨mput_below (mwb1 W o).1 _ _ _ (by omega), (mput_ne _ _ _ _ _ (by omega)).trans (mwb1 W o).2⟩
theorem mwb3 (W : World) (o : Obj) : Below W.heap.size W (mw3 W o) ∧ (mw3 W o).heap[W.heap.size]? = some o := ⟨mput_below (mwb2 W o).1 _ _ _ (by omega), (mput_ne _ _ _ _ _ (by omega)).trans (mwb2 W o).2⟩
theorem mwb4 (W : World) (o : Obj) : Below W.heap.size W (mw4 W o) ∧ (mw4 W o).heap[W.heap.size]? = some o := ⟨mput_below (mwb3 W o).1 _ _ _ (by omega), (mput_ne _ _ _ _ _ (by omega)).trans (mwb3 W o).2⟩
theorem mwb5 (W : World) (o : Obj) : Below W.heap.size W (mw5 W o) ∧ (mw5 W o).heap[W.heap.size]? = some o := ⟨mput_below (mwb4 W o).1 _ _ _ (by omega), (mput_ne _ _ _ _ _ (by omega)).trans (mwb4 W o).2⟩
set_option maxHeartbeats 4000000 in
set_option maxRecDepth 100000 in
theorem cond_1 (w0 W : World) (q : Nat) (P : AP) (hsm : P.sm) (part st : Int) (vR : Value) (N : Nat) (ih : CondOk w0 q P part st vR N) (th n : Int) (nm : ByteArray) (kids : List TCond) (A : Option Addr) (c : Nat) (hN : SizeOf.sizeOf (S26.mk 1 th nm n kids) < N + 1)
    (h : AS w0 W q P part 0 st vR) (hC : Kd.C kCond w0 A kids.length kids) (hx : smC ⟨1, th, nm, n, kids⟩) :
    Calls Try.prog 75 #[.pointer (some ⟨q, 0, none⟩), .agg #[.int .i64 1, .int .i64 th, .string nm, .int .i64 n, .slice A kids.length c]] W (Asked w0 W q P part (condFs P (condHead P 1 th nm n kids.length 0) kids) st vR) := by
  have HF := Aside0.mk (And.intro hN (And.intro hC ((smC_def _).1 hx)))
  have HI := Aside0.mk ih
  have HM := Aside0.mk hsm
  have HQ := Aside0.mk (show ¬ W.heap.size = q from by have := h.lt; omega)
  have c11 := h.cells.2.2.2.2.2.2.2.2.2.2.2.1
  have hq := h.lt
  have HS := Aside0.mk (And.intro h (Chg.refl (fun k => k = q) W))
  have hmf : ∀ (fn : Fn) (first cap : Array Value) (w : World), (Instr.makeFunc fn first cap).run Try.prog w = .ok (.func fn first cap) w := fun _ _ _ _ => rfl
  have hmk : ∀ w, (Instr.makeMap 146 none).run Try.prog w = .ok (.map (some w.heap.size)) (w.alloc (.map #[] 0)) := fun w => run_makeMap_plain' 146 w
  have i1 : (Instr.mapUpdate 146 (.map (some (W.heap.size + 1))) (.int .i64 1) (.int .i64 0)).run Try.prog ((W.alloc (.cells #[.int .i64 1, .int .i64 th, .string nm, .int .i64 n, .slice A kids.length c] 26 (0, 0))).alloc (.map #[] 0)) = .ok () (mw1 W (.cells #[.int .i64 1, .int .i64 th, .string nm, .int .i64 n, .slice A kids.length c] 26 (0, 0))) := cins1 _ _ (mwm0 W (.cells #[.int .i64 1, .int .i64 th, .string nm, .int .i64 n, .slice A kids.length c] 26 (0, 0)))
  have i2 := cins2 _ _ (mwm1 W (.cells #[.int .i64 1, .int .i64 th, .string nm, .int .i64 n, .slice A kids.length c] 26 (0, 0)))
  have i3 := cins3 _ _ (mwm2 W (.cells #[.int .i64 1, .int .i64 th, .string nm, .int .i64 n, .slice A kids.length c] 26 (0, 0)))
  have i4 := cins4 _ _ (mwm3 W (.cells #[.int .i64 1, .int .i64 th, .string nm, .int .i64 n, .slice A kids.length c] 26 (0, 0)))
  have i5 := cins5 _ _ (mwm4 W (.cells #[.int .i64 1, .int .i64 th, .string nm, .int .i64 n, .slice A kids.length c] 26 (0, 0)))
  change _ = Result.ok () (mw2 W (.cells #[.int .i64 1, .int .i64 th, .string nm, .int .i64 n, .slice A kids.length c] 26 (0, 0))) at i2
  change _ = Result.ok () (mw3 W (.cells #[.int .i64 1, .int .i64 th, .string nm, .int .i64 n, .slice A kids.length c] 26 (0, 0))) at i3
  change _ = Result.ok () (mw4 W (.cells #[.int .i64 1, .int .i64 th, .string nm, .int .i64 n, .slice A kids.length c] 26 (0, 0))) at i4
  change _ = Result.ok () (mw5 W (.cells #[.int .i64 1, .int .i64 th, .string nm, .int .i64 n, .slice A kids.length c] 26 (0, 0))) at i5
  have i6 := clook1 _ _ (mwm5 W (.cells #[.int .i64 1, .int .i64 th, .string nm, .int .i64 n, .slice A kids.length c] 26 (0, 0)))
  have HB := Aside0.mk (mwb5 W (.cells #[.int .i64 1, .int .i64 th, .string nm, .int .i64 n, .slice A kids.length c] 26 (0, 0))).1
  have HX := Aside0.mk (mwb5 W (.cells #[.int .i64 1, .int .i64 th, .string nm, .int .i64 n, .slice A kids.length c] 26 (0, 0))).2
  have x0 := (blk_cell HX.out 0).trans rfl
  have x4 := (blk_cell HX.out 4).trans rfl
  have hz5 := mws5 W (.cells #[.int .i64 1, .int .i64 th, .string nm, .int .i64 n, .slice A kids.length c] 26 (0, 0))
  generalize mw5 W (.cells #[.int .i64 1, .int .i64 th, .string nm, .int .i64 n, .slice A kids.length c] 26 (0, 0)) = w5 at i5 i6 HB HX x0 x4 hz5
  clear hN hC hx h ih hsm
  go_enter Try.func75, Try.ntmps75
  go_wp2_with fail
  clear i1 i2 i3 i4 i5 i6 hmk x0 x4 hz5
  refine (need w0 _ q P _ _ _ _ (HS.out.1.step HB.out) _ _).mono ?_
  rintro r w1 hA
  obtain rfl := hA.ret
  replace HX := Aside0.mk (hA.chg.heap HX.out HQ.out)
  replace HS := Aside0.mk (hA.next (HS.out.2.step (Chg.of_below HB.out)))
  clear hA c11 HB
  have x0 := (blk_cell HX.out 0).trans rfl
  have x1 := (blk_cell HX.out 1).trans rfl
  have x2 := (blk_cell HX.out 2).trans rfl
  have x3 := (blk_cell HX.out 3).trans rfl
  have x4 := (blk_cell HX.out 4).trans rfl
  go_wp2_with fail
  refine (mem w0 _ q P _ _ _ _ HS.out.1 1 th nm n A kids.length c).mono ?_
  rintro r w2 hA
  obtain rfl := hA.ret
  replace HX := Aside0.mk (hA.chg.heap HX.out HQ.out)
  replace HS := Aside0.mk (hA.next HS.out.2)
  clear hA x0 x1 x2 x3 x4
  obtain ⟨e1, he1⟩ : ∃ e1, e1 = condHead P 1 th nm n kids.length 0 := ⟨_, rfl⟩
  replace HS := Aside0.mk (And.intro (HS.out.1.to (show _ = e1 from by rw [he1]; simp [condHead, askF, okC, kidsF])) HS.out.2)
  have HE1 := Aside0.mk he1
  clear he1
  have x4 := (blk_cell HX.out 4).trans rfl
  have hlen : kids.length ≤ 1000 := HF.out.2.2.2.1
  go_wp2
  go_loopw [50] (fun v50 wr => ∃ i : Nat, i ≤ kids.length ∧ v50 = .int .i64 i ∧ Aside0 (AS w0 wr q P part (condFs P e1 (kids.take i)) st vR ∧ Chg (fun k => k = q) W wr)) (fun v50 _ => kids.length - (intOf v50).toNat)
  case atStart => exact ⟨0, Nat.zero_le _, rfl, HS⟩
  case round =>
    clear HS HX x4
    obtain ⟨i, hi, rfl, HS⟩ := hrel
    by_cases hlt : i < kids.length
    · have e1' : decide ((i : Int) < (kids.length : Int)) = true := decide_eq_true (by omega)
      have e2' : decide (i < kids.length) = true := decide_eq_true hlt
      obtain ⟨ad, A4, c4, hA, h0, h1, h2, h3, h4, hl, hk⟩ := at_T26 HF.out.2.1 (i : Int) (by omega) (by omega)
      have HG := Aside0.mk (And.intro hl (And.intro hk (rdC_eq kids i hlt)))
      clear hl hk
      subst hA
      rw [Int.toNat_natCast] at h0 h1 h2 h3 h4
      replace h0 := pw_cell_below HS.out.1.bel h0
      replace h1 := pw_cell_below HS.out.1.bel h1
      replace h2 := pw_cell_below HS.out.1.bel h2
      replace h3 := pw_cell_below HS.out.1.bel h3
      replace h4 := pw_cell_below HS.out.1.bel h4
      go_wp2_with fail
      refine (HI.out (rd_T26 kids (i : Int)) (by rw [HG.out.2.2]; have := sizeC kids i hlt 1 th n nm; have := HF.out.1; omega) _ _ A4 c4 (HS.out.1.step (below_alloc (Below.refl _ _) _)) HG.out.2.1 (by rw [HG.out.2.2]; exact smCs_get _ i hlt HF.out.2.2.2.2)).mono ?_
      rintro r w3 hA
      obtain rfl := hA.ret
      replace HS := Aside0.mk (hA.next (HS.out.2.step (Chg.of_below (below_alloc (Below.refl _ _) _))))
      have HE := Aside0.mk (condFs_take P kids e1 i hlt)
      clear h0 h1 h2 h3 h4 hA
      go_wp2
      go_roundw
      case rel => exact ⟨i + 1, by omega, by go_num, ⟨And.intro (HS.out.1.to (by rw [HE.out, HG.out.2.2])) HS.out.2⟩⟩
      case measure => simp [intOf]; omega
    · have e1' : decide ((i : Int) < (kids.length : Int)) = false := decide_eq_false (by omega)
      have e2' : decide (i < kids.length) = false := decide_eq_false hlt
      obtain rfl : i = kids.length := by omega
      go_wp2
      go_end0
      exact ⟨rfl, HS.out.1.to (by rw [List.take_length, HE1.out]), HS.out.2⟩
set_option maxHeartbeats 4000000 in
set_option maxRecDepth 100000 in
theorem cond_2 (w0 W : World) (q : Nat) (P : AP) (hsm : P.sm) (part st : Int) (vR : Value) (N : Nat) (ih : CondOk w0 q P part st vR N) (th n : Int) (nm : ByteArray) (kids : List TCond) (A : Option Addr) (c : Nat) (hN : SizeOf.sizeOf (S26.mk 2 th nm n kids) < N + 1)
    (h : AS w0 W q P part 0 st vR) (hC : Kd.C kCond w0 A kids.length kids) (hx : smC ⟨2, th, nm, n, kids⟩) :
    Calls Try.prog 75 #[.pointer (some ⟨q, 0, none⟩), .agg #[.int .i64 2, .int .i64 th, .string nm, .int .i64 n, .slice A kids.length c]] W (Asked w0 W q P part (condFs P (condHead P 2 th nm n kids.length 0) kids) st vR) := by
  have HF := Aside0.mk (And.intro hN (And.intro hC ((smC_def _).1 hx)))
  have HI := Aside0.mk ih
  have HM := Aside0.mk hsm
  have HQ := Aside0.mk (show ¬ W.heap.size = q from by have := h.lt; omega)
  have c11 := h.cells.2.2.2.2.2.2.2.2.2.2.2.1
  have hq := h.lt
  have HS := Aside0.mk (And.intro h (Chg.refl (fun k => k = q) W))
  have hmf : ∀ (fn : Fn) (first cap : Array Value) (w : World), (Instr.makeFunc fn first cap).run Try.prog w = .ok (.func fn first cap) w := fun _ _ _ _ => rfl
  have hmk : ∀ w, (Instr.makeMap 146 none).run Try.prog w = .ok (.map (some w.heap.size)) (w.alloc (.map #[] 0)) := fun w => run_makeMap_plain' 146 w
  have i1 : (Instr.mapUpdate 146 (.map (some (W.heap.size + 1))) (.int .i64 1) (.int .i64 0)).run Try.prog ((W.alloc (.cells #[.int .i64 2, .int .i64 th, .string nm, .int .i64 n, .slice A kids.length c] 26 (0, 0))).alloc (.map #[] 0)) = .ok () (mw1 W (.cells #[.int .i64 2, .int .i64 th, .string nm, .int .i64 n, .slice A kids.length c] 26 (0, 0))) := cins1 _ _ (mwm0 W (.cells #[.int .i64 2, .int .i64 th, .string nm, .int .i64 n, .slice A kids.length c] 26 (0, 0)))
  have i2 := cins2 _ _ (mwm1 W (.cells #[.int .i64 2, .int .i64 th, .string nm, .int .i64 n, .slice A kids.length c] 26 (0, 0)))
  have i3 := cins3 _ _ (mwm2 W (.cells #[.int .i64 2, .int .i64 th, .string nm, .int .i64 n, .slice A kids.length c] 26 (0, 0)))
  have i4 := cins4 _ _ (mwm3 W (.cells #[.int .i64 2, .int .i64 th, .string nm, .int .i64 n, .slice A kids.length c] 26 (0, 0)))
  have i5 := cins5 _ _ (mwm4 W (.cells #[.int .i64 2, .int .i64 th, .string nm, .int .i64 n, .slice A kids.length c] 26 (0, 0)))
  change _ = Result.ok () (mw2 W (.cells #[.int .i64 2, .int .i64 th, .string nm, .int .i64 n, .slice A kids.length c] 26 (0, 0))) at i2
  change _ = Result.ok () (mw3 W (.cells #[.int .i64 2, .int .i64 th, .string nm, .int .i64 n, .slice A kids.length c] 26 (0, 0))) at i3
  change _ = Result.ok () (mw4 W (.cells #[.int .i64 2, .int .i64 th, .string nm, .int .i64 n, .slice A kids.length c] 26 (0, 0))) at i4
  change _ = Result.ok () (mw5 W (.cells #[.int .i64 2, .int .i64 th, .string nm, .int .i64 n, .slice A kids.length c] 26 (0, 0))) at i5
  have i6 := clook2 _ _ (mwm5 W (.cells #[.int .i64 2, .int .i64 th, .string nm, .int .i64 n, .slice A kids.length c] 26 (0, 0)))
  have HB := Aside0.mk (mwb5 W (.cells #[.int .i64 2, .int .i64 th, .string nm, .int .i64 n, .slice A kids.length c] 26 (0, 0))).1
  have HX := Aside0.mk (mwb5 W (.cells #[.int .i64 2, .int .i64 th, .string nm, .int .i64 n, .slice A kids.length c] 26 (0, 0))).2
  have x0 := (blk_cell HX.out 0).trans rfl
  have x4 := (blk_cell HX.out 4).trans rfl
  have hz5 := mws5 W (.cells #[.int .i64 2, .int .i64 th, .string nm, .int .i64 n, .slice A kids.length c] 26 (0, 0))
  generalize mw5 W (.cells #[.int .i64 2, .int .i64 th, .string nm, .int .i64 n, .slice A kids.length c] 26 (0, 0)) = w5 at i5 i6 HB HX x0 x4 hz5
  clear hN hC hx h ih hsm
  go_enter Try.func75, Try.ntmps75
  go_wp2_with fail
  clear i1 i2 i3 i4 i5 i6 hmk x0 x4 hz5
  refine (need w0 _ q P _ _ _ _ (HS.out.1.step HB.out) _ _).mono ?_
  rintro r w1 hA
  obtain rfl := hA.ret
  replace HX := Aside0.mk (hA.chg.heap HX.out HQ.out)
  replace HS := Aside0.mk (hA.next (HS.out.2.step (Chg.of_below HB.out)))
  clear hA c11 HB
  have x0 := (blk_cell HX.out 0).trans rfl
  have x1 := (blk_cell HX.out 1).trans rfl
  have x2 := (blk_cell HX.out 2).trans rfl
  have x3 := (blk_cell HX.out 3).trans rfl
  have x4 := (blk_cell HX.out 4).trans rfl
  go_wp2_with fail
  refine (regIs_any w0 _ q P HM.out _ _ _ _ HS.out.1 2 th nm n A kids.length c).mono ?_
  rintro r w2 hA
  obtain rfl := hA.ret
  replace HX := Aside0.mk (hA.chg.heap HX.out HQ.out)
  replace HS := Aside0.mk (hA.next HS.out.2)
  clear hA x0 x1 x2 x3 x4
  obtain ⟨e1, he1⟩ : ∃ e1, e1 = condHead P 2 th nm n kids.length 0 := ⟨_, rfl⟩
  replace HS := Aside0.mk (And.intro (HS.out.1.to (show _ = e1 from by rw [he1]; simp [condHead, askF, okC, kidsF])) HS.out.2)
  have HE1 := Aside0.mk he1
  clear he1
  have x4 := (blk_cell HX.out 4).trans rfl
  have hlen : kids.length ≤ 1000 := HF.out.2.2.2.1
  go_wp2
  go_loopw [50] (fun v50 wr => ∃ i : Nat, i ≤ kids.length ∧ v50 = .int .i64 i ∧ Aside0 (AS w0 wr q P part (condFs P e1 (kids.take i)) st vR ∧ Chg (fun k => k = q) W wr)) (fun v50 _ => kids.length - (intOf v50).toNat)
  case atStart => exact ⟨0, Nat.zero_le _, rfl, HS⟩
  case round =>
    clear HS HX x4
    obtain ⟨i, hi, rfl, HS⟩ := hrel
    by_cases hlt : i < kids.length
    · have e1' : decide ((i : Int) < (kids.length : Int)) = true := decide_eq_true (by omega)
      have e2' : decide (i < kids.length) = true := decide_eq_true hlt
      obtain ⟨ad, A4, c4, hA, h0, h1, h2, h3, h4, hl, hk⟩ := at_T26 HF.out.2.1 (i : Int) (by omega) (by omega)
      have HG := Aside0.mk (And.intro hl (And.intro hk (rdC_eq kids i hlt)))
      clear hl hk
      subst hA
      rw [Int.toNat_natCast] at h0 h1 h2 h3 h4
      replace h0 := pw_cell_below HS.out.1.bel h0
      replace h1 := pw_cell_below HS.out.1.bel h1
      replace h2 := pw_cell_below HS.out.1.bel h2
      replace h3 := pw_cell_below HS.out.1.bel h3
      replace h4 := pw_cell_below HS.out.1.bel h4
      go_wp2_with fail
      refine (HI.out (rd_T26 kids (i : Int)) (by rw [HG.out.2.2]; have := sizeC kids i hlt 2 th n nm; have := HF.out.1; omega) _ _ A4 c4 (HS.out.1.step (below_alloc (Below.refl _ _) _)) HG.out.2.1 (by rw [HG.out.2.2]; exact smCs_get _ i hlt HF.out.2.2.2.2)).mono ?_
      rintro r w3 hA
      obtain rfl := hA.ret
      replace HS := Aside0.mk (hA.next (HS.out.2.step (Chg.of_below (below_alloc (Below.refl _ _) _))))
      have HE := Aside0.mk (condFs_take P kids e1 i hlt)
      clear h0 h1 h2 h3 h4 hA
      go_wp2
      go_roundw
      case rel => exact ⟨i + 1, by omega, by go_num, ⟨And.intro (HS.out.1.to (by rw [HE.out, HG.out.2.2])) HS.out.2⟩⟩
      case measure => simp [intOf]; omega
    · have e1' : decide ((i : Int) < (kids.length : Int)) = false := decide_eq_false (by omega)
      have e2' : decide (i < kids.length) = false := decide_eq_false hlt
      obtain rfl : i = kids.length := by omega
      go_wp2
      go_end0
      exact ⟨rfl, HS.out.1.to (by rw [List.take_length, HE1.out]), HS.out.2⟩
set_option maxHeartbeats 4000000 in
set_option maxRecDepth 100000 in
theorem cond_3 (w0 W : World) (q : Nat) (P : AP) (hsm : P.sm) (part st : Int) (vR : Value) (N : Nat) (ih : CondOk w0 q P part st vR N) (th n : Int) (nm : ByteArray) (kids : List TCond) (A : Option Addr) (c : Nat) (hN : SizeOf.sizeOf (S26.mk 3 th nm n kids) < N + 1)
    (h : AS w0 W q P part 0 st vR) (hC : Kd.C kCond w0 A kids.length kids) (hx : smC ⟨3, th, nm, n, kids⟩) :
    Calls Try.prog 75 #[.pointer (some ⟨q, 0, none⟩), .agg #[.int .i64 3, .int .i64 th, .string nm, .int .i64 n, .slice A kids.length c]] W (Asked w0 W q P part (condFs P (condHead P 3 th nm n kids.length 0) kids) st vR) := by
  have HF := Aside0.mk (And.intro hN (And.intro hC ((smC_def _).1 hx)))
  have HI := Aside0.mk ih
  have HM := Aside0.mk hsm
  have HQ := Aside0.mk (show ¬ W.heap.size = q from by have := h.lt; omega)
  have c11 := h.cells.2.2.2.2.2.2.2.2.2.2.2.1
  have hq := h.lt
  have HS := Aside0.mk (And.intro h (Chg.refl (fun k => k = q) W))
  have hmf : ∀ (fn : Fn) (first cap : Array Value) (w : World), (Instr.makeFunc fn first cap).run Try.prog w = .ok (.func fn first cap) w := fun _ _ _ _ => rfl
  have hmk : ∀ w, (Instr.makeMap 146 none).run Try.prog w = .ok (.map (some w.heap.size)) (w.alloc (.map #[] 0)) := fun w => run_makeMap_plain' 146 w
  have i1 : (Instr.mapUpdate 146 (.map (some (W.heap.size + 1))) (.int .i64 1) (.int .i64 0)).run Try.prog ((W.alloc (.cells #[.int .i64 3, .int .i64 th, .string nm, .int .i64 n, .slice A kids.length c] 26 (0, 0))).alloc (.map #[] 0)) = .ok () (mw1 W (.cells #[.int .i64 3, .int .i64 th, .string nm, .int .i64 n, .slice A kids.length c] 26 (0, 0))) := cins1 _ _ (mwm0 W (.cells #[.int .i64 3, .int .i64 th, .string nm, .int .i64 n, .slice A kids.length c] 26 (0, 0)))
  have i2 := cins2 _ _ (mwm1 W (.cells #[.int .i64 3, .int .i64 th, .string nm, .int .i64 n, .slice A kids.length c] 26 (0, 0)))
  have i3 := cins3 _ _ (mwm2 W (.cells #[.int .i64 3, .int .i64 th, .string nm, .int .i64 n, .slice A kids.length c] 26 (0, 0)))
  have i4 := cins4 _ _ (mwm3 W (.cells #[.int .i64 3, .int .i64 th, .string nm, .int .i64 n, .slice A kids.length c] 26 (0, 0)))
  have i5 := cins5 _ _ (mwm4 W (.cells #[.int .i64 3, .int .i64 th, .string nm, .int .i64 n, .slice A kids.length c] 26 (0, 0)))
  change _ = Result.ok () (mw2 W (.cells #[.int .i64 3, .int .i64 th, .string nm, .int .i64 n, .slice A kids.length c] 26 (0, 0))) at i2
  change _ = Result.ok () (mw3 W (.cells #[.int .i64 3, .int .i64 th, .string nm, .int .i64 n, .slice A kids.length c] 26 (0, 0))) at i3
  change _ = Result.ok () (mw4 W (.cells #[.int .i64 3, .int .i64 th, .string nm, .int .i64 n, .slice A kids.length c] 26 (0, 0))) at i4
  change _ = Result.ok () (mw5 W (.cells #[.int .i64 3, .int .i64 th, .string nm, .int .i64 n, .slice A kids.length c] 26 (0, 0))) at i5
  have i6 := clook3 _ _ (mwm5 W (.cells #[.int .i64 3, .int .i64 th, .string nm, .int .i64 n, .slice A kids.length c] 26 (0, 0)))
  have HB := Aside0.mk (mwb5 W (.cells #[.int .i64 3, .int .i64 th, .string nm, .int .i64 n, .slice A kids.length c] 26 (0, 0))).1
  have HX := Aside0.mk (mwb5 W (.cells #[.int .i64 3, .int .i64 th, .string nm, .int .i64 n, .slice A kids.length c] 26 (0, 0))).2
  have x0 := (blk_cell HX.out 0).trans rfl
  have x4 := (blk_cell HX.out 4).trans rfl
  have hz5 := mws5 W (.cells #[.int .i64 3, .int .i64 th, .string nm, .int .i64 n, .slice A kids.length c] 26 (0, 0))
  generalize mw5 W (.cells #[.int .i64 3, .int .i64 th, .string nm, .int .i64 n, .slice A kids.length c] 26 (0, 0)) = w5 at i5 i6 HB HX x0 x4 hz5
  clear hN hC hx h ih hsm
  go_enter Try.func75, Try.ntmps75
  go_wp2_with fail
  clear i1 i2 i3 i4 i5 i6 hmk x0 x4 hz5
  refine (need w0 _ q P _ _ _ _ (HS.out.1.step HB.out) _ _).mono ?_
  rintro r w1 hA
  obtain rfl := hA.ret
  replace HX := Aside0.mk (hA.chg.heap HX.out HQ.out)
  replace HS := Aside0.mk (hA.next (HS.out.2.step (Chg.of_below HB.out)))
  clear hA c11 HB
  have x0 := (blk_cell HX.out 0).trans rfl
  have x1 := (blk_cell HX.out 1).trans rfl
  have x2 := (blk_cell HX.out 2).trans rfl
  have x3 := (blk_cell HX.out 3).trans rfl
  have x4 := (blk_cell HX.out 4).trans rfl
  go_wp2_with fail
  refine (none_any w0 _ q P _ _ _ _ HS.out.1 3 th nm n A kids.length c).mono ?_
  rintro r w2 hA
  obtain rfl := hA.ret
  replace HX := Aside0.mk (hA.chg.heap HX.out HQ.out)
  replace HS := Aside0.mk (hA.next HS.out.2)
  clear hA x0 x1 x2 x3 x4
  obtain ⟨e1, he1⟩ : ∃ e1, e1 = condHead P 3 th nm n kids.length 0 := ⟨_, rfl⟩
  replace HS := Aside0.mk (And.intro (HS.out.1.to (show _ = e1 from by rw [he1]; simp [condHead, askF, okC, kidsF])) HS.out.2)
  have HE1 := Aside0.mk he1
  clear he1
  have x4 := (blk_cell HX.out 4).trans rfl
  have hlen : kids.length ≤ 1000 := HF.out.2.2.2.1
  go_wp2
  go_loopw [50] (fun v50 wr => ∃ i : Nat, i ≤ kids.length ∧ v50 = .int .i64 i ∧ Aside0 (AS w0 wr q P part (condFs P e1 (kids.take i)) st vR ∧ Chg (fun k => k = q) W wr)) (fun v50 _ => kids.length - (intOf v50).toNat)
  case atStart => exact ⟨0, Nat.zero_le _, rfl, HS⟩
  case round =>
    clear HS HX x4
    obtain ⟨i, hi, rfl, HS⟩ := hrel
    by_cases hlt : i < kids.length
    · have e1' : decide ((i : Int) < (kids.length : Int)) = true := decide_eq_true (by omega)
      have e2' : decide (i < kids.length) = true := decide_eq_true hlt
      obtain ⟨ad, A4, c4, hA, h0, h1, h2, h3, h4, hl, hk⟩ := at_T26 HF.out.2.1 (i : Int) (by omega) (by omega)
      have HG := Aside0.mk (And.intro hl (And.intro hk (rdC_eq kids i hlt)))
      clear hl hk
      subst hA
      rw [Int.toNat_natCast] at h0 h1 h2 h3 h4
      replace h0 := pw_cell_below HS.out.1.bel h0
      replace h1 := pw_cell_below HS.out.1.bel h1
      replace h2 := pw_cell_below HS.out.1.bel h2
      replace h3 := pw_cell_below HS.out.1.bel h3
      replace h4 := pw_cell_below HS.out.1.bel h4
      go_wp2_with fail
      refine (HI.out (rd_T26 kids (i : Int)) (by rw [HG.out.2.2]; have := sizeC kids i hlt 3 th n nm; have := HF.out.1; omega) _ _ A4 c4 (HS.out.1.step (below_alloc (Below.refl _ _) _)) HG.out.2.1 (by rw [HG.out.2.2]; exact smCs_get _ i hlt HF.out.2.2.2.2)).mono ?_
      rintro r w3 hA
      obtain rfl := hA.ret
      replace HS := Aside0.mk (hA.next (HS.out.2.step (Chg.of_below (below_alloc (Below.refl _ _) _))))
      have HE := Aside0.mk (condFs_take P kids e1 i hlt)
      clear h0 h1 h2 h3 h4 hA
      go_wp2
      go_roundw
      case rel => exact ⟨i + 1, by omega, by go_num, ⟨And.intro (HS.out.1.to (by rw [HE.out, HG.out.2.2])) HS.out.2⟩⟩
      case measure => simp [intOf]; omega
    · have e1' : decide ((i : Int) < (kids.length : Int)) = false := decide_eq_false (by omega)
      have e2' : decide (i < kids.length) = false := decide_eq_false hlt
      obtain rfl : i = kids.length := by omega
      go_wp2
      go_end0
      exact ⟨rfl, HS.out.1.to (by rw [List.take_length, HE1.out]), HS.out.2⟩
set_option maxHeartbeats 4000000 in
set_option maxRecDepth 100000 in
theorem cond_4 (w0 W : World) (q : Nat) (P : AP) (hsm : P.sm) (part st : Int) (vR : Value) (N : Nat) (ih : CondOk w0 q P part st vR N) (th n : Int) (nm : ByteArray) (kids : List TCond) (A : Option Addr) (c : Nat) (hN : SizeOf.sizeOf (S26.mk 4 th nm n kids) < N + 1)
    (h : AS w0 W q P part 0 st vR) (hC : Kd.C kCond w0 A kids.length kids) (hx : smC ⟨4, th, nm, n, kids⟩) :
    Calls Try.prog 75 #[.pointer (some ⟨q, 0, none⟩), .agg #[.int .i64 4, .int .i64 th, .string nm, .int .i64 n, .slice A kids.length c]] W (Asked w0 W q P part (condFs P (condHead P 4 th nm n kids.length 0) kids) st vR) := by
  have HF := Aside0.mk (And.intro hN (And.intro hC ((smC_def _).1 hx)))
  have HI := Aside0.mk ih
  have HM := Aside0.mk hsm
  have HQ := Aside0.mk (show ¬ W.heap.size = q from by have := h.lt; omega)
  have c11 := h.cells.2.2.2.2.2.2.2.2.2.2.2.1
  have hq := h.lt
  have HS := Aside0.mk (And.intro h (Chg.refl (fun k => k = q) W))
  have hmf : ∀ (fn : Fn) (first cap : Array Value) (w : World), (Instr.makeFunc fn first cap).run Try.prog w = .ok (.func fn first cap) w := fun _ _ _ _ => rfl
  have hmk : ∀ w, (Instr.makeMap 146 none).run Try.prog w = .ok (.map (some w.heap.size)) (w.alloc (.map #[] 0)) := fun w => run_makeMap_plain' 146 w
  have i1 : (Instr.mapUpdate 146 (.map (some (W.heap.size + 1))) (.int .i64 1) (.int .i64 0)).run Try.prog ((W.alloc (.cells #[.int .i64 4, .int .i64 th, .string nm, .int .i64 n, .slice A kids.length c] 26 (0, 0))).alloc (.map #[] 0)) = .ok () (mw1 W (.cells #[.int .i64 4, .int .i64 th, .string nm, .int .i64 n, .slice A kids.length c] 26 (0, 0))) := cins1 _ _ (mwm0 W (.cells #[.int .i64 4, .int .i64 th, .string nm, .int .i64 n, .slice A kids.length c] 26 (0, 0)))
  have i2 := cins2 _ _ (mwm1 W (.cells #[.int .i64 4, .int .i64 th, .string nm, .int .i64 n, .slice A kids.length c] 26 (0, 0)))
  have i3 := cins3 _ _ (mwm2 W (.cells #[.int .i64 4, .int .i64 th, .string nm, .int .i64 n, .slice A kids.length c] 26 (0, 0)))
  have i4 := cins4 _ _ (mwm3 W (.cells #[.int .i64 4, .int .i64 th, .string nm, .int .i64 n, .slice A kids.length c] 26 (0, 0)))
  have i5 := cins5 _ _ (mwm4 W (.cells #[.int .i64 4, .int .i64 th, .string nm, .int .i64 n, .slice A kids.length c] 26 (0, 0)))
  change _ = Result.ok () (mw2 W (.cells #[.int .i64 4, .int .i64 th, .string nm, .int .i64 n, .slice A kids.length c] 26 (0, 0))) at i2
  change _ = Result.ok () (mw3 W (.cells #[.int .i64 4, .int .i64 th, .string nm, .int .i64 n, .slice A kids.length c] 26 (0, 0))) at i3
  change _ = Result.ok () (mw4 W (.cells #[.int .i64 4, .int .i64 th, .string nm, .int .i64 n, .slice A kids.length c] 26 (0, 0))) at i4
  change _ = Result.ok () (mw5 W (.cells #[.int .i64 4, .int .i64 th, .string nm, .int .i64 n, .slice A kids.length c] 26 (0, 0))) at i5
  have i6 := clook4 _ _ (mwm5 W (.cells #[.int .i64 4, .int .i64 th, .string nm, .int .i64 n, .slice A kids.length c] 26 (0, 0)))
  have HB := Aside0.mk (mwb5 W (.cells #[.int .i64 4, .int .i64 th, .string nm, .int .i64 n, .slice A kids.length c] 26 (0, 0))).1
  have HX := Aside0.mk (mwb5 W (.cells #[.int .i64 4, .int .i64 th, .string nm, .int .i64 n, .slice A kids.length c] 26 (0, 0))).2
  have x0 := (blk_cell HX.out 0).trans rfl
  have x4 := (blk_cell HX.out 4).trans rfl
  have hz5 := mws5 W (.cells #[.int .i64 4, .int .i64 th, .string nm, .int .i64 n, .slice A kids.length c] 26 (0, 0))
  generalize mw5 W (.cells #[.int .i64 4, .int .i64 th, .string nm, .int .i64 n, .slice A kids.length c] 26 (0, 0)) = w5 at i5 i6 HB HX x0 x4 hz5
  clear hN hC hx h ih hsm
  go_enter Try.func75, Try.ntmps75
  go_wp2_with fail
  clear i1 i2 i3 i4 i5 i6 hmk x0 x4 hz5
  refine (need w0 _ q P _ _ _ _ (HS.out.1.step HB.out) _ _).mono ?_
  rintro r w1 hA
  obtain rfl := hA.ret
  replace HX := Aside0.mk (hA.chg.heap HX.out HQ.out)
  replace HS := Aside0.mk (hA.next (HS.out.2.step (Chg.of_below HB.out)))
  clear hA c11 HB
  have x0 := (blk_cell HX.out 0).trans rfl
  have x1 := (blk_cell HX.out 1).trans rfl
  have x2 := (blk_cell HX.out 2).trans rfl
  have x3 := (blk_cell HX.out 3).trans rfl
  have x4 := (blk_cell HX.out 4).trans rfl
  go_wp2_with fail
  refine (none_any w0 _ q P _ _ _ _ HS.out.1 4 th nm n A kids.length c).mono ?_
  rintro r w2 hA
  obtain rfl := hA.ret
  replace HX := Aside0.mk (hA.chg.heap HX.out HQ.out)
  replace HS := Aside0.mk (hA.next HS.out.2)
  clear hA x0 x1 x2 x3 x4
  obtain ⟨e1, he1⟩ : ∃ e1, e1 = condHead P 4 th nm n kids.length 0 := ⟨_, rfl⟩
  replace HS := Aside0.mk (And.intro (HS.out.1.to (show _ = e1 from by rw [he1]; simp [condHead, askF, okC, kidsF])) HS.out.2)
  have HE1 := Aside0.mk he1
  clear he1
  have x4 := (blk_cell HX.out 4).trans rfl
  have hlen : kids.length ≤ 1000 := HF.out.2.2.2.1
  go_wp2
  go_loopw [50] (fun v50 wr => ∃ i : Nat, i ≤ kids.length ∧ v50 = .int .i64 i ∧ Aside0 (AS w0 wr q P part (condFs P e1 (kids.take i)) st vR ∧ Chg (fun k => k = q) W wr)) (fun v50 _ => kids.length - (intOf v50).toNat)
  case atStart => exact ⟨0, Nat.zero_le _, rfl, HS⟩
  case round =>
    clear HS HX x4
    obtain ⟨i, hi, rfl, HS⟩ := hrel
    by_cases hlt : i < kids.length
    · have e1' : decide ((i : Int) < (kids.length : Int)) = true := decide_eq_true (by omega)
      have e2' : decide (i < kids.length) = true := decide_eq_true hlt
      obtain ⟨ad, A4, c4, hA, h0, h1, h2, h3, h4, hl, hk⟩ := at_T26 HF.out.2.1 (i : Int) (by omega) (by omega)
      have HG := Aside0.mk (And.intro hl (And.intro hk (rdC_eq kids i hlt)))
      clear hl hk
      subst hA
      rw [Int.toNat_natCast] at h0 h1 h2 h3 h4
      replace h0 := pw_cell_below HS.out.1.bel h0
      replace h1 := pw_cell_below HS.out.1.bel h1
      replace h2 := pw_cell_below HS.out.1.bel h2
      replace h3 := pw_cell_below HS.out.1.bel h3
      replace h4 := pw_cell_below HS.out.1.bel h4
      go_wp2_with fail
      refine (HI.out (rd_T26 kids (i : Int)) (by rw [HG.out.2.2]; have := sizeC kids i hlt 4 th n nm; have := HF.out.1; omega) _ _ A4 c4 (HS.out.1.step (below_alloc (Below.refl _ _) _)) HG.out.2.1 (by rw [HG.out.2.2]; exact smCs_get _ i hlt HF.out.2.2.2.2)).mono ?_
      rintro r w3 hA
      obtain rfl := hA.ret
      replace HS := Aside0.mk (hA.next (HS.out.2.step (Chg.of_below (below_alloc (Below.refl _ _) _))))
      have HE := Aside0.mk (condFs_take P kids e1 i hlt)
      clear h0 h1 h2 h3 h4 hA
      go_wp2
      go_roundw
      case rel => exact ⟨i + 1, by omega, by go_num, ⟨And.intro (HS.out.1.to (by rw [HE.out, HG.out.2.2])) HS.out.2⟩⟩
      case measure => simp [intOf]; omega
    · have e1' : decide ((i : Int) < (kids.length : Int)) = false := decide_eq_false (by omega)
      have e2' : decide (i < kids.length) = false := decide_eq_false hlt
      obtain rfl : i = kids.length := by omega
      go_wp2
      go_end0
      exact ⟨rfl, HS.out.1.to (by rw [List.take_length, HE1.out]), HS.out.2⟩
set_option maxHeartbeats 4000000 in
set_option maxRecDepth 100000 in
theorem cond_5 (w0 W : World) (q : Nat) (P : AP) (hsm : P.sm) (part st : Int) (vR : Value) (N : Nat) (ih : CondOk w0 q P part st vR N) (th n : Int) (nm : ByteArray) (kids : List TCond) (A : Option Addr) (c : Nat) (hN : SizeOf.sizeOf (S26.mk 5 th nm n kids) < N + 1)
    (h : AS w0 W q P part 0 st vR) (hC : Kd.C kCond w0 A kids.length kids) (hx : smC ⟨5, th, nm, n, kids⟩) :
    Calls Try.prog 75 #[.pointer (some ⟨q, 0, none⟩), .agg #[.int .i64 5, .int .i64 th, .string nm, .int .i64 n, .slice A kids.length c]] W (Asked w0 W q P part (condFs P (condHead P 5 th nm n kids.length 0) kids) st vR) := by
  have HF := Aside0.mk (And.intro hN (And.intro hC ((smC_def _).1 hx)))
  have HI := Aside0.mk ih
  have HM := Aside0.mk hsm
  have HQ := Aside0.mk (show ¬ W.heap.size = q from by have := h.lt; omega)
  have c11 := h.cells.2.2.2.2.2.2.2.2.2.2.2.1
  have hq := h.lt
  have HS := Aside0.mk (And.intro h (Chg.refl (fun k => k = q) W))
  have hmf : ∀ (fn : Fn) (first cap : Array Value) (w : World), (Instr.makeFunc fn first cap).run Try.prog w = .ok (.func fn first cap) w := fun _ _ _ _ => rfl
  have hmk : ∀ w, (Instr.makeMap 146 none).run Try.prog w = .ok (.map (some w.heap.size)) (w.alloc (.map #[] 0)) := fun w => run_makeMap_plain' 146 w
  have i1 : (Instr.mapUpdate 146 (.map (some (W.heap.size + 1))) (.int .i64 1) (.int .i64 0)).run Try.prog ((W.alloc (.cells #[.int .i64 5, .int .i64 th, .string nm, .int .i64 n, .slice A kids.length c] 26 (0, 0))).alloc (.map #[] 0)) = .ok () (mw1 W (.cells #[.int .i64 5, .int .i64 th, .string nm, .int .i64 n, .slice A kids.length c] 26 (0, 0))) := cins1 _ _ (mwm0 W (.cells #[.int .i64 5, .int .i64 th, .string nm, .int .i64 n, .slice A kids.length c] 26 (0, 0)))
  have i2 := cins2 _ _ (mwm1 W (.cells #[.int .i64 5, .int .i64 th, .string nm, .int .i64 n, .slice A kids.length c] 26 (0, 0)))
  have i3 := cins3 _ _ (mwm2 W (.cells #[.int .i64 5, .int .i64 th, .string nm, .int .i64 n, .slice A kids.length c] 26 (0, 0)))
  have i4 := cins4 _ _ (mwm3 W (.cells #[.int .i64 5, .int .i64 th, .string nm, .int .i64 n, .slice A kids.length c] 26 (0, 0)))
  have i5 := cins5 _ _ (mwm4 W (.cells #[.int .i64 5, .int .i64 th, .string nm, .int .i64 n, .slice A kids.length c] 26 (0, 0)))
  change _ = Result.ok () (mw2 W (.cells #[.int .i64 5, .int .i64 th, .string nm, .int .i64 n, .slice A kids.length c] 26 (0, 0))) at i2
  change _ = Result.ok () (mw3 W (.cells #[.int .i64 5, .int .i64 th, .string nm, .int .i64 n, .slice A kids.length c] 26 (0, 0))) at i3
  change _ = Result.ok () (mw4 W (.cells #[.int .i64 5, .int .i64 th, .string nm, .int .i64 n, .slice A kids.length c] 26 (0, 0))) at i4
  change _ = Result.ok () (mw5 W (.cells #[.int .i64 5, .int .i64 th, .string nm, .int .i64 n, .slice A kids.length c] 26 (0, 0))) at i5
  have i6 := clook5 _ _ (mwm5 W (.cells #[.int .i64 5, .int .i64 th, .string nm, .int .i64 n, .slice A kids.length c] 26 (0, 0)))
  have HB := Aside0.mk (mwb5 W (.cells #[.int .i64 5, .int .i64 th, .string nm, .int .i64 n, .slice A kids.length c] 26 (0, 0))).1
  have HX := Aside0.mk (mwb5 W (.cells #[.int .i64 5, .int .i64 th, .string nm, .int .i64 n, .slice A kids.length c] 26 (0, 0))).2
  have x0 := (blk_cell HX.out 0).trans rfl
  have x4 := (blk_cell HX.out 4).trans rfl
  have hz5 := mws5 W (.cells #[.int .i64 5, .int .i64 th, .string nm, .int .i64 n, .slice A kids.length c] 26 (0, 0))
  generalize mw5 W (.cells #[.int .i64 5, .int .i64 th, .string nm, .int .i64 n, .slice A kids.length c] 26 (0, 0)) = w5 at i5 i6 HB HX x0 x4 hz5
  clear hN hC hx h ih hsm
  go_enter Try.func75, Try.ntmps75
  go_wp2_with fail
  clear i1 i2 i3 i4 i5 i6 hmk x0 x4 hz5
  refine (need w0 _ q P _ _ _ _ (HS.out.1.step HB.out) _ _).mono ?_
  rintro r w1 hA
  obtain rfl := hA.ret
  replace HX := Aside0.mk (hA.chg.heap HX.out HQ.out)
  replace HS := Aside0.mk (hA.next (HS.out.2.step (Chg.of_below HB.out)))
  clear hA c11 HB
  have x0 := (blk_cell HX.out 0).trans rfl
  have x1 := (blk_cell HX.out 1).trans rfl
  have x2 := (blk_cell HX.out 2).trans rfl
  have x3 := (blk_cell HX.out 3).trans rfl
  have x4 := (blk_cell HX.out 4).trans rfl
  go_wp2_with fail
  refine (none_any w0 _ q P _ _ _ _ HS.out.1 5 th nm n A kids.length c).mono ?_
  rintro r w2 hA
  obtain rfl := hA.ret
  replace HX := Aside0.mk (hA.chg.heap HX.out HQ.out)
  replace HS := Aside0.mk (hA.next HS.out.2)
  clear hA x0 x1 x2 x3 x4
  obtain ⟨e1, he1⟩ : ∃ e1, e1 = condHead P 5 th nm n kids.length 0 := ⟨_, rfl⟩
  replace HS := Aside0.mk (And.intro (HS.out.1.to (show _ = e1 from by rw [he1]; simp [condHead, askF, okC, kidsF])) HS.out.2)
  have HE1 := Aside0.mk he1
  clear he1
  have x4 := (blk_cell HX.out 4).trans rfl
  have hlen : kids.length ≤ 1000 := HF.out.2.2.2.1
  go_wp2
  go_loopw [50] (fun v50 wr => ∃ i : Nat, i ≤ kids.length ∧ v50 = .int .i64 i ∧ Aside0 (AS w0 wr q P part (condFs P e1 (kids.take i)) st vR ∧ Chg (fun k => k = q) W wr)) (fun v50 _ => kids.length - (intOf v50).toNat)
  case atStart => exact ⟨0, Nat.zero_le _, rfl, HS⟩
  case round =>
    clear HS HX x4
    obtain ⟨i, hi, rfl, HS⟩ := hrel
    by_cases hlt : i < kids.length
    · have e1' : decide ((i : Int) < (kids.length : Int)) = true := decide_eq_true (by omega)
      have e2' : decide (i < kids.length) = true := decide_eq_true hlt
      obtain ⟨ad, A4, c4, hA, h0, h1, h2, h3, h4, hl, hk⟩ := at_T26 HF.out.2.1 (i : Int) (by omega) (by omega)
      have HG := Aside0.mk (And.intro hl (And.intro hk (rdC_eq kids i hlt)))
      clear hl hk
      subst hA
      rw [Int.toNat_natCast] at h0 h1 h2 h3 h4
      replace h0 := pw_cell_below HS.out.1.bel h0
      replace h1 := pw_cell_below HS.out.1.bel h1
      replace h2 := pw_cell_below HS.out.1.bel h2
      replace h3 := pw_cell_below HS.out.1.bel h3
      replace h4 := pw_cell_below HS.out.1.bel h4
      go_wp2_with fail
      refine (HI.out (rd_T26 kids (i : Int)) (by rw [HG.out.2.2]; have := sizeC kids i hlt 5 th n nm; have := HF.out.1; omega) _ _ A4 c4 (HS.out.1.step (below_alloc (Below.refl _ _) _)) HG.out.2.1 (by rw [HG.out.2.2]; exact smCs_get _ i hlt HF.out.2.2.2.2)).mono ?_
      rintro r w3 hA
      obtain rfl := hA.ret
      replace HS := Aside0.mk (hA.next (HS.out.2.step (Chg.of_below (below_alloc (Below.refl _ _) _))))
      have HE := Aside0.mk (condFs_take P kids e1 i hlt)
      clear h0 h1 h2 h3 h4 hA
      go_wp2
      go_roundw
      case rel => exact ⟨i + 1, by omega, by go_num, ⟨And.intro (HS.out.1.to (by rw [HE.out, HG.out.2.2])) HS.out.2⟩⟩
      case measure => simp [intOf]; omega
    · have e1' : decide ((i : Int) < (kids.length : Int)) = false := decide_eq_false (by omega)
      have e2' : decide (i < kids.length) = false := decide_eq_false hlt
      obtain rfl : i = kids.length := by omega
      go_wp2
      go_end0
      exact ⟨rfl, HS.out.1.to (by rw [List.take_length, HE1.out]), HS.out.2⟩
set_option maxHeartbeats 4000000 in
set_option maxRecDepth 100000 in
theorem cond_0 (w0 W : World) (q : Nat) (P : AP) (hsm : P.sm) (part st : Int) (vR : Value) (N : Nat) (ih : CondOk w0 q P part st vR N) (op : Int) (th n : Int) (nm : ByteArray) (kids : List TCond) (A : Option Addr) (c : Nat) (h1 : op ≠ 1) (h2 : op ≠ 2) (h3 : op ≠ 3) (h4 : op ≠ 4) (h5 : op ≠ 5) (hN : SizeOf.sizeOf (S26.mk op th nm n kids) < N + 1)
    (h : AS w0 W q P part 0 st vR) (hC : Kd.C kCond w0 A kids.length kids) (hx : smC ⟨op, th, nm, n, kids⟩) :
    Calls Try.prog 75 #[.pointer (some ⟨q, 0, none⟩), .agg #[.int .i64 op, .int .i64 th, .string nm, .int .i64 n, .slice A kids.length c]] W (Asked w0 W q P part (condFs P (condHead P op th nm n kids.length 0) kids) st vR) := by
  have HF := Aside0.mk (And.intro hN (And.intro hC ((smC_def _).1 hx)))
  have HI := Aside0.mk ih
  have HM := Aside0.mk hsm
  have HQ := Aside0.mk (show ¬ W.heap.size = q from by have := h.lt; omega)
  have c11 := h.cells.2.2.2.2.2.2.2.2.2.2.2.1
  have hq := h.lt
  have HS := Aside0.mk (And.intro h (Chg.refl (fun k => k = q) W))
  have g1 : (op == 1) = false := beq_eq_false_iff_ne.2 h1
  have g2 : (op == 2) = false := beq_eq_false_iff_ne.2 h2
  have HO := Aside0.mk (And.intro h1 (And.intro h2 (And.intro h3 (And.intro h4 h5))))
  have hmf : ∀ (fn : Fn) (first cap : Array Value) (w : World), (Instr.makeFunc fn first cap).run Try.prog w = .ok (.func fn first cap) w := fun _ _ _ _ => rfl
  have hmk : ∀ w, (Instr.makeMap 146 none).run Try.prog w = .ok (.map (some w.heap.size)) (w.alloc (.map #[] 0)) := fun w => run_makeMap_plain' 146 w
  have i1 : (Instr.mapUpdate 146 (.map (some (W.heap.size + 1))) (.int .i64 1) (.int .i64 0)).run Try.prog ((W.alloc (.cells #[.int .i64 op, .int .i64 th, .string nm, .int .i64 n, .slice A kids.length c] 26 (0, 0))).alloc (.map #[] 0)) = .ok () (mw1 W (.cells #[.int .i64 op, .int .i64 th, .string nm, .int .i64 n, .slice A kids.length c] 26 (0, 0))) := cins1 _ _ (mwm0 W (.cells #[.int .i64 op, .int .i64 th, .string nm, .int .i64 n, .slice A kids.length c] 26 (0, 0)))
  have i2 := cins2 _ _ (mwm1 W (.cells #[.int .i64 op, .int .i64 th, .string nm, .int .i64 n, .slice A kids.length c] 26 (0, 0)))
  have i3 := cins3 _ _ (mwm2 W (.cells #[.int .i64 op, .int .i64 th, .string nm, .int .i64 n, .slice A kids.length c] 26 (0, 0)))
  have i4 := cins4 _ _ (mwm3 W (.cells #[.int .i64 op, .int .i64 th, .string nm, .int .i64 n, .slice A kids.length c] 26 (0, 0)))
  have i5 := cins5 _ _ (mwm4 W (.cells #[.int .i64 op, .int .i64 th, .string nm, .int .i64 n, .slice A kids.length c] 26 (0, 0)))
  change _ = Result.ok () (mw2 W (.cells #[.int .i64 op, .int .i64 th, .string nm, .int .i64 n, .slice A kids.length c] 26 (0, 0))) at i2
  change _ = Result.ok () (mw3 W (.cells #[.int .i64 op, .int .i64 th, .string nm, .int .i64 n, .slice A kids.length c] 26 (0, 0))) at i3
  change _ = Result.ok () (mw4 W (.cells #[.int .i64 op, .int .i64 th, .string nm, .int .i64 n, .slice A kids.length c] 26 (0, 0))) at i4
  change _ = Result.ok () (mw5 W (.cells #[.int .i64 op, .int .i64 th, .string nm, .int .i64 n, .slice A kids.length c] 26 (0, 0))) at i5
  have i6 := clook0 _ _ op h1 h2 h3 h4 h5 (mwm5 W (.cells #[.int .i64 op, .int .i64 th, .string nm, .int .i64 n, .slice A kids.length c] 26 (0, 0)))
  have HB := Aside0.mk (mwb5 W (.cells #[.int .i64 op, .int .i64 th, .string nm, .int .i64 n, .slice A kids.length c] 26 (0, 0))).1
  have HX := Aside0.mk (mwb5 W (.cells #[.int .i64 op, .int .i64 th, .string nm, .int .i64 n, .slice A kids.length c] 26 (0, 0))).2
  have x0 := (blk_cell HX.out 0).trans rfl
  have x4 := (blk_cell HX.out 4).trans rfl
  have hz5 := mws5 W (.cells #[.int .i64 op, .int .i64 th, .string nm, .int .i64 n, .slice A kids.length c] 26 (0, 0))
  generalize mw5 W (.cells #[.int .i64 op, .int .i64 th, .string nm, .int .i64 n, .slice A kids.length c] 26 (0, 0)) = w5 at i5 i6 HB HX x0 x4 hz5
  clear hN hC hx h ih hsm h1 h2 h3 h4 h5
  go_enter Try.func75, Try.ntmps75
  go_wp2_with fail
  clear i1 i2 i3 i4 i5 i6 hmk x0 x4 hz5
  refine (need w0 _ q P _ _ _ _ (HS.out.1.step HB.out) _ _).mono ?_
  rintro r w1 hA
  obtain rfl := hA.ret
  replace HX := Aside0.mk (hA.chg.heap HX.out HQ.out)
  replace HS := Aside0.mk (hA.next (HS.out.2.step (Chg.of_below HB.out)))
  clear hA c11 HB
  have x0 := (blk_cell HX.out 0).trans rfl
  have x1 := (blk_cell HX.out 1).trans rfl
  have x2 := (blk_cell HX.out 2).trans rfl
  have x3 := (blk_cell HX.out 3).trans rfl
  have x4 := (blk_cell HX.out 4).trans rfl
  go_wp2_with fail
  refine (none_any w0 _ q P _ _ _ _ HS.out.1 op th nm n A kids.length c).mono ?_
  rintro r w2 hA
  obtain rfl := hA.ret
  replace HX := Aside0.mk (hA.chg.heap HX.out HQ.out)
  replace HS := Aside0.mk (hA.next HS.out.2)
  clear hA x0 x1 x2 x3 x4
  obtain ⟨e1, he1⟩ : ∃ e1, e1 = condHead P op th nm n kids.length 0 := ⟨_, rfl⟩
  replace HS := Aside0.mk (And.intro (HS.out.1.to (show _ = e1 from by rw [he1]; simp [condHead, askF, okC_no op HO.out, HO.out.1, HO.out.2.1])) HS.out.2)
  have HE1 := Aside0.mk he1
  clear he1
  have x4 := (blk_cell HX.out 4).trans rfl
  have hlen : kids.length ≤ 1000 := HF.out.2.2.2.1
  go_wp2
  go_loopw [50] (fun v50 wr => ∃ i : Nat, i ≤ kids.length ∧ v50 = .int .i64 i ∧ Aside0 (AS w0 wr q P part (condFs P e1 (kids.take i)) st vR ∧ Chg (fun k => k = q) W wr)) (fun v50 _ => kids.length - (intOf v50).toNat)
  case atStart => exact ⟨0, Nat.zero_le _, rfl, HS⟩
  case round =>
    clear HS HX x4
    obtain ⟨i, hi, rfl, HS⟩ := hrel
    by_cases hlt : i < kids.length
    · have e1' : decide ((i : Int) < (kids.length : Int)) = true := decide_eq_true (by omega)
      have e2' : decide (i < kids.length) = true := decide_eq_true hlt
      obtain ⟨ad, A4, c4, hA, h0, h1, h2, h3, h4, hl, hk⟩ := at_T26 HF.out.2.1 (i : Int) (by omega) (by omega)
      have HG := Aside0.mk (And.intro hl (And.intro hk (rdC_eq kids i hlt)))
      clear hl hk
      subst hA
      rw [Int.toNat_natCast] at h0 h1 h2 h3 h4
      replace h0 := pw_cell_below HS.out.1.bel h0
      replace h1 := pw_cell_below HS.out.1.bel h1
      replace h2 := pw_cell_below HS.out.1.bel h2
      replace h3 := pw_cell_below HS.out.1.bel h3
      replace h4 := pw_cell_below HS.out.1.bel h4
      go_wp2_with fail
      refine (HI.out (rd_T26 kids (i : Int)) (by rw [HG.out.2.2]; have := sizeC kids i hlt op th n nm; have := HF.out.1; omega) _ _ A4 c4 (HS.out.1.step (below_alloc (Below.refl _ _) _)) HG.out.2.1 (by rw [HG.out.2.2]; exact smCs_get _ i hlt HF.out.2.2.2.2)).mono ?_
      rintro r w3 hA
      obtain rfl := hA.ret
      replace HS := Aside0.mk (hA.next (HS.out.2.step (Chg.of_below (below_alloc (Below.refl _ _) _))))
      have HE := Aside0.mk (condFs_take P kids e1 i hlt)
      clear h0 h1 h2 h3 h4 hA
      go_wp2
      go_roundw
      case rel => exact ⟨i + 1, by omega, by go_num, ⟨And.intro (HS.out.1.to (by rw [HE.out, HG.out.2.2])) HS.out.2⟩⟩
      case measure => simp [intOf]; omega
    · have e1' : decide ((i : Int) < (kids.length : Int)) = false := decide_eq_false (by omega)
      have e2' : decide (i < kids.length) = false := decide_eq_false hlt
      obtain rfl : i = kids.length := by omega
      go_wp2
      go_end0
      exact ⟨rfl, HS.out.1.to (by rw [List.take_length, HE1.out]), HS.out.2⟩
theorem cond_any (w0 : World) (q : Nat) (P : AP) (hsm : P.sm) (part st : Int) (vR : Value) : ∀ N, CondOk w0 q P part st vR N
  | 0 => fun x hx => by omega
  | N + 1 => by
    have ih := cond_any w0 q P hsm part st vR N
    rintro ⟨op, th, nm, n, kids⟩ hN W e A c h hC hx
    by_cases he : e = 0
    · subst he
      rw [condF, if_pos rfl]
      by_cases o1 : op = 1
      · subst o1; exact cond_1 w0 W q P hsm part st vR N ih th n nm kids A c hN h hC hx
      by_cases o2 : op = 2
      · subst o2; exact cond_2 w0 W q P hsm part st vR N ih th n nm kids A c hN h hC hx
      by_cases o3 : op = 3
      · subst o3; exact cond_3 w0 W q P hsm part st vR N ih th n nm kids A c hN h hC hx
      by_cases o4 : op = 4
      · subst o4; exact cond_4 w0 W q P hsm part st vR N ih th n nm kids A c hN h hC hx
      by_cases o5 : op = 5
      · subst o5; exact cond_5 w0 W q P hsm part st vR N ih th n nm kids A c hN h hC hx
      exact cond_0 w0 W q P hsm part st vR N ih op th n nm kids A c o1 o2 o3 o4 o5 hN h hC hx
    · rw [condF, if_neg he]
      have HS := Aside0.mk (And.intro h (Chg.refl (fun k => k = q) W))
      have c11 := h.cells.2.2.2.2.2.2.2.2.2.2.2.1
      have e1 : (e == 0) = false := beq_eq_false_iff_ne.2 he
      have e2 : (e != 0) = true := by simpa using he
      have hq := h.lt
      clear ih hN h hC hx he
      go_enter Try.func75, Try.ntmps75
      go_wp2
      go_end0
      exact ⟨rfl, HS.out.1.step (below_alloc (Below.refl _ _) _), HS.out.2.step (Chg.of_below (below_alloc (Below.refl _ _) _))⟩
end Go.Proofs.Ytlhbnbckanmaiaa.K
namespace Go.Proofs.Ytlhbnbckanmaiaa.K
open Go Go.RowKit Go.Proofs.YtlhbnbckanmaiaaW.PrintWords Go.Proofs.YtlhbnbckanmaiaaW.PrintLast Go.Proofs.YtlhbnbckanmaiaaW.PrintMore Go.Proofs.Ytlhbnbckanmaiaa.PC1
set_option linter.unusedVariables false
set_option linter.unusedSimpArgs false
def ClonedS (W : World) (xs : List ByteArray) (e : Ending) (W' : World) : Prop := ∃ v, e = .returned v ∧ W'.ownsRow W.heap.size 9 1 v xs.length (rowS xs) ∧ Below W.heap.size W W'
theorem lit0S (W : World) : Kd.R Kd.string 9 (W.alloc (.cells #[] 9 (0, 0))) W.heap.size (fun _ => True) (.slice (some ⟨W.heap.size, 0, none⟩) 0 0) [] :=
  Kd.R_of_own (h1 := fun _ => rfl) ⟨rfl, .inr ⟨W.heap.size, 0, #[], rfl, Nat.le_refl _, heap_alloc_new W _, Nat.le_refl _, by decide, rfl, rfl⟩⟩ (fun _ _ => trivial)
set_option maxHeartbeats 4000000 in
set_option maxRecDepth 100000 in
theorem cloneS (W : World) (A : Option Addr) (c : Nat) (xs : List ByteArray) (h : Kd.C Kd.string W A xs.length xs) (hn : xs.length ≤ 1000) :
    Calls Try.prog 96 #[.slice A xs.length c] W (ClonedS W xs) := by
  have qT : ∀ (w : World) (a : Option Addr) (n c n' c' : Nat), (binOp .eql 37 (.slice a n c) (.slice none n' c')).run Try.prog w = .ok (.bool a.isNone) w := fun w a n c n' c' => Lib.run_eql_slice_nil w _ _ a n c n' c' Try.underlying37
  have HX := Aside0.mk hn
  have HC := Aside0.mk h
  clear h hn
  cases A with
  | none =>
    have h0 : xs = [] := by
      obtain ⟨h1, h2, h3⟩ := HC.out
      cases xs with
      | nil => rfl
      | cons x t => obtain ⟨ad, e, _⟩ := h3 (by simp); cases e
    subst h0
    go_enter Try.func96, Try.ntmps96
    go_wp2
    go_ret
    exact ⟨_, rfl, ⟨rfl, .inl ⟨rfl, rfl⟩⟩, Below.refl _ _⟩
  | some ad =>
    go_enter Try.func96, Try.ntmps96
    go_wp2_with (first | (at_builtin; refine Kd.R_append_rows Kd.string (w0 := W) W.heap.size rfl (.tmp 5) (.tmp 6) 37 9 (.string ⟨#[]⟩) 16 rfl Try.underlying37 infoStr rfl (by decide) (by omega) (.slice (some ⟨W.heap.size, 0, none⟩) 0 0) [] xs _ _ _ (fun _ => True) (fun _ => False) rfl rfl (lit0S W) ?aR (fun _ _ h => h) (fun _ h => h.elim) (fun _ _ => trivial) (below_alloc (Below.refl _ _) _) (by simp) (by have := HX.out; simp; omega) ?_; (case aR => exact Kd.C_below HC.out (below_alloc (Below.refl _ _) _)); intro v1 w1 h1 h2 _ _; rw [List.nil_append] at h1; obtain ⟨A1, c1, rfl, _⟩ := Kd.R_reads h1; have HR := Aside0.mk h1; have HB := Aside0.mk h2; clear h1 h2))
    go_ret
    exact ⟨_, rfl, Kd.own_of_R HR.out, HB.out⟩
/-- The registers that were set so far, as they lie in the asker. -/
def RegsAt (q : Nat) (W : World) (v : Value) (xs : List ByteArray) : Prop := ∃ A c, v = .slice A xs.length c ∧ xs.length ≤ c ∧ Far q W (fun W => Kd.C Kd.string W A xs.length xs)
theorem RegsAt.step {q : Nat} {W W1 : World} {v : Value} {xs : List ByteArray} (h : RegsAt q W v xs) (c : Chg (fun k => k = q) W W1) : RegsAt q W1 v xs := by
  obtain ⟨A, cc, h1, h2, h3⟩ := h
  exact ⟨A, cc, h1, h2, h3.step c⟩
theorem RegsAt.of_own {q base : Nat} {W : World} {v : Value} {xs : List ByteArray} (h : W.ownsRow base 9 1 v xs.length (rowS xs)) (hq : q < base) : RegsAt q W v xs := by
  obtain ⟨A, c, h1, h2, -⟩ := rowS_slice h
  refine ⟨A, c, h1, h2, fun W' hc => ?_⟩
  have h3 := own_move h (w1 := W') (fun k hk => hc.block k (h.lt k hk).2 (by have := (h.lt k hk).1; omega))
  obtain ⟨A', c', h4, _, h5⟩ := rowS_slice h3
  rw [h1] at h4
  injection h4 with h6 _ _
  rw [h6]; exact h5
theorem RegsAt.nil (q : Nat) (W : World) : RegsAt q W (.slice none 0 0) [] := by
  refine ⟨none, 0, rfl, Nat.le_refl _, fun W' _ => ?_⟩
  obtain ⟨A, c, he, _, hC⟩ := Kd.R_reads (Kd.R_nil Kd.string 9 W' 0 (fun _ => True))
  injection he with h1 h2 h3
  rw [h1]; exact hC
/-! ### what a statement comes to -/
def argsE (vals : Int) (known : List ByteArray) (e : Int) : List TExpr → Int
  | [] => e
  | x :: xs => argsE vals known (exprF vals known (needE (decide (depE 7 x ≤ 6)) 3 e) x) xs
theorem argsE_snoc (vals : Int) (known : List ByteArray) : ∀ (l : List TExpr) (e : Int) (x : TExpr), argsE vals known e (l ++ [x]) = exprF vals known (needE (decide (depE 7 x ≤ 6)) 3 (argsE vals known e l)) x
  | [], e, x => by rw [List.nil_append, argsE, argsE, argsE]
  | y :: ys, e, x => by rw [List.cons_append, argsE, argsE, argsE_snoc]
theorem argsE_take (vals : Int) (known : List ByteArray) (l : List TExpr) (e : Int) (i : Nat) (hi : i < l.length) : argsE vals known e (l.take (i + 1)) = exprF vals known (needE (decide (depE 7 l[i] ≤ 6)) 3 (argsE vals known e (l.take i))) l[i] := by
  rw [List.take_succ_eq_append_getElem hi, argsE_snoc]
def st1 (st deep : Int) (e : Int) : Int := needE (decide (st ≤ 16) && decide (deep ≤ 6)) 3 e
def st2 (k m : Int) (al : Nat) (e : Int) : Int := needE (okF k && hasI (modesF k) m && ((al : Int) == argsF k)) 1 e
def st3 (k : Int) (tl el : Nat) (e : Int) : Int := needE (bodyF k || (decide (tl = 0) && ((el : Int) == 0))) 1 e
def addR (regs : List ByteArray) (r : ByteArray) : List ByteArray := if hasB regs r = true then regs else regs ++ [r]
def regsOf (k : Int) (regs : List ByteArray) (r : ByteArray) : List ByteArray := if regF k = true then addR regs r else regs
def st4 (P : AP) (k : Int) (regs : List ByteArray) (r : ByteArray) (e : Int) : Int := if regF k = true then needE (decide (((addR regs r).length : Int) ≤ 4)) 3 (needE (nameB r && !(locB P.init r)) 4 e) else needE (r.toList.isEmpty) 1 e
def st5 (P : AP) (k : Int) (l : ByteArray) (e : Int) : Int := if locF k = true then needE (locB P.init l) 4 e else needE (l.toList.isEmpty) 1 e
def stmtE (P : AP) (st deep : Int) (regs : List ByteArray) (s : TStmt) (e : Int) : Int :=
  argsE P.vals regs (st5 P s.f0 s.f3 (st4 P s.f0 regs s.f2 (st3 s.f0 s.f5.length s.f6.length (st2 s.f0 s.f1 s.f4.length (st1 st deep e))))) s.f4
end Go.Proofs.Ytlhbnbckanmaiaa.K
