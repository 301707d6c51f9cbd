/- A text of a claim (ours): the maker of programs: a program of any kind; conditions: none of ours. -/
import Derived.Test.YtlhbnbckanmaiaaM9T
namespace Go.Proofs.Ytlhbnbckanmaiaa.K
open Go Go.RowKit Go.Proofs.YtlhbnbckanmaiaaW.PrintWords Go.Proofs.YtlhbnbckanmaiaaW.PrintLast Go.Proofs.YtlhbnbckanmaiaaW.PrintMore Go.Proofs.Ytlhbnbckanmaiaa.PC1
set_option linter.unusedVariables false
set_option linter.unusedSimpArgs false
/-- What Maker.prog gives. -/
def ProgPost (w0 w : World) (m : Nat) (vals : Int) (nl nt : Nat) (e : Ending) (w' : World) : Prop :=
  ∃ (vI vT : Value) (inits : List TCell) (ths : List (List TStmt)) (RS : List (List ByteArray)) (ask : Int) (x : TCond) (A : Option Addr) (c : Nat),
    e = .returned (.agg #[.string madeB, .int .i64 vals, vI, vT, .int .i64 ask, .int .i64 x.f0, .int .i64 x.f1, .string x.f2, .int .i64 x.f3, .slice A x.f4.length c]) ∧
    Kd.R kCell 51 w' w.heap.size (fun k => w.heap.size ≤ k) vI inits ∧ Kd.N kThr0 35 w' w.heap.size (fun k => w.heap.size ≤ k ∧ some k ≠ vI.ownBlock) vT ths ∧ x.f4.length ≤ c ∧ Kd.F kCond w' (fun k => w.heap.size ≤ k ∧ some k ≠ vI.ownBlock ∧ some k ≠ vT.ownBlock) A x.f4.length x.f4 ∧
    (ask = 1 ∨ ask = 2) ∧ inits.map (fun c => c.f0) = loc4.take nl ∧ (∀ y ∈ inits, 0 ≤ y.f1 ∧ y.f1 < vals) ∧ ths.length = nt ∧ RS.length = nt ∧ (∀ (t : Nat) (l : List TStmt) (R : List ByteArray), ths[t]? = some l → RS[t]? = some R → gdB vals nl 1 [] l R ∧ l.length ≤ 4) ∧ gdC vals nl RS 2 x ∧ MS w0 w' m ∧ Chg (fun k => k = m) w w'
set_option maxHeartbeats 8000000 in
set_option maxRecDepth 100000 in
theorem prog_any (w0 w : World) (m : Nat) (hM : MS w0 w m) (vals : Int) (nl nt : Nat) (hv2 : 2 ≤ vals) (hv100 : vals ≤ 100) (hn1 : 1 ≤ nl) (hn4 : nl ≤ 4) (ht1 : 1 ≤ nt) (ht4 : nt ≤ 4) :
    Calls Try.prog 38 #[.pointer (some ⟨m, 0, none⟩), .agg #[.int .i64 vals, .int .i64 nl, .bool false, .bool false], .int .i64 nt, .int .i64 4, .int .i64 1] w (ProgPost w0 w m vals nl nt) := by
  have hmw := hM.lt
  have hbm : ¬ w.heap.size = m := by omega
  have hrm : ¬ w.heap.size + 1 = m := by omega
  have HM := Aside0.mk hM
  clear hM
  go_enter Try.func38, Try.ntmps38
  go_upto_region 1 with fail
  have hb1 : Below w.heap.size w ((w.alloc (.cells #[.int .i64 vals, .int .i64 nl, .bool false, .bool false] 94 (0, 0))).alloc zPrg) := below_al (below_al (Below.refl _ _) _) _
  have HA := Aside0.mk (And.intro (HM.out.step hb1) (And.intro (show ((w.alloc (.cells #[.int .i64 vals, .int .i64 nl, .bool false, .bool false] 94 (0, 0))).alloc zPrg).heap[w.heap.size]? = some (.cells #[.int .i64 vals, .int .i64 nl, .bool false, .bool false] 94 (0, 0)) from blk_alloc (blk_new _ _) _) (And.intro (show ((w.alloc (.cells #[.int .i64 vals, .int .i64 nl, .bool false, .bool false] 94 (0, 0))).alloc zPrg).heap[w.heap.size + 1]? = some zPrg from alloc_at _ _ _ (by simp)) (Chg.of_below (F := fun k => k = m) hb1))))
  clear hb1
  generalize World.alloc _ _ = w6 at HA ⊢
  refine wp_region_any (by kernel_rfl) ?_
  obtain ⟨wd, hwd⟩ : ∃ wd, wd = w6.drew := ⟨_, rfl⟩
  change wpAny _ _ _ _ _ _ _ w6.drew
  rw [← hwd]
  have hbd : Below w6.heap.size w6 wd := by rw [hwd]; exact below_drew (Below.refl _ _)
  clear hwd
  have HD := Aside0.mk (And.intro (HA.out.1.step hbd) (And.intro (blk_below HA.out.2.1 hbd) (And.intro (blk_below HA.out.2.2.1 hbd) (HA.out.2.2.2.step (Chg.of_below (F := fun k => k = m) hbd)))))
  have hmd : m < wd.heap.size := HD.out.1.lt
  have hrd : w.heap.size + 1 < wd.heap.size := blk_lt HD.out.2.2.1
  clear hbd
  refine wpAny_flow3 rfl (by kernel_rfl) [some 17, some 18, some 19, some 20, some 21, some 22, some 11, none] rfl (by decide) [17, 18, 19, 20, 21, 22, 11] rfl 77 rfl (by decide) (fun k v w9 => match k with | 0 => v = .pointer (some (⟨w.heap.size, 0, none⟩ : Addr)) | 1 => v = .int .i64 vals | 2 => v = .pointer (some (⟨m, 0, none⟩ : Addr)) | 3 => ∃ r, v = .int .i64 r ∧ 0 ≤ r ∧ r < 2 | 4 => (∃ q, v = .int .i64 q ∧ (q = 1 ∨ q = 2)) | 5 => (∃ q, v = .agg #[.string madeB, .int .i64 vals, .slice none 0 0, .slice none 0 0, .int .i64 q, .int .i64 0, .int .i64 0, .string ⟨#[]⟩, .int .i64 0, .slice none 0 0] ∧ (q = 1 ∨ q = 2)) | _ => True) (JP w0 wd m vals 6 7) ?_ ?_ ?_ _ _ (by simp) (by decide) (no_flag 8)
  · intro i9 o dd r9 f a w9 ho hp hr9 hI hsz hf hd K hK
    have hi9 : i9 < 8 := (Array.getElem?_eq_some_iff.1 ho).1
    match i9, hi9 with
    | 0, _ =>
      obtain rfl := Option.some.inj ho
      obtain rfl := Option.some.inj hp
      obtain rfl := Option.some.inj hr9
      refine want_yes rfl ?_
      have e := (hI.fi.sl 6 rfl).trans (rfl : _ = (.pointer (some (⟨w.heap.size, 0, none⟩ : Addr)) : Value))
      unfold Oper.wp; simp [execOp, e, go_sem]; exact hK _ _ (fun _ _ => rfl) (fun _ _ _ _ h => h) (hI.j.other (by decide) (by decide) _ _ (by decide))
    | 1, _ =>
      obtain rfl := Option.some.inj ho
      obtain rfl := Option.some.inj hp
      obtain rfl := Option.some.inj hr9
      refine want_yes rfl ?_
      have e := (show gt a 17 = .pointer (some (⟨w.heap.size, 0, none⟩ : Addr)) from hI.fi.v 0 17 rfl (hd 0 (of_decide_eq_true (by kernel_rfl))))
      have hk := hI.j.chg.heap HD.out.2.1 hbm
      have c := (blk_cell hk 0).trans rfl
      unfold Oper.wp; simp [execOp, e, c, go_sem]; exact hK _ _ (fun _ _ => rfl) (fun _ _ _ _ h => h) (hI.j.other (by decide) (by decide) _ _ (by decide))
    | 2, _ =>
      obtain rfl := Option.some.inj ho
      obtain rfl := Option.some.inj hp
      obtain rfl := Option.some.inj hr9
      refine want_yes rfl ?_
      have e := (hI.fi.sl 0 rfl).trans (rfl : _ = (.pointer (some (⟨m, 0, none⟩ : Addr)) : Value))
      unfold Oper.wp; simp [execOp, e, go_sem]; exact hK _ _ (fun _ _ => rfl) (fun _ _ _ _ h => h) (hI.j.other (by decide) (by decide) _ _ (by decide))
    | 3, _ =>
      obtain rfl := Option.some.inj ho
      obtain rfl := Option.some.inj hp
      obtain rfl := Option.some.inj hr9
      have e := (show gt a 19 = .pointer (some (⟨m, 0, none⟩ : Addr)) from hI.fi.v 2 19 rfl (hd 2 (of_decide_eq_true (by kernel_rfl))))
      refine goes_ (N := some 20) Try.func37 (by kernel_rfl) rfl #[.pointer (some (⟨m, 0, none⟩ : Addr)), .int .i64 2] (by simp [Region.wanted]) rfl rfl (by simp [Act.eval]; exact e) ?_
      refine Calls.mono (pick_any w0 w9 m hI.j.ms 2) ?_
      rintro _ w5 ⟨r, rfl, hr0, hr1, hm5, hc5⟩
      exact ⟨_, rfl, hK _ _ (fun _ _ => ⟨r, rfl, hr0, by omega⟩) (fun k _ _ _ h => by rcases k with _ | _ | _ | _ | _ | _ | k <;> exact h) ((hI.j.call hmd hm5 hc5).other (by decide) (by decide) _ _ (by decide))⟩
    | 4, _ =>
      obtain rfl := Option.some.inj ho
      obtain rfl := Option.some.inj hp
      obtain rfl := Option.some.inj hr9
      refine want_yes rfl ?_
      obtain ⟨r, e, hr0, hr1⟩ := (show ∃ r, gt a 20 = .int .i64 r ∧ 0 ≤ r ∧ r < 2 from hI.fi.v 3 20 rfl (hd 3 (of_decide_eq_true (by kernel_rfl))))
      have hw : wrap64 (1 + r) = 1 + r := by unfold wrap64; omega
      unfold Oper.wp; simp [execOp, e, i64_w, hw, go_sem]; exact hK _ _ (fun _ _ => ⟨_, rfl, by omega⟩) (fun _ _ _ _ h => h) (hI.j.other (by decide) (by decide) _ _ (by decide))
    | 5, _ =>
      obtain rfl := Option.some.inj ho
      obtain rfl := Option.some.inj hp
      obtain rfl := Option.some.inj hr9
      refine want_yes rfl ?_
      have e0 := (show gt a 18 = .int .i64 vals from hI.fi.v 1 18 rfl (hd 1 (of_decide_eq_true (by kernel_rfl))))
      obtain ⟨q, e1, hq⟩ := (show ∃ q, gt a 21 = .int .i64 q ∧ (q = 1 ∨ q = 2) from hI.fi.v 4 21 rfl (hd 4 (of_decide_eq_true (by kernel_rfl))))
      unfold Oper.wp; simp [execOp, e0, e1, go_sem]; exact hK _ _ (fun _ _ => ⟨q, rfl, hq⟩) (fun _ _ _ _ h => h) (hI.j.other (by decide) (by decide) _ _ (by decide))
    | 6, _ =>
      obtain rfl := Option.some.inj ho
      obtain rfl := Option.some.inj hp
      obtain rfl := Option.some.inj hr9
      refine want_yes rfl ?_
      have n7 : f 7 = false := hI.fi.nf2 (i := 6) (k := 7) hf (by kernel_rfl)
      have hb := below_al (Below.refl w9.heap.size w9) zPrg
      unfold Oper.wp; simp [execOp, go_sem]
      exact hK _ _ (fun _ _ => trivial) (fun k _ _ _ h => by rcases k with _ | _ | _ | _ | _ | _ | k <;> exact h) ⟨hI.j.ms.step hb, hI.j.chg.step (Chg.of_below hb), fun _ _ => ⟨w9.heap.size, gt_put_eq a 11 _ (by rw [hsz]; decide), hI.j.chg.size, blk_new _ _⟩, fun e => absurd (n7.symm.trans ((upd_ne f (by decide)).symm.trans e)) (by decide)⟩
    | 7, _ =>
      obtain rfl := Option.some.inj ho
      obtain rfl := Option.some.inj hp
      obtain rfl := Option.some.inj hr9
      refine want_yes rfl ?_
      obtain ⟨b, e, hb2, hz⟩ := hI.j.al (hd 6 (of_decide_eq_true (by kernel_rfl))) hf
      obtain ⟨q, e1, hq⟩ := (show ∃ q, gt a 22 = .agg #[.string madeB, .int .i64 vals, .slice none 0 0, .slice none 0 0, .int .i64 q, .int .i64 0, .int .i64 0, .string ⟨#[]⟩, .int .i64 0, .slice none 0 0] ∧ (q = 1 ∨ q = 2) from hI.fi.v 5 22 rfl (hd 5 (of_decide_eq_true (by kernel_rfl))))
      have c0 := (blk_cell hz 0).trans rfl
      have c1 := (blk_cell hz 1).trans rfl
      have c2 := (blk_cell hz 2).trans rfl
      have c3 := (blk_cell hz 3).trans rfl
      have c4 := (blk_cell hz 4).trans rfl
      have c5 := (blk_cell hz 5).trans rfl
      have c6 := (blk_cell hz 6).trans rfl
      have c7 := (blk_cell hz 7).trans rfl
      have c8 := (blk_cell hz 8).trans rfl
      have c9 := (blk_cell hz 9).trans rfl
      have fz := blk_frozen hz
      obtain ⟨hp10, hch⟩ := put10 hz (.string madeB) (.int .i64 vals) (.slice none 0 0) (.slice none 0 0) (.int .i64 q) (.int .i64 0) (.int .i64 0) (.string ⟨#[]⟩) (.int .i64 0) (.slice none 0 0)
      unfold Oper.wp; simp [execOp, e, e1, c0, c1, c2, c3, c4, c5, c6, c7, c8, c9, fz, go_sem]
      exact hK undef _ (fun d h => by cases h) (fun k _ _ _ h => by rcases k with _ | _ | _ | _ | _ | _ | k <;> exact h) ⟨hI.j.ms.chg hch (fun e => by omega) (fun _ e => by have := HD.out.1.1.size; omega), (hI.j.chg.trans hch (fun k hk e => by omega)), fun _ e => absurd ((upd_eq f 7).symm.trans e) (by decide), fun _ => ⟨b, q, e, hb2, hq, hp10⟩⟩
  · intro f g w9 hall hJ hg
    obtain ⟨pb, ask, e11, hpb, hask, hpk⟩ := hJ.st (hall 7 (by decide))
    have HP := Aside0.mk (And.intro hJ.ms (And.intro (HD.out.2.2.2.trans hJ.chg (fun k hk e => e)) (And.intro (hJ.chg.heap HD.out.2.1 hbm) (And.intro (hJ.chg.heap HD.out.2.2.1 hrm) (And.intro hask hpk)))))
    have hpb2 : w.heap.size + 1 < pb := by omega
    clear hJ hg hpk hask hall
    simp only [List.map_cons, List.map_nil, fill, List.setIfInBounds_toArray, List.set_cons_zero, List.set_cons_succ]
    rw [e11]
    clear e11
    have HS0 := Aside0.mk (show SP w0 w w9 m pb vals nl ask (.slice none 0 0) (.slice none 0 0) [] from ⟨⟨HP.out.1, HP.out.2.2.1, HP.out.2.2.2.1, HP.out.2.1, HP.out.2.2.2.2.2⟩, Kd.R_nil _ _ _ _ _⟩)
    have HASK := Aside0.mk HP.out.2.2.2.2.1
    clear HP HD HA
    go_wp2_with fail
    go_loopw [12] (fun v12 wr => ∃ (i : Nat) (vI : Value) (inits : List TCell), i ≤ nl ∧ v12 = .int .i64 i ∧ Aside0 (SP w0 w wr m pb vals nl ask vI (.slice none 0 0) inits ∧ inits.map (fun c => c.f0) = loc4.take i ∧ (∀ y ∈ inits, 0 ≤ y.f1 ∧ y.f1 < vals))) (fun v12 _ => 10 - (intOf v12).toNat)
    case atStart => exact ⟨0, .slice none 0 0, [], Nat.zero_le _, rfl, ⟨HS0.out, rfl, fun y hy => by simp at hy⟩⟩
    case round =>
      clear HS0
      obtain ⟨i, vI, inits, hi, rfl, HS1⟩ := hrel
      have HS := Aside0.mk HS1.out.1
      have h1 := (blk_cell HS.out.g.hbk 1).trans rfl
      by_cases hlt : i < nl
      · have e1 : decide ((i : Int) < (nl : Int)) = true := decide_eq_true (by omega)
        have e2 : decide (i < nl) = true := decide_eq_true hlt
        obtain ⟨AI, cI, hvI⟩ := Kd.R_slice HS.out.rI
        subst hvI
        have hil : inits.length = i := by have := congrArg List.length HS1.out.2.1; rw [List.length_map, List.length_take] at this; have h4 : loc4.length = 4 := rfl; omega
        obtain ⟨l0, hl0⟩ : ∃ l0, loc4.getD (i : Int).toNat ⟨#[]⟩ = l0 := ⟨_, rfl⟩
        have HL0 := Aside0.mk hl0
        have HIL := Aside0.mk hil
        clear hl0 hil
        go_upto_block 1 with fail
        go_cut [] (fun wx => Aside0 (∃ v' y, 0 ≤ y ∧ y < vals ∧ SP w0 w wx m pb vals nl ask v' (.slice none 0 0) (inits ++ [⟨l0, y⟩])))
        case first =>
            clear h1
            have hni : inits.length ≤ 4 := by have := HIL.out; omega
            go_upto_region 5 with fail
            refine wp_region_any (by kernel_rfl) ?_
            obtain ⟨wd, hwd⟩ : ∃ wd, wd = wr.drew := ⟨_, rfl⟩
            change wpAny _ _ _ _ _ _ _ wr.drew
            rw [← hwd]
            have hbd : Below wr.heap.size wr wd := by rw [hwd]; exact below_drew (Below.refl _ _)
            clear hwd
            have HD := Aside0.mk (And.intro (HS.out.g.below hbd) (Kd.R_below HS.out.rI hbd))
            have hpd : pb < wd.heap.size := blk_lt HD.out.1.pbk
            have hmd : m < wd.heap.size := HD.out.1.ms.lt
            clear hbd
            refine wpAny_flow2 rfl (by kernel_rfl) [some 29, some 30, some 31, some 32, some 33, some 34, some 35, some 36, some 37, some 38, some 39, some 40, some 41, some 42, some 43, some 44, none] rfl (by decide) [29, 30, 31, 32, 33, 34, 35, 36, 37, 38, 39, 40, 41, 42, 43, 44] rfl 77 rfl (by decide) (PhiI (fun k v => match k with | 0 => (v = .pointer (some (⟨pb, 2, none⟩ : Addr))) | 1 => (v = .slice AI inits.length cI) | 2 => (v = .int .i64 (i : Int)) | 3 => (v = .string l0) | 4 => (v = .pointer (some (⟨m, 0, none⟩ : Addr))) | 5 => (v = .pointer (some (⟨w.heap.size, 0, none⟩ : Addr))) | 6 => (v = .int .i64 vals) | 7 => (∃ r, v = .int .i64 r ∧ 0 ≤ r ∧ r < vals) | 8 => (v = .pointer (some (⟨m, 0, none⟩ : Addr))) | 9 => (∃ r, v = .int .i64 r ∧ 0 ≤ r ∧ r < 2) | 10 => (∃ q, v = .int .i64 q ∧ (q = 1 ∨ q = 2)) | 11 => (∃ y, v = .int .i64 y ∧ 0 ≤ y ∧ y < vals) | 12 => (∃ y, v = .agg #[.string l0, .int .i64 y] ∧ 0 ≤ y ∧ y < vals) | 15 => (v = .pointer (some (⟨pb, 2, none⟩ : Addr))) | _ => True) w wd vals l0 inits) (JI w0 w wd m pb vals nl ask (.slice AI inits.length cI) (.slice none 0 0) l0 inits) ?_ ?_ ?_ _ _ (by simp) (by decide) (no_flag 17)
            · intro i9 o dd r9 f a w9 ho hp hr9 hI hf hd K hK
              have hi9 : i9 < 17 := (Array.getElem?_eq_some_iff.1 ho).1
              match i9, hi9 with
              | 0, _ =>
                obtain rfl := Option.some.inj ho
                obtain rfl := Option.some.inj hp
                obtain rfl := Option.some.inj hr9
                have n1 : f 1 = false := hI.nf2 (i := 0) (k := 1) hf (by kernel_rfl)
                have n14 : f 14 = false := hI.nf2 (i := 1) (k := 14) n1 (by kernel_rfl)
                have n16 : f 16 = false := hI.nf2 (i := 14) (k := 16) n14 (by kernel_rfl)
                refine want_yes rfl ?_
                have e := (hI.sl 11 rfl).trans (rfl : _ = (.pointer (some (⟨pb, 0, none⟩ : Addr)) : Value))
                unfold Oper.wp; simp [execOp, e, go_sem]; exact hK _ _ (fun _ _ => rfl) (fun _ _ _ _ h => h) (hI.j.other (by decide) (by decide))
              | 1, _ =>
                obtain rfl := Option.some.inj ho
                obtain rfl := Option.some.inj hp
                obtain rfl := Option.some.inj hr9
                have n14 : f 14 = false := hI.nf2 (i := 1) (k := 14) hf (by kernel_rfl)
                have n16 : f 16 = false := hI.nf2 (i := 14) (k := 16) n14 (by kernel_rfl)
                refine want_yes rfl ?_
                have e := (show gt a 29 = .pointer (some (⟨pb, 2, none⟩ : Addr)) from hI.v 0 29 rfl (hd 0 (of_decide_eq_true (by kernel_rfl))))
                have c := (blk_cell (hI.j.g n16).pbk 2).trans rfl
                unfold Oper.wp; simp [execOp, e, c, go_sem]; exact hK _ _ (fun _ _ => rfl) (fun _ _ _ _ h => h) (hI.j.other (by decide) (by decide))
              | 2, _ =>
                obtain rfl := Option.some.inj ho
                obtain rfl := Option.some.inj hp
                obtain rfl := Option.some.inj hr9
                have n3 : f 3 = false := hI.nf2 (i := 2) (k := 3) hf (by kernel_rfl)
                have n12 : f 12 = false := hI.nf2 (i := 3) (k := 12) n3 (by kernel_rfl)
                have n13 : f 13 = false := hI.nf2 (i := 12) (k := 13) n12 (by kernel_rfl)
                have n14 : f 14 = false := hI.nf2 (i := 13) (k := 14) n13 (by kernel_rfl)
                have n16 : f 16 = false := hI.nf2 (i := 14) (k := 16) n14 (by kernel_rfl)
                refine want_yes rfl ?_
                have e := (hI.sl 12 rfl).trans (rfl : _ = (.int .i64 (i : Int) : Value))
                unfold Oper.wp; simp [execOp, e, go_sem]; exact hK _ _ (fun _ _ => rfl) (fun _ _ _ _ h => h) (hI.j.other (by decide) (by decide))
              | 3, _ =>
                obtain rfl := Option.some.inj ho
                obtain rfl := Option.some.inj hp
                obtain rfl := Option.some.inj hr9
                have n12 : f 12 = false := hI.nf2 (i := 3) (k := 12) hf (by kernel_rfl)
                have n13 : f 13 = false := hI.nf2 (i := 12) (k := 13) n12 (by kernel_rfl)
                have n14 : f 14 = false := hI.nf2 (i := 13) (k := 14) n13 (by kernel_rfl)
                have n16 : f 16 = false := hI.nf2 (i := 14) (k := 16) n14 (by kernel_rfl)
                have e := (show gt a 31 = .int .i64 (i : Int) from hI.v 2 31 rfl (hd 2 (of_decide_eq_true (by kernel_rfl))))
                refine goes_ (N := some 32) Try.func64 (by kernel_rfl) rfl #[.int .i64 (i : Int)] (by simp [Region.wanted]) rfl rfl (by simp [Act.eval]; exact e) ?_
                refine Calls.mono (mloc_any w9 (i : Int) nl (by omega) (by omega) hn4) ?_
                rintro _ w5 ⟨he, hd5⟩
                rw [HL0.out] at he
                subst he
                have hb := drawn_below' hd5
                exact ⟨_, rfl, hK _ _ (fun _ _ => rfl) (fun k _ _ _ h => h.move (fun _ b o _ hx => blk_below hx hb) (fun _ l hr => Kd.R_below hr hb)) ((hI.j.below n16 hb).other (by decide) (by decide))⟩
              | 4, _ =>
                obtain rfl := Option.some.inj ho
                obtain rfl := Option.some.inj hp
                obtain rfl := Option.some.inj hr9
                have n7 : f 7 = false := hI.nf2 (i := 4) (k := 7) hf (by kernel_rfl)
                have n11 : f 11 = false := hI.nf2 (i := 7) (k := 11) n7 (by kernel_rfl)
                have n12 : f 12 = false := hI.nf2 (i := 11) (k := 12) n11 (by kernel_rfl)
                have n13 : f 13 = false := hI.nf2 (i := 12) (k := 13) n12 (by kernel_rfl)
                have n14 : f 14 = false := hI.nf2 (i := 13) (k := 14) n13 (by kernel_rfl)
                have n16 : f 16 = false := hI.nf2 (i := 14) (k := 16) n14 (by kernel_rfl)
                refine want_yes rfl ?_
                have e := (hI.sl 0 rfl).trans (rfl : _ = (.pointer (some (⟨m, 0, none⟩ : Addr)) : Value))
                unfold Oper.wp; simp [execOp, e, go_sem]; exact hK _ _ (fun _ _ => rfl) (fun _ _ _ _ h => h) (hI.j.other (by decide) (by decide))
              | 5, _ =>
                obtain rfl := Option.some.inj ho
                obtain rfl := Option.some.inj hp
                obtain rfl := Option.some.inj hr9
                have n6 : f 6 = false := hI.nf2 (i := 5) (k := 6) hf (by kernel_rfl)
                have n7 : f 7 = false := hI.nf2 (i := 6) (k := 7) n6 (by kernel_rfl)
                have n11 : f 11 = false := hI.nf2 (i := 7) (k := 11) n7 (by kernel_rfl)
                have n12 : f 12 = false := hI.nf2 (i := 11) (k := 12) n11 (by kernel_rfl)
                have n13 : f 13 = false := hI.nf2 (i := 12) (k := 13) n12 (by kernel_rfl)
                have n14 : f 14 = false := hI.nf2 (i := 13) (k := 14) n13 (by kernel_rfl)
                have n16 : f 16 = false := hI.nf2 (i := 14) (k := 16) n14 (by kernel_rfl)
                refine want_yes rfl ?_
                have e := (hI.sl 6 rfl).trans (rfl : _ = (.pointer (some (⟨w.heap.size, 0, none⟩ : Addr)) : Value))
                unfold Oper.wp; simp [execOp, e, go_sem]; exact hK _ _ (fun _ _ => rfl) (fun _ _ _ _ h => h) (hI.j.other (by decide) (by decide))
              | 6, _ =>
                obtain rfl := Option.some.inj ho
                obtain rfl := Option.some.inj hp
                obtain rfl := Option.some.inj hr9
                have n7 : f 7 = false := hI.nf2 (i := 6) (k := 7) hf (by kernel_rfl)
                have n11 : f 11 = false := hI.nf2 (i := 7) (k := 11) n7 (by kernel_rfl)
                have n12 : f 12 = false := hI.nf2 (i := 11) (k := 12) n11 (by kernel_rfl)
                have n13 : f 13 = false := hI.nf2 (i := 12) (k := 13) n12 (by kernel_rfl)
                have n14 : f 14 = false := hI.nf2 (i := 13) (k := 14) n13 (by kernel_rfl)
                have n16 : f 16 = false := hI.nf2 (i := 14) (k := 16) n14 (by kernel_rfl)
                refine want_yes rfl ?_
                have e := (show gt a 34 = .pointer (some (⟨w.heap.size, 0, none⟩ : Addr)) from hI.v 5 34 rfl (hd 5 (of_decide_eq_true (by kernel_rfl))))
                have c := (blk_cell (hI.j.g n16).hbk 0).trans rfl
                unfold Oper.wp; simp [execOp, e, c, go_sem]; exact hK _ _ (fun _ _ => rfl) (fun _ _ _ _ h => h) (hI.j.other (by decide) (by decide))
              | 7, _ =>
                obtain rfl := Option.some.inj ho
                obtain rfl := Option.some.inj hp
                obtain rfl := Option.some.inj hr9
                have n11 : f 11 = false := hI.nf2 (i := 7) (k := 11) hf (by kernel_rfl)
                have n12 : f 12 = false := hI.nf2 (i := 11) (k := 12) n11 (by kernel_rfl)
                have n13 : f 13 = false := hI.nf2 (i := 12) (k := 13) n12 (by kernel_rfl)
                have n14 : f 14 = false := hI.nf2 (i := 13) (k := 14) n13 (by kernel_rfl)
                have n16 : f 16 = false := hI.nf2 (i := 14) (k := 16) n14 (by kernel_rfl)
                have e0 := (show gt a 33 = .pointer (some (⟨m, 0, none⟩ : Addr)) from hI.v 4 33 rfl (hd 4 (of_decide_eq_true (by kernel_rfl))))
                have e1 := (show gt a 35 = .int .i64 vals from hI.v 6 35 rfl (hd 6 (of_decide_eq_true (by kernel_rfl))))
                refine goes_ (N := some 36) Try.func37 (by kernel_rfl) rfl #[.pointer (some (⟨m, 0, none⟩ : Addr)), .int .i64 vals] (by simp [Region.wanted]) rfl rfl (by simp [Act.eval]; exact ⟨e0, e1⟩) ?_
                refine Calls.mono (pick_any w0 w9 m hI.j.ms vals) ?_
                rintro _ w5 ⟨r, rfl, hr0, hr1, hm5, hc5⟩
                exact ⟨_, rfl, hK _ _ (fun _ _ => ⟨r, rfl, hr0, by omega⟩) (fun k _ _ _ h => h.move (fun _ b o hb hx => hc5.heap hx (fun e => by omega)) (fun _ l hr => rI_call hr hmw hc5)) ((hI.j.call n16 hmw (by omega) hm5 hc5).other (by decide) (by decide))⟩
              | 8, _ =>
                obtain rfl := Option.some.inj ho
                obtain rfl := Option.some.inj hp
                obtain rfl := Option.some.inj hr9
                have n9 : f 9 = false := hI.nf2 (i := 8) (k := 9) hf (by kernel_rfl)
                have n10 : f 10 = false := hI.nf2 (i := 9) (k := 10) n9 (by kernel_rfl)
                have n11 : f 11 = false := hI.nf2 (i := 10) (k := 11) n10 (by kernel_rfl)
                have n12 : f 12 = false := hI.nf2 (i := 11) (k := 12) n11 (by kernel_rfl)
                have n13 : f 13 = false := hI.nf2 (i := 12) (k := 13) n12 (by kernel_rfl)
                have n14 : f 14 = false := hI.nf2 (i := 13) (k := 14) n13 (by kernel_rfl)
                have n16 : f 16 = false := hI.nf2 (i := 14) (k := 16) n14 (by kernel_rfl)
                refine want_yes rfl ?_
                have e := (hI.sl 0 rfl).trans (rfl : _ = (.pointer (some (⟨m, 0, none⟩ : Addr)) : Value))
                unfold Oper.wp; simp [execOp, e, go_sem]; exact hK _ _ (fun _ _ => rfl) (fun _ _ _ _ h => h) (hI.j.other (by decide) (by decide))
              | 9, _ =>
                obtain rfl := Option.some.inj ho
                obtain rfl := Option.some.inj hp
                obtain rfl := Option.some.inj hr9
                have n10 : f 10 = false := hI.nf2 (i := 9) (k := 10) hf (by kernel_rfl)
                have n11 : f 11 = false := hI.nf2 (i := 10) (k := 11) n10 (by kernel_rfl)
                have n12 : f 12 = false := hI.nf2 (i := 11) (k := 12) n11 (by kernel_rfl)
                have n13 : f 13 = false := hI.nf2 (i := 12) (k := 13) n12 (by kernel_rfl)
                have n14 : f 14 = false := hI.nf2 (i := 13) (k := 14) n13 (by kernel_rfl)
                have n16 : f 16 = false := hI.nf2 (i := 14) (k := 16) n14 (by kernel_rfl)
                have e0 := (show gt a 37 = .pointer (some (⟨m, 0, none⟩ : Addr)) from hI.v 8 37 rfl (hd 8 (of_decide_eq_true (by kernel_rfl))))
                refine goes_ (N := some 38) Try.func37 (by kernel_rfl) rfl #[.pointer (some (⟨m, 0, none⟩ : Addr)), .int .i64 2] (by simp [Region.wanted]) rfl rfl (by simp [Act.eval]; exact e0) ?_
                refine Calls.mono (pick_any w0 w9 m hI.j.ms 2) ?_
                rintro _ w5 ⟨r, rfl, hr0, hr1, hm5, hc5⟩
                exact ⟨_, rfl, hK _ _ (fun _ _ => ⟨r, rfl, hr0, by omega⟩) (fun k _ _ _ h => h.move (fun _ b o hb hx => hc5.heap hx (fun e => by omega)) (fun _ l hr => rI_call hr hmw hc5)) ((hI.j.call n16 hmw (by omega) hm5 hc5).other (by decide) (by decide))⟩
              | 10, _ =>
                obtain rfl := Option.some.inj ho
                obtain rfl := Option.some.inj hp
                obtain rfl := Option.some.inj hr9
                have n11 : f 11 = false := hI.nf2 (i := 10) (k := 11) hf (by kernel_rfl)
                have n12 : f 12 = false := hI.nf2 (i := 11) (k := 12) n11 (by kernel_rfl)
                have n13 : f 13 = false := hI.nf2 (i := 12) (k := 13) n12 (by kernel_rfl)
                have n14 : f 14 = false := hI.nf2 (i := 13) (k := 14) n13 (by kernel_rfl)
                have n16 : f 16 = false := hI.nf2 (i := 14) (k := 16) n14 (by kernel_rfl)
                refine want_yes rfl ?_
                obtain ⟨r, e, hr0, hr1⟩ := (show ∃ r, gt a 38 = .int .i64 r ∧ 0 ≤ r ∧ r < 2 from hI.v 9 38 rfl (hd 9 (of_decide_eq_true (by kernel_rfl))))
                have hw : wrap64 (1 + r) = 1 + r := by unfold wrap64; omega
                unfold Oper.wp; simp [execOp, e, i64_w, hw, go_sem]; exact hK _ _ (fun _ _ => ⟨_, rfl, by omega⟩) (fun _ _ _ _ h => h) (hI.j.other (by decide) (by decide))
              | 11, _ =>
                obtain rfl := Option.some.inj ho
                obtain rfl := Option.some.inj hp
                obtain rfl := Option.some.inj hr9
                have n12 : f 12 = false := hI.nf2 (i := 11) (k := 12) hf (by kernel_rfl)
                have n13 : f 13 = false := hI.nf2 (i := 12) (k := 13) n12 (by kernel_rfl)
                have n14 : f 14 = false := hI.nf2 (i := 13) (k := 14) n13 (by kernel_rfl)
                have n16 : f 16 = false := hI.nf2 (i := 14) (k := 16) n14 (by kernel_rfl)
                refine want_yes rfl ?_
                obtain ⟨r, e0, hr0, hr1⟩ := (show ∃ r, gt a 36 = .int .i64 r ∧ 0 ≤ r ∧ r < vals from hI.v 7 36 rfl (hd 7 (of_decide_eq_true (by kernel_rfl))))
                obtain ⟨q, e1, hq⟩ := (show ∃ q, gt a 39 = .int .i64 q ∧ (q = 1 ∨ q = 2) from hI.v 10 39 rfl (hd 10 (of_decide_eq_true (by kernel_rfl))))
                have hq0 : ¬ q = 0 := by omega
                have hq1 : (q == 0) = false := beq_eq_false_iff_ne.2 hq0
                have hts := tmod_small r q vals hr0 hr1 hq hv2
                have hw : wrap64 (r.tmod q) = r.tmod q := by unfold wrap64; omega
                unfold Oper.wp; simp [execOp, e0, e1, hq0, hq1, i64_w, hw, go_sem]; exact hK _ _ (fun _ _ => ⟨_, rfl, hts.1, hts.2⟩) (fun _ _ _ _ h => h) (hI.j.other (by decide) (by decide))
              | 12, _ =>
                obtain rfl := Option.some.inj ho
                obtain rfl := Option.some.inj hp
                obtain rfl := Option.some.inj hr9
                have n13 : f 13 = false := hI.nf2 (i := 12) (k := 13) hf (by kernel_rfl)
                have n14 : f 14 = false := hI.nf2 (i := 13) (k := 14) n13 (by kernel_rfl)
                have n16 : f 16 = false := hI.nf2 (i := 14) (k := 16) n14 (by kernel_rfl)
                refine want_yes rfl ?_
                have e0 := (show gt a 32 = .string l0 from hI.v 3 32 rfl (hd 3 (of_decide_eq_true (by kernel_rfl))))
                obtain ⟨y, e1, hy0, hy1⟩ := (show ∃ y, gt a 40 = .int .i64 y ∧ 0 ≤ y ∧ y < vals from hI.v 11 40 rfl (hd 11 (of_decide_eq_true (by kernel_rfl))))
                unfold Oper.wp; simp [execOp, e0, e1, go_sem]; exact hK _ _ (fun _ _ => ⟨y, rfl, hy0, hy1⟩) (fun _ _ _ _ h => h) (hI.j.other (by decide) (by decide))
              | 13, _ =>
                obtain rfl := Option.some.inj ho
                obtain rfl := Option.some.inj hp
                obtain rfl := Option.some.inj hr9
                have n14 : f 14 = false := hI.nf2 (i := 13) (k := 14) hf (by kernel_rfl)
                have n16 : f 16 = false := hI.nf2 (i := 14) (k := 16) n14 (by kernel_rfl)
                refine want_yes rfl ?_
                obtain ⟨y, e, hy0, hy1⟩ := (show ∃ y, gt a 41 = .agg #[.string l0, .int .i64 y] ∧ 0 ≤ y ∧ y < vals from hI.v 12 41 rfl (hd 12 (of_decide_eq_true (by kernel_rfl))))
                have hb := below_al (Below.refl w9.heap.size w9) (.cells #[.string l0, .int .i64 y] 51 (0, 0))
                unfold Oper.wp; simp [execOp, e, go_sem]
                exact hK _ _ (fun _ _ => ⟨w9.heap.size, y, rfl, hI.j.sz, hy0, hy1, blk_new _ _⟩) (fun k _ _ _ h => h.move (fun _ b o _ hx => blk_below hx hb) (fun _ l hr => Kd.R_below hr hb)) ((hI.j.below n16 hb).other (by decide) (by decide))
              | 14, _ =>
                obtain rfl := Option.some.inj ho
                obtain rfl := Option.some.inj hp
                obtain rfl := Option.some.inj hr9
                have n16 : f 16 = false := hI.nf2 (i := 14) (k := 16) hf (by kernel_rfl)
                have e1 := (show gt a 30 = .slice AI inits.length cI from hI.v 1 30 rfl (hd 1 (of_decide_eq_true (by kernel_rfl))))
                obtain ⟨b, y, e2, hb0, hy0, hy1, hbx⟩ := (show ∃ (b : Nat) (y : Int), gt a 42 = .slice (some ⟨b, 0, none⟩) 1 1 ∧ wd.heap.size ≤ b ∧ 0 ≤ y ∧ y < vals ∧ w9.heap[b]? = some (.cells #[.string l0, .int .i64 y] 51 (0, 0)) from hI.v 13 42 rfl (hd 13 (of_decide_eq_true (by kernel_rfl))))
                have hrow := rI_call HD.out.2 hmw (hI.j.cb hf)
                have hsz9 := (hI.j.g n16).chg.size
                refine Kd.R_append_rows_step kCell (w0 := w9) w.heap.size rfl (.tmp 30) (.tmp 42) 22 51 _ 24 rfl Try.underlying22 infoCell rfl (by decide) (by decide) _ inits [⟨l0, y⟩] _ 1 1 (fun k => w.heap.size ≤ k) (fun _ => False) (by simp [Act.eval]; exact e1) (by simp [Act.eval]; exact e2) hrow (reads_new (d := kCell) (base := 0) (okp := fun _ => False) (cs := [.string l0, .int .i64 y]) hbx rfl) (by rintro _ _ ⟨rfl, rfl⟩; exact k51_mkM _ _ _ ⟨l0, y⟩) (fun _ h => h.elim) (fun k hk => by omega) (Below.refl _ _) hsz9 (by omega) ?_
                intro v1 w1 ho1 hb1 hg1 _
                have hG := (hI.j.g n16).grown hmw hg1 (Kd.R_base hrow) (Kd.R_typed hrow) (by decide) (by decide)
                exact hK _ _ (fun _ _ => ⟨y, hy0, hy1, ho1⟩) (fun k _ _ hfk h => h.move (fun _ b o hb hx => (hg1.block b (blk_lt hx) (fun e => by have := Kd.R_lt HD.out.2 b e.symm; omega)).trans hx) (fun e _ _ => absurd (hfk.symm.trans ((congrArg f e).trans hf)) (by decide))) ⟨hG.ms, fun e => absurd ((upd_eq f 14).symm.trans e) (by decide), Nat.le_trans hI.j.sz hg1.size, fun _ => hG, fun e => absurd (n16.symm.trans ((upd_ne f (by decide)).symm.trans e)) (by decide)⟩
              | 15, _ =>
                obtain rfl := Option.some.inj ho
                obtain rfl := Option.some.inj hp
                obtain rfl := Option.some.inj hr9
                have n16 : f 16 = false := hI.nf2 (i := 15) (k := 16) hf (by kernel_rfl)
                refine want_yes rfl ?_
                have e := (hI.sl 11 rfl).trans (rfl : _ = (.pointer (some (⟨pb, 0, none⟩ : Addr)) : Value))
                unfold Oper.wp; simp [execOp, e, go_sem]; exact hK _ _ (fun _ _ => rfl) (fun _ _ _ _ h => h) (hI.j.other (by decide) (by decide))
              | 16, _ =>
                obtain rfl := Option.some.inj ho
                obtain rfl := Option.some.inj hp
                obtain rfl := Option.some.inj hr9
                refine want_yes rfl ?_
                have e1 := (show gt a 44 = .pointer (some (⟨pb, 2, none⟩ : Addr)) from hI.v 15 44 rfl (hd 15 (of_decide_eq_true (by kernel_rfl))))
                obtain ⟨y, hy0, hy1, hr⟩ := (show ∃ y : Int, 0 ≤ y ∧ y < vals ∧ Kd.R kCell 51 w9 w.heap.size (fun k => w.heap.size ≤ k) (gt a 43) (inits ++ [⟨l0, y⟩]) from hI.v 14 43 rfl (hd 14 (of_decide_eq_true (by kernel_rfl))))
                obtain ⟨v', hv'⟩ : ∃ v', gt a 43 = v' := ⟨_, rfl⟩
                rw [hv'] at hr
                obtain ⟨Ax, cx, rfl⟩ := Kd.R_slice hr
                have hlen : (inits ++ [(⟨l0, y⟩ : TCell)]).length = inits.length + 1 := by simp
                rw [hlen] at hr hv'
                have hg := hI.j.g hf
                have c := (blk_cell hg.pbk 2).trans rfl
                have fz := blk_frozen hg.pbk 2
                have hS := SP.setI hg hmw HM.out.1.size hpb2 hr
                unfold Oper.wp; simp [execOp, e1, hv', c, fz, go_sem]
                exact hK undef _ (fun d h => by cases h) (fun k _ _ _ h => h.move (fun _ b o hb hx => (Below.heap_setCell w9 ⟨pb, 2, none⟩ _ b (fun e => by simp at e; omega)).trans hx) (fun _ l hr => Kd.R_set hr hg.pbk (by decide) 2 _)) ⟨hS.g.ms, fun e => absurd (((upd_ne f (by decide)).symm.trans e).symm.trans (hd 14 (of_decide_eq_true (by kernel_rfl)))) (by decide), by rw [World.size_setCell]; exact hI.j.sz, fun e => absurd ((upd_eq f 16).symm.trans e) (by decide), fun _ => ⟨_, y, hy0, hy1, hS⟩⟩
            · intro f g w9 hall hJ hg
              have HX := Aside0.mk (hJ.s (hall 16 (by decide)))
              clear hJ hg
              simp only [List.map_cons, List.map_nil, fill, List.setIfInBounds_toArray, List.set_cons_zero, List.set_cons_succ]
              go_wp2
              go_meet
              exact HX
            · intro f hf
              exact ⟨HD.out.1.ms, fun _ => Chg.refl _ _, Nat.le_refl _, fun _ => HD.out.1, fun e => absurd ((hf 16).symm.trans e) (by decide)⟩
        case rest =>
        obtain ⟨v', y, hy0, hy1, hSP⟩ := hcut.out
        have HX := Aside0.mk (And.intro hy0 (And.intro hy1 hSP))
        have HI := Aside0.mk hlt
        clear hy0 hy1 hSP hcut h1 hlt
        go_wp2
        go_roundw
        case rel => exact ⟨i + 1, v', inits ++ [⟨l0, y⟩], HI.out, by go_num, ⟨HX.out.2.2, by
          have hlt := HI.out
          have h4 : i < loc4.length := by show i < 4; omega
          rw [List.map_append, HS1.out.2.1, List.take_succ_eq_append_getElem h4, ← HL0.out, Int.toNat_natCast, List.getD_eq_getElem?_getD, List.getElem?_eq_getElem h4]; rfl, fun z hz => by
          rcases List.mem_append.1 hz with q | q
          · exact HS1.out.2.2 z q
          · obtain rfl := List.mem_singleton.1 q; exact ⟨HX.out.1, HX.out.2.1⟩⟩⟩
        case measure => have := HI.out; simp [intOf]; omega
      · have e1 : decide ((i : Int) < (nl : Int)) = false := decide_eq_false (by omega)
        have e2 : decide (i < nl) = false := decide_eq_false hlt
        have hin : nl = i := by omega
        subst hin
        have HQ0 := Aside0.mk (show SQ w0 w wr m pb vals nl ask vI inits (.slice none 0 0) (.slice none 0 0) [] [] from ⟨HS.out.g, HS.out.rI, Kd.N_nil _ _ _ _ _, Kd.N_nil _ _ _ _ _⟩)
        have HIN := Aside0.mk HS1.out.2
        go_wp2_with fail
        clear HS HS1 h1 e1 e2 hlt hi
        go_loopw [13, 14] (fun v13 v14 wr => ∃ (t : Nat) (vT : Value) (ths : List (List TStmt)) (RS : List (List ByteArray)), t ≤ nt ∧ v14 = .int .i64 t ∧ Aside0 (SQ w0 w wr m pb vals nl ask vI inits vT v13 ths RS ∧ ths.length = t ∧ RS.length = t ∧ (∀ (k : Nat) (l : List TStmt) (R : List ByteArray), ths[k]? = some l → RS[k]? = some R → gdB vals nl 1 [] l R ∧ l.length ≤ 4) ∧ (∀ R ∈ RS, R.length ≤ 1000))) (fun _ v14 _ => 10 - (intOf v14).toNat)
        case atStart => exact ⟨0, .slice none 0 0, [], [], Nat.zero_le _, rfl, ⟨HQ0.out, rfl, rfl, fun k l R h => by simp at h, fun R h => by simp at h⟩⟩
        case round =>
          clear HQ0
          obtain ⟨t, vT, ths, RS, hti, rfl, HT⟩ := hrel
          have HQ1 := Aside0.mk HT.out.1
          obtain ⟨AR, cR, hvR⟩ := Kd.N_slice HQ1.out.nR
          subst hvR
          obtain ⟨AT, cT, hvT⟩ := Kd.N_slice HQ1.out.nT
          subst hvT
          have HQ := HQ1
          by_cases hlt : t < nt
          · have e1 : decide ((t : Int) < (nt : Int)) = true := decide_eq_true (by omega)
            have e2 : decide (t < nt) = true := decide_eq_true hlt
            go_upto_region 10 with fail
            refine wp_region_any (by kernel_rfl) ?_
            obtain ⟨wd, hwd⟩ : ∃ wd, wd = wr.drew := ⟨_, rfl⟩
            change wpAny _ _ _ _ _ _ _ wr.drew
            rw [← hwd]
            have hbd : Below wr.heap.size wr wd := by rw [hwd]; exact below_drew (Below.refl _ _)
            clear hwd
            have HD := Aside0.mk (HQ.out.below hbd)
            clear hbd
            refine wpAny_flow3 rfl (by kernel_rfl) [some 51, some 52, some 53, some 54, some 55, some 56, some 57, some 58, some 50, some 59, some 60, some 15, some 16] rfl (by decide) [51, 52, 53, 54, 55, 56, 57, 58, 50, 59, 60, 15, 16] rfl 77 rfl (by decide) (fun k v _ => match k with | 0 => (v = .pointer (some (⟨m, 0, none⟩ : Addr))) | 1 => (v = .agg #[.int .i64 vals, .int .i64 (nl : Int), .bool false, .bool false]) | 2 => (v = .pointer (some (⟨m, 0, none⟩ : Addr))) | 3 => (v = .int .i64 4) | 4 => (v = .int .i64 5) | 5 => (∃ r, v = .int .i64 r ∧ 0 ≤ r ∧ r < 5) | 6 => (v = .int .i64 ((1 : Nat) : Int)) | _ => True) (JT w0 w wd m pb vals nl ask vI inits (.slice AT ths.length cT) (.slice AR RS.length cR) ths RS) ?_ ?_ ?_ _ _ (by simp) (by decide) (no_flag 13)
            · intro i9 o dd r9 f a w9 ho hp hr9 hI hsz hf hd K hK
              have hi9 : i9 < 13 := (Array.getElem?_eq_some_iff.1 ho).1
              match i9, hi9 with
              | 0, _ =>
                obtain rfl := Option.some.inj ho
                obtain rfl := Option.some.inj hp
                obtain rfl := Option.some.inj hr9
                have n7 : f 7 = false := hI.fi.nf2 (i := 0) (k := 7) hf (by kernel_rfl)
                refine want_yes rfl ?_
                have e := (hI.fi.sl 0 rfl).trans (rfl : _ = (.pointer (some (⟨m, 0, none⟩ : Addr)) : Value))
                unfold Oper.wp; simp [execOp, e, go_sem]; exact hK _ _ (fun _ _ => rfl) (fun _ _ _ _ h => h) (hI.j.pre n7 (by decide) hI.j.sq (Nat.le_refl _))
              | 1, _ =>
                obtain rfl := Option.some.inj ho
                obtain rfl := Option.some.inj hp
                obtain rfl := Option.some.inj hr9
                have n7 : f 7 = false := hI.fi.nf2 (i := 1) (k := 7) hf (by kernel_rfl)
                refine want_yes rfl ?_
                have e := (hI.fi.sl 6 rfl).trans (rfl : _ = (.pointer (some (⟨w.heap.size, 0, none⟩ : Addr)) : Value))
                have c0 := (blk_cell hI.j.sq.g.hbk 0).trans rfl
                have c1 := (blk_cell hI.j.sq.g.hbk 1).trans rfl
                have c2 := (blk_cell hI.j.sq.g.hbk 2).trans rfl
                have c3 := (blk_cell hI.j.sq.g.hbk 3).trans rfl
                unfold Oper.wp; simp [execOp, e, c0, c1, c2, c3, go_sem]; exact hK _ _ (fun _ _ => rfl) (fun _ _ _ _ h => h) (hI.j.pre n7 (by decide) hI.j.sq (Nat.le_refl _))
              | 2, _ =>
                obtain rfl := Option.some.inj ho
                obtain rfl := Option.some.inj hp
                obtain rfl := Option.some.inj hr9
                have n5 : f 5 = false := hI.fi.nf2 (i := 2) (k := 5) hf (by kernel_rfl)
                have n7 : f 7 = false := hI.fi.nf2 (i := 5) (k := 7) n5 (by kernel_rfl)
                refine want_yes rfl ?_
                have e := (hI.fi.sl 0 rfl).trans (rfl : _ = (.pointer (some (⟨m, 0, none⟩ : Addr)) : Value))
                unfold Oper.wp; simp [execOp, e, go_sem]; exact hK _ _ (fun _ _ => rfl) (fun _ _ _ _ h => h) (hI.j.pre n7 (by decide) hI.j.sq (Nat.le_refl _))
              | 3, _ =>
                obtain rfl := Option.some.inj ho
                obtain rfl := Option.some.inj hp
                obtain rfl := Option.some.inj hr9
                have n4 : f 4 = false := hI.fi.nf2 (i := 3) (k := 4) hf (by kernel_rfl)
                have n5 : f 5 = false := hI.fi.nf2 (i := 4) (k := 5) n4 (by kernel_rfl)
                have n7 : f 7 = false := hI.fi.nf2 (i := 5) (k := 7) n5 (by kernel_rfl)
                refine want_yes rfl ?_
                have e := (hI.fi.sl 3 rfl).trans (rfl : _ = (.int .i64 4 : Value))
                unfold Oper.wp; simp [execOp, e, go_sem]; exact hK _ _ (fun _ _ => rfl) (fun _ _ _ _ h => h) (hI.j.pre n7 (by decide) hI.j.sq (Nat.le_refl _))
              | 4, _ =>
                obtain rfl := Option.some.inj ho
                obtain rfl := Option.some.inj hp
                obtain rfl := Option.some.inj hr9
                have n5 : f 5 = false := hI.fi.nf2 (i := 4) (k := 5) hf (by kernel_rfl)
                have n7 : f 7 = false := hI.fi.nf2 (i := 5) (k := 7) n5 (by kernel_rfl)
                refine want_yes rfl ?_
                have e := (show gt a 54 = .int .i64 4 from hI.fi.v 3 54 rfl (hd 3 (of_decide_eq_true (by kernel_rfl))))
                unfold Oper.wp; simp [execOp, e, go_sem]; exact hK _ _ (fun _ _ => rfl) (fun _ _ _ _ h => h) (hI.j.pre n7 (by decide) hI.j.sq (Nat.le_refl _))
              | 5, _ =>
                obtain rfl := Option.some.inj ho
                obtain rfl := Option.some.inj hp
                obtain rfl := Option.some.inj hr9
                have n7 : f 7 = false := hI.fi.nf2 (i := 5) (k := 7) hf (by kernel_rfl)
                have e0 := (show gt a 53 = .pointer (some (⟨m, 0, none⟩ : Addr)) from hI.fi.v 2 53 rfl (hd 2 (of_decide_eq_true (by kernel_rfl))))
                have e1 := (show gt a 55 = .int .i64 5 from hI.fi.v 4 55 rfl (hd 4 (of_decide_eq_true (by kernel_rfl))))
                refine goes_ (N := some 56) Try.func37 (by kernel_rfl) rfl #[.pointer (some (⟨m, 0, none⟩ : Addr)), .int .i64 5] (by simp [Region.wanted]) rfl rfl (by simp [Act.eval]; exact ⟨e0, e1⟩) ?_
                refine Calls.mono (pick_any w0 w9 m hI.j.sq.g.ms 5) ?_
                rintro _ w5 ⟨r, rfl, hr0, hr1, hm5, hc5⟩
                exact ⟨_, rfl, hK _ _ (fun _ _ => ⟨r, rfl, hr0, by omega⟩) (fun k _ _ _ h => by rcases k with _ | _ | _ | _ | _ | _ | _ | k <;> exact h) (hI.j.pre n7 (by decide) (hI.j.sq.call hmw (by omega) hm5 hc5) hc5.size)⟩
              | 6, _ =>
                obtain rfl := Option.some.inj ho
                obtain rfl := Option.some.inj hp
                obtain rfl := Option.some.inj hr9
                have n7 : f 7 = false := hI.fi.nf2 (i := 6) (k := 7) hf (by kernel_rfl)
                refine want_yes rfl ?_
                have e := (hI.fi.sl 4 rfl).trans (rfl : _ = (.int .i64 ((1 : Nat) : Int) : Value))
                unfold Oper.wp; simp [execOp, e, go_sem]; exact hK _ _ (fun _ _ => rfl) (fun _ _ _ _ h => h) (hI.j.pre n7 (by decide) hI.j.sq (Nat.le_refl _))
              | 7, _ =>
                obtain rfl := Option.some.inj ho
                obtain rfl := Option.some.inj hp
                obtain rfl := Option.some.inj hr9
                have e0 := (show gt a 51 = .pointer (some (⟨m, 0, none⟩ : Addr)) from hI.fi.v 0 51 rfl (hd 0 (of_decide_eq_true (by kernel_rfl))))
                have e1 := (show gt a 52 = .agg #[.int .i64 vals, .int .i64 (nl : Int), .bool false, .bool false] from hI.fi.v 1 52 rfl (hd 1 (of_decide_eq_true (by kernel_rfl))))
                obtain ⟨r, e5, hr0, hr1⟩ := (show ∃ r, gt a 56 = .int .i64 r ∧ 0 ≤ r ∧ r < 5 from hI.fi.v 5 56 rfl (hd 5 (of_decide_eq_true (by kernel_rfl))))
                have e6 := (show gt a 57 = .int .i64 ((1 : Nat) : Int) from hI.fi.v 6 57 rfl (hd 6 (of_decide_eq_true (by kernel_rfl))))
                obtain ⟨rn, rfl⟩ : ∃ rn : Nat, r = rn := ⟨r.toNat, by omega⟩
                refine goes_ (N := some 58) Try.func65 (by kernel_rfl) rfl #[.pointer (some (⟨m, 0, none⟩ : Addr)), .agg #[.int .i64 vals, .int .i64 (nl : Int), .bool false, .bool false], .int .i64 (rn : Int), .int .i64 ((1 : Nat) : Int), .slice none 0 0] (by simp [Region.wanted]) rfl rfl (by simp [Act.eval]; exact ⟨e0, e1, e5, e6⟩) ?_
                refine Calls.mono (mstmts_any 1 w0 w9 m hI.j.sq.g.ms vals nl rn (.slice none 0 0) [] hv2 hv100 hn1 hn4 (by omega) (RG.nil _ _) (by decide)) ?_
                rintro _ w5 ⟨vo, vr, l, R', rfl, hN, hRG, hgd, hll, hm5, hc5⟩
                have n8 : f 8 = false := hI.fi.nf2 (i := 7) (k := 8) hf (by kernel_rfl)
                have n9 : f 9 = false := hI.fi.nf2 (i := 8) (k := 9) n8 (by kernel_rfl)
                have n10 : f 10 = false := hI.fi.nf2 (i := 8) (k := 10) n8 (by kernel_rfl)
                have n11 : f 11 = false := hI.fi.nf2 (i := 9) (k := 11) n9 (by kernel_rfl)
                have n12 : f 12 = false := hI.fi.nf2 (i := 10) (k := 12) n10 (by kernel_rfl)
                exact ⟨_, rfl, hK _ _ (fun _ _ => trivial) (fun k _ _ _ h => by rcases k with _ | _ | _ | _ | _ | _ | _ | k <;> exact h) ⟨hI.j.sq.call hmw (by omega) hm5 hc5, Nat.le_trans hI.j.sz hc5.size, fun _ => ⟨vo, vr, l, R', w9.heap.size, hI.j.sz, gt_put_eq a 58 _ (by rw [hsz]; decide), hN, hRG, hgd, Nat.le_trans hll (by omega), fun e => absurd (n8.symm.trans ((upd_ne f (by decide)).symm.trans e)) (by decide), fun e => absurd (n9.symm.trans ((upd_ne f (by decide)).symm.trans e)) (by decide), fun e => absurd (n10.symm.trans ((upd_ne f (by decide)).symm.trans e)) (by decide), fun e => absurd (n11.symm.trans ((upd_ne f (by decide)).symm.trans e)) (by decide), fun e => absurd (n12.symm.trans ((upd_ne f (by decide)).symm.trans e)) (by decide)⟩⟩⟩
              | 8, _ =>
                obtain rfl := Option.some.inj ho
                obtain rfl := Option.some.inj hp
                obtain rfl := Option.some.inj hr9
                refine want_yes rfl ?_
                have f7 : f 7 = true := hd 7 (of_decide_eq_true (by kernel_rfl))
                obtain ⟨vo, vr, l, R', S, hS, e58, hN, hRG, hgd, hll, h8, h9, h10, h11, h12⟩ := hI.j.tp f7
                have es := e58
                unfold Oper.wp; simp [execOp, es, go_sem]
                exact hK _ _ (fun _ _ => trivial) (fun _ _ _ _ h => h) ⟨hI.j.sq, hI.j.sz, fun _ => ⟨vo, vr, l, R', S, hS, (gt_put_ne a _ _ 58 (by decide)).trans e58, hN, hRG, hgd, hll, fun _ => gt_put_eq a 50 _ (by rw [hsz]; decide), fun e => (gt_put_ne a _ _ 59 (by decide)).trans (h9 ((upd_ne f (by decide)).symm.trans e)), fun e => (gt_put_ne a _ _ 60 (by decide)).trans (h10 ((upd_ne f (by decide)).symm.trans e)), fun e => (gt_put_ne a _ _ 15 (by decide)).trans (h11 ((upd_ne f (by decide)).symm.trans e)), fun e => (gt_put_ne a _ _ 16 (by decide)).trans (h12 ((upd_ne f (by decide)).symm.trans e))⟩⟩
              | 9, _ =>
                obtain rfl := Option.some.inj ho
                obtain rfl := Option.some.inj hp
                obtain rfl := Option.some.inj hr9
                refine want_yes rfl ?_
                have f8 : f 8 = true := hd 8 (of_decide_eq_true (by kernel_rfl))
                have f7 : f 7 = true := hI.fi.cl 8 _ rfl f8 7 (of_decide_eq_true (by kernel_rfl))
                obtain ⟨vo, vr, l, R', S, hS, e58, hN, hRG, hgd, hll, h8, h9, h10, h11, h12⟩ := hI.j.tp f7
                have es := (h8 f8)
                unfold Oper.wp; simp [execOp, es, go_sem]
                exact hK _ _ (fun _ _ => trivial) (fun _ _ _ _ h => h) ⟨hI.j.sq, hI.j.sz, fun _ => ⟨vo, vr, l, R', S, hS, (gt_put_ne a _ _ 58 (by decide)).trans e58, hN, hRG, hgd, hll, fun e => (gt_put_ne a _ _ 50 (by decide)).trans (h8 ((upd_ne f (by decide)).symm.trans e)), fun _ => gt_put_eq a 59 _ (by rw [hsz]; decide), fun e => (gt_put_ne a _ _ 60 (by decide)).trans (h10 ((upd_ne f (by decide)).symm.trans e)), fun e => (gt_put_ne a _ _ 15 (by decide)).trans (h11 ((upd_ne f (by decide)).symm.trans e)), fun e => (gt_put_ne a _ _ 16 (by decide)).trans (h12 ((upd_ne f (by decide)).symm.trans e))⟩⟩
              | 10, _ =>
                obtain rfl := Option.some.inj ho
                obtain rfl := Option.some.inj hp
                obtain rfl := Option.some.inj hr9
                refine want_yes rfl ?_
                have f8 : f 8 = true := hd 8 (of_decide_eq_true (by kernel_rfl))
                have f7 : f 7 = true := hI.fi.cl 8 _ rfl f8 7 (of_decide_eq_true (by kernel_rfl))
                obtain ⟨vo, vr, l, R', S, hS, e58, hN, hRG, hgd, hll, h8, h9, h10, h11, h12⟩ := hI.j.tp f7
                have es := (h8 f8)
                unfold Oper.wp; simp [execOp, es, go_sem]
                exact hK _ _ (fun _ _ => trivial) (fun _ _ _ _ h => h) ⟨hI.j.sq, hI.j.sz, fun _ => ⟨vo, vr, l, R', S, hS, (gt_put_ne a _ _ 58 (by decide)).trans e58, hN, hRG, hgd, hll, fun e => (gt_put_ne a _ _ 50 (by decide)).trans (h8 ((upd_ne f (by decide)).symm.trans e)), fun e => (gt_put_ne a _ _ 59 (by decide)).trans (h9 ((upd_ne f (by decide)).symm.trans e)), fun _ => gt_put_eq a 60 _ (by rw [hsz]; decide), fun e => (gt_put_ne a _ _ 15 (by decide)).trans (h11 ((upd_ne f (by decide)).symm.trans e)), fun e => (gt_put_ne a _ _ 16 (by decide)).trans (h12 ((upd_ne f (by decide)).symm.trans e))⟩⟩
              | 11, _ =>
                obtain rfl := Option.some.inj ho
                obtain rfl := Option.some.inj hp
                obtain rfl := Option.some.inj hr9
                refine want_yes rfl ?_
                have f9 : f 9 = true := hd 9 (of_decide_eq_true (by kernel_rfl))
                have f8 : f 8 = true := hI.fi.cl 9 _ rfl f9 8 (of_decide_eq_true (by kernel_rfl))
                have f7 : f 7 = true := hI.fi.cl 8 _ rfl f8 7 (of_decide_eq_true (by kernel_rfl))
                obtain ⟨vo, vr, l, R', S, hS, e58, hN, hRG, hgd, hll, h8, h9, h10, h11, h12⟩ := hI.j.tp f7
                have es := (h9 f9)
                unfold Oper.wp; simp [execOp, es, go_sem]
                exact hK _ _ (fun _ _ => trivial) (fun _ _ _ _ h => h) ⟨hI.j.sq, hI.j.sz, fun _ => ⟨vo, vr, l, R', S, hS, (gt_put_ne a _ _ 58 (by decide)).trans e58, hN, hRG, hgd, hll, fun e => (gt_put_ne a _ _ 50 (by decide)).trans (h8 ((upd_ne f (by decide)).symm.trans e)), fun e => (gt_put_ne a _ _ 59 (by decide)).trans (h9 ((upd_ne f (by decide)).symm.trans e)), fun e => (gt_put_ne a _ _ 60 (by decide)).trans (h10 ((upd_ne f (by decide)).symm.trans e)), fun _ => gt_put_eq a 15 _ (by rw [hsz]; decide), fun e => (gt_put_ne a _ _ 16 (by decide)).trans (h12 ((upd_ne f (by decide)).symm.trans e))⟩⟩
              | 12, _ =>
                obtain rfl := Option.some.inj ho
                obtain rfl := Option.some.inj hp
                obtain rfl := Option.some.inj hr9
                refine want_yes rfl ?_
                have f10 : f 10 = true := hd 10 (of_decide_eq_true (by kernel_rfl))
                have f8 : f 8 = true := hI.fi.cl 10 _ rfl f10 8 (of_decide_eq_true (by kernel_rfl))
                have f7 : f 7 = true := hI.fi.cl 8 _ rfl f8 7 (of_decide_eq_true (by kernel_rfl))
                obtain ⟨vo, vr, l, R', S, hS, e58, hN, hRG, hgd, hll, h8, h9, h10, h11, h12⟩ := hI.j.tp f7
                have es := (h10 f10)
                unfold Oper.wp; simp [execOp, es, go_sem]
                exact hK _ _ (fun _ _ => trivial) (fun _ _ _ _ h => h) ⟨hI.j.sq, hI.j.sz, fun _ => ⟨vo, vr, l, R', S, hS, (gt_put_ne a _ _ 58 (by decide)).trans e58, hN, hRG, hgd, hll, fun e => (gt_put_ne a _ _ 50 (by decide)).trans (h8 ((upd_ne f (by decide)).symm.trans e)), fun e => (gt_put_ne a _ _ 59 (by decide)).trans (h9 ((upd_ne f (by decide)).symm.trans e)), fun e => (gt_put_ne a _ _ 60 (by decide)).trans (h10 ((upd_ne f (by decide)).symm.trans e)), fun e => (gt_put_ne a _ _ 15 (by decide)).trans (h11 ((upd_ne f (by decide)).symm.trans e)), fun _ => gt_put_eq a 16 _ (by rw [hsz]; decide)⟩⟩
            · intro f g w9 hall hJ hg
              obtain ⟨vo, vr, l, R', S, hS, -, hN, hRG, hgd, hll, -, -, -, h11, h12⟩ := hJ.tp (hall 7 (by decide))
              have e15 := h11 (hall 11 (by decide))
              have e16 := h12 (hall 12 (by decide))
              have HX := Aside0.mk (And.intro hJ.sq (And.intro hN (And.intro hRG (And.intro hgd (And.intro hll hS)))))
              have HDz := Aside0.mk (show pb < wd.heap.size from blk_lt HD.out.g.pbk)
              clear hJ hg hN hRG hgd hll hS h11 h12 hall
              simp only [List.map_cons, List.map_nil, fill, List.setIfInBounds_toArray, List.set_cons_zero, List.set_cons_succ]
              rw [e15, e16]
              clear e15 e16
              obtain ⟨Ao, co, hvo⟩ := Kd.N_slice HX.out.2.1
              subst hvo
              obtain ⟨Ar, cr, hvr, -, -⟩ := HX.out.2.2.1.reads
              subst hvr
              have hpz := HDz.out
              have c3 := (blk_cell HX.out.1.g.pbk 3).trans rfl
              have hS9 : w.heap.size ≤ w9.heap.size := HX.out.1.g.chg.size
              have hp9 : pb < w9.heap.size := blk_lt HX.out.1.g.pbk
              have htl : ths.length ≤ 4 := by have := HT.out.2.1; omega
              go_wp2_with (first | ((with_reducible refine gate_builtin (b := .append) (xs := #[.tmp 62, .tmp 64]) rfl ?_); refine hold ?_))
              refine ⟨?_⟩
              (at_builtin; refine Kd.N_append kThr0 (w0 := w9) w.heap.size rfl (.tmp 62) (.tmp 64) 23 35 (.slice none 0 0) 24 rfl Try.underlying23 infoThr rfl (by decide) (by decide) (.slice AT ths.length cT) ths l [.slice Ao l.length co] (fun k => w.heap.size + 1 < k ∧ k ≠ pb ∧ some k ≠ (Value.slice AR RS.length cR).ownBlock ∧ some k ≠ vI.ownBlock) (fun k => S ≤ k) (by first | rfl | (simp [Act.eval]; done)) (by first | rfl | (simp [Act.eval]; done)) (thr_FK HX.out.2.1) (fun k hk => ⟨⟨by have := HX.out.2.2.2.2.2; omega, by have := HX.out.2.2.2.2.2; omega, fun e => by have := Kd.N_lt HD.out.nR k e.symm; have := HX.out.2.2.2.2.2; omega, fun e => by have := Kd.R_lt HD.out.rI k e.symm; have := HX.out.2.2.2.2.2; omega⟩, fun e => by have := Kd.N_lt HD.out.nT k e.symm; have := HX.out.2.2.2.2.2; omega⟩) (fun k hk => ⟨by omega, by omega, fun e => by have := Kd.N_lt HX.out.1.nR k e.symm; omega, fun e => by have := Kd.R_lt HX.out.1.rI k e.symm; omega⟩) HX.out.1.nT (Below.refl _ _) hS9 (by omega) ?_; intro v1 w1 hn1' hb1 hg1 hat1)
              have hQ2 := HX.out.1.appT hmw HM.out.1.size hpb2 hn1' hg1 hat1
              have hG1 := HX.out.1.g.grown hmw hg1 (Kd.N_base HX.out.1.nT) (Kd.N_typed HX.out.1.nT) (by decide) (by decide)
              have hr2 := (HX.out.2.2.1.grown hg1 (Kd.N_typed HX.out.1.nT) (by decide)).set hG1.pbk (by decide) 3 v1
              obtain ⟨A1, c1, hv1⟩ := Kd.N_slice hn1'
              have hlen1 : (ths ++ [l]).length = ths.length + 1 := by simp
              rw [hlen1] at hv1
              subst hv1
              have c3' := (blk_cell hG1.pbk 3).trans rfl
              have fz' := blk_frozen hG1.pbk 3
              have HQ2 := Aside0.mk (And.intro hQ2 hr2)
              clear hn1' hb1 hg1 hat1 hQ2 hG1 hr2 c3 hlen1
              go_upto_region 12 with fail
              generalize World.setCell _ _ _ = w2 at HQ2 ⊢
              clear c3' fz'
              have hS2 : w.heap.size ≤ w2.heap.size := HQ2.out.1.g.chg.size
              have hrl2 : RS.length ≤ 4 := by have := HT.out.2.2.1; omega
              have hp2 : pb < w2.heap.size := blk_lt HQ2.out.1.g.pbk
              go_wp2_with (first | ((with_reducible refine gate_builtin (b := .append) (xs := #[.tmp 67, .tmp 69]) rfl ?_); refine hold ?_))
              refine ⟨?_⟩
              (at_builtin; refine Kd.N_append kRegs (w0 := w2) w.heap.size rfl (.tmp 67) (.tmp 69) 71 37 (.slice none 0 0) 24 rfl Try.underlying71 infoRg rfl (by decide) (by decide) (.slice AR RS.length cR) RS R' [.slice Ar R'.length cr] (fun k => k ≠ m ∧ k ≠ pb ∧ some k ≠ (Value.slice A1 (ths.length + 1) c1).ownBlock) (fun k => some k = (Value.slice Ar R'.length cr).ownBlock) (by first | rfl | (simp [Act.eval]; done)) (by first | rfl | (simp [Act.eval]; done)) (regs_FK HQ2.out.2) (fun k hk => regs_ok HQ2.out.1 HQ2.out.2 k hk) (fun k hk => ⟨by omega, by omega, fun e => by have := Kd.N_lt HQ2.out.1.nT k e.symm; omega⟩) HQ2.out.1.nR (Below.refl _ _) hS2 (by omega) ?_; intro v3 w3 hn3 hb3 hg3 hat3)
              have HQ3 := Aside0.mk (HQ2.out.1.appR hmw hn3 hg3 hat3)
              have HI := Aside0.mk hlt
              clear hn3 hb3 hg3 hat3 hlt
              go_wp2
              go_roundw
              case rel => exact ⟨t + 1, _, ths ++ [l], RS ++ [R'], HI.out, by go_num, ⟨HQ3.out, by rw [List.length_append, HT.out.2.1]; rfl, by rw [List.length_append, HT.out.2.2.1]; rfl, fun k l1 R1 h1 h2 => by
                by_cases hk : k < t
                · rw [List.getElem?_append_left (by rw [HT.out.2.1]; exact hk)] at h1
                  rw [List.getElem?_append_left (by rw [HT.out.2.2.1]; exact hk)] at h2
                  exact HT.out.2.2.2.1 k l1 R1 h1 h2
                · have hk2 : k = t := by
                    have := (List.getElem?_eq_some_iff.1 h1).1
                    rw [List.length_append, HT.out.2.1] at this
                    simp at this; omega
                  subst hk2
                  rw [List.getElem?_append_right (by rw [HT.out.2.1]; exact Nat.le_refl _), HT.out.2.1, Nat.sub_self] at h1
                  rw [List.getElem?_append_right (by rw [HT.out.2.2.1]; exact Nat.le_refl _), HT.out.2.2.1, Nat.sub_self] at h2
                  obtain rfl : l = l1 := by simpa using h1
                  obtain rfl : R' = R1 := by simpa using h2
                  exact ⟨HX.out.2.2.2.1, HX.out.2.2.2.2.1⟩, fun R1 h1 => by
                rcases List.mem_append.1 h1 with q | q
                · exact HT.out.2.2.2.2 R1 q
                · obtain rfl := List.mem_singleton.1 q
                  have h5 := gdB_len _ _ _ _ _ _ HX.out.2.2.2.1
                  have h6 := HX.out.2.2.2.2.1
                  rw [List.length_nil, Nat.zero_add] at h5
                  omega⟩⟩
              case measure => have := HI.out; simp [intOf]; omega
            · intro f hf
              exact ⟨HD.out, Nat.le_refl _, fun e => absurd ((hf 7).symm.trans e) (by decide)⟩
          · have e1 : decide ((t : Int) < (nt : Int)) = false := decide_eq_false (by omega)
            have e2 : decide (t < nt) = false := decide_eq_false hlt
            have htn : nt = t := by omega
            obtain ⟨AI, cI, hvI⟩ := Kd.R_slice HQ.out.rI
            subst hvI
            have g0 := (blk_cell HQ.out.g.hbk 0).trans rfl
            have g1 := (blk_cell HQ.out.g.hbk 1).trans rfl
            have g2 := (blk_cell HQ.out.g.hbk 2).trans rfl
            have g3 := (blk_cell HQ.out.g.hbk 3).trans rfl
            have hFR : Kd.F kRegs wr (fun k => k ≠ m ∧ k < wr.heap.size) AR RS.length RS := Kd.F_mono (Kd.F_bound (Kd.N_F HQ.out.nR)) (fun k hk => ⟨hk.1.1, hk.2⟩)
            have HC := Aside0.mk (mcond_any 2 (by decide) w0 wr m HQ.out.g.ms vals nl AR cR RS hv2 hn1 hn4 (by have := HT.out.2.2.1; omega) (by have := HT.out.2.2.1; omega) HT.out.2.2.2.2 hFR)
            clear hFR
            go_wp2_with fail
            refine HC.out.mono ?_
            rintro e wc ⟨x, A5, c5, rfl, hl5, hgd5, hF5, hm5, hc5⟩
            have HQ5 := Aside0.mk (HQ.out.call hmw (by omega) hm5 hc5)
            have hpw : pb < wr.heap.size := blk_lt HQ.out.g.pbk
            obtain ⟨hp59, hch59⟩ := put59 HQ5.out.g.pbk (.int .i64 x.f0) (.int .i64 x.f1) (.string x.f2) (.int .i64 x.f3) (.slice A5 x.f4.length c5)
            have HX := Aside0.mk (And.intro hl5 (And.intro hgd5 (And.intro hF5 (And.intro hp59 hch59))))
            have cc5 := (blk_cell HQ5.out.g.pbk 5).trans rfl
            have c6 := (blk_cell HQ5.out.g.pbk 6).trans rfl
            have c7 := (blk_cell HQ5.out.g.pbk 7).trans rfl
            have c8 := (blk_cell HQ5.out.g.pbk 8).trans rfl
            have c9 := (blk_cell HQ5.out.g.pbk 9).trans rfl
            have fz := blk_frozen HQ5.out.g.pbk
            clear hl5 hgd5 hF5 hp59 hch59 hm5 hc5 g0 g1 g2 g3 HC
            go_upto_region 14 with fail
            generalize World.setCell _ _ _ = w5 at HX ⊢
            clear c6 c7 c8 c9 fz
            have hrb5 : w5.heap[w.heap.size + 1]? = some zPrg := HX.out.2.2.2.2.heap HQ5.out.g.rb (by omega)
            have hb5 := HX.out.2.2.2.1
            have hpc : pb < wc.heap.size := blk_lt HQ5.out.g.pbk
            have hrc : w.heap.size + 1 < wc.heap.size := blk_lt HQ5.out.g.rb
            obtain ⟨hr10, hch10⟩ := put10 hrb5 (.string madeB) (.int .i64 vals) (.slice AI inits.length cI) (.slice AT ths.length cT) (.int .i64 ask) (.int .i64 x.f0) (.int .i64 x.f1) (.string x.f2) (.int .i64 x.f3) (.slice A5 x.f4.length c5)
            obtain ⟨W1, hW1⟩ : ∃ W1, W1 = ((((((((((w5.setCell ⟨w.heap.size + 1, 0, none⟩ (.string madeB)).setCell ⟨w.heap.size + 1, 1, none⟩ (.int .i64 vals)).setCell ⟨w.heap.size + 1, 2, none⟩ (.slice AI inits.length cI)).setCell ⟨w.heap.size + 1, 3, none⟩ (.slice AT ths.length cT)).setCell ⟨w.heap.size + 1, 4, none⟩ (.int .i64 ask)).setCell ⟨w.heap.size + 1, 5, none⟩ (.int .i64 x.f0)).setCell ⟨w.heap.size + 1, 6, none⟩ (.int .i64 x.f1)).setCell ⟨w.heap.size + 1, 7, none⟩ (.string x.f2)).setCell ⟨w.heap.size + 1, 8, none⟩ (.int .i64 x.f3)).setCell ⟨w.heap.size + 1, 9, none⟩ (.slice A5 x.f4.length c5)) := ⟨_, rfl⟩
            rw [← hW1] at hr10 hch10
            have hcc : Chg (fun k => k = pb ∨ k = w.heap.size + 1) wc W1 := (HX.out.2.2.2.2.mono (fun k hk => Or.inl hk)).trans hch10 (fun k _ hk => Or.inr hk)
            have HR := Aside0.mk (show ProgPost w0 w m vals nl nt (.returned (.agg #[.string madeB, .int .i64 vals, .slice AI inits.length cI, .slice AT ths.length cT, .int .i64 ask, .int .i64 x.f0, .int .i64 x.f1, .string x.f2, .int .i64 x.f3, .slice A5 x.f4.length c5])) W1 from
              ⟨_, _, inits, ths, RS, ask, x, A5, c5, rfl,
                Kd.R_mono (Kd.R_step (Kd.R_types (Kd.R_types HQ5.out.rI HQ5.out.g.pbk (by decide)) HQ5.out.g.rb (by decide)) (fun k hk hk2 => hcc.block k hk2 (fun e => e.elim hk.1.2 hk.2))) (fun k hk => hk.1.1),
                Kd.N_mono (Kd.N_step HQ5.out.nT (fun k hk hk2 => hcc.block k hk2 (fun e => by have := hk.1; have := hk.2.1; omega))) (fun k hk => ⟨by have := hk.1; omega, hk.2.2.2⟩),
                HX.out.1,
                Kd.F_mono (Kd.F_step HX.out.2.2.1 (fun k hk hk2 => hcc.block k hk2 (fun e => by have hk' : wr.heap.size ≤ k := hk; omega))) (fun k hk => by have hk' : wr.heap.size ≤ k := hk; exact ⟨by omega, fun e => by have := Kd.R_lt HQ.out.rI k e.symm; omega, fun e => by have := Kd.N_lt HQ.out.nT k e.symm; omega⟩),
                HASK.out, HIN.out.1, HIN.out.2, HT.out.2.1.trans htn.symm, HT.out.2.2.1.trans htn.symm, fun t' l R h1 h2 => HT.out.2.2.2.1 t' l R h1 h2, HX.out.2.1,
                HQ5.out.g.ms.chg hcc (fun e => by omega) (fun k e => by have := HM.out.ge; omega), HQ5.out.g.chg.trans hcc (fun k hk e => by omega)⟩)
            have e0 := (blk_cell hb5 0).trans rfl
            have e1 := (blk_cell hb5 1).trans rfl
            have e2 := (blk_cell hb5 2).trans rfl
            have e3 := (blk_cell hb5 3).trans rfl
            have e4 := (blk_cell hb5 4).trans rfl
            have e5 := (blk_cell hb5 5).trans rfl
            have e6 := (blk_cell hb5 6).trans rfl
            have e7 := (blk_cell hb5 7).trans rfl
            have e8 := (blk_cell hb5 8).trans rfl
            have e9 := (blk_cell hb5 9).trans rfl
            have z0 := (blk_cell hrb5 0).trans rfl
            have z1 := (blk_cell hrb5 1).trans rfl
            have z2 := (blk_cell hrb5 2).trans rfl
            have z3 := (blk_cell hrb5 3).trans rfl
            have z4 := (blk_cell hrb5 4).trans rfl
            have z5 := (blk_cell hrb5 5).trans rfl
            have z6 := (blk_cell hrb5 6).trans rfl
            have z7 := (blk_cell hrb5 7).trans rfl
            have z8 := (blk_cell hrb5 8).trans rfl
            have z9 := (blk_cell hrb5 9).trans rfl
            have zf := blk_frozen hrb5
            have HRB := Aside0.mk hr10
            clear hr10 hch10 hcc hb5 hrb5
            go_wp2
            rw [← hW1]
            refine bodyPost_ret (results_cell_row rfl _ _ (w.heap.size + 1) 28 #[.string madeB, .int .i64 vals, .slice AI inits.length cI, .slice AT ths.length cT, .int .i64 ask, .int .i64 x.f0, .int .i64 x.f1, .string x.f2, .int .i64 x.f3, .slice A5 x.f4.length c5] (0, 0) _ rfl HRB.out Try.underlying28 rfl (by kernel_rfl)) rfl ?_
            exact HR.out
  · intro f hf
    exact ⟨HD.out.1, Chg.refl _ _, fun e _ => absurd ((hf 6).symm.trans e) (by decide), fun e => absurd ((hf 7).symm.trans e) (by decide)⟩
end Go.Proofs.Ytlhbnbckanmaiaa.K
namespace Go.Proofs.Ytlhbnbckanmaiaa.K
open Go Go.RowKit Go.Proofs.YtlhbnbckanmaiaaW.PrintWords Go.Proofs.YtlhbnbckanmaiaaW.PrintLast Go.Proofs.YtlhbnbckanmaiaaW.PrintMore Go.Proofs.Ytlhbnbckanmaiaa.PC1
set_option linter.unusedVariables false
set_option linter.unusedSimpArgs false
theorem ProgPost.ms {w0 w w' : World} {m : Nat} {vals : Int} {nl nt : Nat} {e : Ending} (h : ProgPost w0 w m vals nl nt e w') : MS w0 w' m := by
  obtain ⟨vI, vT, inits, ths, RS, ask, x, A, c, he, hI, hT, hl, hF, ha, hn, hy, h1, h2, h3, h4, h5, h6⟩ := h; exact h5
theorem ProgPost.chg {w0 w w' : World} {m : Nat} {vals : Int} {nl nt : Nat} {e : Ending} (h : ProgPost w0 w m vals nl nt e w') : Chg (fun k => k = m) w w' := by
  obtain ⟨vI, vT, inits, ths, RS, ask, x, A, c, he, hI, hT, hl, hF, ha, hn, hy, h1, h2, h3, h4, h5, h6⟩ := h; exact h6
/-- .. without what the world was. -/
def ProgPost1 (w : World) (vals : Int) (nl nt : Nat) (e : Ending) (w' : World) : Prop :=
  ∃ (vI vT : Value) (inits : List TCell) (ths : List (List TStmt)) (RS : List (List ByteArray)) (ask : Int) (x : TCond) (A : Option Addr) (c : Nat),
    e = .returned (.agg #[.string madeB, .int .i64 vals, vI, vT, .int .i64 ask, .int .i64 x.f0, .int .i64 x.f1, .string x.f2, .int .i64 x.f3, .slice A x.f4.length c]) ∧
    Kd.R kCell 51 w' w.heap.size (fun k => w.heap.size ≤ k) vI inits ∧ Kd.N kThr0 35 w' w.heap.size (fun k => w.heap.size ≤ k ∧ some k ≠ vI.ownBlock) vT ths ∧ x.f4.length ≤ c ∧ Kd.F kCond w' (fun k => w.heap.size ≤ k ∧ some k ≠ vI.ownBlock ∧ some k ≠ vT.ownBlock) A x.f4.length x.f4 ∧
    (ask = 1 ∨ ask = 2) ∧ inits.map (fun c => c.f0) = loc4.take nl ∧ (∀ y ∈ inits, 0 ≤ y.f1 ∧ y.f1 < vals) ∧ ths.length = nt ∧ RS.length = nt ∧ (∀ (t : Nat) (l : List TStmt) (R : List ByteArray), ths[t]? = some l → RS[t]? = some R → gdB vals nl 1 [] l R ∧ l.length ≤ 4) ∧ gdC vals nl RS 2 x
theorem ProgPost.one {w0 w : World} {m : Nat} {vals : Int} {nl nt : Nat} {e : Ending} {w' : World} (h : ProgPost w0 w m vals nl nt e w') : ProgPost1 w vals nl nt e w' := by
  obtain ⟨vI, vT, inits, ths, RS, ask, x, A, c, he, hI, hT, hl, hF, ha, hn, hy, h1, h2, h3, h4, h5, h6⟩ := h
  exact ⟨vI, vT, inits, ths, RS, ask, x, A, c, he, hI, hT, hl, hF, ha, hn, hy, h1, h2, h3, h4⟩
theorem ProgPost1.set {w w1 : World} {vals : Int} {nl nt : Nat} {e : Ending} {w' : World} (h : ProgPost1 w vals nl nt e w') {F : Nat → Prop} (hc : Chg F w' w1) (hb : ∀ k, F k → k < w.heap.size) : ProgPost1 w vals nl nt e w1 := by
  obtain ⟨vI, vT, inits, ths, RS, ask, x, A, c, he, hI, hT, hl, hF, ha, hn, hy, h1, h2, h3, h4⟩ := h
  exact ⟨vI, vT, inits, ths, RS, ask, x, A, c, he, Kd.R_step hI (fun k hk hlt => hc.block k hlt (fun e => by have := hb k e; omega)), Kd.N_step hT (fun k hk hlt => hc.block k hlt (fun e => by have := hb k e; omega)), hl, Kd.F_step hF (fun k hk hlt => hc.block k hlt (fun e => by have := hb k e; omega)), ha, hn, hy, h1, h2, h3, h4⟩
/-- A program's value in the slot. -/
def PVx (wd : World) (vals : Int) (nl : Nat) (v : Value) (w : World) : Prop :=
  ∃ (w1 : World) (nt : Nat), wd.heap.size ≤ w1.heap.size ∧ 1 ≤ nt ∧ nt ≤ 4 ∧ ProgPost1 w1 vals nl nt (.returned v) w
theorem PVset {wd w9 w' : World} {vals : Int} {nl : Nat} {v : Value} (h : PVx wd vals nl v w9) {b : Nat} (hc : Chg (fun k => k = b) w9 w') (hb : b < wd.heap.size) : PVx wd vals nl v w' := by
  obtain ⟨w1, nt, hs, h1, h2, h3⟩ := h
  exact ⟨w1, nt, hs, h1, h2, h3.set hc (fun k hk => by omega)⟩
/-- What Maker.Prog gives: made behind the world wd. -/
def MadePost (w0 w : World) (m : Nat) (e : Ending) (w' : World) : Prop :=
  ∃ (wd : World) (vals : Int) (nl nt : Nat), 2 ≤ vals ∧ vals ≤ 4 ∧ 1 ≤ nl ∧ nl ≤ 4 ∧ 1 ≤ nt ∧ nt ≤ 4 ∧ w.heap.size < wd.heap.size ∧ MS w0 w' m ∧ ProgPost1 wd vals nl nt e w' ∧ Chg (fun k => k = m) w w'
/-- Where the world stands while the program is made. -/
structure JPr (w0 w wd : World) (m : Nat) (vals : Int) (nl : Nat) (f : Nat → Bool) (w9 : World) : Prop where
  ms : MS w0 w9 m
  chg : f 6 = false → Chg (fun k => k = m) wd w9
  st : f 6 = true → ∃ (w1 : World) (nt : Nat) (cs : Array Value), 1 ≤ nt ∧ nt ≤ 4 ∧ wd.heap.size ≤ w1.heap.size ∧ ProgPost1 w1 vals nl nt (.returned (.agg cs)) w9 ∧ w9.heap[w.heap.size]? = some (.cells cs 28 (0, 0)) ∧ Chg (fun k => k = m) w w9
theorem JPr.other {w0 w wd w9 : World} {m : Nat} {vals : Int} {nl : Nat} {f : Nat → Bool} (h : JPr w0 w wd m vals nl f w9) {i : Nat} (h2 : 6 ≠ i) : JPr w0 w wd m vals nl (upd f i) w9 :=
  ⟨h.ms, fun e => h.chg ((upd_ne f h2).symm.trans e), fun e => h.st ((upd_ne f h2).symm.trans e)⟩
theorem JPr.call {w0 w wd w9 w' : World} {m : Nat} {vals : Int} {nl : Nat} {f : Nat → Bool} (h : JPr w0 w wd m vals nl f w9) (h6 : f 6 = false) (hm : MS w0 w' m) (hc : Chg (fun k => k = m) w9 w') : JPr w0 w wd m vals nl f w' :=
  ⟨hm, fun e => (h.chg e).step hc, fun e => absurd (h6.symm.trans e) (by decide)⟩
set_option maxHeartbeats 4000000 in
set_option maxRecDepth 100000 in
theorem mprog_any (w0 w : World) (m : Nat) (hM : MS w0 w m) :
    Calls Try.prog 20 #[.pointer (some ⟨m, 0, none⟩)] w (MadePost w0 w m) := by
  have hmw := hM.lt
  have hbm : ¬ w.heap.size = m := by omega
  have HM := Aside0.mk hM
  clear hM
  go_enter Try.func20, Try.ntmps20
  go_wp2_with fail
  have hb1 : Below w.heap.size w (w.alloc zPrg) := below_al (Below.refl _ _) _
  have HR := Aside0.mk (And.intro (HM.out.step hb1) (And.intro (show (w.alloc zPrg).heap[w.heap.size]? = some zPrg from blk_new _ _) (Chg.of_below (F := fun k => k = m) hb1)))
  clear hb1
  refine (pick_any w0 _ m HR.out.1 3).mono ?_
  rintro e w2 ⟨r, rfl, hr0, hr1, hm2, hc2⟩
  have HR2 := Aside0.mk (And.intro hm2 (And.intro (hc2.heap HR.out.2.1 hbm) (HR.out.2.2.step hc2)))
  have HV := Aside0.mk (show 0 ≤ r ∧ r < 3 from ⟨hr0, by omega⟩)
  clear hm2 hc2 hr0 hr1 HR
  go_wp2_with fail
  refine (pick_any w0 _ m HR2.out.1 4).mono ?_
  rintro e w3 ⟨r4, rfl, hr0, hr1, hm2, hc2⟩
  have HR3 := Aside0.mk (And.intro hm2 (And.intro (hc2.heap HR2.out.2.1 hbm) (HR2.out.2.2.step hc2)))
  have HL := Aside0.mk (show 0 ≤ r4 ∧ r4 < 4 from ⟨hr0, by omega⟩)
  clear hm2 hc2 hr0 hr1 HR2
  go_upto_region 2 with fail
  have hv := HV.out
  have hl := HL.out
  have hw1 : wrap64 (2 + r) = 2 + r := by unfold wrap64; omega
  have hw2 : wrap64 (1 + r4) = ((1 + r4).toNat : Int) := by unfold wrap64; omega
  rw [hw1, hw2]
  obtain ⟨vals, hvals⟩ : ∃ vals, 2 + r = vals := ⟨_, rfl⟩
  obtain ⟨nl, hnl⟩ : ∃ nl, (1 + r4).toNat = nl := ⟨_, rfl⟩
  rw [hvals, hnl]
  have hv2 : 2 ≤ vals ∧ vals ≤ 4 := by omega
  have HV := Aside0.mk hv2
  have hnl4 : 1 ≤ nl ∧ nl ≤ 4 := by omega
  have HNL := Aside0.mk hnl4
  clear hv hl hw1 hw2 hvals hnl hv2 hnl4 HL
  have hb4 : Below w3.heap.size w3 (w3.alloc (.cells #[.int .i64 vals, .int .i64 nl, .bool false, .bool false] 94 (0, 0))) := below_al (Below.refl _ _) _
  refine wp_region_any (by kernel_rfl) ?_
  obtain ⟨wd, hwd⟩ : ∃ wd, wd = (w3.alloc (.cells #[.int .i64 vals, .int .i64 nl, .bool false, .bool false] 94 (0, 0))).drew := ⟨_, rfl⟩
  change wpAny _ _ _ _ _ _ _ (w3.alloc (.cells #[.int .i64 vals, .int .i64 nl, .bool false, .bool false] 94 (0, 0))).drew
  rw [← hwd]
  have hbd : Below w3.heap.size w3 wd := by rw [hwd]; exact below_drew hb4
  have hs3 : w.heap.size < w3.heap.size := blk_lt HR3.out.2.1
  have HD := Aside0.mk (And.intro (HR3.out.1.step hbd) (And.intro (HR3.out.2.2.step (Chg.of_below (F := fun k => k = m) hbd)) (And.intro (blk_below HR3.out.2.1 hbd) (show wd.heap[w3.heap.size]? = some (.cells #[.int .i64 vals, .int .i64 nl, .bool false, .bool false] 94 (0, 0)) from by rw [hwd]; exact blk_new _ _))))
  have hmd : m < wd.heap.size := HD.out.1.lt
  have hrm : ¬ w3.heap.size = m := by omega
  have hrd : w.heap.size < wd.heap.size := blk_lt HD.out.2.2.1
  clear hbd hb4 hwd HR3
  refine wpAny_flow2 rfl (by kernel_rfl) [some 11, some 12, some 13, some 14, some 15, some 16, none] rfl (by decide) [11, 12, 13, 14, 15, 16] rfl 17 rfl (by decide) (fun k v w9 => match k with | 0 => v = .pointer (some (⟨m, 0, none⟩ : Addr)) | 1 => v = .agg #[.int .i64 vals, .int .i64 (nl : Int), .bool false, .bool false] | 2 => v = .pointer (some (⟨m, 0, none⟩ : Addr)) | 3 => (∃ r, v = .int .i64 r ∧ 0 ≤ r ∧ r < 4) | 4 => (∃ nt : Nat, v = .int .i64 (nt : Int) ∧ 1 ≤ nt ∧ nt ≤ 4) | 5 => PVx wd vals nl v w9 | _ => True) (JPr w0 w wd m vals nl) ?_ ?_ ?_ _ _ (by simp) (by decide) (no_flag 7)
  · intro i9 o dd r9 f a w9 ho hp hr9 hI hf hd K hK
    have hi9 : i9 < 7 := (Array.getElem?_eq_some_iff.1 ho).1
    match i9, hi9 with
    | 0, _ =>
      obtain rfl := Option.some.inj ho
      obtain rfl := Option.some.inj hp
      obtain rfl := Option.some.inj hr9
      have n5 : f 5 = false := hI.nf2 (i := 0) (k := 5) hf (by kernel_rfl)
      have n6 : f 6 = false := hI.nf2 (i := 5) (k := 6) n5 (by kernel_rfl)
      refine want_yes rfl ?_
      have e := (hI.sl 0 rfl).trans (rfl : _ = (.pointer (some (⟨m, 0, none⟩ : Addr)) : Value))
      unfold Oper.wp; simp [execOp, e, go_sem]; exact hK _ _ (fun _ _ => rfl) (fun _ _ _ _ h => h) (hI.j.other (by decide))
    | 1, _ =>
      obtain rfl := Option.some.inj ho
      obtain rfl := Option.some.inj hp
      obtain rfl := Option.some.inj hr9
      have n5 : f 5 = false := hI.nf2 (i := 1) (k := 5) hf (by kernel_rfl)
      have n6 : f 6 = false := hI.nf2 (i := 5) (k := 6) n5 (by kernel_rfl)
      refine want_yes rfl ?_
      have e := (hI.sl 3 rfl).trans (rfl : _ = (.pointer (some (⟨w3.heap.size, 0, none⟩ : Addr)) : Value))
      have hk := (hI.j.chg n6).heap HD.out.2.2.2 hrm
      have c0 := (blk_cell hk 0).trans rfl
      have c1 := (blk_cell hk 1).trans rfl
      have c2 := (blk_cell hk 2).trans rfl
      have c3 := (blk_cell hk 3).trans rfl
      unfold Oper.wp; simp [execOp, e, c0, c1, c2, c3, go_sem]; exact hK _ _ (fun _ _ => rfl) (fun _ _ _ _ h => h) (hI.j.other (by decide))
    | 2, _ =>
      obtain rfl := Option.some.inj ho
      obtain rfl := Option.some.inj hp
      obtain rfl := Option.some.inj hr9
      have n3 : f 3 = false := hI.nf2 (i := 2) (k := 3) hf (by kernel_rfl)
      have n4 : f 4 = false := hI.nf2 (i := 3) (k := 4) n3 (by kernel_rfl)
      have n5 : f 5 = false := hI.nf2 (i := 4) (k := 5) n4 (by kernel_rfl)
      have n6 : f 6 = false := hI.nf2 (i := 5) (k := 6) n5 (by kernel_rfl)
      refine want_yes rfl ?_
      have e := (hI.sl 0 rfl).trans (rfl : _ = (.pointer (some (⟨m, 0, none⟩ : Addr)) : Value))
      unfold Oper.wp; simp [execOp, e, go_sem]; exact hK _ _ (fun _ _ => rfl) (fun _ _ _ _ h => h) (hI.j.other (by decide))
    | 3, _ =>
      obtain rfl := Option.some.inj ho
      obtain rfl := Option.some.inj hp
      obtain rfl := Option.some.inj hr9
      have n4 : f 4 = false := hI.nf2 (i := 3) (k := 4) hf (by kernel_rfl)
      have n5 : f 5 = false := hI.nf2 (i := 4) (k := 5) n4 (by kernel_rfl)
      have n6 : f 6 = false := hI.nf2 (i := 5) (k := 6) n5 (by kernel_rfl)
      have e := (show gt a 13 = .pointer (some (⟨m, 0, none⟩ : Addr)) from hI.v 2 13 rfl (hd 2 (of_decide_eq_true (by kernel_rfl))))
      refine goes_ (N := some 14) Try.func37 (by kernel_rfl) rfl #[.pointer (some (⟨m, 0, none⟩ : Addr)), .int .i64 4] (by simp [Region.wanted]) rfl rfl (by simp [Act.eval]; exact e) ?_
      refine Calls.mono (pick_any w0 w9 m hI.j.ms 4) ?_
      rintro _ w5 ⟨r, rfl, hr0, hr1, hm5, hc5⟩
      exact ⟨_, rfl, hK _ _ (fun _ _ => ⟨r, rfl, hr0, by omega⟩) (fun k d hk hfk h => by rcases k with _ | _ | _ | _ | _ | _ | k <;> first | exact h | exact absurd (n5.symm.trans hfk) (by decide)) ((hI.j.call n6 hm5 hc5).other (by decide))⟩
    | 4, _ =>
      obtain rfl := Option.some.inj ho
      obtain rfl := Option.some.inj hp
      obtain rfl := Option.some.inj hr9
      have n5 : f 5 = false := hI.nf2 (i := 4) (k := 5) hf (by kernel_rfl)
      have n6 : f 6 = false := hI.nf2 (i := 5) (k := 6) n5 (by kernel_rfl)
      refine want_yes rfl ?_
      obtain ⟨r, e, hr0, hr1⟩ := (show ∃ r, gt a 14 = .int .i64 r ∧ 0 ≤ r ∧ r < 4 from hI.v 3 14 rfl (hd 3 (of_decide_eq_true (by kernel_rfl))))
      have hw : wrap64 (1 + r) = 1 + r := by unfold wrap64; omega
      have hz : (1 + r) = ((1 + r).toNat : Int) := by omega
      unfold Oper.wp; simp [execOp, e, i64_w, hw, go_sem]
      exact hK _ _ (fun _ _ => ⟨(1 + r).toNat, by rw [← hz], by omega, by omega⟩) (fun _ _ _ _ h => h) (hI.j.other (by decide))
    | 5, _ =>
      obtain rfl := Option.some.inj ho
      obtain rfl := Option.some.inj hp
      obtain rfl := Option.some.inj hr9
      have n6 : f 6 = false := hI.nf2 (i := 5) (k := 6) hf (by kernel_rfl)
      have e0 := (show gt a 11 = .pointer (some (⟨m, 0, none⟩ : Addr)) from hI.v 0 11 rfl (hd 0 (of_decide_eq_true (by kernel_rfl))))
      have e1 := (show gt a 12 = .agg #[.int .i64 vals, .int .i64 (nl : Int), .bool false, .bool false] from hI.v 1 12 rfl (hd 1 (of_decide_eq_true (by kernel_rfl))))
      obtain ⟨nt, e2, hnt1, hnt4⟩ := (show ∃ nt : Nat, gt a 15 = .int .i64 (nt : Int) ∧ 1 ≤ nt ∧ nt ≤ 4 from hI.v 4 15 rfl (hd 4 (of_decide_eq_true (by kernel_rfl))))
      refine goes_ (N := some 16) Try.func38 (by kernel_rfl) rfl #[.pointer (some (⟨m, 0, none⟩ : Addr)), .agg #[.int .i64 vals, .int .i64 (nl : Int), .bool false, .bool false], .int .i64 (nt : Int), .int .i64 4, .int .i64 1] (by simp [Region.wanted]) rfl rfl (by simp [Act.eval]; exact ⟨e0, e1, e2⟩) ?_
      refine Calls.mono (prog_any w0 w9 m hI.j.ms vals nl nt HV.out.1 (by have := HV.out.2; omega) HNL.out.1 HNL.out.2 hnt1 hnt4) ?_
      rintro _ w5 hpp
      obtain ⟨vv, rfl⟩ : ∃ vv, _ = Ending.returned vv := ⟨_, hpp.choose_spec.choose_spec.choose_spec.choose_spec.choose_spec.choose_spec.choose_spec.choose_spec.choose_spec.1⟩
      have hm5 := hpp.ms
      have hc5 := hpp.chg
      exact ⟨_, rfl, hK _ _ (fun _ _ => ⟨w9, nt, (hI.j.chg n6).size, hnt1, hnt4, hpp.one⟩) (fun k d hk hfk h => by rcases k with _ | _ | _ | _ | _ | _ | k <;> first | exact h | exact absurd (hf.symm.trans hfk) (by decide)) ((hI.j.call n6 hm5 hc5).other (by decide))⟩
    | 6, _ =>
      obtain rfl := Option.some.inj ho
      obtain rfl := Option.some.inj hp
      obtain rfl := Option.some.inj hr9
      refine want_yes rfl ?_
      obtain ⟨w1, nt, hsz, hnt1, hnt4, hpp⟩ := (show PVx wd vals nl (gt a 16) w9 from hI.v 5 16 rfl (hd 5 (of_decide_eq_true (by kernel_rfl))))
      have hch6 := hI.j.chg hf
      have hz := hch6.heap HD.out.2.2.1 hbm
      have c0 := (blk_cell hz 0).trans rfl
      have c1 := (blk_cell hz 1).trans rfl
      have c2 := (blk_cell hz 2).trans rfl
      have c3 := (blk_cell hz 3).trans rfl
      have c4 := (blk_cell hz 4).trans rfl
      have c5 := (blk_cell hz 5).trans rfl
      have c6 := (blk_cell hz 6).trans rfl
      have c7 := (blk_cell hz 7).trans rfl
      have c8 := (blk_cell hz 8).trans rfl
      have c9 := (blk_cell hz 9).trans rfl
      have fz := blk_frozen hz
      have hpp2 := hpp
      obtain ⟨vI, vT, inits, ths, RS, ask, x, A, c, he, hRI, hNT, -⟩ := hpp2
      obtain ⟨AI, cI, rfl⟩ := Kd.R_slice hRI
      obtain ⟨AT, cT, rfl⟩ := Kd.N_slice hNT
      clear hRI hNT
      have hv16 := Ending.returned.inj he
      obtain ⟨hp10, hch⟩ := put10 hz (.string madeB) (.int .i64 vals) (.slice AI inits.length cI) (.slice AT ths.length cT) (.int .i64 ask) (.int .i64 x.f0) (.int .i64 x.f1) (.string x.f2) (.int .i64 x.f3) (.slice A x.f4.length c)
      have eR := (hI.sl 2 rfl).trans (rfl : _ = (.pointer (some (⟨w.heap.size, 0, none⟩ : Addr)) : Value))
      unfold Oper.wp; simp [execOp, eR, hv16, c0, c1, c2, c3, c4, c5, c6, c7, c8, c9, fz, go_sem]
      have hmw9 : MS w0 _ m := hI.j.ms.chg hch (fun e => by omega) (fun _ e => by have := HM.out.ge; omega)
      rw [hv16] at hpp
      exact hK undef _ (fun d h => by cases h) (fun k d hk hfk h => by rcases k with _ | _ | _ | _ | _ | _ | k <;> first | exact PVset h hch (by omega) | exact h) ⟨hmw9, fun e => absurd ((upd_eq f 6).symm.trans e) (by decide), fun _ => ⟨w1, nt, _, hnt1, hnt4, hsz, hpp.set hch (fun k hk => by have hk' : k = w.heap.size := hk; omega), hp10, (HD.out.2.1.step hch6).trans hch (fun k hk e => by have e' : k = w.heap.size := e; omega)⟩⟩
  · intro f g w9 hall hJ hg
    obtain ⟨w1, nt, v9, hnt1, hnt4, hsz, hpp, hrb9, hcw⟩ := hJ.st (hall 6 (by decide))
    have hms := hJ.ms
    clear hJ hg hall
    simp only [List.map_cons, List.map_nil, fill, List.setIfInBounds_toArray, List.set_cons_zero, List.set_cons_succ]
    have hs9 : v9.size = 10 := by obtain ⟨vI, vT, inits, ths, RS, ask, x, A, c, he, -⟩ := hpp; injection he with he; injection he with he; rw [he]; rfl
    have HRB := Aside0.mk (And.intro hrb9 hs9)
    have HZ := Aside0.mk (show MadePost w0 w m (.returned (.agg v9)) w9 from ⟨w1, vals, nl, nt, HV.out.1, HV.out.2, HNL.out.1, HNL.out.2, hnt1, hnt4, by omega, hms, hpp, hcw⟩)
    clear hpp hrb9 hcw hms hs9
    go_wp2
    refine bodyPost_ret (results_cell_row rfl _ _ w.heap.size 28 v9 (0, 0) _ rfl HRB.out.1 Try.underlying28 rfl (by rw [HRB.out.2]; kernel_rfl)) rfl ?_
    exact HZ.out
  · intro f hf
    exact ⟨HD.out.1, fun _ => Chg.refl _ _, fun e => absurd ((hf 6).symm.trans e) (by decide)⟩
end Go.Proofs.Ytlhbnbckanmaiaa.K
