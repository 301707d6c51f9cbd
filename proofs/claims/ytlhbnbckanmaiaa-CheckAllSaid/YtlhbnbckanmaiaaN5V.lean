/- A text of a claim (ours): the document's statements of one kind; conditions: none of ours. -/
import Derived.Test.YtlhbnbckanmaiaaN1V
import Derived.Test.YtlhbnbckanmaiaaM6V
namespace Go.Proofs.Ytlhbnbckanmaiaa.K
open Go Go.RowKit Go.Proofs.YtlhbnbckanmaiaaW.PrintWords Go.Proofs.YtlhbnbckanmaiaaW.PrintLast Go.Proofs.YtlhbnbckanmaiaaW.PrintMore Go.Proofs.Ytlhbnbckanmaiaa.PC1
set_option linter.unusedVariables false
set_option linter.unusedSimpArgs false
set_option maxHeartbeats 8000000 in
set_option maxRecDepth 100000 in
theorem one_4 (w0 W : World) (y : Nat) (P : AP) (AL : Option Addr) (cL : Nat) (vK : Value) (known : List ByteArray) (n part : Int) (h : WS w0 W y P.vals AL cL (P.init.map (fun x => x.f0)) vK known n part) (hn0 : 0 ≤ n) (hn1 : n ≤ 100000000) (hkl : known.length ≤ 4) (hil : P.init.length ≤ 1000)
    (m : Int) (r l : ByteArray) (args : List TExpr) (A4 A5 A6 : Option Addr) (c4 c5 c6 tl el : Nat) (deep : Int) (hC : Kd.C kExpr w0 A4 args.length args) (hc4 : args.length ≤ c4) (hr : r.size ≤ 1000) (hal : args.length ≤ 1000) (hsa : smEs args) (hd : ∀ x ∈ args, dE 20 x) (htl : tl ≤ 1000) (hel : el ≤ 1000) :
    Calls Try.prog 50 #[.pointer (some ⟨y, 0, none⟩), .agg #[.int .i64 4, .int .i64 m, .string r, .string l, .slice A4 args.length c4, .slice A5 tl c5, .slice A6 el c6], .int .i64 deep] W (OneOut w0 W y P AL cL known n part (argsE P.vals known (headS P (n + 1) deep known 4 m r l args.length tl el) args) (regsOf 4 known r)) := by
  have HF := Aside0.mk (And.intro hC (And.intro hr (And.intro hal (And.intro hsa (And.intro hd (And.intro hkl (And.intro hil hc4)))))))
  have HS0 := Aside0.mk h
  have hlt := h.lt
  have y3 := (blk_cell h.blk 3).trans rfl
  have hfz := blk_frozen h.blk
  have HS1 := Aside0.mk (ON.mk (W := W) (P := P) ((h.setN (n + 1)).step (below_alloc (Below.refl _ _) (.cells #[.int .i64 4, .int .i64 m, .string r, .string l, .slice A4 args.length c4, .slice A5 tl c5, .slice A6 el c6] 55 (0, 0)))) ((chg_set W y 3 (.int .i64 (n + 1))).step (Chg.of_below (F := fun k => k = y) (below_alloc (Below.refl _ _) (.cells #[.int .i64 4, .int .i64 m, .string r, .string l, .slice A4 args.length c4, .slice A5 tl c5, .slice A6 el c6] 55 (0, 0))))) (blk_newN W y (.int .i64 (n + 1)) (.cells #[.int .i64 4, .int .i64 m, .string r, .string l, .slice A4 args.length c4, .slice A5 tl c5, .slice A6 el c6] 55 (0, 0))) (show ¬ W.heap.size = y from by omega) (Nat.le_refl _))
  clear h hC hr hal hsa hd hkl hil hc4
  go_enter Try.func50, Try.ntmps50
  by_cases d1 : 16 < n + 1
  · have e1 : decide (16 < n + 1) = true := decide_eq_true d1
    have HE := Aside0.mk (headS_1 P (n + 1) deep known 4 m r l args.length tl el (by unfold st1 needE; simp [show ¬ (n + 1 ≤ 16) by omega]))
    go_wp2
    go_ret
    exact HS1.out.out _ 3 _ (headS_err _ _ _ _ _ _ _ _ _ _ _ args 3 HE.out (by decide)).symm (fun q => absurd ((headS_err _ _ _ _ _ _ _ _ _ _ _ args 3 HE.out (by decide)).symm.trans q) (by decide))
  have e1 : decide (16 < n + 1) = false := decide_eq_false d1
  by_cases d2 : 6 < deep
  · have e2 : decide (6 < deep) = true := decide_eq_true d2
    have HE := Aside0.mk (headS_1 P (n + 1) deep known 4 m r l args.length tl el (by unfold st1 needE; simp [show ¬ (deep ≤ 6) by omega]))
    go_wp2
    go_ret
    exact HS1.out.out _ 3 _ (headS_err _ _ _ _ _ _ _ _ _ _ _ args 3 HE.out (by decide)).symm (fun q => absurd ((headS_err _ _ _ _ _ _ _ _ _ _ _ args 3 HE.out (by decide)).symm.trans q) (by decide))
  have e2 : decide (6 < deep) = false := decide_eq_false d2
  have HE1 := Aside0.mk (show st1 (n + 1) deep 0 = 0 from by unfold st1 needE; simp; exact ⟨by omega, by omega⟩)
  have HEA := HE1
  go_wp2_with fail
  refine (witheref9_may.calls 5 4 m _ _ (may_eq 4 m)).mono ?_
  rintro r9 w2 ⟨rfl, hd2⟩
  have HS2 := Aside0.mk (HS1.out.step (drawn_below hd2))
  clear HS1 hd2 y3
  have x0 := (blk_cell HS2.out.hx 0).trans rfl
  have x1 := (blk_cell HS2.out.hx 1).trans rfl
  have x2 := (blk_cell HS2.out.hx 2).trans rfl
  have x4 := (blk_cell HS2.out.hx 4).trans rfl
  have x5 := (blk_cell HS2.out.hx 5).trans rfl
  have x6 := (blk_cell HS2.out.hx 6).trans rfl
  cases hm : mayB 4 m with
  | false =>
    have HE := Aside0.mk (headS_2 P (n + 1) deep known 4 m r l args.length tl el HE1.out (st2_bad 4 m args.length tl el (by decide) (by decide) hm))
    clear hm
    go_wp2
    go_ret
    exact HS2.out.out _ 1 _ (headS_err _ _ _ _ _ _ _ _ _ _ _ args 1 HE.out (by decide)).symm (fun q => absurd ((headS_err _ _ _ _ _ _ _ _ _ _ _ args 1 HE.out (by decide)).symm.trans q) (by decide))
  | true =>
  have HM := Aside0.mk hm
  clear hm
  by_cases d3 : args.length = 1
  case neg =>
    have e3 : ¬ ((args.length : Int) = 1) := by omega
    have e3' : ((args.length : Int) != 1) = true := by rw [bne_iff_ne]; exact e3
    have HE := Aside0.mk (headS_2 P (n + 1) deep known 4 m r l args.length tl el HE1.out (st2_bad2 4 m args.length tl el (by rw [show argsF 4 = 1 from rfl]; exact e3)))
    clear d3
    go_wp2
    go_ret
    exact HS2.out.out _ 1 _ (headS_err _ _ _ _ _ _ _ _ _ _ _ args 1 HE.out (by decide)).symm (fun q => absurd ((headS_err _ _ _ _ _ _ _ _ _ _ _ args 1 HE.out (by decide)).symm.trans q) (by decide))
  have e3 : (args.length : Int) = 1 := by omega
  have e3' : ((args.length : Int) != 1) = false := by rw [e3]; rfl
  have HD3 := Aside0.mk d3
  clear d3
  by_cases d4 : 0 < (tl : Int) + el
  · have e4 : decide (0 < (tl : Int) + el) = true := decide_eq_true d4
    have HE := Aside0.mk (headS_2 P (n + 1) deep known 4 m r l args.length tl el HE1.out (st3_bad 4 m args.length tl el (by decide) (by omega)))
    clear d4
    go_wp2
    go_ret
    exact HS2.out.out _ 1 _ (headS_err _ _ _ _ _ _ _ _ _ _ _ args 1 HE.out (by decide)).symm (fun q => absurd ((headS_err _ _ _ _ _ _ _ _ _ _ _ args 1 HE.out (by decide)).symm.trans q) (by decide))
  have e4 : decide (0 < (tl : Int) + el) = false := decide_eq_false d4
  have HE2 := Aside0.mk (st23_ok 4 m args.length tl el (by decide) (by decide) HM.out (by rw [HD3.out]; rfl) (fun _ => by omega))
  clear HM
  have hk := HS2.out.ws.lk
  obtain ⟨AK, cK, rfl, hcK, hfK⟩ := hk
  clear hcK hfK
  have y2 := (blk_cell HS2.out.ws.blk 2).trans rfl
  go_wp2_with fail
  refine (witheref9_sets.calls 4 true _ ((sets_eq 4).trans (by rfl))).mono ?_
  rintro r9 w3 ⟨rfl, hd3⟩
  replace HS2 := Aside0.mk (HS2.out.step (drawn_below hd3))
  clear hd3 x0 x1 x2 x4 y2
  clear x5 x6
  go_upto_if 78 with fail
  go_cut [] (fun wx => ∃ vK', Aside0 (ON w0 W wx y P AL cL vK' (regsOf 4 known r) (n + 1) part W.heap.size (.cells #[.int .i64 4, .int .i64 m, .string r, .string l, .slice A4 args.length c4, .slice A5 tl c5, .slice A6 el c6] 55 (0, 0))) ∧ Aside0 (st4 P 4 known r 0 = 0))
  case first =>
      have x2 := (blk_cell HS2.out.hx 2).trans rfl
      have y1 := (blk_cell HS2.out.ws.blk 1).trans rfl
      have hx2 := World.block_lt_of_cell? _ _ x2
      have hy1 := World.block_lt_of_cell? _ _ y1
      dsimp only at hx2 hy1
      cases hn : nameB r with
      | true =>
        have HN := Aside0.mk hn
        clear hn
        go_upto_region 15 with fail
        refine wp_region_any (by kernel_rfl) ?_
        replace HS2 := Aside0.mk (HS2.out.step (below_drew (Below.refl _ _)))
        refine wpAny_vals2 rfl (by kernel_rfl) ([(79, Value.pointer (some (⟨W.heap.size, 2, none⟩ : Addr))), (80, Value.string r), (81, Value.bool true), (82, Value.bool false), (83, Value.bool false), (84, Value.pointer (some (⟨y, 0, none⟩ : Addr))), (85, Value.pointer (some (⟨y, 0, none⟩ : Addr))), (86, Value.pointer (some (⟨y, 1, none⟩ : Addr))), (87, Value.slice AL (P.init.map (fun x => x.f0)).length cL), (88, Value.pointer (some (⟨W.heap.size, 2, none⟩ : Addr))), (89, Value.string r), (90, Value.bool (hasB (P.init.map (fun x => x.f0)) r)), (91, Value.bool (hasB (P.init.map (fun x => x.f0)) r))]) [79, 80, 81, 82, 83, 84, 85, 86, 87, 88, 89, 90, 91] rfl rfl (by decide) 159 rfl (by decide) ?_ ?_ _ _ (by simp) (by decide) (no_flag 13)
        · intro i o p r0 a w ho hp hr0 hsl hv hb K hK
          have hi : i < 13 := (Array.getElem?_eq_some_iff.1 ho).1
          match i, hi with
          | 0, _ =>
            obtain rfl := Option.some.inj ho
            obtain rfl := Option.some.inj hp
            obtain rfl := Option.some.inj hr0
            refine want_yes rfl ?_
            have e := (hsl 4 rfl).trans (rfl : _ = Value.pointer (some (⟨W.heap.size, 0, none⟩ : Addr)))
            unfold Oper.wp; simp [execOp, e, go_sem, -List.length_map]; exact hK _ (Below.refl _ _)
          | 1, _ =>
            obtain rfl := Option.some.inj ho
            obtain rfl := Option.some.inj hp
            obtain rfl := Option.some.inj hr0
            refine want_yes rfl ?_
            have e := hv 0 (of_decide_eq_true (by kernel_rfl)) _ rfl
            have c := pw_cell_below hb x2
            unfold Oper.wp; simp [execOp, e, c, go_sem, -List.length_map]; exact hK _ (Below.refl _ _)
          | 2, _ =>
            obtain rfl := Option.some.inj ho
            obtain rfl := Option.some.inj hp
            obtain rfl := Option.some.inj hr0
            have e := hv 1 (of_decide_eq_true (by kernel_rfl)) _ rfl
            refine goes_ (N := some 81) Try.func26 (by kernel_rfl) rfl #[.string r] (by simp [Region.wanted]) rfl rfl (by simp [Act.eval]; exact e) ?_
            refine (witheref6_Name.calls 1003 r _ _ (refName_eq r HF.out.2.1)).mono ?_
            rw [HN.out]
            rintro _ w4 ⟨rfl, hb4⟩
            exact ⟨_, rfl, hK _ hb4⟩
          | 3, _ =>
            obtain rfl := Option.some.inj ho
            obtain rfl := Option.some.inj hp
            obtain rfl := Option.some.inj hr0
            refine want_yes rfl ?_
            have e := hv 2 (of_decide_eq_true (by kernel_rfl)) _ rfl
            unfold Oper.wp; simp [execOp, e, go_sem, -List.length_map]; exact hK _ (Below.refl _ _)
          | 4, _ =>
            obtain rfl := Option.some.inj ho
            obtain rfl := Option.some.inj hp
            obtain rfl := Option.some.inj hr0
            refine want_yes rfl ?_
            have e := hv 3 (of_decide_eq_true (by kernel_rfl)) _ rfl
            unfold Oper.wp; simp [execOp, e, go_sem, -List.length_map]; exact hK _ (Below.refl _ _)
          | 5, _ =>
            obtain rfl := Option.some.inj ho
            obtain rfl := Option.some.inj hp
            obtain rfl := Option.some.inj hr0
            refine wants_no rfl rfl rfl (hv 4 (of_decide_eq_true (by kernel_rfl)) _ rfl) ?_
            have e := (hsl 0 rfl).trans (rfl : _ = Value.pointer (some (⟨y, 0, none⟩ : Addr)))
            unfold Oper.wp; simp [execOp, e, go_sem, -List.length_map]; exact hK _ (Below.refl _ _)
          | 6, _ =>
            obtain rfl := Option.some.inj ho
            obtain rfl := Option.some.inj hp
            obtain rfl := Option.some.inj hr0
            refine wants_no rfl rfl rfl (hv 4 (of_decide_eq_true (by kernel_rfl)) _ rfl) ?_
            have e := hv 5 (of_decide_eq_true (by kernel_rfl)) _ rfl
            unfold Oper.wp; simp [execOp, e, go_sem, -List.length_map]; exact hK _ (Below.refl _ _)
          | 7, _ =>
            obtain rfl := Option.some.inj ho
            obtain rfl := Option.some.inj hp
            obtain rfl := Option.some.inj hr0
            refine wants_no rfl rfl rfl (hv 4 (of_decide_eq_true (by kernel_rfl)) _ rfl) ?_
            have e := hv 6 (of_decide_eq_true (by kernel_rfl)) _ rfl
            unfold Oper.wp; simp [execOp, e, go_sem, -List.length_map]; exact hK _ (Below.refl _ _)
          | 8, _ =>
            obtain rfl := Option.some.inj ho
            obtain rfl := Option.some.inj hp
            obtain rfl := Option.some.inj hr0
            refine wants_no rfl rfl rfl (hv 4 (of_decide_eq_true (by kernel_rfl)) _ rfl) ?_
            have e := hv 7 (of_decide_eq_true (by kernel_rfl)) _ rfl
            have c := pw_cell_below hb y1
            unfold Oper.wp; simp [execOp, e, c, go_sem, -List.length_map]; exact hK _ (Below.refl _ _)
          | 9, _ =>
            obtain rfl := Option.some.inj ho
            obtain rfl := Option.some.inj hp
            obtain rfl := Option.some.inj hr0
            refine wants_no rfl rfl rfl (hv 4 (of_decide_eq_true (by kernel_rfl)) _ rfl) ?_
            have e := (hsl 4 rfl).trans (rfl : _ = Value.pointer (some (⟨W.heap.size, 0, none⟩ : Addr)))
            unfold Oper.wp; simp [execOp, e, go_sem, -List.length_map]; exact hK _ (Below.refl _ _)
          | 10, _ =>
            obtain rfl := Option.some.inj ho
            obtain rfl := Option.some.inj hp
            obtain rfl := Option.some.inj hr0
            refine wants_no rfl rfl rfl (hv 4 (of_decide_eq_true (by kernel_rfl)) _ rfl) ?_
            have e := hv 9 (of_decide_eq_true (by kernel_rfl)) _ rfl
            have c := pw_cell_below hb x2
            unfold Oper.wp; simp [execOp, e, c, go_sem, -List.length_map]; exact hK _ (Below.refl _ _)
          | 11, _ =>
            obtain rfl := Option.some.inj ho
            obtain rfl := Option.some.inj hp
            obtain rfl := Option.some.inj hr0
            have e := hv 8 (of_decide_eq_true (by kernel_rfl)) _ rfl
            have e2 := hv 10 (of_decide_eq_true (by kernel_rfl)) _ rfl
            refine goes_ (N := some 90) Try.func27 (by kernel_rfl) rfl #[.slice AL (P.init.map (fun x => x.f0)).length cL, .string r] ?hw rfl rfl ?ha ?_
            case hw => exact wanted_no rfl rfl rfl (hv 4 (of_decide_eq_true (by kernel_rfl)) _ rfl)
            case ha => simp [Act.eval, -List.length_map]; exact ⟨e, e2⟩
            have hC : Kd.C Kd.string w AL (P.init.map (fun x => x.f0)).length (P.init.map (fun x => x.f0)) := (HS2.out.step hb).ws.loc.now
            have hI : witheref9_In.f 1002 (P.init.map (fun x => x.f0)) r = some (hasB (P.init.map (fun x => x.f0)) r) := in_str _ r (by rw [List.length_map]; exact HF.out.2.2.2.2.2.2.1)
            have hQ := witheref9_In.calls 1002 AL cL (P.init.map (fun x => x.f0)) r (hasB (P.init.map (fun x => x.f0)) r) w hC HS2.out.ws.lc hI
            clear hI hC
            refine Calls.mono hQ ?_
            clear hQ
            rintro _ w5 ⟨rfl, hd5⟩
            exact ⟨_, rfl, hK _ (drawn_below hd5)⟩
          | 12, _ =>
            obtain rfl := Option.some.inj ho
            obtain rfl := Option.some.inj hp
            obtain rfl := Option.some.inj hr0
            refine want_yes rfl ?_
            have e := hv 4 (of_decide_eq_true (by kernel_rfl)) _ rfl
            have e2 := hv 11 (of_decide_eq_true (by kernel_rfl)) _ rfl
            unfold Oper.wp; simp [execOp, e, e2, go_sem, -List.length_map]; exact hK _ (Below.refl _ _)
        intro w5 hb5
        simp only [fill, List.setIfInBounds_toArray, List.set_cons_zero, List.set_cons_succ]
        have HS5 := Aside0.mk (HS2.out.step hb5)
        clear hb5
        clear x2 y1 hx2 hy1 HS2
        have x2 := (blk_cell HS5.out.hx 2).trans rfl
        cases hl : hasB (P.init.map (fun x => x.f0)) r with
        | true =>
          have HE := Aside0.mk (headS_3 P (n + 1) deep known 4 m r l args.length tl el 4 HE1.out HE2.out (st4_bad P 4 known r rfl (by rw [← locs_hasB, hl]; simp)) (by decide))
          clear hl
          go_wp2
          go_ret
          exact HS5.out.out _ 4 _ ((headS_err _ _ _ _ _ _ _ _ _ _ _ args 4 HE.out (by decide)).symm) (fun q => absurd (((headS_err _ _ _ _ _ _ _ _ _ _ _ args 4 HE.out (by decide)).symm).trans q) (by decide))
        | false =>
        have HL := Aside0.mk ((locs_hasB P.init r).symm.trans hl)
        clear hl
        go_wp2_with fail
        have hkk := HS5.out.ws.lk.isat
        refine (witheref9_In.calls 1002 AK cK known r _ _ hkk.2 hkk.1 (in_str _ r (by have := HF.out.2.2.2.2.2.1; omega))).mono ?_
        rintro r9 w6 ⟨rfl, hd6⟩
        have HS6 := Aside0.mk (HS5.out.step (drawn_below hd6))
        clear hd6 x2 hkk HS5
        have x2 := (blk_cell HS6.out.hx 2).trans rfl
        cases hh : hasB known r with
        | true =>
          have HH := Aside0.mk hh
          clear hh
          go_wp2
          go_meet
          exact ⟨_, ⟨by rw [show regsOf 4 known r = known from by unfold regsOf addR; rw [HH.out]; rfl]; exact HS6.out⟩, ⟨st4_ok P 4 known r rfl HN.out HL.out (.inl HH.out) HF.out.2.2.2.2.2.1⟩⟩
        | false =>
        have HH := Aside0.mk hh
        clear hh
        by_cases d5 : known.length = 4
        · have e5 : (known.length : Int) = 4 := by omega
          have HE := Aside0.mk (headS_3 P (n + 1) deep known 4 m r l args.length tl el 3 HE1.out HE2.out (st4_full P 4 known r rfl HN.out HL.out HH.out d5) (by decide))
          go_wp2
          go_ret
          exact HS6.out.out _ 3 _ ((headS_err _ _ _ _ _ _ _ _ _ _ _ args 3 HE.out (by decide)).symm) (fun q => absurd (((headS_err _ _ _ _ _ _ _ _ _ _ _ args 3 HE.out (by decide)).symm).trans q) (by decide))
        have e5 : ¬ (known.length : Int) = 4 := by omega
        have D5 := Aside0.mk d5
        go_upto_region 20 with fail
        refine wp_region_any (by kernel_rfl) ?_
        replace HS6 := Aside0.mk (HS6.out.step (below_drew (Below.refl _ _)))
        refine wpAny_inv3 rfl (by kernel_rfl) (fun a0 f a w => RK w0 W w6.drew y P AL cL AK cK known r (n + 1) part W.heap.size (.cells #[.int .i64 4, .int .i64 m, .string r, .string l, .slice A4 args.length c4, .slice A5 tl c5, .slice A6 el c6] 55 (0, 0)) f a w a0) ?_ ?_ _ _ (by simp) (by decide) ?_
        · rintro f a w i o r9 hI ho hr9 hf hd K hK
          have hi : i < 11 := (Array.getElem?_eq_some_iff.1 ho).1
          have hr2 := rtab_some (md := .any) ho
          rw [hr9] at hr2
          obtain rfl := Option.some.inj hr2
          clear hr9 hr2
          have hxx : ∃ c0 c1 c3 c4' c5' c6' t, ((.cells #[.int .i64 4, .int .i64 m, .string r, .string l, .slice A4 args.length c4, .slice A5 tl c5, .slice A6 el c6] 55 (0, 0)) : Obj) = .cells #[c0, c1, .string r, c3, c4', c5', c6'] t (0, 0) := ⟨_, _, _, _, _, _, _, rfl⟩
          match i, hi with
          | 0, _ =>
            obtain rfl := Option.some.inj ho
            exact want_yes rfl (rk_0 _ rfl rfl hI rfl rfl rfl HS6.out hxx (by have := HF.out.2.2.2.2.2.1; omega) hf  hK)
          | 1, _ =>
            obtain rfl := Option.some.inj ho
            exact want_yes rfl (rk_1 _ rfl rfl hI rfl rfl rfl HS6.out hxx (by have := HF.out.2.2.2.2.2.1; omega) hf  hK)
          | 2, _ =>
            obtain rfl := Option.some.inj ho
            exact want_yes rfl (rk_2 _ rfl rfl hI rfl rfl rfl HS6.out hxx (by have := HF.out.2.2.2.2.2.1; omega) hf  hK)
          | 3, _ =>
            obtain rfl := Option.some.inj ho
            have d1 : f 1 = true := List.all_eq_true.1 hd 1 (of_decide_eq_true (by kernel_rfl))
            have d2 : f 2 = true := List.all_eq_true.1 hd 2 (of_decide_eq_true (by kernel_rfl))
            exact want_yes rfl (rk_3 _ rfl rfl hI rfl rfl rfl HS6.out hxx (by have := HF.out.2.2.2.2.2.1; omega) hf d1 d2 hK)
          | 4, _ =>
            obtain rfl := Option.some.inj ho
            exact want_yes rfl (rk_4 _ rfl rfl hI rfl rfl rfl HS6.out hxx (by have := HF.out.2.2.2.2.2.1; omega) hf  hK)
          | 5, _ =>
            obtain rfl := Option.some.inj ho
            have d4 : f 4 = true := List.all_eq_true.1 hd 4 (of_decide_eq_true (by kernel_rfl))
            exact want_yes rfl (rk_5 _ rfl rfl hI rfl rfl rfl HS6.out hxx (by have := HF.out.2.2.2.2.2.1; omega) hf d4 hK)
          | 6, _ =>
            obtain rfl := Option.some.inj ho
            have d5 : f 5 = true := List.all_eq_true.1 hd 5 (of_decide_eq_true (by kernel_rfl))
            exact want_yes rfl (rk_6 _ rfl rfl hI rfl rfl rfl HS6.out hxx (by have := HF.out.2.2.2.2.2.1; omega) hf d5 hK)
          | 7, _ =>
            obtain rfl := Option.some.inj ho
            have d3 : f 3 = true := List.all_eq_true.1 hd 3 (of_decide_eq_true (by kernel_rfl))
            have d6 : f 6 = true := List.all_eq_true.1 hd 6 (of_decide_eq_true (by kernel_rfl))
            exact want_yes rfl (rk_7 _ rfl rfl hI rfl rfl rfl HS6.out hxx (by have := HF.out.2.2.2.2.2.1; omega) hf d3 d6 hK)
          | 8, _ =>
            obtain rfl := Option.some.inj ho
            have d0 : f 0 = true := List.all_eq_true.1 hd 0 (of_decide_eq_true (by kernel_rfl))
            exact want_yes rfl (rk_8 _ rfl rfl hI rfl rfl rfl HS6.out hxx (by have := HF.out.2.2.2.2.2.1; omega) hf d0 hK)
          | 9, _ =>
            obtain rfl := Option.some.inj ho
            have d8 : f 8 = true := List.all_eq_true.1 hd 8 (of_decide_eq_true (by kernel_rfl))
            exact want_yes rfl (rk_9 _ rfl rfl hI rfl rfl rfl HS6.out hxx (by have := HF.out.2.2.2.2.2.1; omega) hf d8 hK)
          | 10, _ =>
            obtain rfl := Option.some.inj ho
            have d9 : f 9 = true := List.all_eq_true.1 hd 9 (of_decide_eq_true (by kernel_rfl))
            have d7 : f 7 = true := List.all_eq_true.1 hd 7 (of_decide_eq_true (by kernel_rfl))
            exact want_yes rfl (rk_10 _ rfl rfl hI rfl rfl rfl HS6.out hxx (by have := HF.out.2.2.2.2.2.1; omega) hf d9 d7 hK)
        · rintro f a w hI hall
          obtain ⟨v', g⟩ := hI.v10 (hall 10 (by decide))
          have ha := act_range a _ 100 10 hI.sz hI.sl
          have hdf := hI.df
          obtain ⟨t, ds⟩ := a
          simp only at ha hdf
          subst hdf
          rw [ha]
          have HS7 := Aside0.mk g
          clear hI hall g ha HS6
          simp only [List.range, List.range.loop, List.foldl_cons, List.foldl_nil, List.setIfInBounds_toArray, List.set_cons_zero, List.set_cons_succ, Nat.reduceAdd]
          go_wp2
          go_meet
          exact ⟨_, ⟨by rw [show regsOf 4 known r = known ++ [r] from by unfold regsOf addR; rw [HH.out]; rfl]; exact HS7.out⟩, ⟨st4_ok P 4 known r rfl HN.out HL.out (.inr D5.out) HF.out.2.2.2.2.2.1⟩⟩
        · exact { sz := rfl, z0 := rfl, df := rfl, sl := fun j _ => rfl, hb := fun _ => Below.refl _ _, v0 := fun q => absurd (q.symm.trans (no_flag 11 _)) (by decide), v1 := fun q => absurd (q.symm.trans (no_flag 11 _)) (by decide), v2 := fun q => absurd (q.symm.trans (no_flag 11 _)) (by decide), v3 := fun q => absurd (q.symm.trans (no_flag 11 _)) (by decide), v4 := fun q => absurd (q.symm.trans (no_flag 11 _)) (by decide), v5 := fun q => absurd (q.symm.trans (no_flag 11 _)) (by decide), v6 := fun q => absurd (q.symm.trans (no_flag 11 _)) (by decide), v7 := fun q => absurd (q.symm.trans (no_flag 11 _)) (by decide), v8 := fun q => absurd (q.symm.trans (no_flag 11 _)) (by decide), v9 := fun q => absurd (q.symm.trans (no_flag 11 _)) (by decide), v10 := fun q => absurd (q.symm.trans (no_flag 11 _)) (by decide), c10_7 := fun q => absurd (q.symm.trans (no_flag 11 _)) (by decide), c7_3 := fun q => absurd (q.symm.trans (no_flag 11 _)) (by decide), c7_6 := fun q => absurd (q.symm.trans (no_flag 11 _)) (by decide), c3_1 := fun q => absurd (q.symm.trans (no_flag 11 _)) (by decide), c6_5 := fun q => absurd (q.symm.trans (no_flag 11 _)) (by decide) }
      | false =>
        have HN := Aside0.mk hn
        clear hn
        go_upto_region 15 with fail
        refine wp_region_any (by kernel_rfl) ?_
        replace HS2 := Aside0.mk (HS2.out.step (below_drew (Below.refl _ _)))
        refine wpAny_vals2 rfl (by kernel_rfl) ([(79, Value.pointer (some (⟨W.heap.size, 2, none⟩ : Addr))), (80, Value.string r), (81, Value.bool false), (82, Value.bool true), (83, Value.bool true), (84, undef), (85, undef), (86, undef), (87, undef), (88, undef), (89, undef), (90, undef), (91, Value.bool true)]) [79, 80, 81, 82, 83, 84, 85, 86, 87, 88, 89, 90, 91] rfl rfl (by decide) 159 rfl (by decide) ?_ ?_ _ _ (by simp) (by decide) (no_flag 13)
        · intro i o p r0 a w ho hp hr0 hsl hv hb K hK
          have hi : i < 13 := (Array.getElem?_eq_some_iff.1 ho).1
          match i, hi with
          | 0, _ =>
            obtain rfl := Option.some.inj ho
            obtain rfl := Option.some.inj hp
            obtain rfl := Option.some.inj hr0
            refine want_yes rfl ?_
            have e := (hsl 4 rfl).trans (rfl : _ = Value.pointer (some (⟨W.heap.size, 0, none⟩ : Addr)))
            unfold Oper.wp; simp [execOp, e, go_sem, -List.length_map]; exact hK _ (Below.refl _ _)
          | 1, _ =>
            obtain rfl := Option.some.inj ho
            obtain rfl := Option.some.inj hp
            obtain rfl := Option.some.inj hr0
            refine want_yes rfl ?_
            have e := hv 0 (of_decide_eq_true (by kernel_rfl)) _ rfl
            have c := pw_cell_below hb x2
            unfold Oper.wp; simp [execOp, e, c, go_sem, -List.length_map]; exact hK _ (Below.refl _ _)
          | 2, _ =>
            obtain rfl := Option.some.inj ho
            obtain rfl := Option.some.inj hp
            obtain rfl := Option.some.inj hr0
            have e := hv 1 (of_decide_eq_true (by kernel_rfl)) _ rfl
            refine goes_ (N := some 81) Try.func26 (by kernel_rfl) rfl #[.string r] (by simp [Region.wanted]) rfl rfl (by simp [Act.eval]; exact e) ?_
            refine (witheref6_Name.calls 1003 r _ _ (refName_eq r HF.out.2.1)).mono ?_
            rw [HN.out]
            rintro _ w4 ⟨rfl, hb4⟩
            exact ⟨_, rfl, hK _ hb4⟩
          | 3, _ =>
            obtain rfl := Option.some.inj ho
            obtain rfl := Option.some.inj hp
            obtain rfl := Option.some.inj hr0
            refine want_yes rfl ?_
            have e := hv 2 (of_decide_eq_true (by kernel_rfl)) _ rfl
            unfold Oper.wp; simp [execOp, e, go_sem, -List.length_map]; exact hK _ (Below.refl _ _)
          | 4, _ =>
            obtain rfl := Option.some.inj ho
            obtain rfl := Option.some.inj hp
            obtain rfl := Option.some.inj hr0
            refine want_yes rfl ?_
            have e := hv 3 (of_decide_eq_true (by kernel_rfl)) _ rfl
            unfold Oper.wp; simp [execOp, e, go_sem, -List.length_map]; exact hK _ (Below.refl _ _)
          | 5, _ =>
            obtain rfl := Option.some.inj ho
            obtain rfl := Option.some.inj hp
            obtain rfl := Option.some.inj hr0
            exact wants_nay rfl rfl rfl (hv 4 (of_decide_eq_true (by kernel_rfl)) _ rfl) (hK _ (Below.refl _ _))
          | 6, _ =>
            obtain rfl := Option.some.inj ho
            obtain rfl := Option.some.inj hp
            obtain rfl := Option.some.inj hr0
            exact wants_nay rfl rfl rfl (hv 4 (of_decide_eq_true (by kernel_rfl)) _ rfl) (hK _ (Below.refl _ _))
          | 7, _ =>
            obtain rfl := Option.some.inj ho
            obtain rfl := Option.some.inj hp
            obtain rfl := Option.some.inj hr0
            exact wants_nay rfl rfl rfl (hv 4 (of_decide_eq_true (by kernel_rfl)) _ rfl) (hK _ (Below.refl _ _))
          | 8, _ =>
            obtain rfl := Option.some.inj ho
            obtain rfl := Option.some.inj hp
            obtain rfl := Option.some.inj hr0
            exact wants_nay rfl rfl rfl (hv 4 (of_decide_eq_true (by kernel_rfl)) _ rfl) (hK _ (Below.refl _ _))
          | 9, _ =>
            obtain rfl := Option.some.inj ho
            obtain rfl := Option.some.inj hp
            obtain rfl := Option.some.inj hr0
            exact wants_nay rfl rfl rfl (hv 4 (of_decide_eq_true (by kernel_rfl)) _ rfl) (hK _ (Below.refl _ _))
          | 10, _ =>
            obtain rfl := Option.some.inj ho
            obtain rfl := Option.some.inj hp
            obtain rfl := Option.some.inj hr0
            exact wants_nay rfl rfl rfl (hv 4 (of_decide_eq_true (by kernel_rfl)) _ rfl) (hK _ (Below.refl _ _))
          | 11, _ =>
            obtain rfl := Option.some.inj ho
            obtain rfl := Option.some.inj hp
            obtain rfl := Option.some.inj hr0
            exact wants_nay rfl rfl rfl (hv 4 (of_decide_eq_true (by kernel_rfl)) _ rfl) (hK _ (Below.refl _ _))
          | 12, _ =>
            obtain rfl := Option.some.inj ho
            obtain rfl := Option.some.inj hp
            obtain rfl := Option.some.inj hr0
            refine want_yes rfl ?_
            have e := hv 4 (of_decide_eq_true (by kernel_rfl)) _ rfl
            unfold Oper.wp; simp [execOp, e, go_sem, -List.length_map]; exact hK _ (Below.refl _ _)
        intro w5 hb5
        simp only [fill, List.setIfInBounds_toArray, List.set_cons_zero, List.set_cons_succ]
        have HS5 := Aside0.mk (HS2.out.step hb5)
        clear hb5
        clear x2 y1 hx2 hy1 HS2
        have HE := Aside0.mk (headS_3 P (n + 1) deep known 4 m r l args.length tl el 4 HE1.out HE2.out (st4_bad P 4 known r rfl (by rw [HN.out]; rfl)) (by decide))
        go_wp2
        go_ret
        exact HS5.out.out _ 4 _ ((headS_err _ _ _ _ _ _ _ _ _ _ _ args 4 HE.out (by decide)).symm) (fun q => absurd (((headS_err _ _ _ _ _ _ _ _ _ _ _ args 4 HE.out (by decide)).symm).trans q) (by decide))
  case rest =>
  obtain ⟨vK', HS7, HE3⟩ := hcut
  clear HS2 HE1 e1 e2 e3 e3'
  have x0 := (blk_cell HS7.out.hx 0).trans rfl
  have x3 := (blk_cell HS7.out.hx 3).trans rfl
  have y1 := (blk_cell HS7.out.ws.blk 1).trans rfl
  go_upto_region 30 with fail
  go_cut [130] (fun v130 wx => v130 = .bool (!hasB (P.init.map (fun x => x.f0)) l) ∧ Aside0 (ON w0 W wx y P AL cL vK' (regsOf 4 known r) (n + 1) part W.heap.size (.cells #[.int .i64 4, .int .i64 m, .string r, .string l, .slice A4 args.length c4, .slice A5 tl c5, .slice A6 el c6] 55 (0, 0))))
  case first =>
    refine wp_region_any (by kernel_rfl) ?_
    replace HS7 := Aside0.mk (HS7.out.step (below_drew (Below.refl _ _)))
    refine wpAny_vals2 rfl (by kernel_rfl) ([(123, Value.pointer (some (⟨y, 0, none⟩ : Addr))), (124, Value.pointer (some (⟨y, 0, none⟩ : Addr))), (125, Value.pointer (some (⟨y, 1, none⟩ : Addr))), (126, Value.slice AL (P.init.map (fun x => x.f0)).length cL), (127, Value.pointer (some (⟨W.heap.size, 3, none⟩ : Addr))), (128, Value.string l), (129, Value.bool (hasB (P.init.map (fun x => x.f0)) l)), (130, Value.bool (!hasB (P.init.map (fun x => x.f0)) l))]) [123, 124, 125, 126, 127, 128, 129, 130] rfl rfl (by decide) 159 rfl (by decide) ?_ ?_ _ _ (by simp) (by decide) (no_flag 8)
    · intro i o p r0 a w ho hp hr0 hsl hv hb K hK
      have hi : i < 8 := (Array.getElem?_eq_some_iff.1 ho).1
      match i, hi with
      | 0, _ =>
        obtain rfl := Option.some.inj ho
        obtain rfl := Option.some.inj hp
        obtain rfl := Option.some.inj hr0
        refine want_yes rfl ?_
        have e := (hsl 0 rfl).trans (rfl : _ = Value.pointer (some (⟨y, 0, none⟩ : Addr)))
        unfold Oper.wp; simp [execOp, e, go_sem, -List.length_map]; exact hK _ (Below.refl _ _)
      | 1, _ =>
        obtain rfl := Option.some.inj ho
        obtain rfl := Option.some.inj hp
        obtain rfl := Option.some.inj hr0
        refine want_yes rfl ?_
        have e := hv 0 (of_decide_eq_true (by kernel_rfl)) _ rfl
        unfold Oper.wp; simp [execOp, e, go_sem, -List.length_map]; exact hK _ (Below.refl _ _)
      | 2, _ =>
        obtain rfl := Option.some.inj ho
        obtain rfl := Option.some.inj hp
        obtain rfl := Option.some.inj hr0
        refine want_yes rfl ?_
        have e := hv 1 (of_decide_eq_true (by kernel_rfl)) _ rfl
        unfold Oper.wp; simp [execOp, e, go_sem, -List.length_map]; exact hK _ (Below.refl _ _)
      | 3, _ =>
        obtain rfl := Option.some.inj ho
        obtain rfl := Option.some.inj hp
        obtain rfl := Option.some.inj hr0
        refine want_yes rfl ?_
        have e := hv 2 (of_decide_eq_true (by kernel_rfl)) _ rfl
        have c := pw_cell_below hb y1
        unfold Oper.wp; simp [execOp, e, c, go_sem, -List.length_map]; exact hK _ (Below.refl _ _)
      | 4, _ =>
        obtain rfl := Option.some.inj ho
        obtain rfl := Option.some.inj hp
        obtain rfl := Option.some.inj hr0
        refine want_yes rfl ?_
        have e := (hsl 4 rfl).trans (rfl : _ = Value.pointer (some (⟨W.heap.size, 0, none⟩ : Addr)))
        unfold Oper.wp; simp [execOp, e, go_sem, -List.length_map]; exact hK _ (Below.refl _ _)
      | 5, _ =>
        obtain rfl := Option.some.inj ho
        obtain rfl := Option.some.inj hp
        obtain rfl := Option.some.inj hr0
        refine want_yes rfl ?_
        have e := hv 4 (of_decide_eq_true (by kernel_rfl)) _ rfl
        have c := pw_cell_below hb x3
        unfold Oper.wp; simp [execOp, e, c, go_sem, -List.length_map]; exact hK _ (Below.refl _ _)
      | 6, _ =>
        obtain rfl := Option.some.inj ho
        obtain rfl := Option.some.inj hp
        obtain rfl := Option.some.inj hr0
        have e := hv 3 (of_decide_eq_true (by kernel_rfl)) _ rfl
        have e2 := hv 5 (of_decide_eq_true (by kernel_rfl)) _ rfl
        refine goes_ (N := some 129) Try.func27 (by kernel_rfl) rfl #[.slice AL (P.init.map (fun x => x.f0)).length cL, .string l] (by simp [Region.wanted]) rfl rfl (by simp [Act.eval, -List.length_map]; exact ⟨e, e2⟩) ?_
        have hC : Kd.C Kd.string w AL (P.init.map (fun x => x.f0)).length (P.init.map (fun x => x.f0)) := (HS7.out.step hb).ws.loc.now
        have hI : witheref9_In.f 1002 (P.init.map (fun x => x.f0)) l = some (hasB (P.init.map (fun x => x.f0)) l) := in_str _ l (by rw [List.length_map]; exact HF.out.2.2.2.2.2.2.1)
        have hQ := witheref9_In.calls 1002 AL cL (P.init.map (fun x => x.f0)) l (hasB (P.init.map (fun x => x.f0)) l) w hC HS7.out.ws.lc hI
        clear hI hC
        refine Calls.mono hQ ?_
        clear hQ
        rintro _ w5 ⟨rfl, hd5⟩
        exact ⟨_, rfl, hK _ (drawn_below hd5)⟩
      | 7, _ =>
        obtain rfl := Option.some.inj ho
        obtain rfl := Option.some.inj hp
        obtain rfl := Option.some.inj hr0
        refine want_yes rfl ?_
        have e := hv 6 (of_decide_eq_true (by kernel_rfl)) _ rfl
        unfold Oper.wp; simp [execOp, e, go_sem, -List.length_map]; exact hK _ (Below.refl _ _)
    intro w5 hb5
    simp only [fill, List.setIfInBounds_toArray, List.set_cons_zero, List.set_cons_succ]
    replace HS7 := Aside0.mk (HS7.out.step hb5)
    clear hb5 x0 x3 y1
    generalize Value.slice AL (P.init.map (fun x => x.f0)).length cL = zL
    go_wp2_with fail
    go_meet
    exact ⟨rfl, HS7⟩
  case rest =>
  clear HS7 x0 x3 y1
  obtain ⟨rfl, HS7⟩ := hcut
  cases hl0 : hasB (P.init.map (fun x => x.f0)) l with
  | false =>
    have HE := Aside0.mk (headS_4 P (n + 1) deep known 4 m r l args.length tl el 4 HEA.out HE2.out HE3.out (st5_out P 4 l rfl ((locs_hasB P.init l).symm.trans hl0)))
    clear hl0
    go_wp2
    go_ret
    exact HS7.out.out _ 4 _ ((headS_err _ _ _ _ _ _ _ _ _ _ _ args 4 HE.out (by decide)).symm) (fun q => absurd (((headS_err _ _ _ _ _ _ _ _ _ _ _ args 4 HE.out (by decide)).symm).trans q) (by decide))
  | true =>
  have HE := Aside0.mk (headS_4 P (n + 1) deep known 4 m r l args.length tl el 0 HEA.out HE2.out HE3.out (st5_in P 4 l rfl ((locs_hasB P.init l).symm.trans hl0)))
  clear hl0
  have x4 := (blk_cell HS7.out.hx 4).trans rfl
  rw [show (Value.bool !true) = Value.bool false from rfl]
  go_wp2
  clear x4
  go_loopw [9] (fun v9 wr => ∃ i : Nat, i ≤ args.length ∧ v9 = .int .i64 i ∧ Aside0 (ON w0 W wr y P AL cL vK' (regsOf 4 known r) (n + 1) part W.heap.size (.cells #[.int .i64 4, .int .i64 m, .string r, .string l, .slice A4 args.length c4, .slice A5 tl c5, .slice A6 el c6] 55 (0, 0))) ∧ Aside0 (argsE P.vals known 0 (args.take i) = 0)) (fun v9 _ => args.length - (intOf v9).toNat)
  case atStart => exact ⟨0, Nat.zero_le _, rfl, HS7, ⟨rfl⟩⟩
  case round =>
    clear HS7
    obtain ⟨i, hi, rfl, HS, HEi⟩ := hrel
    have x4 := (blk_cell HS.out.hx 4).trans rfl
    by_cases hlt : i < args.length
    · have e1' : decide ((i : Int) < (args.length : Int)) = true := decide_eq_true (by omega)
      have HLT := Aside0.mk hlt
      have hal9 : args.length ≤ 1000 := HF.out.2.2.1
      have e2' : decide (i < args.length) = true := decide_eq_true hlt
      obtain ⟨ad, A3, c3, hA, h0, h1, h2, h3, hl, hk⟩ := at_T57 HF.out.1 (i : Int) (by omega) (by omega)
      have HG := Aside0.mk (And.intro hl (And.intro hk (And.intro (rdE_eq args i hlt) (And.intro (smEs_get args i hlt HF.out.2.2.2.1) (HF.out.2.2.2.2.1 _ (List.getElem_mem hlt))))))
      clear hl hk
      subst hA
      rw [Int.toNat_natCast] at h0 h1 h2 h3
      replace h0 := pw_cell_below HS.out.ws.bel h0
      replace h1 := pw_cell_below HS.out.ws.bel h1
      replace h2 := pw_cell_below HS.out.ws.bel h2
      replace h3 := pw_cell_below HS.out.ws.bel h3
      rw [HG.out.2.2.1] at h0 h1 h2 h3
      have HC3 := Aside0.mk (show Kd.C kExpr w0 A3 args[i].f3.length args[i].f3 ∧ args[i].f3.length ≤ c3 from by have q1 := HG.out.1; have q2 := HG.out.2.1; rw [HG.out.2.2.1] at q1 q2; exact ⟨q2, q1⟩)
      have HSZ := Aside0.mk HG.out.2.2.2
      have HE9 := Aside0.mk (argsE_take P.vals known args 0 i hlt)
      generalize args[i] = xa at h0 h1 h2 h3 HC3 HSZ HE9
      clear HG
      obtain ⟨KD, hKD⟩ := deep_ev 20 (by decide) xa HSZ.out.2 HSZ.out.1
      have HKD := Aside0.mk (hKD KD (Nat.le_refl _))
      clear hKD
      go_wp2_with fail
      refine (witheref9_deep.calls KD xa.f0 xa.f1 xa.f2 A3 c3 xa.f3 (depE 20 xa) _ (Kd.C_below HC3.out.1 HS.out.ws.bel) HC3.out.2 HKD.out).mono ?_
      rintro r9 w9 ⟨rfl, hb⟩
      have hb9 := hb
      have HS9 := Aside0.mk (HS.out.step hb)
      replace h0 := pw_cell_below hb h0
      replace h1 := pw_cell_below hb h1
      replace h2 := pw_cell_below hb h2
      replace h3 := pw_cell_below hb h3
      clear hb hb9 x4 HS
      by_cases d6 : 6 < depE 20 xa
      · have e6 : decide (6 < depE 20 xa) = true := decide_eq_true d6
        have H7 : decide (depE 7 xa ≤ 6) = false := decide_eq_false (fun q => by have := (dep_iff 6 20 xa (by decide)).2 q; omega)
        have HX := Aside0.mk (argsE_stop P.vals known args (i + 1) 3 (by rw [HE9.out, HEi.out, H7]; exact exprF_err _ _ _ _ (by decide)) (by decide))
        clear H7
        go_wp2
        go_ret
        exact HS9.out.out _ 3 _ (by rw [HE.out, HX.out]) (fun q => absurd (by rw [HE.out, HX.out] at q; exact q) (by decide))
      have e6 : decide (6 < depE 20 xa) = false := decide_eq_false d6
      have H7 : decide (depE 7 xa ≤ 6) = true := decide_eq_true ((dep_iff 6 20 xa (by decide)).1 (by omega))
      replace HE9 := Aside0.mk (show argsE P.vals known 0 (args.take (i + 1)) = exprF P.vals known 0 xa from by rw [HE9.out, HEi.out, H7]; rfl)
      clear H7 d6
      have x4 := (blk_cell HS9.out.hx 4).trans rfl
      have y0 := (blk_cell HS9.out.ws.blk 0).trans rfl
      have hi0 : (0 : Int) ≤ (i : Int) := by omega
      have hi1 : (i : Int) < (args.length : Int) := by omega
      go_upto_region 37 with fail
      refine wp_region_any (by kernel_rfl) ?_
      replace HS9 := Aside0.mk (HS9.out.step (below_drew (Below.refl _ _)))
      refine wpAny_vals2 rfl (by kernel_rfl) ([(145, Value.pointer (some (⟨W.heap.size, 4, none⟩ : Addr))), (146, Value.slice (some ad) args.length c4), (147, Value.int .i64 (i : Int)), (148, Value.pointer (some (ad.add (i * 4)))), (149, Value.agg #[.int .i64 xa.f0, .int .i64 xa.f1, .string xa.f2, .slice A3 xa.f3.length c3]), (150, Value.pointer (some (⟨y, 0, none⟩ : Addr))), (151, Value.pointer (some (⟨y, 0, none⟩ : Addr))), (152, Value.pointer (some (⟨y, 0, none⟩ : Addr))), (153, Value.int .i64 P.vals), (154, Value.slice AK known.length cK), (155, Value.int .i64 (exprF P.vals known 0 xa)), (10, Value.int .i64 (exprF P.vals known 0 xa))]) [145, 146, 147, 148, 149, 150, 151, 152, 153, 154, 155, 10] rfl rfl (by decide) 159 rfl (by decide) ?_ ?_ _ _ (by simp) (by decide) (no_flag 12)
      · intro i9 o p r0 a w ho hp hr0 hsl hv hb K hK
        have hi9 : i9 < 12 := (Array.getElem?_eq_some_iff.1 ho).1
        match i9, hi9 with
        | 0, _ =>
          obtain rfl := Option.some.inj ho
          obtain rfl := Option.some.inj hp
          obtain rfl := Option.some.inj hr0
          refine want_yes rfl ?_
          have e := (hsl 4 rfl).trans (rfl : _ = Value.pointer (some (⟨W.heap.size, 0, none⟩ : Addr)))
          unfold Oper.wp; simp [execOp, e, go_sem]; exact hK _ (Below.refl _ _)
        | 1, _ =>
          obtain rfl := Option.some.inj ho
          obtain rfl := Option.some.inj hp
          obtain rfl := Option.some.inj hr0
          refine want_yes rfl ?_
          have e := hv 0 (of_decide_eq_true (by kernel_rfl)) _ rfl
          have c := pw_cell_below hb x4
          unfold Oper.wp; simp [execOp, e, c, go_sem]; exact hK _ (Below.refl _ _)
        | 2, _ =>
          obtain rfl := Option.some.inj ho
          obtain rfl := Option.some.inj hp
          obtain rfl := Option.some.inj hr0
          refine want_yes rfl ?_
          have e := (hsl 9 rfl).trans (rfl : _ = Value.int .i64 (i : Int))
          unfold Oper.wp; simp [execOp, e, go_sem]; exact hK _ (Below.refl _ _)
        | 3, _ =>
          obtain rfl := Option.some.inj ho
          obtain rfl := Option.some.inj hp
          obtain rfl := Option.some.inj hr0
          refine want_yes rfl ?_
          have e := hv 1 (of_decide_eq_true (by kernel_rfl)) _ rfl
          have e2 := hv 2 (of_decide_eq_true (by kernel_rfl)) _ rfl
          unfold Oper.wp; simp [execOp, e, e2, hi0, hi1, go_sem]; exact hK _ (Below.refl _ _)
        | 4, _ =>
          obtain rfl := Option.some.inj ho
          obtain rfl := Option.some.inj hp
          obtain rfl := Option.some.inj hr0
          refine want_yes rfl ?_
          have e := hv 3 (of_decide_eq_true (by kernel_rfl)) _ rfl
          have c0 := pw_cell_below hb h0
          have c1 := pw_cell_below hb h1
          have c2 := pw_cell_below hb h2
          have c3' := pw_cell_below hb h3
          unfold Oper.wp; simp [execOp, e, c0, c1, c2, c3', go_sem]; exact hK _ (Below.refl _ _)
        | 5, _ =>
          obtain rfl := Option.some.inj ho
          obtain rfl := Option.some.inj hp
          obtain rfl := Option.some.inj hr0
          refine want_yes rfl ?_
          have e := (hsl 0 rfl).trans (rfl : _ = Value.pointer (some (⟨y, 0, none⟩ : Addr)))
          unfold Oper.wp; simp [execOp, e, go_sem]; exact hK _ (Below.refl _ _)
        | 6, _ =>
          obtain rfl := Option.some.inj ho
          obtain rfl := Option.some.inj hp
          obtain rfl := Option.some.inj hr0
          refine want_yes rfl ?_
          have e := hv 5 (of_decide_eq_true (by kernel_rfl)) _ rfl
          unfold Oper.wp; simp [execOp, e, go_sem]; exact hK _ (Below.refl _ _)
        | 7, _ =>
          obtain rfl := Option.some.inj ho
          obtain rfl := Option.some.inj hp
          obtain rfl := Option.some.inj hr0
          refine want_yes rfl ?_
          have e := hv 6 (of_decide_eq_true (by kernel_rfl)) _ rfl
          unfold Oper.wp; simp [execOp, e, go_sem]; exact hK _ (Below.refl _ _)
        | 8, _ =>
          obtain rfl := Option.some.inj ho
          obtain rfl := Option.some.inj hp
          obtain rfl := Option.some.inj hr0
          refine want_yes rfl ?_
          have e := hv 7 (of_decide_eq_true (by kernel_rfl)) _ rfl
          have c := pw_cell_below hb y0
          unfold Oper.wp; simp [execOp, e, c, go_sem]; exact hK _ (Below.refl _ _)
        | 9, _ =>
          obtain rfl := Option.some.inj ho
          obtain rfl := Option.some.inj hp
          obtain rfl := Option.some.inj hr0
          refine want_yes rfl ?_
          have e := (hsl 8 rfl).trans (rfl : _ = Value.slice AK known.length cK)
          unfold Oper.wp; simp [execOp, e, go_sem]; exact hK _ (Below.refl _ _)
        | 10, _ =>
          obtain rfl := Option.some.inj ho
          obtain rfl := Option.some.inj hp
          obtain rfl := Option.some.inj hr0
          have e := hv 4 (of_decide_eq_true (by kernel_rfl)) _ rfl
          have e2 := hv 8 (of_decide_eq_true (by kernel_rfl)) _ rfl
          have e3' := hv 9 (of_decide_eq_true (by kernel_rfl)) _ rfl
          refine goes_ (N := some 155) Try.func79 (by kernel_rfl) rfl #[.agg #[.int .i64 xa.f0, .int .i64 xa.f1, .string xa.f2, .slice A3 xa.f3.length c3], .int .i64 P.vals, .slice AK known.length cK] (by simp [Region.wanted]) rfl rfl (by simp [Act.eval]; exact ⟨e, e2, e3'⟩) ?_
          have HO := HS9.out.step hb
          have hkn := (HS0.out.lk.step HO.chg).isat
          have hQ := rexpr_ok w P.vals AK cK known hkn.2 hkn.1 (by have := HF.out.2.2.2.2.2.1; omega) (SizeOf.sizeOf xa + 1) xa (Nat.lt_succ_self _) w A3 c3 (Below.refl _ _) (Kd.C_below HC3.out.1 HO.ws.bel) HC3.out.2 HSZ.out.1
          clear hkn HO
          refine Calls.mono hQ ?_
          clear hQ
          rintro _ w5 ⟨rfl, hd5⟩
          exact ⟨_, rfl, hK _ hd5⟩
        | 11, _ =>
          obtain rfl := Option.some.inj ho
          obtain rfl := Option.some.inj hp
          obtain rfl := Option.some.inj hr0
          refine want_yes rfl ?_
          have e := hv 10 (of_decide_eq_true (by kernel_rfl)) _ rfl
          unfold Oper.wp; simp [execOp, e, go_sem]; exact hK _ (Below.refl _ _)
      intro w5 hb5
      simp only [fill, List.setIfInBounds_toArray, List.set_cons_zero, List.set_cons_succ]
      replace HS9 := Aside0.mk (HS9.out.step hb5)
      clear hb5 h0 h1 h2 h3 x4 y0
      by_cases dz : exprF P.vals known 0 xa = 0
      · have ez : (exprF P.vals known 0 xa != 0) = false := by rw [dz]; rfl
        have HZ := Aside0.mk (HE9.out.trans dz)
        clear HE9
        go_wp2
        go_roundw
        case rel => exact ⟨i + 1, by have := HLT.out; omega, by go_num, HS9, HZ⟩
        case measure => have := HLT.out; simp [intOf]; omega
      · have ez : (exprF P.vals known 0 xa != 0) = true := by rw [bne_iff_ne]; exact dz
        have HX := Aside0.mk (argsE_stop P.vals known args (i + 1) _ HE9.out dz)
        go_wp2
        go_ret
        exact HS9.out.out _ _ _ (by rw [HE.out, HX.out]) (fun q => absurd (by rw [HE.out, HX.out] at q; exact q) dz)
    · have e1' : decide ((i : Int) < (args.length : Int)) = false := decide_eq_false (by omega)
      have e2' : decide (i < args.length) = false := decide_eq_false hlt
      have HX := Aside0.mk (show argsE P.vals known 0 args = 0 from by have := HEi.out; rwa [List.take_of_length_le (by omega)] at this)
      go_wp2
      go_ret
      exact HS.out.out _ 0 _ (by rw [HE.out, HX.out]) (fun _ => rfl)
end Go.Proofs.Ytlhbnbckanmaiaa.K
