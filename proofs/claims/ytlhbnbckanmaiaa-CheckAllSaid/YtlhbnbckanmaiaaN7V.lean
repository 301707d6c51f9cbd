/- A text of a claim (ours): the document's statements of one kind; conditions: none of ours. -/
import Derived.Test.YtlhbnbckanmaiaaN1V
import Derived.Test.YtlhbnbckanmaiaaM6V
namespace Go.Proofs.Ytlhbnbckanmaiaa.K
open Go Go.RowKit Go.Proofs.YtlhbnbckanmaiaaW.PrintWords Go.Proofs.YtlhbnbckanmaiaaW.PrintLast Go.Proofs.YtlhbnbckanmaiaaW.PrintMore Go.Proofs.Ytlhbnbckanmaiaa.PC1
set_option linter.unusedVariables false
set_option linter.unusedSimpArgs false
set_option maxHeartbeats 8000000 in
set_option maxRecDepth 100000 in
theorem one_6 (w0 W : World) (y : Nat) (P : AP) (AL : Option Addr) (cL : Nat) (vK : Value) (known : List ByteArray) (n part : Int) (h : WS w0 W y P.vals AL cL (P.init.map (fun x => x.f0)) vK known n part) (hn0 : 0 ≤ n) (hn1 : n ≤ 100000000) (hkl : known.length ≤ 4) (hil : P.init.length ≤ 1000)
    (m : Int) (r l : ByteArray) (args : List TExpr) (A4 A5 A6 : Option Addr) (c4 c5 c6 tl el : Nat) (deep : Int) (hC : Kd.C kExpr w0 A4 args.length args) (hc4 : args.length ≤ c4) (hr : r.size ≤ 1000) (hal : args.length ≤ 1000) (hsa : smEs args) (hd : ∀ x ∈ args, dE 20 x) (htl : tl ≤ 1000) (hel : el ≤ 1000) :
    Calls Try.prog 50 #[.pointer (some ⟨y, 0, none⟩), .agg #[.int .i64 6, .int .i64 m, .string r, .string l, .slice A4 args.length c4, .slice A5 tl c5, .slice A6 el c6], .int .i64 deep] W (OneOut w0 W y P AL cL known n part (argsE P.vals known (headS P (n + 1) deep known 6 m r l args.length tl el) args) (regsOf 6 known r)) := by
  have HF := Aside0.mk (And.intro hC (And.intro hr (And.intro hal (And.intro hsa (And.intro hd (And.intro hkl (And.intro hil hc4)))))))
  have HS0 := Aside0.mk h
  have hlt := h.lt
  have y3 := (blk_cell h.blk 3).trans rfl
  have hfz := blk_frozen h.blk
  have HS1 := Aside0.mk (ON.mk (W := W) (P := P) ((h.setN (n + 1)).step (below_alloc (Below.refl _ _) (.cells #[.int .i64 6, .int .i64 m, .string r, .string l, .slice A4 args.length c4, .slice A5 tl c5, .slice A6 el c6] 55 (0, 0)))) ((chg_set W y 3 (.int .i64 (n + 1))).step (Chg.of_below (F := fun k => k = y) (below_alloc (Below.refl _ _) (.cells #[.int .i64 6, .int .i64 m, .string r, .string l, .slice A4 args.length c4, .slice A5 tl c5, .slice A6 el c6] 55 (0, 0))))) (blk_newN W y (.int .i64 (n + 1)) (.cells #[.int .i64 6, .int .i64 m, .string r, .string l, .slice A4 args.length c4, .slice A5 tl c5, .slice A6 el c6] 55 (0, 0))) (show ¬ W.heap.size = y from by omega) (Nat.le_refl _))
  clear h hC hr hal hsa hd hkl hil hc4
  go_enter Try.func50, Try.ntmps50
  by_cases d1 : 16 < n + 1
  · have e1 : decide (16 < n + 1) = true := decide_eq_true d1
    have HE := Aside0.mk (headS_1 P (n + 1) deep known 6 m r l args.length tl el (by unfold st1 needE; simp [show ¬ (n + 1 ≤ 16) by omega]))
    go_wp2
    go_ret
    exact HS1.out.out _ 3 _ (headS_err _ _ _ _ _ _ _ _ _ _ _ args 3 HE.out (by decide)).symm (fun q => absurd ((headS_err _ _ _ _ _ _ _ _ _ _ _ args 3 HE.out (by decide)).symm.trans q) (by decide))
  have e1 : decide (16 < n + 1) = false := decide_eq_false d1
  by_cases d2 : 6 < deep
  · have e2 : decide (6 < deep) = true := decide_eq_true d2
    have HE := Aside0.mk (headS_1 P (n + 1) deep known 6 m r l args.length tl el (by unfold st1 needE; simp [show ¬ (deep ≤ 6) by omega]))
    go_wp2
    go_ret
    exact HS1.out.out _ 3 _ (headS_err _ _ _ _ _ _ _ _ _ _ _ args 3 HE.out (by decide)).symm (fun q => absurd ((headS_err _ _ _ _ _ _ _ _ _ _ _ args 3 HE.out (by decide)).symm.trans q) (by decide))
  have e2 : decide (6 < deep) = false := decide_eq_false d2
  have HE1 := Aside0.mk (show st1 (n + 1) deep 0 = 0 from by unfold st1 needE; simp; exact ⟨by omega, by omega⟩)
  have HEA := HE1
  go_wp2_with fail
  refine (witheref9_may.calls 5 6 m _ _ (may_eq 6 m)).mono ?_
  rintro r9 w2 ⟨rfl, hd2⟩
  have HS2 := Aside0.mk (HS1.out.step (drawn_below hd2))
  clear HS1 hd2 y3
  have x0 := (blk_cell HS2.out.hx 0).trans rfl
  have x1 := (blk_cell HS2.out.hx 1).trans rfl
  have x2 := (blk_cell HS2.out.hx 2).trans rfl
  have x4 := (blk_cell HS2.out.hx 4).trans rfl
  have x5 := (blk_cell HS2.out.hx 5).trans rfl
  have x6 := (blk_cell HS2.out.hx 6).trans rfl
  cases hm : mayB 6 m with
  | false =>
    have HE := Aside0.mk (headS_2 P (n + 1) deep known 6 m r l args.length tl el HE1.out (st2_bad 6 m args.length tl el (by decide) (by decide) hm))
    clear hm
    go_wp2
    go_ret
    exact HS2.out.out _ 1 _ (headS_err _ _ _ _ _ _ _ _ _ _ _ args 1 HE.out (by decide)).symm (fun q => absurd ((headS_err _ _ _ _ _ _ _ _ _ _ _ args 1 HE.out (by decide)).symm.trans q) (by decide))
  | true =>
  have HM := Aside0.mk hm
  clear hm
  by_cases d3 : args.length = 0
  case neg =>
    have e3 : ¬ ((args.length : Int) = 0) := by omega
    have e3' : ((args.length : Int) != 0) = true := by rw [bne_iff_ne]; exact e3
    have HE := Aside0.mk (headS_2 P (n + 1) deep known 6 m r l args.length tl el HE1.out (st2_bad2 6 m args.length tl el (by rw [show argsF 6 = 0 from rfl]; exact e3)))
    clear d3
    go_wp2
    go_ret
    exact HS2.out.out _ 1 _ (headS_err _ _ _ _ _ _ _ _ _ _ _ args 1 HE.out (by decide)).symm (fun q => absurd ((headS_err _ _ _ _ _ _ _ _ _ _ _ args 1 HE.out (by decide)).symm.trans q) (by decide))
  have e3 : (args.length : Int) = 0 := by omega
  have e3' : ((args.length : Int) != 0) = false := by rw [e3]; rfl
  have HD3 := Aside0.mk d3
  clear d3
  by_cases d4 : 0 < (tl : Int) + el
  · have e4 : decide (0 < (tl : Int) + el) = true := decide_eq_true d4
    have HE := Aside0.mk (headS_2 P (n + 1) deep known 6 m r l args.length tl el HE1.out (st3_bad 6 m args.length tl el (by decide) (by omega)))
    clear d4
    go_wp2
    go_ret
    exact HS2.out.out _ 1 _ (headS_err _ _ _ _ _ _ _ _ _ _ _ args 1 HE.out (by decide)).symm (fun q => absurd ((headS_err _ _ _ _ _ _ _ _ _ _ _ args 1 HE.out (by decide)).symm.trans q) (by decide))
  have e4 : decide (0 < (tl : Int) + el) = false := decide_eq_false d4
  have HE2 := Aside0.mk (st23_ok 6 m args.length tl el (by decide) (by decide) HM.out (by rw [HD3.out]; rfl) (fun _ => by omega))
  clear HM
  have hk := HS2.out.ws.lk
  obtain ⟨AK, cK, rfl, hcK, hfK⟩ := hk
  clear hcK hfK
  have y2 := (blk_cell HS2.out.ws.blk 2).trans rfl
  go_wp2_with fail
  refine (witheref9_sets.calls 6 false _ ((sets_eq 6).trans (by rfl))).mono ?_
  rintro r9 w3 ⟨rfl, hd3⟩
  replace HS2 := Aside0.mk (HS2.out.step (drawn_below hd3))
  clear hd3 x0 x1 x2 x4 y2
  clear x5 x6
  go_upto_if 78 with fail
  go_cut [] (fun wx => ∃ vK', Aside0 (ON w0 W wx y P AL cL vK' (regsOf 6 known r) (n + 1) part W.heap.size (.cells #[.int .i64 6, .int .i64 m, .string r, .string l, .slice A4 args.length c4, .slice A5 tl c5, .slice A6 el c6] 55 (0, 0))) ∧ Aside0 (st4 P 6 known r 0 = 0))
  case first =>
    have x2 := (blk_cell HS2.out.hx 2).trans rfl
    cases hr0 : r.toList.isEmpty with
    | false =>
      have HE := Aside0.mk (headS_3 P (n + 1) deep known 6 m r l args.length tl el 1 HE1.out HE2.out (st4_none P 6 known r rfl hr0) (by decide))
      go_wp2
      go_ret
      exact HS2.out.out _ 1 _ ((headS_err _ _ _ _ _ _ _ _ _ _ _ args 1 HE.out (by decide)).symm) (fun q => absurd (((headS_err _ _ _ _ _ _ _ _ _ _ _ args 1 HE.out (by decide)).symm).trans q) (by decide))
    | true =>
      have HE := Aside0.mk (st4_nok P 6 known r rfl hr0)
      go_wp2
      go_meet
      exact ⟨_, HS2, HE⟩
  case rest =>
  obtain ⟨vK', HS7, HE3⟩ := hcut
  clear HS2 HE1 e1 e2 e3 e3'
  have x0 := (blk_cell HS7.out.hx 0).trans rfl
  have x3 := (blk_cell HS7.out.hx 3).trans rfl
  have x4 := (blk_cell HS7.out.hx 4).trans rfl
  cases hl0 : l.toList.isEmpty with
  | false =>
    have HE := Aside0.mk (headS_4 P (n + 1) deep known 6 m r l args.length tl el 1 HEA.out HE2.out HE3.out (st5_none P 6 l rfl hl0))
    go_wp2
    go_ret
    exact HS7.out.out _ 1 _ ((headS_err _ _ _ _ _ _ _ _ _ _ _ args 1 HE.out (by decide)).symm) (fun q => absurd (((headS_err _ _ _ _ _ _ _ _ _ _ _ args 1 HE.out (by decide)).symm).trans q) (by decide))
  | true =>
  have HE := Aside0.mk (headS_4 P (n + 1) deep known 6 m r l args.length tl el 0 HEA.out HE2.out HE3.out (st5_nok P 6 l rfl hl0))
  go_wp2
  clear hl0
  clear x0 x3 x4
  go_loopw [9] (fun v9 wr => ∃ i : Nat, i ≤ args.length ∧ v9 = .int .i64 i ∧ Aside0 (ON w0 W wr y P AL cL vK' (regsOf 6 known r) (n + 1) part W.heap.size (.cells #[.int .i64 6, .int .i64 m, .string r, .string l, .slice A4 args.length c4, .slice A5 tl c5, .slice A6 el c6] 55 (0, 0))) ∧ Aside0 (argsE P.vals known 0 (args.take i) = 0)) (fun v9 _ => args.length - (intOf v9).toNat)
  case atStart => exact ⟨0, Nat.zero_le _, rfl, HS7, ⟨rfl⟩⟩
  case round =>
    clear HS7
    obtain ⟨i, hi, rfl, HS, HEi⟩ := hrel
    have x4 := (blk_cell HS.out.hx 4).trans rfl
    by_cases hlt : i < args.length
    · have e1' : decide ((i : Int) < (args.length : Int)) = true := decide_eq_true (by omega)
      have HLT := Aside0.mk hlt
      have hal9 : args.length ≤ 1000 := HF.out.2.2.1
      exfalso; have := HD3.out; omega
    · have e1' : decide ((i : Int) < (args.length : Int)) = false := decide_eq_false (by omega)
      have e2' : decide (i < args.length) = false := decide_eq_false hlt
      have HX := Aside0.mk (show argsE P.vals known 0 args = 0 from by have := HEi.out; rwa [List.take_of_length_le (by omega)] at this)
      go_wp2
      go_ret
      exact HS.out.out _ 0 _ (by rw [HE.out, HX.out]) (fun _ => rfl)
end Go.Proofs.Ytlhbnbckanmaiaa.K
namespace Go.Proofs.Ytlhbnbckanmaiaa.K
open Go Go.RowKit Go.Proofs.YtlhbnbckanmaiaaW.PrintWords Go.Proofs.YtlhbnbckanmaiaaW.PrintLast Go.Proofs.YtlhbnbckanmaiaaW.PrintMore Go.Proofs.Ytlhbnbckanmaiaa.PC1
set_option linter.unusedVariables false
set_option linter.unusedSimpArgs false
set_option maxHeartbeats 8000000 in
set_option maxRecDepth 100000 in
theorem one_7 (w0 W : World) (y : Nat) (P : AP) (AL : Option Addr) (cL : Nat) (vK : Value) (known : List ByteArray) (n part : Int) (h : WS w0 W y P.vals AL cL (P.init.map (fun x => x.f0)) vK known n part) (hn0 : 0 ≤ n) (hn1 : n ≤ 100000000) (hkl : known.length ≤ 4) (hil : P.init.length ≤ 1000)
    (m : Int) (r l : ByteArray) (args : List TExpr) (A4 A5 A6 : Option Addr) (c4 c5 c6 tl el : Nat) (deep : Int) (hC : Kd.C kExpr w0 A4 args.length args) (hc4 : args.length ≤ c4) (hr : r.size ≤ 1000) (hal : args.length ≤ 1000) (hsa : smEs args) (hd : ∀ x ∈ args, dE 20 x) (htl : tl ≤ 1000) (hel : el ≤ 1000) :
    Calls Try.prog 50 #[.pointer (some ⟨y, 0, none⟩), .agg #[.int .i64 7, .int .i64 m, .string r, .string l, .slice A4 args.length c4, .slice A5 tl c5, .slice A6 el c6], .int .i64 deep] W (OneOut w0 W y P AL cL known n part (argsE P.vals known (headS P (n + 1) deep known 7 m r l args.length tl el) args) (regsOf 7 known r)) := by
  have HF := Aside0.mk (And.intro hC (And.intro hr (And.intro hal (And.intro hsa (And.intro hd (And.intro hkl (And.intro hil hc4)))))))
  have HS0 := Aside0.mk h
  have hlt := h.lt
  have y3 := (blk_cell h.blk 3).trans rfl
  have hfz := blk_frozen h.blk
  have HS1 := Aside0.mk (ON.mk (W := W) (P := P) ((h.setN (n + 1)).step (below_alloc (Below.refl _ _) (.cells #[.int .i64 7, .int .i64 m, .string r, .string l, .slice A4 args.length c4, .slice A5 tl c5, .slice A6 el c6] 55 (0, 0)))) ((chg_set W y 3 (.int .i64 (n + 1))).step (Chg.of_below (F := fun k => k = y) (below_alloc (Below.refl _ _) (.cells #[.int .i64 7, .int .i64 m, .string r, .string l, .slice A4 args.length c4, .slice A5 tl c5, .slice A6 el c6] 55 (0, 0))))) (blk_newN W y (.int .i64 (n + 1)) (.cells #[.int .i64 7, .int .i64 m, .string r, .string l, .slice A4 args.length c4, .slice A5 tl c5, .slice A6 el c6] 55 (0, 0))) (show ¬ W.heap.size = y from by omega) (Nat.le_refl _))
  clear h hC hr hal hsa hd hkl hil hc4
  go_enter Try.func50, Try.ntmps50
  by_cases d1 : 16 < n + 1
  · have e1 : decide (16 < n + 1) = true := decide_eq_true d1
    have HE := Aside0.mk (headS_1 P (n + 1) deep known 7 m r l args.length tl el (by unfold st1 needE; simp [show ¬ (n + 1 ≤ 16) by omega]))
    go_wp2
    go_ret
    exact HS1.out.out _ 3 _ (headS_err _ _ _ _ _ _ _ _ _ _ _ args 3 HE.out (by decide)).symm (fun q => absurd ((headS_err _ _ _ _ _ _ _ _ _ _ _ args 3 HE.out (by decide)).symm.trans q) (by decide))
  have e1 : decide (16 < n + 1) = false := decide_eq_false d1
  by_cases d2 : 6 < deep
  · have e2 : decide (6 < deep) = true := decide_eq_true d2
    have HE := Aside0.mk (headS_1 P (n + 1) deep known 7 m r l args.length tl el (by unfold st1 needE; simp [show ¬ (deep ≤ 6) by omega]))
    go_wp2
    go_ret
    exact HS1.out.out _ 3 _ (headS_err _ _ _ _ _ _ _ _ _ _ _ args 3 HE.out (by decide)).symm (fun q => absurd ((headS_err _ _ _ _ _ _ _ _ _ _ _ args 3 HE.out (by decide)).symm.trans q) (by decide))
  have e2 : decide (6 < deep) = false := decide_eq_false d2
  have HE1 := Aside0.mk (show st1 (n + 1) deep 0 = 0 from by unfold st1 needE; simp; exact ⟨by omega, by omega⟩)
  have HEA := HE1
  go_wp2_with fail
  refine (witheref9_may.calls 5 7 m _ _ (may_eq 7 m)).mono ?_
  rintro r9 w2 ⟨rfl, hd2⟩
  have HS2 := Aside0.mk (HS1.out.step (drawn_below hd2))
  clear HS1 hd2 y3
  have x0 := (blk_cell HS2.out.hx 0).trans rfl
  have x1 := (blk_cell HS2.out.hx 1).trans rfl
  have x2 := (blk_cell HS2.out.hx 2).trans rfl
  have x4 := (blk_cell HS2.out.hx 4).trans rfl
  cases hm : mayB 7 m with
  | false =>
    have HE := Aside0.mk (headS_2 P (n + 1) deep known 7 m r l args.length tl el HE1.out (st2_bad 7 m args.length tl el (by decide) (by decide) hm))
    clear hm
    go_wp2
    go_ret
    exact HS2.out.out _ 1 _ (headS_err _ _ _ _ _ _ _ _ _ _ _ args 1 HE.out (by decide)).symm (fun q => absurd ((headS_err _ _ _ _ _ _ _ _ _ _ _ args 1 HE.out (by decide)).symm.trans q) (by decide))
  | true =>
  have HM := Aside0.mk hm
  clear hm
  by_cases d3 : args.length = 1
  case neg =>
    have e3 : ¬ ((args.length : Int) = 1) := by omega
    have e3' : ((args.length : Int) != 1) = true := by rw [bne_iff_ne]; exact e3
    have HE := Aside0.mk (headS_2 P (n + 1) deep known 7 m r l args.length tl el HE1.out (st2_bad2 7 m args.length tl el (by rw [show argsF 7 = 1 from rfl]; exact e3)))
    clear d3
    go_wp2
    go_ret
    exact HS2.out.out _ 1 _ (headS_err _ _ _ _ _ _ _ _ _ _ _ args 1 HE.out (by decide)).symm (fun q => absurd ((headS_err _ _ _ _ _ _ _ _ _ _ _ args 1 HE.out (by decide)).symm.trans q) (by decide))
  have e3 : (args.length : Int) = 1 := by omega
  have e3' : ((args.length : Int) != 1) = false := by rw [e3]; rfl
  have HD3 := Aside0.mk d3
  clear d3
  have HE2 := Aside0.mk (st23_ok 7 m args.length tl el (by decide) (by decide) HM.out (by rw [HD3.out]; rfl) (fun q => absurd q (by decide)))
  clear HM
  have hk := HS2.out.ws.lk
  obtain ⟨AK, cK, rfl, hcK, hfK⟩ := hk
  clear hcK hfK
  have y2 := (blk_cell HS2.out.ws.blk 2).trans rfl
  go_wp2_with fail
  refine (witheref9_sets.calls 7 false _ ((sets_eq 7).trans (by rfl))).mono ?_
  rintro r9 w3 ⟨rfl, hd3⟩
  replace HS2 := Aside0.mk (HS2.out.step (drawn_below hd3))
  clear hd3 x0 x1 x2 x4 y2
  go_upto_if 78 with fail
  go_cut [] (fun wx => ∃ vK', Aside0 (ON w0 W wx y P AL cL vK' (regsOf 7 known r) (n + 1) part W.heap.size (.cells #[.int .i64 7, .int .i64 m, .string r, .string l, .slice A4 args.length c4, .slice A5 tl c5, .slice A6 el c6] 55 (0, 0))) ∧ Aside0 (st4 P 7 known r 0 = 0))
  case first =>
    have x2 := (blk_cell HS2.out.hx 2).trans rfl
    cases hr0 : r.toList.isEmpty with
    | false =>
      have HE := Aside0.mk (headS_3 P (n + 1) deep known 7 m r l args.length tl el 1 HE1.out HE2.out (st4_none P 7 known r rfl hr0) (by decide))
      go_wp2
      go_ret
      exact HS2.out.out _ 1 _ ((headS_err _ _ _ _ _ _ _ _ _ _ _ args 1 HE.out (by decide)).symm) (fun q => absurd (((headS_err _ _ _ _ _ _ _ _ _ _ _ args 1 HE.out (by decide)).symm).trans q) (by decide))
    | true =>
      have HE := Aside0.mk (st4_nok P 7 known r rfl hr0)
      go_wp2
      go_meet
      exact ⟨_, HS2, HE⟩
  case rest =>
  obtain ⟨vK', HS7, HE3⟩ := hcut
  clear HS2 HE1 e1 e2 e3 e3'
  have x0 := (blk_cell HS7.out.hx 0).trans rfl
  have x3 := (blk_cell HS7.out.hx 3).trans rfl
  have x4 := (blk_cell HS7.out.hx 4).trans rfl
  cases hl0 : l.toList.isEmpty with
  | false =>
    have HE := Aside0.mk (headS_4 P (n + 1) deep known 7 m r l args.length tl el 1 HEA.out HE2.out HE3.out (st5_none P 7 l rfl hl0))
    go_wp2
    go_ret
    exact HS7.out.out _ 1 _ ((headS_err _ _ _ _ _ _ _ _ _ _ _ args 1 HE.out (by decide)).symm) (fun q => absurd (((headS_err _ _ _ _ _ _ _ _ _ _ _ args 1 HE.out (by decide)).symm).trans q) (by decide))
  | true =>
  have HE := Aside0.mk (headS_4 P (n + 1) deep known 7 m r l args.length tl el 0 HEA.out HE2.out HE3.out (st5_nok P 7 l rfl hl0))
  go_wp2
  clear hl0
  clear x0 x3 x4
  go_loopw [9] (fun v9 wr => ∃ i : Nat, i ≤ args.length ∧ v9 = .int .i64 i ∧ Aside0 (ON w0 W wr y P AL cL vK' (regsOf 7 known r) (n + 1) part W.heap.size (.cells #[.int .i64 7, .int .i64 m, .string r, .string l, .slice A4 args.length c4, .slice A5 tl c5, .slice A6 el c6] 55 (0, 0))) ∧ Aside0 (argsE P.vals known 0 (args.take i) = 0)) (fun v9 _ => args.length - (intOf v9).toNat)
  case atStart => exact ⟨0, Nat.zero_le _, rfl, HS7, ⟨rfl⟩⟩
  case round =>
    clear HS7
    obtain ⟨i, hi, rfl, HS, HEi⟩ := hrel
    have x4 := (blk_cell HS.out.hx 4).trans rfl
    by_cases hlt : i < args.length
    · have e1' : decide ((i : Int) < (args.length : Int)) = true := decide_eq_true (by omega)
      have HLT := Aside0.mk hlt
      have hal9 : args.length ≤ 1000 := HF.out.2.2.1
      have e2' : decide (i < args.length) = true := decide_eq_true hlt
      obtain ⟨ad, A3, c3, hA, h0, h1, h2, h3, hl, hk⟩ := at_T57 HF.out.1 (i : Int) (by omega) (by omega)
      have HG := Aside0.mk (And.intro hl (And.intro hk (And.intro (rdE_eq args i hlt) (And.intro (smEs_get args i hlt HF.out.2.2.2.1) (HF.out.2.2.2.2.1 _ (List.getElem_mem hlt))))))
      clear hl hk
      subst hA
      rw [Int.toNat_natCast] at h0 h1 h2 h3
      replace h0 := pw_cell_below HS.out.ws.bel h0
      replace h1 := pw_cell_below HS.out.ws.bel h1
      replace h2 := pw_cell_below HS.out.ws.bel h2
      replace h3 := pw_cell_below HS.out.ws.bel h3
      rw [HG.out.2.2.1] at h0 h1 h2 h3
      have HC3 := Aside0.mk (show Kd.C kExpr w0 A3 args[i].f3.length args[i].f3 ∧ args[i].f3.length ≤ c3 from by have q1 := HG.out.1; have q2 := HG.out.2.1; rw [HG.out.2.2.1] at q1 q2; exact ⟨q2, q1⟩)
      have HSZ := Aside0.mk HG.out.2.2.2
      have HE9 := Aside0.mk (argsE_take P.vals known args 0 i hlt)
      generalize args[i] = xa at h0 h1 h2 h3 HC3 HSZ HE9
      clear HG
      obtain ⟨KD, hKD⟩ := deep_ev 20 (by decide) xa HSZ.out.2 HSZ.out.1
      have HKD := Aside0.mk (hKD KD (Nat.le_refl _))
      clear hKD
      go_wp2_with fail
      refine (witheref9_deep.calls KD xa.f0 xa.f1 xa.f2 A3 c3 xa.f3 (depE 20 xa) _ (Kd.C_below HC3.out.1 HS.out.ws.bel) HC3.out.2 HKD.out).mono ?_
      rintro r9 w9 ⟨rfl, hb⟩
      have hb9 := hb
      have HS9 := Aside0.mk (HS.out.step hb)
      replace h0 := pw_cell_below hb h0
      replace h1 := pw_cell_below hb h1
      replace h2 := pw_cell_below hb h2
      replace h3 := pw_cell_below hb h3
      clear hb hb9 x4 HS
      by_cases d6 : 6 < depE 20 xa
      · have e6 : decide (6 < depE 20 xa) = true := decide_eq_true d6
        have H7 : decide (depE 7 xa ≤ 6) = false := decide_eq_false (fun q => by have := (dep_iff 6 20 xa (by decide)).2 q; omega)
        have HX := Aside0.mk (argsE_stop P.vals known args (i + 1) 3 (by rw [HE9.out, HEi.out, H7]; exact exprF_err _ _ _ _ (by decide)) (by decide))
        clear H7
        go_wp2
        go_ret
        exact HS9.out.out _ 3 _ (by rw [HE.out, HX.out]) (fun q => absurd (by rw [HE.out, HX.out] at q; exact q) (by decide))
      have e6 : decide (6 < depE 20 xa) = false := decide_eq_false d6
      have H7 : decide (depE 7 xa ≤ 6) = true := decide_eq_true ((dep_iff 6 20 xa (by decide)).1 (by omega))
      replace HE9 := Aside0.mk (show argsE P.vals known 0 (args.take (i + 1)) = exprF P.vals known 0 xa from by rw [HE9.out, HEi.out, H7]; rfl)
      clear H7 d6
      have x4 := (blk_cell HS9.out.hx 4).trans rfl
      have y0 := (blk_cell HS9.out.ws.blk 0).trans rfl
      have hi0 : (0 : Int) ≤ (i : Int) := by omega
      have hi1 : (i : Int) < (args.length : Int) := by omega
      go_upto_region 37 with fail
      refine wp_region_any (by kernel_rfl) ?_
      replace HS9 := Aside0.mk (HS9.out.step (below_drew (Below.refl _ _)))
      refine wpAny_vals2 rfl (by kernel_rfl) ([(145, Value.pointer (some (⟨W.heap.size, 4, none⟩ : Addr))), (146, Value.slice (some ad) args.length c4), (147, Value.int .i64 (i : Int)), (148, Value.pointer (some (ad.add (i * 4)))), (149, Value.agg #[.int .i64 xa.f0, .int .i64 xa.f1, .string xa.f2, .slice A3 xa.f3.length c3]), (150, Value.pointer (some (⟨y, 0, none⟩ : Addr))), (151, Value.pointer (some (⟨y, 0, none⟩ : Addr))), (152, Value.pointer (some (⟨y, 0, none⟩ : Addr))), (153, Value.int .i64 P.vals), (154, Value.slice AK known.length cK), (155, Value.int .i64 (exprF P.vals known 0 xa)), (10, Value.int .i64 (exprF P.vals known 0 xa))]) [145, 146, 147, 148, 149, 150, 151, 152, 153, 154, 155, 10] rfl rfl (by decide) 159 rfl (by decide) ?_ ?_ _ _ (by simp) (by decide) (no_flag 12)
      · intro i9 o p r0 a w ho hp hr0 hsl hv hb K hK
        have hi9 : i9 < 12 := (Array.getElem?_eq_some_iff.1 ho).1
        match i9, hi9 with
        | 0, _ =>
          obtain rfl := Option.some.inj ho
          obtain rfl := Option.some.inj hp
          obtain rfl := Option.some.inj hr0
          refine want_yes rfl ?_
          have e := (hsl 4 rfl).trans (rfl : _ = Value.pointer (some (⟨W.heap.size, 0, none⟩ : Addr)))
          unfold Oper.wp; simp [execOp, e, go_sem]; exact hK _ (Below.refl _ _)
        | 1, _ =>
          obtain rfl := Option.some.inj ho
          obtain rfl := Option.some.inj hp
          obtain rfl := Option.some.inj hr0
          refine want_yes rfl ?_
          have e := hv 0 (of_decide_eq_true (by kernel_rfl)) _ rfl
          have c := pw_cell_below hb x4
          unfold Oper.wp; simp [execOp, e, c, go_sem]; exact hK _ (Below.refl _ _)
        | 2, _ =>
          obtain rfl := Option.some.inj ho
          obtain rfl := Option.some.inj hp
          obtain rfl := Option.some.inj hr0
          refine want_yes rfl ?_
          have e := (hsl 9 rfl).trans (rfl : _ = Value.int .i64 (i : Int))
          unfold Oper.wp; simp [execOp, e, go_sem]; exact hK _ (Below.refl _ _)
        | 3, _ =>
          obtain rfl := Option.some.inj ho
          obtain rfl := Option.some.inj hp
          obtain rfl := Option.some.inj hr0
          refine want_yes rfl ?_
          have e := hv 1 (of_decide_eq_true (by kernel_rfl)) _ rfl
          have e2 := hv 2 (of_decide_eq_true (by kernel_rfl)) _ rfl
          unfold Oper.wp; simp [execOp, e, e2, hi0, hi1, go_sem]; exact hK _ (Below.refl _ _)
        | 4, _ =>
          obtain rfl := Option.some.inj ho
          obtain rfl := Option.some.inj hp
          obtain rfl := Option.some.inj hr0
          refine want_yes rfl ?_
          have e := hv 3 (of_decide_eq_true (by kernel_rfl)) _ rfl
          have c0 := pw_cell_below hb h0
          have c1 := pw_cell_below hb h1
          have c2 := pw_cell_below hb h2
          have c3' := pw_cell_below hb h3
          unfold Oper.wp; simp [execOp, e, c0, c1, c2, c3', go_sem]; exact hK _ (Below.refl _ _)
        | 5, _ =>
          obtain rfl := Option.some.inj ho
          obtain rfl := Option.some.inj hp
          obtain rfl := Option.some.inj hr0
          refine want_yes rfl ?_
          have e := (hsl 0 rfl).trans (rfl : _ = Value.pointer (some (⟨y, 0, none⟩ : Addr)))
          unfold Oper.wp; simp [execOp, e, go_sem]; exact hK _ (Below.refl _ _)
        | 6, _ =>
          obtain rfl := Option.some.inj ho
          obtain rfl := Option.some.inj hp
          obtain rfl := Option.some.inj hr0
          refine want_yes rfl ?_
          have e := hv 5 (of_decide_eq_true (by kernel_rfl)) _ rfl
          unfold Oper.wp; simp [execOp, e, go_sem]; exact hK _ (Below.refl _ _)
        | 7, _ =>
          obtain rfl := Option.some.inj ho
          obtain rfl := Option.some.inj hp
          obtain rfl := Option.some.inj hr0
          refine want_yes rfl ?_
          have e := hv 6 (of_decide_eq_true (by kernel_rfl)) _ rfl
          unfold Oper.wp; simp [execOp, e, go_sem]; exact hK _ (Below.refl _ _)
        | 8, _ =>
          obtain rfl := Option.some.inj ho
          obtain rfl := Option.some.inj hp
          obtain rfl := Option.some.inj hr0
          refine want_yes rfl ?_
          have e := hv 7 (of_decide_eq_true (by kernel_rfl)) _ rfl
          have c := pw_cell_below hb y0
          unfold Oper.wp; simp [execOp, e, c, go_sem]; exact hK _ (Below.refl _ _)
        | 9, _ =>
          obtain rfl := Option.some.inj ho
          obtain rfl := Option.some.inj hp
          obtain rfl := Option.some.inj hr0
          refine want_yes rfl ?_
          have e := (hsl 8 rfl).trans (rfl : _ = Value.slice AK known.length cK)
          unfold Oper.wp; simp [execOp, e, go_sem]; exact hK _ (Below.refl _ _)
        | 10, _ =>
          obtain rfl := Option.some.inj ho
          obtain rfl := Option.some.inj hp
          obtain rfl := Option.some.inj hr0
          have e := hv 4 (of_decide_eq_true (by kernel_rfl)) _ rfl
          have e2 := hv 8 (of_decide_eq_true (by kernel_rfl)) _ rfl
          have e3' := hv 9 (of_decide_eq_true (by kernel_rfl)) _ rfl
          refine goes_ (N := some 155) Try.func79 (by kernel_rfl) rfl #[.agg #[.int .i64 xa.f0, .int .i64 xa.f1, .string xa.f2, .slice A3 xa.f3.length c3], .int .i64 P.vals, .slice AK known.length cK] (by simp [Region.wanted]) rfl rfl (by simp [Act.eval]; exact ⟨e, e2, e3'⟩) ?_
          have HO := HS9.out.step hb
          have hkn := (HS0.out.lk.step HO.chg).isat
          have hQ := rexpr_ok w P.vals AK cK known hkn.2 hkn.1 (by have := HF.out.2.2.2.2.2.1; omega) (SizeOf.sizeOf xa + 1) xa (Nat.lt_succ_self _) w A3 c3 (Below.refl _ _) (Kd.C_below HC3.out.1 HO.ws.bel) HC3.out.2 HSZ.out.1
          clear hkn HO
          refine Calls.mono hQ ?_
          clear hQ
          rintro _ w5 ⟨rfl, hd5⟩
          exact ⟨_, rfl, hK _ hd5⟩
        | 11, _ =>
          obtain rfl := Option.some.inj ho
          obtain rfl := Option.some.inj hp
          obtain rfl := Option.some.inj hr0
          refine want_yes rfl ?_
          have e := hv 10 (of_decide_eq_true (by kernel_rfl)) _ rfl
          unfold Oper.wp; simp [execOp, e, go_sem]; exact hK _ (Below.refl _ _)
      intro w5 hb5
      simp only [fill, List.setIfInBounds_toArray, List.set_cons_zero, List.set_cons_succ]
      replace HS9 := Aside0.mk (HS9.out.step hb5)
      clear hb5 h0 h1 h2 h3 x4 y0
      by_cases dz : exprF P.vals known 0 xa = 0
      · have ez : (exprF P.vals known 0 xa != 0) = false := by rw [dz]; rfl
        have HZ := Aside0.mk (HE9.out.trans dz)
        clear HE9
        go_wp2
        go_roundw
        case rel => exact ⟨i + 1, by have := HLT.out; omega, by go_num, HS9, HZ⟩
        case measure => have := HLT.out; simp [intOf]; omega
      · have ez : (exprF P.vals known 0 xa != 0) = true := by rw [bne_iff_ne]; exact dz
        have HX := Aside0.mk (argsE_stop P.vals known args (i + 1) _ HE9.out dz)
        go_wp2
        go_ret
        exact HS9.out.out _ _ _ (by rw [HE.out, HX.out]) (fun q => absurd (by rw [HE.out, HX.out] at q; exact q) dz)
    · have e1' : decide ((i : Int) < (args.length : Int)) = false := decide_eq_false (by omega)
      have e2' : decide (i < args.length) = false := decide_eq_false hlt
      have HX := Aside0.mk (show argsE P.vals known 0 args = 0 from by have := HEi.out; rwa [List.take_of_length_le (by omega)] at this)
      go_wp2
      go_ret
      exact HS.out.out _ 0 _ (by rw [HE.out, HX.out]) (fun _ => rfl)
end Go.Proofs.Ytlhbnbckanmaiaa.K
