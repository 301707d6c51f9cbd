/- A text of a claim (ours): the document's lists of statements; conditions: none of ours. -/
import Derived.Test.YtlhbnbckanmaiaaN2V
import Derived.Test.YtlhbnbckanmaiaaN3V
import Derived.Test.YtlhbnbckanmaiaaN4V
import Derived.Test.YtlhbnbckanmaiaaN5V
import Derived.Test.YtlhbnbckanmaiaaN6V
import Derived.Test.YtlhbnbckanmaiaaN7V
namespace Go.Proofs.Ytlhbnbckanmaiaa.K
open Go Go.RowKit Go.Proofs.YtlhbnbckanmaiaaW.PrintWords Go.Proofs.YtlhbnbckanmaiaaW.PrintLast Go.Proofs.YtlhbnbckanmaiaaW.PrintMore Go.Proofs.Ytlhbnbckanmaiaa.PC1
set_option linter.unusedVariables false
set_option linter.unusedSimpArgs false
theorem st2_kind (k m : Int) (al tl el : Nat) (h : k < 1 ∨ 7 < k) : st3 k tl el (st2 k m al 0) ≠ 0 := by
  have e : st2 k m al 0 = 1 := by
    unfold st2 needE okF
    rcases h with h | h
    · rw [show decide (1 ≤ k) = false from decide_eq_false (by omega)]; simp
    · rw [show decide (k ≤ 7) = false from decide_eq_false (by omega)]; simp
  rw [e, st3_err _ _ _ _ (by decide)]; decide
set_option maxHeartbeats 8000000 in
set_option maxRecDepth 100000 in
theorem one_x (k : Int) (hk : k < 1 ∨ 7 < k) (w0 W : World) (y : Nat) (P : AP) (AL : Option Addr) (cL : Nat) (vK : Value) (known : List ByteArray) (n part : Int) (h : WS w0 W y P.vals AL cL (P.init.map (fun x => x.f0)) vK known n part) (hn0 : 0 ≤ n) (hn1 : n ≤ 100000000)
    (m : Int) (r l : ByteArray) (args : List TExpr) (A4 A5 A6 : Option Addr) (c4 c5 c6 tl el : Nat) (deep : Int) (htl : tl ≤ 1000) (hel : el ≤ 1000) :
    Calls Try.prog 50 #[.pointer (some ⟨y, 0, none⟩), .agg #[.int .i64 k, .int .i64 m, .string r, .string l, .slice A4 args.length c4, .slice A5 tl c5, .slice A6 el c6], .int .i64 deep] W (OneOut w0 W y P AL cL known n part (argsE P.vals known (headS P (n + 1) deep known k m r l args.length tl el) args) (regsOf k known r)) := by
  have HS0 := Aside0.mk h
  have hlt := h.lt
  have y3 := (blk_cell h.blk 3).trans rfl
  have hfz := blk_frozen h.blk
  have hw1 : wrap64 (n + 1) = n + 1 := by unfold wrap64; omega
  have HS1 := Aside0.mk (ON.mk (W := W) (P := P) ((h.setN (n + 1)).step (below_alloc (Below.refl _ _) (.cells #[.int .i64 k, .int .i64 m, .string r, .string l, .slice A4 args.length c4, .slice A5 tl c5, .slice A6 el c6] 55 (0, 0)))) ((chg_set W y 3 (.int .i64 (n + 1))).step (Chg.of_below (below_alloc (Below.refl _ _) _))) (blk_newN W y _ _) (by omega) (Nat.le_refl _))
  clear h
  go_enter Try.func50, Try.ntmps50
  by_cases d1 : 16 < n + 1
  · have e1 : decide (16 < n + 1) = true := decide_eq_true d1
    have HE := Aside0.mk (headS_1 P (n + 1) deep known k m r l args.length tl el (by unfold st1 needE; simp [show ¬ (n + 1 ≤ 16) by omega]))
    go_wp2
    go_ret
    exact HS1.out.out _ 3 _ (headS_err _ _ _ _ _ _ _ _ _ _ _ args 3 HE.out (by decide)).symm (fun q => absurd ((headS_err _ _ _ _ _ _ _ _ _ _ _ args 3 HE.out (by decide)).symm.trans q) (by decide))
  have e1 : decide (16 < n + 1) = false := decide_eq_false d1
  by_cases d2 : 6 < deep
  · have e2 : decide (6 < deep) = true := decide_eq_true d2
    have HE := Aside0.mk (headS_1 P (n + 1) deep known k m r l args.length tl el (by unfold st1 needE; simp [show ¬ (deep ≤ 6) by omega]))
    go_wp2
    go_ret
    exact HS1.out.out _ 3 _ (headS_err _ _ _ _ _ _ _ _ _ _ _ args 3 HE.out (by decide)).symm (fun q => absurd ((headS_err _ _ _ _ _ _ _ _ _ _ _ args 3 HE.out (by decide)).symm.trans q) (by decide))
  have e2 : decide (6 < deep) = false := decide_eq_false d2
  have HE1 := Aside0.mk (show st1 (n + 1) deep 0 = 0 from by unfold st1 needE; simp; exact ⟨by omega, by omega⟩)
  have HE := Aside0.mk (headS_2 P (n + 1) deep known k m r l args.length tl el HE1.out (st2_kind k m args.length tl el hk))
  have g5 : (k == 5) = false := beq_eq_false_iff_ne.2 (by omega)
  have g2 : (k == 2) = false := beq_eq_false_iff_ne.2 (by omega)
  have g6 : (k == 6) = false := beq_eq_false_iff_ne.2 (by omega)
  by_cases d3 : k < 1
  · have e3 : decide (k < 1) = true := decide_eq_true d3
    clear hk d3
    go_wp2
    go_ret
    exact HS1.out.out _ 1 _ (headS_err _ _ _ _ _ _ _ _ _ _ _ args 1 HE.out (by decide)).symm (fun q => absurd ((headS_err _ _ _ _ _ _ _ _ _ _ _ args 1 HE.out (by decide)).symm.trans q) (by decide))
  · have e3 : decide (k < 1) = false := decide_eq_false d3
    have e4 : decide (7 < k) = true := decide_eq_true (by omega)
    clear hk d3
    go_wp2
    go_ret
    exact HS1.out.out _ 1 _ (headS_err _ _ _ _ _ _ _ _ _ _ _ args 1 HE.out (by decide)).symm (fun q => absurd ((headS_err _ _ _ _ _ _ _ _ _ _ _ args 1 HE.out (by decide)).symm.trans q) (by decide))
/-- .. of any kind. -/
theorem one_any (k : Int) (w0 W : World) (y : Nat) (P : AP) (AL : Option Addr) (cL : Nat) (vK : Value) (known : List ByteArray) (n part : Int) (h : WS w0 W y P.vals AL cL (P.init.map (fun x => x.f0)) vK known n part) (hn0 : 0 ≤ n) (hn1 : n ≤ 100000000) (hkl : known.length ≤ 4) (hil : P.init.length ≤ 1000)
    (m : Int) (r l : ByteArray) (args : List TExpr) (A4 A5 A6 : Option Addr) (c4 c5 c6 tl el : Nat) (deep : Int) (hC : Kd.C kExpr w0 A4 args.length args) (hc4 : args.length ≤ c4) (hr : r.size ≤ 1000) (hal : args.length ≤ 1000) (hsa : smEs args) (hd : ∀ x ∈ args, dE 20 x) (htl : tl ≤ 1000) (hel : el ≤ 1000) :
    Calls Try.prog 50 #[.pointer (some ⟨y, 0, none⟩), .agg #[.int .i64 k, .int .i64 m, .string r, .string l, .slice A4 args.length c4, .slice A5 tl c5, .slice A6 el c6], .int .i64 deep] W (OneOut w0 W y P AL cL known n part (argsE P.vals known (headS P (n + 1) deep known k m r l args.length tl el) args) (regsOf k known r)) := by
  by_cases hk : k < 1 ∨ 7 < k
  · exact one_x k hk w0 W y P AL cL vK known n part h hn0 hn1 m r l args A4 A5 A6 c4 c5 c6 tl el deep htl hel
  · have hk' : k = 1 ∨ k = 2 ∨ k = 3 ∨ k = 4 ∨ k = 5 ∨ k = 6 ∨ k = 7 := by omega
    rcases hk' with rfl | rfl | rfl | rfl | rfl | rfl | rfl
    · exact one_1 w0 W y P AL cL vK known n part h hn0 hn1 hkl hil m r l args A4 A5 A6 c4 c5 c6 tl el deep hC hc4 hr hal hsa hd htl hel
    · exact one_2 w0 W y P AL cL vK known n part h hn0 hn1 hkl hil m r l args A4 A5 A6 c4 c5 c6 tl el deep hC hc4 hr hal hsa hd htl hel
    · exact one_3 w0 W y P AL cL vK known n part h hn0 hn1 hkl hil m r l args A4 A5 A6 c4 c5 c6 tl el deep hC hc4 hr hal hsa hd htl hel
    · exact one_4 w0 W y P AL cL vK known n part h hn0 hn1 hkl hil m r l args A4 A5 A6 c4 c5 c6 tl el deep hC hc4 hr hal hsa hd htl hel
    · exact one_5 w0 W y P AL cL vK known n part h hn0 hn1 hkl hil m r l args A4 A5 A6 c4 c5 c6 tl el deep hC hc4 hr hal hsa hd htl hel
    · exact one_6 w0 W y P AL cL vK known n part h hn0 hn1 hkl hil m r l args A4 A5 A6 c4 c5 c6 tl el deep hC hc4 hr hal hsa hd htl hel
    · exact one_7 w0 W y P AL cL vK known n part h hn0 hn1 hkl hil m r l args A4 A5 A6 c4 c5 c6 tl el deep hC hc4 hr hal hsa hd htl hel
end Go.Proofs.Ytlhbnbckanmaiaa.K
namespace Go.Proofs.Ytlhbnbckanmaiaa.K
open Go Go.RowKit Go.Proofs.YtlhbnbckanmaiaaW.PrintWords Go.Proofs.YtlhbnbckanmaiaaW.PrintLast Go.Proofs.YtlhbnbckanmaiaaW.PrintMore Go.Proofs.Ytlhbnbckanmaiaa.PC1
set_option linter.unusedVariables false
set_option linter.unusedSimpArgs false
mutual
/-- No expression of a statement goes deeper than 20. -/
def hdS : TStmt → Prop
  | ⟨_, _, _, _, a, t, e⟩ => (∀ x ∈ a, dE 20 x) ∧ hdL t ∧ hdL e
def hdL : List TStmt → Prop
  | [] => True
  | x :: xs => hdS x ∧ hdL xs
end
theorem hdS_def (x : TStmt) : hdS x ↔ ((∀ k ∈ x.f4, dE 20 k) ∧ hdL x.f5 ∧ hdL x.f6) := by cases x; rw [hdS]
theorem hdL_get : ∀ (l : List TStmt) (i : Nat) (hi : i < l.length), hdL l → hdS l[i]
  | [], i, hi, _ => by simp at hi
  | x :: xs, 0, _, h => by rw [hdL] at h; exact h.1
  | x :: xs, i + 1, hi, h => by rw [hdL] at h; exact hdL_get xs i (by simpa using hi) h.2
theorem stmtE_head (P : AP) (st deep : Int) (regs : List ByteArray) (x : TStmt) : stmtE P st deep regs x 0 = argsE P.vals regs (headS P st deep regs x.f0 x.f1 x.f2 x.f3 x.f4.length x.f5.length x.f6.length) x.f4 := rfl
theorem need_zero (ok : Bool) (c e : Int) (h : needE ok c e = 0) (hc : c ≠ 0) : ok = true ∧ e = 0 := by
  unfold needE at h
  by_cases he : e = 0
  · subst he
    cases ok with
    | true => exact ⟨rfl, rfl⟩
    | false => exact absurd h hc
  · rw [beq_eq_false_iff_ne.2 he, Bool.and_false, if_neg (by decide)] at h
    exact absurd h he
/-- A statement with nothing wrong leaves four registers at most. -/
theorem regs_four (P : AP) (st deep : Int) (regs : List ByteArray) (x : TStmt) (h : stmtE P st deep regs x 0 = 0) (h4 : regs.length ≤ 4) : (regsOf x.f0 regs x.f2).length ≤ 4 := by
  unfold regsOf
  cases hk : regF x.f0 with
  | false => rw [if_neg (by decide)]; exact h4
  | true =>
    rw [if_pos rfl]
    rw [stmtE_head] at h
    by_cases hc : headS P st deep regs x.f0 x.f1 x.f2 x.f3 x.f4.length x.f5.length x.f6.length = 0
    · unfold headS at hc
      by_cases h5 : st4 P x.f0 regs x.f2 (st3 x.f0 x.f5.length x.f6.length (st2 x.f0 x.f1 x.f4.length (st1 st deep 0))) = 0
      · generalize st3 x.f0 x.f5.length x.f6.length (st2 x.f0 x.f1 x.f4.length (st1 st deep 0)) = e at h5
        unfold st4 at h5; rw [hk, if_pos rfl] at h5
        have := (need_zero _ _ _ h5 (by decide)).1
        have := of_decide_eq_true this
        omega
      · rw [st5_err _ _ _ _ h5] at hc; exact absurd hc h5
    · rw [argsE_err _ _ _ hc] at h; exact absurd h hc
/-- What statements leave of the walker: s' is what check would know. -/
def AllOut (w0 W : World) (y : Nat) (P : AP) (AL : Option Addr) (cL : Nat) (s' : BS) (r : Ending) (W' : World) : Prop :=
  ∃ (vK : Value) (k2 : List ByteArray) (n' part' : Int), r = .returned (.int .i64 s'.e) ∧ WS w0 W' y P.vals AL cL (P.init.map (fun x => x.f0)) vK k2 n' part' ∧ Chg (fun k => k = y) W W' ∧ (s'.e = 0 → k2 = s'.regs ∧ n' = s'.st ∧ part' = s'.part + 1 ∧ k2.length ≤ 4) ∧ (s'.e ≠ 0 → part' = s'.part)
def AllOk (w0 : World) (y : Nat) (P : AP) (AL : Option Addr) (cL : Nat) (N : Nat) : Prop := ∀ (l : List TStmt), SizeOf.sizeOf l < N → ∀ (W : World) (s : BS) (vK : Value) (A : Option Addr) (c : Nat) (deep : Int), WS w0 W y P.vals AL cL (P.init.map (fun x => x.f0)) vK s.regs s.st (s.part + 1) → s.e = 0 → s.regs.length ≤ 4 → Kd.C kStmt w0 A l.length l → smSs l → hdL l → l.length ≤ 1000 →
    0 ≤ s.part → 0 ≤ s.st → 0 ≤ deep → s.part + cntL l ≤ 10000000 → s.st + cntL l ≤ 10000000 → deep + cntL l ≤ 10000000 →
    Calls Try.prog 28 #[.pointer (some ⟨y, 0, none⟩), .slice A l.length c, .int .i64 deep] W (AllOut w0 W y P AL cL (blockL P deep s l))
set_option maxHeartbeats 8000000 in
set_option maxRecDepth 100000000 in
theorem all_step (w0 : World) (y : Nat) (P : AP) (AL : Option Addr) (cL : Nat) (hil : P.init.length ≤ 1000) (N : Nat) (ih : AllOk w0 y P AL cL N) : AllOk w0 y P AL cL (N + 1) := by
  intro l hN W s vK A c deep h he0 hR4 hC hsm hhd hlen p0 t0 d0 pc tc dc
  have HI := Aside0.mk ih
  have HS0 := Aside0.mk (And.intro h (And.intro he0 hR4))
  have HC := Aside0.mk (And.intro hC (And.intro hsm (And.intro hN (And.intro (And.intro p0 (And.intro t0 d0)) (And.intro pc (And.intro tc (And.intro dc hhd)))))))
  have hq := h.lt
  have dd : deep ≤ 10000000 := by omega
  clear ih h he0 hR4 hC hsm hN hhd p0 t0 pc tc dc
  go_enter Try.func28, Try.ntmps28
  go_wp2_with fail
  go_loopw [7] (fun v7 wr => ∃ (i : Nat) (vK' : Value), i ≤ l.length ∧ v7 = .int .i64 i ∧ Aside0 (WS w0 wr y P.vals AL cL (P.init.map (fun x => x.f0)) vK' (blockL P deep s (l.take i)).regs (blockL P deep s (l.take i)).st ((blockL P deep s (l.take i)).part + 1) ∧ Chg (fun k => k = y) W wr ∧ (blockL P deep s (l.take i)).e = 0 ∧ (blockL P deep s (l.take i)).regs.length ≤ 4)) (fun v7 _ => l.length - (intOf v7).toNat)
  case atStart => exact ⟨0, vK, Nat.zero_le _, rfl, ⟨by rw [List.take_zero, blockL]; exact ⟨HS0.out.1, Chg.refl _ _, HS0.out.2⟩⟩⟩
  case round =>
    obtain ⟨i, vK', hi, rfl, HS⟩ := hrel
    clear HS0
    have HFR := Aside0.mk (blockL_far P deep s (l.take i))
    by_cases hlt : i < l.length
    · have HT := Aside0.mk (blockL_take P deep l s i hlt)
      have HST2 := Aside0.mk (blockL_stop P deep l s (i + 1))
      have HCN := Aside0.mk (cntL_take l i hlt)
      obtain ⟨si, hsi⟩ : ∃ si, si = blockL P deep s (l.take i) := ⟨_, rfl⟩
      rw [← hsi] at HS HFR HT
      clear hsi
      have e1 : decide ((i : Int) < (l.length : Int)) = true := decide_eq_true (by omega)
      have e2 : decide (i < l.length) = true := decide_eq_true hlt
      obtain ⟨ad, A4, c4, A5, c5, A6, c6, hA, h0, h1, h2, h3, h4, h5, h6, hl4, hk4, hl5, hk5, hl6, hk6⟩ := at_T55 HC.out.1 (i : Int) (by omega) (by omega)
      have HG := Aside0.mk (And.intro (And.intro hk4 hl4) (And.intro hk5 (And.intro hk6 (rdS_eq l i hlt))))
      have HM := Aside0.mk (And.intro (smSs_get l i hlt HC.out.2.1) (hdL_get l i hlt HC.out.2.2.2.2.2.2.2))
      have HZ := Aside0.mk (sizeS l i hlt)
      clear hl4 hk4 hl5 hk5 hl6 hk6
      subst hA
      rw [Int.toNat_natCast] at h0 h1 h2 h3 h4 h5 h6
      have HH5 := Aside0.mk h5
      have HH6 := Aside0.mk h6
      replace h0 := pw_cell_below HS.out.1.bel h0
      replace h1 := pw_cell_below HS.out.1.bel h1
      replace h2 := pw_cell_below HS.out.1.bel h2
      replace h3 := pw_cell_below HS.out.1.bel h3
      replace h4 := pw_cell_below HS.out.1.bel h4
      replace h5 := pw_cell_below HS.out.1.bel h5
      replace h6 := pw_cell_below HS.out.1.bel h6
      rw [HG.out.2.2.2] at h0 h1 h2 h3 h4 h5 h6 HH5 HH6
      have HK := Aside0.mk (show (Kd.C kExpr w0 A4 l[i].f4.length l[i].f4 ∧ l[i].f4.length ≤ c4) ∧ Kd.C kStmt w0 A5 l[i].f5.length l[i].f5 ∧ Kd.C kStmt w0 A6 l[i].f6.length l[i].f6 from by
        have q1 := HG.out.1; have q2 := HG.out.2.1; have q3 := HG.out.2.2.1; rw [HG.out.2.2.2] at q1 q2 q3; exact ⟨q1, q2, q3⟩)
      have HCS := Aside0.mk (cntS_def l[i])
      generalize l[i] = x at h0 h1 h2 h3 h4 h5 h6 HK HM HZ HT HCN HCS HH5 HH6
      clear HG
      have pb : 0 ≤ si.part ∧ si.part + cntS x ≤ 10000000 := by have := HFR.out.p; have := HC.out.2.2.2.1; have := HC.out.2.2.2.2.1; have := HCN.out; omega
      have tb : 0 ≤ si.st ∧ si.st + cntS x ≤ 10000000 := by have := HFR.out.t; have := HC.out.2.2.2.1; have := HC.out.2.2.2.2.2.1; have := HCN.out; omega
      obtain ⟨pb0, pb1⟩ := pb
      obtain ⟨tb0, tb1⟩ := tb
      have hc1 : 1 ≤ cntS x := by have := HCS.out; omega
      have hm := Aside0.mk ((smS_def x).1 HM.out.1)
      have hh := Aside0.mk ((hdS_def x).1 HM.out.2)
      have d0 : 0 ≤ deep := HC.out.2.2.2.1.2.2
      have hdx : deep + cntS x ≤ 10000000 := by have := HC.out.2.2.2.2.2.2.1; have := HCN.out; omega
      have hw1 : wrap64 (deep + 1) = deep + 1 := by unfold wrap64; omega
      have hw3 : wrap64 (si.part + 1 + 1) = si.part + 1 + 1 := by unfold wrap64; omega
      go_wp2_with fail
      refine (one_any x.f0 w0 wr y P AL cL vK' si.regs si.st (si.part + 1) HS.out.1 tb0 (by omega) HS.out.2.2.2 hil x.f1 x.f2 x.f3 x.f4 A4 A5 A6 c4 c5 c6 x.f5.length x.f6.length deep HK.out.1.1 HK.out.1.2 hm.out.1 hm.out.2.2.1 hm.out.2.2.2.1 hh.out.1 hm.out.2.2.2.2.1 hm.out.2.2.2.2.2.2.1).mono ?_
      rintro r9 w3 ⟨v1, k2, rfl, hW3, hk2, hc3⟩
      have hSe : (stmtS P deep si x).e = argsE P.vals si.regs (headS P (si.st + 1) deep si.regs x.f0 x.f1 x.f2 x.f3 x.f4.length x.f5.length x.f6.length) x.f4 := by
        show stmtE P (si.st + 1) deep si.regs x si.e = _
        rw [HS.out.2.2.1, stmtE_head]
      rw [← hSe] at hk2 ⊢
      have HS3 := Aside0.mk (And.intro hW3 (And.intro (HS.out.2.1.step hc3) hk2))
      have HF1 := Aside0.mk (show Far2 si (stmtS P deep si x) 1 ∧ (stmtS P deep si x).part = si.part + 1 ∧ (stmtS P deep si x).st = si.st + 1 ∧ (stmtS P deep si x).regs = regsOf x.f0 si.regs x.f2 ∧ ((stmtS P deep si x).e = 0 → (regsOf x.f0 si.regs x.f2).length ≤ 4) from ⟨stmtS_far P deep si x, rfl, rfl, rfl, fun q => by
        have q2 : stmtE P (si.st + 1) deep si.regs x si.e = 0 := q
        rw [HS.out.2.2.1] at q2
        exact regs_four P _ _ _ x q2 HS.out.2.2.2⟩)
      have HB1 := Aside0.mk (blockS_def P deep si x)
      have HE := Aside0.mk HS.out.2.2.1
      clear hW3 hk2 hc3 hSe h0 h1 h2 h3 h4 h5 h6 hq
      generalize stmtS P deep si x = s1 at HS3 HF1 HB1 ⊢
      have hq3 := HS3.out.1.lt
      have y4 := (blk_cell HS3.out.1.blk 4).trans rfl
      have hf3 := blk_frozen HS3.out.1.blk
      by_cases he1 : s1.e = 0
      · rw [he1]
        have HE1 := Aside0.mk (show blockS P deep si x = blockL P (deep + 1) (blockL P (deep + 1) s1 x.f5) x.f6 from by rw [HB1.out, if_neg (by rw [HE.out]; decide), if_neg (by rw [he1]; decide)])
        have HS4 := Aside0.mk (show WS w0 (w3.setCell ⟨y, 4, none⟩ (.int .i64 (si.part + 1 + 1))) y P.vals AL cL (P.init.map (fun x => x.f0)) v1 s1.regs s1.st (s1.part + 1) ∧ Chg (fun k => k = y) W (w3.setCell ⟨y, 4, none⟩ (.int .i64 (si.part + 1 + 1))) ∧ s1.regs.length ≤ 4 from by
          have q := HS3.out.2.2 he1
          subst q
          rw [HF1.out.2.1, HF1.out.2.2.1, HF1.out.2.2.2.1]
          exact ⟨HS3.out.1.setP _, HS3.out.2.1.step (chg_set w3 y 4 _), HF1.out.2.2.2.2 he1⟩)
        have HEE := Aside0.mk he1
        have x5 := pw_cell_below HS4.out.1.bel HH5.out
        clear he1
        go_wp2_with fail
        generalize World.setCell w3 _ _ = w4 at HS4 x5 ⊢
        refine (HI.out x.f5 (by have := HZ.out; have := HC.out.2.2.1; omega) _ s1 v1 A5 c5 (deep + 1) HS4.out.1 HEE.out HS4.out.2.2 HK.out.2.1 hm.out.2.2.2.2.2.1 hh.out.2.1 hm.out.2.2.2.2.1 (by have := HF1.out.2.1; omega) (by have := HF1.out.2.2.1; omega) (by omega) (by have := HF1.out.2.1; have := HCS.out; omega) (by have := HF1.out.2.2.1; have := HCS.out; omega) (by have := HCS.out; omega)).mono ?_
        rintro r9 w5 ⟨v2, k3, n3, p3, rfl, hW5, hc5, h50, h51⟩
        have HF2 := Aside0.mk (blockL_far P (deep + 1) s1 x.f5)
        have HS5 := Aside0.mk (And.intro hW5 (And.intro (HS4.out.2.1.step hc5) (And.intro h50 h51)))
        have HSTP := Aside0.mk (blockL_err P (deep + 1) (blockL P (deep + 1) s1 x.f5))
        clear hW5 hc5 h50 h51 x5 y4 hf3 hq3
        generalize blockL P (deep + 1) s1 x.f5 = s2 at HS5 HF2 HE1 HSTP ⊢
        by_cases he2 : s2.e = 0
        · rw [he2]
          obtain ⟨rfl, rfl, rfl, hk34⟩ := HS5.out.2.2.1 he2
          have HEE2 := Aside0.mk he2
          have HK34 := Aside0.mk hk34
          have x6 := pw_cell_below HS5.out.1.bel HH6.out
          clear he2 hk34
          go_wp2_with fail
          refine (HI.out x.f6 (by have := HZ.out; have := HC.out.2.2.1; omega) _ s2 v2 A6 c6 (deep + 1) HS5.out.1 HEE2.out HK34.out HK.out.2.2 hm.out.2.2.2.2.2.2.2 hh.out.2.2 hm.out.2.2.2.2.2.2.1 (by have := HF1.out.2.1; have := HF2.out.p; omega) (by have := HF1.out.2.2.1; have := HF2.out.t; omega) (by omega) (by have := HF1.out.2.1; have := HF2.out.p; have := HCS.out; omega) (by have := HF1.out.2.2.1; have := HF2.out.t; have := HCS.out; omega) (by have := HCS.out; omega)).mono ?_
          rintro r9 w6 ⟨v3, k4, n4, p4, rfl, hW6, hc6, h60, h61⟩
          have HS6 := Aside0.mk (And.intro hW6 (And.intro (HS5.out.2.1.step hc6) (And.intro h60 h61)))
          have HT2 := Aside0.mk (HT.out.trans HE1.out)
          clear hW6 hc6 h60 h61 x6 HT HE1
          generalize blockL P (deep + 1) s2 x.f6 = s3 at HS6 HT2 ⊢
          by_cases he3 : s3.e = 0
          · rw [he3]
            obtain ⟨rfl, rfl, rfl, hk34⟩ := HS6.out.2.2.1 he3
            have HS7 := Aside0.mk (show WS w0 w6 y P.vals AL cL (P.init.map (fun x => x.f0)) v3 (blockL P deep s (l.take (i + 1))).regs (blockL P deep s (l.take (i + 1))).st ((blockL P deep s (l.take (i + 1))).part + 1) ∧ Chg (fun k => k = y) W w6 ∧ (blockL P deep s (l.take (i + 1))).e = 0 ∧ (blockL P deep s (l.take (i + 1))).regs.length ≤ 4 from by
              rw [HT2.out]; exact ⟨HS6.out.1, HS6.out.2.1, he3, hk34⟩)
            have HLT := Aside0.mk hlt
            clear he3 hk34 hlt
            go_wp2
            go_roundw
            case rel => exact ⟨i + 1, v3, HLT.out, by go_num, HS7⟩
            case measure => have := HLT.out; simp [intOf]; omega
          · have g2 : (s3.e != 0) = true := by simpa using he3
            have HEX := Aside0.mk (show blockL P deep s l = s3 from by rw [HST2.out (by rw [HT2.out]; exact he3), HT2.out])
            have HP := Aside0.mk (HS6.out.2.2.2 he3)
            have HE3 := Aside0.mk he3
            clear he3
            go_wp2
            go_ret
            rw [HEX.out]
            exact ⟨v3, k4, n4, p4, rfl, HS6.out.1, HS6.out.2.1, fun q => absurd q HE3.out, fun _ => HP.out⟩
        · have g2 : (s2.e != 0) = true := by simpa using he2
          have HEX := Aside0.mk (show blockL P deep s l = s2 from by
            have q1 : blockL P deep s (l.take (i + 1)) = s2 := by rw [HT.out, HE1.out, HSTP.out he2]
            rw [HST2.out (by rw [q1]; exact he2), q1])
          have HP := Aside0.mk (HS5.out.2.2.2 he2)
          have HE3 := Aside0.mk he2
          clear he2
          go_wp2
          go_ret
          rw [HEX.out]
          exact ⟨v2, k3, n3, p3, rfl, HS5.out.1, HS5.out.2.1, fun q => absurd q HE3.out, fun _ => HP.out⟩
      · have g2 : (s1.e != 0) = true := by simpa using he1
        have HEX := Aside0.mk (show blockL P deep s l = s1 from by
          have hb : blockS P deep si x = s1 := by rw [HB1.out, if_neg (by rw [HE.out]; decide), if_pos he1]
          have q1 := HT.out
          rw [hb] at q1
          rw [HST2.out (by rw [q1]; exact he1), q1])
        have HE3 := Aside0.mk he1
        clear he1
        go_wp2
        go_ret
        rw [HEX.out]
        exact ⟨v1, k2, si.st + 1, si.part + 1, rfl, HS3.out.1, HS3.out.2.1, fun q => absurd q HE3.out, fun _ => HF1.out.2.1.symm⟩
    · have e1 : decide ((i : Int) < (l.length : Int)) = false := decide_eq_false (by omega)
      have e2 : decide (i < l.length) = false := decide_eq_false hlt
      obtain rfl : i = l.length := by omega
      have HZ := Aside0.mk (show AllOut w0 W y P AL cL (blockL P deep s l) (.returned (.int .i64 0)) wr from by
        have q := HS.out
        rw [List.take_length] at q
        exact ⟨vK', _, _, _, by rw [q.2.2.1], q.1, q.2.1, fun _ => ⟨rfl, rfl, rfl, q.2.2.2⟩, fun e => absurd q.2.2.1 e⟩)
      go_wp2
      go_ret
      exact HZ.out
theorem all_ok (w0 : World) (y : Nat) (P : AP) (AL : Option Addr) (cL : Nat) (hil : P.init.length ≤ 1000) : ∀ N, AllOk w0 y P AL cL N
  | 0 => fun l hN => by omega
  | N + 1 => all_step w0 y P AL cL hil N (all_ok w0 y P AL cL hil N)
end Go.Proofs.Ytlhbnbckanmaiaa.K
