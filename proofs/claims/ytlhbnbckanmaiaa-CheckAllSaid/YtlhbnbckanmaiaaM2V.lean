/- A text of a claim (ours): the asker's expressions; conditions: none of ours. -/
import Derived.Test.YtlhbnbckanmaiaaM1V
namespace Go.Proofs.Ytlhbnbckanmaiaa.K
open Go Go.RowKit Go.Proofs.YtlhbnbckanmaiaaW.PrintWords Go.Proofs.YtlhbnbckanmaiaaW.PrintLast Go.Proofs.YtlhbnbckanmaiaaW.PrintMore Go.Proofs.Ytlhbnbckanmaiaa.PC1
set_option linter.unusedVariables false
set_option linter.unusedSimpArgs false
theorem if_max (a b : Int) : (if a < b then b else a) = max a b := by split <;> omega
set_option maxHeartbeats 1000000 in
theorem kidsE (W : World) (x : TExpr) (A : Option Addr) (c : Nat) : Calls Try.prog 98 #[.agg #[.int .i64 x.f0, .int .i64 x.f1, .string x.f2, .slice A x.f3.length c]] W fun e W' => e = .returned (.slice A x.f3.length c) ∧ Below W.heap.size W W' := by
  go_enter Try.func98, Try.ntmps98
  go_wp2
  go_ret
  exact ⟨rfl, by repeat (first | exact Below.refl _ _ | (with_reducible first | apply below_alloc | apply pw_below_drewN | apply below_drew1))⟩
set_option maxHeartbeats 4000000 in
theorem depthE (n : Nat) : ∀ (hn : n ≤ 1000) (x : TExpr) (W : World) (A : Option Addr) (c : Nat) (hC : Kd.C kExpr W A x.f3.length x.f3) (hc : x.f3.length ≤ c) (hx : smE x),
    Calls Try.prog 97 #[.agg #[.int .i64 x.f0, .int .i64 x.f1, .string x.f2, .slice A x.f3.length c], .func (.func 98) #[] #[], .int .i64 ((n : Int) - 1)] W fun e W' => e = .returned (.int .i64 (depE n x)) ∧ Below W.heap.size W W' := by
  induction n with
  | zero =>
    intro hn x W A c hC hc hx
    clear hC hx
    go_enter Try.func97, Try.ntmps97
    go_wp2
    go_ret
    exact ⟨rfl, below_alloc (Below.refl _ _) _⟩
  | succ n ih =>
    intro hn x W A c hC hc hx
    have hd := depE_bd n
    have HX := Aside0.mk ((smE_def x).1 hx)
    have HC := Aside0.mk (And.intro hC hc)
    have HI := Aside0.mk ih
    have HD := Aside0.mk hd
    have e0 : decide (((n + 1 : Nat) : Int) - 1 < 0) = false := decide_eq_false (by omega)
    have e9 : ((n + 1 : Nat) : Int) - 1 = (n : Int) := by omega
    rw [e9]
    clear hC hc hx ih hd e0 e9
    have e0 : decide ((n : Int) < 0) = false := decide_eq_false (by omega)
    have n0 : (0 : Int) ≤ n := by omega
    have n1 : (n : Int) ≤ 1000 := by omega
    clear hn
    go_enter Try.func97, Try.ntmps97
    go_wp2_with fail
    refine (kidsE _ x A c).mono ?_
    rintro e w1 ⟨rfl, hb⟩
    have HB := Aside0.mk (below_step (below_alloc (Below.refl _ _) _) hb)
    clear hb
    go_wp2
    go_loopw [16, 7] (fun v16 v7 wr => ∃ i : Nat, i ≤ x.f3.length ∧ v16 = .int .i64 i ∧ v7 = .int .i64 ((x.f3.take i).foldl (fun a k => max a (depE n k)) 0) ∧ Aside0 (Below W.heap.size W wr)) (fun v16 _ _ => x.f3.length - (intOf v16).toNat)
    case atStart => exact ⟨0, Nat.zero_le _, rfl, rfl, HB⟩
    case round =>
      obtain ⟨i, hi, rfl, rfl, HL⟩ := hrel
      clear HB
      have hlen := HX.out.2.1
      have hbd := fold_bd (depE n) ((n : Int) + 1) (x.f3.take i) 0 (by omega) (by omega) (fun k => HD.out k)
      by_cases hlt : i < x.f3.length
      · have HF := Aside0.mk (fold_snoc (depE n) x.f3 i hlt)
        generalize (x.f3.take i).foldl (fun a k => max a (depE n k)) 0 = m at hbd HF ⊢
        obtain ⟨hbd0, hbd1⟩ := hbd
        have e1 : decide ((i : Int) < (x.f3.length : Int)) = true := decide_eq_true (by omega)
        have e2 : decide (i < x.f3.length) = true := decide_eq_true hlt
        obtain ⟨ad, A3, c3, hA, h0, h1, h2, h3, hl, hk⟩ := at_T57 (Kd.C_below HC.out.1 HL.out) (i : Int) (by omega) (by omega)
        have HK := Aside0.mk (And.intro hl hk)
        have HR := Aside0.mk (rdE_eq x.f3 i hlt)
        clear hl hk
        subst hA
        rw [Int.toNat_natCast] at h0 h1 h2 h3
        go_wp2_with fail
        refine (HI.out (by omega) (rd_T57 x.f3 (i : Int)) _ A3 c3 (Kd.C_below HK.out.2 (below_alloc (Below.refl _ _) _)) HK.out.1 (by rw [HR.out]; exact smEs_get _ i hlt HX.out.2.2)).mono ?_
        rintro e w2 ⟨rfl, hb⟩
        have HL := Aside0.mk (below_step HL.out (below_step (below_alloc (Below.refl _ _) _) hb))
        clear hb h0 h1 h2 h3
        go_wp2
        go_roundw
        case rel => exact ⟨i + 1, by omega, by go_num, by rw [HF.out, HR.out, if_max], HL⟩
        case measure => simp [intOf]; omega
      · have e1 : decide ((i : Int) < (x.f3.length : Int)) = false := decide_eq_false (by omega)
        have e2 : decide (i < x.f3.length) = false := decide_eq_false hlt
        obtain rfl : i = x.f3.length := by omega
        rw [List.take_length] at hbd ⊢
        have HF := Aside0.mk (show depE (n + 1) x = x.f3.foldl (fun a k => max a (depE n k)) 0 + 1 from rfl)
        generalize x.f3.foldl (fun a k => max a (depE n k)) 0 = m at hbd HF ⊢
        obtain ⟨hbd0, hbd1⟩ := hbd
        go_wp2
        go_ret
        exact ⟨congrArg (fun z => Ending.returned (Value.int .i64 z)) HF.out.symm, HL.out⟩
set_option maxHeartbeats 1000000 in
theorem kidsC (W : World) (x : TCond) (A : Option Addr) (c : Nat) : Calls Try.prog 74 #[.agg #[.int .i64 x.f0, .int .i64 x.f1, .string x.f2, .int .i64 x.f3, .slice A x.f4.length c]] W fun e W' => e = .returned (.slice A x.f4.length c) ∧ Below W.heap.size W W' := by
  go_enter Try.func74, Try.ntmps74
  go_wp2
  go_ret
  exact ⟨rfl, by repeat (first | exact Below.refl _ _ | (with_reducible first | apply below_alloc | apply pw_below_drewN | apply below_drew1))⟩
set_option maxHeartbeats 4000000 in
theorem depthC (n : Nat) : ∀ (hn : n ≤ 1000) (x : TCond) (W : World) (A : Option Addr) (c : Nat) (hC : Kd.C kCond W A x.f4.length x.f4) (hc : x.f4.length ≤ c) (hx : smC x),
    Calls Try.prog 73 #[.agg #[.int .i64 x.f0, .int .i64 x.f1, .string x.f2, .int .i64 x.f3, .slice A x.f4.length c], .func (.func 74) #[] #[], .int .i64 ((n : Int) - 1)] W fun e W' => e = .returned (.int .i64 (depC n x)) ∧ Below W.heap.size W W' := by
  induction n with
  | zero =>
    intro hn x W A c hC hc hx
    clear hC hx
    go_enter Try.func73, Try.ntmps73
    go_wp2
    go_ret
    exact ⟨rfl, below_alloc (Below.refl _ _) _⟩
  | succ n ih =>
    intro hn x W A c hC hc hx
    have hd := depC_bd n
    have HX := Aside0.mk ((smC_def x).1 hx)
    have HC := Aside0.mk (And.intro hC hc)
    have HI := Aside0.mk ih
    have HD := Aside0.mk hd
    have e0 : decide (((n + 1 : Nat) : Int) - 1 < 0) = false := decide_eq_false (by omega)
    have e9 : ((n + 1 : Nat) : Int) - 1 = (n : Int) := by omega
    rw [e9]
    clear hC hc hx ih hd e0 e9
    have e0 : decide ((n : Int) < 0) = false := decide_eq_false (by omega)
    have n0 : (0 : Int) ≤ n := by omega
    have n1 : (n : Int) ≤ 1000 := by omega
    clear hn
    go_enter Try.func73, Try.ntmps73
    go_wp2_with fail
    refine (kidsC _ x A c).mono ?_
    rintro e w1 ⟨rfl, hb⟩
    have HB := Aside0.mk (below_step (below_alloc (Below.refl _ _) _) hb)
    clear hb
    go_wp2
    go_loopw [16, 7] (fun v16 v7 wr => ∃ i : Nat, i ≤ x.f4.length ∧ v16 = .int .i64 i ∧ v7 = .int .i64 ((x.f4.take i).foldl (fun a k => max a (depC n k)) 0) ∧ Aside0 (Below W.heap.size W wr)) (fun v16 _ _ => x.f4.length - (intOf v16).toNat)
    case atStart => exact ⟨0, Nat.zero_le _, rfl, rfl, HB⟩
    case round =>
      obtain ⟨i, hi, rfl, rfl, HL⟩ := hrel
      clear HB
      have hlen := HX.out.2.1
      have hbd := fold_bd (depC n) ((n : Int) + 1) (x.f4.take i) 0 (by omega) (by omega) (fun k => HD.out k)
      by_cases hlt : i < x.f4.length
      · have HF := Aside0.mk (fold_snoc (depC n) x.f4 i hlt)
        generalize (x.f4.take i).foldl (fun a k => max a (depC n k)) 0 = m at hbd HF ⊢
        obtain ⟨hbd0, hbd1⟩ := hbd
        have e1 : decide ((i : Int) < (x.f4.length : Int)) = true := decide_eq_true (by omega)
        have e2 : decide (i < x.f4.length) = true := decide_eq_true hlt
        obtain ⟨ad, A4, c4, hA, h0, h1, h2, h3, h4, hl, hk⟩ := at_T26 (Kd.C_below HC.out.1 HL.out) (i : Int) (by omega) (by omega)
        have HK := Aside0.mk (And.intro hl hk)
        have HR := Aside0.mk (rdC_eq x.f4 i hlt)
        clear hl hk
        subst hA
        rw [Int.toNat_natCast] at h0 h1 h2 h3 h4
        go_wp2_with fail
        refine (HI.out (by omega) (rd_T26 x.f4 (i : Int)) _ A4 c4 (Kd.C_below HK.out.2 (below_alloc (Below.refl _ _) _)) HK.out.1 (by rw [HR.out]; exact smCs_get _ i hlt HX.out.2.2)).mono ?_
        rintro e w2 ⟨rfl, hb⟩
        have HL := Aside0.mk (below_step HL.out (below_step (below_alloc (Below.refl _ _) _) hb))
        clear hb h0 h1 h2 h3 h4
        go_wp2
        go_roundw
        case rel => exact ⟨i + 1, by omega, by go_num, by rw [HF.out, HR.out, if_max], HL⟩
        case measure => simp [intOf]; omega
      · have e1 : decide ((i : Int) < (x.f4.length : Int)) = false := decide_eq_false (by omega)
        have e2 : decide (i < x.f4.length) = false := decide_eq_false hlt
        obtain rfl : i = x.f4.length := by omega
        rw [List.take_length] at hbd ⊢
        have HF := Aside0.mk (show depC (n + 1) x = x.f4.foldl (fun a k => max a (depC n k)) 0 + 1 from rfl)
        generalize x.f4.foldl (fun a k => max a (depC n k)) 0 = m at hbd HF ⊢
        obtain ⟨hbd0, hbd1⟩ := hbd
        go_wp2
        go_ret
        exact ⟨congrArg (fun z => Ending.returned (Value.int .i64 z)) HF.out.symm, HL.out⟩
end Go.Proofs.Ytlhbnbckanmaiaa.K
namespace Go.Proofs.Ytlhbnbckanmaiaa.K
open Go Go.RowKit Go.Proofs.YtlhbnbckanmaiaaW.PrintWords Go.Proofs.YtlhbnbckanmaiaaW.PrintLast Go.Proofs.YtlhbnbckanmaiaaW.PrintMore Go.Proofs.Ytlhbnbckanmaiaa.PC1
set_option linter.unusedVariables false
set_option linter.unusedSimpArgs false
theorem len2 (n : Nat) : ((n : Int) == 2) = (n == 2) := by
  rw [Bool.eq_iff_iff, beq_iff_eq, beq_iff_eq]; omega
def leafB (op : Int) : Bool := (op == 1) || (op == 2)
def exprHead (vals : Int) (known : List ByteArray) (op n : Int) (nm : ByteArray) (len : Nat) (e : Int) : Int :=
  needE (!(op == 2) || hasB known nm) 4 (needE (!(op == 1) || valB vals n) 1 (needE (((op == 2) || (nm.toList == [])) && ((op == 1) || (n == 0))) 1 (needE ((leafB op && (len == 0)) || (!(leafB op) && (len == 2))) 1 (needE (decide (1 ≤ op) && decide (op ≤ 6)) 1 e))))
mutual
def exprF (vals : Int) (known : List ByteArray) (e : Int) : TExpr → Int
  | ⟨op, n, nm, kids⟩ => if e = 0 then exprFs vals known (exprHead vals known op n nm kids.length e) kids else e
def exprFs (vals : Int) (known : List ByteArray) (e : Int) : List TExpr → Int
  | [] => e
  | x :: xs => exprFs vals known (exprF vals known e x) xs
end
theorem exprFs_snoc (vals : Int) (known : List ByteArray) : ∀ (l : List TExpr) (e : Int) (x : TExpr), exprFs vals known e (l ++ [x]) = exprF vals known (exprFs vals known e l) x
  | [], e, x => by rw [List.nil_append, exprFs, exprFs, exprFs]
  | y :: ys, e, x => by rw [List.cons_append, exprFs, exprFs, exprFs_snoc]
theorem exprFs_take (vals : Int) (known : List ByteArray) (l : List TExpr) (e : Int) (i : Nat) (hi : i < l.length) : exprFs vals known e (l.take (i + 1)) = exprF vals known (exprFs vals known e (l.take i)) l[i] := by
  rw [List.take_succ_eq_append_getElem hi, exprFs_snoc]
theorem sizeE (l : List TExpr) (i : Nat) (hi : i < l.length) (op n : Int) (nm : ByteArray) : SizeOf.sizeOf l[i] < SizeOf.sizeOf (S57.mk op n nm l) := by
  have := List.sizeOf_lt_of_mem (List.getElem_mem hi)
  simp
  omega
theorem AS.to {w0 W : World} {q : Nat} {P : AP} {part e st e' : Int} {vR : Value} (h : AS w0 W q P part e st vR) (he : e = e') : AS w0 W q P part e' st vR := he ▸ h
/-- What an expression does to the state, for all expressions of a size. -/
def ExprOk (w0 : World) (q : Nat) (P : AP) (part st : Int) (vR : Value) (known : List ByteArray) (N : Nat) : Prop :=
  ∀ (x : TExpr), SizeOf.sizeOf x < N → ∀ (W : World) (e : Int) (A : Option Addr) (c : Nat) (B : Option Addr) (cB : Nat), AS w0 W q P part e st vR → Kd.C kExpr w0 A x.f3.length x.f3 → smE x → Far q W (fun W => Kd.C Kd.string W B known.length known) → known.length ≤ cB → known.length ≤ 1000 →
    Calls Try.prog 99 #[.pointer (some ⟨q, 0, none⟩), .agg #[.int .i64 x.f0, .int .i64 x.f1, .string x.f2, .slice A x.f3.length c], .slice B known.length cB] W (Asked w0 W q P part (exprF P.vals known e x) st vR)
set_option maxHeartbeats 4000000 in
theorem expr_a1 (w0 W : World) (q : Nat) (P : AP) (part st : Int) (vR : Value) (known : List ByteArray) (N : Nat) (ih : ExprOk w0 q P part st vR known N) (n : Int) (nm : ByteArray) (kids : List TExpr) (A : Option Addr) (c : Nat) (B : Option Addr) (cB : Nat) (hN : SizeOf.sizeOf (S57.mk 1 n nm kids) < N + 1)
    (h : AS w0 W q P part 0 st vR) (hC : Kd.C kExpr w0 A kids.length kids) (hx : smE ⟨1, n, nm, kids⟩) (hK : Far q W (fun W => Kd.C Kd.string W B known.length known)) (hcB : known.length ≤ cB) (hk : known.length ≤ 1000) (l0 : ((kids.length : Int) == 0) = true) (l1 : (kids.length == 0) = true) (l2 : (kids.length == 2) = false) (m0 : nm.toList = []) :
    Calls Try.prog 99 #[.pointer (some ⟨q, 0, none⟩), .agg #[.int .i64 1, .int .i64 n, .string nm, .slice A kids.length c], .slice B known.length cB] W (Asked w0 W q P part (exprFs P.vals known (exprHead P.vals known 1 n nm kids.length 0) kids) st vR) := by
  have HF := Aside0.mk (And.intro hN (And.intro hC (And.intro ((smE_def _).1 hx) (And.intro hcB hk))))
  have HI := Aside0.mk ih
  have HQ := Aside0.mk (show ¬ W.heap.size = q from by have := h.lt; omega)
  have Gl0 := Aside0.mk l0
  have Gl1 := Aside0.mk l1
  have Gl2 := Aside0.mk l2
  have Gm0 := Aside0.mk m0
  have hb := below_alloc (Below.refl W.heap.size W) (.cells #[.int .i64 1, .int .i64 n, .string nm, .slice A kids.length c] 57 (0, 0))
  have HX := Aside0.mk (blk_new W (.cells #[.int .i64 1, .int .i64 n, .string nm, .slice A kids.length c] 57 (0, 0)))
  have HS := Aside0.mk (AS.move (And.intro h (Chg.refl (fun k => k = q) W)) hb)
  have HK := Aside0.mk (hK.step (Chg.of_below hb))
  have c11 := h.cells.2.2.2.2.2.2.2.2.2.2.2.1
  have c1 := h.cells.2.1
  have hq := h.lt
  have hlen : kids.length ≤ 1000 := HF.out.2.2.1.2.1
  have x0 := True.intro
  have x1 := True.intro
  have x2 := True.intro
  have x3 := True.intro
  clear hN hC hx hK hcB hk h hb ih hlen
  go_enter Try.func99, Try.ntmps99
  go_wp2_with fail
  refine (need w0 _ q P _ _ _ _ HS.out.1 _ _).mono ?_
  rintro r w1 hA
  obtain rfl := hA.ret
  replace HX := Aside0.mk (hA.chg.heap HX.out HQ.out)
  replace HK := Aside0.mk (HK.out.step hA.chg)
  replace HS := Aside0.mk (hA.next HS.out.2)
  clear c1 c11 x0 x1 x2 x3 hA
  obtain ⟨-, c1, -, -, -, -, -, -, -, -, -, c11, -, -⟩ := HS.out.1.cells
  have x0 := (blk_cell HX.out 0).trans rfl
  have x1 := (blk_cell HX.out 1).trans rfl
  have x2 := (blk_cell HX.out 2).trans rfl
  have x3 := (blk_cell HX.out 3).trans rfl
  go_wp2_with fail
  refine (need w0 _ q P _ _ _ _ HS.out.1 _ _).mono ?_
  rintro r w1 hA
  obtain rfl := hA.ret
  replace HX := Aside0.mk (hA.chg.heap HX.out HQ.out)
  replace HK := Aside0.mk (HK.out.step hA.chg)
  replace HS := Aside0.mk (hA.next HS.out.2)
  clear c1 c11 x0 x1 x2 x3 hA
  obtain ⟨-, c1, -, -, -, -, -, -, -, -, -, c11, -, -⟩ := HS.out.1.cells
  have x0 := (blk_cell HX.out 0).trans rfl
  have x1 := (blk_cell HX.out 1).trans rfl
  have x2 := (blk_cell HX.out 2).trans rfl
  have x3 := (blk_cell HX.out 3).trans rfl
  go_wp2_with fail
  refine (need w0 _ q P _ _ _ _ HS.out.1 _ _).mono ?_
  rintro r w1 hA
  obtain rfl := hA.ret
  replace HX := Aside0.mk (hA.chg.heap HX.out HQ.out)
  replace HK := Aside0.mk (HK.out.step hA.chg)
  replace HS := Aside0.mk (hA.next HS.out.2)
  clear c1 c11 x0 x1 x2 x3 hA
  obtain ⟨-, c1, -, -, -, -, -, -, -, -, -, c11, -, -⟩ := HS.out.1.cells
  have x0 := (blk_cell HX.out 0).trans rfl
  have x1 := (blk_cell HX.out 1).trans rfl
  have x2 := (blk_cell HX.out 2).trans rfl
  have x3 := (blk_cell HX.out 3).trans rfl
  go_wp2_with fail
  refine (value w0 _ q P _ _ _ _ HS.out.1 n).mono ?_
  rintro r w4 ⟨rfl, rfl⟩
  go_wp2_with fail
  refine (need w0 _ q P _ _ _ _ HS.out.1 _ _).mono ?_
  rintro r w1 hA
  obtain rfl := hA.ret
  replace HX := Aside0.mk (hA.chg.heap HX.out HQ.out)
  replace HK := Aside0.mk (HK.out.step hA.chg)
  replace HS := Aside0.mk (hA.next HS.out.2)
  clear c1 c11 x0 x1 x2 x3 hA
  obtain ⟨-, c1, -, -, -, -, -, -, -, -, -, c11, -, -⟩ := HS.out.1.cells
  have x0 := (blk_cell HX.out 0).trans rfl
  have x1 := (blk_cell HX.out 1).trans rfl
  have x2 := (blk_cell HX.out 2).trans rfl
  have x3 := (blk_cell HX.out 3).trans rfl
  go_wp2_with fail
  refine (need w0 _ q P _ _ _ _ HS.out.1 _ _).mono ?_
  rintro r w1 hA
  obtain rfl := hA.ret
  replace HX := Aside0.mk (hA.chg.heap HX.out HQ.out)
  replace HK := Aside0.mk (HK.out.step hA.chg)
  replace HS := Aside0.mk (hA.next HS.out.2)
  clear c1 c11 x0 x1 x2 x3 hA
  obtain ⟨-, c1, -, -, -, -, -, -, -, -, -, c11, -, -⟩ := HS.out.1.cells
  have x0 := (blk_cell HX.out 0).trans rfl
  have x1 := (blk_cell HX.out 1).trans rfl
  have x2 := (blk_cell HX.out 2).trans rfl
  have x3 := (blk_cell HX.out 3).trans rfl
  clear l0 l1 l2 m0
  obtain ⟨e1, he1⟩ : ∃ e1, e1 = exprHead P.vals known 1 n nm kids.length 0 := ⟨_, rfl⟩
  replace HS := Aside0.mk (And.intro (HS.out.1.to (show _ = e1 from by rw [he1]; unfold exprHead leafB; simp [len2, Gl0.out, Gl1.out, Gl2.out, Gm0.out])) HS.out.2)
  have HE1 := Aside0.mk he1
  clear he1 c1 c11 x0 x1 x2
  have hlen : kids.length ≤ 1000 := HF.out.2.2.1.2.1
  go_wp2
  go_loopw [96] (fun v96 wr => ∃ i : Nat, i ≤ kids.length ∧ v96 = .int .i64 i ∧ Aside0 (AS w0 wr q P part (exprFs P.vals known e1 (kids.take i)) st vR ∧ Chg (fun k => k = q) W wr) ∧ Aside0 (Far q wr (fun W => Kd.C Kd.string W B known.length known))) (fun v96 _ => kids.length - (intOf v96).toNat)
  case atStart => exact ⟨0, Nat.zero_le _, rfl, HS, HK⟩
  case round =>
    clear HS HK HX x3
    obtain ⟨i, hi, rfl, HS, HK⟩ := hrel
    by_cases hlt : i < kids.length
    · have e1' : decide ((i : Int) < (kids.length : Int)) = true := decide_eq_true (by omega)
      have e2' : decide (i < kids.length) = true := decide_eq_true hlt
      obtain ⟨ad, A3, c3, hA, h0, h1, h2, h3, hl, hk⟩ := at_T57 HF.out.2.1 (i : Int) (by omega) (by omega)
      have HG := Aside0.mk (And.intro hl (And.intro hk (rdE_eq kids i hlt)))
      clear hl hk
      subst hA
      rw [Int.toNat_natCast] at h0 h1 h2 h3
      replace h0 := pw_cell_below HS.out.1.bel h0
      replace h1 := pw_cell_below HS.out.1.bel h1
      replace h2 := pw_cell_below HS.out.1.bel h2
      replace h3 := pw_cell_below HS.out.1.bel h3
      go_wp2_with fail
      refine (HI.out (rd_T57 kids (i : Int)) (by rw [HG.out.2.2]; have := sizeE kids i hlt 1 n nm; have := HF.out.1; omega) _ _ A3 c3 B cB (HS.out.1.step (below_alloc (Below.refl _ _) _)) HG.out.2.1 (by rw [HG.out.2.2]; exact smEs_get _ i hlt HF.out.2.2.1.2.2) (HK.out.step (Chg.of_below (below_alloc (Below.refl _ _) _))) HF.out.2.2.2.1 HF.out.2.2.2.2).mono ?_
      rintro r w2 hA
      obtain rfl := hA.ret
      replace HK := Aside0.mk ((HK.out.step (Chg.of_below (below_alloc (Below.refl _ _) _))).step hA.chg)
      replace HS := Aside0.mk (hA.next (HS.out.2.step (Chg.of_below (below_alloc (Below.refl _ _) _))))
      have HE := Aside0.mk (exprFs_take P.vals known kids e1 i hlt)
      clear h0 h1 h2 h3 hA
      go_wp2
      go_roundw
      case rel => exact ⟨i + 1, by omega, by go_num, ⟨And.intro (HS.out.1.to (by rw [HE.out, HG.out.2.2])) HS.out.2⟩, HK⟩
      case measure => simp [intOf]; omega
    · have e1' : decide ((i : Int) < (kids.length : Int)) = false := decide_eq_false (by omega)
      have e2' : decide (i < kids.length) = false := decide_eq_false hlt
      obtain rfl : i = kids.length := by omega
      go_wp2
      go_end0
      exact ⟨rfl, HS.out.1.to (by rw [List.take_length, HE1.out]), HS.out.2⟩
set_option maxHeartbeats 4000000 in
theorem expr_a2 (w0 W : World) (q : Nat) (P : AP) (part st : Int) (vR : Value) (known : List ByteArray) (N : Nat) (ih : ExprOk w0 q P part st vR known N) (n : Int) (nm : ByteArray) (kids : List TExpr) (A : Option Addr) (c : Nat) (B : Option Addr) (cB : Nat) (hN : SizeOf.sizeOf (S57.mk 1 n nm kids) < N + 1)
    (h : AS w0 W q P part 0 st vR) (hC : Kd.C kExpr w0 A kids.length kids) (hx : smE ⟨1, n, nm, kids⟩) (hK : Far q W (fun W => Kd.C Kd.string W B known.length known)) (hcB : known.length ≤ cB) (hk : known.length ≤ 1000) (l0 : ((kids.length : Int) == 0) = true) (l1 : (kids.length == 0) = true) (l2 : (kids.length == 2) = false) (m0 : ¬ nm.toList = []) (m1 : (!nm.toList.isEmpty) = true) (m2 : nm.toList.isEmpty = false) :
    Calls Try.prog 99 #[.pointer (some ⟨q, 0, none⟩), .agg #[.int .i64 1, .int .i64 n, .string nm, .slice A kids.length c], .slice B known.length cB] W (Asked w0 W q P part (exprFs P.vals known (exprHead P.vals known 1 n nm kids.length 0) kids) st vR) := by
  have HF := Aside0.mk (And.intro hN (And.intro hC (And.intro ((smE_def _).1 hx) (And.intro hcB hk))))
  have HI := Aside0.mk ih
  have HQ := Aside0.mk (show ¬ W.heap.size = q from by have := h.lt; omega)
  have Gl0 := Aside0.mk l0
  have Gl1 := Aside0.mk l1
  have Gl2 := Aside0.mk l2
  have Gm0 := Aside0.mk m0
  have Gm1 := Aside0.mk m1
  have Gm2 := Aside0.mk m2
  have hb := below_alloc (Below.refl W.heap.size W) (.cells #[.int .i64 1, .int .i64 n, .string nm, .slice A kids.length c] 57 (0, 0))
  have HX := Aside0.mk (blk_new W (.cells #[.int .i64 1, .int .i64 n, .string nm, .slice A kids.length c] 57 (0, 0)))
  have HS := Aside0.mk (AS.move (And.intro h (Chg.refl (fun k => k = q) W)) hb)
  have HK := Aside0.mk (hK.step (Chg.of_below hb))
  have c11 := h.cells.2.2.2.2.2.2.2.2.2.2.2.1
  have c1 := h.cells.2.1
  have hq := h.lt
  have hlen : kids.length ≤ 1000 := HF.out.2.2.1.2.1
  have x0 := True.intro
  have x1 := True.intro
  have x2 := True.intro
  have x3 := True.intro
  clear hN hC hx hK hcB hk h hb ih hlen
  go_enter Try.func99, Try.ntmps99
  go_wp2_with fail
  refine (need w0 _ q P _ _ _ _ HS.out.1 _ _).mono ?_
  rintro r w1 hA
  obtain rfl := hA.ret
  replace HX := Aside0.mk (hA.chg.heap HX.out HQ.out)
  replace HK := Aside0.mk (HK.out.step hA.chg)
  replace HS := Aside0.mk (hA.next HS.out.2)
  clear c1 c11 x0 x1 x2 x3 hA
  obtain ⟨-, c1, -, -, -, -, -, -, -, -, -, c11, -, -⟩ := HS.out.1.cells
  have x0 := (blk_cell HX.out 0).trans rfl
  have x1 := (blk_cell HX.out 1).trans rfl
  have x2 := (blk_cell HX.out 2).trans rfl
  have x3 := (blk_cell HX.out 3).trans rfl
  go_wp2_with fail
  refine (need w0 _ q P _ _ _ _ HS.out.1 _ _).mono ?_
  rintro r w1 hA
  obtain rfl := hA.ret
  replace HX := Aside0.mk (hA.chg.heap HX.out HQ.out)
  replace HK := Aside0.mk (HK.out.step hA.chg)
  replace HS := Aside0.mk (hA.next HS.out.2)
  clear c1 c11 x0 x1 x2 x3 hA
  obtain ⟨-, c1, -, -, -, -, -, -, -, -, -, c11, -, -⟩ := HS.out.1.cells
  have x0 := (blk_cell HX.out 0).trans rfl
  have x1 := (blk_cell HX.out 1).trans rfl
  have x2 := (blk_cell HX.out 2).trans rfl
  have x3 := (blk_cell HX.out 3).trans rfl
  go_wp2_with fail
  refine (need w0 _ q P _ _ _ _ HS.out.1 _ _).mono ?_
  rintro r w1 hA
  obtain rfl := hA.ret
  replace HX := Aside0.mk (hA.chg.heap HX.out HQ.out)
  replace HK := Aside0.mk (HK.out.step hA.chg)
  replace HS := Aside0.mk (hA.next HS.out.2)
  clear c1 c11 x0 x1 x2 x3 hA
  obtain ⟨-, c1, -, -, -, -, -, -, -, -, -, c11, -, -⟩ := HS.out.1.cells
  have x0 := (blk_cell HX.out 0).trans rfl
  have x1 := (blk_cell HX.out 1).trans rfl
  have x2 := (blk_cell HX.out 2).trans rfl
  have x3 := (blk_cell HX.out 3).trans rfl
  go_wp2_with fail
  refine (value w0 _ q P _ _ _ _ HS.out.1 n).mono ?_
  rintro r w4 ⟨rfl, rfl⟩
  go_wp2_with fail
  refine (need w0 _ q P _ _ _ _ HS.out.1 _ _).mono ?_
  rintro r w1 hA
  obtain rfl := hA.ret
  replace HX := Aside0.mk (hA.chg.heap HX.out HQ.out)
  replace HK := Aside0.mk (HK.out.step hA.chg)
  replace HS := Aside0.mk (hA.next HS.out.2)
  clear c1 c11 x0 x1 x2 x3 hA
  obtain ⟨-, c1, -, -, -, -, -, -, -, -, -, c11, -, -⟩ := HS.out.1.cells
  have x0 := (blk_cell HX.out 0).trans rfl
  have x1 := (blk_cell HX.out 1).trans rfl
  have x2 := (blk_cell HX.out 2).trans rfl
  have x3 := (blk_cell HX.out 3).trans rfl
  go_wp2_with fail
  refine (need w0 _ q P _ _ _ _ HS.out.1 _ _).mono ?_
  rintro r w1 hA
  obtain rfl := hA.ret
  replace HX := Aside0.mk (hA.chg.heap HX.out HQ.out)
  replace HK := Aside0.mk (HK.out.step hA.chg)
  replace HS := Aside0.mk (hA.next HS.out.2)
  clear c1 c11 x0 x1 x2 x3 hA
  obtain ⟨-, c1, -, -, -, -, -, -, -, -, -, c11, -, -⟩ := HS.out.1.cells
  have x0 := (blk_cell HX.out 0).trans rfl
  have x1 := (blk_cell HX.out 1).trans rfl
  have x2 := (blk_cell HX.out 2).trans rfl
  have x3 := (blk_cell HX.out 3).trans rfl
  clear l0 l1 l2 m0 m1 m2
  obtain ⟨e1, he1⟩ : ∃ e1, e1 = exprHead P.vals known 1 n nm kids.length 0 := ⟨_, rfl⟩
  replace HS := Aside0.mk (And.intro (HS.out.1.to (show _ = e1 from by rw [he1]; unfold exprHead leafB; simp [len2, Gl0.out, Gl1.out, Gl2.out, Gm0.out, Gm1.out, Gm2.out])) HS.out.2)
  have HE1 := Aside0.mk he1
  clear he1 c1 c11 x0 x1 x2
  have hlen : kids.length ≤ 1000 := HF.out.2.2.1.2.1
  go_wp2
  go_loopw [96] (fun v96 wr => ∃ i : Nat, i ≤ kids.length ∧ v96 = .int .i64 i ∧ Aside0 (AS w0 wr q P part (exprFs P.vals known e1 (kids.take i)) st vR ∧ Chg (fun k => k = q) W wr) ∧ Aside0 (Far q wr (fun W => Kd.C Kd.string W B known.length known))) (fun v96 _ => kids.length - (intOf v96).toNat)
  case atStart => exact ⟨0, Nat.zero_le _, rfl, HS, HK⟩
  case round =>
    clear HS HK HX x3
    obtain ⟨i, hi, rfl, HS, HK⟩ := hrel
    by_cases hlt : i < kids.length
    · have e1' : decide ((i : Int) < (kids.length : Int)) = true := decide_eq_true (by omega)
      have e2' : decide (i < kids.length) = true := decide_eq_true hlt
      obtain ⟨ad, A3, c3, hA, h0, h1, h2, h3, hl, hk⟩ := at_T57 HF.out.2.1 (i : Int) (by omega) (by omega)
      have HG := Aside0.mk (And.intro hl (And.intro hk (rdE_eq kids i hlt)))
      clear hl hk
      subst hA
      rw [Int.toNat_natCast] at h0 h1 h2 h3
      replace h0 := pw_cell_below HS.out.1.bel h0
      replace h1 := pw_cell_below HS.out.1.bel h1
      replace h2 := pw_cell_below HS.out.1.bel h2
      replace h3 := pw_cell_below HS.out.1.bel h3
      go_wp2_with fail
      refine (HI.out (rd_T57 kids (i : Int)) (by rw [HG.out.2.2]; have := sizeE kids i hlt 1 n nm; have := HF.out.1; omega) _ _ A3 c3 B cB (HS.out.1.step (below_alloc (Below.refl _ _) _)) HG.out.2.1 (by rw [HG.out.2.2]; exact smEs_get _ i hlt HF.out.2.2.1.2.2) (HK.out.step (Chg.of_below (below_alloc (Below.refl _ _) _))) HF.out.2.2.2.1 HF.out.2.2.2.2).mono ?_
      rintro r w2 hA
      obtain rfl := hA.ret
      replace HK := Aside0.mk ((HK.out.step (Chg.of_below (below_alloc (Below.refl _ _) _))).step hA.chg)
      replace HS := Aside0.mk (hA.next (HS.out.2.step (Chg.of_below (below_alloc (Below.refl _ _) _))))
      have HE := Aside0.mk (exprFs_take P.vals known kids e1 i hlt)
      clear h0 h1 h2 h3 hA
      go_wp2
      go_roundw
      case rel => exact ⟨i + 1, by omega, by go_num, ⟨And.intro (HS.out.1.to (by rw [HE.out, HG.out.2.2])) HS.out.2⟩, HK⟩
      case measure => simp [intOf]; omega
    · have e1' : decide ((i : Int) < (kids.length : Int)) = false := decide_eq_false (by omega)
      have e2' : decide (i < kids.length) = false := decide_eq_false hlt
      obtain rfl : i = kids.length := by omega
      go_wp2
      go_end0
      exact ⟨rfl, HS.out.1.to (by rw [List.take_length, HE1.out]), HS.out.2⟩
set_option maxHeartbeats 4000000 in
theorem expr_a3 (w0 W : World) (q : Nat) (P : AP) (part st : Int) (vR : Value) (known : List ByteArray) (N : Nat) (ih : ExprOk w0 q P part st vR known N) (n : Int) (nm : ByteArray) (kids : List TExpr) (A : Option Addr) (c : Nat) (B : Option Addr) (cB : Nat) (hN : SizeOf.sizeOf (S57.mk 1 n nm kids) < N + 1)
    (h : AS w0 W q P part 0 st vR) (hC : Kd.C kExpr w0 A kids.length kids) (hx : smE ⟨1, n, nm, kids⟩) (hK : Far q W (fun W => Kd.C Kd.string W B known.length known)) (hcB : known.length ≤ cB) (hk : known.length ≤ 1000) (l0 : ((kids.length : Int) == 0) = false) (l1 : (kids.length == 0) = false) (m0 : nm.toList = []) :
    Calls Try.prog 99 #[.pointer (some ⟨q, 0, none⟩), .agg #[.int .i64 1, .int .i64 n, .string nm, .slice A kids.length c], .slice B known.length cB] W (Asked w0 W q P part (exprFs P.vals known (exprHead P.vals known 1 n nm kids.length 0) kids) st vR) := by
  have HF := Aside0.mk (And.intro hN (And.intro hC (And.intro ((smE_def _).1 hx) (And.intro hcB hk))))
  have HI := Aside0.mk ih
  have HQ := Aside0.mk (show ¬ W.heap.size = q from by have := h.lt; omega)
  have Gl0 := Aside0.mk l0
  have Gl1 := Aside0.mk l1
  have Gm0 := Aside0.mk m0
  have hb := below_alloc (Below.refl W.heap.size W) (.cells #[.int .i64 1, .int .i64 n, .string nm, .slice A kids.length c] 57 (0, 0))
  have HX := Aside0.mk (blk_new W (.cells #[.int .i64 1, .int .i64 n, .string nm, .slice A kids.length c] 57 (0, 0)))
  have HS := Aside0.mk (AS.move (And.intro h (Chg.refl (fun k => k = q) W)) hb)
  have HK := Aside0.mk (hK.step (Chg.of_below hb))
  have c11 := h.cells.2.2.2.2.2.2.2.2.2.2.2.1
  have c1 := h.cells.2.1
  have hq := h.lt
  have hlen : kids.length ≤ 1000 := HF.out.2.2.1.2.1
  have x0 := True.intro
  have x1 := True.intro
  have x2 := True.intro
  have x3 := True.intro
  clear hN hC hx hK hcB hk h hb ih hlen
  go_enter Try.func99, Try.ntmps99
  go_wp2_with fail
  refine (need w0 _ q P _ _ _ _ HS.out.1 _ _).mono ?_
  rintro r w1 hA
  obtain rfl := hA.ret
  replace HX := Aside0.mk (hA.chg.heap HX.out HQ.out)
  replace HK := Aside0.mk (HK.out.step hA.chg)
  replace HS := Aside0.mk (hA.next HS.out.2)
  clear c1 c11 x0 x1 x2 x3 hA
  obtain ⟨-, c1, -, -, -, -, -, -, -, -, -, c11, -, -⟩ := HS.out.1.cells
  have x0 := (blk_cell HX.out 0).trans rfl
  have x1 := (blk_cell HX.out 1).trans rfl
  have x2 := (blk_cell HX.out 2).trans rfl
  have x3 := (blk_cell HX.out 3).trans rfl
  go_wp2_with fail
  refine (need w0 _ q P _ _ _ _ HS.out.1 _ _).mono ?_
  rintro r w1 hA
  obtain rfl := hA.ret
  replace HX := Aside0.mk (hA.chg.heap HX.out HQ.out)
  replace HK := Aside0.mk (HK.out.step hA.chg)
  replace HS := Aside0.mk (hA.next HS.out.2)
  clear c1 c11 x0 x1 x2 x3 hA
  obtain ⟨-, c1, -, -, -, -, -, -, -, -, -, c11, -, -⟩ := HS.out.1.cells
  have x0 := (blk_cell HX.out 0).trans rfl
  have x1 := (blk_cell HX.out 1).trans rfl
  have x2 := (blk_cell HX.out 2).trans rfl
  have x3 := (blk_cell HX.out 3).trans rfl
  go_wp2_with fail
  refine (need w0 _ q P _ _ _ _ HS.out.1 _ _).mono ?_
  rintro r w1 hA
  obtain rfl := hA.ret
  replace HX := Aside0.mk (hA.chg.heap HX.out HQ.out)
  replace HK := Aside0.mk (HK.out.step hA.chg)
  replace HS := Aside0.mk (hA.next HS.out.2)
  clear c1 c11 x0 x1 x2 x3 hA
  obtain ⟨-, c1, -, -, -, -, -, -, -, -, -, c11, -, -⟩ := HS.out.1.cells
  have x0 := (blk_cell HX.out 0).trans rfl
  have x1 := (blk_cell HX.out 1).trans rfl
  have x2 := (blk_cell HX.out 2).trans rfl
  have x3 := (blk_cell HX.out 3).trans rfl
  go_wp2_with fail
  refine (value w0 _ q P _ _ _ _ HS.out.1 n).mono ?_
  rintro r w4 ⟨rfl, rfl⟩
  go_wp2_with fail
  refine (need w0 _ q P _ _ _ _ HS.out.1 _ _).mono ?_
  rintro r w1 hA
  obtain rfl := hA.ret
  replace HX := Aside0.mk (hA.chg.heap HX.out HQ.out)
  replace HK := Aside0.mk (HK.out.step hA.chg)
  replace HS := Aside0.mk (hA.next HS.out.2)
  clear c1 c11 x0 x1 x2 x3 hA
  obtain ⟨-, c1, -, -, -, -, -, -, -, -, -, c11, -, -⟩ := HS.out.1.cells
  have x0 := (blk_cell HX.out 0).trans rfl
  have x1 := (blk_cell HX.out 1).trans rfl
  have x2 := (blk_cell HX.out 2).trans rfl
  have x3 := (blk_cell HX.out 3).trans rfl
  go_wp2_with fail
  refine (need w0 _ q P _ _ _ _ HS.out.1 _ _).mono ?_
  rintro r w1 hA
  obtain rfl := hA.ret
  replace HX := Aside0.mk (hA.chg.heap HX.out HQ.out)
  replace HK := Aside0.mk (HK.out.step hA.chg)
  replace HS := Aside0.mk (hA.next HS.out.2)
  clear c1 c11 x0 x1 x2 x3 hA
  obtain ⟨-, c1, -, -, -, -, -, -, -, -, -, c11, -, -⟩ := HS.out.1.cells
  have x0 := (blk_cell HX.out 0).trans rfl
  have x1 := (blk_cell HX.out 1).trans rfl
  have x2 := (blk_cell HX.out 2).trans rfl
  have x3 := (blk_cell HX.out 3).trans rfl
  clear l0 l1 m0
  obtain ⟨e1, he1⟩ : ∃ e1, e1 = exprHead P.vals known 1 n nm kids.length 0 := ⟨_, rfl⟩
  replace HS := Aside0.mk (And.intro (HS.out.1.to (show _ = e1 from by rw [he1]; unfold exprHead leafB; simp [len2, Gl0.out, Gl1.out, Gm0.out])) HS.out.2)
  have HE1 := Aside0.mk he1
  clear he1 c1 c11 x0 x1 x2
  have hlen : kids.length ≤ 1000 := HF.out.2.2.1.2.1
  go_wp2
  go_loopw [96] (fun v96 wr => ∃ i : Nat, i ≤ kids.length ∧ v96 = .int .i64 i ∧ Aside0 (AS w0 wr q P part (exprFs P.vals known e1 (kids.take i)) st vR ∧ Chg (fun k => k = q) W wr) ∧ Aside0 (Far q wr (fun W => Kd.C Kd.string W B known.length known))) (fun v96 _ => kids.length - (intOf v96).toNat)
  case atStart => exact ⟨0, Nat.zero_le _, rfl, HS, HK⟩
  case round =>
    clear HS HK HX x3
    obtain ⟨i, hi, rfl, HS, HK⟩ := hrel
    by_cases hlt : i < kids.length
    · have e1' : decide ((i : Int) < (kids.length : Int)) = true := decide_eq_true (by omega)
      have e2' : decide (i < kids.length) = true := decide_eq_true hlt
      obtain ⟨ad, A3, c3, hA, h0, h1, h2, h3, hl, hk⟩ := at_T57 HF.out.2.1 (i : Int) (by omega) (by omega)
      have HG := Aside0.mk (And.intro hl (And.intro hk (rdE_eq kids i hlt)))
      clear hl hk
      subst hA
      rw [Int.toNat_natCast] at h0 h1 h2 h3
      replace h0 := pw_cell_below HS.out.1.bel h0
      replace h1 := pw_cell_below HS.out.1.bel h1
      replace h2 := pw_cell_below HS.out.1.bel h2
      replace h3 := pw_cell_below HS.out.1.bel h3
      go_wp2_with fail
      refine (HI.out (rd_T57 kids (i : Int)) (by rw [HG.out.2.2]; have := sizeE kids i hlt 1 n nm; have := HF.out.1; omega) _ _ A3 c3 B cB (HS.out.1.step (below_alloc (Below.refl _ _) _)) HG.out.2.1 (by rw [HG.out.2.2]; exact smEs_get _ i hlt HF.out.2.2.1.2.2) (HK.out.step (Chg.of_below (below_alloc (Below.refl _ _) _))) HF.out.2.2.2.1 HF.out.2.2.2.2).mono ?_
      rintro r w2 hA
      obtain rfl := hA.ret
      replace HK := Aside0.mk ((HK.out.step (Chg.of_below (below_alloc (Below.refl _ _) _))).step hA.chg)
      replace HS := Aside0.mk (hA.next (HS.out.2.step (Chg.of_below (below_alloc (Below.refl _ _) _))))
      have HE := Aside0.mk (exprFs_take P.vals known kids e1 i hlt)
      clear h0 h1 h2 h3 hA
      go_wp2
      go_roundw
      case rel => exact ⟨i + 1, by omega, by go_num, ⟨And.intro (HS.out.1.to (by rw [HE.out, HG.out.2.2])) HS.out.2⟩, HK⟩
      case measure => simp [intOf]; omega
    · have e1' : decide ((i : Int) < (kids.length : Int)) = false := decide_eq_false (by omega)
      have e2' : decide (i < kids.length) = false := decide_eq_false hlt
      obtain rfl : i = kids.length := by omega
      go_wp2
      go_end0
      exact ⟨rfl, HS.out.1.to (by rw [List.take_length, HE1.out]), HS.out.2⟩
set_option maxHeartbeats 4000000 in
theorem expr_a4 (w0 W : World) (q : Nat) (P : AP) (part st : Int) (vR : Value) (known : List ByteArray) (N : Nat) (ih : ExprOk w0 q P part st vR known N) (n : Int) (nm : ByteArray) (kids : List TExpr) (A : Option Addr) (c : Nat) (B : Option Addr) (cB : Nat) (hN : SizeOf.sizeOf (S57.mk 1 n nm kids) < N + 1)
    (h : AS w0 W q P part 0 st vR) (hC : Kd.C kExpr w0 A kids.length kids) (hx : smE ⟨1, n, nm, kids⟩) (hK : Far q W (fun W => Kd.C Kd.string W B known.length known)) (hcB : known.length ≤ cB) (hk : known.length ≤ 1000) (l0 : ((kids.length : Int) == 0) = false) (l1 : (kids.length == 0) = false) (m0 : ¬ nm.toList = []) (m1 : (!nm.toList.isEmpty) = true) (m2 : nm.toList.isEmpty = false) :
    Calls Try.prog 99 #[.pointer (some ⟨q, 0, none⟩), .agg #[.int .i64 1, .int .i64 n, .string nm, .slice A kids.length c], .slice B known.length cB] W (Asked w0 W q P part (exprFs P.vals known (exprHead P.vals known 1 n nm kids.length 0) kids) st vR) := by
  have HF := Aside0.mk (And.intro hN (And.intro hC (And.intro ((smE_def _).1 hx) (And.intro hcB hk))))
  have HI := Aside0.mk ih
  have HQ := Aside0.mk (show ¬ W.heap.size = q from by have := h.lt; omega)
  have Gl0 := Aside0.mk l0
  have Gl1 := Aside0.mk l1
  have Gm0 := Aside0.mk m0
  have Gm1 := Aside0.mk m1
  have Gm2 := Aside0.mk m2
  have hb := below_alloc (Below.refl W.heap.size W) (.cells #[.int .i64 1, .int .i64 n, .string nm, .slice A kids.length c] 57 (0, 0))
  have HX := Aside0.mk (blk_new W (.cells #[.int .i64 1, .int .i64 n, .string nm, .slice A kids.length c] 57 (0, 0)))
  have HS := Aside0.mk (AS.move (And.intro h (Chg.refl (fun k => k = q) W)) hb)
  have HK := Aside0.mk (hK.step (Chg.of_below hb))
  have c11 := h.cells.2.2.2.2.2.2.2.2.2.2.2.1
  have c1 := h.cells.2.1
  have hq := h.lt
  have hlen : kids.length ≤ 1000 := HF.out.2.2.1.2.1
  have x0 := True.intro
  have x1 := True.intro
  have x2 := True.intro
  have x3 := True.intro
  clear hN hC hx hK hcB hk h hb ih hlen
  go_enter Try.func99, Try.ntmps99
  go_wp2_with fail
  refine (need w0 _ q P _ _ _ _ HS.out.1 _ _).mono ?_
  rintro r w1 hA
  obtain rfl := hA.ret
  replace HX := Aside0.mk (hA.chg.heap HX.out HQ.out)
  replace HK := Aside0.mk (HK.out.step hA.chg)
  replace HS := Aside0.mk (hA.next HS.out.2)
  clear c1 c11 x0 x1 x2 x3 hA
  obtain ⟨-, c1, -, -, -, -, -, -, -, -, -, c11, -, -⟩ := HS.out.1.cells
  have x0 := (blk_cell HX.out 0).trans rfl
  have x1 := (blk_cell HX.out 1).trans rfl
  have x2 := (blk_cell HX.out 2).trans rfl
  have x3 := (blk_cell HX.out 3).trans rfl
  go_wp2_with fail
  refine (need w0 _ q P _ _ _ _ HS.out.1 _ _).mono ?_
  rintro r w1 hA
  obtain rfl := hA.ret
  replace HX := Aside0.mk (hA.chg.heap HX.out HQ.out)
  replace HK := Aside0.mk (HK.out.step hA.chg)
  replace HS := Aside0.mk (hA.next HS.out.2)
  clear c1 c11 x0 x1 x2 x3 hA
  obtain ⟨-, c1, -, -, -, -, -, -, -, -, -, c11, -, -⟩ := HS.out.1.cells
  have x0 := (blk_cell HX.out 0).trans rfl
  have x1 := (blk_cell HX.out 1).trans rfl
  have x2 := (blk_cell HX.out 2).trans rfl
  have x3 := (blk_cell HX.out 3).trans rfl
  go_wp2_with fail
  refine (need w0 _ q P _ _ _ _ HS.out.1 _ _).mono ?_
  rintro r w1 hA
  obtain rfl := hA.ret
  replace HX := Aside0.mk (hA.chg.heap HX.out HQ.out)
  replace HK := Aside0.mk (HK.out.step hA.chg)
  replace HS := Aside0.mk (hA.next HS.out.2)
  clear c1 c11 x0 x1 x2 x3 hA
  obtain ⟨-, c1, -, -, -, -, -, -, -, -, -, c11, -, -⟩ := HS.out.1.cells
  have x0 := (blk_cell HX.out 0).trans rfl
  have x1 := (blk_cell HX.out 1).trans rfl
  have x2 := (blk_cell HX.out 2).trans rfl
  have x3 := (blk_cell HX.out 3).trans rfl
  go_wp2_with fail
  refine (value w0 _ q P _ _ _ _ HS.out.1 n).mono ?_
  rintro r w4 ⟨rfl, rfl⟩
  go_wp2_with fail
  refine (need w0 _ q P _ _ _ _ HS.out.1 _ _).mono ?_
  rintro r w1 hA
  obtain rfl := hA.ret
  replace HX := Aside0.mk (hA.chg.heap HX.out HQ.out)
  replace HK := Aside0.mk (HK.out.step hA.chg)
  replace HS := Aside0.mk (hA.next HS.out.2)
  clear c1 c11 x0 x1 x2 x3 hA
  obtain ⟨-, c1, -, -, -, -, -, -, -, -, -, c11, -, -⟩ := HS.out.1.cells
  have x0 := (blk_cell HX.out 0).trans rfl
  have x1 := (blk_cell HX.out 1).trans rfl
  have x2 := (blk_cell HX.out 2).trans rfl
  have x3 := (blk_cell HX.out 3).trans rfl
  go_wp2_with fail
  refine (need w0 _ q P _ _ _ _ HS.out.1 _ _).mono ?_
  rintro r w1 hA
  obtain rfl := hA.ret
  replace HX := Aside0.mk (hA.chg.heap HX.out HQ.out)
  replace HK := Aside0.mk (HK.out.step hA.chg)
  replace HS := Aside0.mk (hA.next HS.out.2)
  clear c1 c11 x0 x1 x2 x3 hA
  obtain ⟨-, c1, -, -, -, -, -, -, -, -, -, c11, -, -⟩ := HS.out.1.cells
  have x0 := (blk_cell HX.out 0).trans rfl
  have x1 := (blk_cell HX.out 1).trans rfl
  have x2 := (blk_cell HX.out 2).trans rfl
  have x3 := (blk_cell HX.out 3).trans rfl
  clear l0 l1 m0 m1 m2
  obtain ⟨e1, he1⟩ : ∃ e1, e1 = exprHead P.vals known 1 n nm kids.length 0 := ⟨_, rfl⟩
  replace HS := Aside0.mk (And.intro (HS.out.1.to (show _ = e1 from by rw [he1]; unfold exprHead leafB; simp [len2, Gl0.out, Gl1.out, Gm0.out, Gm1.out, Gm2.out])) HS.out.2)
  have HE1 := Aside0.mk he1
  clear he1 c1 c11 x0 x1 x2
  have hlen : kids.length ≤ 1000 := HF.out.2.2.1.2.1
  go_wp2
  go_loopw [96] (fun v96 wr => ∃ i : Nat, i ≤ kids.length ∧ v96 = .int .i64 i ∧ Aside0 (AS w0 wr q P part (exprFs P.vals known e1 (kids.take i)) st vR ∧ Chg (fun k => k = q) W wr) ∧ Aside0 (Far q wr (fun W => Kd.C Kd.string W B known.length known))) (fun v96 _ => kids.length - (intOf v96).toNat)
  case atStart => exact ⟨0, Nat.zero_le _, rfl, HS, HK⟩
  case round =>
    clear HS HK HX x3
    obtain ⟨i, hi, rfl, HS, HK⟩ := hrel
    by_cases hlt : i < kids.length
    · have e1' : decide ((i : Int) < (kids.length : Int)) = true := decide_eq_true (by omega)
      have e2' : decide (i < kids.length) = true := decide_eq_true hlt
      obtain ⟨ad, A3, c3, hA, h0, h1, h2, h3, hl, hk⟩ := at_T57 HF.out.2.1 (i : Int) (by omega) (by omega)
      have HG := Aside0.mk (And.intro hl (And.intro hk (rdE_eq kids i hlt)))
      clear hl hk
      subst hA
      rw [Int.toNat_natCast] at h0 h1 h2 h3
      replace h0 := pw_cell_below HS.out.1.bel h0
      replace h1 := pw_cell_below HS.out.1.bel h1
      replace h2 := pw_cell_below HS.out.1.bel h2
      replace h3 := pw_cell_below HS.out.1.bel h3
      go_wp2_with fail
      refine (HI.out (rd_T57 kids (i : Int)) (by rw [HG.out.2.2]; have := sizeE kids i hlt 1 n nm; have := HF.out.1; omega) _ _ A3 c3 B cB (HS.out.1.step (below_alloc (Below.refl _ _) _)) HG.out.2.1 (by rw [HG.out.2.2]; exact smEs_get _ i hlt HF.out.2.2.1.2.2) (HK.out.step (Chg.of_below (below_alloc (Below.refl _ _) _))) HF.out.2.2.2.1 HF.out.2.2.2.2).mono ?_
      rintro r w2 hA
      obtain rfl := hA.ret
      replace HK := Aside0.mk ((HK.out.step (Chg.of_below (below_alloc (Below.refl _ _) _))).step hA.chg)
      replace HS := Aside0.mk (hA.next (HS.out.2.step (Chg.of_below (below_alloc (Below.refl _ _) _))))
      have HE := Aside0.mk (exprFs_take P.vals known kids e1 i hlt)
      clear h0 h1 h2 h3 hA
      go_wp2
      go_roundw
      case rel => exact ⟨i + 1, by omega, by go_num, ⟨And.intro (HS.out.1.to (by rw [HE.out, HG.out.2.2])) HS.out.2⟩, HK⟩
      case measure => simp [intOf]; omega
    · have e1' : decide ((i : Int) < (kids.length : Int)) = false := decide_eq_false (by omega)
      have e2' : decide (i < kids.length) = false := decide_eq_false hlt
      obtain rfl : i = kids.length := by omega
      go_wp2
      go_end0
      exact ⟨rfl, HS.out.1.to (by rw [List.take_length, HE1.out]), HS.out.2⟩
set_option maxHeartbeats 4000000 in
theorem expr_b1 (w0 W : World) (q : Nat) (P : AP) (part st : Int) (vR : Value) (known : List ByteArray) (N : Nat) (ih : ExprOk w0 q P part st vR known N) (n : Int) (nm : ByteArray) (kids : List TExpr) (A : Option Addr) (c : Nat) (B : Option Addr) (cB : Nat) (hN : SizeOf.sizeOf (S57.mk 2 n nm kids) < N + 1)
    (h : AS w0 W q P part 0 st vR) (hC : Kd.C kExpr w0 A kids.length kids) (hx : smE ⟨2, n, nm, kids⟩) (hK : Far q W (fun W => Kd.C Kd.string W B known.length known)) (hcB : known.length ≤ cB) (hk : known.length ≤ 1000) (l0 : ((kids.length : Int) == 0) = true) (l1 : (kids.length == 0) = true) (l2 : (kids.length == 2) = false) :
    Calls Try.prog 99 #[.pointer (some ⟨q, 0, none⟩), .agg #[.int .i64 2, .int .i64 n, .string nm, .slice A kids.length c], .slice B known.length cB] W (Asked w0 W q P part (exprFs P.vals known (exprHead P.vals known 2 n nm kids.length 0) kids) st vR) := by
  have HF := Aside0.mk (And.intro hN (And.intro hC (And.intro ((smE_def _).1 hx) (And.intro hcB hk))))
  have HI := Aside0.mk ih
  have HQ := Aside0.mk (show ¬ W.heap.size = q from by have := h.lt; omega)
  have Gl0 := Aside0.mk l0
  have Gl1 := Aside0.mk l1
  have Gl2 := Aside0.mk l2
  have hb := below_alloc (Below.refl W.heap.size W) (.cells #[.int .i64 2, .int .i64 n, .string nm, .slice A kids.length c] 57 (0, 0))
  have HX := Aside0.mk (blk_new W (.cells #[.int .i64 2, .int .i64 n, .string nm, .slice A kids.length c] 57 (0, 0)))
  have HS := Aside0.mk (AS.move (And.intro h (Chg.refl (fun k => k = q) W)) hb)
  have HK := Aside0.mk (hK.step (Chg.of_below hb))
  have c11 := h.cells.2.2.2.2.2.2.2.2.2.2.2.1
  have c1 := h.cells.2.1
  have hq := h.lt
  have hlen : kids.length ≤ 1000 := HF.out.2.2.1.2.1
  have x0 := True.intro
  have x1 := True.intro
  have x2 := True.intro
  have x3 := True.intro
  clear hN hC hx hK hcB hk h hb ih hlen
  go_enter Try.func99, Try.ntmps99
  go_wp2_with fail
  refine (need w0 _ q P _ _ _ _ HS.out.1 _ _).mono ?_
  rintro r w1 hA
  obtain rfl := hA.ret
  replace HX := Aside0.mk (hA.chg.heap HX.out HQ.out)
  replace HK := Aside0.mk (HK.out.step hA.chg)
  replace HS := Aside0.mk (hA.next HS.out.2)
  clear c1 c11 x0 x1 x2 x3 hA
  obtain ⟨-, c1, -, -, -, -, -, -, -, -, -, c11, -, -⟩ := HS.out.1.cells
  have x0 := (blk_cell HX.out 0).trans rfl
  have x1 := (blk_cell HX.out 1).trans rfl
  have x2 := (blk_cell HX.out 2).trans rfl
  have x3 := (blk_cell HX.out 3).trans rfl
  go_wp2_with fail
  refine (need w0 _ q P _ _ _ _ HS.out.1 _ _).mono ?_
  rintro r w1 hA
  obtain rfl := hA.ret
  replace HX := Aside0.mk (hA.chg.heap HX.out HQ.out)
  replace HK := Aside0.mk (HK.out.step hA.chg)
  replace HS := Aside0.mk (hA.next HS.out.2)
  clear c1 c11 x0 x1 x2 x3 hA
  obtain ⟨-, c1, -, -, -, -, -, -, -, -, -, c11, -, -⟩ := HS.out.1.cells
  have x0 := (blk_cell HX.out 0).trans rfl
  have x1 := (blk_cell HX.out 1).trans rfl
  have x2 := (blk_cell HX.out 2).trans rfl
  have x3 := (blk_cell HX.out 3).trans rfl
  go_wp2_with fail
  refine (need w0 _ q P _ _ _ _ HS.out.1 _ _).mono ?_
  rintro r w1 hA
  obtain rfl := hA.ret
  replace HX := Aside0.mk (hA.chg.heap HX.out HQ.out)
  replace HK := Aside0.mk (HK.out.step hA.chg)
  replace HS := Aside0.mk (hA.next HS.out.2)
  clear c1 c11 x0 x1 x2 x3 hA
  obtain ⟨-, c1, -, -, -, -, -, -, -, -, -, c11, -, -⟩ := HS.out.1.cells
  have x0 := (blk_cell HX.out 0).trans rfl
  have x1 := (blk_cell HX.out 1).trans rfl
  have x2 := (blk_cell HX.out 2).trans rfl
  have x3 := (blk_cell HX.out 3).trans rfl
  go_wp2_with fail
  refine (need w0 _ q P _ _ _ _ HS.out.1 _ _).mono ?_
  rintro r w1 hA
  obtain rfl := hA.ret
  replace HX := Aside0.mk (hA.chg.heap HX.out HQ.out)
  replace HK := Aside0.mk (HK.out.step hA.chg)
  replace HS := Aside0.mk (hA.next HS.out.2)
  clear c1 c11 x0 x1 x2 x3 hA
  obtain ⟨-, c1, -, -, -, -, -, -, -, -, -, c11, -, -⟩ := HS.out.1.cells
  have x0 := (blk_cell HX.out 0).trans rfl
  have x1 := (blk_cell HX.out 1).trans rfl
  have x2 := (blk_cell HX.out 2).trans rfl
  have x3 := (blk_cell HX.out 3).trans rfl
  go_wp2_with fail
  refine (has_any known B cB nm _ HK.out.now HF.out.2.2.2.1 HF.out.2.2.2.2).mono ?_
  rintro r w1 ⟨rfl, hb⟩
  replace HX := Aside0.mk (blk_below HX.out hb)
  replace HK := Aside0.mk (HK.out.step (Chg.of_below hb))
  replace HS := Aside0.mk (AS.move HS.out hb)
  clear c1 c11 x0 x1 x2 x3 hb
  obtain ⟨-, c1, -, -, -, -, -, -, -, -, -, c11, -, -⟩ := HS.out.1.cells
  have x0 := (blk_cell HX.out 0).trans rfl
  have x1 := (blk_cell HX.out 1).trans rfl
  have x2 := (blk_cell HX.out 2).trans rfl
  have x3 := (blk_cell HX.out 3).trans rfl
  go_wp2_with fail
  refine (need w0 _ q P _ _ _ _ HS.out.1 _ _).mono ?_
  rintro r w1 hA
  obtain rfl := hA.ret
  replace HX := Aside0.mk (hA.chg.heap HX.out HQ.out)
  replace HK := Aside0.mk (HK.out.step hA.chg)
  replace HS := Aside0.mk (hA.next HS.out.2)
  clear c1 c11 x0 x1 x2 x3 hA
  obtain ⟨-, c1, -, -, -, -, -, -, -, -, -, c11, -, -⟩ := HS.out.1.cells
  have x0 := (blk_cell HX.out 0).trans rfl
  have x1 := (blk_cell HX.out 1).trans rfl
  have x2 := (blk_cell HX.out 2).trans rfl
  have x3 := (blk_cell HX.out 3).trans rfl
  clear l0 l1 l2
  obtain ⟨e1, he1⟩ : ∃ e1, e1 = exprHead P.vals known 2 n nm kids.length 0 := ⟨_, rfl⟩
  replace HS := Aside0.mk (And.intro (HS.out.1.to (show _ = e1 from by rw [he1]; unfold exprHead leafB; simp [len2, Gl0.out, Gl1.out, Gl2.out])) HS.out.2)
  have HE1 := Aside0.mk he1
  clear he1 c1 c11 x0 x1 x2
  have hlen : kids.length ≤ 1000 := HF.out.2.2.1.2.1
  go_wp2
  go_loopw [96] (fun v96 wr => ∃ i : Nat, i ≤ kids.length ∧ v96 = .int .i64 i ∧ Aside0 (AS w0 wr q P part (exprFs P.vals known e1 (kids.take i)) st vR ∧ Chg (fun k => k = q) W wr) ∧ Aside0 (Far q wr (fun W => Kd.C Kd.string W B known.length known))) (fun v96 _ => kids.length - (intOf v96).toNat)
  case atStart => exact ⟨0, Nat.zero_le _, rfl, HS, HK⟩
  case round =>
    clear HS HK HX x3
    obtain ⟨i, hi, rfl, HS, HK⟩ := hrel
    by_cases hlt : i < kids.length
    · have e1' : decide ((i : Int) < (kids.length : Int)) = true := decide_eq_true (by omega)
      have e2' : decide (i < kids.length) = true := decide_eq_true hlt
      obtain ⟨ad, A3, c3, hA, h0, h1, h2, h3, hl, hk⟩ := at_T57 HF.out.2.1 (i : Int) (by omega) (by omega)
      have HG := Aside0.mk (And.intro hl (And.intro hk (rdE_eq kids i hlt)))
      clear hl hk
      subst hA
      rw [Int.toNat_natCast] at h0 h1 h2 h3
      replace h0 := pw_cell_below HS.out.1.bel h0
      replace h1 := pw_cell_below HS.out.1.bel h1
      replace h2 := pw_cell_below HS.out.1.bel h2
      replace h3 := pw_cell_below HS.out.1.bel h3
      go_wp2_with fail
      refine (HI.out (rd_T57 kids (i : Int)) (by rw [HG.out.2.2]; have := sizeE kids i hlt 2 n nm; have := HF.out.1; omega) _ _ A3 c3 B cB (HS.out.1.step (below_alloc (Below.refl _ _) _)) HG.out.2.1 (by rw [HG.out.2.2]; exact smEs_get _ i hlt HF.out.2.2.1.2.2) (HK.out.step (Chg.of_below (below_alloc (Below.refl _ _) _))) HF.out.2.2.2.1 HF.out.2.2.2.2).mono ?_
      rintro r w2 hA
      obtain rfl := hA.ret
      replace HK := Aside0.mk ((HK.out.step (Chg.of_below (below_alloc (Below.refl _ _) _))).step hA.chg)
      replace HS := Aside0.mk (hA.next (HS.out.2.step (Chg.of_below (below_alloc (Below.refl _ _) _))))
      have HE := Aside0.mk (exprFs_take P.vals known kids e1 i hlt)
      clear h0 h1 h2 h3 hA
      go_wp2
      go_roundw
      case rel => exact ⟨i + 1, by omega, by go_num, ⟨And.intro (HS.out.1.to (by rw [HE.out, HG.out.2.2])) HS.out.2⟩, HK⟩
      case measure => simp [intOf]; omega
    · have e1' : decide ((i : Int) < (kids.length : Int)) = false := decide_eq_false (by omega)
      have e2' : decide (i < kids.length) = false := decide_eq_false hlt
      obtain rfl : i = kids.length := by omega
      go_wp2
      go_end0
      exact ⟨rfl, HS.out.1.to (by rw [List.take_length, HE1.out]), HS.out.2⟩
set_option maxHeartbeats 4000000 in
theorem expr_b2 (w0 W : World) (q : Nat) (P : AP) (part st : Int) (vR : Value) (known : List ByteArray) (N : Nat) (ih : ExprOk w0 q P part st vR known N) (n : Int) (nm : ByteArray) (kids : List TExpr) (A : Option Addr) (c : Nat) (B : Option Addr) (cB : Nat) (hN : SizeOf.sizeOf (S57.mk 2 n nm kids) < N + 1)
    (h : AS w0 W q P part 0 st vR) (hC : Kd.C kExpr w0 A kids.length kids) (hx : smE ⟨2, n, nm, kids⟩) (hK : Far q W (fun W => Kd.C Kd.string W B known.length known)) (hcB : known.length ≤ cB) (hk : known.length ≤ 1000) (l0 : ((kids.length : Int) == 0) = false) (l1 : (kids.length == 0) = false) :
    Calls Try.prog 99 #[.pointer (some ⟨q, 0, none⟩), .agg #[.int .i64 2, .int .i64 n, .string nm, .slice A kids.length c], .slice B known.length cB] W (Asked w0 W q P part (exprFs P.vals known (exprHead P.vals known 2 n nm kids.length 0) kids) st vR) := by
  have HF := Aside0.mk (And.intro hN (And.intro hC (And.intro ((smE_def _).1 hx) (And.intro hcB hk))))
  have HI := Aside0.mk ih
  have HQ := Aside0.mk (show ¬ W.heap.size = q from by have := h.lt; omega)
  have Gl0 := Aside0.mk l0
  have Gl1 := Aside0.mk l1
  have hb := below_alloc (Below.refl W.heap.size W) (.cells #[.int .i64 2, .int .i64 n, .string nm, .slice A kids.length c] 57 (0, 0))
  have HX := Aside0.mk (blk_new W (.cells #[.int .i64 2, .int .i64 n, .string nm, .slice A kids.length c] 57 (0, 0)))
  have HS := Aside0.mk (AS.move (And.intro h (Chg.refl (fun k => k = q) W)) hb)
  have HK := Aside0.mk (hK.step (Chg.of_below hb))
  have c11 := h.cells.2.2.2.2.2.2.2.2.2.2.2.1
  have c1 := h.cells.2.1
  have hq := h.lt
  have hlen : kids.length ≤ 1000 := HF.out.2.2.1.2.1
  have x0 := True.intro
  have x1 := True.intro
  have x2 := True.intro
  have x3 := True.intro
  clear hN hC hx hK hcB hk h hb ih hlen
  go_enter Try.func99, Try.ntmps99
  go_wp2_with fail
  refine (need w0 _ q P _ _ _ _ HS.out.1 _ _).mono ?_
  rintro r w1 hA
  obtain rfl := hA.ret
  replace HX := Aside0.mk (hA.chg.heap HX.out HQ.out)
  replace HK := Aside0.mk (HK.out.step hA.chg)
  replace HS := Aside0.mk (hA.next HS.out.2)
  clear c1 c11 x0 x1 x2 x3 hA
  obtain ⟨-, c1, -, -, -, -, -, -, -, -, -, c11, -, -⟩ := HS.out.1.cells
  have x0 := (blk_cell HX.out 0).trans rfl
  have x1 := (blk_cell HX.out 1).trans rfl
  have x2 := (blk_cell HX.out 2).trans rfl
  have x3 := (blk_cell HX.out 3).trans rfl
  go_wp2_with fail
  refine (need w0 _ q P _ _ _ _ HS.out.1 _ _).mono ?_
  rintro r w1 hA
  obtain rfl := hA.ret
  replace HX := Aside0.mk (hA.chg.heap HX.out HQ.out)
  replace HK := Aside0.mk (HK.out.step hA.chg)
  replace HS := Aside0.mk (hA.next HS.out.2)
  clear c1 c11 x0 x1 x2 x3 hA
  obtain ⟨-, c1, -, -, -, -, -, -, -, -, -, c11, -, -⟩ := HS.out.1.cells
  have x0 := (blk_cell HX.out 0).trans rfl
  have x1 := (blk_cell HX.out 1).trans rfl
  have x2 := (blk_cell HX.out 2).trans rfl
  have x3 := (blk_cell HX.out 3).trans rfl
  go_wp2_with fail
  refine (need w0 _ q P _ _ _ _ HS.out.1 _ _).mono ?_
  rintro r w1 hA
  obtain rfl := hA.ret
  replace HX := Aside0.mk (hA.chg.heap HX.out HQ.out)
  replace HK := Aside0.mk (HK.out.step hA.chg)
  replace HS := Aside0.mk (hA.next HS.out.2)
  clear c1 c11 x0 x1 x2 x3 hA
  obtain ⟨-, c1, -, -, -, -, -, -, -, -, -, c11, -, -⟩ := HS.out.1.cells
  have x0 := (blk_cell HX.out 0).trans rfl
  have x1 := (blk_cell HX.out 1).trans rfl
  have x2 := (blk_cell HX.out 2).trans rfl
  have x3 := (blk_cell HX.out 3).trans rfl
  go_wp2_with fail
  refine (need w0 _ q P _ _ _ _ HS.out.1 _ _).mono ?_
  rintro r w1 hA
  obtain rfl := hA.ret
  replace HX := Aside0.mk (hA.chg.heap HX.out HQ.out)
  replace HK := Aside0.mk (HK.out.step hA.chg)
  replace HS := Aside0.mk (hA.next HS.out.2)
  clear c1 c11 x0 x1 x2 x3 hA
  obtain ⟨-, c1, -, -, -, -, -, -, -, -, -, c11, -, -⟩ := HS.out.1.cells
  have x0 := (blk_cell HX.out 0).trans rfl
  have x1 := (blk_cell HX.out 1).trans rfl
  have x2 := (blk_cell HX.out 2).trans rfl
  have x3 := (blk_cell HX.out 3).trans rfl
  go_wp2_with fail
  refine (has_any known B cB nm _ HK.out.now HF.out.2.2.2.1 HF.out.2.2.2.2).mono ?_
  rintro r w1 ⟨rfl, hb⟩
  replace HX := Aside0.mk (blk_below HX.out hb)
  replace HK := Aside0.mk (HK.out.step (Chg.of_below hb))
  replace HS := Aside0.mk (AS.move HS.out hb)
  clear c1 c11 x0 x1 x2 x3 hb
  obtain ⟨-, c1, -, -, -, -, -, -, -, -, -, c11, -, -⟩ := HS.out.1.cells
  have x0 := (blk_cell HX.out 0).trans rfl
  have x1 := (blk_cell HX.out 1).trans rfl
  have x2 := (blk_cell HX.out 2).trans rfl
  have x3 := (blk_cell HX.out 3).trans rfl
  go_wp2_with fail
  refine (need w0 _ q P _ _ _ _ HS.out.1 _ _).mono ?_
  rintro r w1 hA
  obtain rfl := hA.ret
  replace HX := Aside0.mk (hA.chg.heap HX.out HQ.out)
  replace HK := Aside0.mk (HK.out.step hA.chg)
  replace HS := Aside0.mk (hA.next HS.out.2)
  clear c1 c11 x0 x1 x2 x3 hA
  obtain ⟨-, c1, -, -, -, -, -, -, -, -, -, c11, -, -⟩ := HS.out.1.cells
  have x0 := (blk_cell HX.out 0).trans rfl
  have x1 := (blk_cell HX.out 1).trans rfl
  have x2 := (blk_cell HX.out 2).trans rfl
  have x3 := (blk_cell HX.out 3).trans rfl
  clear l0 l1
  obtain ⟨e1, he1⟩ : ∃ e1, e1 = exprHead P.vals known 2 n nm kids.length 0 := ⟨_, rfl⟩
  replace HS := Aside0.mk (And.intro (HS.out.1.to (show _ = e1 from by rw [he1]; unfold exprHead leafB; simp [len2, Gl0.out, Gl1.out])) HS.out.2)
  have HE1 := Aside0.mk he1
  clear he1 c1 c11 x0 x1 x2
  have hlen : kids.length ≤ 1000 := HF.out.2.2.1.2.1
  go_wp2
  go_loopw [96] (fun v96 wr => ∃ i : Nat, i ≤ kids.length ∧ v96 = .int .i64 i ∧ Aside0 (AS w0 wr q P part (exprFs P.vals known e1 (kids.take i)) st vR ∧ Chg (fun k => k = q) W wr) ∧ Aside0 (Far q wr (fun W => Kd.C Kd.string W B known.length known))) (fun v96 _ => kids.length - (intOf v96).toNat)
  case atStart => exact ⟨0, Nat.zero_le _, rfl, HS, HK⟩
  case round =>
    clear HS HK HX x3
    obtain ⟨i, hi, rfl, HS, HK⟩ := hrel
    by_cases hlt : i < kids.length
    · have e1' : decide ((i : Int) < (kids.length : Int)) = true := decide_eq_true (by omega)
      have e2' : decide (i < kids.length) = true := decide_eq_true hlt
      obtain ⟨ad, A3, c3, hA, h0, h1, h2, h3, hl, hk⟩ := at_T57 HF.out.2.1 (i : Int) (by omega) (by omega)
      have HG := Aside0.mk (And.intro hl (And.intro hk (rdE_eq kids i hlt)))
      clear hl hk
      subst hA
      rw [Int.toNat_natCast] at h0 h1 h2 h3
      replace h0 := pw_cell_below HS.out.1.bel h0
      replace h1 := pw_cell_below HS.out.1.bel h1
      replace h2 := pw_cell_below HS.out.1.bel h2
      replace h3 := pw_cell_below HS.out.1.bel h3
      go_wp2_with fail
      refine (HI.out (rd_T57 kids (i : Int)) (by rw [HG.out.2.2]; have := sizeE kids i hlt 2 n nm; have := HF.out.1; omega) _ _ A3 c3 B cB (HS.out.1.step (below_alloc (Below.refl _ _) _)) HG.out.2.1 (by rw [HG.out.2.2]; exact smEs_get _ i hlt HF.out.2.2.1.2.2) (HK.out.step (Chg.of_below (below_alloc (Below.refl _ _) _))) HF.out.2.2.2.1 HF.out.2.2.2.2).mono ?_
      rintro r w2 hA
      obtain rfl := hA.ret
      replace HK := Aside0.mk ((HK.out.step (Chg.of_below (below_alloc (Below.refl _ _) _))).step hA.chg)
      replace HS := Aside0.mk (hA.next (HS.out.2.step (Chg.of_below (below_alloc (Below.refl _ _) _))))
      have HE := Aside0.mk (exprFs_take P.vals known kids e1 i hlt)
      clear h0 h1 h2 h3 hA
      go_wp2
      go_roundw
      case rel => exact ⟨i + 1, by omega, by go_num, ⟨And.intro (HS.out.1.to (by rw [HE.out, HG.out.2.2])) HS.out.2⟩, HK⟩
      case measure => simp [intOf]; omega
    · have e1' : decide ((i : Int) < (kids.length : Int)) = false := decide_eq_false (by omega)
      have e2' : decide (i < kids.length) = false := decide_eq_false hlt
      obtain rfl : i = kids.length := by omega
      go_wp2
      go_end0
      exact ⟨rfl, HS.out.1.to (by rw [List.take_length, HE1.out]), HS.out.2⟩
set_option maxHeartbeats 4000000 in
theorem expr_c1 (w0 W : World) (q : Nat) (P : AP) (part st : Int) (vR : Value) (known : List ByteArray) (N : Nat) (ih : ExprOk w0 q P part st vR known N) (n : Int) (nm : ByteArray) (kids : List TExpr) (A : Option Addr) (c : Nat) (B : Option Addr) (cB : Nat) (op : Int) (hN : SizeOf.sizeOf (S57.mk op n nm kids) < N + 1)
    (h : AS w0 W q P part 0 st vR) (hC : Kd.C kExpr w0 A kids.length kids) (hx : smE ⟨op, n, nm, kids⟩) (hK : Far q W (fun W => Kd.C Kd.string W B known.length known)) (hcB : known.length ≤ cB) (hk : known.length ≤ 1000) (o1 : (op == 1) = false) (o2 : (op == 2) = false) (o3 : (op != 1) = true) (o4 : (op != 2) = true) (o5 : decide (1 ≤ op) = true) (m0 : nm.toList = []) :
    Calls Try.prog 99 #[.pointer (some ⟨q, 0, none⟩), .agg #[.int .i64 op, .int .i64 n, .string nm, .slice A kids.length c], .slice B known.length cB] W (Asked w0 W q P part (exprFs P.vals known (exprHead P.vals known op n nm kids.length 0) kids) st vR) := by
  have HF := Aside0.mk (And.intro hN (And.intro hC (And.intro ((smE_def _).1 hx) (And.intro hcB hk))))
  have HI := Aside0.mk ih
  have HQ := Aside0.mk (show ¬ W.heap.size = q from by have := h.lt; omega)
  have Go1 := Aside0.mk o1
  have Go2 := Aside0.mk o2
  have Go3 := Aside0.mk o3
  have Go4 := Aside0.mk o4
  have Go5 := Aside0.mk o5
  have Gm0 := Aside0.mk m0
  have hb := below_alloc (Below.refl W.heap.size W) (.cells #[.int .i64 op, .int .i64 n, .string nm, .slice A kids.length c] 57 (0, 0))
  have HX := Aside0.mk (blk_new W (.cells #[.int .i64 op, .int .i64 n, .string nm, .slice A kids.length c] 57 (0, 0)))
  have HS := Aside0.mk (AS.move (And.intro h (Chg.refl (fun k => k = q) W)) hb)
  have HK := Aside0.mk (hK.step (Chg.of_below hb))
  have c11 := h.cells.2.2.2.2.2.2.2.2.2.2.2.1
  have c1 := h.cells.2.1
  have hq := h.lt
  have hlen : kids.length ≤ 1000 := HF.out.2.2.1.2.1
  have x0 := True.intro
  have x1 := True.intro
  have x2 := True.intro
  have x3 := True.intro
  clear hN hC hx hK hcB hk h hb ih hlen
  go_enter Try.func99, Try.ntmps99
  go_wp2_with fail
  refine (need w0 _ q P _ _ _ _ HS.out.1 _ _).mono ?_
  rintro r w1 hA
  obtain rfl := hA.ret
  replace HX := Aside0.mk (hA.chg.heap HX.out HQ.out)
  replace HK := Aside0.mk (HK.out.step hA.chg)
  replace HS := Aside0.mk (hA.next HS.out.2)
  clear c1 c11 x0 x1 x2 x3 hA
  obtain ⟨-, c1, -, -, -, -, -, -, -, -, -, c11, -, -⟩ := HS.out.1.cells
  have x0 := (blk_cell HX.out 0).trans rfl
  have x1 := (blk_cell HX.out 1).trans rfl
  have x2 := (blk_cell HX.out 2).trans rfl
  have x3 := (blk_cell HX.out 3).trans rfl
  go_wp2_with fail
  refine (need w0 _ q P _ _ _ _ HS.out.1 _ _).mono ?_
  rintro r w1 hA
  obtain rfl := hA.ret
  replace HX := Aside0.mk (hA.chg.heap HX.out HQ.out)
  replace HK := Aside0.mk (HK.out.step hA.chg)
  replace HS := Aside0.mk (hA.next HS.out.2)
  clear c1 c11 x0 x1 x2 x3 hA
  obtain ⟨-, c1, -, -, -, -, -, -, -, -, -, c11, -, -⟩ := HS.out.1.cells
  have x0 := (blk_cell HX.out 0).trans rfl
  have x1 := (blk_cell HX.out 1).trans rfl
  have x2 := (blk_cell HX.out 2).trans rfl
  have x3 := (blk_cell HX.out 3).trans rfl
  go_wp2_with fail
  refine (need w0 _ q P _ _ _ _ HS.out.1 _ _).mono ?_
  rintro r w1 hA
  obtain rfl := hA.ret
  replace HX := Aside0.mk (hA.chg.heap HX.out HQ.out)
  replace HK := Aside0.mk (HK.out.step hA.chg)
  replace HS := Aside0.mk (hA.next HS.out.2)
  clear c1 c11 x0 x1 x2 x3 hA
  obtain ⟨-, c1, -, -, -, -, -, -, -, -, -, c11, -, -⟩ := HS.out.1.cells
  have x0 := (blk_cell HX.out 0).trans rfl
  have x1 := (blk_cell HX.out 1).trans rfl
  have x2 := (blk_cell HX.out 2).trans rfl
  have x3 := (blk_cell HX.out 3).trans rfl
  go_wp2_with fail
  refine (need w0 _ q P _ _ _ _ HS.out.1 _ _).mono ?_
  rintro r w1 hA
  obtain rfl := hA.ret
  replace HX := Aside0.mk (hA.chg.heap HX.out HQ.out)
  replace HK := Aside0.mk (HK.out.step hA.chg)
  replace HS := Aside0.mk (hA.next HS.out.2)
  clear c1 c11 x0 x1 x2 x3 hA
  obtain ⟨-, c1, -, -, -, -, -, -, -, -, -, c11, -, -⟩ := HS.out.1.cells
  have x0 := (blk_cell HX.out 0).trans rfl
  have x1 := (blk_cell HX.out 1).trans rfl
  have x2 := (blk_cell HX.out 2).trans rfl
  have x3 := (blk_cell HX.out 3).trans rfl
  go_wp2_with fail
  refine (need w0 _ q P _ _ _ _ HS.out.1 _ _).mono ?_
  rintro r w1 hA
  obtain rfl := hA.ret
  replace HX := Aside0.mk (hA.chg.heap HX.out HQ.out)
  replace HK := Aside0.mk (HK.out.step hA.chg)
  replace HS := Aside0.mk (hA.next HS.out.2)
  clear c1 c11 x0 x1 x2 x3 hA
  obtain ⟨-, c1, -, -, -, -, -, -, -, -, -, c11, -, -⟩ := HS.out.1.cells
  have x0 := (blk_cell HX.out 0).trans rfl
  have x1 := (blk_cell HX.out 1).trans rfl
  have x2 := (blk_cell HX.out 2).trans rfl
  have x3 := (blk_cell HX.out 3).trans rfl
  clear o1 o2 o3 o4 o5 m0
  obtain ⟨e1, he1⟩ : ∃ e1, e1 = exprHead P.vals known op n nm kids.length 0 := ⟨_, rfl⟩
  replace HS := Aside0.mk (And.intro (HS.out.1.to (show _ = e1 from by rw [he1]; unfold exprHead leafB; simp [len2, Go1.out, Go2.out, Go3.out, Go4.out, Go5.out, Gm0.out])) HS.out.2)
  have HE1 := Aside0.mk he1
  clear he1 c1 c11 x0 x1 x2
  have hlen : kids.length ≤ 1000 := HF.out.2.2.1.2.1
  go_wp2
  go_loopw [96] (fun v96 wr => ∃ i : Nat, i ≤ kids.length ∧ v96 = .int .i64 i ∧ Aside0 (AS w0 wr q P part (exprFs P.vals known e1 (kids.take i)) st vR ∧ Chg (fun k => k = q) W wr) ∧ Aside0 (Far q wr (fun W => Kd.C Kd.string W B known.length known))) (fun v96 _ => kids.length - (intOf v96).toNat)
  case atStart => exact ⟨0, Nat.zero_le _, rfl, HS, HK⟩
  case round =>
    clear HS HK HX x3
    obtain ⟨i, hi, rfl, HS, HK⟩ := hrel
    by_cases hlt : i < kids.length
    · have e1' : decide ((i : Int) < (kids.length : Int)) = true := decide_eq_true (by omega)
      have e2' : decide (i < kids.length) = true := decide_eq_true hlt
      obtain ⟨ad, A3, c3, hA, h0, h1, h2, h3, hl, hk⟩ := at_T57 HF.out.2.1 (i : Int) (by omega) (by omega)
      have HG := Aside0.mk (And.intro hl (And.intro hk (rdE_eq kids i hlt)))
      clear hl hk
      subst hA
      rw [Int.toNat_natCast] at h0 h1 h2 h3
      replace h0 := pw_cell_below HS.out.1.bel h0
      replace h1 := pw_cell_below HS.out.1.bel h1
      replace h2 := pw_cell_below HS.out.1.bel h2
      replace h3 := pw_cell_below HS.out.1.bel h3
      go_wp2_with fail
      refine (HI.out (rd_T57 kids (i : Int)) (by rw [HG.out.2.2]; have := sizeE kids i hlt op n nm; have := HF.out.1; omega) _ _ A3 c3 B cB (HS.out.1.step (below_alloc (Below.refl _ _) _)) HG.out.2.1 (by rw [HG.out.2.2]; exact smEs_get _ i hlt HF.out.2.2.1.2.2) (HK.out.step (Chg.of_below (below_alloc (Below.refl _ _) _))) HF.out.2.2.2.1 HF.out.2.2.2.2).mono ?_
      rintro r w2 hA
      obtain rfl := hA.ret
      replace HK := Aside0.mk ((HK.out.step (Chg.of_below (below_alloc (Below.refl _ _) _))).step hA.chg)
      replace HS := Aside0.mk (hA.next (HS.out.2.step (Chg.of_below (below_alloc (Below.refl _ _) _))))
      have HE := Aside0.mk (exprFs_take P.vals known kids e1 i hlt)
      clear h0 h1 h2 h3 hA
      go_wp2
      go_roundw
      case rel => exact ⟨i + 1, by omega, by go_num, ⟨And.intro (HS.out.1.to (by rw [HE.out, HG.out.2.2])) HS.out.2⟩, HK⟩
      case measure => simp [intOf]; omega
    · have e1' : decide ((i : Int) < (kids.length : Int)) = false := decide_eq_false (by omega)
      have e2' : decide (i < kids.length) = false := decide_eq_false hlt
      obtain rfl : i = kids.length := by omega
      go_wp2
      go_end0
      exact ⟨rfl, HS.out.1.to (by rw [List.take_length, HE1.out]), HS.out.2⟩
set_option maxHeartbeats 4000000 in
theorem expr_c2 (w0 W : World) (q : Nat) (P : AP) (part st : Int) (vR : Value) (known : List ByteArray) (N : Nat) (ih : ExprOk w0 q P part st vR known N) (n : Int) (nm : ByteArray) (kids : List TExpr) (A : Option Addr) (c : Nat) (B : Option Addr) (cB : Nat) (op : Int) (hN : SizeOf.sizeOf (S57.mk op n nm kids) < N + 1)
    (h : AS w0 W q P part 0 st vR) (hC : Kd.C kExpr w0 A kids.length kids) (hx : smE ⟨op, n, nm, kids⟩) (hK : Far q W (fun W => Kd.C Kd.string W B known.length known)) (hcB : known.length ≤ cB) (hk : known.length ≤ 1000) (o1 : (op == 1) = false) (o2 : (op == 2) = false) (o3 : (op != 1) = true) (o4 : (op != 2) = true) (o5 : decide (1 ≤ op) = true) (m0 : ¬ nm.toList = []) (m1 : (!nm.toList.isEmpty) = true) (m2 : nm.toList.isEmpty = false) :
    Calls Try.prog 99 #[.pointer (some ⟨q, 0, none⟩), .agg #[.int .i64 op, .int .i64 n, .string nm, .slice A kids.length c], .slice B known.length cB] W (Asked w0 W q P part (exprFs P.vals known (exprHead P.vals known op n nm kids.length 0) kids) st vR) := by
  have HF := Aside0.mk (And.intro hN (And.intro hC (And.intro ((smE_def _).1 hx) (And.intro hcB hk))))
  have HI := Aside0.mk ih
  have HQ := Aside0.mk (show ¬ W.heap.size = q from by have := h.lt; omega)
  have Go1 := Aside0.mk o1
  have Go2 := Aside0.mk o2
  have Go3 := Aside0.mk o3
  have Go4 := Aside0.mk o4
  have Go5 := Aside0.mk o5
  have Gm0 := Aside0.mk m0
  have Gm1 := Aside0.mk m1
  have Gm2 := Aside0.mk m2
  have hb := below_alloc (Below.refl W.heap.size W) (.cells #[.int .i64 op, .int .i64 n, .string nm, .slice A kids.length c] 57 (0, 0))
  have HX := Aside0.mk (blk_new W (.cells #[.int .i64 op, .int .i64 n, .string nm, .slice A kids.length c] 57 (0, 0)))
  have HS := Aside0.mk (AS.move (And.intro h (Chg.refl (fun k => k = q) W)) hb)
  have HK := Aside0.mk (hK.step (Chg.of_below hb))
  have c11 := h.cells.2.2.2.2.2.2.2.2.2.2.2.1
  have c1 := h.cells.2.1
  have hq := h.lt
  have hlen : kids.length ≤ 1000 := HF.out.2.2.1.2.1
  have x0 := True.intro
  have x1 := True.intro
  have x2 := True.intro
  have x3 := True.intro
  clear hN hC hx hK hcB hk h hb ih hlen
  go_enter Try.func99, Try.ntmps99
  go_wp2_with fail
  refine (need w0 _ q P _ _ _ _ HS.out.1 _ _).mono ?_
  rintro r w1 hA
  obtain rfl := hA.ret
  replace HX := Aside0.mk (hA.chg.heap HX.out HQ.out)
  replace HK := Aside0.mk (HK.out.step hA.chg)
  replace HS := Aside0.mk (hA.next HS.out.2)
  clear c1 c11 x0 x1 x2 x3 hA
  obtain ⟨-, c1, -, -, -, -, -, -, -, -, -, c11, -, -⟩ := HS.out.1.cells
  have x0 := (blk_cell HX.out 0).trans rfl
  have x1 := (blk_cell HX.out 1).trans rfl
  have x2 := (blk_cell HX.out 2).trans rfl
  have x3 := (blk_cell HX.out 3).trans rfl
  go_wp2_with fail
  refine (need w0 _ q P _ _ _ _ HS.out.1 _ _).mono ?_
  rintro r w1 hA
  obtain rfl := hA.ret
  replace HX := Aside0.mk (hA.chg.heap HX.out HQ.out)
  replace HK := Aside0.mk (HK.out.step hA.chg)
  replace HS := Aside0.mk (hA.next HS.out.2)
  clear c1 c11 x0 x1 x2 x3 hA
  obtain ⟨-, c1, -, -, -, -, -, -, -, -, -, c11, -, -⟩ := HS.out.1.cells
  have x0 := (blk_cell HX.out 0).trans rfl
  have x1 := (blk_cell HX.out 1).trans rfl
  have x2 := (blk_cell HX.out 2).trans rfl
  have x3 := (blk_cell HX.out 3).trans rfl
  go_wp2_with fail
  refine (need w0 _ q P _ _ _ _ HS.out.1 _ _).mono ?_
  rintro r w1 hA
  obtain rfl := hA.ret
  replace HX := Aside0.mk (hA.chg.heap HX.out HQ.out)
  replace HK := Aside0.mk (HK.out.step hA.chg)
  replace HS := Aside0.mk (hA.next HS.out.2)
  clear c1 c11 x0 x1 x2 x3 hA
  obtain ⟨-, c1, -, -, -, -, -, -, -, -, -, c11, -, -⟩ := HS.out.1.cells
  have x0 := (blk_cell HX.out 0).trans rfl
  have x1 := (blk_cell HX.out 1).trans rfl
  have x2 := (blk_cell HX.out 2).trans rfl
  have x3 := (blk_cell HX.out 3).trans rfl
  go_wp2_with fail
  refine (need w0 _ q P _ _ _ _ HS.out.1 _ _).mono ?_
  rintro r w1 hA
  obtain rfl := hA.ret
  replace HX := Aside0.mk (hA.chg.heap HX.out HQ.out)
  replace HK := Aside0.mk (HK.out.step hA.chg)
  replace HS := Aside0.mk (hA.next HS.out.2)
  clear c1 c11 x0 x1 x2 x3 hA
  obtain ⟨-, c1, -, -, -, -, -, -, -, -, -, c11, -, -⟩ := HS.out.1.cells
  have x0 := (blk_cell HX.out 0).trans rfl
  have x1 := (blk_cell HX.out 1).trans rfl
  have x2 := (blk_cell HX.out 2).trans rfl
  have x3 := (blk_cell HX.out 3).trans rfl
  go_wp2_with fail
  refine (need w0 _ q P _ _ _ _ HS.out.1 _ _).mono ?_
  rintro r w1 hA
  obtain rfl := hA.ret
  replace HX := Aside0.mk (hA.chg.heap HX.out HQ.out)
  replace HK := Aside0.mk (HK.out.step hA.chg)
  replace HS := Aside0.mk (hA.next HS.out.2)
  clear c1 c11 x0 x1 x2 x3 hA
  obtain ⟨-, c1, -, -, -, -, -, -, -, -, -, c11, -, -⟩ := HS.out.1.cells
  have x0 := (blk_cell HX.out 0).trans rfl
  have x1 := (blk_cell HX.out 1).trans rfl
  have x2 := (blk_cell HX.out 2).trans rfl
  have x3 := (blk_cell HX.out 3).trans rfl
  clear o1 o2 o3 o4 o5 m0 m1 m2
  obtain ⟨e1, he1⟩ : ∃ e1, e1 = exprHead P.vals known op n nm kids.length 0 := ⟨_, rfl⟩
  replace HS := Aside0.mk (And.intro (HS.out.1.to (show _ = e1 from by rw [he1]; unfold exprHead leafB; simp [len2, Go1.out, Go2.out, Go3.out, Go4.out, Go5.out, Gm0.out, Gm1.out, Gm2.out])) HS.out.2)
  have HE1 := Aside0.mk he1
  clear he1 c1 c11 x0 x1 x2
  have hlen : kids.length ≤ 1000 := HF.out.2.2.1.2.1
  go_wp2
  go_loopw [96] (fun v96 wr => ∃ i : Nat, i ≤ kids.length ∧ v96 = .int .i64 i ∧ Aside0 (AS w0 wr q P part (exprFs P.vals known e1 (kids.take i)) st vR ∧ Chg (fun k => k = q) W wr) ∧ Aside0 (Far q wr (fun W => Kd.C Kd.string W B known.length known))) (fun v96 _ => kids.length - (intOf v96).toNat)
  case atStart => exact ⟨0, Nat.zero_le _, rfl, HS, HK⟩
  case round =>
    clear HS HK HX x3
    obtain ⟨i, hi, rfl, HS, HK⟩ := hrel
    by_cases hlt : i < kids.length
    · have e1' : decide ((i : Int) < (kids.length : Int)) = true := decide_eq_true (by omega)
      have e2' : decide (i < kids.length) = true := decide_eq_true hlt
      obtain ⟨ad, A3, c3, hA, h0, h1, h2, h3, hl, hk⟩ := at_T57 HF.out.2.1 (i : Int) (by omega) (by omega)
      have HG := Aside0.mk (And.intro hl (And.intro hk (rdE_eq kids i hlt)))
      clear hl hk
      subst hA
      rw [Int.toNat_natCast] at h0 h1 h2 h3
      replace h0 := pw_cell_below HS.out.1.bel h0
      replace h1 := pw_cell_below HS.out.1.bel h1
      replace h2 := pw_cell_below HS.out.1.bel h2
      replace h3 := pw_cell_below HS.out.1.bel h3
      go_wp2_with fail
      refine (HI.out (rd_T57 kids (i : Int)) (by rw [HG.out.2.2]; have := sizeE kids i hlt op n nm; have := HF.out.1; omega) _ _ A3 c3 B cB (HS.out.1.step (below_alloc (Below.refl _ _) _)) HG.out.2.1 (by rw [HG.out.2.2]; exact smEs_get _ i hlt HF.out.2.2.1.2.2) (HK.out.step (Chg.of_below (below_alloc (Below.refl _ _) _))) HF.out.2.2.2.1 HF.out.2.2.2.2).mono ?_
      rintro r w2 hA
      obtain rfl := hA.ret
      replace HK := Aside0.mk ((HK.out.step (Chg.of_below (below_alloc (Below.refl _ _) _))).step hA.chg)
      replace HS := Aside0.mk (hA.next (HS.out.2.step (Chg.of_below (below_alloc (Below.refl _ _) _))))
      have HE := Aside0.mk (exprFs_take P.vals known kids e1 i hlt)
      clear h0 h1 h2 h3 hA
      go_wp2
      go_roundw
      case rel => exact ⟨i + 1, by omega, by go_num, ⟨And.intro (HS.out.1.to (by rw [HE.out, HG.out.2.2])) HS.out.2⟩, HK⟩
      case measure => simp [intOf]; omega
    · have e1' : decide ((i : Int) < (kids.length : Int)) = false := decide_eq_false (by omega)
      have e2' : decide (i < kids.length) = false := decide_eq_false hlt
      obtain rfl : i = kids.length := by omega
      go_wp2
      go_end0
      exact ⟨rfl, HS.out.1.to (by rw [List.take_length, HE1.out]), HS.out.2⟩
set_option maxHeartbeats 4000000 in
theorem expr_c3 (w0 W : World) (q : Nat) (P : AP) (part st : Int) (vR : Value) (known : List ByteArray) (N : Nat) (ih : ExprOk w0 q P part st vR known N) (n : Int) (nm : ByteArray) (kids : List TExpr) (A : Option Addr) (c : Nat) (B : Option Addr) (cB : Nat) (op : Int) (hN : SizeOf.sizeOf (S57.mk op n nm kids) < N + 1)
    (h : AS w0 W q P part 0 st vR) (hC : Kd.C kExpr w0 A kids.length kids) (hx : smE ⟨op, n, nm, kids⟩) (hK : Far q W (fun W => Kd.C Kd.string W B known.length known)) (hcB : known.length ≤ cB) (hk : known.length ≤ 1000) (o1 : (op == 1) = false) (o2 : (op == 2) = false) (o3 : (op != 1) = true) (o4 : (op != 2) = true) (o5 : decide (1 ≤ op) = false) (m0 : nm.toList = []) :
    Calls Try.prog 99 #[.pointer (some ⟨q, 0, none⟩), .agg #[.int .i64 op, .int .i64 n, .string nm, .slice A kids.length c], .slice B known.length cB] W (Asked w0 W q P part (exprFs P.vals known (exprHead P.vals known op n nm kids.length 0) kids) st vR) := by
  have HF := Aside0.mk (And.intro hN (And.intro hC (And.intro ((smE_def _).1 hx) (And.intro hcB hk))))
  have HI := Aside0.mk ih
  have HQ := Aside0.mk (show ¬ W.heap.size = q from by have := h.lt; omega)
  have Go1 := Aside0.mk o1
  have Go2 := Aside0.mk o2
  have Go3 := Aside0.mk o3
  have Go4 := Aside0.mk o4
  have Go5 := Aside0.mk o5
  have Gm0 := Aside0.mk m0
  have hb := below_alloc (Below.refl W.heap.size W) (.cells #[.int .i64 op, .int .i64 n, .string nm, .slice A kids.length c] 57 (0, 0))
  have HX := Aside0.mk (blk_new W (.cells #[.int .i64 op, .int .i64 n, .string nm, .slice A kids.length c] 57 (0, 0)))
  have HS := Aside0.mk (AS.move (And.intro h (Chg.refl (fun k => k = q) W)) hb)
  have HK := Aside0.mk (hK.step (Chg.of_below hb))
  have c11 := h.cells.2.2.2.2.2.2.2.2.2.2.2.1
  have c1 := h.cells.2.1
  have hq := h.lt
  have hlen : kids.length ≤ 1000 := HF.out.2.2.1.2.1
  have x0 := True.intro
  have x1 := True.intro
  have x2 := True.intro
  have x3 := True.intro
  clear hN hC hx hK hcB hk h hb ih hlen
  go_enter Try.func99, Try.ntmps99
  go_wp2_with fail
  refine (need w0 _ q P _ _ _ _ HS.out.1 _ _).mono ?_
  rintro r w1 hA
  obtain rfl := hA.ret
  replace HX := Aside0.mk (hA.chg.heap HX.out HQ.out)
  replace HK := Aside0.mk (HK.out.step hA.chg)
  replace HS := Aside0.mk (hA.next HS.out.2)
  clear c1 c11 x0 x1 x2 x3 hA
  obtain ⟨-, c1, -, -, -, -, -, -, -, -, -, c11, -, -⟩ := HS.out.1.cells
  have x0 := (blk_cell HX.out 0).trans rfl
  have x1 := (blk_cell HX.out 1).trans rfl
  have x2 := (blk_cell HX.out 2).trans rfl
  have x3 := (blk_cell HX.out 3).trans rfl
  go_wp2_with fail
  refine (need w0 _ q P _ _ _ _ HS.out.1 _ _).mono ?_
  rintro r w1 hA
  obtain rfl := hA.ret
  replace HX := Aside0.mk (hA.chg.heap HX.out HQ.out)
  replace HK := Aside0.mk (HK.out.step hA.chg)
  replace HS := Aside0.mk (hA.next HS.out.2)
  clear c1 c11 x0 x1 x2 x3 hA
  obtain ⟨-, c1, -, -, -, -, -, -, -, -, -, c11, -, -⟩ := HS.out.1.cells
  have x0 := (blk_cell HX.out 0).trans rfl
  have x1 := (blk_cell HX.out 1).trans rfl
  have x2 := (blk_cell HX.out 2).trans rfl
  have x3 := (blk_cell HX.out 3).trans rfl
  go_wp2_with fail
  refine (need w0 _ q P _ _ _ _ HS.out.1 _ _).mono ?_
  rintro r w1 hA
  obtain rfl := hA.ret
  replace HX := Aside0.mk (hA.chg.heap HX.out HQ.out)
  replace HK := Aside0.mk (HK.out.step hA.chg)
  replace HS := Aside0.mk (hA.next HS.out.2)
  clear c1 c11 x0 x1 x2 x3 hA
  obtain ⟨-, c1, -, -, -, -, -, -, -, -, -, c11, -, -⟩ := HS.out.1.cells
  have x0 := (blk_cell HX.out 0).trans rfl
  have x1 := (blk_cell HX.out 1).trans rfl
  have x2 := (blk_cell HX.out 2).trans rfl
  have x3 := (blk_cell HX.out 3).trans rfl
  go_wp2_with fail
  refine (need w0 _ q P _ _ _ _ HS.out.1 _ _).mono ?_
  rintro r w1 hA
  obtain rfl := hA.ret
  replace HX := Aside0.mk (hA.chg.heap HX.out HQ.out)
  replace HK := Aside0.mk (HK.out.step hA.chg)
  replace HS := Aside0.mk (hA.next HS.out.2)
  clear c1 c11 x0 x1 x2 x3 hA
  obtain ⟨-, c1, -, -, -, -, -, -, -, -, -, c11, -, -⟩ := HS.out.1.cells
  have x0 := (blk_cell HX.out 0).trans rfl
  have x1 := (blk_cell HX.out 1).trans rfl
  have x2 := (blk_cell HX.out 2).trans rfl
  have x3 := (blk_cell HX.out 3).trans rfl
  go_wp2_with fail
  refine (need w0 _ q P _ _ _ _ HS.out.1 _ _).mono ?_
  rintro r w1 hA
  obtain rfl := hA.ret
  replace HX := Aside0.mk (hA.chg.heap HX.out HQ.out)
  replace HK := Aside0.mk (HK.out.step hA.chg)
  replace HS := Aside0.mk (hA.next HS.out.2)
  clear c1 c11 x0 x1 x2 x3 hA
  obtain ⟨-, c1, -, -, -, -, -, -, -, -, -, c11, -, -⟩ := HS.out.1.cells
  have x0 := (blk_cell HX.out 0).trans rfl
  have x1 := (blk_cell HX.out 1).trans rfl
  have x2 := (blk_cell HX.out 2).trans rfl
  have x3 := (blk_cell HX.out 3).trans rfl
  clear o1 o2 o3 o4 o5 m0
  obtain ⟨e1, he1⟩ : ∃ e1, e1 = exprHead P.vals known op n nm kids.length 0 := ⟨_, rfl⟩
  replace HS := Aside0.mk (And.intro (HS.out.1.to (show _ = e1 from by rw [he1]; unfold exprHead leafB; simp [len2, Go1.out, Go2.out, Go3.out, Go4.out, Go5.out, Gm0.out])) HS.out.2)
  have HE1 := Aside0.mk he1
  clear he1 c1 c11 x0 x1 x2
  have hlen : kids.length ≤ 1000 := HF.out.2.2.1.2.1
  go_wp2
  go_loopw [96] (fun v96 wr => ∃ i : Nat, i ≤ kids.length ∧ v96 = .int .i64 i ∧ Aside0 (AS w0 wr q P part (exprFs P.vals known e1 (kids.take i)) st vR ∧ Chg (fun k => k = q) W wr) ∧ Aside0 (Far q wr (fun W => Kd.C Kd.string W B known.length known))) (fun v96 _ => kids.length - (intOf v96).toNat)
  case atStart => exact ⟨0, Nat.zero_le _, rfl, HS, HK⟩
  case round =>
    clear HS HK HX x3
    obtain ⟨i, hi, rfl, HS, HK⟩ := hrel
    by_cases hlt : i < kids.length
    · have e1' : decide ((i : Int) < (kids.length : Int)) = true := decide_eq_true (by omega)
      have e2' : decide (i < kids.length) = true := decide_eq_true hlt
      obtain ⟨ad, A3, c3, hA, h0, h1, h2, h3, hl, hk⟩ := at_T57 HF.out.2.1 (i : Int) (by omega) (by omega)
      have HG := Aside0.mk (And.intro hl (And.intro hk (rdE_eq kids i hlt)))
      clear hl hk
      subst hA
      rw [Int.toNat_natCast] at h0 h1 h2 h3
      replace h0 := pw_cell_below HS.out.1.bel h0
      replace h1 := pw_cell_below HS.out.1.bel h1
      replace h2 := pw_cell_below HS.out.1.bel h2
      replace h3 := pw_cell_below HS.out.1.bel h3
      go_wp2_with fail
      refine (HI.out (rd_T57 kids (i : Int)) (by rw [HG.out.2.2]; have := sizeE kids i hlt op n nm; have := HF.out.1; omega) _ _ A3 c3 B cB (HS.out.1.step (below_alloc (Below.refl _ _) _)) HG.out.2.1 (by rw [HG.out.2.2]; exact smEs_get _ i hlt HF.out.2.2.1.2.2) (HK.out.step (Chg.of_below (below_alloc (Below.refl _ _) _))) HF.out.2.2.2.1 HF.out.2.2.2.2).mono ?_
      rintro r w2 hA
      obtain rfl := hA.ret
      replace HK := Aside0.mk ((HK.out.step (Chg.of_below (below_alloc (Below.refl _ _) _))).step hA.chg)
      replace HS := Aside0.mk (hA.next (HS.out.2.step (Chg.of_below (below_alloc (Below.refl _ _) _))))
      have HE := Aside0.mk (exprFs_take P.vals known kids e1 i hlt)
      clear h0 h1 h2 h3 hA
      go_wp2
      go_roundw
      case rel => exact ⟨i + 1, by omega, by go_num, ⟨And.intro (HS.out.1.to (by rw [HE.out, HG.out.2.2])) HS.out.2⟩, HK⟩
      case measure => simp [intOf]; omega
    · have e1' : decide ((i : Int) < (kids.length : Int)) = false := decide_eq_false (by omega)
      have e2' : decide (i < kids.length) = false := decide_eq_false hlt
      obtain rfl : i = kids.length := by omega
      go_wp2
      go_end0
      exact ⟨rfl, HS.out.1.to (by rw [List.take_length, HE1.out]), HS.out.2⟩
set_option maxHeartbeats 4000000 in
theorem expr_c4 (w0 W : World) (q : Nat) (P : AP) (part st : Int) (vR : Value) (known : List ByteArray) (N : Nat) (ih : ExprOk w0 q P part st vR known N) (n : Int) (nm : ByteArray) (kids : List TExpr) (A : Option Addr) (c : Nat) (B : Option Addr) (cB : Nat) (op : Int) (hN : SizeOf.sizeOf (S57.mk op n nm kids) < N + 1)
    (h : AS w0 W q P part 0 st vR) (hC : Kd.C kExpr w0 A kids.length kids) (hx : smE ⟨op, n, nm, kids⟩) (hK : Far q W (fun W => Kd.C Kd.string W B known.length known)) (hcB : known.length ≤ cB) (hk : known.length ≤ 1000) (o1 : (op == 1) = false) (o2 : (op == 2) = false) (o3 : (op != 1) = true) (o4 : (op != 2) = true) (o5 : decide (1 ≤ op) = false) (m0 : ¬ nm.toList = []) (m1 : (!nm.toList.isEmpty) = true) (m2 : nm.toList.isEmpty = false) :
    Calls Try.prog 99 #[.pointer (some ⟨q, 0, none⟩), .agg #[.int .i64 op, .int .i64 n, .string nm, .slice A kids.length c], .slice B known.length cB] W (Asked w0 W q P part (exprFs P.vals known (exprHead P.vals known op n nm kids.length 0) kids) st vR) := by
  have HF := Aside0.mk (And.intro hN (And.intro hC (And.intro ((smE_def _).1 hx) (And.intro hcB hk))))
  have HI := Aside0.mk ih
  have HQ := Aside0.mk (show ¬ W.heap.size = q from by have := h.lt; omega)
  have Go1 := Aside0.mk o1
  have Go2 := Aside0.mk o2
  have Go3 := Aside0.mk o3
  have Go4 := Aside0.mk o4
  have Go5 := Aside0.mk o5
  have Gm0 := Aside0.mk m0
  have Gm1 := Aside0.mk m1
  have Gm2 := Aside0.mk m2
  have hb := below_alloc (Below.refl W.heap.size W) (.cells #[.int .i64 op, .int .i64 n, .string nm, .slice A kids.length c] 57 (0, 0))
  have HX := Aside0.mk (blk_new W (.cells #[.int .i64 op, .int .i64 n, .string nm, .slice A kids.length c] 57 (0, 0)))
  have HS := Aside0.mk (AS.move (And.intro h (Chg.refl (fun k => k = q) W)) hb)
  have HK := Aside0.mk (hK.step (Chg.of_below hb))
  have c11 := h.cells.2.2.2.2.2.2.2.2.2.2.2.1
  have c1 := h.cells.2.1
  have hq := h.lt
  have hlen : kids.length ≤ 1000 := HF.out.2.2.1.2.1
  have x0 := True.intro
  have x1 := True.intro
  have x2 := True.intro
  have x3 := True.intro
  clear hN hC hx hK hcB hk h hb ih hlen
  go_enter Try.func99, Try.ntmps99
  go_wp2_with fail
  refine (need w0 _ q P _ _ _ _ HS.out.1 _ _).mono ?_
  rintro r w1 hA
  obtain rfl := hA.ret
  replace HX := Aside0.mk (hA.chg.heap HX.out HQ.out)
  replace HK := Aside0.mk (HK.out.step hA.chg)
  replace HS := Aside0.mk (hA.next HS.out.2)
  clear c1 c11 x0 x1 x2 x3 hA
  obtain ⟨-, c1, -, -, -, -, -, -, -, -, -, c11, -, -⟩ := HS.out.1.cells
  have x0 := (blk_cell HX.out 0).trans rfl
  have x1 := (blk_cell HX.out 1).trans rfl
  have x2 := (blk_cell HX.out 2).trans rfl
  have x3 := (blk_cell HX.out 3).trans rfl
  go_wp2_with fail
  refine (need w0 _ q P _ _ _ _ HS.out.1 _ _).mono ?_
  rintro r w1 hA
  obtain rfl := hA.ret
  replace HX := Aside0.mk (hA.chg.heap HX.out HQ.out)
  replace HK := Aside0.mk (HK.out.step hA.chg)
  replace HS := Aside0.mk (hA.next HS.out.2)
  clear c1 c11 x0 x1 x2 x3 hA
  obtain ⟨-, c1, -, -, -, -, -, -, -, -, -, c11, -, -⟩ := HS.out.1.cells
  have x0 := (blk_cell HX.out 0).trans rfl
  have x1 := (blk_cell HX.out 1).trans rfl
  have x2 := (blk_cell HX.out 2).trans rfl
  have x3 := (blk_cell HX.out 3).trans rfl
  go_wp2_with fail
  refine (need w0 _ q P _ _ _ _ HS.out.1 _ _).mono ?_
  rintro r w1 hA
  obtain rfl := hA.ret
  replace HX := Aside0.mk (hA.chg.heap HX.out HQ.out)
  replace HK := Aside0.mk (HK.out.step hA.chg)
  replace HS := Aside0.mk (hA.next HS.out.2)
  clear c1 c11 x0 x1 x2 x3 hA
  obtain ⟨-, c1, -, -, -, -, -, -, -, -, -, c11, -, -⟩ := HS.out.1.cells
  have x0 := (blk_cell HX.out 0).trans rfl
  have x1 := (blk_cell HX.out 1).trans rfl
  have x2 := (blk_cell HX.out 2).trans rfl
  have x3 := (blk_cell HX.out 3).trans rfl
  go_wp2_with fail
  refine (need w0 _ q P _ _ _ _ HS.out.1 _ _).mono ?_
  rintro r w1 hA
  obtain rfl := hA.ret
  replace HX := Aside0.mk (hA.chg.heap HX.out HQ.out)
  replace HK := Aside0.mk (HK.out.step hA.chg)
  replace HS := Aside0.mk (hA.next HS.out.2)
  clear c1 c11 x0 x1 x2 x3 hA
  obtain ⟨-, c1, -, -, -, -, -, -, -, -, -, c11, -, -⟩ := HS.out.1.cells
  have x0 := (blk_cell HX.out 0).trans rfl
  have x1 := (blk_cell HX.out 1).trans rfl
  have x2 := (blk_cell HX.out 2).trans rfl
  have x3 := (blk_cell HX.out 3).trans rfl
  go_wp2_with fail
  refine (need w0 _ q P _ _ _ _ HS.out.1 _ _).mono ?_
  rintro r w1 hA
  obtain rfl := hA.ret
  replace HX := Aside0.mk (hA.chg.heap HX.out HQ.out)
  replace HK := Aside0.mk (HK.out.step hA.chg)
  replace HS := Aside0.mk (hA.next HS.out.2)
  clear c1 c11 x0 x1 x2 x3 hA
  obtain ⟨-, c1, -, -, -, -, -, -, -, -, -, c11, -, -⟩ := HS.out.1.cells
  have x0 := (blk_cell HX.out 0).trans rfl
  have x1 := (blk_cell HX.out 1).trans rfl
  have x2 := (blk_cell HX.out 2).trans rfl
  have x3 := (blk_cell HX.out 3).trans rfl
  clear o1 o2 o3 o4 o5 m0 m1 m2
  obtain ⟨e1, he1⟩ : ∃ e1, e1 = exprHead P.vals known op n nm kids.length 0 := ⟨_, rfl⟩
  replace HS := Aside0.mk (And.intro (HS.out.1.to (show _ = e1 from by rw [he1]; unfold exprHead leafB; simp [len2, Go1.out, Go2.out, Go3.out, Go4.out, Go5.out, Gm0.out, Gm1.out, Gm2.out])) HS.out.2)
  have HE1 := Aside0.mk he1
  clear he1 c1 c11 x0 x1 x2
  have hlen : kids.length ≤ 1000 := HF.out.2.2.1.2.1
  go_wp2
  go_loopw [96] (fun v96 wr => ∃ i : Nat, i ≤ kids.length ∧ v96 = .int .i64 i ∧ Aside0 (AS w0 wr q P part (exprFs P.vals known e1 (kids.take i)) st vR ∧ Chg (fun k => k = q) W wr) ∧ Aside0 (Far q wr (fun W => Kd.C Kd.string W B known.length known))) (fun v96 _ => kids.length - (intOf v96).toNat)
  case atStart => exact ⟨0, Nat.zero_le _, rfl, HS, HK⟩
  case round =>
    clear HS HK HX x3
    obtain ⟨i, hi, rfl, HS, HK⟩ := hrel
    by_cases hlt : i < kids.length
    · have e1' : decide ((i : Int) < (kids.length : Int)) = true := decide_eq_true (by omega)
      have e2' : decide (i < kids.length) = true := decide_eq_true hlt
      obtain ⟨ad, A3, c3, hA, h0, h1, h2, h3, hl, hk⟩ := at_T57 HF.out.2.1 (i : Int) (by omega) (by omega)
      have HG := Aside0.mk (And.intro hl (And.intro hk (rdE_eq kids i hlt)))
      clear hl hk
      subst hA
      rw [Int.toNat_natCast] at h0 h1 h2 h3
      replace h0 := pw_cell_below HS.out.1.bel h0
      replace h1 := pw_cell_below HS.out.1.bel h1
      replace h2 := pw_cell_below HS.out.1.bel h2
      replace h3 := pw_cell_below HS.out.1.bel h3
      go_wp2_with fail
      refine (HI.out (rd_T57 kids (i : Int)) (by rw [HG.out.2.2]; have := sizeE kids i hlt op n nm; have := HF.out.1; omega) _ _ A3 c3 B cB (HS.out.1.step (below_alloc (Below.refl _ _) _)) HG.out.2.1 (by rw [HG.out.2.2]; exact smEs_get _ i hlt HF.out.2.2.1.2.2) (HK.out.step (Chg.of_below (below_alloc (Below.refl _ _) _))) HF.out.2.2.2.1 HF.out.2.2.2.2).mono ?_
      rintro r w2 hA
      obtain rfl := hA.ret
      replace HK := Aside0.mk ((HK.out.step (Chg.of_below (below_alloc (Below.refl _ _) _))).step hA.chg)
      replace HS := Aside0.mk (hA.next (HS.out.2.step (Chg.of_below (below_alloc (Below.refl _ _) _))))
      have HE := Aside0.mk (exprFs_take P.vals known kids e1 i hlt)
      clear h0 h1 h2 h3 hA
      go_wp2
      go_roundw
      case rel => exact ⟨i + 1, by omega, by go_num, ⟨And.intro (HS.out.1.to (by rw [HE.out, HG.out.2.2])) HS.out.2⟩, HK⟩
      case measure => simp [intOf]; omega
    · have e1' : decide ((i : Int) < (kids.length : Int)) = false := decide_eq_false (by omega)
      have e2' : decide (i < kids.length) = false := decide_eq_false hlt
      obtain rfl : i = kids.length := by omega
      go_wp2
      go_end0
      exact ⟨rfl, HS.out.1.to (by rw [List.take_length, HE1.out]), HS.out.2⟩
theorem empties (nm : ByteArray) (h : ¬ nm.toList = []) : (!nm.toList.isEmpty) = true := by simpa using h
theorem empties2 (nm : ByteArray) (h : ¬ nm.toList = []) : nm.toList.isEmpty = false := by simpa using h
theorem expr_any (w0 : World) (q : Nat) (P : AP) (part st : Int) (vR : Value) (known : List ByteArray) : ∀ N, ExprOk w0 q P part st vR known N
  | 0 => fun x hx => by omega
  | N + 1 => by
    have ih := expr_any w0 q P part st vR known N
    rintro ⟨op, n, nm, kids⟩ hN W e A c B cB h hC hx hK hcB hk
    by_cases he : e = 0
    · subst he
      rw [exprF, if_pos rfl]
      by_cases o1 : op = 1
      · subst o1
        by_cases l : kids.length = 0
        · by_cases m : nm.toList = []
          · exact expr_a1 w0 W q P part st vR known N ih n nm kids A c B cB hN h hC hx hK hcB hk (by simp [l]) (by simp [l]) (by simp [l]) m
          · exact expr_a2 w0 W q P part st vR known N ih n nm kids A c B cB hN h hC hx hK hcB hk (by simp [l]) (by simp [l]) (by simp [l]) m (empties nm m) (empties2 nm m)
        · by_cases m : nm.toList = []
          · exact expr_a3 w0 W q P part st vR known N ih n nm kids A c B cB hN h hC hx hK hcB hk (by simpa using l) (by simpa using l) m
          · exact expr_a4 w0 W q P part st vR known N ih n nm kids A c B cB hN h hC hx hK hcB hk (by simpa using l) (by simpa using l) m (empties nm m) (empties2 nm m)
      · by_cases o2 : op = 2
        · subst o2
          by_cases l : kids.length = 0
          · exact expr_b1 w0 W q P part st vR known N ih n nm kids A c B cB hN h hC hx hK hcB hk (by simp [l]) (by simp [l]) (by simp [l])
          · exact expr_b2 w0 W q P part st vR known N ih n nm kids A c B cB hN h hC hx hK hcB hk (by simpa using l) (by simpa using l)
        · by_cases g : 1 ≤ op
          · by_cases m : nm.toList = []
            · exact expr_c1 w0 W q P part st vR known N ih n nm kids A c B cB op hN h hC hx hK hcB hk (by simpa using o1) (by simpa using o2) (by simpa using o1) (by simpa using o2) (decide_eq_true g) m
            · exact expr_c2 w0 W q P part st vR known N ih n nm kids A c B cB op hN h hC hx hK hcB hk (by simpa using o1) (by simpa using o2) (by simpa using o1) (by simpa using o2) (decide_eq_true g) m (empties nm m) (empties2 nm m)
          · by_cases m : nm.toList = []
            · exact expr_c3 w0 W q P part st vR known N ih n nm kids A c B cB op hN h hC hx hK hcB hk (by simpa using o1) (by simpa using o2) (by simpa using o1) (by simpa using o2) (decide_eq_false g) m
            · exact expr_c4 w0 W q P part st vR known N ih n nm kids A c B cB op hN h hC hx hK hcB hk (by simpa using o1) (by simpa using o2) (by simpa using o1) (by simpa using o2) (decide_eq_false g) m (empties nm m) (empties2 nm m)
    · rw [exprF, if_neg he]
      have HS := Aside0.mk (And.intro h (Chg.refl (fun k => k = q) W))
      have c11 := h.cells.2.2.2.2.2.2.2.2.2.2.2.1
      have e1 : (e == 0) = false := beq_eq_false_iff_ne.2 he
      have e2 : (e != 0) = true := by simpa using he
      have hq := h.lt
      clear ih hN h hC hx hK hcB hk he
      go_enter Try.func99, Try.ntmps99
      go_wp2
      go_end0
      exact ⟨rfl, HS.out.1.step (below_alloc (Below.refl _ _) _), HS.out.2.step (Chg.of_below (below_alloc (Below.refl _ _) _))⟩
end Go.Proofs.Ytlhbnbckanmaiaa.K
