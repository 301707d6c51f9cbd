/- A text of a claim (ours): the document's head walked; conditions: none of ours. -/
import Derived.Test.YtlhbnbckanmaiaaN8V
import Derived.Test.YtlhbnbckanmaiaaM6V
namespace Go.Proofs.Ytlhbnbckanmaiaa.K
open Go Go.RowKit Go.Proofs.YtlhbnbckanmaiaaW.PrintWords Go.Proofs.YtlhbnbckanmaiaaW.PrintLast Go.Proofs.YtlhbnbckanmaiaaW.PrintMore Go.Proofs.Ytlhbnbckanmaiaa.PC1
set_option linter.unusedVariables false
set_option linter.unusedSimpArgs false
def dC : Nat → TCond → Prop
  | 0, _ => False
  | n + 1, x => ∀ k ∈ x.f4, dC n k
theorem depC_pos (n : Nat) (x : TCond) : 1 ≤ depC n x := by
  cases n with
  | zero => rw [depC]; omega
  | succ n => rw [depC]; have := (fold_bd (depC n) ((n : Int) + 1) x.f4 0 (by omega) (by omega) (depC_bd n)).1; omega
theorem depC_iff : ∀ (t n : Nat) (x : TCond), t < n → (depC n x ≤ (t : Int) ↔ depC (t + 1) x ≤ (t : Int))
  | 0, n, x, h => by have := depC_pos n x; have := depC_pos (0 + 1) x; omega
  | t + 1, n, x, h => by
    obtain ⟨n, rfl⟩ : ∃ q, n = q + 1 := ⟨n - 1, by omega⟩
    have q1 := fold_le (depC n) (t : Int) x.f4 0
    have q2 := fold_le (depC (t + 1)) (t : Int) x.f4 0
    have q3 : (∀ k ∈ x.f4, depC n k ≤ (t : Int)) ↔ (∀ k ∈ x.f4, depC (t + 1) k ≤ (t : Int)) := by
      constructor
      · intro h' k hk; exact (depC_iff t n k (by omega)).1 (h' k hk)
      · intro h' k hk; exact (depC_iff t n k (by omega)).2 (h' k hk)
    rw [depC, depC]
    constructor
    · intro h
      have := q2.2 ⟨by omega, q3.1 (q1.1 (by omega)).2⟩
      omega
    · intro h
      have := q1.2 ⟨by omega, q3.2 (q2.1 (by omega)).2⟩
      omega
theorem condDeepL (x0 x1 : Int) (x2 : ByteArray) (x3 : Int) (l : List TCond) (hl : l.length ≤ 1000) (n : Nat) (hn : n ≤ 1000) (h : ∀ k ∈ l, Ev (fun j => witheref9_condDeep.f j k.f0 k.f1 k.f2 k.f3 k.f4) (depC n k)) : ∀ (d i : Nat) (m : Int), i + d = l.length → 0 ≤ m → m ≤ (n : Int) + 1 →
    Ev (fun j => witheref9_condDeep.l0 j m (i : Int) x0 x1 x2 x3 l) ((l.drop i).foldl (fun a k => max a (depC n k)) m + 1)
  | 0, i, m, hd, h0, h1 => ⟨1, fun k hk => by
    obtain ⟨k, rfl⟩ : ∃ q, k = q + 1 := ⟨k - 1, by omega⟩
    simp only [witheref9_condDeep.l0]
    rw [if_neg (by omega), List.drop_eq_nil_of_le (by omega), w64 _ (by omega) (by omega)]; rfl⟩
  | d + 1, i, m, hd, h0, h1 => by
    have hi : i < l.length := by omega
    have hb := depC_bd n l[i]
    obtain ⟨K1, hK1⟩ := h l[i] (List.getElem_mem hi)
    obtain ⟨K2, hK2⟩ := condDeepL x0 x1 x2 x3 l hl n hn h d (i + 1) (max m (depC n l[i])) (by omega) (by omega) (by omega)
    refine ⟨K1 + K2 + 1, fun k hk => ?_⟩
    obtain ⟨k, rfl⟩ : ∃ q, k = q + 1 := ⟨k - 1, by omega⟩
    simp only [witheref9_condDeep.l0]
    rw [if_pos (by omega), if_pos (by omega), rdC_eq l i hi]
    have e1 := hK1 k (by omega)
    have e2 := hK2 k (by omega)
    simp only at e1 e2
    rw [e1, Option.bind_some, w64 _ (by omega) (by omega), List.drop_eq_getElem_cons hi, List.foldl_cons]
    rw [show ((i + 1 : Nat) : Int) = (i : Int) + 1 from rfl] at e2
    by_cases hm : depC n l[i] > m
    · rw [if_pos hm]; rw [show max m (depC n l[i]) = depC n l[i] by omega] at e2 ⊢; exact e2
    · rw [if_neg hm]; rw [show max m (depC n l[i]) = m by omega] at e2 ⊢; exact e2
theorem condDeep_ev : ∀ (n : Nat) (hn : n ≤ 1000) (x : TCond), dC n x → smC x → Ev (fun j => witheref9_condDeep.f j x.f0 x.f1 x.f2 x.f3 x.f4) (depC n x)
  | 0, _, x, h, _ => h.elim
  | n + 1, hn, x, h, hs => by
    have hm := (smC_def x).1 hs
    have ih : ∀ k ∈ x.f4, Ev (fun j => witheref9_condDeep.f j k.f0 k.f1 k.f2 k.f3 k.f4) (depC n k) := fun k hk => by
      obtain ⟨i, hi, rfl⟩ := List.mem_iff_getElem.1 hk
      exact condDeep_ev n (by omega) _ (h _ hk) (smCs_get x.f4 i hi hm.2.2)
    obtain ⟨K, hK⟩ := condDeepL x.f0 x.f1 x.f2 x.f3 x.f4 hm.2.1 n (by omega) ih x.f4.length 0 0 (by omega) (by omega) (by omega)
    refine ⟨K + 1, fun k hk => ?_⟩
    obtain ⟨k, rfl⟩ : ∃ q, k = q + 1 := ⟨k - 1, by omega⟩
    simp only [witheref9_condDeep.f]
    exact hK k (by omega)
/-! ### conditions -/
theorem condF_err (P : AP) (e : Int) (x : TCond) (h : e ≠ 0) : condF P e x = e := by cases x; rw [condF, if_neg h]
theorem condFs_err (P : AP) (e : Int) (h : e ≠ 0) : ∀ l, condFs P e l = e
  | [] => by rw [condFs]
  | x :: xs => by rw [condFs, condF_err _ _ _ h, condFs_err P e h xs]
theorem condF_zero (P : AP) (x : TCond) : condF P 0 x = condFs P (condHead P x.f0 x.f1 x.f2 x.f3 x.f4.length 0) x.f4 := by cases x; rw [condF, if_pos rfl]
abbrev rlocs (P : AP) : List ByteArray := P.init.map (fun x => x.f0)
abbrev rregs (P : AP) : List (List ByteArray) := P.threads.map (regsL [])
theorem rregs_at (P : AP) (th : Int) (h0 : 0 ≤ th) (h1 : th < (P.threads.length : Int)) : rd_L11 (rregs P) th = regsL [] (P.th1 th) := by
  have hi : th.toNat < P.threads.length := by omega
  unfold rd_L11 AP.th1 rdOf
  rw [List.getD_eq_getElem?_getD, List.getElem?_map, List.getD_eq_getElem?_getD, List.getElem?_eq_getElem hi]; rfl
end Go.Proofs.Ytlhbnbckanmaiaa.K
namespace Go.Proofs.Ytlhbnbckanmaiaa.K
open Go Go.RowKit Go.Proofs.YtlhbnbckanmaiaaW.PrintWords Go.Proofs.YtlhbnbckanmaiaaW.PrintLast Go.Proofs.YtlhbnbckanmaiaaW.PrintMore Go.Proofs.Ytlhbnbckanmaiaa.PC1
set_option linter.unusedVariables false
set_option linter.unusedSimpArgs false
mutual
theorem blockS_regs (P : AP) : ∀ (deep : Int) (s : BS) (x : TStmt), s.e = 0 → (blockS P deep s x).e = 0 → (blockS P deep s x).regs = regsS s.regs x
  | deep, s, ⟨a, b, c, d, e, t, f⟩, h0, h => by
    have h1 := blockL_regs P (deep + 1) (stmtS P deep s ⟨a, b, c, d, e, t, f⟩) t
    have h2 := blockL_regs P (deep + 1) (blockL P (deep + 1) (stmtS P deep s ⟨a, b, c, d, e, t, f⟩) t) f
    have h3 := blockL_err P (deep + 1) (blockL P (deep + 1) (stmtS P deep s ⟨a, b, c, d, e, t, f⟩) t)
    rw [blockS, if_neg (by simp [h0])] at h ⊢
    by_cases he : (stmtS P deep s ⟨a, b, c, d, e, t, f⟩).e = 0
    · rw [if_neg (by simp [he])] at h ⊢
      by_cases he2 : (blockL P (deep + 1) (stmtS P deep s ⟨a, b, c, d, e, t, f⟩) t).e = 0
      · rw [h2 he2 h, h1 he he2, regsS]
        have : (stmtS P deep s ⟨a, b, c, d, e, t, f⟩).regs = regs1 s.regs a c := by
          show regsOf a s.regs c = regs1 s.regs a c
          unfold regs1 regsOf addR
          cases regF a <;> cases hasB s.regs c <;> simp
        rw [this]
      · rw [h3 he2] at h; exact absurd h he2
    · rw [if_pos he] at h; exact absurd h he
theorem blockL_regs (P : AP) : ∀ (deep : Int) (s : BS) (l : List TStmt), s.e = 0 → (blockL P deep s l).e = 0 → (blockL P deep s l).regs = regsL s.regs l
  | deep, s, [], h0, h => by rw [blockL, regsL]
  | deep, s, x :: xs, h0, h => by
    have h1 := blockS_regs P deep s x h0
    have h2 := blockL_regs P deep (blockS P deep s x) xs
    have h3 := blockL_err P deep (blockS P deep s x)
    rw [blockL] at h ⊢
    by_cases he : (blockS P deep s x).e = 0
    · rw [h2 he h, h1 he, regsL]
    · rw [h3 he] at h; exact absurd h he
end
/-- A program's block. -/
abbrev pObj (P : AP) : Obj := .cells #[.string P.nm, .int .i64 P.vals, .slice P.AI P.init.length P.cI, .slice P.AT P.threads.length P.cT, .int .i64 P.ask, .int .i64 P.op, .int .i64 P.th, .string P.cn, .int .i64 P.n, .slice P.AK P.kids.length P.cK] 28 (0, 0)
abbrev pAgg (P : AP) : Value := .agg #[.string P.nm, .int .i64 P.vals, .slice P.AI P.init.length P.cI, .slice P.AT P.threads.length P.cT, .int .i64 P.ask, .int .i64 P.op, .int .i64 P.th, .string P.cn, .int .i64 P.n, .slice P.AK P.kids.length P.cK]
abbrev kRegs0 : Kd (List ByteArray) := Kd.slice 9 Kd.string
/-- The walk so far: the program's box, the locations' names. -/
structure RL (W wr : World) (P : AP) (vL : Value) (locs : List ByteArray) : Prop where
  bel : Below (W.heap.size + 1) (W.alloc (pObj P)) wr
  blk : wr.heap[W.heap.size]? = some (pObj P)
  rL : Kd.R Kd.string 9 wr (W.heap.size + 1) (fun k => W.heap.size + 1 ≤ k) vL locs
theorem RL.size {W wr : World} {P : AP} {vL : Value} {locs : List ByteArray} (h : RL W wr P vL locs) : W.heap.size + 1 ≤ wr.heap.size := by
  have := h.bel.size; rw [World.size_alloc] at this; exact this
theorem RL.bel0 {W wr : World} {P : AP} {vL : Value} {locs : List ByteArray} (h : RL W wr P vL locs) : Below W.heap.size W wr :=
  (below_al (Below.refl W.heap.size W) (pObj P)).trans ⟨h.bel.os, h.bel.tape, h.bel.output, h.bel.size, fun k hk => h.bel.block k (by omega)⟩
theorem RL.step {W wr w1 : World} {P : AP} {vL : Value} {locs : List ByteArray} (h : RL W wr P vL locs) (hb : Below wr.heap.size wr w1) : RL W w1 P vL locs :=
  ⟨h.bel.trans ⟨hb.os, hb.tape, hb.output, hb.size, fun k hk => hb.block k (by have := h.size; omega)⟩, blk_below h.blk hb, Kd.R_below h.rL hb⟩
/-- A block that is new turns. -/
theorem RL.chg {W wr w1 : World} {P : AP} {vL : Value} {locs : List ByteArray} (h : RL W wr P vL locs) {y : Nat} (hc : Chg (fun k => k = y) wr w1) (hy : W.heap.size + 1 ≤ y) (hne : some y ≠ vL.ownBlock) : RL W w1 P vL locs :=
  ⟨h.bel.trans ⟨hc.os, hc.tape, hc.output, hc.size, fun k hk => hc.block k (by have := h.size; omega) (fun e => by omega)⟩, hc.heap h.blk (by omega), by
    have q := Kd.R_tight rfl h.rL
    exact Kd.R_mono (Kd.R_step q (fun k hk hlt => hc.block k hlt (fun e => hne (by rw [← e]; exact hk)))) (fun k hk => Kd.R_base h.rL k hk.symm)⟩
end Go.Proofs.Ytlhbnbckanmaiaa.K
namespace Go.Proofs.Ytlhbnbckanmaiaa.K
open Go Go.RowKit Go.Proofs.YtlhbnbckanmaiaaW.PrintWords Go.Proofs.YtlhbnbckanmaiaaW.PrintLast Go.Proofs.YtlhbnbckanmaiaaW.PrintMore Go.Proofs.Ytlhbnbckanmaiaa.PC1
set_option linter.unusedVariables false
set_option linter.unusedSimpArgs false
/-- What conditions are asked over, as it lies. -/
structure CD (w0 : World) (P : AP) (AL : Option Addr) (cL : Nat) (AR : Option Addr) (cR : Nat) : Prop where
  l : Kd.C Kd.string w0 AL P.init.length (rlocs P)
  lc : P.init.length ≤ cL
  r : Kd.C (Kd.slice 9 Kd.string) w0 AR P.threads.length (rregs P)
  rc : P.threads.length ≤ cR
  v2 : 2 ≤ P.vals
  ni : P.init.length ≤ 1000
  nt : P.threads.length ≤ 1000
  nr : ∀ l ∈ P.threads, (regsL [] l).length ≤ 1000
theorem condFs_app (P : AP) : ∀ (l m : List TCond) (e : Int), condFs P e (l ++ m) = condFs P (condFs P e l) m
  | [], m, e => by rw [List.nil_append, condFs]
  | x :: l, m, e => by rw [List.cons_append, condFs, condFs, condFs_app P l m]
def RCondOk (w0 : World) (P : AP) (AL : Option Addr) (cL : Nat) (AR : Option Addr) (cR N : Nat) : Prop :=
  ∀ (x : TCond), SizeOf.sizeOf x < N → ∀ (W : World) (AK : Option Addr) (cK : Nat), Below w0.heap.size w0 W → Kd.C kCond w0 AK x.f4.length x.f4 → x.f4.length ≤ cK → smC x →
    Calls Try.prog 30 #[.agg #[.int .i64 x.f0, .int .i64 x.f1, .string x.f2, .int .i64 x.f3, .slice AK x.f4.length cK], .int .i64 P.vals, .slice AL P.init.length cL, .slice AR P.threads.length cR] W fun r W' => r = .returned (.int .i64 (condF P 0 x)) ∧ Below W.heap.size W W'
theorem condHead_bad (P : AP) (op th : Int) (nm : ByteArray) (n : Int) (len : Nat) (h : (okC op && ((len : Int) == kidsF op)) = false) : condHead P op th nm n len 0 = 1 := by
  have e : needE (okC op && ((len : Int) == kidsF op)) 1 0 = 1 := by rw [h]; rfl
  unfold condHead askF memE regIsE noneE
  rw [e]
  split
  · rw [needE_err _ _ _ (by rw [needE_err _ _ _ (by rw [needE_err _ _ _ (by decide)]; decide), needE_err _ _ _ (by decide)]; decide), needE_err _ _ _ (by rw [needE_err _ _ _ (by decide)]; decide), needE_err _ _ _ (by decide)]
  · split
    · rw [needE_err _ _ _ (by rw [needE_err _ _ _ (by rw [needE_err _ _ _ (by decide)]; decide), needE_err _ _ _ (by decide)]; decide), needE_err _ _ _ (by rw [needE_err _ _ _ (by decide)]; decide), needE_err _ _ _ (by decide)]
    · rw [needE_err _ _ _ (by decide)]
theorem condHead_ok (P : AP) (op th : Int) (nm : ByteArray) (n : Int) (len : Nat) (h : (okC op && ((len : Int) == kidsF op)) = true) : condHead P op th nm n len 0 = askF P op th nm n 0 := by
  unfold condHead; rw [h]; rfl
theorem kidsF_eq (op : Int) : kidsF op = if op = 3 then 1 else if op = 4 then 2 else if op = 5 then 2 else 0 := by
  unfold kidsF
  by_cases h1 : op = 1
  · subst h1; rfl
  · by_cases h2 : op = 2
    · subst h2; rfl
    · rw [if_neg h1, if_neg h2]
set_option maxHeartbeats 8000000 in
set_option maxRecDepth 100000 in
theorem rcond_step (w0 : World) (P : AP) (AL : Option Addr) (cL : Nat) (AR : Option Addr) (cR : Nat) (hD : CD w0 P AL cL AR cR) (N : Nat) (ih : RCondOk w0 P AL cL AR cR N) : RCondOk w0 P AL cL AR cR (N + 1) := by
  rintro ⟨op, th, nm, n, kids⟩ hN W AK cK hb hC hlk hsm
  have HI := Aside0.mk ih
  have HD := Aside0.mk hD
  have hm := (smC_def _).1 hsm
  have HA := Aside0.mk (And.intro hb (And.intro hC (And.intro hlk (And.intro hN hm))))
  have hk1 : kids.length ≤ 1000 := hm.2.1
  clear ih hD hN hb hC hlk hsm hm
  show Calls Try.prog 30 #[.agg #[.int .i64 op, .int .i64 th, .string nm, .int .i64 n, .slice AK kids.length cK], .int .i64 P.vals, .slice AL P.init.length cL, .slice AR P.threads.length cR] W _
  go_enter Try.func30, Try.ntmps30
  have HX := Aside0.mk (blk_new W (.cells #[.int .i64 op, .int .i64 th, .string nm, .int .i64 n, .slice AK kids.length cK] 26 (0, 0)))
  have HB := Aside0.mk (below_al (Below.refl W.heap.size W) (.cells #[.int .i64 op, .int .i64 th, .string nm, .int .i64 n, .slice AK kids.length cK] 26 (0, 0)))
  go_upto_region 1 with fail
  generalize World.alloc W _ = w1 at HX HB ⊢
  have x0 := (blk_cell HX.out 0).trans rfl
  go_upto_block 0 with fail
  go_cut [9] (fun v9 wx => v9 = .int .i64 (kidsF op) ∧ wx = w1)
  case first =>
    by_cases o3 : op = 3
    · subst o3
      go_wp2
      go_meet
      exact ⟨rfl, rfl⟩
    have g3 : (op == 3) = false := beq_eq_false_iff_ne.2 o3
    by_cases o4 : op = 4
    · subst o4
      go_wp2
      go_meet
      exact ⟨rfl, rfl⟩
    have g4 : (op == 4) = false := beq_eq_false_iff_ne.2 o4
    by_cases o5 : op = 5
    · subst o5
      go_wp2
      go_meet
      exact ⟨rfl, rfl⟩
    have g5 : (op == 5) = false := beq_eq_false_iff_ne.2 o5
    have HKE := Aside0.mk (show kidsF op = 0 from by rw [kidsF_eq, if_neg o3, if_neg o4, if_neg o5])
    clear o3 o4 o5
    go_wp2
    go_meet
    exact ⟨by rw [HKE.out], rfl⟩
  case rest =>
  obtain ⟨rfl, rfl⟩ := hcut
  obtain ⟨kf, hkf⟩ : ∃ kf, kidsF op = kf := ⟨_, rfl⟩
  rw [hkf]
  have HKF := Aside0.mk hkf
  clear hkf
  have x4 := (blk_cell HX.out 4).trans rfl
  by_cases ho : (okC op && ((kids.length : Int) == kf)) = true
  case neg =>
    have HM := Aside0.mk (show condF P 0 ⟨op, th, nm, n, kids⟩ = 1 from by
      rw [condF_zero]
      show condFs P (condHead P op th nm n kids.length 0) kids = 1
      rw [condHead_bad P op th nm n kids.length (by rw [HKF.out]; simpa using ho), condFs_err _ _ (by decide)])
    by_cases a : op < 1
    · have e1 : decide (op < 1) = true := decide_eq_true a
      clear ho a
      go_wp2
      go_ret
      exact ⟨by rw [HM.out]; rfl, HB.out⟩
    have e1 : decide (op < 1) = false := decide_eq_false a
    by_cases b : 5 < op
    · have e2 : decide (5 < op) = true := decide_eq_true b
      clear ho a b
      go_wp2
      go_ret
      exact ⟨by rw [HM.out]; rfl, HB.out⟩
    have e2 : decide (5 < op) = false := decide_eq_false b
    have e3 : ((kids.length : Int) != kf) = true := by
      rw [show okC op = true from by unfold okC; rw [decide_eq_true (by omega), decide_eq_true (by omega)]; rfl, Bool.true_and] at ho
      simpa using ho
    clear ho a b
    go_wp2
    go_ret
    exact ⟨by rw [HM.out]; rfl, HB.out⟩
  rw [Bool.and_eq_true] at ho
  have hoc : 1 ≤ op ∧ op ≤ 5 := by
    have := ho.1
    unfold okC at this
    rw [Bool.and_eq_true, decide_eq_true_eq, decide_eq_true_eq] at this
    exact this
  have e1 : decide (op < 1) = false := decide_eq_false (by omega)
  have e2 : decide (5 < op) = false := decide_eq_false (by omega)
  have e3 : ((kids.length : Int) != kf) = false := by have := ho.2; simpa using this
  have HOK := Aside0.mk (show condF P 0 ⟨op, th, nm, n, kids⟩ = condFs P (askF P op th nm n 0) kids from by
    rw [condF_zero]
    show condFs P (condHead P op th nm n kids.length 0) kids = _
    rw [condHead_ok P op th nm n kids.length (by rw [HKF.out, ho.1, ho.2]; rfl)])
  have HOP := Aside0.mk hoc
  clear ho hoc
  have x1 := (blk_cell HX.out 1).trans rfl
  have x2 := (blk_cell HX.out 2).trans rfl
  have x3 := (blk_cell HX.out 3).trans rfl
  go_upto_block 1 with fail
  go_cut [] (fun wx => Aside0 (Below W.heap.size W wx ∧ wx.heap[W.heap.size]? = some (.cells #[.int .i64 op, .int .i64 th, .string nm, .int .i64 n, .slice AK kids.length cK] 26 (0, 0)) ∧ askF P op th nm n 0 = needE (valB P.vals n) 1 0))
  case first =>
    clear e1 e2 e3 x4
    by_cases o1 : op = 1
    · subst o1
      have HAK := Aside0.mk (show askF P 1 th nm n 0 = needE (valB P.vals n) 1 (needE (locB P.init nm) 4 (needE (th == 0) 1 0)) from rfl)
      by_cases t0 : th = 0
      case neg =>
        have g1 : (th != 0) = true := by simpa using t0
        have HM := Aside0.mk (show condF P 0 ⟨1, th, nm, n, kids⟩ = 1 from by
          rw [HOK.out, HAK.out, need_bad0 (th == 0) 1 (beq_eq_false_iff_ne.2 t0), needE_err (locB P.init nm) 4 1 (by decide), needE_err (valB P.vals n) 1 1 (by decide), condFs_err _ _ (by decide)])
        clear t0
        go_wp2
        go_ret
        exact ⟨by rw [HM.out]; rfl, HB.out⟩
      have g1 : (th != 0) = false := by rw [t0]; rfl
      have HAK2 := Aside0.mk (show askF P 1 th nm n 0 = needE (valB P.vals n) 1 (needE (locB P.init nm) 4 0) from by rw [HAK.out, need0 (th == 0) 1 (beq_iff_eq.2 t0)])
      clear t0
      go_wp2_with fail
      have hQ := witheref9_In.calls 1002 AL cL (rlocs P) nm (hasB (rlocs P) nm) wc (by have := Kd.C_below HD.out.l (below_step HA.out.1 HB.out); rwa [show P.init.length = (rlocs P).length from (List.length_map _).symm] at this) (by rw [List.length_map]; exact HD.out.lc) (in_str _ _ (by rw [List.length_map]; exact HD.out.ni))
      rw [List.length_map] at hQ
      with_reducible refine hQ.mono ?_
      clear hQ
      rintro e w3 ⟨rfl, hd3⟩
      have HB3 := Aside0.mk (below_step HB.out (drawn_below hd3))
      have HX3 := Aside0.mk (blk_below HX.out (drawn_below hd3))
      clear hd3
      rw [locs_hasB]
      cases hl : locB P.init nm with
      | false =>
        have HM := Aside0.mk (show condF P 0 ⟨1, th, nm, n, kids⟩ = 4 from by
          rw [HOK.out, HAK2.out, need_bad0 (locB P.init nm) 4 hl, needE_err _ _ _ (by decide), condFs_err _ _ (by decide)])
        clear hl
        go_wp2
        go_ret
        exact ⟨by rw [HM.out]; rfl, HB3.out⟩
      | true =>
        have HZ := Aside0.mk (show askF P 1 th nm n 0 = needE (valB P.vals n) 1 0 from by rw [HAK2.out, hl]; rfl)
        clear hl
        go_wp2
        go_meet
        exact ⟨HB3.out, HX3.out, HZ.out⟩
    have g1 : (op == 1) = false := beq_eq_false_iff_ne.2 o1
    by_cases o2 : op = 2
    · subst o2
      have HAK := Aside0.mk (show askF P 2 th nm n 0 = needE (valB P.vals n) 1 (needE (thereB P th && hasB (regsL [] (P.th1 th)) nm) 4 (needE (thereB P th) 1 0)) from rfl)
      by_cases t0 : th < 0
      · have h0 : decide (th < 0) = true := decide_eq_true t0
        have HM := Aside0.mk (show condF P 0 ⟨2, th, nm, n, kids⟩ = 1 from by
          rw [HOK.out, HAK.out, need_bad0 (thereB P th) 1 (by unfold thereB; rw [decide_eq_false (by omega)]; rfl), needE_err (thereB P th && hasB (regsL [] (P.th1 th)) nm) 4 1 (by decide), needE_err (valB P.vals n) 1 1 (by decide), condFs_err _ _ (by decide)])
        clear t0 o1
        go_wp2
        go_ret
        exact ⟨by rw [HM.out]; rfl, HB.out⟩
      have h0 : decide (th < 0) = false := decide_eq_false t0
      by_cases t1 : (P.threads.length : Int) ≤ th
      · have h1 : decide ((P.threads.length : Int) ≤ th) = true := decide_eq_true t1
        have HM := Aside0.mk (show condF P 0 ⟨2, th, nm, n, kids⟩ = 1 from by
          rw [HOK.out, HAK.out, need_bad0 (thereB P th) 1 (by unfold thereB; rw [decide_eq_false (show ¬ th < (P.threads.length : Int) by omega), Bool.and_false]), needE_err (thereB P th && hasB (regsL [] (P.th1 th)) nm) 4 1 (by decide), needE_err (valB P.vals n) 1 1 (by decide), condFs_err _ _ (by decide)])
        clear t0 t1 o1
        go_wp2
        go_ret
        exact ⟨by rw [HM.out]; rfl, HB.out⟩
      have h1 : decide ((P.threads.length : Int) ≤ th) = false := decide_eq_false t1
      obtain ⟨t, rfl⟩ : ∃ t : Nat, th = (t : Int) := ⟨th.toNat, by omega⟩
      have htl : t < P.threads.length := by omega
      have HAK2 := Aside0.mk (show askF P 2 (t : Int) nm n 0 = needE (valB P.vals n) 1 (needE (hasB (regsL [] (P.th1 t)) nm) 4 0) from by
        have ht : thereB P (t : Int) = true := by unfold thereB; rw [decide_eq_true (by omega), decide_eq_true (by omega)]; rfl
        rw [HAK.out, ht]; rfl)
      obtain ⟨ad, cc, hA, hcl, hK, hcc⟩ := Kd.C_get (Kd.C_below HD.out.r (below_step HA.out.1 HB.out)) ([] : List ByteArray) (t : Int) (by omega) (by omega)
      have hgd : (rregs P).getD (t : Int).toNat [] = regsL [] (P.th1 t) := rregs_at P t (by omega) (by omega)
      rw [hgd] at hK
      obtain ⟨A2, c2, rfl, hl2, hC2⟩ := hK
      have hrow : wc.cell? (ad.add t) = some (.slice A2 (regsL [] (P.th1 t)).length c2) := by have := hcc 0 _ rfl; simpa [Kd.slice] using this
      have HRR := Aside0.mk (show (regsL [] (P.th1 (t : Int))).length ≤ 1000 from by
        refine HD.out.nr _ ?_
        unfold AP.th1 rdOf
        rw [List.getD_eq_getElem?_getD, List.getElem?_eq_getElem (show (t : Int).toNat < P.threads.length by omega)]
        exact List.getElem_mem _)
      have HC2 := Aside0.mk (And.intro hC2 hl2)
      have i0 : (0 : Int) ≤ (t : Int) := by omega
      have i1 : (t : Int) < (P.threads.length : Int) := by omega
      generalize regsL [] (P.th1 (t : Int)) = RT at hrow HRR HC2 HAK2
      subst hA
      clear hcc hcl hgd hl2 hC2 t0 t1 o1
      go_upto_region 21 with fail
      refine wp_region_any (by kernel_rfl) ?_
      have HBd := Aside0.mk (below_step HB.out (below_drew (Below.refl _ _)))
      have HXd := Aside0.mk (blk_below HX.out (below_drew (Below.refl _ _)))
      have hrd := pw_cell_below (below_drew (Below.refl _ _)) hrow
      have HCd := Aside0.mk (show Kd.C Kd.string wc.drew A2 RT.length RT from Kd.C_below HC2.out.1 (below_drew (Below.refl _ _)))
      change wpAny _ _ _ _ _ _ _ wc.drew
      generalize wc.drew = wD at HBd HXd hrd HCd ⊢
      have x1 := (blk_cell HXd.out 1).trans rfl
      have x2 := (blk_cell HXd.out 2).trans rfl
      refine wpAny_vals2 rfl (by kernel_rfl) [(71, Value.slice (some ad) P.threads.length cR), (72, Value.pointer (some (⟨W.heap.size, 1, none⟩ : Addr))), (73, Value.int .i64 (t : Int)), (74, Value.pointer (some (ad.add t))), (75, Value.slice A2 RT.length c2), (76, Value.pointer (some (⟨W.heap.size, 2, none⟩ : Addr))), (77, Value.string nm), (78, Value.bool (hasB RT nm)), (79, Value.bool (!hasB RT nm))] [71, 72, 73, 74, 75, 76, 77, 78, 79] rfl rfl (by decide) 108 rfl (by decide) ?_ ?_ _ _ (by simp) (by decide) (no_flag 9)
      · intro i o p r0 a w ho hp hr0 hsl hv hb K hK
        have hi : i < 9 := (Array.getElem?_eq_some_iff.1 ho).1
        match i, hi with
        | 0, _ =>
          obtain rfl := Option.some.inj ho
          obtain rfl := Option.some.inj hp
          obtain rfl := Option.some.inj hr0
          refine want_yes rfl ?_
          have e := (hsl 3 rfl).trans (rfl : _ = Value.slice (some ad) P.threads.length cR)
          unfold Oper.wp; simp [execOp, e, go_sem]; exact hK _ (Below.refl _ _)
        | 1, _ =>
          obtain rfl := Option.some.inj ho
          obtain rfl := Option.some.inj hp
          obtain rfl := Option.some.inj hr0
          refine want_yes rfl ?_
          have e := (hsl 4 rfl).trans (rfl : _ = Value.pointer (some (⟨W.heap.size, 0, none⟩ : Addr)))
          unfold Oper.wp; simp [execOp, e, go_sem]; exact hK _ (Below.refl _ _)
        | 2, _ =>
          obtain rfl := Option.some.inj ho
          obtain rfl := Option.some.inj hp
          obtain rfl := Option.some.inj hr0
          refine want_yes rfl ?_
          have e := hv 1 (of_decide_eq_true (by kernel_rfl)) _ rfl
          have c := pw_cell_below hb x1
          unfold Oper.wp; simp [execOp, e, c, go_sem]; exact hK _ (Below.refl _ _)
        | 3, _ =>
          obtain rfl := Option.some.inj ho
          obtain rfl := Option.some.inj hp
          obtain rfl := Option.some.inj hr0
          refine want_yes rfl ?_
          have e0 := hv 0 (of_decide_eq_true (by kernel_rfl)) _ rfl
          have e1 := hv 2 (of_decide_eq_true (by kernel_rfl)) _ rfl
          unfold Oper.wp; simp [execOp, e0, e1, i0, i1, htl, go_sem]; exact hK _ (Below.refl _ _)
        | 4, _ =>
          obtain rfl := Option.some.inj ho
          obtain rfl := Option.some.inj hp
          obtain rfl := Option.some.inj hr0
          refine want_yes rfl ?_
          have e := hv 3 (of_decide_eq_true (by kernel_rfl)) _ rfl
          have c := pw_cell_below hb hrd
          unfold Oper.wp; simp [execOp, e, c, go_sem]; exact hK _ (Below.refl _ _)
        | 5, _ =>
          obtain rfl := Option.some.inj ho
          obtain rfl := Option.some.inj hp
          obtain rfl := Option.some.inj hr0
          refine want_yes rfl ?_
          have e := (hsl 4 rfl).trans (rfl : _ = Value.pointer (some (⟨W.heap.size, 0, none⟩ : Addr)))
          unfold Oper.wp; simp [execOp, e, go_sem]; exact hK _ (Below.refl _ _)
        | 6, _ =>
          obtain rfl := Option.some.inj ho
          obtain rfl := Option.some.inj hp
          obtain rfl := Option.some.inj hr0
          refine want_yes rfl ?_
          have e := hv 5 (of_decide_eq_true (by kernel_rfl)) _ rfl
          have c := pw_cell_below hb x2
          unfold Oper.wp; simp [execOp, e, c, go_sem]; exact hK _ (Below.refl _ _)
        | 7, _ =>
          obtain rfl := Option.some.inj ho
          obtain rfl := Option.some.inj hp
          obtain rfl := Option.some.inj hr0
          have e := hv 4 (of_decide_eq_true (by kernel_rfl)) _ rfl
          have e2 := hv 6 (of_decide_eq_true (by kernel_rfl)) _ rfl
          refine goes_ (N := some 78) Try.func27 (by kernel_rfl) rfl #[.slice A2 RT.length c2, .string nm] (by simp [Region.wanted]) rfl rfl (by simp [Act.eval]; exact ⟨e, e2⟩) ?_
          refine (witheref9_In.calls 1002 A2 c2 RT nm (hasB RT nm) w (Kd.C_below HCd.out hb) HC2.out.2 (in_str _ _ HRR.out)).mono ?_
          rintro _ w5 ⟨rfl, hd5⟩
          exact ⟨_, rfl, hK _ (drawn_below hd5)⟩
        | 8, _ =>
          obtain rfl := Option.some.inj ho
          obtain rfl := Option.some.inj hp
          obtain rfl := Option.some.inj hr0
          refine want_yes rfl ?_
          have e := hv 7 (of_decide_eq_true (by kernel_rfl)) _ rfl
          unfold Oper.wp; simp [execOp, e, go_sem]; exact hK _ (Below.refl _ _)
      intro w5 hb5
      simp only [fill, List.setIfInBounds_toArray, List.set_cons_zero, List.set_cons_succ]
      have HB5 := Aside0.mk (below_step HBd.out hb5)
      have HX5 := Aside0.mk (blk_below HXd.out hb5)
      clear hb5 hrd x1 x2 hrow
      cases hl : hasB RT nm with
      | false =>
        have HM := Aside0.mk (show condF P 0 ⟨2, (t : Int), nm, n, kids⟩ = 4 from by
          rw [HOK.out, HAK2.out, hl, need_bad0 false 4 rfl, needE_err _ _ _ (by decide), condFs_err _ _ (by decide)])
        clear hl
        go_wp2
        go_ret
        exact ⟨by rw [HM.out]; rfl, HB5.out⟩
      | true =>
        have HZ := Aside0.mk (show askF P 2 (t : Int) nm n 0 = needE (valB P.vals n) 1 0 from by rw [HAK2.out, hl]; rfl)
        clear hl
        go_wp2
        go_meet
        exact ⟨HB5.out, HX5.out, HZ.out⟩
    have g2 : (op == 2) = false := beq_eq_false_iff_ne.2 o2
    have HAK := Aside0.mk (show askF P op th nm n 0 = needE ((th == 0) && (nm.toList == []) && (n == 0)) 1 0 from by unfold askF; rw [if_neg o1, if_neg o2]; rfl)
    by_cases t0 : th = 0
    case neg =>
      have h1 : (th != 0) = true := by simpa using t0
      have HM := Aside0.mk (show condF P 0 ⟨op, th, nm, n, kids⟩ = 1 from by
        rw [HOK.out, HAK.out, need_bad0 _ 1 (by rw [beq_eq_false_iff_ne.2 t0]; rfl), condFs_err _ _ (by decide)])
      clear t0 o1 o2
      go_wp2
      go_ret
      exact ⟨by rw [HM.out]; rfl, HB.out⟩
    have h1 : (th != 0) = false := by rw [t0]; rfl
    by_cases m0 : nm.toList = []
    case neg =>
      have h2 : (nm.toList == []) = false := beq_eq_false_iff_ne.2 m0
      have HM := Aside0.mk (show condF P 0 ⟨op, th, nm, n, kids⟩ = 1 from by
        rw [HOK.out, HAK.out, need_bad0 _ 1 (by rw [h2]; simp), condFs_err _ _ (by decide)])
      clear t0 o1 o2 m0
      go_wp2
      go_ret
      exact ⟨by rw [HM.out]; rfl, HB.out⟩
    have h2 : (nm.toList == []) = true := beq_iff_eq.2 m0
    by_cases n0 : n = 0
    case neg =>
      have h3 : (n != 0) = true := by simpa using n0
      have HM := Aside0.mk (show condF P 0 ⟨op, th, nm, n, kids⟩ = 1 from by
        rw [HOK.out, HAK.out, need_bad0 _ 1 (by rw [beq_eq_false_iff_ne.2 n0, Bool.and_false]), condFs_err _ _ (by decide)])
      clear t0 o1 o2 m0 n0
      go_wp2
      go_ret
      exact ⟨by rw [HM.out]; rfl, HB.out⟩
    have h3 : (n != 0) = false := by rw [n0]; rfl
    have HZ := Aside0.mk (show askF P op th nm n 0 = needE (valB P.vals n) 1 0 from by
      have := HD.out.v2
      rw [HAK.out, need0 _ 1 (by rw [t0, h2, n0]; rfl), need0 _ 1 (by rw [n0]; unfold valB; rw [decide_eq_true (by omega), decide_eq_true (by omega)]; rfl)])
    clear t0 o1 o2 m0 n0
    go_wp2
    go_meet
    exact ⟨HB.out, HX.out, HZ.out⟩
  case rest =>
  have HC := hcut
  clear hcut x0 x1 x2 x3 x4 e1 e2 e3
  have x3 := (blk_cell HC.out.2.1 3).trans rfl
  by_cases v0 : n < 0
  · have g0 : decide (n < 0) = true := decide_eq_true v0
    have HM := Aside0.mk (show condF P 0 ⟨op, th, nm, n, kids⟩ = 1 from by
      rw [HOK.out, HC.out.2.2, need_bad0 (valB P.vals n) 1 (by unfold valB; rw [decide_eq_false (show ¬ 0 ≤ n by omega)]; rfl), condFs_err _ _ (by decide)])
    clear v0
    go_wp2
    go_ret
    exact ⟨by rw [HM.out]; rfl, HC.out.1⟩
  have g0 : decide (n < 0) = false := decide_eq_false v0
  by_cases v1 : P.vals ≤ n
  · have g1 : decide (P.vals ≤ n) = true := decide_eq_true v1
    have HM := Aside0.mk (show condF P 0 ⟨op, th, nm, n, kids⟩ = 1 from by
      rw [HOK.out, HC.out.2.2, need_bad0 (valB P.vals n) 1 (by unfold valB; rw [decide_eq_false (show ¬ n < P.vals by omega), Bool.and_false]), condFs_err _ _ (by decide)])
    clear v0 v1
    go_wp2
    go_ret
    exact ⟨by rw [HM.out]; rfl, HC.out.1⟩
  have g1 : decide (P.vals ≤ n) = false := decide_eq_false v1
  have HZ := Aside0.mk (show condF P 0 ⟨op, th, nm, n, kids⟩ = condFs P 0 kids from by
    rw [HOK.out, HC.out.2.2, need0 (valB P.vals n) 1 (by unfold valB; rw [decide_eq_true (by omega), decide_eq_true (by omega)]; rfl)])
  clear v0 v1
  go_wp2_with fail
  go_loopw [10] (fun v10 wr => ∃ i : Nat, i ≤ kids.length ∧ v10 = .int .i64 i ∧ Aside0 (Below W.heap.size W wr ∧ wr.heap[W.heap.size]? = some (.cells #[.int .i64 op, .int .i64 th, .string nm, .int .i64 n, .slice AK kids.length cK] 26 (0, 0)) ∧ condFs P 0 (kids.take i) = 0)) (fun v10 _ => kids.length - (intOf v10).toNat)
  case atStart => exact ⟨0, Nat.zero_le _, rfl, ⟨HC.out.1, HC.out.2.1, by rw [List.take_zero, condFs]⟩⟩
  case round =>
    obtain ⟨i, hi, rfl, HS⟩ := hrel
    clear HC x3 g0 g1
    have x4 := (blk_cell HS.out.2.1 4).trans rfl
    by_cases hlt : i < kids.length
    · have e1 : decide ((i : Int) < (kids.length : Int)) = true := decide_eq_true (by omega)
      have e2 : decide (i < kids.length) = true := decide_eq_true hlt
      obtain ⟨ad, A4, c4, hA, h0, h1, h2, h3, h4, hl4, hk4⟩ := at_T26 HA.out.2.1 (i : Int) (by omega) (by omega)
      have hT := condFs_take P kids 0 i hlt
      rw [hA] at x4
      clear hA
      rw [Int.toNat_natCast] at h0 h1 h2 h3 h4
      rw [rdC_eq kids i hlt] at h0 h1 h2 h3 h4 hk4 hl4
      replace h0 := pw_cell_below (below_step HA.out.1 HS.out.1) h0
      replace h1 := pw_cell_below (below_step HA.out.1 HS.out.1) h1
      replace h2 := pw_cell_below (below_step HA.out.1 HS.out.1) h2
      replace h3 := pw_cell_below (below_step HA.out.1 HS.out.1) h3
      replace h4 := pw_cell_below (below_step HA.out.1 HS.out.1) h4
      have hsm := And.intro (smCs_get kids i hlt HA.out.2.2.2.2.2.2) (sizeC kids i hlt op th n nm)
      generalize kids[i] = y at h0 h1 h2 h3 h4 hk4 hl4 hT hsm
      have HK := Aside0.mk (And.intro hT (And.intro hsm (And.intro hk4 (And.intro hl4 hlt))))
      have hi0 : (0 : Int) ≤ (i : Int) := by omega
      have hi1 : (i : Int) < (kids.length : Int) := by omega
      clear hT hsm hk4 hl4 hlt
      go_wp2_with fail
      have hN := HA.out.2.2.2.1
      refine (HI.out y (by have := HK.out.2.1.2; omega) wr A4 c4 (below_step HA.out.1 HS.out.1) HK.out.2.2.1 HK.out.2.2.2.1 HK.out.2.1.1).mono ?_
      rintro e w5 ⟨rfl, hb5⟩
      have HS5 := Aside0.mk (And.intro (below_step HS.out.1 hb5) (blk_below HS.out.2.1 hb5))
      have HT := Aside0.mk (show condFs P 0 (kids.take (i + 1)) = condF P 0 y from by rw [HK.out.1, HS.out.2.2])
      clear hb5 hN h0 h1 h2 h3 h4 x4
      by_cases he : condF P 0 y = 0
      · have HT2 := Aside0.mk (HT.out.trans he)
        rw [he]
        clear he
        go_wp2
        go_roundw
        case rel => exact ⟨i + 1, HK.out.2.2.2.2, by go_num, ⟨HS5.out.1, HS5.out.2, HT2.out⟩⟩
        case measure => have := HK.out.2.2.2.2; simp [intOf]; omega
      · have q1 : (condF P 0 y != 0) = true := by simpa using he
        have HM := Aside0.mk (show condF P 0 ⟨op, th, nm, n, kids⟩ = condF P 0 y from by
          rw [HZ.out]
          have h1 : condFs P 0 kids = condFs P (condFs P 0 (kids.take (i + 1))) (kids.drop (i + 1)) := by
            conv => lhs; rw [← List.take_append_drop (i + 1) kids]
            exact condFs_app P _ _ _
          rw [h1, HT.out, condFs_err _ _ he])
        clear he
        go_wp2
        go_ret
        exact ⟨by rw [HM.out]; rfl, HS5.out.1⟩
    · have e1 : decide ((i : Int) < (kids.length : Int)) = false := decide_eq_false (by omega)
      have e2 : decide (i < kids.length) = false := decide_eq_false hlt
      obtain rfl : i = kids.length := by omega
      have HM := Aside0.mk (show condF P 0 ⟨op, th, nm, n, kids⟩ = 0 from by rw [HZ.out]; have := HS.out.2.2; rwa [List.take_length] at this)
      go_wp2
      go_ret
      exact ⟨by rw [HM.out]; rfl, HS.out.1⟩
theorem rcond_ok (w0 : World) (P : AP) (AL : Option Addr) (cL : Nat) (AR : Option Addr) (cR : Nat) (hD : CD w0 P AL cL AR cR) : ∀ N, RCondOk w0 P AL cL AR cR N
  | 0 => fun x hN => by omega
  | N + 1 => rcond_step w0 P AL cL AR cR hD N (rcond_ok w0 P AL cL AR cR hD N)
end Go.Proofs.Ytlhbnbckanmaiaa.K
namespace Go.Proofs.Ytlhbnbckanmaiaa.K
open Go Go.RowKit Go.Proofs.YtlhbnbckanmaiaaW.PrintWords Go.Proofs.YtlhbnbckanmaiaaW.PrintLast Go.Proofs.YtlhbnbckanmaiaaW.PrintMore Go.Proofs.Ytlhbnbckanmaiaa.PC1
set_option linter.unusedVariables false
set_option linter.unusedSimpArgs false
theorem headE_1 (P : AP) (h : nameB P.nm = false) : headE P 0 = 4 := by
  unfold headE; rw [need_bad0 _ 4 h, needE_err _ 1 4 (by decide), needE_err _ 3 4 (by decide), needE_err _ 1 4 (by decide), needE_err _ 3 4 (by decide)]
theorem headE_2 (P : AP) (h1 : nameB P.nm = true) (h : (decide (2 ≤ P.vals) && decide (P.vals ≤ 4)) = false) : headE P 0 = 1 := by
  unfold headE; rw [need0 _ 4 h1, need_bad0 _ 1 h, needE_err _ 3 1 (by decide), needE_err _ 1 1 (by decide), needE_err _ 3 1 (by decide)]
theorem headE_3 (P : AP) (h1 : nameB P.nm = true) (h2 : (decide (2 ≤ P.vals) && decide (P.vals ≤ 4)) = true) (h : ¬ (P.init.length : Int) ≤ 4) : headE P 0 = 3 := by
  unfold headE; rw [need0 _ 4 h1, need0 _ 1 h2, need_bad0 _ 3 (decide_eq_false h), needE_err _ 1 3 (by decide), needE_err _ 3 3 (by decide)]
theorem headE_4 (P : AP) (h1 : nameB P.nm = true) (h2 : (decide (2 ≤ P.vals) && decide (P.vals ≤ 4)) = true) (h3 : (P.init.length : Int) ≤ 4) (h : ¬ 0 < P.threads.length) : headE P 0 = 1 := by
  unfold headE; rw [need0 _ 4 h1, need0 _ 1 h2, need0 _ 3 (decide_eq_true h3), need_bad0 _ 1 (decide_eq_false h), needE_err _ 3 1 (by decide)]
theorem headE_5 (P : AP) (h1 : nameB P.nm = true) (h2 : (decide (2 ≤ P.vals) && decide (P.vals ≤ 4)) = true) (h3 : (P.init.length : Int) ≤ 4) (h4 : 0 < P.threads.length) : headE P 0 = needE (decide ((P.threads.length : Int) ≤ 4)) 3 0 := by
  unfold headE; rw [need0 _ 4 h1, need0 _ 1 h2, need0 _ 3 (decide_eq_true h3), need0 _ 1 (decide_eq_true h4)]
set_option maxHeartbeats 8000000 in
set_option maxRecDepth 100000 in
theorem rhead_any (W : World) (P : AP) (hnm : P.nm.size ≤ 1000) (hi : P.init.length ≤ 1000) (ht : P.threads.length ≤ 1000) :
    Calls Try.prog 25 #[pAgg P] W fun r W' => r = .returned (.int .i64 (headE P 0)) ∧ Below W.heap.size W W' := by
  go_enter Try.func25, Try.ntmps25
  have HX := Aside0.mk (blk_new W (pObj P))
  have HB := Aside0.mk (below_al (Below.refl W.heap.size W) (pObj P))
  go_upto_region 1 with fail
  generalize World.alloc W _ = w1 at HX HB ⊢
  have x0 := (blk_cell HX.out 0).trans rfl
  go_wp2_with fail
  refine (witheref6_Name.calls 1003 P.nm _ _ (refName_eq _ hnm)).mono ?_
  rintro e w2 ⟨rfl, hb2⟩
  have HB2 := Aside0.mk (below_step HB.out hb2)
  have HX2 := Aside0.mk (blk_below HX.out hb2)
  clear hb2 x0 HX HB
  have x1 := (blk_cell HX2.out 1).trans rfl
  have x2 := (blk_cell HX2.out 2).trans rfl
  have x3 := (blk_cell HX2.out 3).trans rfl
  cases hn : nameB P.nm with
  | false =>
    have HM := Aside0.mk (headE_1 P hn)
    clear hn
    go_wp2
    go_ret
    exact ⟨by rw [HM.out]; rfl, HB2.out⟩
  | true =>
  by_cases v0 : P.vals < 2
  · have e0 : decide (P.vals < 2) = true := decide_eq_true v0
    have HM := Aside0.mk (headE_2 P hn (by rw [decide_eq_false (show ¬ 2 ≤ P.vals by omega)]; rfl))
    clear hn v0
    go_wp2
    go_ret
    exact ⟨by rw [HM.out]; rfl, HB2.out⟩
  have e0 : decide (P.vals < 2) = false := decide_eq_false v0
  by_cases v1 : 4 < P.vals
  · have e1 : decide (4 < P.vals) = true := decide_eq_true v1
    have HM := Aside0.mk (headE_2 P hn (by rw [decide_eq_false (show ¬ P.vals ≤ 4 by omega), Bool.and_false]))
    clear hn v0 v1
    go_wp2
    go_ret
    exact ⟨by rw [HM.out]; rfl, HB2.out⟩
  have e1 : decide (4 < P.vals) = false := decide_eq_false v1
  have hv : (decide (2 ≤ P.vals) && decide (P.vals ≤ 4)) = true := by rw [decide_eq_true (by omega), decide_eq_true (by omega)]; rfl
  have HV := Aside0.mk hv
  have HN := Aside0.mk hn
  clear hn v0 v1 hv
  by_cases i1 : 4 < (P.init.length : Int)
  · have e2 : decide (4 < (P.init.length : Int)) = true := decide_eq_true i1
    have e3 : decide (4 < P.init.length) = true := decide_eq_true (by omega)
    have HM := Aside0.mk (headE_3 P HN.out HV.out (by omega))
    clear i1
    go_wp2
    go_ret
    exact ⟨by rw [HM.out]; rfl, HB2.out⟩
  have e2 : decide (4 < (P.init.length : Int)) = false := decide_eq_false i1
  have e3 : decide (4 < P.init.length) = false := decide_eq_false (by omega)
  have HI4 := Aside0.mk (show (P.init.length : Int) ≤ 4 by omega)
  clear i1
  by_cases t0 : P.threads.length = 0
  · have e4 : ((P.threads.length : Int) == 0) = true := by simp [t0]
    have HM := Aside0.mk (headE_4 P HN.out HV.out HI4.out (by omega))
    clear t0
    go_wp2
    go_ret
    exact ⟨by rw [HM.out]; rfl, HB2.out⟩
  have e4 : ((P.threads.length : Int) == 0) = false := beq_eq_false_iff_ne.2 (by omega)
  have HM := Aside0.mk (headE_5 P HN.out HV.out HI4.out (by omega))
  by_cases t1 : 4 < (P.threads.length : Int)
  · have e5 : decide (4 < (P.threads.length : Int)) = true := decide_eq_true t1
    have e6 : decide (4 < P.threads.length) = true := decide_eq_true (by omega)
    have HM2 := Aside0.mk (HM.out.trans (need_bad0 _ 3 (decide_eq_false (by omega))))
    clear t0 t1
    go_wp2
    go_ret
    exact ⟨by rw [HM2.out]; rfl, HB2.out⟩
  · have e5 : decide (4 < (P.threads.length : Int)) = false := decide_eq_false t1
    have e6 : decide (4 < P.threads.length) = false := decide_eq_false (by omega)
    have HM2 := Aside0.mk (HM.out.trans (need0 _ 3 (decide_eq_true (by omega))))
    clear t0 t1
    go_wp2
    go_ret
    exact ⟨by rw [HM2.out]; rfl, HB2.out⟩
end Go.Proofs.Ytlhbnbckanmaiaa.K
