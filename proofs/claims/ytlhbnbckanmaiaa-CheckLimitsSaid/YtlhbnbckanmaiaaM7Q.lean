/- A text of a claim (ours): CheckLimits: a statement appended, whatever order that is done in; conditions: none of ours. -/
import Derived.Test.YtlhbnbckanmaiaaM6Q
import Derived.Test.YtlhbnbckanmaiaaPC2x2Q
namespace Go.Proofs.Ytlhbnbckanmaiaa.K
open Go Go.RowKit Go.Proofs.YtlhbnbckanmaiaaW.PrintWords Go.Proofs.YtlhbnbckanmaiaaW.PrintLast Go.Proofs.YtlhbnbckanmaiaaW.PrintMore Go.Proofs.Ytlhbnbckanmaiaa.PC1
set_option linter.unusedVariables false
set_option linter.unusedSimpArgs false
abbrev kThr : Kd (List TStmt) := Kd.slice 55 kStmt
abbrev limBlk (a : Nat) (T : Value) : Obj := .cells #[.string ⟨#[97]⟩, .int .i64 2, .slice (some ⟨a, 0, none⟩) 1 1, T, .int .i64 1, .int .i64 1, .int .i64 0, .string ⟨#[120]⟩, .int .i64 0, .slice none 0 0] 28 (0, 0)
/-- The program of the statement, whatever its threads are. -/
structure LW (W w : World) (a pb base : Nat) (T : Value) : Prop where
  bel : Below W.heap.size W w
  ha : W.heap.size ≤ a
  ab : a < base
  hp : W.heap.size ≤ pb
  pbb : pb < base
  ne : a ≠ pb
  sz : base ≤ w.heap.size
  ia : w.heap[a]? = some (.cells #[.string ⟨#[120]⟩, .int .i64 0] 51 (0, 0))
  ip : w.heap[pb]? = some (limBlk a T)
theorem LW.stepB {W w w1 : World} {a pb base : Nat} {T : Value} (h : LW W w a pb base T) (hb : Below base w w1) : LW W w1 a pb base T :=
  ⟨⟨hb.os.trans h.bel.os, hb.tape.trans h.bel.tape, hb.output.trans h.bel.output, Nat.le_trans h.bel.size hb.size, fun k hk => (hb.block k (by have := h.ha; have := h.ab; omega)).trans (h.bel.block k hk)⟩, h.ha, h.ab, h.hp, h.pbb, h.ne, Nat.le_trans h.sz hb.size, (hb.block a h.ab).trans h.ia, (hb.block pb h.pbb).trans h.ip⟩
theorem LW.step {W w w1 : World} {a pb base : Nat} {T : Value} (h : LW W w a pb base T) (hb : Below w.heap.size w w1) : LW W w1 a pb base T :=
  h.stepB ⟨hb.os, hb.tape, hb.output, hb.size, fun k hk => hb.block k (Nat.lt_of_lt_of_le hk h.sz)⟩
theorem LW.put {W w : World} {a pb base : Nat} {T : Value} (h : LW W w a pb base T) (T' : Value) : LW W (w.setCell ⟨pb, 3, none⟩ T') a pb base T' :=
  ⟨below_set h.bel h.hp, h.ha, h.ab, h.hp, h.pbb, h.ne, by rw [World.size_setCell]; exact h.sz, (Below.heap_setCell w ⟨pb, 3, none⟩ T' a h.ne).trans h.ia, blk_put h.ip 3 T' rfl⟩
theorem LW.up {W w : World} {a pb base base' : Nat} {T : Value} (h : LW W w a pb base T) (h1 : base ≤ base') (h2 : base' ≤ w.heap.size) : LW W w a pb base' T :=
  ⟨h.bel, h.ha, Nat.lt_of_lt_of_le h.ab h1, h.hp, Nat.lt_of_lt_of_le h.pbb h1, h.ne, h2, h.ia, h.ip⟩
def limP (a : Nat) (AT : Option Addr) (cT : Nat) (ths : List (List TStmt)) : AP := ⟨⟨#[97]⟩, 2, some ⟨a, 0, none⟩, 1, [⟨⟨#[120]⟩, 0⟩], AT, cT, ths, 1, 1, 0, ⟨#[120]⟩, 0, none, 0, []⟩
theorem lim_dat {W w : World} {a pb base : Nat} {T : Value} (h : LW W w a pb base T) {AT : Option Addr} {cT : Nat} {ths : List (List TStmt)} (hC : Kd.C kThr w AT ths.length ths) (hc : ths.length ≤ cT) (hn : ths.length ≤ 1000) : (limP a AT cT ths).dat w :=
  ⟨C_one h.ia (kCell_plain w _ _), Nat.le_of_ble_eq_true rfl, hC, hc, Kd.C_nil _ _, Nat.le_of_ble_eq_true rfl, Nat.le_of_ble_eq_true rfl, hn, Nat.le_of_ble_eq_true rfl, fun x hx => by
    obtain rfl : x = ⟨⟨#[120]⟩, 0⟩ := by simpa [limP] using hx
    decide⟩
theorem lim_sm {a : Nat} {AT : Option Addr} {cT : Nat} {ths : List (List TStmt)} (h : ∀ l ∈ ths, smSs l ∧ l.length ≤ 1000 ∧ cntL l ≤ 1000) : (limP a AT cT ths).sm := ⟨h, by simp [limP, smCs]⟩
theorem infoThr : (Try.prog.info? 35).map (fun i => (i.zero, i.size, i.bytes)) = some (some (.slice none 0 0), 1, 24) := by kernel_rfl
theorem lim_ask {W w : World} {a pb base n c : Nat} {AT : Option Addr} (h : LW W w a pb base (.slice AT n c)) {ths : List (List TStmt)} (hn : n = ths.length) (hC : Kd.C kThr w AT ths.length ths) (hc : ths.length ≤ c) (hl : ths.length ≤ 1000) (hs : ∀ l ∈ ths, smSs l ∧ l.length ≤ 1000 ∧ cntL l ≤ 1000) (e m : Int) (he : mayE (limP a AT c ths) = e) (hm : mayN (limP a AT c ths) = m) :
    Calls Try.prog 11 #[.agg #[.string ⟨#[97]⟩, .int .i64 2, .slice (some ⟨a, 0, none⟩) 1 1, .slice AT n c, .int .i64 1, .int .i64 1, .int .i64 0, .string ⟨#[120]⟩, .int .i64 0, .slice none 0 0]] w
      fun r w' => r = .returned (.tuple #[.int .i64 e, .int .i64 m]) ∧ Below w.heap.size w w' := by
  subst hn he hm
  exact may_any w (limP a AT c ths) (lim_dat h hC hc hl) (lim_sm hs) (Nat.le_of_ble_eq_true rfl)
/-! ### how many threads -/
def thrE (k : Nat) : Int := if k = 0 then 1 else if 4 < k then 3 else 0
theorem thr_may (a : Nat) (AT : Option Addr) (c : Nat) : ∀ k, k < 6 → mayE (limP a AT c (List.replicate k [])) = thrE k ∧ mayN (limP a AT c (List.replicate k [])) = 0
  | 0, _ => ⟨by kernel_rfl, by kernel_rfl⟩
  | 1, _ => ⟨by kernel_rfl, by kernel_rfl⟩
  | 2, _ => ⟨by kernel_rfl, by kernel_rfl⟩
  | 3, _ => ⟨by kernel_rfl, by kernel_rfl⟩
  | 4, _ => ⟨by kernel_rfl, by kernel_rfl⟩
  | 5, _ => ⟨by kernel_rfl, by kernel_rfl⟩
  | k + 6, h => by omega
/-! ### how many statements -/
def stE (k : Nat) : Int := if k ≤ 16 then 0 else 3
def stN (k : Nat) : Int := if k ≤ 16 then 0 else 18
def fenS : TStmt := ⟨6, 4, ⟨#[]⟩, ⟨#[]⟩, [], [], []⟩
set_option maxRecDepth 20000 in
theorem st_may (a : Nat) (AT : Option Addr) (c : Nat) (k : Nat) (hk : k < 20) : mayE (limP a AT c [List.replicate k fenS]) = stE k ∧ mayN (limP a AT c [List.replicate k fenS]) = stN k := by
  have h : k = 0 ∨ k = 1 ∨ k = 2 ∨ k = 3 ∨ k = 4 ∨ k = 5 ∨ k = 6 ∨ k = 7 ∨ k = 8 ∨ k = 9 ∨ k = 10 ∨ k = 11 ∨ k = 12 ∨ k = 13 ∨ k = 14 ∨ k = 15 ∨ k = 16 ∨ k = 17 ∨ k = 18 ∨ k = 19 := by omega
  rcases h with rfl | rfl | rfl | rfl | rfl | rfl | rfl | rfl | rfl | rfl | rfl | rfl | rfl | rfl | rfl | rfl | rfl | rfl | rfl | rfl <;> exact ⟨by kernel_rfl, by kernel_rfl⟩
/-! ### how many registers -/
def rgE (k : Nat) : Int := if k ≤ 4 then 0 else 3
def rgN (k : Nat) : Int := if k ≤ 4 then 0 else 6
def ldS (i : Nat) : TStmt := ⟨2, 0, ⟨#[114, UInt8.ofNat (48 + i)]⟩, ⟨#[120]⟩, [], [], []⟩
theorem rg_may (a : Nat) (AT : Option Addr) (c : Nat) : ∀ k, k < 7 → mayE (limP a AT c [(List.range k).map ldS]) = rgE k ∧ mayN (limP a AT c [(List.range k).map ldS]) = rgN k
  | 0, _ => ⟨by kernel_rfl, by kernel_rfl⟩
  | 1, _ => ⟨by kernel_rfl, by kernel_rfl⟩
  | 2, _ => ⟨by kernel_rfl, by kernel_rfl⟩
  | 3, _ => ⟨by kernel_rfl, by kernel_rfl⟩
  | 4, _ => ⟨by kernel_rfl, by kernel_rfl⟩
  | 5, _ => ⟨by kernel_rfl, by kernel_rfl⟩
  | 6, _ => ⟨by kernel_rfl, by kernel_rfl⟩
  | k + 7, h => by omega
/-! ### how deep -/
def dpX : Nat → TExpr
  | 0 => ⟨1, 1, ⟨#[]⟩, []⟩
  | k + 1 => ⟨3, 0, ⟨#[]⟩, [dpX k, ⟨1, 0, ⟨#[]⟩, []⟩]⟩
def dpE (k : Nat) : Int := if k ≤ 5 then 0 else 3
def dpN (k : Nat) : Int := if k ≤ 5 then 0 else 2
def stX (k : Nat) : TStmt := ⟨3, 0, ⟨#[]⟩, ⟨#[120]⟩, [dpX k], [], []⟩
theorem dp_may (a : Nat) (AT : Option Addr) (c : Nat) : ∀ k, k < 9 → mayE (limP a AT c [[stX k]]) = dpE k ∧ mayN (limP a AT c [[stX k]]) = dpN k
  | 0, _ => ⟨by kernel_rfl, by kernel_rfl⟩
  | 1, _ => ⟨by kernel_rfl, by kernel_rfl⟩
  | 2, _ => ⟨by kernel_rfl, by kernel_rfl⟩
  | 3, _ => ⟨by kernel_rfl, by kernel_rfl⟩
  | 4, _ => ⟨by kernel_rfl, by kernel_rfl⟩
  | 5, _ => ⟨by kernel_rfl, by kernel_rfl⟩
  | 6, _ => ⟨by kernel_rfl, by kernel_rfl⟩
  | 7, _ => ⟨by kernel_rfl, by kernel_rfl⟩
  | 8, _ => ⟨by kernel_rfl, by kernel_rfl⟩
  | k + 9, h => by omega
/-- The statements of the one thread, as they lie. -/
structure LS (W w : World) (a pb tb base : Nat) (vR : Value) (ss : List TStmt) : Prop where
  lw : LW W w a pb base (.slice (some ⟨tb, 0, none⟩) 1 1)
  tbb : tb < base
  tw : W.heap.size ≤ tb
  np : tb ≠ pb
  na : tb ≠ a
  it : w.heap[tb]? = some (.cells #[vR] 35 (0, 0))
  r : Kd.R kStmt 55 w base (fun _ => True) vR ss
theorem LS.step {W w w1 : World} {a pb tb base : Nat} {vR : Value} {ss : List TStmt} (h : LS W w a pb tb base vR ss) (hb : Below w.heap.size w w1) : LS W w1 a pb tb base vR ss :=
  ⟨h.lw.step hb, h.tbb, h.tw, h.np, h.na, blk_below h.it hb, Kd.R_below h.r hb⟩
/-- .. while one more is laid: the row has grown, the thread's cell has not turned yet. -/
structure LG (W w : World) (a pb tb base : Nat) (v' vR : Value) (ss : List TStmt) : Prop where
  lw : LW W w a pb base (.slice (some ⟨tb, 0, none⟩) 1 1)
  tbb : tb < base
  tw : W.heap.size ≤ tb
  np : tb ≠ pb
  na : tb ≠ a
  it : w.heap[tb]? = some (.cells #[vR] 35 (0, 0))
  r : Kd.R kStmt 55 w base (fun _ => True) v' ss
theorem LG.put {W w : World} {a pb tb base : Nat} {vR v' : Value} {ss : List TStmt} (h : LG W w a pb tb base v' vR ss) : LS W (w.setCell ⟨tb, 0, none⟩ v') a pb tb base v' ss :=
  ⟨⟨below_set h.lw.bel h.tw, h.lw.ha, h.lw.ab, h.lw.hp, h.lw.pbb, h.lw.ne, by rw [World.size_setCell]; exact h.lw.sz, (Below.heap_setCell w ⟨tb, 0, none⟩ v' a (fun e => h.na e.symm)).trans h.lw.ia, (Below.heap_setCell w ⟨tb, 0, none⟩ v' pb (fun e => h.np e.symm)).trans h.lw.ip⟩, h.tbb, h.tw, h.np, h.na, blk_put h.it 0 v' rfl, Kd.R_set h.r h.it (by decide) 0 v'⟩
theorem LW.begin {W w : World} {a pb base : Nat} {T : Value} (h : LW W w a pb base T) : LS W ((w.setCell ⟨pb, 3, none⟩ (.slice (some ⟨w.heap.size, 0, none⟩) 1 1)).alloc (.cells #[.slice none 0 0] 35 (0, 0))) a pb w.heap.size (w.heap.size + 1) (.slice none 0 0) [] := by
  have hs := h.sz
  have h1 := (h.put (.slice (some ⟨w.heap.size, 0, none⟩) 1 1)).step (below_al (Below.refl _ _) (.cells #[.slice none 0 0] 35 (0, 0)))
  exact ⟨h1.up (by omega) (by simp [World.size_setCell]), by omega, by have := h.ha; have := h.ab; omega, by have := h.pbb; omega, by have := h.ab; omega, alloc_at _ _ _ (by rw [World.size_setCell]), Kd.R_nil _ _ _ _ _⟩
theorem stm_M (w : World) (base : Nat) (ok : Nat → Prop) (k m : Int) (r l : ByteArray) : kStmt.M w base ok ⟨k, m, r, l, [], [], []⟩ [.int .i64 k, .int .i64 m, .string r, .string l, .slice none 0 0, .slice none 0 0, .slice none 0 0] :=
  k55_mkM w base ok ⟨k, m, r, l, [], [], []⟩ (Kd.R_nil _ _ _ _ _) (Kd.R_nil _ _ _ _ _) (Kd.R_nil _ _ _ _ _)
theorem infoStm : (Try.prog.info? 55).map (fun i => (i.zero, i.size, i.bytes)) = some (some (.agg #[.int .i64 0, .int .i64 0, .string ⟨#[]⟩, .string ⟨#[]⟩, .slice none 0 0, .slice none 0 0, .slice none 0 0]), 7, 120) := by kernel_rfl
end Go.Proofs.Ytlhbnbckanmaiaa.K
namespace Go.Proofs.Ytlhbnbckanmaiaa.K
open Go Go.RowKit Go.Proofs.YtlhbnbckanmaiaaW.PrintWords Go.Proofs.YtlhbnbckanmaiaaW.PrintLast Go.Proofs.YtlhbnbckanmaiaaW.PrintMore Go.Proofs.Ytlhbnbckanmaiaa.PC1
set_option linter.unusedVariables false
set_option linter.unusedSimpArgs false
def digE (i : Nat) : ByteArray := ⟨#[UInt8.ofNat (48 + i)]⟩
theorem dig_f : ∀ i : Nat, i < 7 → PC2.witheref6_Digits.f 2 (i : Int) = some (digE i)
  | 0, _ => by kernel_rfl
  | 1, _ => by kernel_rfl
  | 2, _ => by kernel_rfl
  | 3, _ => by kernel_rfl
  | 4, _ => by kernel_rfl
  | 5, _ => by kernel_rfl
  | 6, _ => by kernel_rfl
  | i + 7, h => by omega
theorem digits_any (W : World) (i : Nat) (hi : i < 7) : Calls Try.prog 21 #[.int .i64 (i : Int)] W fun r W' => r = .returned (.string (digE i)) ∧ Below W.heap.size W W' :=
  PC2.witheref6_Digits.calls 2 _ _ W (dig_f i hi)
end Go.Proofs.Ytlhbnbckanmaiaa.K
namespace Go.Proofs.Ytlhbnbckanmaiaa.K
open Go Go.RowKit Go.Proofs.YtlhbnbckanmaiaaW.PrintWords Go.Proofs.YtlhbnbckanmaiaaW.PrintLast Go.Proofs.YtlhbnbckanmaiaaW.PrintMore Go.Proofs.Ytlhbnbckanmaiaa.PC1
set_option linter.unusedVariables false
set_option linter.unusedSimpArgs false
theorem LG.step {W w w1 : World} {a pb tb base : Nat} {v' vR : Value} {ss : List TStmt} (h : LG W w a pb tb base v' vR ss) (hb : Below w.heap.size w w1) : LG W w1 a pb tb base v' vR ss :=
  ⟨h.lw.step hb, h.tbb, h.tw, h.np, h.na, blk_below h.it hb, Kd.R_below h.r hb⟩
theorem LG.grow {W w w1 : World} {a pb tb base : Nat} {v1 v' vR : Value} {s1 ss : List TStmt} (h : LG W w a pb tb base v1 vR s1) (hb : Below base w w1) (hr : Kd.R kStmt 55 w1 base (fun _ => True) v' ss) : LG W w1 a pb tb base v' vR ss :=
  ⟨h.lw.stepB hb, h.tbb, h.tw, h.np, h.na, (hb.block tb h.tbb).trans h.it, hr⟩
theorem LG.of {W w : World} {a pb tb base : Nat} {v1 v' vR : Value} {s1 ss : List TStmt} (h : LG W w a pb tb base v1 vR s1) (hr : Kd.R kStmt 55 w base (fun _ => True) v' ss) : LG W w a pb tb base v' vR ss :=
  ⟨h.lw, h.tbb, h.tw, h.np, h.na, h.it, hr⟩
theorem LS.lg {W w : World} {a pb tb base : Nat} {vR : Value} {ss : List TStmt} (h : LS W w a pb tb base vR ss) : LG W w a pb tb base (.slice none 0 0) vR [] :=
  ⟨h.lw, h.tbb, h.tw, h.np, h.na, h.it, Kd.R_nil _ _ _ _ _⟩
/-- What each operation leaves: p the new statement's box, q the grown row. -/
def PhiA (L : Nat → Option Value) (p q : Nat) (wd : World) (tb base : Nat) (vR : Value) (ss : List TStmt) (cs : List Value) (k : Nat) (v : Value) (w : World) : Prop :=
  cond (k == p) (∃ b, v = .slice (some ⟨b, 0, none⟩) 1 1 ∧ wd.heap.size ≤ b ∧ w.heap[b]? = some (.cells cs.toArray 55 (0, 0)))
    (cond (k == q) (Kd.R kStmt 55 w base (fun _ => True) v ss ∧ (w.heap[tb]? = some (.cells #[v] 35 (0, 0)) ∨ w.heap[tb]? = some (.cells #[vR] 35 (0, 0)))) (match L k with | some u => v = u | none => True))
theorem PhiA.move {L : Nat → Option Value} {p q : Nat} {wd : World} {tb base : Nat} {vR : Value} {ss : List TStmt} {cs : List Value} {k : Nat} {v : Value} {w w' : World} (h : PhiA L p q wd tb base vR ss cs k v w) (h1 : k = p → ∀ b o, wd.heap.size ≤ b → w.heap[b]? = some o → w'.heap[b]? = some o)
    (h2 : k = q → Kd.R kStmt 55 w base (fun _ => True) v ss → Kd.R kStmt 55 w' base (fun _ => True) v ss) (h3 : k = q → (w.heap[tb]? = some (.cells #[v] 35 (0, 0)) ∨ w.heap[tb]? = some (.cells #[vR] 35 (0, 0))) → (w'.heap[tb]? = some (.cells #[v] 35 (0, 0)) ∨ w'.heap[tb]? = some (.cells #[vR] 35 (0, 0)))) : PhiA L p q wd tb base vR ss cs k v w' := by
  unfold PhiA at h ⊢
  cases e1 : k == p with
  | true =>
    rw [e1] at h
    obtain ⟨b, h3, h4, h5⟩ := h
    exact ⟨b, h3, h4, h1 (beq_iff_eq.1 e1) b _ h4 h5⟩
  | false =>
    rw [e1] at h
    cases e2 : k == q with
    | true => rw [e2] at h; exact ⟨h2 (beq_iff_eq.1 e2) h.1, h3 (beq_iff_eq.1 e2) h.2⟩
    | false => rw [e2] at h; exact h
theorem PhiA.below {L : Nat → Option Value} {p q : Nat} {wd : World} {tb base : Nat} {vR : Value} {ss : List TStmt} {cs : List Value} {k : Nat} {v : Value} {w w' : World} (h : PhiA L p q wd tb base vR ss cs k v w) (hb : Below w.heap.size w w') : PhiA L p q wd tb base vR ss cs k v w' :=
  h.move (fun _ b o _ hx => blk_below hx hb) (fun _ hr => Kd.R_below hr hb) (fun _ hx => hx.imp (fun x => blk_below x hb) (fun x => blk_below x hb))
/-- Where the world stands: q the append, z the store. -/
structure JA (W wd : World) (a pb tb base : Nat) (vR : Value) (ss : List TStmt) (q z : Nat) (f : Nat → Bool) (w : World) : Prop where
  b : f q = false → Below wd.heap.size wd w
  g : f z = false → LG W w a pb tb base (.slice none 0 0) vR []
  s : f z = true → ∃ v', LS W w a pb tb base v' ss
theorem JA.other {W wd w : World} {a pb tb base : Nat} {vR : Value} {ss : List TStmt} {q z : Nat} {f : Nat → Bool} (h : JA W wd a pb tb base vR ss q z f w) {i : Nat} (h1 : q ≠ i) (h2 : z ≠ i) : JA W wd a pb tb base vR ss q z (upd f i) w :=
  ⟨fun e => h.b ((upd_ne f h1).symm.trans e), fun e => h.g ((upd_ne f h2).symm.trans e), fun e => h.s ((upd_ne f h2).symm.trans e)⟩
theorem JA.below {W wd w w' : World} {a pb tb base : Nat} {vR : Value} {ss : List TStmt} {q z : Nat} {f : Nat → Bool} (h : JA W wd a pb tb base vR ss q z f w) (hb : Below w.heap.size w w') : JA W wd a pb tb base vR ss q z f w' :=
  ⟨fun e => below_step (h.b e) hb, fun e => (h.g e).step hb, fun e => by obtain ⟨v', h1⟩ := h.s e; exact ⟨v', h1.step hb⟩⟩
/-- The append. -/
theorem JA.append {W wd w w1 : World} {a pb tb base : Nat} {vR v' : Value} {ss : List TStmt} {q z : Nat} {f : Nat → Bool} (h : JA W wd a pb tb base vR ss q z f w) (hz : f z = false) (hqz : z ≠ q) (hb : Below base w w1) : JA W wd a pb tb base vR ss q z (upd f q) w1 :=
  ⟨fun e => absurd ((upd_eq f q).symm.trans e) (by decide), fun e => (h.g hz).grow hb (Kd.R_nil _ _ _ _ _), fun e => absurd (hz.symm.trans ((upd_ne f hqz).symm.trans e)) (by decide)⟩
/-- The store. -/
theorem JA.store {W wd w : World} {a pb tb base : Nat} {vR v' : Value} {ss : List TStmt} {q z : Nat} {f : Nat → Bool} (h : JA W wd a pb tb base vR ss q z f w) (hq : f q = true) (hz : f z = false) (hqz : q ≠ z) (hr : Kd.R kStmt 55 w base (fun _ => True) v' ss) : JA W wd a pb tb base vR ss q z (upd f z) (w.setCell ⟨tb, 0, none⟩ v') :=
  ⟨fun e => absurd (hq.symm.trans ((upd_ne f hqz).symm.trans e)) (by decide), fun e => absurd ((upd_eq f z).symm.trans e) (by decide), fun _ => ⟨v', ((h.g hz).of hr).put⟩⟩
def zerS : TStmt := ⟨0, 0, ⟨#[]⟩, ⟨#[]⟩, [], [], []⟩
theorem set_last {α : Type} (l : List α) (z x : α) : (l ++ [z]).set l.length x = l ++ [x] := by simp
theorem row_not {w w1 : World} {base b : Nat} {v : Value} {ss : List TStmt} {wd : World} (hr : Kd.R kStmt 55 wd base (fun _ => True) v ss) (hg : w.grownBy w1 v.ownBlock) (hb : wd.heap.size ≤ b) {o : Obj} (h : w.heap[b]? = some o) : w1.heap[b]? = some o :=
  (hg.block b (blk_lt h) (fun e => by have := Kd.R_lt hr b e.symm; omega)).trans h
theorem reads_new {α : Type} {d : Kd α} {w : World} {b : Nat} {cs : List Value} {t : TypeId} {x : α} {base : Nat} {okp : Nat → Prop} (h : w.heap[b]? = some (.cells cs.toArray t (0, 0))) (hl : cs.length = d.sz) : ReadsRow (fun y c => y = x ∧ c = cs) d.sz w (some ⟨b, 0, none⟩) 1 [x] := by
  refine ⟨rfl, by omega, fun _ => ⟨_, rfl, ?_⟩⟩
  intro j p hp
  match j, hp with
  | 0, hp =>
    obtain rfl : x = p := by simpa using hp
    refine ⟨cs, hl, ⟨rfl, rfl⟩, fun i u hu => ?_⟩
    have := blk_cell h i
    have e : (Addr.add ⟨b, 0, none⟩ (0 * d.sz + i)) = ⟨b, i, none⟩ := by simp [Addr.add]; omega
    rw [e, this]
    simpa using hu
  | j + 1, hp => simp at hp
theorem LS.turn {W w w1 : World} {a pb tb base : Nat} {vR : Value} {ss ss' : List TStmt} (h : LS W w a pb tb base vR ss) (hb : Below base w w1) (hr : Kd.R kStmt 55 w1 base (fun _ => True) vR ss') : LS W w1 a pb tb base vR ss' :=
  ⟨h.lw.stepB hb, h.tbb, h.tw, h.np, h.na, (hb.block tb h.tbb).trans h.it, hr⟩
/-- The row that the cell holds is the one that was grown. -/
theorem LS.same {W w : World} {a pb tb base i c : Nat} {A : Option Addr} {v v' : Value} {ss : List TStmt} (h : LS W w a pb tb base v' ss) (hl : ss.length = i + 1) (h2 : w.heap[tb]? = some (.cells #[v] 35 (0, 0)) ∨ w.heap[tb]? = some (.cells #[.slice A i c] 35 (0, 0))) : v' = v := by
  obtain ⟨A', c', e⟩ := Kd.R_slice h.r
  subst e
  have h1 := h.it
  rcases h2 with h2 | h2
  · rw [h1] at h2; injection h2 with h2; injection h2 with h2; simpa using h2
  · rw [h1] at h2; injection h2 with h2; injection h2 with h2
    simp at h2; omega
theorem LS.ask {W w : World} {a pb tb base : Nat} {vR : Value} {ss : List TStmt} (h : LS W w a pb tb base vR ss) (hl : ss.length ≤ 1000) (hsm : smSs ss) (hcn : cntL ss ≤ 1000) (e m : Int) (he : ∀ A c, mayE (limP a A c [ss]) = e) (hm : ∀ A c, mayN (limP a A c [ss]) = m) :
    Calls Try.prog 11 #[.agg #[.string ⟨#[97]⟩, .int .i64 2, .slice (some ⟨a, 0, none⟩) 1 1, .slice (some ⟨tb, 0, none⟩) 1 1, .int .i64 1, .int .i64 1, .int .i64 0, .string ⟨#[120]⟩, .int .i64 0, .slice none 0 0]] w
      fun r w' => r = .returned (.tuple #[.int .i64 e, .int .i64 m]) ∧ Below w.heap.size w w' := by
  obtain ⟨A, c, hv, hc, hC⟩ := Kd.R_reads h.r
  have hit := h.it
  rw [hv] at hit
  exact lim_ask h.lw (ths := [ss]) rfl (C_one hit (slice_K (e := 55) (d := kStmt) hc hC)) (Nat.le_refl 1) (show 1 ≤ 1000 by decide) (fun l hl' => by
    obtain rfl := List.mem_singleton.1 hl'
    exact ⟨hsm, hl, hcn⟩) e m (he _ _) (hm _ _)
theorem sm_rep (x : TStmt) (hx : smS x) : ∀ n, smSs (List.replicate n x)
  | 0 => by simp [smSs]
  | n + 1 => by rw [List.replicate_succ, smSs]; exact ⟨hx, sm_rep x hx n⟩
theorem sm_fen : smS fenS := by simp [smS, fenS, smEs, smSs]; decide
theorem cnt_rep (k m : Int) (r l : ByteArray) (args : List TExpr) : ∀ n, cntL (List.replicate n ⟨k, m, r, l, args, [], []⟩) = n
  | 0 => by simp [cntL]
  | n + 1 => by rw [List.replicate_succ]; simp [cntL, cntS, cnt_rep k m r l args n]; omega
theorem sm_all : ∀ (l : List TStmt), (∀ x ∈ l, smS x) → smSs l
  | [], _ => by simp [smSs]
  | x :: l, h => by rw [smSs]; exact ⟨h x List.mem_cons_self, sm_all l (fun y hy => h y (List.mem_cons_of_mem _ hy))⟩
theorem sm_ld (i : Nat) : smS (ldS i) := by unfold ldS; rw [smS]; exact ⟨show 2 ≤ 1000 by decide, show 1 ≤ 1000 by decide, show 0 ≤ 1000 by decide, by simp [smEs], show 0 ≤ 1000 by decide, by simp [smSs], show 0 ≤ 1000 by decide, by simp [smSs]⟩
theorem cnt_plain : ∀ (l : List TStmt), (∀ x ∈ l, x.f5 = [] ∧ x.f6 = []) → cntL l = l.length
  | [], _ => by simp [cntL]
  | x :: l, h => by
    have h1 := h x List.mem_cons_self
    obtain ⟨a, b, c, d, e, f, g⟩ := x
    simp only at h1
    obtain ⟨rfl, rfl⟩ := h1
    simp [cntL, cntS, cnt_plain l (fun y hy => h y (List.mem_cons_of_mem _ hy))]; omega
/-- The expression that is put within itself, as it lies. -/
def Fa (xb pb : Nat) (w : World) (A : Option Addr) (xs : List TExpr) : Prop := ∀ W', Chg (fun j => j = xb ∨ j = pb) w W' → Kd.C kExpr W' A xs.length xs
structure DX (W w : World) (a pb base : Nat) (T : Value) (xb k : Nat) : Prop where
  lw : LW W w a pb base T
  hx : base ≤ xb
  x : ∃ A c, w.heap[xb]? = some (.cells #[.int .i64 (dpX k).f0, .int .i64 (dpX k).f1, .string (dpX k).f2, .slice A (dpX k).f3.length c] 57 (0, 0)) ∧ (dpX k).f3.length ≤ c ∧ Fa xb pb w A (dpX k).f3
theorem DX.start {W w : World} {a pb base : Nat} {T : Value} {xb : Nat} (h : LW W w a pb base T) (hx : base ≤ xb) (hb : w.heap[xb]? = some (.cells #[.int .i64 1, .int .i64 1, .string ⟨#[]⟩, .slice none 0 0] 57 (0, 0))) : DX W w a pb base T xb 0 :=
  ⟨h, hx, none, 0, hb, Nat.le_refl _, fun _ _ => Kd.C_nil _ _⟩
theorem DX.next {W w w' : World} {a pb base : Nat} {T : Value} {xb k b : Nat} (h : DX W w a pb base T xb k) (hc : Chg (fun j => j = xb) w w') (hne : b ≠ xb) (hbw : w.heap.size ≤ b) {A : Option Addr} {c : Nat} (hl : (dpX k).f3.length ≤ c) (hF : Fa xb pb w A (dpX k).f3)
    (hb : w'.heap[b]? = some (.cells #[.int .i64 (dpX k).f0, .int .i64 (dpX k).f1, .string (dpX k).f2, .slice A (dpX k).f3.length c, .int .i64 1, .int .i64 0, .string ⟨#[]⟩, .slice none 0 0] 57 (0, 0)))
    (hx : w'.heap[xb]? = some (.cells #[.int .i64 3, .int .i64 0, .string ⟨#[]⟩, .slice (some ⟨b, 0, none⟩) 2 2] 57 (0, 0))) : DX W w' a pb base T xb (k + 1) :=
  ⟨h.lw.stepB (hc.below h.lw.sz (fun j e => by have := h.hx; omega)), h.hx, some ⟨b, 0, none⟩, 2, hx, Nat.le_refl 2, fun W' hc' =>
    C_two (hc'.heap hb (fun e => by have := blk_lt h.lw.ip; omega)) (k57_mk W' (dpX k) hl (hF W' ((hc.mono (fun _ e => .inl e)).step hc'))) (k57_mk W' ⟨1, 0, ⟨#[]⟩, []⟩ (Nat.le_refl 0) (Kd.C_nil _ _)) rfl⟩
theorem DX.ready {W w : World} {a pb base : Nat} {T : Value} {xb k : Nat} (h : DX W w a pb base T xb k) {A : Option Addr} {c : Nat} (hl : (dpX k).f3.length ≤ c) (hC : Fa xb pb w A (dpX k).f3) :
    LW W ((((w.alloc (.cells #[.int .i64 (dpX k).f0, .int .i64 (dpX k).f1, .string (dpX k).f2, .slice A (dpX k).f3.length c] 57 (0, 0))).alloc (.cells #[.int .i64 3, .int .i64 0, .string ⟨#[]⟩, .string ⟨#[120]⟩, .slice (some ⟨w.heap.size, 0, none⟩) 1 1, .slice none 0 0, .slice none 0 0] 55 (0, 0))).alloc (.cells #[.slice (some ⟨w.heap.size + 1, 0, none⟩) 1 1] 35 (0, 0))).setCell ⟨pb, 3, none⟩ (.slice (some ⟨w.heap.size + 1 + 1, 0, none⟩) 1 1)) a pb base (.slice (some ⟨w.heap.size + 1 + 1, 0, none⟩) 1 1)
    ∧ Kd.C kThr ((((w.alloc (.cells #[.int .i64 (dpX k).f0, .int .i64 (dpX k).f1, .string (dpX k).f2, .slice A (dpX k).f3.length c] 57 (0, 0))).alloc (.cells #[.int .i64 3, .int .i64 0, .string ⟨#[]⟩, .string ⟨#[120]⟩, .slice (some ⟨w.heap.size, 0, none⟩) 1 1, .slice none 0 0, .slice none 0 0] 55 (0, 0))).alloc (.cells #[.slice (some ⟨w.heap.size + 1, 0, none⟩) 1 1] 35 (0, 0))).setCell ⟨pb, 3, none⟩ (.slice (some ⟨w.heap.size + 1 + 1, 0, none⟩) 1 1)) (some ⟨w.heap.size + 1 + 1, 0, none⟩) 1 [[stX k]] := by
  have hpl := blk_lt h.lw.ip
  refine ⟨((h.lw.step (below_al (Below.refl _ _) _)).step (below_al (Below.refl _ _) _)).step (below_al (Below.refl _ _) _) |>.put _, ?_⟩
  generalize hE : Obj.cells #[.int .i64 (dpX k).f0, .int .i64 (dpX k).f1, .string (dpX k).f2, .slice A (dpX k).f3.length c] 57 (0, 0) = oE
  generalize hS : Obj.cells #[.int .i64 3, .int .i64 0, .string ⟨#[]⟩, .string ⟨#[120]⟩, .slice (some ⟨w.heap.size, 0, none⟩) 1 1, .slice none 0 0, .slice none 0 0] 55 (0, 0) = oS
  generalize hT : Obj.cells #[.slice (some ⟨w.heap.size + 1, 0, none⟩) 1 1] 35 (0, 0) = oT
  have k1 : (((w.alloc oE).alloc oS).alloc oT).heap[w.heap.size]? = some oE := blk_alloc (blk_alloc (blk_new _ _) _) _
  have k2 : (((w.alloc oE).alloc oS).alloc oT).heap[w.heap.size + 1]? = some oS := blk_alloc (alloc_at _ _ _ (by simp)) _
  have k3 : (((w.alloc oE).alloc oS).alloc oT).heap[w.heap.size + 1 + 1]? = some oT := alloc_at _ _ _ (by simp)
  have hch : Chg (fun j => j = xb ∨ j = pb) w ((((w.alloc oE).alloc oS).alloc oT).setCell ⟨pb, 3, none⟩ (.slice (some ⟨w.heap.size + 1 + 1, 0, none⟩) 1 1)) := (((Chg.refl _ _).alloc oE).alloc oS |>.alloc oT).setCell (p := ⟨pb, 3, none⟩) (.inr rfl) _
  have hF := hC _ hch
  generalize hWZ : (((w.alloc oE).alloc oS).alloc oT).setCell ⟨pb, 3, none⟩ (.slice (some ⟨w.heap.size + 1 + 1, 0, none⟩) 1 1) = WZ at hF ⊢
  have j1 : WZ.heap[w.heap.size]? = some oE := by rw [← hWZ]; exact (Below.heap_setCell _ ⟨pb, 3, none⟩ _ _ (fun e => by simp at e; omega)).trans k1
  have j2 : WZ.heap[w.heap.size + 1]? = some oS := by rw [← hWZ]; exact (Below.heap_setCell _ ⟨pb, 3, none⟩ _ _ (fun e => by simp at e; omega)).trans k2
  have j3 : WZ.heap[w.heap.size + 1 + 1]? = some oT := by rw [← hWZ]; exact (Below.heap_setCell _ ⟨pb, 3, none⟩ _ _ (fun e => by simp at e; omega)).trans k3
  subst hE hS hT
  exact C_one j3 (slice_K (e := 55) (d := kStmt) (xs := [stX k]) (Nat.le_refl 1) (C_one j2 (k55_mk WZ (stX k) (Nat.le_refl 1) (C_one j1 (k57_mk WZ (dpX k) hl hF)) (Nat.le_refl 0) (Kd.C_nil _ _) (Nat.le_refl 0) (Kd.C_nil _ _))))
theorem sm_dpX : ∀ k, smE (dpX k)
  | 0 => by rw [dpX, smE]; exact ⟨show 0 ≤ 1000 by decide, show 0 ≤ 1000 by decide, by simp [smEs]⟩
  | k + 1 => by rw [dpX, smE]; exact ⟨show 0 ≤ 1000 by decide, show 2 ≤ 1000 by decide, by simp only [smEs]; exact ⟨sm_dpX k, by rw [smE]; exact ⟨show 0 ≤ 1000 by decide, show 0 ≤ 1000 by decide, by simp [smEs]⟩, trivial⟩⟩
theorem sm_stX (k : Nat) : smSs [stX k] := by
  simp only [smSs, stX, smS]
  exact ⟨⟨show 0 ≤ 1000 by decide, show 1 ≤ 1000 by decide, show 1 ≤ 1000 by decide, by simp only [smEs]; exact ⟨sm_dpX k, trivial⟩, show 0 ≤ 1000 by decide, trivial, show 0 ≤ 1000 by decide, trivial⟩, trivial⟩
end Go.Proofs.Ytlhbnbckanmaiaa.K
