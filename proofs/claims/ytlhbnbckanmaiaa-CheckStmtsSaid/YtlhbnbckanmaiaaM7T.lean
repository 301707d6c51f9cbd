/- A text of a claim (ours): the maker of programs: statements that may be; what the operations of its drawn regions leave; conditions: none of ours. -/
import Derived.Test.YtlhbnbckanmaiaaM6T
import Derived.Test.YtlhbnbckanmaiaaPC1x12T
namespace Go.Proofs.Ytlhbnbckanmaiaa.K
open Go Go.RowKit Go.Proofs.YtlhbnbckanmaiaaW.PrintWords Go.Proofs.YtlhbnbckanmaiaaW.PrintLast Go.Proofs.YtlhbnbckanmaiaaW.PrintMore Go.Proofs.Ytlhbnbckanmaiaa.PC1
set_option linter.unusedVariables false
set_option linter.unusedSimpArgs false
/-- The maker as it lies. -/
def MS (w0 w : World) (m : Nat) : Prop := Below w0.heap.size w0 w ∧ ∃ l a, IsS91 w0 w m l a ∧ 0 ≤ a ∧ a ≤ l.length ∧ l.length ≤ 1000 ∧ ∀ x ∈ l, 0 ≤ x ∧ x < 256
theorem MS.lt {w0 w : World} {m : Nat} (h : MS w0 w m) : m < w.heap.size := by
  obtain ⟨_, l, a, h, _⟩ := h; exact h.lt
theorem MS.ge {w0 w : World} {m : Nat} (h : MS w0 w m) : w0.heap.size ≤ m := by
  obtain ⟨_, l, a, h, _⟩ := h; exact h.ge
theorem MS.typ {w0 w : World} {m : Nat} (h : MS w0 w m) : ∃ cs, w.heap[m]? = some (.cells cs 91 (0, 0)) := by
  obtain ⟨_, l, a, ⟨A, c, h, _⟩, _⟩ := h; exact ⟨_, h⟩
theorem MS.step {w0 w w1 : World} {m : Nat} (h : MS w0 w m) (hb : Below w.heap.size w w1) : MS w0 w1 m := by
  obtain ⟨h1, l, a, h2, h3⟩ := h
  exact ⟨below_weaken h1 h1.size hb, l, a, h2.below hb, h3⟩
theorem MS.chg {w0 w w1 : World} {m : Nat} {F : Nat → Prop} (h : MS w0 w m) (hc : Chg F w w1) (hm : ¬ F m) (hF : ∀ k, F k → w0.heap.size ≤ k) : MS w0 w1 m := by
  obtain ⟨h1, l, a, ⟨A, c, h2, h4, h5⟩, h3⟩ := h
  exact ⟨h1.trans (hc.below h1.size hF), l, a, ⟨A, c, hc.heap h2 hm, h4, h5⟩, h3⟩
theorem MS.set {w0 w : World} {m : Nat} (h : MS w0 w m) {p : Addr} (hp : m ≠ p.block) (hq : w0.heap.size ≤ p.block) (v : Value) : MS w0 (w.setCell p v) m :=
  h.chg ((Chg.refl (fun k => k = p.block) w).setCell rfl v) hp (fun k e => e ▸ hq)
theorem chg_of_keep {w0 w w1 : World} {g : Nat} (h0 : Below w0.heap.size w0 w) (h1 : Below w0.heap.size w0 w1) (hk : KeepBut w w1 g none) : Chg (fun k => k = g) w w1 :=
  ⟨h1.os.trans h0.os.symm, h1.tape.trans h0.tape.symm, h1.output.trans h0.output.symm, hk.1, fun k hk1 hn => hk.2 k hk1 hn (by simp)⟩
theorem pick_f (l : List Int) (a n : Int) (h0 : 0 ≤ a) (h1 : a ≤ l.length) (h2 : l.length ≤ 1000) (h3 : ∀ x ∈ l, 0 ≤ x ∧ x < 256) : ∃ r a', withemade_Maker_Pick.f l a n = some (r, a') ∧ 0 ≤ r ∧ (r < n ∨ r = 0) ∧ 0 ≤ a' ∧ a' ≤ l.length := by
  unfold withemade_Maker_Pick.f
  by_cases c1 : a ≥ (l.length : Int)
  · rw [if_pos c1]; exact ⟨0, a, rfl, Int.le_refl _, .inr rfl, h0, h1⟩
  · rw [if_neg c1]
    by_cases c2 : n < 1
    · rw [if_pos c2]; exact ⟨0, a, rfl, Int.le_refl _, .inr rfl, h0, h1⟩
    · rw [if_neg c2]
      have e1 : wrap64 (a + 1) = a + 1 := by unfold wrap64; omega
      have e2 : wrap64 (a + 1 - 1) = a := by unfold wrap64; omega
      rw [e1, e2, if_pos h0, if_pos (by omega), if_neg (by omega)]
      have hi : a.toNat < l.length := by omega
      have hx := h3 _ (List.getElem_mem hi)
      have hr : rd l a = l[a.toNat] := by unfold rd; rw [List.getD_eq_getElem?_getD, List.getElem?_eq_getElem hi]; rfl
      rw [hr]
      have e3 : wrap64 l[a.toNat] = l[a.toNat] := by unfold wrap64; omega
      rw [e3]
      exact ⟨_, _, rfl, Int.tmod_nonneg n hx.1, .inl (Int.tmod_lt_of_pos _ (by omega)), by omega, by omega⟩
theorem pick_any (w0 w : World) (m : Nat) (hM : MS w0 w m) (n : Int) : Calls Try.prog 37 #[.pointer (some ⟨m, 0, none⟩), .int .i64 n] w
    fun e w' => ∃ r, e = .returned (.int .i64 r) ∧ 0 ≤ r ∧ (r < n ∨ r = 0) ∧ MS w0 w' m ∧ Chg (fun k => k = m) w w' := by
  obtain ⟨hb, l, a, hI, h0, h1, h2, h3⟩ := hM
  obtain ⟨r, a', hf, hr0, hr1, ha0, ha1⟩ := pick_f l a n h0 h1 h2 h3
  refine (withemade_Maker_Pick.calls m l a n r a' w0 w hI hb hf).mono ?_
  rintro e w' ⟨rfl, hI', hb', hk⟩
  exact ⟨r, rfl, hr0, hr1, ⟨hb', l, a', hI', ha0, ha1, h2, h3⟩, chg_of_keep hb hb' hk⟩
theorem mode_any (w0 w : World) (m : Nat) (hM : MS w0 w m) (vals locs : Int) (A : Option Addr) (c : Nat) (L : List Int) (hL : 0 < L.length) (hC : Kd.C (Kd.int .i64) w A L.length L) (hc : L.length ≤ c) (hne : ∀ ad, A = some ad → ad.block ≠ m) :
    Calls Try.prog 86 #[.pointer (some ⟨m, 0, none⟩), .agg #[.int .i64 vals, .int .i64 locs, .bool false, .bool false], .slice A L.length c] w
    fun e w' => ∃ r, e = .returned (.int .i64 r) ∧ r ∈ L ∧ MS w0 w' m ∧ Chg (fun k => k = m) w w' := by
  obtain ⟨hb, l, a, hI, h0, h1, h2, h3⟩ := hM
  obtain ⟨r, a', hf, hr0, hr1, ha0, ha1⟩ := pick_f l a (L.length : Int) h0 h1 h2 h3
  have hi : r.toNat < L.length := by omega
  have hr : rd L r = L[r.toNat] := by unfold rd; rw [List.getD_eq_getElem?_getD, List.getElem?_eq_getElem hi]; rfl
  have hf2 : withemade_Maker_mode.f l a vals locs false false L = some (L[r.toNat], a') := by
    unfold withemade_Maker_mode.f
    rw [if_neg (by decide), hf]
    simp only [Option.bind_some]
    rw [if_pos hr0, if_pos (by omega), if_neg (by decide), hr]
  refine (withemade_Maker_mode.calls m l a vals locs false false A c L _ a' w0 w hI hb hC hc (fun ad e _ => hne ad e) hf2).mono ?_
  rintro e w' ⟨rfl, hI', hb', hk⟩
  exact ⟨_, rfl, List.getElem_mem hi, ⟨hb', l, a', hI', ha0, ha1, h2, h3⟩, chg_of_keep hb hb' hk⟩
/-- An expression over registers that are known, of values below vals. -/
def geE (vals : Int) (regs : List ByteArray) : Nat → TExpr → Prop
  | d, ⟨op, n, nm, kids⟩ => (op = 1 ∧ 0 ≤ n ∧ n < vals ∧ nm = ⟨#[]⟩ ∧ kids = []) ∨ (op = 2 ∧ n = 0 ∧ nm ∈ regs ∧ kids = []) ∨ (match d with
    | 0 => False
    | d + 1 => 3 ≤ op ∧ op ≤ 6 ∧ n = 0 ∧ nm = ⟨#[]⟩ ∧ ∃ a b, kids = [a, b] ∧ geE vals regs d a ∧ geE vals regs d b)
theorem leaf_f (vals : Int) (hv : 2 ≤ vals) (regs : List ByteArray) (l : List Int) (h2 : l.length ≤ 1000) (h3 : ∀ x ∈ l, 0 ≤ x ∧ x < 256) (d k : Nat) (x9 a : Int) (h0 : 0 ≤ a) (h1 : a ≤ l.length) :
    ∃ op n nm kids a', (if (regs.length : Int) > 0 then withemade_Maker_Expr.j1 (k + 1) regs vals (decide (x9 > 2)) l a else withemade_Maker_Expr.j1 (k + 1) regs vals false l a) = some (op, n, nm, kids, a') ∧ geE vals regs d ⟨op, n, nm, kids⟩ ∧ 0 ≤ a' ∧ a' ≤ l.length := by
  have hnum : ∃ op n nm kids a', withemade_Maker_Expr.j1 (k + 1) regs vals false l a = some (op, n, nm, kids, a') ∧ geE vals regs d ⟨op, n, nm, kids⟩ ∧ 0 ≤ a' ∧ a' ≤ l.length := by
    obtain ⟨r, a', hf, hr0, hr1, ha0, ha1⟩ := pick_f l a vals h0 h1 h2 h3
    simp only [withemade_Maker_Expr.j1]
    rw [if_neg (by decide), hf]
    refine ⟨1, r, ⟨#[]⟩, [], a', rfl, ?_, ha0, ha1⟩
    unfold geE
    exact .inl ⟨rfl, hr0, by omega, rfl, rfl⟩
  by_cases c : (regs.length : Int) > 0
  · rw [if_pos c]
    by_cases c9 : x9 > 2
    · rw [decide_eq_true c9]
      obtain ⟨r, a', hf, hr0, hr1, ha0, ha1⟩ := pick_f l a (regs.length : Int) h0 h1 h2 h3
      have hi : r.toNat < regs.length := by omega
      simp only [withemade_Maker_Expr.j1]
      rw [if_pos trivial, hf]
      simp only [Option.bind_some]
      rw [if_pos hr0, if_pos (by omega)]
      refine ⟨2, 0, _, [], a', rfl, ?_, ha0, ha1⟩
      unfold geE
      refine .inr (.inl ⟨rfl, rfl, ?_, rfl⟩)
      unfold rdOf
      rw [List.getD_eq_getElem?_getD, List.getElem?_eq_getElem hi]
      exact List.getElem_mem hi
    · rw [decide_eq_false c9]; exact hnum
  · rw [if_neg c]; exact hnum
theorem expr_f (vals : Int) (hv : 2 ≤ vals) (regs : List ByteArray) (l : List Int) (h2 : l.length ≤ 1000) (h3 : ∀ x ∈ l, 0 ≤ x ∧ x < 256) : ∀ (d : Nat), d ≤ 10 → ∀ (a : Int), 0 ≤ a → a ≤ l.length →
    ∃ op n nm kids a', withemade_Maker_Expr.f (2 * d + 3) l a regs vals d = some (op, n, nm, kids, a') ∧ geE vals regs d ⟨op, n, nm, kids⟩ ∧ 0 ≤ a' ∧ a' ≤ l.length := by
  intro d
  induction d with
  | zero =>
    intro hd a h0 h1
    obtain ⟨r, a', hf, hr0, hr1, ha0, ha1⟩ := pick_f l a 8 h0 h1 h2 h3
    obtain ⟨op, n, nm, kids, a2, e1, e2, e3, e4⟩ := leaf_f vals hv regs l h2 h3 0 0 r a' ha0 ha1
    refine ⟨op, n, nm, kids, a2, ?_, e2, e3, e4⟩
    show withemade_Maker_Expr.f (2 + 1) l a regs vals ((0 : Nat) : Int) = _
    unfold withemade_Maker_Expr.f
    rw [hf]
    simp only [Option.bind_some]
    rw [if_neg (by decide)]
    show withemade_Maker_Expr.j0 (1 + 1) _ _ _ _ _ _ _ = _
    unfold withemade_Maker_Expr.j0
    rw [if_neg (by decide)]
    exact e1
  | succ d ih =>
    intro hd a h0 h1
    obtain ⟨r, a', hf, hr0, hr1, ha0, ha1⟩ := pick_f l a 8 h0 h1 h2 h3
    have hdd : wrap64 (((d + 1 : Nat) : Int) - 1) = (d : Int) := by unfold wrap64; omega
    have hfu : 2 * (d + 1) + 3 = (2 * d + 3) + 1 + 1 := by omega
    rw [hfu]
    unfold withemade_Maker_Expr.f
    rw [hf]
    simp only [Option.bind_some]
    rw [if_pos (by omega)]
    by_cases c : r > 5
    · rw [decide_eq_true c]
      unfold withemade_Maker_Expr.j0
      rw [if_pos rfl]
      obtain ⟨r4, a4, hf4, hr40, hr41, ha40, ha41⟩ := pick_f l a' 4 ha0 ha1 h2 h3
      obtain ⟨op1, n1, nm1, kids1, a5, e1, e2, e3, e4⟩ := ih (by omega) a4 ha40 ha41
      obtain ⟨op2, n2, nm2, kids2, a6, f1, f2, f3, f4⟩ := ih (by omega) a5 e3 e4
      rw [hf4]
      simp only [Option.bind_some, hdd]
      rw [e1]
      simp only [Option.bind_some]
      rw [f1]
      simp only [Option.bind_some]
      refine ⟨_, _, _, _, _, rfl, ?_, f3, f4⟩
      have hw : wrap64 (3 + r4) = 3 + r4 := by unfold wrap64; omega
      rw [hw]
      unfold geE
      exact .inr (.inr ⟨by omega, by omega, rfl, rfl, _, _, rfl, e2, f2⟩)
    · rw [decide_eq_false c]
      unfold withemade_Maker_Expr.j0
      rw [if_neg (by decide)]
      exact leaf_f vals hv regs l h2 h3 (d + 1) (2 * d + 2) r a' ha0 ha1
theorem mexpr_any (w0 w : World) (m : Nat) (hM : MS w0 w m) (vals : Int) (hv : 2 ≤ vals) (A : Option Addr) (c : Nat) (regs : List ByteArray) (hC : Kd.C Kd.string w A regs.length regs) (hc : regs.length ≤ c) (hne : ∀ ad, A = some ad → 0 < regs.length → ad.block ≠ m) (d : Nat) (hd : d ≤ 10) :
    Calls Try.prog 87 #[.pointer (some ⟨m, 0, none⟩), .slice A regs.length c, .int .i64 vals, .int .i64 d] w
    fun e w' => ∃ (x : TExpr) (A3 : Option Addr) (c3 : Nat), e = .returned (.agg #[.int .i64 x.f0, .int .i64 x.f1, .string x.f2, .slice A3 x.f3.length c3]) ∧ x.f3.length ≤ c3 ∧ geE vals regs d x ∧ Kd.F kExpr w' (fun k => w.heap.size ≤ k) A3 x.f3.length x.f3 ∧ MS w0 w' m ∧ Chg (fun k => k = m) w w' := by
  obtain ⟨hb, l, a, hI, h0, h1, h2, h3⟩ := hM
  obtain ⟨op, n, nm, kids, a', hf, hg, ha0, ha1⟩ := expr_f vals hv regs l h2 h3 d hd a h0 h1
  refine (withemade_Maker_Expr.calls (2 * d + 3) m l a A c regs vals d op n nm kids a' w0 w hI hb hC hc hne hf).mono ?_
  rintro e w' ⟨v3, rfl, hN, hI', hb', hk⟩
  obtain ⟨A3, c3, rfl⟩ := Kd.N_slice hN
  exact ⟨⟨op, n, nm, kids⟩, A3, c3, rfl, (Kd.N_reads' hN).2.1, hg, Kd.N_F hN, ⟨hb', l, a', hI', ha0, ha1, h2, h3⟩, chg_of_keep hb hb' hk⟩
/-- Names of registers as the maker holds them: a row of its own (or of its caller's), told by its block alone. -/
def RG (w0 w : World) (v : Value) (regs : List ByteArray) : Prop := Kd.R Kd.string 9 w w0.heap.size (fun k => some k = v.ownBlock) v regs
theorem RG.nil (w0 w : World) : RG w0 w (.slice none 0 0) [] := Kd.R_nil _ _ _ _ _
theorem RG.chg {w0 w w1 : World} {v : Value} {regs : List ByteArray} {F : Nat → Prop} (h : RG w0 w v regs) (hc : Chg F w w1) (hF : ∀ k, F k → k < w.heap.size → ∃ cs t, w.heap[k]? = some (.cells cs t (0, 0)) ∧ t ≠ 9) : RG w0 w1 v regs :=
  Kd.R_step h (fun k hk hlt => hc.block k hlt (fun hf => by
    obtain ⟨cs, t, h1, h2⟩ := hF k hf hlt
    exact Kd.R_ne h h1 (Ne.symm h2) hk))
theorem RG.reads {w0 w : World} {v : Value} {regs : List ByteArray} (h : RG w0 w v regs) : ∃ A c, v = .slice A regs.length c ∧ regs.length ≤ c ∧ Kd.C Kd.string w A regs.length regs := Kd.R_reads h
theorem RG.ne {w0 w : World} {A : Option Addr} {n c : Nat} {regs : List ByteArray} {m : Nat} {cs : Array Value} {t : TypeId} (h : RG w0 w (.slice A n c) regs) (hm : w.heap[m]? = some (.cells cs t (0, 0))) (ht : 9 ≠ t) : ∀ ad, A = some ad → 0 < regs.length → ad.block ≠ m := by
  intro ad e hl hb
  obtain ⟨g, cap, e2, -, -, -⟩ := Kd.R_form h hl
  have := Kd.R_ne h hm ht
  injection e2 with e3 _ _
  rw [e] at e3
  injection e3 with e4
  subst e4
  subst e
  exact this (by simp at hb; rw [← hb]; rfl)
def withF (l : List ByteArray) (s : ByteArray) : List ByteArray := if hasB l s then l else l ++ [s]
end Go.Proofs.Ytlhbnbckanmaiaa.K
namespace Go.Proofs.Ytlhbnbckanmaiaa.K
open Go Go.RowKit Go.Proofs.YtlhbnbckanmaiaaW.PrintWords Go.Proofs.YtlhbnbckanmaiaaW.PrintLast Go.Proofs.YtlhbnbckanmaiaaW.PrintMore Go.Proofs.Ytlhbnbckanmaiaa.PC1
set_option linter.unusedVariables false
set_option linter.unusedSimpArgs false
theorem hasB_snoc (l : List ByteArray) (i : Nat) (hi : i < l.length) (s : ByteArray) : hasB (l.take (i + 1)) s = (hasB (l.take i) s || (l[i].toList == s.toList)) := by
  unfold hasB
  rw [List.take_succ_eq_append_getElem hi, List.any_append]
  simp
theorem hasB_early (l : List ByteArray) (i : Nat) (s : ByteArray) (h : hasB (l.take i) s = true) : hasB l s = true := by
  unfold hasB at h ⊢
  rw [List.any_eq_true] at h ⊢
  obtain ⟨x, h1, h2⟩ := h
  exact ⟨x, List.mem_of_mem_take h1, h2⟩
theorem RG.of_new {w0 w w1 : World} {v : Value} {regs : List ByteArray} (hb : Below w0.heap.size w0 w) (h : Kd.R Kd.string 9 w1 w.heap.size (fun _ => True) v regs) : RG w0 w1 v regs :=
  Kd.R_lower (Kd.R_tight rfl h) hb.size
set_option maxHeartbeats 4000000 in
theorem with_any (w0 w : World) (v : Value) (regs : List ByteArray) (h : RG w0 w v regs) (hb : Below w0.heap.size w0 w) (hl : regs.length ≤ 1000) (s : ByteArray) :
    Calls Try.prog 88 #[v, .string s] w fun e w' => ∃ v', e = .returned v' ∧ RG w0 w' v' (withF regs s) ∧ Below w.heap.size w w' := by
  obtain ⟨A, c, rfl, hc, hC⟩ := h.reads
  have HF := Aside0.mk (And.intro h (And.intro hb hC))
  clear h hb hC
  go_enter Try.func88, Try.ntmps88
  go_wp2
  go_loopw [5] (fun v5 wr => ∃ i : Nat, i ≤ regs.length ∧ v5 = .int .i64 i ∧ wr = w ∧ Aside0 (hasB (regs.take i) s = false)) (fun v5 _ => regs.length - (intOf v5).toNat)
  case atStart => exact ⟨0, Nat.zero_le _, rfl, by first | rfl | trivial, ⟨rfl⟩⟩
  case round =>
    obtain ⟨i, hi, rfl, rfl, HM⟩ := hrel
    by_cases hlt : i < regs.length
    · have e1 : decide ((i : Int) < (regs.length : Int)) = true := decide_eq_true (by omega)
      have e2 : decide (i < regs.length) = true := decide_eq_true hlt
      have i0 : (0 : Int) ≤ (i : Int) := by omega
      have i1 : (i : Int) < (regs.length : Int) := by omega
      obtain ⟨ad, cc, rfl, hcl, hK, hcc⟩ := Kd.C_get HF.out.2.2 (⟨#[]⟩ : ByteArray) (i : Int) i0 i1
      have hgd : regs.getD (i : Int).toNat ⟨#[]⟩ = regs[i] := by rw [Int.toNat_natCast, List.getD_eq_getElem?_getD, List.getElem?_eq_getElem hlt]; rfl
      rw [hgd] at hK
      obtain rfl : cc = [.string regs[i]] := hK
      have hx : wr.cell? (ad.add i) = some (.string regs[i]) := by have := hcc 0 _ rfl; simpa [Kd.string, Kd.scalar] using this
      have HS := Aside0.mk (hasB_snoc regs i hlt s)
      generalize regs[i] = x at hx HS
      clear hcc hcl hgd
      cases hb : (x.toList == s.toList) with
      | true =>
        have HY := Aside0.mk (show hasB regs s = true from hasB_early regs (i + 1) s (by rw [HS.out, hb, Bool.or_true]))
        have hne : x.toList = s.toList := beq_iff_eq.1 hb
        go_wp2
        go_ret
        refine ⟨_, rfl, ?_, Below.refl _ _⟩
        unfold withF
        rw [HY.out, if_pos rfl]
        exact HF.out.1
      | false =>
        have HN := Aside0.mk (show hasB (regs.take (i + 1)) s = false from by rw [HS.out, HM.out, hb]; rfl)
        have HI := Aside0.mk hlt
        clear HS HM
        go_wp2
        go_roundw
        case rel => exact ⟨i + 1, HI.out, by go_num, trivial, HN⟩
        case measure => simp [intOf]; omega
    · have e1 : decide ((i : Int) < (regs.length : Int)) = false := decide_eq_false (by omega)
      have e2 : decide (i < regs.length) = false := decide_eq_false hlt
      obtain rfl : i = regs.length := by omega
      have HN := Aside0.mk (show hasB regs s = false from by have := HM.out; rwa [List.take_length] at this)
      clear HM hlt hi
      go_wp2_with (first
        | (at_builtin; refine Kd.R_append_rows Kd.string (w0 := wr) wr.heap.size rfl (.tmp 19) (.tmp 20) 37 9 (.string ⟨#[]⟩) 16 rfl Try.underlying37 infoStr rfl (by decide) (by omega) (.slice (some ⟨wr.heap.size, 0, none⟩) 0 0) [] regs _ _ _ (fun _ => True) (fun _ => False) rfl rfl (lit0S wr) ?aR (fun _ _ h => h) (fun _ h => h.elim) (fun _ _ => trivial) (below_alloc (Below.refl _ _) _) (by simp) (by simp; omega) ?_; (case aR => exact Kd.C_below HF.out.2.2 (below_alloc (Below.refl _ _) _)); intro v1 w1 h1 h2 _ _; rw [List.nil_append] at h1; obtain ⟨A1, c1, rfl, _⟩ := Kd.R_reads h1; have HR := Aside0.mk h1; have HB := Aside0.mk h2; clear h1 h2)
        | (at_builtin; refine Kd.R_append Kd.string (w0 := wr) wr.heap.size rfl (.tmp 21) (.tmp 23) 37 9 (.string ⟨#[]⟩) 16 rfl Try.underlying37 infoStr rfl (by decide) (by omega) _ regs s [.string s] (fun _ => True) (fun _ => False) (by first | rfl | (simp [Act.eval]; done)) (by first | rfl | (simp [Act.eval]; done)) rfl (fun _ hk => hk.elim) (fun _ _ => trivial) HR.out HB.out HB.out.size (by omega) ?_; intro v3 w3 ho3 hb3 _ _; have HR3 := Aside0.mk ho3; have HB3 := Aside0.mk hb3; clear ho3 hb3))
      go_ret
      refine ⟨_, rfl, ?_, HB3.out⟩
      unfold withF
      rw [HN.out, if_neg (by decide)]
      exact RG.of_new HF.out.2.1 HR3.out
end Go.Proofs.Ytlhbnbckanmaiaa.K
namespace Go.Proofs.Ytlhbnbckanmaiaa.K
open Go Go.RowKit Go.Proofs.YtlhbnbckanmaiaaW.PrintWords Go.Proofs.YtlhbnbckanmaiaaW.PrintLast Go.Proofs.YtlhbnbckanmaiaaW.PrintMore Go.Proofs.Ytlhbnbckanmaiaa.PC1
set_option linter.unusedVariables false
set_option linter.unusedSimpArgs false
def nm4 : List ByteArray := [⟨#[97]⟩, ⟨#[98]⟩, ⟨#[99]⟩, ⟨#[100]⟩]
def loc4 : List ByteArray := [⟨#[120]⟩, ⟨#[121]⟩, ⟨#[122]⟩, ⟨#[119]⟩]
theorem mreg_any (w : World) (r : Int) (h0 : 0 ≤ r) (h1 : r < 4) : Calls Try.prog 85 #[.int .i64 r] w fun e w' => ∃ s, e = .returned (.string s) ∧ s ∈ nm4 ∧ Drawn0 w w' := by
  have : r = 0 ∨ r = 1 ∨ r = 2 ∨ r = 3 := by omega
  rcases this with rfl | rfl | rfl | rfl
  · exact (withemade_Reg.calls 0 ⟨#[97]⟩ w (by kernel_rfl)).mono fun e w' h => ⟨_, h.1, by simp [nm4], h.2⟩
  · exact (withemade_Reg.calls 1 ⟨#[98]⟩ w (by kernel_rfl)).mono fun e w' h => ⟨_, h.1, by simp [nm4], h.2⟩
  · exact (withemade_Reg.calls 2 ⟨#[99]⟩ w (by kernel_rfl)).mono fun e w' h => ⟨_, h.1, by simp [nm4], h.2⟩
  · exact (withemade_Reg.calls 3 ⟨#[100]⟩ w (by kernel_rfl)).mono fun e w' h => ⟨_, h.1, by simp [nm4], h.2⟩
theorem mloc_any (w : World) (r : Int) (nl : Nat) (h0 : 0 ≤ r) (h1 : r < nl) (h4 : nl ≤ 4) : Calls Try.prog 64 #[.int .i64 r] w fun e w' => e = .returned (.string (loc4.getD r.toNat ⟨#[]⟩)) ∧ Drawn0 w w' := by
  have : r = 0 ∨ r = 1 ∨ r = 2 ∨ r = 3 := by omega
  rcases this with rfl | rfl | rfl | rfl
  · exact withemade_Loc.calls 0 ⟨#[120]⟩ w (by kernel_rfl)
  · exact withemade_Loc.calls 1 ⟨#[121]⟩ w (by kernel_rfl)
  · exact withemade_Loc.calls 2 ⟨#[122]⟩ w (by kernel_rfl)
  · exact withemade_Loc.calls 3 ⟨#[119]⟩ w (by kernel_rfl)
theorem loc_mem (r : Int) (nl : Nat) (h0 : 0 ≤ r) (h1 : r < nl) (h4 : nl ≤ 4) : loc4.getD r.toNat ⟨#[]⟩ ∈ loc4.take nl := by
  have hi : r.toNat < loc4.length := by show r.toNat < 4; omega
  rw [List.getD_eq_getElem?_getD, List.getElem?_eq_getElem hi]
  show loc4[r.toNat] ∈ _
  have hj : r.toNat < (loc4.take nl).length := by rw [List.length_take]; omega
  have : (loc4.take nl)[r.toNat] = loc4[r.toNat] := List.getElem_take
  rw [← this]
  exact List.getElem_mem hj
/-- A statement that may be, where some registers are known. -/
def gdS (vals : Int) (nl : Nat) (rec : List ByteArray → List TStmt → Prop) (R : List ByteArray) (x : TStmt) : Prop :=
  1 ≤ x.f0 ∧ x.f0 ≤ 7 ∧ x.f1 ∈ modesF x.f0 ∧ (x.f4.length : Int) = argsF x.f0 ∧ (∀ a ∈ x.f4, ∃ d, d ≤ 2 ∧ geE vals R d a) ∧ (if regF x.f0 = true then x.f2 ∈ nm4 else x.f2 = ⟨#[]⟩) ∧ (if locF x.f0 = true then x.f3 ∈ loc4.take nl else x.f3 = ⟨#[]⟩) ∧ (if bodyF x.f0 = true then rec R x.f5 ∧ rec R x.f6 else x.f5 = [] ∧ x.f6 = [])
def nextR (R : List ByteArray) (r : ByteArray) : List ByteArray := if r.toList = [] then R else withF R r
def gdL (S : List ByteArray → TStmt → Prop) : List ByteArray → List TStmt → List ByteArray → Prop
  | R, [], R' => R' = R
  | R, x :: xs, R' => S R x ∧ gdL S (nextR R x.f2) xs R'
theorem gdL_snoc (S : List ByteArray → TStmt → Prop) : ∀ (l : List TStmt) (R R1 : List ByteArray) (x : TStmt), gdL S R l R1 → S R1 x → gdL S R (l ++ [x]) (nextR R1 x.f2)
  | [], R, R1, x, h, hx => by
    have e : R1 = R := h
    subst e
    exact ⟨hx, rfl⟩
  | y :: l, R, R1, x, h, hx => ⟨h.1, gdL_snoc S l _ R1 x h.2 hx⟩
/-- .. with so many ifs within one another at most. -/
def gdB (vals : Int) (nl : Nat) : Nat → List ByteArray → List TStmt → List ByteArray → Prop
  | 0 => gdL (gdS vals nl (fun _ _ => False))
  | D + 1 => gdL (gdS vals nl (fun R l => l.length ≤ 1 ∧ ∃ R', gdB vals nl D R l R'))
def recB (vals : Int) (nl : Nat) : Nat → List ByteArray → List TStmt → Prop
  | 0 => fun _ _ => False
  | D + 1 => fun R l => l.length ≤ 1 ∧ ∃ R', gdB vals nl D R l R'
theorem gdB_eq (vals : Int) (nl D : Nat) : gdB vals nl D = gdL (gdS vals nl (recB vals nl D)) := by cases D <;> rfl
/-! ### the drawn regions -/
inductive Tag where
  | fix (v : Value)
  | row (L : List Int)
  | mode (L : List Int)
  | ex
  | exs (n : Nat)
  | stm (k : Int)
  | any
/-- What the operation k left, told by its tag: what it leads to lies in new blocks. -/
def PhiM (vals : Int) (nl D : Nat) (R : List ByteArray) (wd : World) (tags : List Tag) (k : Nat) (v : Value) (w : World) : Prop :=
  match tags[k]? with
  | some (.fix u) => v = u
  | some (.row L) => ∃ b, v = .slice (some ⟨b, 0, none⟩) L.length L.length ∧ wd.heap.size ≤ b ∧ w.heap[b]? = some (.cells (L.map (fun n => Value.int .i64 n)).toArray 3 (0, 0))
  | some (.mode L) => ∃ r, v = .int .i64 r ∧ r ∈ L
  | some .ex => ∃ (x : TExpr) (A : Option Addr) (c : Nat), v = .agg #[.int .i64 x.f0, .int .i64 x.f1, .string x.f2, .slice A x.f3.length c] ∧ x.f3.length ≤ c ∧ (∃ d, d ≤ 2 ∧ geE vals R d x) ∧ Kd.F kExpr w (fun k => wd.heap.size ≤ k) A x.f3.length x.f3
  | some (.exs n) => ∃ (b : Nat) (xs : List TExpr), v = .slice (some ⟨b, 0, none⟩) n n ∧ xs.length = n ∧ (∀ x ∈ xs, ∃ d, d ≤ 2 ∧ geE vals R d x) ∧ Kd.F kExpr w (fun k => wd.heap.size ≤ k) (some ⟨b, 0, none⟩) n xs
  | some (.stm k0) => ∃ (x : TStmt) (cs : List Value), v = .agg cs.toArray ∧ x.f0 = k0 ∧ gdS vals nl (recB vals nl D) R x ∧ Kd.FK kStmt w (fun k => wd.heap.size ≤ k) x cs
  | _ => True
theorem PhiM.move {vals : Int} {nl D : Nat} {R : List ByteArray} {wd w w' : World} {tags : List Tag} {k : Nat} {v : Value} (h : PhiM vals nl D R wd tags k v w) (hm : ∀ j, wd.heap.size ≤ j → j < w.heap.size → w'.heap[j]? = w.heap[j]?) : PhiM vals nl D R wd tags k v w' := by
  unfold PhiM at h ⊢
  cases e : tags[k]? with
  | none => trivial
  | some t =>
    rw [e] at h
    cases t with
    | fix u => exact h
    | row L =>
      obtain ⟨b, h1, h2, h3⟩ := h
      exact ⟨b, h1, h2, (hm b h2 (blk_lt h3)).trans h3⟩
    | mode L => exact h
    | ex =>
      obtain ⟨x, A, c, h1, h2, h3, h4⟩ := h
      exact ⟨x, A, c, h1, h2, h3, Kd.F_step h4 hm⟩
    | exs n =>
      obtain ⟨b, xs, h1, h2, h3, h4⟩ := h
      exact ⟨b, xs, h1, h2, h3, Kd.F_step h4 hm⟩
    | stm k0 =>
      obtain ⟨x, cs, h1, h2, h3, h4⟩ := h
      exact ⟨x, cs, h1, h2, h3, Kd.FK_step h4 hm⟩
    | any => trivial
theorem PhiM.chg {vals : Int} {nl D : Nat} {R : List ByteArray} {wd w w' : World} {tags : List Tag} {k : Nat} {v : Value} {F : Nat → Prop} (h : PhiM vals nl D R wd tags k v w) (hc : Chg F w w') (hF : ∀ j, F j → j < wd.heap.size) : PhiM vals nl D R wd tags k v w' :=
  h.move (fun j h1 h2 => hc.block j h2 (fun e => by have := hF j e; omega))
abbrev zStm : Obj := .cells #[.int .i64 0, .int .i64 0, .string ⟨#[]⟩, .string ⟨#[]⟩, .slice none 0 0, .slice none 0 0, .slice none 0 0] 55 (0, 0)
/-- Where the world stands while a statement is made: m the maker, s the statement's place, z the store. -/
structure JM (w0 wd : World) (m s : Nat) (vals : Int) (nl D : Nat) (R : List ByteArray) (k0 : Int) (z : Nat) (f : Nat → Bool) (w : World) : Prop where
  ms : MS w0 w m
  chg : Chg (fun k => k = m ∨ k = s) wd w
  zb : f z = false → w.heap[s]? = some zStm
  st : f z = true → ∃ (x : TStmt) (cs : List Value), w.heap[s]? = some (.cells cs.toArray 55 (0, 0)) ∧ x.f0 = k0 ∧ gdS vals nl (recB vals nl D) R x ∧ Kd.FK kStmt w (fun k => wd.heap.size ≤ k) x cs
theorem JM.other {w0 wd w : World} {m s : Nat} {vals : Int} {nl D : Nat} {R : List ByteArray} {k0 : Int} {z : Nat} {f : Nat → Bool} (h : JM w0 wd m s vals nl D R k0 z f w) {i : Nat} (hi : z ≠ i) : JM w0 wd m s vals nl D R k0 z (upd f i) w :=
  ⟨h.ms, h.chg, fun e => h.zb ((upd_ne f hi).symm.trans e), fun e => h.st ((upd_ne f hi).symm.trans e)⟩
theorem JM.call {w0 wd w w' : World} {m s : Nat} {vals : Int} {nl D : Nat} {R : List ByteArray} {k0 : Int} {z : Nat} {f : Nat → Bool} (h : JM w0 wd m s vals nl D R k0 z f w) (hz : f z = false) (hm : MS w0 w' m) (hc : Chg (fun k => k = m) w w') (hne : m ≠ s) : JM w0 wd m s vals nl D R k0 z f w' :=
  ⟨hm, h.chg.step (hc.mono (fun _ e => .inl e)), fun e => hc.heap (h.zb e) (fun q => hne q.symm), fun e => absurd (hz.symm.trans e) (by decide)⟩
theorem JM.below {w0 wd w w' : World} {m s : Nat} {vals : Int} {nl D : Nat} {R : List ByteArray} {k0 : Int} {z : Nat} {f : Nat → Bool} (h : JM w0 wd m s vals nl D R k0 z f w) (hz : f z = false) (hb : Below w.heap.size w w') : JM w0 wd m s vals nl D R k0 z f w' :=
  ⟨h.ms.step hb, h.chg.step (Chg.of_below hb), fun e => blk_below (h.zb e) hb, fun e => absurd (hz.symm.trans e) (by decide)⟩
theorem exs_one {w : World} {ok : Nat → Prop} {b : Nat} {x : TExpr} {A : Option Addr} {c : Nat} (hb : w.heap[b]? = some (.cells #[.int .i64 x.f0, .int .i64 x.f1, .string x.f2, .slice A x.f3.length c] 57 (0, 0))) (ho : ok b) (hl : x.f3.length ≤ c) (hF : Kd.F kExpr w ok A x.f3.length x.f3) : Kd.F kExpr w ok (some ⟨b, 0, none⟩) 1 [x] :=
  fun W' hW => C_one ((hW b ho (blk_lt hb)).trans hb) (k57_mk W' x hl (hF W' hW))
theorem exs_two {w : World} {ok : Nat → Prop} {b : Nat} {x y : TExpr} {A A' : Option Addr} {c c' : Nat} (hb : w.heap[b]? = some (.cells #[.int .i64 x.f0, .int .i64 x.f1, .string x.f2, .slice A x.f3.length c, .int .i64 y.f0, .int .i64 y.f1, .string y.f2, .slice A' y.f3.length c'] 57 (0, 0))) (ho : ok b) (hl : x.f3.length ≤ c) (hF : Kd.F kExpr w ok A x.f3.length x.f3) (hl' : y.f3.length ≤ c') (hF' : Kd.F kExpr w ok A' y.f3.length y.f3) : Kd.F kExpr w ok (some ⟨b, 0, none⟩) 2 [x, y] :=
  fun W' hW => C_two ((hW b ho (blk_lt hb)).trans hb) (k57_mk W' x hl (hF W' hW)) (k57_mk W' y hl' (hF' W' hW)) rfl
theorem stm_FK {w : World} {ok : Nat → Prop} (k m : Int) (r l : ByteArray) {A : Option Addr} {c : Nat} (xs : List TExpr) (hl : xs.length ≤ c) (hF : Kd.F kExpr w ok A xs.length xs) : Kd.FK kStmt w ok ⟨k, m, r, l, xs, [], []⟩ [.int .i64 k, .int .i64 m, .string r, .string l, .slice A xs.length c, .slice none 0 0, .slice none 0 0] :=
  k55_mkF w ok ⟨k, m, r, l, xs, [], []⟩ hl hF (Nat.le_refl 0) (Kd.F_nil _ _ _) (Nat.le_refl 0) (Kd.F_nil _ _ _)
theorem consts_C {w : World} {b : Nat} {L : List Int} (h : w.heap[b]? = some (.cells (L.map (fun n => Value.int .i64 n)).toArray 3 (0, 0))) (hL : L.length ≤ 100) : Kd.C (Kd.int .i64) w (some ⟨b, 0, none⟩) L.length L := by
  refine ⟨rfl, by omega, fun _ => ⟨_, rfl, ?_⟩⟩
  intro j p hp
  refine ⟨[.int .i64 p], rfl, rfl, fun i u hu => ?_⟩
  have hi : i = 0 := by
    have := (List.getElem?_eq_some_iff.1 hu).1
    simp at this; exact this
  subst hi
  obtain rfl : Value.int .i64 p = u := by simpa using hu
  have := blk_cell h j
  have e : (Addr.add ⟨b, 0, none⟩ (j * (Kd.int .i64).sz + 0)) = ⟨b, j, none⟩ := by simp [Addr.add, Kd.int, Kd.scalar]; omega
  rw [e, this]
  simp [hp]
theorem put7 {W : World} {s : Nat} {t : TypeId} {a0 a1 a2 a3 a4 a5 a6 : Value} (h : W.heap[s]? = some (.cells #[a0, a1, a2, a3, a4, a5, a6] t (0, 0))) (b0 b1 b2 b3 b4 b5 b6 : Value) :
    (((((((W.setCell ⟨s, 0, none⟩ b0).setCell ⟨s, 1, none⟩ b1).setCell ⟨s, 2, none⟩ b2).setCell ⟨s, 3, none⟩ b3).setCell ⟨s, 4, none⟩ b4).setCell ⟨s, 5, none⟩ b5).setCell ⟨s, 6, none⟩ b6).heap[s]? = some (.cells #[b0, b1, b2, b3, b4, b5, b6] t (0, 0))
    ∧ Chg (fun k => k = s) W (((((((W.setCell ⟨s, 0, none⟩ b0).setCell ⟨s, 1, none⟩ b1).setCell ⟨s, 2, none⟩ b2).setCell ⟨s, 3, none⟩ b3).setCell ⟨s, 4, none⟩ b4).setCell ⟨s, 5, none⟩ b5).setCell ⟨s, 6, none⟩ b6) := by
  have h1 := blk_put h 0 b0 (show Array.setIfInBounds #[a0, a1, a2, a3, a4, a5, a6] 0 b0 = #[b0, a1, a2, a3, a4, a5, a6] from rfl)
  have h2 := blk_put h1 1 b1 (show Array.setIfInBounds #[b0, a1, a2, a3, a4, a5, a6] 1 b1 = #[b0, b1, a2, a3, a4, a5, a6] from rfl)
  have h3 := blk_put h2 2 b2 (show Array.setIfInBounds #[b0, b1, a2, a3, a4, a5, a6] 2 b2 = #[b0, b1, b2, a3, a4, a5, a6] from rfl)
  have h4 := blk_put h3 3 b3 (show Array.setIfInBounds #[b0, b1, b2, a3, a4, a5, a6] 3 b3 = #[b0, b1, b2, b3, a4, a5, a6] from rfl)
  have h5 := blk_put h4 4 b4 (show Array.setIfInBounds #[b0, b1, b2, b3, a4, a5, a6] 4 b4 = #[b0, b1, b2, b3, b4, a5, a6] from rfl)
  have h6 := blk_put h5 5 b5 (show Array.setIfInBounds #[b0, b1, b2, b3, b4, a5, a6] 5 b5 = #[b0, b1, b2, b3, b4, b5, a6] from rfl)
  have h7 := blk_put h6 6 b6 (show Array.setIfInBounds #[b0, b1, b2, b3, b4, b5, a6] 6 b6 = #[b0, b1, b2, b3, b4, b5, b6] from rfl)
  exact ⟨h7, (((((chg_set _ _ _ _).step (chg_set _ _ _ _)).step (chg_set _ _ _ _)).step (chg_set _ _ _ _)).step (chg_set _ _ _ _)).step (chg_set _ _ _ _) |>.step (chg_set _ _ _ _)⟩
theorem gd_mk {vals : Int} {nl : Nat} {rec : List ByteArray → List TStmt → Prop} {R : List ByteArray} (k m : Int) (r l : ByteArray) (xs : List TExpr) (h1 : 1 ≤ k) (h7 : k ≤ 7) (hm : m ∈ modesF k) (hl : (xs.length : Int) = argsF k) (ha : ∀ a ∈ xs, ∃ d, d ≤ 2 ∧ geE vals R d a) (hr : if regF k = true then r ∈ nm4 else r = ⟨#[]⟩) (hloc : if locF k = true then l ∈ loc4.take nl else l = ⟨#[]⟩) (hb : bodyF k = false) : gdS vals nl rec R ⟨k, m, r, l, xs, [], []⟩ :=
  ⟨h1, h7, hm, hl, ha, hr, hloc, by show (if bodyF k = true then _ else _); rw [hb, if_neg (by decide)]; exact ⟨rfl, rfl⟩⟩
/-- Behind the switch. -/
def SW (w0 wr wx : World) (m s : Nat) (vals : Int) (nl D : Nat) (R : List ByteArray) : Prop := MS w0 wx m ∧ Chg (fun k => k = m ∨ k = s) wr wx ∧ ∃ (x : TStmt) (cs : List Value), wx.heap[s]? = some (.cells cs.toArray 55 (0, 0)) ∧ gdS vals nl (recB vals nl D) R x ∧ Kd.FK kStmt wx (fun k => s < k) x cs
theorem sw_put {w0 wr w7 : World} {m s : Nat} {vals : Int} {nl D : Nat} {R : List ByteArray} (hm : MS w0 w7 m) (hc : Chg (fun k => k = m ∨ k = s) wr w7) (hz : w7.heap[s]? = some zStm) (hne : m ≠ s) (hs : w0.heap.size ≤ s) (k md : Int) (r l : ByteArray) {A : Option Addr} {c : Nat} (xs : List TExpr) (hl : xs.length ≤ c) (hF : Kd.F kExpr w7 (fun j => s < j) A xs.length xs) (hg : gdS vals nl (recB vals nl D) R ⟨k, md, r, l, xs, [], []⟩) :
    SW w0 wr (((((((w7.setCell ⟨s, 0, none⟩ (.int .i64 k)).setCell ⟨s, 1, none⟩ (.int .i64 md)).setCell ⟨s, 2, none⟩ (.string r)).setCell ⟨s, 3, none⟩ (.string l)).setCell ⟨s, 4, none⟩ (.slice A xs.length c)).setCell ⟨s, 5, none⟩ (.slice none 0 0)).setCell ⟨s, 6, none⟩ (.slice none 0 0)) m s vals nl D R := by
  obtain ⟨hb, hch⟩ := put7 hz (.int .i64 k) (.int .i64 md) (.string r) (.string l) (.slice A xs.length c) (.slice none 0 0) (.slice none 0 0)
  exact ⟨hm.chg hch hne (fun _ e => e ▸ hs), hc.step (hch.mono (fun _ e => .inr e)), _, _, hb, hg, Kd.FK_step (stm_FK k md r l xs hl hF) (fun j h1 h2 => hch.block j h2 (fun e => by omega))⟩
theorem sw_put1 {w0 wr w7 : World} {m s : Nat} (hm : MS w0 w7 m) (hc : Chg (fun k => k = m ∨ k = s) wr w7) (hz : w7.heap[s]? = some zStm) (hne : m ≠ s) (hs : w0.heap.size ≤ s) (k md : Int) (r l : ByteArray) (x : TExpr) {A : Option Addr} {c : Nat} (hl : x.f3.length ≤ c) (hF : Kd.F kExpr w7 (fun j => s < j) A x.f3.length x.f3) :
    ∃ W, W = (((((((w7.setCell ⟨s, 0, none⟩ (.int .i64 k)).setCell ⟨s, 1, none⟩ (.int .i64 md)).setCell ⟨s, 2, none⟩ (.string r)).setCell ⟨s, 3, none⟩ (.string l)).setCell ⟨s, 4, none⟩ (.slice (some ⟨w7.heap.size, 0, none⟩) 1 1)).setCell ⟨s, 5, none⟩ (.slice none 0 0)).setCell ⟨s, 6, none⟩ (.slice none 0 0)).alloc (.cells #[.int .i64 x.f0, .int .i64 x.f1, .string x.f2, .slice A x.f3.length c] 57 (0, 0)) ∧
      MS w0 W m ∧ Chg (fun k => k = m ∨ k = s) wr W ∧ W.heap[s]? = some (.cells #[.int .i64 k, .int .i64 md, .string r, .string l, .slice (some ⟨w7.heap.size, 0, none⟩) 1 1, .slice none 0 0, .slice none 0 0] 55 (0, 0)) ∧ Kd.F kExpr W (fun j => s < j) (some ⟨w7.heap.size, 0, none⟩) 1 [x] := by
  obtain ⟨hb, hch⟩ := put7 hz (.int .i64 k) (.int .i64 md) (.string r) (.string l) (.slice (some ⟨w7.heap.size, 0, none⟩) 1 1) (.slice none 0 0) (.slice none 0 0)
  have hlt := blk_lt hz
  refine ⟨_, rfl, ?_, ?_, blk_alloc hb _, ?_⟩
  · exact (hm.chg hch hne (fun _ e => e ▸ hs)).step (below_al (Below.refl _ _) _)
  · exact (hc.step (hch.mono (fun _ e => .inr e))).step (Chg.of_below (below_al (Below.refl _ _) _))
  · exact exs_one (alloc_at _ _ _ (by simp only [World.size_setCell])) hlt hl (Kd.F_alloc (Kd.F_step hF (fun j h1 h2 => hch.block j h2 (fun e => by omega))) _)
theorem drawn_below' {w w' : World} (h : Drawn0 w w') : Below w.heap.size w w' := by
  obtain ⟨n, rfl⟩ := h; exact pw_below_drewN (Below.refl _ _) n
/-- The round's start. -/
structure SMk (w0 w wr : World) (m hb : Nat) (vals : Int) (nl D : Nat) (R0 : List ByteArray) (i : Nat) (l : List TStmt) (R : List ByteArray) (vo vr : Value) : Prop where
  ms : MS w0 wr m
  hbk : wr.heap[hb]? = some (.cells #[.int .i64 vals, .int .i64 nl, .bool false, .bool false] 94 (0, 0))
  hw : w.heap.size ≤ hb
  ml : m < w.heap.size
  chg : Chg (fun k => k = m) w wr
  rg : RG w0 wr vr R
  nn : Kd.N kStmt 55 wr w.heap.size (fun k => w.heap.size ≤ k) vo l
  gd : gdB vals nl D R0 l R
  len : l.length ≤ i
  rl : R.length ≤ R0.length + i
/-- A statement is laid behind the others. -/
theorem SMk.app {w0 w wr W w9 : World} {m : Nat} {vals : Int} {nl D : Nat} {R0 : List ByteArray} {i : Nat} {l : List TStmt} {R : List ByteArray} {vo vr : Value} (h : SMk w0 w wr m w.heap.size vals nl D R0 i l R vo vr)
    (hm : MS w0 W m) (hc : Chg (fun k => k = m ∨ k = wr.heap.size) wr W) (hz : ∃ cs, W.heap[wr.heap.size]? = some (.cells cs 55 (0, 0)))
    (hb : Below w.heap.size W w9) (hg : W.grownBy w9 vo.ownBlock) : MS w0 w9 m ∧ w9.heap[w.heap.size]? = some (.cells #[.int .i64 vals, .int .i64 nl, .bool false, .bool false] 94 (0, 0)) ∧ Chg (fun k => k = m) w w9 ∧ RG w0 w9 vr R := by
  have hml := h.ml
  have hbl := blk_lt h.hbk
  have hw0 := h.ms.ge
  have hcg : Chg (fun k => some k = vo.ownBlock) W w9 := Chg.grown (F := fun k => some k = vo.ownBlock) hg (fun k hk => hk.symm)
  have hown : ∀ k, some k = vo.ownBlock → w.heap.size ≤ k ∧ ∃ cs, wr.heap[k]? = some (.cells cs 55 (0, 0)) := fun k hk => ⟨Kd.N_base h.nn k hk.symm, Kd.N_typed h.nn k hk.symm⟩
  have hbW : W.heap[w.heap.size]? = some (.cells #[.int .i64 vals, .int .i64 nl, .bool false, .bool false] 94 (0, 0)) := hc.heap h.hbk (fun e => by omega)
  have hRG : RG w0 W vr R := h.rg.chg hc (fun k hk hlt => by
    rcases hk with rfl | rfl
    · obtain ⟨cs, hcs⟩ := h.ms.typ; exact ⟨cs, _, hcs, by decide⟩
    · exact absurd hlt (Nat.lt_irrefl _))
  refine ⟨hm.chg hcg (fun e => by have := (hown m e).1; omega) (fun k e => Nat.le_trans (Nat.le_trans hw0 (Nat.le_of_lt hml)) (hown k e).1), hcg.heap hbW (fun e => ?_), ?_, hRG.chg hcg (fun k hk hlt => ?_)⟩
  · obtain ⟨cs, hcs⟩ := (hown _ e).2
    rw [h.hbk] at hcs
    injection hcs with h1
    injection h1 with _ h2
    exact absurd h2 (by decide)
  · refine (h.chg.trans hc (fun k hk e => ?_)).trans hcg (fun k hk e => ?_)
    · rcases e with e | e
      · exact e
      · have := h.chg.size; omega
    · have := (hown k e).1; omega
  · obtain ⟨cs, hcs⟩ := (hown k hk).2
    by_cases hkm : k = m
    · subst hkm; have := (hown k hk).1; omega
    · exact ⟨cs, _, hc.heap hcs (fun e => by rcases e with e | e; exact hkm e; have := blk_lt hcs; omega), by decide⟩
theorem SMk.nW {w0 w wr W : World} {m : Nat} {vals : Int} {nl D : Nat} {R0 : List ByteArray} {i : Nat} {l : List TStmt} {R : List ByteArray} {vo vr : Value} (h : SMk w0 w wr m w.heap.size vals nl D R0 i l R vo vr) (hc : Chg (fun k => k = m ∨ k = wr.heap.size) wr W) : Kd.N kStmt 55 W w.heap.size (fun k => w.heap.size ≤ k) vo l :=
  Kd.N_step h.nn (fun k hk hlt => hc.block k hlt (fun e => by have := h.ml; omega))
/-- An if under way, as it lies. -/
structure IFS (w0 wr W : World) (m s : Nat) (b : Nat) (xe : TExpr) (A5 : Option Addr) (c5 : Nat) (l5 : List TStmt) (A6 : Option Addr) (c6 : Nat) (l6 : List TStmt) : Prop where
  ms : MS w0 W m
  chg : Chg (fun k => k = m ∨ k = s) wr W
  sb : W.heap[s]? = some (.cells #[.int .i64 7, .int .i64 0, .string ⟨#[]⟩, .string ⟨#[]⟩, .slice (some ⟨b, 0, none⟩) 1 1, .slice A5 l5.length c5, .slice A6 l6.length c6] 55 (0, 0))
  fe : Kd.F kExpr W (fun j => s < j) (some ⟨b, 0, none⟩) 1 [xe]
  h5 : l5.length ≤ c5
  f5 : Kd.F kStmt W (fun j => s < j) A5 l5.length l5
  h6 : l6.length ≤ c6
  f6 : Kd.F kStmt W (fun j => s < j) A6 l6.length l6
theorem IFS.call {w0 wr W W' : World} {m s b : Nat} {xe : TExpr} {A5 A6 : Option Addr} {c5 c6 : Nat} {l5 l6 : List TStmt} (h : IFS w0 wr W m s b xe A5 c5 l5 A6 c6 l6) (hms : m < s) (hm : MS w0 W' m) (hc : Chg (fun k => k = m) W W') : IFS w0 wr W' m s b xe A5 c5 l5 A6 c6 l6 :=
  ⟨hm, h.chg.step (hc.mono (fun _ e => .inl e)), hc.heap h.sb (fun e => by omega), Kd.F_step h.fe (fun j h1 h2 => hc.block j h2 (fun e => by omega)), h.h5, Kd.F_step h.f5 (fun j h1 h2 => hc.block j h2 (fun e => by omega)), h.h6, Kd.F_step h.f6 (fun j h1 h2 => hc.block j h2 (fun e => by omega))⟩
theorem IFS.set5 {w0 wr W : World} {m s b : Nat} {xe : TExpr} {A5 A6 : Option Addr} {c5 c6 : Nat} {l5 l6 : List TStmt} (h : IFS w0 wr W m s b xe A5 c5 l5 A6 c6 l6) (hms : m < s) (hs : w0.heap.size ≤ s) {A : Option Addr} {c : Nat} {l : List TStmt} (hl : l.length ≤ c) (hF : Kd.F kStmt W (fun j => s < j) A l.length l) : IFS w0 wr (W.setCell ⟨s, 5, none⟩ (.slice A l.length c)) m s b xe A c l A6 c6 l6 := by
  have hc := chg_set W s 5 (.slice A l.length c)
  exact ⟨h.ms.set (p := ⟨s, 5, none⟩) (by show m ≠ s; omega) hs _, h.chg.step (hc.mono (fun _ e => .inr e)), blk_put h.sb 5 _ rfl, Kd.F_step h.fe (fun j h1 h2 => hc.block j h2 (fun e => by omega)), hl, Kd.F_step hF (fun j h1 h2 => hc.block j h2 (fun e => by omega)), h.h6, Kd.F_step h.f6 (fun j h1 h2 => hc.block j h2 (fun e => by omega))⟩
theorem IFS.set6 {w0 wr W : World} {m s b : Nat} {xe : TExpr} {A5 A6 : Option Addr} {c5 c6 : Nat} {l5 l6 : List TStmt} (h : IFS w0 wr W m s b xe A5 c5 l5 A6 c6 l6) (hms : m < s) (hs : w0.heap.size ≤ s) {A : Option Addr} {c : Nat} {l : List TStmt} (hl : l.length ≤ c) (hF : Kd.F kStmt W (fun j => s < j) A l.length l) : IFS w0 wr (W.setCell ⟨s, 6, none⟩ (.slice A l.length c)) m s b xe A5 c5 l5 A c l := by
  have hc := chg_set W s 6 (.slice A l.length c)
  exact ⟨h.ms.set (p := ⟨s, 6, none⟩) (by show m ≠ s; omega) hs _, h.chg.step (hc.mono (fun _ e => .inr e)), blk_put h.sb 6 _ rfl, Kd.F_step h.fe (fun j h1 h2 => hc.block j h2 (fun e => by omega)), h.h5, Kd.F_step h.f5 (fun j h1 h2 => hc.block j h2 (fun e => by omega)), hl, Kd.F_step hF (fun j h1 h2 => hc.block j h2 (fun e => by omega))⟩
theorem IFS.fk {w0 wr W : World} {m s b : Nat} {xe : TExpr} {A5 A6 : Option Addr} {c5 c6 : Nat} {l5 l6 : List TStmt} (h : IFS w0 wr W m s b xe A5 c5 l5 A6 c6 l6) : Kd.FK kStmt W (fun j => s < j) ⟨7, 0, ⟨#[]⟩, ⟨#[]⟩, [xe], l5, l6⟩ [.int .i64 7, .int .i64 0, .string ⟨#[]⟩, .string ⟨#[]⟩, .slice (some ⟨b, 0, none⟩) 1 1, .slice A5 l5.length c5, .slice A6 l6.length c6] :=
  k55_mkF W _ ⟨7, 0, ⟨#[]⟩, ⟨#[]⟩, [xe], l5, l6⟩ (Nat.le_refl 1) h.fe h.h5 h.f5 h.h6 h.f6
theorem gd_if {vals : Int} {nl D D1 : Nat} {R : List ByteArray} (hD : D1 = D + 1) (xe : TExpr) (l5 l6 : List TStmt) (hg : geE vals R 1 xe) (h5 : l5.length ≤ 1 ∧ ∃ R', gdB vals nl D R l5 R') (h6 : l6.length ≤ 1 ∧ ∃ R', gdB vals nl D R l6 R') : gdS vals nl (recB vals nl D1) R ⟨7, 0, ⟨#[]⟩, ⟨#[]⟩, [xe], l5, l6⟩ := by
  subst hD
  exact ⟨show (1 : Int) ≤ 7 by decide, show (7 : Int) ≤ 7 by decide, show (0 : Int) ∈ modesF 7 by decide, rfl, fun a ha => by obtain rfl := List.mem_singleton.1 ha; exact ⟨1, by decide, hg⟩, rfl, rfl, h5, h6⟩
theorem nextR_nil (R : List ByteArray) : nextR R ⟨#[]⟩ = R := if_pos (by kernel_rfl)
theorem gdB_nil (vals : Int) (nl D : Nat) (R : List ByteArray) : gdB vals nl D R [] R := by rw [gdB_eq]; rfl
end Go.Proofs.Ytlhbnbckanmaiaa.K
