/- A text of a claim (ours): CheckInits: the walk; conditions: none of ours. -/
import Derived.Test.YtlhbnbckanmaiaaMAT
import Derived.Test.YtlhbnbckanmaiaaM6T
namespace Go.Proofs.Ytlhbnbckanmaiaa.K
open Go Go.RowKit Go.Proofs.YtlhbnbckanmaiaaW.PrintWords Go.Proofs.YtlhbnbckanmaiaaW.PrintLast Go.Proofs.YtlhbnbckanmaiaaW.PrintMore Go.Proofs.Ytlhbnbckanmaiaa.PC1
set_option linter.unusedVariables false
set_option linter.unusedSimpArgs false
theorem has_of {l : List ByteArray} {s : ByteArray} (h : s ∈ l) : hasB l s = true := by
  unfold hasB; rw [List.any_eq_true]; exact ⟨s, h, beq_self_eq_true _⟩
theorem has_app (l m : List ByteArray) (s : ByteArray) : hasB (l ++ m) s = (hasB l s || hasB m s) := by unfold hasB; rw [List.any_append]
theorem not_has {l : List ByteArray} {s : ByteArray} (h : hasB l s = false) : s ∉ l := fun hm => by rw [has_of hm] at h; cases h
theorem nodup_len : ∀ (l m : List ByteArray), l.Nodup → (∀ x ∈ l, x ∈ m) → l.length ≤ m.length
  | [], m, _, _ => Nat.zero_le _
  | x :: l, m, hn, hs => by
    obtain ⟨s, t, rfl⟩ := List.append_of_mem (hs x (by simp))
    have h1 := List.nodup_cons.1 hn
    have h2 := nodup_len l (s ++ t) h1.2 (fun y hy => by
      rcases List.mem_append.1 (hs y (by simp [hy])) with q | q
      · exact List.mem_append.2 (.inl q)
      · rcases List.mem_cons.1 q with e | q
        · exact absurd (e ▸ hy) h1.1
        · exact List.mem_append.2 (.inr q))
    simp only [List.length_cons, List.length_append] at h2 ⊢; omega
/-- An expression that is made, opened. -/
theorem geE_open {vals : Int} {R : List ByteArray} {d : Nat} {op n : Int} {nm : ByteArray} {kids : List TExpr} (h : geE vals R d ⟨op, n, nm, kids⟩) :
    (op = 1 ∧ 0 ≤ n ∧ n < vals ∧ nm = ⟨#[]⟩ ∧ kids = []) ∨ (op = 2 ∧ n = 0 ∧ nm ∈ R ∧ kids = []) ∨ ∃ d', d = d' + 1 ∧ 3 ≤ op ∧ op ≤ 6 ∧ n = 0 ∧ nm = ⟨#[]⟩ ∧ ∃ a b, kids = [a, b] ∧ geE vals R d' a ∧ geE vals R d' b := by
  cases d with
  | zero =>
    rw [geE] at h
    rcases h with h | h | h
    · exact .inl h
    · exact .inr (.inl h)
    · exact absurd h (by simp)
  | succ d =>
    rw [geE] at h
    rcases h with h | h | h
    · exact .inl h
    · exact .inr (.inl h)
    · exact .inr (.inr ⟨d, rfl, h⟩)
/-! ### expressions -/
theorem need0 (ok : Bool) (c : Int) (h : ok = true) : needE ok c 0 = 0 := by subst h; rfl
theorem dep_good (vals : Int) (R : List ByteArray) : ∀ (n d : Nat) (x : TExpr), geE vals R d x → depE n x ≤ (d : Int) + 1
  | 0, d, x, h => by rw [depE]; omega
  | n + 1, d, ⟨op, k, nm, kids⟩, h => by
    rw [depE]
    rcases geE_open h with ⟨_, _, _, _, hk⟩ | ⟨_, _, _, hk⟩ | ⟨d, rfl, _, _, _, _, a, b, hk, ha, hb⟩
    · subst hk; simp only [List.foldl_nil]; omega
    · subst hk; simp only [List.foldl_nil]; omega
    · subst hk
      have h1 := dep_good vals R n d a ha
      have h2 := dep_good vals R n d b hb
      simp only [List.foldl_cons, List.foldl_nil]
      omega
theorem head5 {b1 b2 b3 b4 b5 : Bool} {c1 c2 c3 c4 c5 : Int} (h1 : b1 = true) (h2 : b2 = true) (h3 : b3 = true) (h4 : b4 = true) (h5 : b5 = true) : needE b5 c5 (needE b4 c4 (needE b3 c3 (needE b2 c2 (needE b1 c1 0)))) = 0 := by
  rw [need0 _ _ h1, need0 _ _ h2, need0 _ _ h3, need0 _ _ h4, need0 _ _ h5]
theorem empty_nil : ((⟨#[]⟩ : ByteArray).toList == []) = true := by decide +kernel
theorem expr_good (vals : Int) (R known : List ByteArray) (hk : ∀ r ∈ R, hasB known r = true) : ∀ (d : Nat) (x : TExpr), geE vals R d x → exprF vals known 0 x = 0
  | d, ⟨op, n, nm, kids⟩, h => by
    rw [exprF, if_pos rfl]
    rcases geE_open h with ⟨h1, h2, h3, h4, h5⟩ | ⟨h1, h2, h3, h5⟩ | ⟨d, rfl, h1, h2, h3, h4, a, b, h5, ha, hb⟩
    · subst h1 h4 h5
      rw [exprFs]
      unfold exprHead
      exact head5 (by decide) (by decide) (by rw [empty_nil]; rfl) (by simp [valB, h2, h3]) rfl
    · subst h1 h2 h5
      rw [exprFs]
      unfold exprHead
      exact head5 (by decide) (by decide) rfl rfl (by simp [hk nm h3])
    · subst h3 h4 h5
      have hl : leafB op = false := by unfold leafB; rw [beq_eq_false_iff_ne.2 (by omega), beq_eq_false_iff_ne.2 (by omega)]; rfl
      have e1 : (op == 1) = false := beq_eq_false_iff_ne.2 (by omega)
      have e2 : (op == 2) = false := beq_eq_false_iff_ne.2 (by omega)
      have hh : exprHead vals known op 0 ⟨#[]⟩ [a, b].length 0 = 0 := by
        unfold exprHead
        exact head5 (by simp; omega) (by simp [hl]) (by rw [e1, e2, empty_nil]; rfl) (by rw [e1]; rfl) (by rw [e2]; rfl)
      rw [hh, exprFs, exprFs, exprFs, expr_good vals R known hk d a ha, expr_good vals R known hk d b hb]
theorem args_good (vals : Int) (R known : List ByteArray) (hk : ∀ r ∈ R, hasB known r = true) : ∀ (l : List TExpr), (∀ a ∈ l, ∃ d, d ≤ 2 ∧ geE vals R d a) → argsE vals known 0 l = 0
  | [], _ => by rw [argsE]
  | x :: xs, h => by
    obtain ⟨d, hd, hx⟩ := h x (by simp)
    have h1 := dep_good vals R 7 d x hx
    rw [argsE, need0 _ _ (by simp; omega), expr_good vals R known hk d x hx]
    exact args_good vals R known hk xs (fun a ha => h a (by simp [ha]))
theorem sme_good (vals : Int) (R : List ByteArray) (hR : ∀ r ∈ R, r ∈ nm4) : ∀ (d : Nat) (x : TExpr), geE vals R d x → smE x
  | d, ⟨op, n, nm, kids⟩, h => by
    rw [smE]
    rcases geE_open h with ⟨h1, h2, h3, h4, h5⟩ | ⟨h1, h2, h3, h5⟩ | ⟨d, rfl, h1, h2, h3, h4, a, b, h5, ha, hb⟩
    · subst h4 h5; exact ⟨by decide, by decide, by simp [smEs]⟩
    · subst h5
      have h6 := hR nm h3
      refine ⟨?_, by decide, by simp [smEs]⟩
      simp only [nm4, List.mem_cons, List.not_mem_nil, or_false] at h6
      rcases h6 with rfl | rfl | rfl | rfl <;> decide
    · subst h4 h5
      exact ⟨by decide, by simp, by simp only [smEs]; exact ⟨sme_good vals R hR d a ha, sme_good vals R hR d b hb, trivial⟩⟩
theorem smes_good (vals : Int) (R : List ByteArray) (hR : ∀ r ∈ R, r ∈ nm4) : ∀ (l : List TExpr), (∀ a ∈ l, ∃ d, d ≤ 2 ∧ geE vals R d a) → smEs l
  | [], _ => by simp [smEs]
  | x :: xs, h => by
    obtain ⟨d, hd, hx⟩ := h x (by simp)
    rw [smEs]
    exact ⟨sme_good vals R hR d x hx, smes_good vals R hR xs (fun a ha => h a (by simp [ha]))⟩
/-! ### names -/
/-- What the program names: its locations and values. -/
structure Gd (P : AP) (vals : Int) (nl : Nat) : Prop where
  vs : P.vals = vals
  lo : P.init.map (fun c => c.f0) = loc4.take nl
  n1 : 1 ≤ nl
  n4 : nl ≤ 4
theorem locB_eq (l : List TCell) (s : ByteArray) : locB l s = hasB (l.map (fun c => c.f0)) s := by unfold locB hasB; rw [List.any_map]; rfl
theorem nm_name (s : ByteArray) (h : s ∈ nm4) : nameB s = true := by
  simp only [nm4, List.mem_cons, List.not_mem_nil, or_false] at h
  rcases h with rfl | rfl | rfl | rfl <;> kernel_rfl
theorem nm_loc0 : ∀ s ∈ nm4, ∀ nl ∈ [0, 1, 2, 3, 4], hasB (loc4.take nl) s = false := by decide +kernel
theorem nm_loc (s : ByteArray) (h : s ∈ nm4) (nl : Nat) (hn : nl ≤ 4) : hasB (loc4.take nl) s = false := nm_loc0 s h nl (by
  have : nl = 0 ∨ nl = 1 ∨ nl = 2 ∨ nl = 3 ∨ nl = 4 := by omega
  simpa using this)
theorem nm_ne0 : ∀ s ∈ nm4, s.toList ≠ [] := by decide +kernel
theorem nm_ne (s : ByteArray) (h : s ∈ nm4) : s.toList ≠ [] := nm_ne0 s h
theorem nm_size (s : ByteArray) (h : s ∈ nm4) : s.size ≤ 1000 := by
  simp only [nm4, List.mem_cons, List.not_mem_nil, or_false] at h
  rcases h with rfl | rfl | rfl | rfl <;> decide
theorem loc_size (s : ByteArray) (nl : Nat) (h : s ∈ loc4.take nl) : s.size ≤ 1000 := by
  have h := List.mem_of_mem_take h
  simp only [loc4, List.mem_cons, List.not_mem_nil, or_false] at h
  rcases h with rfl | rfl | rfl | rfl <;> decide
/-! ### registers -/
/-- The names that check knows: those of the maker at least, four at most. -/
structure Kn (R regs : List ByteArray) : Prop where
  hk : ∀ r ∈ R, hasB regs r = true
  s4 : ∀ r ∈ regs, r ∈ nm4
  nd : regs.Nodup
  r4 : ∀ r ∈ R, r ∈ nm4
theorem Kn.len {R regs : List ByteArray} (h : Kn R regs) : regs.length ≤ 4 := nodup_len regs nm4 h.nd h.s4
theorem has_addR (regs : List ByteArray) (r s : ByteArray) (h : hasB regs s = true) : hasB (addR regs r) s = true := by
  unfold addR; split
  · exact h
  · rw [has_app, h]; rfl
theorem addR_has (regs : List ByteArray) (r : ByteArray) : hasB (addR regs r) r = true := by
  unfold addR; split
  · assumption
  · rw [has_app, has_of (show r ∈ [r] by simp)]; simp
theorem Kn.add {R regs : List ByteArray} (h : Kn R regs) (r : ByteArray) (hr : r ∈ nm4) : Kn R (addR regs r) :=
  ⟨fun s hs => has_addR regs r s (h.hk s hs), fun s hs => by
      unfold addR at hs; split at hs
      · exact h.s4 s hs
      · rcases List.mem_append.1 hs with q | q
        · exact h.s4 s q
        · rw [List.mem_singleton.1 q]; exact hr, by
      unfold addR; split
      · exact h.nd
      · have hn := not_has (Bool.eq_false_iff.2 (by assumption : ¬ hasB regs r = true))
        rw [List.nodup_append]
        exact ⟨h.nd, by simp, fun a ha b hb => by rw [List.mem_singleton.1 hb]; exact fun e => hn (e ▸ ha)⟩, h.r4⟩
theorem Kn.next {R regs : List ByteArray} (h : Kn R regs) (r : ByteArray) (hr : r ∈ nm4) : Kn (nextR R r) (addR regs r) := by
  have hne := nm_ne r hr
  have ha := h.add r hr
  have hm : ∀ s ∈ nextR R r, s ∈ R ∨ s = r := fun s hs => by
    unfold nextR withF at hs
    rw [if_neg hne] at hs
    split at hs
    · exact .inl hs
    · rcases List.mem_append.1 hs with q | q
      · exact .inl q
      · exact .inr (List.mem_singleton.1 q)
  exact ⟨fun s hs => (hm s hs).elim (ha.hk s) (fun e => by rw [e]; exact addR_has regs r), ha.s4, ha.nd, fun s hs => (hm s hs).elim (h.r4 s) (fun e => e ▸ hr)⟩
theorem Kn.nil : Kn [] [] := ⟨fun r h => by simp at h, fun r h => by simp at h, List.nodup_nil, fun r h => by simp at h⟩
theorem Kn.sub {R R1 regs : List ByteArray} (h : Kn R regs) (hs : ∀ r ∈ R1, r ∈ R) : Kn R1 regs := ⟨fun r hr => h.hk r (hs r hr), h.s4, h.nd, fun r hr => h.r4 r (hs r hr)⟩
/-- What the first known are, where the check's grow. -/
theorem Kn.up {R R' regs regs' : List ByteArray} (h : Kn R regs) (h' : Kn R' regs') (hm : ∀ s, hasB regs s = true → hasB regs' s = true) : Kn R regs' := ⟨fun r hr => hm r (h.hk r hr), h'.s4, h'.nd, h.r4⟩
theorem next_none (R : List ByteArray) (r : ByteArray) (h : r = ⟨#[]⟩) : nextR R r = R := by subst h; unfold nextR; rw [if_pos (by decide +kernel)]
end Go.Proofs.Ytlhbnbckanmaiaa.K
namespace Go.Proofs.Ytlhbnbckanmaiaa.K
open Go Go.RowKit Go.Proofs.YtlhbnbckanmaiaaW.PrintWords Go.Proofs.YtlhbnbckanmaiaaW.PrintLast Go.Proofs.YtlhbnbckanmaiaaW.PrintMore Go.Proofs.Ytlhbnbckanmaiaa.PC1
set_option linter.unusedVariables false
set_option linter.unusedSimpArgs false
theorem body_noreg {k : Int} (h : bodyF k = true) : regF k = false := by
  unfold bodyF at h; have := beq_iff_eq.1 h; subst this; decide
theorem emp_iff : (⟨#[]⟩ : ByteArray).toList.isEmpty = true := by decide +kernel
theorem hasI_of {l : List Int} {s : Int} (h : s ∈ l) : hasI l s = true := by
  unfold hasI; rw [List.any_eq_true]; exact ⟨s, h, beq_self_eq_true _⟩
theorem regs1_of (k : Int) (regs : List ByteArray) (r : ByteArray) : regs1 regs k r = regsOf k regs r := by
  unfold regs1 regsOf addR
  cases regF k <;> cases hasB regs r <;> simp
theorem has_regsOf (k : Int) (regs : List ByteArray) (r s : ByteArray) (h : hasB regs s = true) : hasB (regsOf k regs r) s = true := by
  unfold regsOf; split
  · exact has_addR _ _ _ h
  · exact h
mutual
theorem has_regsS : ∀ (regs : List ByteArray) (x : TStmt) (s : ByteArray), hasB regs s = true → hasB (regsS regs x) s = true
  | regs, ⟨k, _, r, _, _, t, e⟩, s, h => by
    rw [regsS, regs1_of]
    exact has_regsL _ e s (has_regsL _ t s (has_regsOf k regs r s h))
theorem has_regsL : ∀ (regs : List ByteArray) (l : List TStmt) (s : ByteArray), hasB regs s = true → hasB (regsL regs l) s = true
  | regs, [], s, h => by rw [regsL]; exact h
  | regs, x :: xs, s, h => by rw [regsL]; exact has_regsL _ xs s (has_regsS regs x s h)
end
/-- A statement that is made has nothing wrong itself. -/
theorem stmt_good {P : AP} {vals : Int} {nl : Nat} (hg : Gd P vals nl) {rec : List ByteArray → List TStmt → Prop} {R regs : List ByteArray} {x : TStmt} (hx : gdS vals nl rec R x) (hK : Kn R regs) {st deep : Int} (h1 : st ≤ 16) (h2 : deep ≤ 6) : stmtE P st deep regs x 0 = 0 ∧ Kn (nextR R x.f2) (regsOf x.f0 regs x.f2) := by
  obtain ⟨k0, k7, hm, ha, hargs, hr, hl, hb⟩ := hx
  have e1 : st1 st deep 0 = 0 := need0 _ _ (by simp [h1, h2])
  have e2 : st2 x.f0 x.f1 x.f4.length 0 = 0 := need0 _ _ (by
    rw [hasI_of hm, beq_iff_eq.2 ha]; unfold okF; simp [k0, k7])
  have e3 : st3 x.f0 x.f5.length x.f6.length 0 = 0 := need0 _ _ (by
    cases e : bodyF x.f0 with
    | true => rfl
    | false => rw [e, if_neg (by decide)] at hb; rw [hb.1, hb.2]; rfl)
  have e5 : st5 P x.f0 x.f3 0 = 0 := by
    unfold st5
    cases e : locF x.f0 with
    | true => rw [e, if_pos rfl] at hl; rw [if_pos rfl]; exact need0 _ _ (by rw [locB_eq, hg.lo]; exact has_of hl)
    | false => rw [e, if_neg (by decide)] at hl; rw [if_neg (by decide), hl]; exact need0 _ _ emp_iff
  have e6 : argsE P.vals regs 0 x.f4 = 0 := by rw [hg.vs]; exact args_good vals R regs hK.hk x.f4 hargs
  cases e : regF x.f0 with
  | true =>
    rw [e, if_pos rfl] at hr
    have e4 : st4 P x.f0 regs x.f2 0 = 0 := by
      unfold st4
      rw [e, if_pos rfl, need0 (nameB x.f2 && !(locB P.init x.f2)) 4 (by rw [nm_name _ hr, locB_eq, hg.lo, nm_loc _ hr nl hg.n4]; rfl)]
      exact need0 _ _ (by have := (hK.add x.f2 hr).len; simp; omega)
    refine ⟨by unfold stmtE; rw [e1, e2, e3, e4, e5, e6], ?_⟩
    unfold regsOf; rw [e, if_pos rfl]; exact hK.next x.f2 hr
  | false =>
    rw [e, if_neg (by decide)] at hr
    have e4 : st4 P x.f0 regs x.f2 0 = 0 := by unfold st4; rw [e, if_neg (by decide), hr]; exact need0 _ _ emp_iff
    refine ⟨by unfold stmtE; rw [e1, e2, e3, e4, e5, e6], ?_⟩
    unfold regsOf; rw [e, if_neg (by decide), next_none R x.f2 hr]; exact hK
/-- What a block of good statements leaves. -/
def BlockGood (P : AP) (deep : Int) (R : List ByteArray) (l : List TStmt) (R' : List ByteArray) : Prop :=
  ∀ s : BS, Kn R s.regs → s.e = 0 → s.st + cntL l ≤ 16 → blockL P deep s l = ⟨s.part + cntL l, 0, s.st + cntL l, regsL s.regs l⟩ ∧ Kn R' (regsL s.regs l)
theorem BlockGood.nil (P : AP) (deep : Int) (R : List ByteArray) : BlockGood P deep R [] R := fun s hK he _ => by
  rw [blockL, cntL, regsL]
  exact ⟨by cases s; simp at he; simp [he], hK⟩
theorem list_good {P : AP} {vals : Int} {nl : Nat} (hg : Gd P vals nl) {rec : List ByteArray → List TStmt → Prop} {deep : Int} (hd : deep ≤ 6) (hrec : ∀ R l, rec R l → ∃ R', BlockGood P (deep + 1) R l R') : ∀ (l : List TStmt) (R R' : List ByteArray), gdL (gdS vals nl rec) R l R' → BlockGood P deep R l R'
  | [], R, R', h => by obtain rfl : R' = R := h; exact BlockGood.nil P deep R'
  | x :: xs, R, R', h => by
    intro s hK he hst
    obtain ⟨hx, hxs⟩ := h
    rw [cntL] at hst
    have hcx := cntS_def x
    have hh := stmt_good hg hx hK (st := s.st + 1) (deep := deep) (by omega) hd
    have hS : (stmtS P deep s x) = ⟨s.part + 1, 0, s.st + 1, regsOf x.f0 s.regs x.f2⟩ := by
      unfold stmtS; rw [he, hh.1]
    have hB : blockS P deep s x = ⟨s.part + cntS x, 0, s.st + cntS x, regsS s.regs x⟩ ∧ Kn (nextR R x.f2) (regsS s.regs x) := by
      rw [blockS_def, if_neg (by simp [he]), hS, if_neg (by simp), regsS_def, regs1_of]
      obtain ⟨k0, k7, hm, ha, hargs, hr, hl, hb⟩ := hx
      cases e : bodyF x.f0 with
      | false =>
        rw [e, if_neg (by decide)] at hb
        rw [hb.1, hb.2] at hcx ⊢
        have hc1 : cntS x = 1 := by rw [hcx, cntL]
        simp only [blockL, regsL, hc1]
        exact ⟨rfl, hh.2⟩
      | true =>
        rw [e, if_pos rfl] at hb
        have hnr : x.f2 = ⟨#[]⟩ := by rw [body_noreg e, if_neg (by decide)] at hr; exact hr
        have hn : nextR R x.f2 = R := next_none R x.f2 hnr
        rw [hn] at hh ⊢
        obtain ⟨R1, g1⟩ := hrec R x.f5 hb.1
        obtain ⟨R2, g2⟩ := hrec R x.f6 hb.2
        have a1 := g1 ⟨s.part + 1, 0, s.st + 1, regsOf x.f0 s.regs x.f2⟩ hh.2 rfl (by simp only; omega)
        have K1 : Kn R (regsL (regsOf x.f0 s.regs x.f2) x.f5) := hh.2.up a1.2 (fun q hq => has_regsL _ x.f5 q hq)
        have a2 := g2 ⟨s.part + 1 + cntL x.f5, 0, s.st + 1 + cntL x.f5, regsL (regsOf x.f0 s.regs x.f2) x.f5⟩ K1 rfl (by simp only; omega)
        rw [a1.1]
        simp only
        rw [a2.1]
        refine ⟨?_, K1.up a2.2 (fun q hq => has_regsL _ x.f6 q hq)⟩
        have h1 : s.part + 1 + (cntL x.f5 : Int) + (cntL x.f6 : Int) = s.part + (cntS x : Int) := by omega
        have h2 : s.st + 1 + (cntL x.f5 : Int) + (cntL x.f6 : Int) = s.st + (cntS x : Int) := by omega
        simp only [h1, h2]
    have ih := list_good hg hd hrec xs _ R' hxs ⟨s.part + cntS x, 0, s.st + cntS x, regsS s.regs x⟩ hB.2 rfl (by simp only; omega)
    rw [blockL, hB.1, ih.1, cntL, regsL]
    refine ⟨?_, ih.2⟩
    have h1 : s.part + (cntS x : Int) + (cntL xs : Int) = s.part + ((cntS x + cntL xs : Nat) : Int) := by omega
    have h2 : s.st + (cntS x : Int) + (cntL xs : Int) = s.st + ((cntS x + cntL xs : Nat) : Int) := by omega
    simp only [h1, h2]
theorem block_good {P : AP} {vals : Int} {nl : Nat} (hg : Gd P vals nl) : ∀ (D : Nat) (deep : Int), deep + D ≤ 6 → ∀ (l : List TStmt) (R R' : List ByteArray), gdB vals nl D R l R' → BlockGood P deep R l R'
  | 0, deep, hd, l, R, R', h => list_good hg (by omega) (fun R l h => absurd h (by simp)) l R R' h
  | D + 1, deep, hd, l, R, R', h => list_good hg (by omega) (fun R l h => by obtain ⟨-, R', h⟩ := h; exact ⟨R', block_good hg D (deep + 1) (by omega) l R R' h⟩) l R R' h
/-! ### sizes -/
theorem cnt_list {vals : Int} {nl : Nat} {rec : List ByteArray → List TStmt → Prop} {n : Nat} (hrec : ∀ R l, rec R l → cntL l ≤ n) : ∀ (l : List TStmt) (R R' : List ByteArray), gdL (gdS vals nl rec) R l R' → cntL l ≤ (1 + n + n) * l.length
  | [], R, R', h => by rw [cntL]; omega
  | x :: xs, R, R', h => by
    have ih := cnt_list hrec xs _ R' h.2
    have hcx := cntS_def x
    have hx : cntS x ≤ 1 + n + n := by
      obtain ⟨k0, k7, hm, ha, hargs, hr, hl, hb⟩ := h.1
      cases e : bodyF x.f0 with
      | false => rw [e, if_neg (by decide)] at hb; rw [hb.1, hb.2, cntL] at hcx; omega
      | true => rw [e, if_pos rfl] at hb; have := hrec _ _ hb.1; have := hrec _ _ hb.2; omega
    rw [cntL, List.length_cons, Nat.mul_succ]; omega
theorem cnt_0 {vals : Int} {nl : Nat} (l : List TStmt) (R R' : List ByteArray) (h : gdB vals nl 0 R l R') : cntL l ≤ l.length := by
  have := cnt_list (n := 0) (fun R l h => absurd h (by simp)) l R R' h; omega
theorem cnt_1 {vals : Int} {nl : Nat} (l : List TStmt) (R R' : List ByteArray) (h : gdB vals nl 1 R l R') : cntL l ≤ 3 * l.length :=
  cnt_list (n := 1) (fun R l h => by obtain ⟨h1, R', h⟩ := h; have := cnt_0 l R R' h; omega) l R R' h
theorem mem_next {R : List ByteArray} {r : ByteArray} (hR : ∀ s ∈ R, s ∈ nm4) (hr : r ∈ nm4 ∨ r = ⟨#[]⟩) : ∀ s ∈ nextR R r, s ∈ nm4 := by
  intro s hs
  unfold nextR at hs
  split at hs
  · exact hR s hs
  · rename_i hne
    rcases hr with hr | hr
    · unfold withF at hs
      split at hs
      · exact hR s hs
      · rcases List.mem_append.1 hs with q | q
        · exact hR s q
        · rw [List.mem_singleton.1 q]; exact hr
    · rw [hr] at hne; exact absurd (by decide +kernel) hne
theorem sm_list {vals : Int} {nl : Nat} {rec : List ByteArray → List TStmt → Prop} (hrec : ∀ R l, (∀ s ∈ R, s ∈ nm4) → rec R l → smSs l ∧ l.length ≤ 1000) : ∀ (l : List TStmt) (R R' : List ByteArray), (∀ s ∈ R, s ∈ nm4) → gdL (gdS vals nl rec) R l R' → smSs l ∧ ∀ s ∈ R', s ∈ nm4
  | [], R, R', hR, h => by obtain rfl : R' = R := h; exact ⟨by rw [smSs]; trivial, hR⟩
  | x :: xs, R, R', hR, h => by
    obtain ⟨k0, k7, hm, ha, hargs, hr, hl, hb⟩ := h.1
    have hr' : x.f2 ∈ nm4 ∨ x.f2 = ⟨#[]⟩ := by split at hr; exact .inl hr; exact .inr hr
    have ih := sm_list hrec xs _ R' (mem_next hR hr') h.2
    refine ⟨?_, ih.2⟩
    rw [smSs]
    refine ⟨?_, ih.1⟩
    rw [smS_def]
    have ha2 : argsF x.f0 ≤ 2 := by unfold argsF; repeat' split
                                    all_goals omega
    have hb' : smSs x.f5 ∧ x.f5.length ≤ 1000 ∧ smSs x.f6 ∧ x.f6.length ≤ 1000 := by
      split at hb
      · have q1 := hrec R _ hR hb.1
        have q2 := hrec R _ hR hb.2
        exact ⟨q1.1, q1.2, q2.1, q2.2⟩
      · rw [hb.1, hb.2, smSs]; exact ⟨trivial, by simp, trivial, by simp⟩
    refine ⟨?_, ?_, by omega, smes_good vals R hR x.f4 hargs, hb'.2.1, hb'.1, hb'.2.2.2, hb'.2.2.1⟩
    · rcases hr' with q | q
      · exact nm_size _ q
      · rw [q]; decide
    · split at hl
      · exact loc_size _ nl hl
      · rw [hl]; decide
theorem sm_0 {vals : Int} {nl : Nat} (l : List TStmt) (R R' : List ByteArray) (hR : ∀ s ∈ R, s ∈ nm4) (h : gdB vals nl 0 R l R') : smSs l :=
  (sm_list (fun R l _ h => absurd h (by simp)) l R R' hR h).1
theorem sm_1 {vals : Int} {nl : Nat} (l : List TStmt) (R R' : List ByteArray) (hR : ∀ s ∈ R, s ∈ nm4) (h : gdB vals nl 1 R l R') : smSs l ∧ ∀ s ∈ R', s ∈ nm4 :=
  sm_list (fun R l hR h => by obtain ⟨h1, R', h⟩ := h; exact ⟨sm_0 l R R' hR h, by omega⟩) l R R' hR h
end Go.Proofs.Ytlhbnbckanmaiaa.K
namespace Go.Proofs.Ytlhbnbckanmaiaa.K
open Go Go.RowKit Go.Proofs.YtlhbnbckanmaiaaW.PrintWords Go.Proofs.YtlhbnbckanmaiaaW.PrintLast Go.Proofs.YtlhbnbckanmaiaaW.PrintMore Go.Proofs.Ytlhbnbckanmaiaa.PC1
set_option linter.unusedVariables false
set_option linter.unusedSimpArgs false
/-- A program that is made: all but its condition. -/
structure GdT (P : AP) (vals : Int) (nl nt : Nat) (RS : List (List ByteArray)) : Prop where
  gd : Gd P vals nl
  nm : P.nm = madeB
  v2 : 2 ≤ vals ∧ vals ≤ 4
  iv : ∀ y ∈ P.init, 0 ≤ y.f1 ∧ y.f1 < vals
  tl : P.threads.length = nt
  n1 : 1 ≤ nt ∧ nt ≤ 4
  rl : RS.length = nt
  th : ∀ (t : Nat) (l : List TStmt) (R : List ByteArray), P.threads[t]? = some l → RS[t]? = some R → gdB vals nl 1 [] l R ∧ l.length ≤ 4
  ask : P.ask = 1 ∨ P.ask = 2
  cd : gdC vals nl RS 2 ⟨P.op, P.th, P.cn, P.n, P.kids⟩
theorem loc_len (nl : Nat) (h : nl ≤ 4) : (loc4.take nl).length = nl := by rw [List.length_take]; show min nl 4 = nl; omega
theorem GdT.il {P : AP} {vals : Int} {nl nt : Nat} {RS : List (List ByteArray)} (h : GdT P vals nl nt RS) : P.init.length = nl := by
  have := congrArg List.length h.gd.lo
  rw [List.length_map, loc_len nl h.gd.n4] at this; exact this
theorem made_name : nameB madeB = true := by kernel_rfl
theorem head_good {P : AP} (h1 : nameB P.nm = true) (h2 : 2 ≤ P.vals ∧ P.vals ≤ 4) (h3 : P.init.length ≤ 4) (h4 : 1 ≤ P.threads.length) (h5 : P.threads.length ≤ 4) : runF P s0 .head = s0 := by
  unfold runF; rw [if_pos (show s0.e = 0 from rfl)]; unfold stepF
  have : headE P s0.e = 0 := by
    show headE P 0 = 0
    unfold headE
    exact head5 h1 (by simp [h2.1, h2.2]) (by simp; omega) (by simp; omega) (by simp; omega)
  rw [this]; rfl
/-! ### inits -/
theorem iniF_succ (P : AP) (n : Nat) (s : BS) : iniF P (n + 1) s = runF P (iniF P n s) (.init n 0) := by
  unfold iniF; rw [List.range_succ, List.foldl_append]; rfl
theorem thrF_succ (P : AP) (n : Nat) (s : BS) : thrF P (n + 1) s = runF P (thrF P n s) (.thr n 0) := by
  unfold thrF; rw [List.range_succ, List.foldl_append]; rfl
theorem thrF_zero (P : AP) (s : BS) : thrF P 0 s = s := rfl
theorem runF_err (P : AP) (s : BS) (x : Stp) (h : s.e ≠ 0) : runF P s x = s := by unfold runF; rw [if_neg h]
theorem inits_to (P : AP) : ∀ n : Nat, (∀ i < n, initE P i 0 = 0) → iniF P n s0 = ⟨n, 0, 0, []⟩
  | 0, _ => rfl
  | n + 1, h => by
    rw [iniF_succ, inits_to P n (fun i hi => h i (by omega))]
    unfold runF; rw [if_pos rfl]; unfold stepF
    simp only
    rw [h n (by omega)]; rfl
theorem locs_ok : ∀ i ∈ [0, 1, 2, 3], nameB (loc4.getD i ⟨#[]⟩) = true ∧ hasB (loc4.take i) (loc4.getD i ⟨#[]⟩) = false := by decide +kernel
theorem nat4 {i : Nat} (h : i < 4) : i ∈ [0, 1, 2, 3] := by
  have : i = 0 ∨ i = 1 ∨ i = 2 ∨ i = 3 := by omega
  simpa using this
theorem init_name {P : AP} {nl : Nat} (hl : P.init.map (fun c => c.f0) = loc4.take nl) (h4 : nl ≤ 4) (i : Nat) (hi : i < P.init.length) : (cellAt P i).f0 = loc4.getD i ⟨#[]⟩ ∧ i < 4 := by
  have hn : P.init.length = nl := by have := congrArg List.length hl; rw [List.length_map, loc_len nl h4] at this; exact this
  refine ⟨?_, by omega⟩
  rw [cellAt_eq P i hi]
  have h1 : (P.init.map (fun c => c.f0))[i]? = some P.init[i].f0 := by rw [List.getElem?_map, List.getElem?_eq_getElem hi]; rfl
  rw [hl, List.getElem?_take, if_pos (by omega)] at h1
  rw [List.getD_eq_getElem?_getD, h1]; rfl
/-- The names ahead of a place that was left as it was made. -/
theorem init_ahead {l : List TCell} {nl : Nat} (hl : l.map (fun c => c.f0) = loc4.take nl) (i : Nat) (hi : i ≤ nl) (s : ByteArray) : locB (l.take i) s = hasB (loc4.take i) s := by
  rw [locB_eq, List.map_take, hl, List.take_take, Nat.min_eq_left hi]
theorem init_good {P : AP} {vals : Int} {nl nt : Nat} {RS : List (List ByteArray)} (h : GdT P vals nl nt RS) (i : Nat) (hi : i < nl) : initE P i 0 = 0 := by
  have hi' : i < P.init.length := by rw [h.il]; exact hi
  obtain ⟨h1, h2⟩ := init_name h.gd.lo h.gd.n4 i hi'
  unfold initE
  obtain ⟨k1, k2⟩ := locs_ok i (nat4 h2)
  rw [h1, k1, init_ahead h.gd.lo i (by omega), k2, need0 _ _ (by rfl)]
  refine need0 _ _ ?_
  have := h.iv (cellAt P i) (by rw [cellAt_eq P i hi']; exact List.getElem_mem hi')
  unfold valB; rw [h.gd.vs]; simp [this.1, this.2]
/-! ### threads -/
def sumC : List (List TStmt) → Nat
  | [] => 0
  | l :: ls => cntL l + sumC ls
theorem sumC_snoc : ∀ (l : List (List TStmt)) (x : List TStmt), sumC (l ++ [x]) = sumC l + cntL x
  | [], x => by simp [sumC]
  | y :: ys, x => by simp only [List.cons_append, sumC, sumC_snoc ys x]; omega
theorem sumC_take (l : List (List TStmt)) (i : Nat) (hi : i < l.length) : sumC (l.take (i + 1)) = sumC (l.take i) + cntL l[i] := by
  rw [List.take_succ_eq_append_getElem hi, sumC_snoc]
theorem thr_good {P : AP} {vals : Int} {nl : Nat} (hg : Gd P vals nl) (l : List TStmt) (R : List ByteArray) (h : gdB vals nl 1 [] l R) (h4 : l.length ≤ 4) (p : Int) : blockL P 0 ⟨p, 0, 0, []⟩ l = ⟨p + cntL l, 0, 0 + cntL l, regsL [] l⟩ ∧ Kn R (regsL [] l) ∧ cntL l ≤ 12 := by
  have hc := cnt_1 l [] R h
  have := block_good hg 1 0 (by omega) l [] R h ⟨p, 0, 0, []⟩ Kn.nil rfl (by simp only; omega)
  exact ⟨this.1, this.2, by omega⟩
theorem thrs_to {P : AP} {vals : Int} {nl : Nat} (hg : Gd P vals nl) (s : BS) (he : s.e = 0) : ∀ n : Nat, n ≤ P.threads.length → (∀ (t : Nat) (l : List TStmt), t < n → P.threads[t]? = some l → ∃ R, gdB vals nl 1 [] l R ∧ l.length ≤ 4) → ∃ st regs, thrF P n s = ⟨s.part + sumC (P.threads.take n), 0, st, regs⟩
  | 0, _, _ => ⟨s.st, s.regs, by rw [thrF_zero, List.take_zero]; cases s; simp at he; simp [he, sumC]⟩
  | n + 1, hn, h => by
    obtain ⟨st, regs, ih⟩ := thrs_to hg s he n (by omega) (fun t l ht hl => h t l (by omega) hl)
    have hn' : n < P.threads.length := by omega
    obtain ⟨R, h1, h2⟩ := h n P.threads[n] (by omega) (List.getElem?_eq_getElem hn')
    have h3 := thr_good hg P.threads[n] R h1 h2 (s.part + sumC (P.threads.take n))
    rw [thrF_succ, ih]
    unfold runF; rw [if_pos rfl]; unfold stepF
    simp only
    rw [thrOf_eq P n hn', h3.1, sumC_take _ n hn']
    refine ⟨0 + (cntL P.threads[n] : Int), regsL [] P.threads[n], ?_⟩
    rw [show s.part + (sumC (P.threads.take n) : Int) + (cntL P.threads[n] : Int) = s.part + ((sumC (P.threads.take n) + cntL P.threads[n] : Nat) : Int) from by omega]
theorem GdT.any {P : AP} {vals : Int} {nl nt : Nat} {RS : List (List ByteArray)} (h : GdT P vals nl nt RS) (t : Nat) (l : List TStmt) (hl : P.threads[t]? = some l) : ∃ R, RS[t]? = some R ∧ gdB vals nl 1 [] l R ∧ l.length ≤ 4 := by
  have ht : t < P.threads.length := (List.getElem?_eq_some_iff.1 hl).1
  have htr : t < RS.length := by rw [h.rl]; have := h.tl; omega
  obtain ⟨h1, h2⟩ := h.th t l RS[t] hl (List.getElem?_eq_getElem htr)
  exact ⟨RS[t], List.getElem?_eq_getElem htr, h1, h2⟩
/-! ### the condition -/
theorem gdC_open {vals : Int} {nl : Nat} {RS : List (List ByteArray)} {d : Nat} {op th n : Int} {nm : ByteArray} {kids : List TCond} (h : gdC vals nl RS d ⟨op, th, nm, n, kids⟩) :
    (op = 1 ∧ th = 0 ∧ nm ∈ loc4.take nl ∧ 0 ≤ n ∧ n < vals ∧ kids = []) ∨ (op = 2 ∧ (∃ t : Nat, th = t ∧ ∃ R, RS[t]? = some R ∧ nm ∈ R) ∧ 0 ≤ n ∧ n < vals ∧ kids = []) ∨ ∃ d', d = d' + 1 ∧ th = 0 ∧ nm = ⟨#[]⟩ ∧ n = 0 ∧ ((op = 3 ∧ ∃ a, kids = [a] ∧ gdC vals nl RS d' a) ∨ ((op = 4 ∨ op = 5) ∧ ∃ a b, kids = [a, b] ∧ gdC vals nl RS d' a ∧ gdC vals nl RS d' b)) := by
  cases d with
  | zero =>
    rw [gdC] at h
    rcases h with h | h | h
    · exact .inl h
    · exact .inr (.inl h)
    · exact absurd h (by simp)
  | succ d =>
    rw [gdC] at h
    rcases h with h | h | h
    · exact .inl h
    · exact .inr (.inl h)
    · exact .inr (.inr ⟨d, rfl, h⟩)
theorem cond_good {P : AP} {vals : Int} {nl : Nat} (hg : Gd P vals nl) {RS : List (List ByteArray)} (hr : ∀ (t : Nat) (R : List ByteArray), RS[t]? = some R → ∃ l, P.threads[t]? = some l ∧ ∀ r ∈ R, hasB (regsL [] l) r = true) : ∀ (d : Nat) (x : TCond), gdC vals nl RS d x → condF P 0 x = 0
  | d, ⟨op, th, nm, n, kids⟩, h => by
    rw [condF, if_pos rfl]
    rcases gdC_open h with ⟨h1, h2, h3, h4, h5, h6⟩ | ⟨h1, ⟨t, h2, R, h3, h3'⟩, h4, h5, h6⟩ | ⟨d, rfl, h1, h2, h3, ⟨h4, a, h5, ha⟩ | ⟨h4, a, b, h5, ha, hb⟩⟩
    · subst h1 h2 h6
      rw [condFs]
      unfold condHead
      rw [need0 _ _ (by rfl)]
      unfold askF; rw [if_pos rfl]; unfold memE
      rw [need0 _ _ (by rfl), need0 _ _ (by rw [locB_eq, hg.lo]; exact has_of h3), need0 _ _ (by unfold valB; rw [hg.vs]; simp [h4, h5])]
    · subst h1 h2 h6
      rw [condFs]
      unfold condHead
      rw [need0 _ _ (by rfl)]
      unfold askF; rw [if_neg (by decide), if_pos rfl]; unfold regIsE
      obtain ⟨l, hl, hl'⟩ := hr t R h3
      have hlt := (List.getElem?_eq_some_iff.1 hl).1
      have ht : thereB P (t : Int) = true := by unfold thereB; simp; omega
      have h1 : P.th1 (t : Int) = l := by
        unfold AP.th1 rdOf; rw [Int.toNat_natCast, List.getD_eq_getElem?_getD, hl]; rfl
      rw [ht, h1, hl' nm h3', need0 _ _ (by rfl), need0 _ _ (by rfl), need0 _ _ (by unfold valB; rw [hg.vs]; simp [h4, h5])]
    · subst h1 h2 h3 h4 h5
      have hh : condHead P 3 0 ⟨#[]⟩ 0 [a].length 0 = 0 := by
        unfold condHead; rw [need0 _ _ (by rfl)]; unfold askF; rw [if_neg (by decide), if_neg (by decide)]; unfold noneE; exact need0 _ _ (by rw [empty_nil]; rfl)
      rw [hh, condFs, condFs, cond_good hg hr d a ha]
    · subst h1 h2 h3 h5
      have hh : condHead P op 0 ⟨#[]⟩ 0 [a, b].length 0 = 0 := by
        unfold condHead; rw [need0 _ _ (by rcases h4 with rfl | rfl <;> rfl)]; unfold askF; rw [if_neg (by omega), if_neg (by omega)]; unfold noneE; exact need0 _ _ (by rw [empty_nil]; rfl)
      rw [hh, condFs, condFs, condFs, cond_good hg hr d a ha, cond_good hg hr d b hb]
theorem smc_good {vals : Int} {nl : Nat} {RS : List (List ByteArray)} (hR : ∀ (t : Nat) (R : List ByteArray), RS[t]? = some R → ∀ s ∈ R, s ∈ nm4) : ∀ (d : Nat) (x : TCond), gdC vals nl RS d x → smC x
  | d, ⟨op, th, nm, n, kids⟩, h => by
    rw [smC]
    rcases gdC_open h with ⟨h1, h2, h3, h4, h5, h6⟩ | ⟨h1, ⟨t, h2, R, h3, h3'⟩, h4, h5, h6⟩ | ⟨d, rfl, h1, h2, h3, ⟨h4, a, h5, ha⟩ | ⟨h4, a, b, h5, ha, hb⟩⟩
    · subst h6; exact ⟨loc_size _ nl h3, by simp, by rw [smCs]; trivial⟩
    · subst h6; exact ⟨nm_size _ (hR t R h3 nm h3'), by simp, by rw [smCs]; trivial⟩
    · subst h2 h5; exact ⟨by decide, by simp, by rw [smCs, smCs]; exact ⟨smc_good hR d a ha, trivial⟩⟩
    · subst h2 h5; exact ⟨by decide, by simp, by rw [smCs, smCs, smCs]; exact ⟨smc_good hR d a ha, smc_good hR d b hb, trivial⟩⟩
/-- The names of the registers that the maker knows are names. -/
theorem GdT.names {P : AP} {vals : Int} {nl nt : Nat} {RS : List (List ByteArray)} (h : GdT P vals nl nt RS) (t : Nat) (R : List ByteArray) (ht : RS[t]? = some R) : ∃ l, P.threads[t]? = some l ∧ (∀ r ∈ R, hasB (regsL [] l) r = true) ∧ ∀ s ∈ R, s ∈ nm4 := by
  have h1 : t < P.threads.length := by have := (List.getElem?_eq_some_iff.1 ht).1; have := h.rl; have := h.tl; omega
  have h2 := List.getElem?_eq_getElem h1
  obtain ⟨h3, h4⟩ := h.th t _ R h2 ht
  have h5 := thr_good h.gd _ R h3 h4 0
  exact ⟨_, h2, h5.2.1.hk, h5.2.1.r4⟩
theorem GdT.sm {P : AP} {vals : Int} {nl nt : Nat} {RS : List (List ByteArray)} (h : GdT P vals nl nt RS) : P.sm := by
  refine ⟨fun l hl => ?_, ?_⟩
  · obtain ⟨t, ht, e⟩ := List.getElem_of_mem hl
    obtain ⟨R, h1, h2, h3⟩ := h.any t l (by rw [List.getElem?_eq_getElem ht, e])
    exact ⟨(sm_1 l [] R (by simp) h2).1, by omega, by have := cnt_1 l [] R h2; omega⟩
  · have := smc_good (fun t R ht => (h.names t R ht).choose_spec.2.2) 2 _ h.cd
    rw [smC] at this
    exact ⟨this.2.2, this.2.1⟩
theorem GdT.cn {P : AP} {vals : Int} {nl nt : Nat} {RS : List (List ByteArray)} (h : GdT P vals nl nt RS) : P.cn.size ≤ 1000 := by
  have := smc_good (fun t R ht => (h.names t R ht).choose_spec.2.2) 2 _ h.cd
  rw [smC] at this
  exact this.1
end Go.Proofs.Ytlhbnbckanmaiaa.K
namespace Go.Proofs.Ytlhbnbckanmaiaa.K
open Go Go.RowKit Go.Proofs.YtlhbnbckanmaiaaW.PrintWords Go.Proofs.YtlhbnbckanmaiaaW.PrintLast Go.Proofs.YtlhbnbckanmaiaaW.PrintMore Go.Proofs.Ytlhbnbckanmaiaa.PC1
set_option linter.unusedVariables false
set_option linter.unusedSimpArgs false
theorem need_err (ok : Bool) (c e : Int) (h : e ≠ 0) : needE ok c e = e := by
  unfold needE; rw [beq_eq_false_iff_ne.2 h, Bool.and_false]; rfl
theorem need_bad (ok : Bool) (c : Int) (h : ok = false) : needE ok c 0 = c := by subst h; rfl
theorem take_set {α : Type} (l : List α) (i j : Nat) (y : α) (h : j ≤ i) : (l.set i y).take j = l.take j := by
  apply List.ext_getElem?
  intro n
  rw [List.getElem?_take, List.getElem?_take]
  split
  · rw [List.getElem?_set_ne (by omega)]
  · rfl
/-! ### a statement that is wrong, behind all that are right -/
def AP.withT (P : AP) (l : List (List TStmt)) : AP := { P with threads := l }
theorem stop_at {P : AP} {vals : Int} {nl nt : Nat} {RS : List (List ByteArray)} (h : GdT P vals nl nt RS) (x : TStmt) (c : Int) (hc : c ≠ 0) (l : List TStmt) (hl : P.threads[nt - 1]? = some l)
    (hx : ∀ (st : Int) (regs : List ByteArray), st ≤ 13 → (∀ r ∈ regs, r ∈ nm4) → Kn [] regs → stmtE P st 0 regs x 0 = c) :
    mayE (P.withT (P.threads.set (nt - 1) (l ++ [x]))) = c ∧ mayN (P.withT (P.threads.set (nt - 1) (l ++ [x]))) = 1 + (nl : Int) + sumC P.threads := by
  have hn := h.n1
  have htl := h.tl
  have hlt : nt - 1 < P.threads.length := by omega
  have e2 : iniF (P.withT (P.threads.set (nt - 1) (l ++ [x]))) P.init.length s0 = ⟨P.init.length, 0, 0, []⟩ :=
    inits_to (P.withT (P.threads.set (nt - 1) (l ++ [x]))) P.init.length (fun i hi => init_good h i (by rw [h.il] at hi; exact hi))
  have eh : runF (P.withT (P.threads.set (nt - 1) (l ++ [x]))) s0 .head = s0 :=
    head_good (by show nameB P.nm = true; rw [h.nm]; exact made_name) (by show 2 ≤ P.vals ∧ P.vals ≤ 4; rw [h.gd.vs]; exact h.v2) (by show P.init.length ≤ 4; rw [h.il]; exact h.gd.n4) (by show 1 ≤ (P.threads.set _ _).length; rw [List.length_set]; omega) (by show (P.threads.set _ _).length ≤ 4; rw [List.length_set]; omega)
  have hg' : Gd (P.withT (P.threads.set (nt - 1) (l ++ [x]))) vals nl := ⟨h.gd.vs, h.gd.lo, h.gd.n1, h.gd.n4⟩
  have hlen : (P.withT (P.threads.set (nt - 1) (l ++ [x]))).threads.length = nt := by show (P.threads.set _ _).length = nt; rw [List.length_set]; exact htl
  obtain ⟨st, regs, h3⟩ := thrs_to hg' ⟨P.init.length, 0, 0, []⟩ rfl (nt - 1) (by rw [hlen]; omega) (fun t l' ht hl' => by
    have : P.threads[t]? = some l' := by
      rw [← hl']; show _ = (P.threads.set _ _)[t]?; rw [List.getElem?_set_ne (by omega)]
    obtain ⟨R, _, h1, h2⟩ := h.any t l' this; exact ⟨R, h1, h2⟩)
  obtain ⟨R, _, hb, h4⟩ := h.any (nt - 1) l hl
  have htk : (P.withT (P.threads.set (nt - 1) (l ++ [x]))).threads.take (nt - 1) = P.threads.take (nt - 1) := take_set _ _ _ _ (Nat.le_refl _)
  rw [htk] at h3
  have hth : thrOf (P.withT (P.threads.set (nt - 1) (l ++ [x]))) (nt - 1) = l ++ [x] := by
    show (P.threads.set (nt - 1) (l ++ [x])).getD (nt - 1) [] = _
    rw [List.getD_eq_getElem?_getD, List.getElem?_set_self hlt]; rfl
  have hgo := thr_good hg' l R hb h4 ((P.init.length : Int) + sumC (P.threads.take (nt - 1)))
  have hsum : sumC P.threads = sumC (P.threads.take (nt - 1)) + cntL l := by
    have := sumC_take P.threads (nt - 1) hlt
    rw [show nt - 1 + 1 = P.threads.length from by omega, List.take_length] at this
    rw [this]
    have : P.threads[nt - 1] = l := by rw [List.getElem?_eq_getElem hlt] at hl; exact Option.some.inj hl
    rw [this]
  have hE : stmtE (P.withT (P.threads.set (nt - 1) (l ++ [x]))) (0 + (cntL l : Int) + 1) 0 (regsL [] l) x 0 = c :=
    hx _ _ (by have := hgo.2.2; omega) hgo.2.1.s4 (hgo.2.1.sub (fun r hr => by simp at hr))
  have h5 : thrF (P.withT (P.threads.set (nt - 1) (l ++ [x]))) nt ⟨P.init.length, 0, 0, []⟩ = ⟨1 + (nl : Int) + sumC P.threads, c, 0 + (cntL l : Int) + 1, regsOf x.f0 (regsL [] l) x.f2⟩ := by
    rw [show nt = nt - 1 + 1 from by omega, thrF_succ, show nt - 1 + 1 = nt from by omega, h3]
    unfold runF; rw [if_pos rfl]; unfold stepF
    simp only
    rw [hth, blockL_app, hgo.1, blockL, blockS_def, if_neg (by simp)]
    have hS : stmtS (P.withT (P.threads.set (nt - 1) (l ++ [x]))) 0 ⟨(P.init.length : Int) + sumC (P.threads.take (nt - 1)) + cntL l, 0, 0 + (cntL l : Int), regsL [] l⟩ x = ⟨1 + (nl : Int) + sumC P.threads, c, 0 + (cntL l : Int) + 1, regsOf x.f0 (regsL [] l) x.f2⟩ := by
      unfold stmtS; simp only; rw [hE]
      have : (P.init.length : Int) + sumC (P.threads.take (nt - 1)) + cntL l + 1 = 1 + (nl : Int) + sumC P.threads := by have := h.il; omega
      rw [this]
    rw [hS, if_pos (by exact hc), blockL]
  have h6 : mayS (P.withT (P.threads.set (nt - 1) (l ++ [x]))) = ⟨1 + (nl : Int) + sumC P.threads, c, 0 + (cntL l : Int) + 1, regsOf x.f0 (regsL [] l) x.f2⟩ := by
    unfold mayS
    rw [eh, hlen, show (P.withT (P.threads.set (nt - 1) (l ++ [x]))).init.length = P.init.length from rfl, e2, h5, runF_err _ _ _ hc]
  unfold mayE mayN
  rw [h6]
  exact ⟨rfl, if_neg hc⟩
/-! ### the statements that are wrong -/
theorem argsE_err (vals : Int) (known : List ByteArray) : ∀ (l : List TExpr) (e : Int), e ≠ 0 → argsE vals known e l = e
  | [], e, h => by rw [argsE]
  | x :: xs, e, h => by
    have h1 : exprF vals known e x = e := by cases x; rw [exprF, if_neg h]
    rw [argsE, need_err _ _ _ h, h1, argsE_err vals known xs e h]
theorem st3_err (k : Int) (a b : Nat) (e : Int) (h : e ≠ 0) : st3 k a b e = e := need_err _ _ _ h
theorem st4_err (P : AP) (k : Int) (regs : List ByteArray) (r : ByteArray) (e : Int) (h : e ≠ 0) : st4 P k regs r e = e := by
  unfold st4; split
  · rw [need_err _ _ _ (by rw [need_err _ _ _ h]; exact h), need_err _ _ _ h]
  · exact need_err _ _ _ h
theorem st5_err (P : AP) (k : Int) (l : ByteArray) (e : Int) (h : e ≠ 0) : st5 P k l e = e := by
  unfold st5; split <;> exact need_err _ _ _ h
theorem st1_ok {st : Int} (h : st ≤ 13) : st1 st 0 0 = 0 := need0 _ _ (by simp; omega)
theorem bad_mode (P : AP) (st : Int) (regs : List ByteArray) (x : TStmt) (hst : st ≤ 13) (h : (okF x.f0 && hasI (modesF x.f0) x.f1 && ((x.f4.length : Int) == argsF x.f0)) = false) : stmtE P st 0 regs x 0 = 1 := by
  unfold stmtE
  have : st2 x.f0 x.f1 x.f4.length 0 = 1 := need_bad _ _ h
  rw [st1_ok hst, this, st3_err _ _ _ _ (by decide), st4_err _ _ _ _ _ (by decide), st5_err _ _ _ _ (by decide), argsE_err _ _ _ _ (by decide)]
abbrev bzero : ByteArray := ⟨#[]⟩
abbrev bx : ByteArray := ⟨#[120]⟩
abbrev ba : ByteArray := ⟨#[97]⟩
def badS (vals : Int) : List TStmt := [⟨2, 2, ba, bx, [], [], []⟩, ⟨3, 1, bzero, bx, [⟨1, 0, bzero, []⟩], [], []⟩, ⟨6, 0, bzero, bzero, [], [], []⟩, ⟨9, 0, bzero, bzero, [], [], []⟩, ⟨2, 0, ba, ⟨#[110, 111]⟩, [], [], []⟩, ⟨2, 0, bx, bx, [], [], []⟩, ⟨3, 0, bzero, bx, [⟨2, 0, ⟨#[101]⟩, []⟩], [], []⟩, ⟨3, 0, bzero, bx, [⟨1, vals, bzero, []⟩], [], []⟩]
def badC : List Int := [1, 1, 1, 1, 4, 4, 4, 1]
theorem loc_x : ∀ nl ∈ [1, 2, 3, 4], hasB (loc4.take nl) bx = true ∧ hasB (loc4.take nl) ⟨#[110, 111]⟩ = false := by decide +kernel
theorem loc_x' {nl : Nat} (h1 : 1 ≤ nl) (h4 : nl ≤ 4) : hasB (loc4.take nl) bx = true ∧ hasB (loc4.take nl) ⟨#[110, 111]⟩ = false := loc_x nl (by
  have : nl = 1 ∨ nl = 2 ∨ nl = 3 ∨ nl = 4 := by omega
  simpa using this)
theorem not_e (l : List ByteArray) (h : ∀ r ∈ l, r ∈ nm4) : hasB l ⟨#[101]⟩ = false := by
  rw [← Bool.not_eq_true]
  intro hb
  unfold hasB at hb
  rw [List.any_eq_true] at hb
  obtain ⟨r, hr, he⟩ := hb
  have h1 : ∀ r ∈ nm4, (r.toList == (⟨#[101]⟩ : ByteArray).toList) = false := by decide +kernel
  rw [h1 r (h r hr)] at he; cases he
theorem bad_E {P : AP} {vals : Int} {nl : Nat} (hg : Gd P vals nl) (k : Nat) (hk : k < 8) (st : Int) (regs : List ByteArray) (hst : st ≤ 13) (h4 : ∀ r ∈ regs, r ∈ nm4) (hK : Kn [] regs) : stmtE P st 0 regs ((badS vals).getD k ⟨0, 0, bzero, bzero, [], [], []⟩) 0 = badC.getD k 0 := by
  have hx := loc_x' hg.n1 hg.n4
  have hk' : k = 0 ∨ k = 1 ∨ k = 2 ∨ k = 3 ∨ k = 4 ∨ k = 5 ∨ k = 6 ∨ k = 7 := by omega
  have q2 : ∀ (k m : Int) (n : Nat), (okF k && hasI (modesF k) m && ((n : Int) == argsF k)) = true → st2 k m n 0 = 0 := fun k m n h => need0 _ _ h
  rcases hk' with rfl | rfl | rfl | rfl | rfl | rfl | rfl | rfl
  · exact bad_mode P st regs _ hst (by rfl)
  · exact bad_mode P st regs _ hst (by rfl)
  · exact bad_mode P st regs _ hst (by rfl)
  · exact bad_mode P st regs _ hst (by rfl)
  · show stmtE P st 0 regs ⟨2, 0, ba, ⟨#[110, 111]⟩, [], [], []⟩ 0 = 4
    unfold stmtE
    have e4 : st4 P 2 regs ba 0 = 0 := by
      have hr : ba ∈ nm4 := by simp [nm4]
      unfold st4
      rw [if_pos (by decide), need0 (nameB ba && !(locB P.init ba)) 4 (by rw [nm_name _ hr, locB_eq, hg.lo, nm_loc _ hr nl hg.n4]; rfl)]
      exact need0 _ _ (by have := (hK.add ba hr).len; simp; omega)
    have e5 : st5 P 2 ⟨#[110, 111]⟩ 0 = 4 := by
      unfold st5; rw [if_pos (by decide)]; exact need_bad _ _ (by rw [locB_eq, hg.lo]; exact hx.2)
    simp only
    rw [st1_ok hst, q2 _ _ _ (by decide), show st3 2 [].length [].length 0 = 0 from by decide, e4, e5, argsE]
  · show stmtE P st 0 regs ⟨2, 0, bx, bx, [], [], []⟩ 0 = 4
    unfold stmtE
    have e4 : st4 P 2 regs bx 0 = 4 := by
      unfold st4
      rw [if_pos (by decide), need_bad (nameB bx && !(locB P.init bx)) 4 (by rw [locB_eq, hg.lo, hx.1]; simp), need_err _ _ _ (by decide)]
    simp only
    rw [st1_ok hst, q2 _ _ _ (by decide), show st3 2 [].length [].length 0 = 0 from by decide, e4, st5_err _ _ _ _ (by decide), argsE]
  · show stmtE P st 0 regs ⟨3, 0, bzero, bx, [⟨2, 0, ⟨#[101]⟩, []⟩], [], []⟩ 0 = 4
    unfold stmtE
    have e4 : st4 P 3 regs bzero 0 = 0 := by unfold st4; rw [if_neg (by decide)]; exact need0 _ _ emp_iff
    have e5 : st5 P 3 bx 0 = 0 := by unfold st5; rw [if_pos (by decide)]; exact need0 _ _ (by rw [locB_eq, hg.lo]; exact hx.1)
    simp only
    rw [st1_ok hst, q2 _ _ _ (by decide), show st3 3 [].length [].length 0 = 0 from by decide, e4, e5, argsE, argsE, need0 _ _ (by decide), exprF, if_pos rfl, exprFs]
    unfold exprHead
    rw [need0 (decide (1 ≤ (2 : Int)) && decide ((2 : Int) ≤ 6)) 1 (by decide), need0 ((leafB 2 && (List.length ([] : List TExpr) == 0)) || (!(leafB 2) && (List.length ([] : List TExpr) == 2))) 1 (by decide), need0 _ 1 (by rfl), need0 _ 1 (by rfl)]
    exact need_bad _ _ (by rw [not_e regs h4]; rfl)
  · show stmtE P st 0 regs ⟨3, 0, bzero, bx, [⟨1, vals, bzero, []⟩], [], []⟩ 0 = 1
    unfold stmtE
    have e4 : st4 P 3 regs bzero 0 = 0 := by unfold st4; rw [if_neg (by decide)]; exact need0 _ _ emp_iff
    have e5 : st5 P 3 bx 0 = 0 := by unfold st5; rw [if_pos (by decide)]; exact need0 _ _ (by rw [locB_eq, hg.lo]; exact hx.1)
    simp only
    rw [st1_ok hst, q2 _ _ _ (by rfl), show st3 3 [].length [].length 0 = 0 from by decide, e4, e5, argsE, argsE, need0 _ _ (by rfl), exprF, if_pos rfl, exprFs]
    unfold exprHead
    rw [need0 (decide (1 ≤ (1 : Int)) && decide ((1 : Int) ≤ 6)) 1 (by decide), need0 ((leafB 1 && (List.length ([] : List TExpr) == 0)) || (!(leafB 1) && (List.length ([] : List TExpr) == 2))) 1 (by decide), need0 _ 1 (by rw [empty_nil]; rfl), need_bad (!((1 : Int) == 1) || valB P.vals vals) 1 (by unfold valB; rw [hg.vs]; simp), need_err _ _ _ (by decide)]
end Go.Proofs.Ytlhbnbckanmaiaa.K
namespace Go.Proofs.Ytlhbnbckanmaiaa.K
open Go Go.RowKit Go.Proofs.YtlhbnbckanmaiaaW.PrintWords Go.Proofs.YtlhbnbckanmaiaaW.PrintLast Go.Proofs.YtlhbnbckanmaiaaW.PrintMore Go.Proofs.Ytlhbnbckanmaiaa.PC1
set_option linter.unusedVariables false
set_option linter.unusedSimpArgs false
end Go.Proofs.Ytlhbnbckanmaiaa.K
namespace Go.Proofs.Ytlhbnbckanmaiaa.K
open Go Go.RowKit Go.Proofs.YtlhbnbckanmaiaaW.PrintWords Go.Proofs.YtlhbnbckanmaiaaW.PrintLast Go.Proofs.YtlhbnbckanmaiaaW.PrintMore Go.Proofs.Ytlhbnbckanmaiaa.PC1
set_option linter.unusedVariables false
set_option linter.unusedSimpArgs false
/-- Where the world stands behind Made(l).Prog() and what it is stored in: pb the program's block, g the inits'. -/
structure MW (W w : World) (pb g cI : Nat) (AT : Option Addr) (cT : Nat) (AK : Option Addr) (cK : Nat) (base : Nat) (vals : Int) (nl nt : Nat) (inits : List TCell) (ths : List (List TStmt)) (RS : List (List ByteArray)) (ask : Int) (x : TCond) : Prop where
  bel : Below W.heap.size W w
  wb : W.heap.size ≤ base
  hpb : base ≤ pb
  pbk : w.heap[pb]? = some (pBlk madeB vals (.slice (some ⟨g, 0, none⟩) inits.length cI) (.slice AT ths.length cT) ask x.f0 x.f1 x.f2 x.f3 (.slice AK x.f4.length cK))
  rI : Kd.R kCell 51 w base (fun k => base ≤ k) (.slice (some ⟨g, 0, none⟩) inits.length cI) inits
  nT : Kd.N kThr0 35 w base (fun k => base ≤ k ∧ k ≠ pb ∧ k ≠ g) (.slice AT ths.length cT) ths
  fK : Kd.F kCond w (fun k => base ≤ k ∧ k ≠ pb ∧ k ≠ g ∧ some k ≠ (Value.slice AT ths.length cT).ownBlock) AK x.f4.length x.f4
  lk : x.f4.length ≤ cK
theorem MW.mk' {W w1 w : World} {vals : Int} {nl nt : Nat} {cs : Value} (hW : Below W.heap.size W w1) (hwd : W.heap.size ≤ w.heap.size) (h : ProgPost1 w vals nl nt (.returned cs) w1) (hv : 2 ≤ vals ∧ vals ≤ 4) (hn : 1 ≤ nl ∧ nl ≤ 4) (ht : 1 ≤ nt ∧ nt ≤ 4) :
    ∃ (g cI : Nat) (AT : Option Addr) (cT : Nat) (AK : Option Addr) (cK : Nat) (inits : List TCell) (ths : List (List TStmt)) (RS : List (List ByteArray)) (ask : Int) (x : TCond), cs = .agg #[.string madeB, .int .i64 vals, .slice (some ⟨g, 0, none⟩) inits.length cI, .slice AT ths.length cT, .int .i64 ask, .int .i64 x.f0, .int .i64 x.f1, .string x.f2, .int .i64 x.f3, .slice AK x.f4.length cK] ∧
      MW W (w1.alloc (pBlk madeB vals (.slice (some ⟨g, 0, none⟩) inits.length cI) (.slice AT ths.length cT) ask x.f0 x.f1 x.f2 x.f3 (.slice AK x.f4.length cK))) w1.heap.size g cI AT cT AK cK w.heap.size vals nl nt inits ths RS ask x ∧
      ∀ AI cI' , GdT ⟨madeB, vals, AI, cI', inits, AT, cT, ths, ask, x.f0, x.f1, x.f2, x.f3, AK, cK, x.f4⟩ vals nl nt RS := by
  obtain ⟨vI, vT, inits, ths, RS, ask, x, A, c, he, hRI, hNT, hl, hF, ha, hnm, hy, h1, h2, h3, h4⟩ := h
  have hg : ∀ AI cI' AT cT, GdT ⟨madeB, vals, AI, cI', inits, AT, cT, ths, ask, x.f0, x.f1, x.f2, x.f3, A, c, x.f4⟩ vals nl nt RS := fun _ _ _ _ => ⟨⟨rfl, hnm, hn.1, hn.2⟩, rfl, hv, hy, h1, ht, h2, h3, ha, by cases x; exact h4⟩
  have hil : inits.length = nl := (hg none 0 none 0).il
  obtain ⟨AT, cT, rfl⟩ := Kd.N_slice hNT
  obtain ⟨g, cI, rfl, hgb, hgl, cells, hcl⟩ := Kd.R_form hRI (by omega)
  injection he with he
  have hb := below_al (Below.refl w1.heap.size w1) (pBlk madeB vals (.slice (some ⟨g, 0, none⟩) inits.length cI) (.slice AT ths.length cT) ask x.f0 x.f1 x.f2 x.f3 (.slice A x.f4.length c))
  have hne : ∀ k, some k ≠ (Value.slice (some ⟨g, 0, none⟩) inits.length cI).ownBlock → k ≠ g := fun k h e => h (by rw [e]; rfl)
  refine ⟨g, cI, AT, cT, A, c, inits, ths, RS, ask, x, he, ⟨below_step hW hb, hwd, by omega, blk_new _ _, Kd.R_below hRI hb, ?_, ?_, hl⟩, fun AI cI' => hg AI cI' AT cT⟩
  · exact Kd.N_below (Kd.N_mono (Kd.N_bound hNT) (fun k hk => ⟨hk.1.1, by have := hk.2; omega, hne k hk.1.2⟩)) hb
  · exact Kd.F_below (Kd.F_mono (Kd.F_bound hF) (fun k hk => ⟨hk.1.1, by have := hk.2; omega, hne k hk.1.2.1, hk.1.2.2⟩)) hb
/-- What check.May answers of the program as it lies. -/
theorem MW.ask {W w : World} {pb g cI : Nat} {AT : Option Addr} {cT : Nat} {AK : Option Addr} {cK : Nat} {base : Nat} {vals : Int} {nl nt : Nat} {inits : List TCell} {ths : List (List TStmt)} {RS : List (List ByteArray)} {ask : Int} {x : TCond} (h : MW W w pb g cI AT cT AK cK base vals nl nt inits ths RS ask x)
    (hl : inits.length ≤ 1000) (ht : ths.length ≤ 1000) (hn : ∀ y ∈ inits, y.f0.size ≤ 1000) (hs : (⟨madeB, vals, some ⟨g, 0, none⟩, cI, inits, AT, cT, ths, ask, x.f0, x.f1, x.f2, x.f3, AK, cK, x.f4⟩ : AP).sm) (hcn : x.f2.size ≤ 1000) :
    Calls Try.prog 11 #[.agg #[.string madeB, .int .i64 vals, .slice (some ⟨g, 0, none⟩) inits.length cI, .slice AT ths.length cT, .int .i64 ask, .int .i64 x.f0, .int .i64 x.f1, .string x.f2, .int .i64 x.f3, .slice AK x.f4.length cK]] w
      fun r w' => r = .returned (.tuple #[.int .i64 (mayE ⟨madeB, vals, some ⟨g, 0, none⟩, cI, inits, AT, cT, ths, ask, x.f0, x.f1, x.f2, x.f3, AK, cK, x.f4⟩), .int .i64 (mayN ⟨madeB, vals, some ⟨g, 0, none⟩, cI, inits, AT, cT, ths, ask, x.f0, x.f1, x.f2, x.f3, AK, cK, x.f4⟩)]) ∧ Below W.heap.size W w' := by
  obtain ⟨hn1, hc1, hC⟩ := Kd.R_reads' h.rI
  refine (may_any w ⟨madeB, vals, some ⟨g, 0, none⟩, cI, inits, AT, cT, ths, ask, x.f0, x.f1, x.f2, x.f3, AK, cK, x.f4⟩ ⟨hC, hc1, Kd.F_now (Kd.N_F h.nT), (Kd.N_reads' h.nT).2.1, Kd.F_now h.fK, h.lk, hl, ht, by show madeB.size ≤ 1000; decide, hn⟩ hs hcn).mono ?_
  rintro r w' ⟨rfl, hb⟩
  exact ⟨rfl, below_step h.bel hb⟩
/-- An init turns. -/
theorem MW.turn {W w w' : World} {pb g cI : Nat} {AT : Option Addr} {cT : Nat} {AK : Option Addr} {cK : Nat} {base : Nat} {vals : Int} {nl nt : Nat} {inits inits' : List TCell} {ths : List (List TStmt)} {RS : List (List ByteArray)} {ask : Int} {x : TCond} (h : MW W w pb g cI AT cT AK cK base vals nl nt inits ths RS ask x)
    (hg : w.grownBy w' (some g)) (hl : inits'.length = inits.length) (hb : Below base w w') (hr : Kd.R kCell 51 w' base (fun k => base ≤ k) (.slice (some ⟨g, 0, none⟩) inits.length cI) inits') : MW W w' pb g cI AT cT AK cK base vals nl nt inits' ths RS ask x := by
  have hne : ¬ some pb = some g := by
    obtain ⟨cells, hc⟩ := Kd.R_typed h.rI g (by rfl)
    intro e
    injection e with e
    subst e
    rw [h.pbk] at hc
    injection hc with q1
    injection q1 with _ q2
    exact absurd q2 (by decide)
  have hc : Chg (fun k => some k = some g) w w' := Chg.grown (F := fun k => some k = some g) hg (fun k hk => hk.symm)
  have hw : Below W.heap.size w w' := ⟨hb.os, hb.tape, hb.output, hb.size, fun k hk => hb.block k (by have := h.wb; omega)⟩
  exact ⟨h.bel.trans hw, h.wb, h.hpb, by rw [hl]; exact hc.heap h.pbk hne, by rw [hl]; exact hr, Kd.N_step h.nT (fun k hk hlt => hg.block k hlt (fun e => by injection e with e; exact hk.2.2 e)), Kd.F_step h.fK (fun k hk hlt => hg.block k hlt (fun e => by injection e with e; exact hk.2.2.1 e)), h.lk⟩
theorem MW.step {W w w' : World} {pb g cI : Nat} {AT : Option Addr} {cT : Nat} {AK : Option Addr} {cK : Nat} {base : Nat} {vals : Int} {nl nt : Nat} {inits : List TCell} {ths : List (List TStmt)} {RS : List (List ByteArray)} {ask : Int} {x : TCond} (h : MW W w pb g cI AT cT AK cK base vals nl nt inits ths RS ask x) (hb : Below w.heap.size w w') : MW W w' pb g cI AT cT AK cK base vals nl nt inits ths RS ask x :=
  ⟨below_step h.bel hb, h.wb, h.hpb, blk_below h.pbk hb, Kd.R_below h.rI hb, Kd.N_below h.nT hb, Kd.F_below h.fK hb, h.lk⟩
/-- One cell of an init turns. -/
theorem MW.put {W w : World} {pb g cI : Nat} {AT : Option Addr} {cT : Nat} {AK : Option Addr} {cK : Nat} {base : Nat} {vals : Int} {nl nt : Nat} {inits : List TCell} {ths : List (List TStmt)} {RS : List (List ByteArray)} {ask : Int} {x : TCond} (h : MW W w pb g cI AT cT AK cK base vals nl nt inits ths RS ask x)
    (i : Nat) (hi : i < inits.length) (j : Nat) (hj : j < 2) (v : Value) (hv : v.cells.toList = [v]) (y : TCell) (hy : ([.string (inits.getD i ⟨bzero, 0⟩).f0, .int .i64 (inits.getD i ⟨bzero, 0⟩).f1] : List Value).take j ++ [v] ++ ([.string (inits.getD i ⟨bzero, 0⟩).f0, .int .i64 (inits.getD i ⟨bzero, 0⟩).f1] : List Value).drop (j + 1) = [.string y.f0, .int .i64 y.f1]) : MW W (w.setCell ⟨g, i * 2 + j, none⟩ v) pb g cI AT cT AK cK base vals nl nt (inits.set i y) ths RS ask x := by
  have i0 : (0 : Int) ≤ (i : Int) := by omega
  have i1 : (i : Int) < (inits.length : Int) := by omega
  obtain ⟨cs, hcl, hM, hcc, hfr⟩ := Kd.R_elem h.rI ⟨bzero, 0⟩ (i : Int) i0 i1
  obtain rfl := k51_openM hM
  have hs := Kd.R_seg h.rI (i : Int) i0 i1 (okp := fun _ => False) (seg := [v]) (j := j) (x' := y) hcl hcc (by show j + 1 ≤ 2; omega) (by
    rw [show (i : Int).toNat = i from Int.toNat_natCast i]
    rw [show j + [v].length = j + 1 from rfl, hy]
    exact k51_mkM _ _ _ y) (fun _ hk => hk.elim)
  rw [show (i : Int).toNat = i from Int.toNat_natCast i] at hs
  have hg : base ≤ g := Kd.R_base h.rI g rfl
  have hlt : g < w.heap.size := Kd.R_lt h.rI g rfl
  exact h.turn hs.2 (List.length_set ..) ⟨hs.2.os, hs.2.tape, hs.2.output, hs.2.size, fun k hk => hs.2.block k (by omega) (fun e => by injection e with e; omega)⟩ hs.1
end Go.Proofs.Ytlhbnbckanmaiaa.K
