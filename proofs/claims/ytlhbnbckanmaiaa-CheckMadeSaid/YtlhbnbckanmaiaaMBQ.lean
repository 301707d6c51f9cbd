/- A text of a claim (ours): CheckMade: the walk; conditions: none of ours. -/
import Derived.Test.YtlhbnbckanmaiaaMAQ
import Derived.Test.YtlhbnbckanmaiaaM6Q
namespace Go.Proofs.Ytlhbnbckanmaiaa.K
open Go Go.RowKit Go.Proofs.YtlhbnbckanmaiaaW.PrintWords Go.Proofs.YtlhbnbckanmaiaaW.PrintLast Go.Proofs.YtlhbnbckanmaiaaW.PrintMore Go.Proofs.Ytlhbnbckanmaiaa.PC1
set_option linter.unusedVariables false
set_option linter.unusedSimpArgs false
theorem has_of {l : List ByteArray} {s : ByteArray} (h : s ∈ l) : hasB l s = true := by
  unfold hasB; rw [List.any_eq_true]; exact ⟨s, h, beq_self_eq_true _⟩
theorem has_app (l m : List ByteArray) (s : ByteArray) : hasB (l ++ m) s = (hasB l s || hasB m s) := by unfold hasB; rw [List.any_append]
theorem not_has {l : List ByteArray} {s : ByteArray} (h : hasB l s = false) : s ∉ l := fun hm => by rw [has_of hm] at h; cases h
theorem nodup_len : ∀ (l m : List ByteArray), l.Nodup → (∀ x ∈ l, x ∈ m) → l.length ≤ m.length
  | [], m, _, _ => Nat.zero_le _
  | x :: l, m, hn, hs => by
    obtain ⟨s, t, rfl⟩ := List.append_of_mem (hs x (by simp))
    have h1 := List.nodup_cons.1 hn
    have h2 := nodup_len l (s ++ t) h1.2 (fun y hy => by
      rcases List.mem_append.1 (hs y (by simp [hy])) with q | q
      · exact List.mem_append.2 (.inl q)
      · rcases List.mem_cons.1 q with e | q
        · exact absurd (e ▸ hy) h1.1
        · exact List.mem_append.2 (.inr q))
    simp only [List.length_cons, List.length_append] at h2 ⊢; omega
/-- An expression that is made, opened. -/
theorem geE_open {vals : Int} {R : List ByteArray} {d : Nat} {op n : Int} {nm : ByteArray} {kids : List TExpr} (h : geE vals R d ⟨op, n, nm, kids⟩) :
    (op = 1 ∧ 0 ≤ n ∧ n < vals ∧ nm = ⟨#[]⟩ ∧ kids = []) ∨ (op = 2 ∧ n = 0 ∧ nm ∈ R ∧ kids = []) ∨ ∃ d', d = d' + 1 ∧ 3 ≤ op ∧ op ≤ 6 ∧ n = 0 ∧ nm = ⟨#[]⟩ ∧ ∃ a b, kids = [a, b] ∧ geE vals R d' a ∧ geE vals R d' b := by
  cases d with
  | zero =>
    rw [geE] at h
    rcases h with h | h | h
    · exact .inl h
    · exact .inr (.inl h)
    · exact absurd h (by simp)
  | succ d =>
    rw [geE] at h
    rcases h with h | h | h
    · exact .inl h
    · exact .inr (.inl h)
    · exact .inr (.inr ⟨d, rfl, h⟩)
/-! ### expressions -/
theorem need0 (ok : Bool) (c : Int) (h : ok = true) : needE ok c 0 = 0 := by subst h; rfl
theorem dep_good (vals : Int) (R : List ByteArray) : ∀ (n d : Nat) (x : TExpr), geE vals R d x → depE n x ≤ (d : Int) + 1
  | 0, d, x, h => by rw [depE]; omega
  | n + 1, d, ⟨op, k, nm, kids⟩, h => by
    rw [depE]
    rcases geE_open h with ⟨_, _, _, _, hk⟩ | ⟨_, _, _, hk⟩ | ⟨d, rfl, _, _, _, _, a, b, hk, ha, hb⟩
    · subst hk; simp only [List.foldl_nil]; omega
    · subst hk; simp only [List.foldl_nil]; omega
    · subst hk
      have h1 := dep_good vals R n d a ha
      have h2 := dep_good vals R n d b hb
      simp only [List.foldl_cons, List.foldl_nil]
      omega
theorem head5 {b1 b2 b3 b4 b5 : Bool} {c1 c2 c3 c4 c5 : Int} (h1 : b1 = true) (h2 : b2 = true) (h3 : b3 = true) (h4 : b4 = true) (h5 : b5 = true) : needE b5 c5 (needE b4 c4 (needE b3 c3 (needE b2 c2 (needE b1 c1 0)))) = 0 := by
  rw [need0 _ _ h1, need0 _ _ h2, need0 _ _ h3, need0 _ _ h4, need0 _ _ h5]
theorem empty_nil : ((⟨#[]⟩ : ByteArray).toList == []) = true := by decide +kernel
theorem expr_good (vals : Int) (R known : List ByteArray) (hk : ∀ r ∈ R, hasB known r = true) : ∀ (d : Nat) (x : TExpr), geE vals R d x → exprF vals known 0 x = 0
  | d, ⟨op, n, nm, kids⟩, h => by
    rw [exprF, if_pos rfl]
    rcases geE_open h with ⟨h1, h2, h3, h4, h5⟩ | ⟨h1, h2, h3, h5⟩ | ⟨d, rfl, h1, h2, h3, h4, a, b, h5, ha, hb⟩
    · subst h1 h4 h5
      rw [exprFs]
      unfold exprHead
      exact head5 (by decide) (by decide) (by rw [empty_nil]; rfl) (by simp [valB, h2, h3]) rfl
    · subst h1 h2 h5
      rw [exprFs]
      unfold exprHead
      exact head5 (by decide) (by decide) rfl rfl (by simp [hk nm h3])
    · subst h3 h4 h5
      have hl : leafB op = false := by unfold leafB; rw [beq_eq_false_iff_ne.2 (by omega), beq_eq_false_iff_ne.2 (by omega)]; rfl
      have e1 : (op == 1) = false := beq_eq_false_iff_ne.2 (by omega)
      have e2 : (op == 2) = false := beq_eq_false_iff_ne.2 (by omega)
      have hh : exprHead vals known op 0 ⟨#[]⟩ [a, b].length 0 = 0 := by
        unfold exprHead
        exact head5 (by simp; omega) (by simp [hl]) (by rw [e1, e2, empty_nil]; rfl) (by rw [e1]; rfl) (by rw [e2]; rfl)
      rw [hh, exprFs, exprFs, exprFs, expr_good vals R known hk d a ha, expr_good vals R known hk d b hb]
theorem args_good (vals : Int) (R known : List ByteArray) (hk : ∀ r ∈ R, hasB known r = true) : ∀ (l : List TExpr), (∀ a ∈ l, ∃ d, d ≤ 2 ∧ geE vals R d a) → argsE vals known 0 l = 0
  | [], _ => by rw [argsE]
  | x :: xs, h => by
    obtain ⟨d, hd, hx⟩ := h x (by simp)
    have h1 := dep_good vals R 7 d x hx
    rw [argsE, need0 _ _ (by simp; omega), expr_good vals R known hk d x hx]
    exact args_good vals R known hk xs (fun a ha => h a (by simp [ha]))
theorem sme_good (vals : Int) (R : List ByteArray) (hR : ∀ r ∈ R, r ∈ nm4) : ∀ (d : Nat) (x : TExpr), geE vals R d x → smE x
  | d, ⟨op, n, nm, kids⟩, h => by
    rw [smE]
    rcases geE_open h with ⟨h1, h2, h3, h4, h5⟩ | ⟨h1, h2, h3, h5⟩ | ⟨d, rfl, h1, h2, h3, h4, a, b, h5, ha, hb⟩
    · subst h4 h5; exact ⟨by decide, by decide, by simp [smEs]⟩
    · subst h5
      have h6 := hR nm h3
      refine ⟨?_, by decide, by simp [smEs]⟩
      simp only [nm4, List.mem_cons, List.not_mem_nil, or_false] at h6
      rcases h6 with rfl | rfl | rfl | rfl <;> decide
    · subst h4 h5
      exact ⟨by decide, by simp, by simp only [smEs]; exact ⟨sme_good vals R hR d a ha, sme_good vals R hR d b hb, trivial⟩⟩
theorem smes_good (vals : Int) (R : List ByteArray) (hR : ∀ r ∈ R, r ∈ nm4) : ∀ (l : List TExpr), (∀ a ∈ l, ∃ d, d ≤ 2 ∧ geE vals R d a) → smEs l
  | [], _ => by simp [smEs]
  | x :: xs, h => by
    obtain ⟨d, hd, hx⟩ := h x (by simp)
    rw [smEs]
    exact ⟨sme_good vals R hR d x hx, smes_good vals R hR xs (fun a ha => h a (by simp [ha]))⟩
/-! ### names -/
/-- What the program names: its locations and values. -/
structure Gd (P : AP) (vals : Int) (nl : Nat) : Prop where
  vs : P.vals = vals
  lo : P.init.map (fun c => c.f0) = loc4.take nl
  n1 : 1 ≤ nl
  n4 : nl ≤ 4
theorem locB_eq (l : List TCell) (s : ByteArray) : locB l s = hasB (l.map (fun c => c.f0)) s := by unfold locB hasB; rw [List.any_map]; rfl
theorem nm_name (s : ByteArray) (h : s ∈ nm4) : nameB s = true := by
  simp only [nm4, List.mem_cons, List.not_mem_nil, or_false] at h
  rcases h with rfl | rfl | rfl | rfl <;> kernel_rfl
theorem nm_loc0 : ∀ s ∈ nm4, ∀ nl ∈ [0, 1, 2, 3, 4], hasB (loc4.take nl) s = false := by decide +kernel
theorem nm_loc (s : ByteArray) (h : s ∈ nm4) (nl : Nat) (hn : nl ≤ 4) : hasB (loc4.take nl) s = false := nm_loc0 s h nl (by
  have : nl = 0 ∨ nl = 1 ∨ nl = 2 ∨ nl = 3 ∨ nl = 4 := by omega
  simpa using this)
theorem nm_ne0 : ∀ s ∈ nm4, s.toList ≠ [] := by decide +kernel
theorem nm_ne (s : ByteArray) (h : s ∈ nm4) : s.toList ≠ [] := nm_ne0 s h
theorem nm_size (s : ByteArray) (h : s ∈ nm4) : s.size ≤ 1000 := by
  simp only [nm4, List.mem_cons, List.not_mem_nil, or_false] at h
  rcases h with rfl | rfl | rfl | rfl <;> decide
theorem loc_size (s : ByteArray) (nl : Nat) (h : s ∈ loc4.take nl) : s.size ≤ 1000 := by
  have h := List.mem_of_mem_take h
  simp only [loc4, List.mem_cons, List.not_mem_nil, or_false] at h
  rcases h with rfl | rfl | rfl | rfl <;> decide
/-! ### registers -/
/-- The names that check knows: those of the maker at least, four at most. -/
structure Kn (R regs : List ByteArray) : Prop where
  hk : ∀ r ∈ R, hasB regs r = true
  s4 : ∀ r ∈ regs, r ∈ nm4
  nd : regs.Nodup
  r4 : ∀ r ∈ R, r ∈ nm4
theorem Kn.len {R regs : List ByteArray} (h : Kn R regs) : regs.length ≤ 4 := nodup_len regs nm4 h.nd h.s4
theorem has_addR (regs : List ByteArray) (r s : ByteArray) (h : hasB regs s = true) : hasB (addR regs r) s = true := by
  unfold addR; split
  · exact h
  · rw [has_app, h]; rfl
theorem addR_has (regs : List ByteArray) (r : ByteArray) : hasB (addR regs r) r = true := by
  unfold addR; split
  · assumption
  · rw [has_app, has_of (show r ∈ [r] by simp)]; simp
theorem Kn.add {R regs : List ByteArray} (h : Kn R regs) (r : ByteArray) (hr : r ∈ nm4) : Kn R (addR regs r) :=
  ⟨fun s hs => has_addR regs r s (h.hk s hs), fun s hs => by
      unfold addR at hs; split at hs
      · exact h.s4 s hs
      · rcases List.mem_append.1 hs with q | q
        · exact h.s4 s q
        · rw [List.mem_singleton.1 q]; exact hr, by
      unfold addR; split
      · exact h.nd
      · have hn := not_has (Bool.eq_false_iff.2 (by assumption : ¬ hasB regs r = true))
        rw [List.nodup_append]
        exact ⟨h.nd, by simp, fun a ha b hb => by rw [List.mem_singleton.1 hb]; exact fun e => hn (e ▸ ha)⟩, h.r4⟩
theorem Kn.next {R regs : List ByteArray} (h : Kn R regs) (r : ByteArray) (hr : r ∈ nm4) : Kn (nextR R r) (addR regs r) := by
  have hne := nm_ne r hr
  have ha := h.add r hr
  have hm : ∀ s ∈ nextR R r, s ∈ R ∨ s = r := fun s hs => by
    unfold nextR withF at hs
    rw [if_neg hne] at hs
    split at hs
    · exact .inl hs
    · rcases List.mem_append.1 hs with q | q
      · exact .inl q
      · exact .inr (List.mem_singleton.1 q)
  exact ⟨fun s hs => (hm s hs).elim (ha.hk s) (fun e => by rw [e]; exact addR_has regs r), ha.s4, ha.nd, fun s hs => (hm s hs).elim (h.r4 s) (fun e => e ▸ hr)⟩
theorem Kn.nil : Kn [] [] := ⟨fun r h => by simp at h, fun r h => by simp at h, List.nodup_nil, fun r h => by simp at h⟩
/-- What the first known are, where the check's grow. -/
theorem Kn.up {R R' regs regs' : List ByteArray} (h : Kn R regs) (h' : Kn R' regs') (hm : ∀ s, hasB regs s = true → hasB regs' s = true) : Kn R regs' := ⟨fun r hr => hm r (h.hk r hr), h'.s4, h'.nd, h.r4⟩
theorem next_none (R : List ByteArray) (r : ByteArray) (h : r = ⟨#[]⟩) : nextR R r = R := by subst h; unfold nextR; rw [if_pos (by decide +kernel)]
end Go.Proofs.Ytlhbnbckanmaiaa.K
namespace Go.Proofs.Ytlhbnbckanmaiaa.K
open Go Go.RowKit Go.Proofs.YtlhbnbckanmaiaaW.PrintWords Go.Proofs.YtlhbnbckanmaiaaW.PrintLast Go.Proofs.YtlhbnbckanmaiaaW.PrintMore Go.Proofs.Ytlhbnbckanmaiaa.PC1
set_option linter.unusedVariables false
set_option linter.unusedSimpArgs false
theorem body_noreg {k : Int} (h : bodyF k = true) : regF k = false := by
  unfold bodyF at h; have := beq_iff_eq.1 h; subst this; decide
theorem emp_iff : (⟨#[]⟩ : ByteArray).toList.isEmpty = true := by decide +kernel
theorem hasI_of {l : List Int} {s : Int} (h : s ∈ l) : hasI l s = true := by
  unfold hasI; rw [List.any_eq_true]; exact ⟨s, h, beq_self_eq_true _⟩
theorem regs1_of (k : Int) (regs : List ByteArray) (r : ByteArray) : regs1 regs k r = regsOf k regs r := by
  unfold regs1 regsOf addR
  cases regF k <;> cases hasB regs r <;> simp
theorem has_regsOf (k : Int) (regs : List ByteArray) (r s : ByteArray) (h : hasB regs s = true) : hasB (regsOf k regs r) s = true := by
  unfold regsOf; split
  · exact has_addR _ _ _ h
  · exact h
mutual
theorem has_regsS : ∀ (regs : List ByteArray) (x : TStmt) (s : ByteArray), hasB regs s = true → hasB (regsS regs x) s = true
  | regs, ⟨k, _, r, _, _, t, e⟩, s, h => by
    rw [regsS, regs1_of]
    exact has_regsL _ e s (has_regsL _ t s (has_regsOf k regs r s h))
theorem has_regsL : ∀ (regs : List ByteArray) (l : List TStmt) (s : ByteArray), hasB regs s = true → hasB (regsL regs l) s = true
  | regs, [], s, h => by rw [regsL]; exact h
  | regs, x :: xs, s, h => by rw [regsL]; exact has_regsL _ xs s (has_regsS regs x s h)
end
/-- A statement that is made has nothing wrong itself. -/
theorem stmt_good {P : AP} {vals : Int} {nl : Nat} (hg : Gd P vals nl) {rec : List ByteArray → List TStmt → Prop} {R regs : List ByteArray} {x : TStmt} (hx : gdS vals nl rec R x) (hK : Kn R regs) {st deep : Int} (h1 : st ≤ 16) (h2 : deep ≤ 6) : stmtE P st deep regs x 0 = 0 ∧ Kn (nextR R x.f2) (regsOf x.f0 regs x.f2) := by
  obtain ⟨k0, k7, hm, ha, hargs, hr, hl, hb⟩ := hx
  have e1 : st1 st deep 0 = 0 := need0 _ _ (by simp [h1, h2])
  have e2 : st2 x.f0 x.f1 x.f4.length 0 = 0 := need0 _ _ (by
    rw [hasI_of hm, beq_iff_eq.2 ha]; unfold okF; simp [k0, k7])
  have e3 : st3 x.f0 x.f5.length x.f6.length 0 = 0 := need0 _ _ (by
    cases e : bodyF x.f0 with
    | true => rfl
    | false => rw [e, if_neg (by decide)] at hb; rw [hb.1, hb.2]; rfl)
  have e5 : st5 P x.f0 x.f3 0 = 0 := by
    unfold st5
    cases e : locF x.f0 with
    | true => rw [e, if_pos rfl] at hl; rw [if_pos rfl]; exact need0 _ _ (by rw [locB_eq, hg.lo]; exact has_of hl)
    | false => rw [e, if_neg (by decide)] at hl; rw [if_neg (by decide), hl]; exact need0 _ _ emp_iff
  have e6 : argsE P.vals regs 0 x.f4 = 0 := by rw [hg.vs]; exact args_good vals R regs hK.hk x.f4 hargs
  cases e : regF x.f0 with
  | true =>
    rw [e, if_pos rfl] at hr
    have e4 : st4 P x.f0 regs x.f2 0 = 0 := by
      unfold st4
      rw [e, if_pos rfl, need0 (nameB x.f2 && !(locB P.init x.f2)) 4 (by rw [nm_name _ hr, locB_eq, hg.lo, nm_loc _ hr nl hg.n4]; rfl)]
      exact need0 _ _ (by have := (hK.add x.f2 hr).len; simp; omega)
    refine ⟨by unfold stmtE; rw [e1, e2, e3, e4, e5, e6], ?_⟩
    unfold regsOf; rw [e, if_pos rfl]; exact hK.next x.f2 hr
  | false =>
    rw [e, if_neg (by decide)] at hr
    have e4 : st4 P x.f0 regs x.f2 0 = 0 := by unfold st4; rw [e, if_neg (by decide), hr]; exact need0 _ _ emp_iff
    refine ⟨by unfold stmtE; rw [e1, e2, e3, e4, e5, e6], ?_⟩
    unfold regsOf; rw [e, if_neg (by decide), next_none R x.f2 hr]; exact hK
/-- What a block of good statements leaves. -/
def BlockGood (P : AP) (deep : Int) (R : List ByteArray) (l : List TStmt) (R' : List ByteArray) : Prop :=
  ∀ s : BS, Kn R s.regs → s.e = 0 → s.st + cntL l ≤ 16 → blockL P deep s l = ⟨s.part + cntL l, 0, s.st + cntL l, regsL s.regs l⟩ ∧ Kn R' (regsL s.regs l)
theorem BlockGood.nil (P : AP) (deep : Int) (R : List ByteArray) : BlockGood P deep R [] R := fun s hK he _ => by
  rw [blockL, cntL, regsL]
  exact ⟨by cases s; simp at he; simp [he], hK⟩
theorem list_good {P : AP} {vals : Int} {nl : Nat} (hg : Gd P vals nl) {rec : List ByteArray → List TStmt → Prop} {deep : Int} (hd : deep ≤ 6) (hrec : ∀ R l, rec R l → ∃ R', BlockGood P (deep + 1) R l R') : ∀ (l : List TStmt) (R R' : List ByteArray), gdL (gdS vals nl rec) R l R' → BlockGood P deep R l R'
  | [], R, R', h => by obtain rfl : R' = R := h; exact BlockGood.nil P deep R'
  | x :: xs, R, R', h => by
    intro s hK he hst
    obtain ⟨hx, hxs⟩ := h
    rw [cntL] at hst
    have hcx := cntS_def x
    have hh := stmt_good hg hx hK (st := s.st + 1) (deep := deep) (by omega) hd
    have hS : (stmtS P deep s x) = ⟨s.part + 1, 0, s.st + 1, regsOf x.f0 s.regs x.f2⟩ := by
      unfold stmtS; rw [he, hh.1]
    have hB : blockS P deep s x = ⟨s.part + cntS x, 0, s.st + cntS x, regsS s.regs x⟩ ∧ Kn (nextR R x.f2) (regsS s.regs x) := by
      rw [blockS_def, if_neg (by simp [he]), hS, if_neg (by simp), regsS_def, regs1_of]
      obtain ⟨k0, k7, hm, ha, hargs, hr, hl, hb⟩ := hx
      cases e : bodyF x.f0 with
      | false =>
        rw [e, if_neg (by decide)] at hb
        rw [hb.1, hb.2] at hcx ⊢
        have hc1 : cntS x = 1 := by rw [hcx, cntL]
        simp only [blockL, regsL, hc1]
        exact ⟨rfl, hh.2⟩
      | true =>
        rw [e, if_pos rfl] at hb
        have hnr : x.f2 = ⟨#[]⟩ := by rw [body_noreg e, if_neg (by decide)] at hr; exact hr
        have hn : nextR R x.f2 = R := next_none R x.f2 hnr
        rw [hn] at hh ⊢
        obtain ⟨R1, g1⟩ := hrec R x.f5 hb.1
        obtain ⟨R2, g2⟩ := hrec R x.f6 hb.2
        have a1 := g1 ⟨s.part + 1, 0, s.st + 1, regsOf x.f0 s.regs x.f2⟩ hh.2 rfl (by simp only; omega)
        have K1 : Kn R (regsL (regsOf x.f0 s.regs x.f2) x.f5) := hh.2.up a1.2 (fun q hq => has_regsL _ x.f5 q hq)
        have a2 := g2 ⟨s.part + 1 + cntL x.f5, 0, s.st + 1 + cntL x.f5, regsL (regsOf x.f0 s.regs x.f2) x.f5⟩ K1 rfl (by simp only; omega)
        rw [a1.1]
        simp only
        rw [a2.1]
        refine ⟨?_, K1.up a2.2 (fun q hq => has_regsL _ x.f6 q hq)⟩
        have h1 : s.part + 1 + (cntL x.f5 : Int) + (cntL x.f6 : Int) = s.part + (cntS x : Int) := by omega
        have h2 : s.st + 1 + (cntL x.f5 : Int) + (cntL x.f6 : Int) = s.st + (cntS x : Int) := by omega
        simp only [h1, h2]
    have ih := list_good hg hd hrec xs _ R' hxs ⟨s.part + cntS x, 0, s.st + cntS x, regsS s.regs x⟩ hB.2 rfl (by simp only; omega)
    rw [blockL, hB.1, ih.1, cntL, regsL]
    refine ⟨?_, ih.2⟩
    have h1 : s.part + (cntS x : Int) + (cntL xs : Int) = s.part + ((cntS x + cntL xs : Nat) : Int) := by omega
    have h2 : s.st + (cntS x : Int) + (cntL xs : Int) = s.st + ((cntS x + cntL xs : Nat) : Int) := by omega
    simp only [h1, h2]
theorem block_good {P : AP} {vals : Int} {nl : Nat} (hg : Gd P vals nl) : ∀ (D : Nat) (deep : Int), deep + D ≤ 6 → ∀ (l : List TStmt) (R R' : List ByteArray), gdB vals nl D R l R' → BlockGood P deep R l R'
  | 0, deep, hd, l, R, R', h => list_good hg (by omega) (fun R l h => absurd h (by simp)) l R R' h
  | D + 1, deep, hd, l, R, R', h => list_good hg (by omega) (fun R l h => by obtain ⟨-, R', h⟩ := h; exact ⟨R', block_good hg D (deep + 1) (by omega) l R R' h⟩) l R R' h
/-! ### sizes -/
theorem cnt_list {vals : Int} {nl : Nat} {rec : List ByteArray → List TStmt → Prop} {n : Nat} (hrec : ∀ R l, rec R l → cntL l ≤ n) : ∀ (l : List TStmt) (R R' : List ByteArray), gdL (gdS vals nl rec) R l R' → cntL l ≤ (1 + n + n) * l.length
  | [], R, R', h => by rw [cntL]; omega
  | x :: xs, R, R', h => by
    have ih := cnt_list hrec xs _ R' h.2
    have hcx := cntS_def x
    have hx : cntS x ≤ 1 + n + n := by
      obtain ⟨k0, k7, hm, ha, hargs, hr, hl, hb⟩ := h.1
      cases e : bodyF x.f0 with
      | false => rw [e, if_neg (by decide)] at hb; rw [hb.1, hb.2, cntL] at hcx; omega
      | true => rw [e, if_pos rfl] at hb; have := hrec _ _ hb.1; have := hrec _ _ hb.2; omega
    rw [cntL, List.length_cons, Nat.mul_succ]; omega
theorem cnt_0 {vals : Int} {nl : Nat} (l : List TStmt) (R R' : List ByteArray) (h : gdB vals nl 0 R l R') : cntL l ≤ l.length := by
  have := cnt_list (n := 0) (fun R l h => absurd h (by simp)) l R R' h; omega
theorem cnt_1 {vals : Int} {nl : Nat} (l : List TStmt) (R R' : List ByteArray) (h : gdB vals nl 1 R l R') : cntL l ≤ 3 * l.length :=
  cnt_list (n := 1) (fun R l h => by obtain ⟨h1, R', h⟩ := h; have := cnt_0 l R R' h; omega) l R R' h
theorem mem_next {R : List ByteArray} {r : ByteArray} (hR : ∀ s ∈ R, s ∈ nm4) (hr : r ∈ nm4 ∨ r = ⟨#[]⟩) : ∀ s ∈ nextR R r, s ∈ nm4 := by
  intro s hs
  unfold nextR at hs
  split at hs
  · exact hR s hs
  · rename_i hne
    rcases hr with hr | hr
    · unfold withF at hs
      split at hs
      · exact hR s hs
      · rcases List.mem_append.1 hs with q | q
        · exact hR s q
        · rw [List.mem_singleton.1 q]; exact hr
    · rw [hr] at hne; exact absurd (by decide +kernel) hne
theorem sm_list {vals : Int} {nl : Nat} {rec : List ByteArray → List TStmt → Prop} (hrec : ∀ R l, (∀ s ∈ R, s ∈ nm4) → rec R l → smSs l ∧ l.length ≤ 1000) : ∀ (l : List TStmt) (R R' : List ByteArray), (∀ s ∈ R, s ∈ nm4) → gdL (gdS vals nl rec) R l R' → smSs l ∧ ∀ s ∈ R', s ∈ nm4
  | [], R, R', hR, h => by obtain rfl : R' = R := h; exact ⟨by rw [smSs]; trivial, hR⟩
  | x :: xs, R, R', hR, h => by
    obtain ⟨k0, k7, hm, ha, hargs, hr, hl, hb⟩ := h.1
    have hr' : x.f2 ∈ nm4 ∨ x.f2 = ⟨#[]⟩ := by split at hr; exact .inl hr; exact .inr hr
    have ih := sm_list hrec xs _ R' (mem_next hR hr') h.2
    refine ⟨?_, ih.2⟩
    rw [smSs]
    refine ⟨?_, ih.1⟩
    rw [smS_def]
    have ha2 : argsF x.f0 ≤ 2 := by unfold argsF; repeat' split
                                    all_goals omega
    have hb' : smSs x.f5 ∧ x.f5.length ≤ 1000 ∧ smSs x.f6 ∧ x.f6.length ≤ 1000 := by
      split at hb
      · have q1 := hrec R _ hR hb.1
        have q2 := hrec R _ hR hb.2
        exact ⟨q1.1, q1.2, q2.1, q2.2⟩
      · rw [hb.1, hb.2, smSs]; exact ⟨trivial, by simp, trivial, by simp⟩
    refine ⟨?_, ?_, by omega, smes_good vals R hR x.f4 hargs, hb'.2.1, hb'.1, hb'.2.2.2, hb'.2.2.1⟩
    · rcases hr' with q | q
      · exact nm_size _ q
      · rw [q]; decide
    · split at hl
      · exact loc_size _ nl hl
      · rw [hl]; decide
theorem sm_0 {vals : Int} {nl : Nat} (l : List TStmt) (R R' : List ByteArray) (hR : ∀ s ∈ R, s ∈ nm4) (h : gdB vals nl 0 R l R') : smSs l :=
  (sm_list (fun R l _ h => absurd h (by simp)) l R R' hR h).1
theorem sm_1 {vals : Int} {nl : Nat} (l : List TStmt) (R R' : List ByteArray) (hR : ∀ s ∈ R, s ∈ nm4) (h : gdB vals nl 1 R l R') : smSs l ∧ ∀ s ∈ R', s ∈ nm4 :=
  sm_list (fun R l hR h => by obtain ⟨h1, R', h⟩ := h; exact ⟨sm_0 l R R' hR h, by omega⟩) l R R' hR h
end Go.Proofs.Ytlhbnbckanmaiaa.K
namespace Go.Proofs.Ytlhbnbckanmaiaa.K
open Go Go.RowKit Go.Proofs.YtlhbnbckanmaiaaW.PrintWords Go.Proofs.YtlhbnbckanmaiaaW.PrintLast Go.Proofs.YtlhbnbckanmaiaaW.PrintMore Go.Proofs.Ytlhbnbckanmaiaa.PC1
set_option linter.unusedVariables false
set_option linter.unusedSimpArgs false
/-- A program that is made: all but its condition. -/
structure GdT (P : AP) (vals : Int) (nl nt : Nat) (RS : List (List ByteArray)) : Prop where
  gd : Gd P vals nl
  nm : P.nm = madeB
  v2 : 2 ≤ vals ∧ vals ≤ 4
  iv : ∀ y ∈ P.init, 0 ≤ y.f1 ∧ y.f1 < vals
  tl : P.threads.length = nt
  n1 : 1 ≤ nt ∧ nt ≤ 4
  rl : RS.length = nt
  th : ∀ (t : Nat) (l : List TStmt) (R : List ByteArray), P.threads[t]? = some l → RS[t]? = some R → gdB vals nl 1 [] l R ∧ l.length ≤ 4
  ask : P.ask = 1 ∨ P.ask = 2
  cd : gdC vals nl RS 2 ⟨P.op, P.th, P.cn, P.n, P.kids⟩
theorem loc_len (nl : Nat) (h : nl ≤ 4) : (loc4.take nl).length = nl := by rw [List.length_take]; show min nl 4 = nl; omega
theorem GdT.il {P : AP} {vals : Int} {nl nt : Nat} {RS : List (List ByteArray)} (h : GdT P vals nl nt RS) : P.init.length = nl := by
  have := congrArg List.length h.gd.lo
  rw [List.length_map, loc_len nl h.gd.n4] at this; exact this
theorem made_name : nameB madeB = true := by kernel_rfl
theorem head_good {P : AP} (h1 : nameB P.nm = true) (h2 : 2 ≤ P.vals ∧ P.vals ≤ 4) (h3 : P.init.length ≤ 4) (h4 : 1 ≤ P.threads.length) (h5 : P.threads.length ≤ 4) : runF P s0 .head = s0 := by
  unfold runF; rw [if_pos (show s0.e = 0 from rfl)]; unfold stepF
  have : headE P s0.e = 0 := by
    show headE P 0 = 0
    unfold headE
    exact head5 h1 (by simp [h2.1, h2.2]) (by simp; omega) (by simp; omega) (by simp; omega)
  rw [this]; rfl
/-! ### inits -/
theorem iniF_succ (P : AP) (n : Nat) (s : BS) : iniF P (n + 1) s = runF P (iniF P n s) (.init n 0) := by
  unfold iniF; rw [List.range_succ, List.foldl_append]; rfl
theorem thrF_succ (P : AP) (n : Nat) (s : BS) : thrF P (n + 1) s = runF P (thrF P n s) (.thr n 0) := by
  unfold thrF; rw [List.range_succ, List.foldl_append]; rfl
theorem thrF_zero (P : AP) (s : BS) : thrF P 0 s = s := rfl
theorem inits_to (P : AP) : ∀ n : Nat, (∀ i < n, initE P i 0 = 0) → iniF P n s0 = ⟨n, 0, 0, []⟩
  | 0, _ => rfl
  | n + 1, h => by
    rw [iniF_succ, inits_to P n (fun i hi => h i (by omega))]
    unfold runF; rw [if_pos rfl]; unfold stepF
    simp only
    rw [h n (by omega)]; rfl
theorem locs_ok : ∀ i ∈ [0, 1, 2, 3], nameB (loc4.getD i ⟨#[]⟩) = true ∧ hasB (loc4.take i) (loc4.getD i ⟨#[]⟩) = false := by decide +kernel
theorem nat4 {i : Nat} (h : i < 4) : i ∈ [0, 1, 2, 3] := by
  have : i = 0 ∨ i = 1 ∨ i = 2 ∨ i = 3 := by omega
  simpa using this
theorem init_name {P : AP} {nl : Nat} (hl : P.init.map (fun c => c.f0) = loc4.take nl) (h4 : nl ≤ 4) (i : Nat) (hi : i < P.init.length) : (cellAt P i).f0 = loc4.getD i ⟨#[]⟩ ∧ i < 4 := by
  have hn : P.init.length = nl := by have := congrArg List.length hl; rw [List.length_map, loc_len nl h4] at this; exact this
  refine ⟨?_, by omega⟩
  rw [cellAt_eq P i hi]
  have h1 : (P.init.map (fun c => c.f0))[i]? = some P.init[i].f0 := by rw [List.getElem?_map, List.getElem?_eq_getElem hi]; rfl
  rw [hl, List.getElem?_take, if_pos (by omega)] at h1
  rw [List.getD_eq_getElem?_getD, h1]; rfl
/-- The names ahead of a place that was left as it was made. -/
theorem init_ahead {l : List TCell} {nl : Nat} (hl : l.map (fun c => c.f0) = loc4.take nl) (i : Nat) (hi : i ≤ nl) (s : ByteArray) : locB (l.take i) s = hasB (loc4.take i) s := by
  rw [locB_eq, List.map_take, hl, List.take_take, Nat.min_eq_left hi]
theorem init_good {P : AP} {vals : Int} {nl nt : Nat} {RS : List (List ByteArray)} (h : GdT P vals nl nt RS) (i : Nat) (hi : i < nl) : initE P i 0 = 0 := by
  have hi' : i < P.init.length := by rw [h.il]; exact hi
  obtain ⟨h1, h2⟩ := init_name h.gd.lo h.gd.n4 i hi'
  unfold initE
  obtain ⟨k1, k2⟩ := locs_ok i (nat4 h2)
  rw [h1, k1, init_ahead h.gd.lo i (by omega), k2, need0 _ _ (by rfl)]
  refine need0 _ _ ?_
  have := h.iv (cellAt P i) (by rw [cellAt_eq P i hi']; exact List.getElem_mem hi')
  unfold valB; rw [h.gd.vs]; simp [this.1, this.2]
/-! ### threads -/
def sumC : List (List TStmt) → Nat
  | [] => 0
  | l :: ls => cntL l + sumC ls
theorem sumC_snoc : ∀ (l : List (List TStmt)) (x : List TStmt), sumC (l ++ [x]) = sumC l + cntL x
  | [], x => by simp [sumC]
  | y :: ys, x => by simp only [List.cons_append, sumC, sumC_snoc ys x]; omega
theorem sumC_take (l : List (List TStmt)) (i : Nat) (hi : i < l.length) : sumC (l.take (i + 1)) = sumC (l.take i) + cntL l[i] := by
  rw [List.take_succ_eq_append_getElem hi, sumC_snoc]
theorem thr_good {P : AP} {vals : Int} {nl : Nat} (hg : Gd P vals nl) (l : List TStmt) (R : List ByteArray) (h : gdB vals nl 1 [] l R) (h4 : l.length ≤ 4) (p : Int) : blockL P 0 ⟨p, 0, 0, []⟩ l = ⟨p + cntL l, 0, 0 + cntL l, regsL [] l⟩ ∧ Kn R (regsL [] l) ∧ cntL l ≤ 12 := by
  have hc := cnt_1 l [] R h
  have := block_good hg 1 0 (by omega) l [] R h ⟨p, 0, 0, []⟩ Kn.nil rfl (by simp only; omega)
  exact ⟨this.1, this.2, by omega⟩
theorem thrs_to {P : AP} {vals : Int} {nl : Nat} (hg : Gd P vals nl) (s : BS) (he : s.e = 0) : ∀ n : Nat, n ≤ P.threads.length → (∀ (t : Nat) (l : List TStmt), t < n → P.threads[t]? = some l → ∃ R, gdB vals nl 1 [] l R ∧ l.length ≤ 4) → ∃ st regs, thrF P n s = ⟨s.part + sumC (P.threads.take n), 0, st, regs⟩
  | 0, _, _ => ⟨s.st, s.regs, by rw [thrF_zero, List.take_zero]; cases s; simp at he; simp [he, sumC]⟩
  | n + 1, hn, h => by
    obtain ⟨st, regs, ih⟩ := thrs_to hg s he n (by omega) (fun t l ht hl => h t l (by omega) hl)
    have hn' : n < P.threads.length := by omega
    obtain ⟨R, h1, h2⟩ := h n P.threads[n] (by omega) (List.getElem?_eq_getElem hn')
    have h3 := thr_good hg P.threads[n] R h1 h2 (s.part + sumC (P.threads.take n))
    rw [thrF_succ, ih]
    unfold runF; rw [if_pos rfl]; unfold stepF
    simp only
    rw [thrOf_eq P n hn', h3.1, sumC_take _ n hn']
    refine ⟨0 + (cntL P.threads[n] : Int), regsL [] P.threads[n], ?_⟩
    rw [show s.part + (sumC (P.threads.take n) : Int) + (cntL P.threads[n] : Int) = s.part + ((sumC (P.threads.take n) + cntL P.threads[n] : Nat) : Int) from by omega]
theorem GdT.any {P : AP} {vals : Int} {nl nt : Nat} {RS : List (List ByteArray)} (h : GdT P vals nl nt RS) (t : Nat) (l : List TStmt) (hl : P.threads[t]? = some l) : ∃ R, RS[t]? = some R ∧ gdB vals nl 1 [] l R ∧ l.length ≤ 4 := by
  have ht : t < P.threads.length := (List.getElem?_eq_some_iff.1 hl).1
  have htr : t < RS.length := by rw [h.rl]; have := h.tl; omega
  obtain ⟨h1, h2⟩ := h.th t l RS[t] hl (List.getElem?_eq_getElem htr)
  exact ⟨RS[t], List.getElem?_eq_getElem htr, h1, h2⟩
/-! ### the condition -/
theorem gdC_open {vals : Int} {nl : Nat} {RS : List (List ByteArray)} {d : Nat} {op th n : Int} {nm : ByteArray} {kids : List TCond} (h : gdC vals nl RS d ⟨op, th, nm, n, kids⟩) :
    (op = 1 ∧ th = 0 ∧ nm ∈ loc4.take nl ∧ 0 ≤ n ∧ n < vals ∧ kids = []) ∨ (op = 2 ∧ (∃ t : Nat, th = t ∧ ∃ R, RS[t]? = some R ∧ nm ∈ R) ∧ 0 ≤ n ∧ n < vals ∧ kids = []) ∨ ∃ d', d = d' + 1 ∧ th = 0 ∧ nm = ⟨#[]⟩ ∧ n = 0 ∧ ((op = 3 ∧ ∃ a, kids = [a] ∧ gdC vals nl RS d' a) ∨ ((op = 4 ∨ op = 5) ∧ ∃ a b, kids = [a, b] ∧ gdC vals nl RS d' a ∧ gdC vals nl RS d' b)) := by
  cases d with
  | zero =>
    rw [gdC] at h
    rcases h with h | h | h
    · exact .inl h
    · exact .inr (.inl h)
    · exact absurd h (by simp)
  | succ d =>
    rw [gdC] at h
    rcases h with h | h | h
    · exact .inl h
    · exact .inr (.inl h)
    · exact .inr (.inr ⟨d, rfl, h⟩)
theorem depC_good {vals : Int} {nl : Nat} {RS : List (List ByteArray)} : ∀ (n d : Nat) (x : TCond), gdC vals nl RS d x → depC n x ≤ (d : Int) + 1
  | 0, d, x, h => by rw [depC]; omega
  | n + 1, d, ⟨op, th, nm, k, kids⟩, h => by
    rw [depC]
    rcases gdC_open h with ⟨_, _, _, _, _, hk⟩ | ⟨_, _, _, _, hk⟩ | ⟨d, rfl, _, _, _, ⟨_, a, hk, ha⟩ | ⟨_, a, b, hk, ha, hb⟩⟩
    · subst hk; simp only [List.foldl_nil]; omega
    · subst hk; simp only [List.foldl_nil]; omega
    · subst hk
      have h1 := depC_good n d a ha
      simp only [List.foldl_cons, List.foldl_nil]; omega
    · subst hk
      have h1 := depC_good n d a ha
      have h2 := depC_good n d b hb
      simp only [List.foldl_cons, List.foldl_nil]; omega
theorem cond_good {P : AP} {vals : Int} {nl : Nat} (hg : Gd P vals nl) {RS : List (List ByteArray)} (hr : ∀ (t : Nat) (R : List ByteArray), RS[t]? = some R → ∃ l, P.threads[t]? = some l ∧ ∀ r ∈ R, hasB (regsL [] l) r = true) : ∀ (d : Nat) (x : TCond), gdC vals nl RS d x → condF P 0 x = 0
  | d, ⟨op, th, nm, n, kids⟩, h => by
    rw [condF, if_pos rfl]
    rcases gdC_open h with ⟨h1, h2, h3, h4, h5, h6⟩ | ⟨h1, ⟨t, h2, R, h3, h3'⟩, h4, h5, h6⟩ | ⟨d, rfl, h1, h2, h3, ⟨h4, a, h5, ha⟩ | ⟨h4, a, b, h5, ha, hb⟩⟩
    · subst h1 h2 h6
      rw [condFs]
      unfold condHead
      rw [need0 _ _ (by rfl)]
      unfold askF; rw [if_pos rfl]; unfold memE
      rw [need0 _ _ (by rfl), need0 _ _ (by rw [locB_eq, hg.lo]; exact has_of h3), need0 _ _ (by unfold valB; rw [hg.vs]; simp [h4, h5])]
    · subst h1 h2 h6
      rw [condFs]
      unfold condHead
      rw [need0 _ _ (by rfl)]
      unfold askF; rw [if_neg (by decide), if_pos rfl]; unfold regIsE
      obtain ⟨l, hl, hl'⟩ := hr t R h3
      have hlt := (List.getElem?_eq_some_iff.1 hl).1
      have ht : thereB P (t : Int) = true := by unfold thereB; simp; omega
      have h1 : P.th1 (t : Int) = l := by
        unfold AP.th1 rdOf; rw [Int.toNat_natCast, List.getD_eq_getElem?_getD, hl]; rfl
      rw [ht, h1, hl' nm h3', need0 _ _ (by rfl), need0 _ _ (by rfl), need0 _ _ (by unfold valB; rw [hg.vs]; simp [h4, h5])]
    · subst h1 h2 h3 h4 h5
      have hh : condHead P 3 0 ⟨#[]⟩ 0 [a].length 0 = 0 := by
        unfold condHead; rw [need0 _ _ (by rfl)]; unfold askF; rw [if_neg (by decide), if_neg (by decide)]; unfold noneE; exact need0 _ _ (by rw [empty_nil]; rfl)
      rw [hh, condFs, condFs, cond_good hg hr d a ha]
    · subst h1 h2 h3 h5
      have hh : condHead P op 0 ⟨#[]⟩ 0 [a, b].length 0 = 0 := by
        unfold condHead; rw [need0 _ _ (by rcases h4 with rfl | rfl <;> rfl)]; unfold askF; rw [if_neg (by omega), if_neg (by omega)]; unfold noneE; exact need0 _ _ (by rw [empty_nil]; rfl)
      rw [hh, condFs, condFs, condFs, cond_good hg hr d a ha, cond_good hg hr d b hb]
theorem smc_good {vals : Int} {nl : Nat} {RS : List (List ByteArray)} (hR : ∀ (t : Nat) (R : List ByteArray), RS[t]? = some R → ∀ s ∈ R, s ∈ nm4) : ∀ (d : Nat) (x : TCond), gdC vals nl RS d x → smC x
  | d, ⟨op, th, nm, n, kids⟩, h => by
    rw [smC]
    rcases gdC_open h with ⟨h1, h2, h3, h4, h5, h6⟩ | ⟨h1, ⟨t, h2, R, h3, h3'⟩, h4, h5, h6⟩ | ⟨d, rfl, h1, h2, h3, ⟨h4, a, h5, ha⟩ | ⟨h4, a, b, h5, ha, hb⟩⟩
    · subst h6; exact ⟨loc_size _ nl h3, by simp, by rw [smCs]; trivial⟩
    · subst h6; exact ⟨nm_size _ (hR t R h3 nm h3'), by simp, by rw [smCs]; trivial⟩
    · subst h2 h5; exact ⟨by decide, by simp, by rw [smCs, smCs]; exact ⟨smc_good hR d a ha, trivial⟩⟩
    · subst h2 h5; exact ⟨by decide, by simp, by rw [smCs, smCs, smCs]; exact ⟨smc_good hR d a ha, smc_good hR d b hb, trivial⟩⟩
/-- The names of the registers that the maker knows are names. -/
theorem GdT.names {P : AP} {vals : Int} {nl nt : Nat} {RS : List (List ByteArray)} (h : GdT P vals nl nt RS) (t : Nat) (R : List ByteArray) (ht : RS[t]? = some R) : ∃ l, P.threads[t]? = some l ∧ (∀ r ∈ R, hasB (regsL [] l) r = true) ∧ ∀ s ∈ R, s ∈ nm4 := by
  have h1 : t < P.threads.length := by have := (List.getElem?_eq_some_iff.1 ht).1; have := h.rl; have := h.tl; omega
  have h2 := List.getElem?_eq_getElem h1
  obtain ⟨h3, h4⟩ := h.th t _ R h2 ht
  have h5 := thr_good h.gd _ R h3 h4 0
  exact ⟨_, h2, h5.2.1.hk, h5.2.1.r4⟩
theorem GdT.sm {P : AP} {vals : Int} {nl nt : Nat} {RS : List (List ByteArray)} (h : GdT P vals nl nt RS) : P.sm := by
  refine ⟨fun l hl => ?_, ?_⟩
  · obtain ⟨t, ht, e⟩ := List.getElem_of_mem hl
    obtain ⟨R, h1, h2, h3⟩ := h.any t l (by rw [List.getElem?_eq_getElem ht, e])
    exact ⟨(sm_1 l [] R (by simp) h2).1, by omega, by have := cnt_1 l [] R h2; omega⟩
  · have := smc_good (fun t R ht => (h.names t R ht).choose_spec.2.2) 2 _ h.cd
    rw [smC] at this
    exact ⟨this.2.2, this.2.1⟩
theorem GdT.cn {P : AP} {vals : Int} {nl nt : Nat} {RS : List (List ByteArray)} (h : GdT P vals nl nt RS) : P.cn.size ≤ 1000 := by
  have := smc_good (fun t R ht => (h.names t R ht).choose_spec.2.2) 2 _ h.cd
  rw [smC] at this
  exact this.1
theorem GdT.head {P : AP} {vals : Int} {nl nt : Nat} {RS : List (List ByteArray)} (h : GdT P vals nl nt RS) : runF P s0 .head = s0 :=
  head_good (by rw [h.nm]; exact made_name) (by rw [h.gd.vs]; exact h.v2) (by rw [h.il]; exact h.gd.n4) (by rw [h.tl]; exact h.n1.1) (by rw [h.tl]; exact h.n1.2)
/-- A program that is made may be. -/
theorem GdT.may {P : AP} {vals : Int} {nl nt : Nat} {RS : List (List ByteArray)} (h : GdT P vals nl nt RS) : mayE P = 0 ∧ mayN P = 0 := by
  have h2 : iniF P P.init.length s0 = ⟨P.init.length, 0, 0, []⟩ := inits_to P _ (fun i hi => init_good h i (by rw [h.il] at hi; exact hi))
  obtain ⟨st, regs, h3⟩ := thrs_to h.gd ⟨P.init.length, 0, 0, []⟩ rfl P.threads.length (Nat.le_refl _) (fun t l _ hl => by obtain ⟨R, _, h1, h2⟩ := h.any t l hl; exact ⟨R, h1, h2⟩)
  have hq : questE P 0 = 0 := by
    unfold questE
    have := depC_good 7 2 _ h.cd
    rw [need0 _ 1 (by rcases h.ask with e | e <;> rw [e] <;> rfl), need0 _ 3 (by simp; omega)]
    exact cond_good h.gd (fun t R ht => by obtain ⟨l, h1, h2, _⟩ := h.names t R ht; exact ⟨l, h1, h2⟩) 2 _ h.cd
  have h5 : (mayS P).e = 0 := by
    unfold mayS
    rw [h.head, h2, h3]
    unfold runF; rw [if_pos rfl]; unfold stepF
    exact hq
  unfold mayE mayN
  exact ⟨h5, if_pos h5⟩
end Go.Proofs.Ytlhbnbckanmaiaa.K
namespace Go.Proofs.Ytlhbnbckanmaiaa.K
open Go Go.RowKit Go.Proofs.YtlhbnbckanmaiaaW.PrintWords Go.Proofs.YtlhbnbckanmaiaaW.PrintLast Go.Proofs.YtlhbnbckanmaiaaW.PrintMore Go.Proofs.Ytlhbnbckanmaiaa.PC1
set_option linter.unusedVariables false
set_option linter.unusedSimpArgs false
/-- What a made program is, as check.May reads it. -/
theorem made_dat {w w' : World} {vals : Int} {nl nt : Nat} {e : Ending} (h : ProgPost1 w vals nl nt e w') (hv : 2 ≤ vals ∧ vals ≤ 4) (hn : 1 ≤ nl ∧ nl ≤ 4) (ht : 1 ≤ nt ∧ nt ≤ 4) :
    ∃ (P : AP) (RS : List (List ByteArray)), e = .returned (.agg #[.string P.nm, .int .i64 P.vals, .slice P.AI P.init.length P.cI, .slice P.AT P.threads.length P.cT, .int .i64 P.ask, .int .i64 P.op, .int .i64 P.th, .string P.cn, .int .i64 P.n, .slice P.AK P.kids.length P.cK]) ∧ P.dat w' ∧ GdT P vals nl nt RS := by
  obtain ⟨vI, vT, inits, ths, RS, ask, x, A, c, he, hRI, hNT, hl, hF, ha, hnm, hy, h1, h2, h3, h4⟩ := h
  obtain ⟨AI, cI, hvI, hcI, hC⟩ := Kd.R_reads hRI
  obtain ⟨AT, cT, rfl⟩ := Kd.N_slice hNT
  subst hvI
  have hg : GdT ⟨madeB, vals, AI, cI, inits, AT, cT, ths, ask, x.f0, x.f1, x.f2, x.f3, A, c, x.f4⟩ vals nl nt RS := ⟨⟨rfl, hnm, hn.1, hn.2⟩, rfl, hv, hy, h1, ht, h2, h3, ha, by cases x; exact h4⟩
  refine ⟨_, RS, he, ⟨hC, hcI, Kd.F_now (Kd.N_F hNT), (Kd.N_reads' hNT).2.1, Kd.F_now hF, hl, ?_, ?_, by show madeB.size ≤ 1000; decide, ?_⟩, hg⟩
  · have := hg.il; show inits.length ≤ 1000; simp only at this; omega
  · show ths.length ≤ 1000; omega
  · intro y hy'
    have h5 : y.f0 ∈ loc4.take nl := by rw [← hnm]; exact List.mem_map_of_mem hy'
    exact loc_size _ nl h5
theorem AP.dat.up {P : AP} {w w' : World} (h : P.dat w) (hb : Below w.heap.size w w') : P.dat w' :=
  ⟨Kd.C_below h.ci hb, h.li, Kd.C_below h.ct hb, h.lt, Kd.C_below h.ck hb, h.lk, h.ni, h.nt, h.nm, h.na⟩
set_option maxHeartbeats 8000000 in
set_option maxRecDepth 100000 in
theorem cmade_any (W : World) (A : Option Addr) (c : Nat) (l : List Int) (hr : Kd.C (Kd.int .u8) W A l.length l) (hc : l.length ≤ c) (hu : ∀ x ∈ l, 0 ≤ x ∧ x < 256) : Calls Try.prog 5 #[.slice A l.length c] W fun e W' => e = .returned (.bool true) ∧ Below W.heap.size W W' := by
  have HA := Aside0.mk (And.intro hr (And.intro hc hu))
  clear hr hc hu
  go_enter Try.func5, Try.ntmps5
  go_wp2_with fail
  refine (begun_any W).mono ?_
  rintro e w1 ⟨rfl, hb1⟩
  have HB1 := Aside0.mk hb1
  clear hb1
  by_cases h80 : (l.length : Int) > 80
  · have e1 : decide ((80 : Int) < (l.length : Int)) = true := decide_eq_true h80
    clear h80
    go_wp2
    go_ret
    exact ⟨rfl, HB1.out⟩
  · have e1 : decide ((80 : Int) < (l.length : Int)) = false := decide_eq_false h80
    have HL := Aside0.mk (show l.length ≤ 80 by omega)
    clear h80
    go_wp2_with fail
    refine (withemade_Made.calls A c l l 0 W w1 HB1.out HA.out.1 HA.out.2.1 rfl).mono ?_
    rintro e w2 ⟨g, rfl, hI, hb2, -, -⟩
    have HM := Aside0.mk (show MS W w2 g from ⟨hb2, l, 0, hI, by omega, by omega, by have := HL.out; omega, HA.out.2.2⟩)
    clear hI hb2 e1
    go_wp2_with fail
    refine (mprog_any W w2 g HM.out).mono ?_
    rintro e w3 ⟨wd, vals, nl, nt, hv2, hv4, hn1, hn4, ht1, ht4, hsz, hm3, hP, hc3⟩
    obtain ⟨P, RS, rfl, hd, hg⟩ := made_dat hP ⟨hv2, hv4⟩ ⟨hn1, hn4⟩ ⟨ht1, ht4⟩
    have HP := Aside0.mk (And.intro hd (And.intro hg hm3.1))
    clear hP hm3 hc3 hd hg hsz hv2 hv4 hn1 hn4 ht1 ht4
    go_wp2_with fail
    have hb4 := below_al (Below.refl w3.heap.size w3) (.cells #[.string P.nm, .int .i64 P.vals, .slice P.AI P.init.length P.cI, .slice P.AT P.threads.length P.cT, .int .i64 P.ask, .int .i64 P.op, .int .i64 P.th, .string P.cn, .int .i64 P.n, .slice P.AK P.kids.length P.cK] 28 (0, 0))
    refine (may_any _ P (HP.out.1.up hb4) HP.out.2.1.sm HP.out.2.1.cn).mono ?_
    rintro e w5 ⟨rfl, hb5⟩
    rw [HP.out.2.1.may.1, HP.out.2.1.may.2]
    have HB5 := Aside0.mk (below_step HP.out.2.2 (below_step hb4 hb5))
    clear hb4 hb5
    go_wp2
    go_ret
    exact ⟨rfl, HB5.out⟩
end Go.Proofs.Ytlhbnbckanmaiaa.K
