/- A text of a claim (ours): CheckInits: the walk; conditions: none of ours. -/
import Derived.Test.YtlhbnbckanmaiaaMAI
import Derived.Test.YtlhbnbckanmaiaaM6I
namespace Go.Proofs.Ytlhbnbckanmaiaa.K
open Go Go.RowKit Go.Proofs.YtlhbnbckanmaiaaW.PrintWords Go.Proofs.YtlhbnbckanmaiaaW.PrintLast Go.Proofs.YtlhbnbckanmaiaaW.PrintMore Go.Proofs.Ytlhbnbckanmaiaa.PC1
set_option linter.unusedVariables false
set_option linter.unusedSimpArgs false
theorem has_of {l : List ByteArray} {s : ByteArray} (h : s ∈ l) : hasB l s = true := by
  unfold hasB; rw [List.any_eq_true]; exact ⟨s, h, beq_self_eq_true _⟩
theorem has_app (l m : List ByteArray) (s : ByteArray) : hasB (l ++ m) s = (hasB l s || hasB m s) := by unfold hasB; rw [List.any_append]
theorem not_has {l : List ByteArray} {s : ByteArray} (h : hasB l s = false) : s ∉ l := fun hm => by rw [has_of hm] at h; cases h
theorem nodup_len : ∀ (l m : List ByteArray), l.Nodup → (∀ x ∈ l, x ∈ m) → l.length ≤ m.length
  | [], m, _, _ => Nat.zero_le _
  | x :: l, m, hn, hs => by
    obtain ⟨s, t, rfl⟩ := List.append_of_mem (hs x (by simp))
    have h1 := List.nodup_cons.1 hn
    have h2 := nodup_len l (s ++ t) h1.2 (fun y hy => by
      rcases List.mem_append.1 (hs y (by simp [hy])) with q | q
      · exact List.mem_append.2 (.inl q)
      · rcases List.mem_cons.1 q with e | q
        · exact absurd (e ▸ hy) h1.1
        · exact List.mem_append.2 (.inr q))
    simp only [List.length_cons, List.length_append] at h2 ⊢; omega
/-- An expression that is made, opened. -/
theorem geE_open {vals : Int} {R : List ByteArray} {d : Nat} {op n : Int} {nm : ByteArray} {kids : List TExpr} (h : geE vals R d ⟨op, n, nm, kids⟩) :
    (op = 1 ∧ 0 ≤ n ∧ n < vals ∧ nm = ⟨#[]⟩ ∧ kids = []) ∨ (op = 2 ∧ n = 0 ∧ nm ∈ R ∧ kids = []) ∨ ∃ d', d = d' + 1 ∧ 3 ≤ op ∧ op ≤ 6 ∧ n = 0 ∧ nm = ⟨#[]⟩ ∧ ∃ a b, kids = [a, b] ∧ geE vals R d' a ∧ geE vals R d' b := by
  cases d with
  | zero =>
    rw [geE] at h
    rcases h with h | h | h
    · exact .inl h
    · exact .inr (.inl h)
    · exact absurd h (by simp)
  | succ d =>
    rw [geE] at h
    rcases h with h | h | h
    · exact .inl h
    · exact .inr (.inl h)
    · exact .inr (.inr ⟨d, rfl, h⟩)
/-! ### expressions -/
theorem need0 (ok : Bool) (c : Int) (h : ok = true) : needE ok c 0 = 0 := by subst h; rfl
theorem dep_good (vals : Int) (R : List ByteArray) : ∀ (n d : Nat) (x : TExpr), geE vals R d x → depE n x ≤ (d : Int) + 1
  | 0, d, x, h => by rw [depE]; omega
  | n + 1, d, ⟨op, k, nm, kids⟩, h => by
    rw [depE]
    rcases geE_open h with ⟨_, _, _, _, hk⟩ | ⟨_, _, _, hk⟩ | ⟨d, rfl, _, _, _, _, a, b, hk, ha, hb⟩
    · subst hk; simp only [List.foldl_nil]; omega
    · subst hk; simp only [List.foldl_nil]; omega
    · subst hk
      have h1 := dep_good vals R n d a ha
      have h2 := dep_good vals R n d b hb
      simp only [List.foldl_cons, List.foldl_nil]
      omega
theorem head5 {b1 b2 b3 b4 b5 : Bool} {c1 c2 c3 c4 c5 : Int} (h1 : b1 = true) (h2 : b2 = true) (h3 : b3 = true) (h4 : b4 = true) (h5 : b5 = true) : needE b5 c5 (needE b4 c4 (needE b3 c3 (needE b2 c2 (needE b1 c1 0)))) = 0 := by
  rw [need0 _ _ h1, need0 _ _ h2, need0 _ _ h3, need0 _ _ h4, need0 _ _ h5]
theorem empty_nil : ((⟨#[]⟩ : ByteArray).toList == []) = true := by decide +kernel
theorem expr_good (vals : Int) (R known : List ByteArray) (hk : ∀ r ∈ R, hasB known r = true) : ∀ (d : Nat) (x : TExpr), geE vals R d x → exprF vals known 0 x = 0
  | d, ⟨op, n, nm, kids⟩, h => by
    rw [exprF, if_pos rfl]
    rcases geE_open h with ⟨h1, h2, h3, h4, h5⟩ | ⟨h1, h2, h3, h5⟩ | ⟨d, rfl, h1, h2, h3, h4, a, b, h5, ha, hb⟩
    · subst h1 h4 h5
      rw [exprFs]
      unfold exprHead
      exact head5 (by decide) (by decide) (by rw [empty_nil]; rfl) (by simp [valB, h2, h3]) rfl
    · subst h1 h2 h5
      rw [exprFs]
      unfold exprHead
      exact head5 (by decide) (by decide) rfl rfl (by simp [hk nm h3])
    · subst h3 h4 h5
      have hl : leafB op = false := by unfold leafB; rw [beq_eq_false_iff_ne.2 (by omega), beq_eq_false_iff_ne.2 (by omega)]; rfl
      have e1 : (op == 1) = false := beq_eq_false_iff_ne.2 (by omega)
      have e2 : (op == 2) = false := beq_eq_false_iff_ne.2 (by omega)
      have hh : exprHead vals known op 0 ⟨#[]⟩ [a, b].length 0 = 0 := by
        unfold exprHead
        exact head5 (by simp; omega) (by simp [hl]) (by rw [e1, e2, empty_nil]; rfl) (by rw [e1]; rfl) (by rw [e2]; rfl)
      rw [hh, exprFs, exprFs, exprFs, expr_good vals R known hk d a ha, expr_good vals R known hk d b hb]
theorem args_good (vals : Int) (R known : List ByteArray) (hk : ∀ r ∈ R, hasB known r = true) : ∀ (l : List TExpr), (∀ a ∈ l, ∃ d, d ≤ 2 ∧ geE vals R d a) → argsE vals known 0 l = 0
  | [], _ => by rw [argsE]
  | x :: xs, h => by
    obtain ⟨d, hd, hx⟩ := h x (by simp)
    have h1 := dep_good vals R 7 d x hx
    rw [argsE, need0 _ _ (by simp; omega), expr_good vals R known hk d x hx]
    exact args_good vals R known hk xs (fun a ha => h a (by simp [ha]))
theorem sme_good (vals : Int) (R : List ByteArray) (hR : ∀ r ∈ R, r ∈ nm4) : ∀ (d : Nat) (x : TExpr), geE vals R d x → smE x
  | d, ⟨op, n, nm, kids⟩, h => by
    rw [smE]
    rcases geE_open h with ⟨h1, h2, h3, h4, h5⟩ | ⟨h1, h2, h3, h5⟩ | ⟨d, rfl, h1, h2, h3, h4, a, b, h5, ha, hb⟩
    · subst h4 h5; exact ⟨by decide, by decide, by simp [smEs]⟩
    · subst h5
      have h6 := hR nm h3
      refine ⟨?_, by decide, by simp [smEs]⟩
      simp only [nm4, List.mem_cons, List.not_mem_nil, or_false] at h6
      rcases h6 with rfl | rfl | rfl | rfl <;> decide
    · subst h4 h5
      exact ⟨by decide, by simp, by simp only [smEs]; exact ⟨sme_good vals R hR d a ha, sme_good vals R hR d b hb, trivial⟩⟩
theorem smes_good (vals : Int) (R : List ByteArray) (hR : ∀ r ∈ R, r ∈ nm4) : ∀ (l : List TExpr), (∀ a ∈ l, ∃ d, d ≤ 2 ∧ geE vals R d a) → smEs l
  | [], _ => by simp [smEs]
  | x :: xs, h => by
    obtain ⟨d, hd, hx⟩ := h x (by simp)
    rw [smEs]
    exact ⟨sme_good vals R hR d x hx, smes_good vals R hR xs (fun a ha => h a (by simp [ha]))⟩
/-! ### names -/
/-- What the program names: its locations and values. -/
structure Gd (P : AP) (vals : Int) (nl : Nat) : Prop where
  vs : P.vals = vals
  lo : P.init.map (fun c => c.f0) = loc4.take nl
  n1 : 1 ≤ nl
  n4 : nl ≤ 4
theorem locB_eq (l : List TCell) (s : ByteArray) : locB l s = hasB (l.map (fun c => c.f0)) s := by unfold locB hasB; rw [List.any_map]; rfl
theorem nm_name (s : ByteArray) (h : s ∈ nm4) : nameB s = true := by
  simp only [nm4, List.mem_cons, List.not_mem_nil, or_false] at h
  rcases h with rfl | rfl | rfl | rfl <;> kernel_rfl
theorem nm_loc0 : ∀ s ∈ nm4, ∀ nl ∈ [0, 1, 2, 3, 4], hasB (loc4.take nl) s = false := by decide +kernel
theorem nm_loc (s : ByteArray) (h : s ∈ nm4) (nl : Nat) (hn : nl ≤ 4) : hasB (loc4.take nl) s = false := nm_loc0 s h nl (by
  have : nl = 0 ∨ nl = 1 ∨ nl = 2 ∨ nl = 3 ∨ nl = 4 := by omega
  simpa using this)
theorem nm_ne0 : ∀ s ∈ nm4, s.toList ≠ [] := by decide +kernel
theorem nm_ne (s : ByteArray) (h : s ∈ nm4) : s.toList ≠ [] := nm_ne0 s h
theorem nm_size (s : ByteArray) (h : s ∈ nm4) : s.size ≤ 1000 := by
  simp only [nm4, List.mem_cons, List.not_mem_nil, or_false] at h
  rcases h with rfl | rfl | rfl | rfl <;> decide
theorem loc_size (s : ByteArray) (nl : Nat) (h : s ∈ loc4.take nl) : s.size ≤ 1000 := by
  have h := List.mem_of_mem_take h
  simp only [loc4, List.mem_cons, List.not_mem_nil, or_false] at h
  rcases h with rfl | rfl | rfl | rfl <;> decide
/-! ### registers -/
/-- The names that check knows: those of the maker at least, four at most. -/
structure Kn (R regs : List ByteArray) : Prop where
  hk : ∀ r ∈ R, hasB regs r = true
  s4 : ∀ r ∈ regs, r ∈ nm4
  nd : regs.Nodup
  r4 : ∀ r ∈ R, r ∈ nm4
theorem Kn.len {R regs : List ByteArray} (h : Kn R regs) : regs.length ≤ 4 := nodup_len regs nm4 h.nd h.s4
theorem has_addR (regs : List ByteArray) (r s : ByteArray) (h : hasB regs s = true) : hasB (addR regs r) s = true := by
  unfold addR; split
  · exact h
  · rw [has_app, h]; rfl
theorem addR_has (regs : List ByteArray) (r : ByteArray) : hasB (addR regs r) r = true := by
  unfold addR; split
  · assumption
  · rw [has_app, has_of (show r ∈ [r] by simp)]; simp
theorem Kn.add {R regs : List ByteArray} (h : Kn R regs) (r : ByteArray) (hr : r ∈ nm4) : Kn R (addR regs r) :=
  ⟨fun s hs => has_addR regs r s (h.hk s hs), fun s hs => by
      unfold addR at hs; split at hs
      · exact h.s4 s hs
      · rcases List.mem_append.1 hs with q | q
        · exact h.s4 s q
        · rw [List.mem_singleton.1 q]; exact hr, by
      unfold addR; split
      · exact h.nd
      · have hn := not_has (Bool.eq_false_iff.2 (by assumption : ¬ hasB regs r = true))
        rw [List.nodup_append]
        exact ⟨h.nd, by simp, fun a ha b hb => by rw [List.mem_singleton.1 hb]; exact fun e => hn (e ▸ ha)⟩, h.r4⟩
theorem Kn.next {R regs : List ByteArray} (h : Kn R regs) (r : ByteArray) (hr : r ∈ nm4) : Kn (nextR R r) (addR regs r) := by
  have hne := nm_ne r hr
  have ha := h.add r hr
  have hm : ∀ s ∈ nextR R r, s ∈ R ∨ s = r := fun s hs => by
    unfold nextR withF at hs
    rw [if_neg hne] at hs
    split at hs
    · exact .inl hs
    · rcases List.mem_append.1 hs with q | q
      · exact .inl q
      · exact .inr (List.mem_singleton.1 q)
  exact ⟨fun s hs => (hm s hs).elim (ha.hk s) (fun e => by rw [e]; exact addR_has regs r), ha.s4, ha.nd, fun s hs => (hm s hs).elim (h.r4 s) (fun e => e ▸ hr)⟩
theorem Kn.nil : Kn [] [] := ⟨fun r h => by simp at h, fun r h => by simp at h, List.nodup_nil, fun r h => by simp at h⟩
/-- What the first known are, where the check's grow. -/
theorem Kn.up {R R' regs regs' : List ByteArray} (h : Kn R regs) (h' : Kn R' regs') (hm : ∀ s, hasB regs s = true → hasB regs' s = true) : Kn R regs' := ⟨fun r hr => hm r (h.hk r hr), h'.s4, h'.nd, h.r4⟩
theorem next_none (R : List ByteArray) (r : ByteArray) (h : r = ⟨#[]⟩) : nextR R r = R := by subst h; unfold nextR; rw [if_pos (by decide +kernel)]
end Go.Proofs.Ytlhbnbckanmaiaa.K
namespace Go.Proofs.Ytlhbnbckanmaiaa.K
open Go Go.RowKit Go.Proofs.YtlhbnbckanmaiaaW.PrintWords Go.Proofs.YtlhbnbckanmaiaaW.PrintLast Go.Proofs.YtlhbnbckanmaiaaW.PrintMore Go.Proofs.Ytlhbnbckanmaiaa.PC1
set_option linter.unusedVariables false
set_option linter.unusedSimpArgs false
theorem body_noreg {k : Int} (h : bodyF k = true) : regF k = false := by
  unfold bodyF at h; have := beq_iff_eq.1 h; subst this; decide
theorem emp_iff : (⟨#[]⟩ : ByteArray).toList.isEmpty = true := by decide +kernel
theorem hasI_of {l : List Int} {s : Int} (h : s ∈ l) : hasI l s = true := by
  unfold hasI; rw [List.any_eq_true]; exact ⟨s, h, beq_self_eq_true _⟩
theorem regs1_of (k : Int) (regs : List ByteArray) (r : ByteArray) : regs1 regs k r = regsOf k regs r := by
  unfold regs1 regsOf addR
  cases regF k <;> cases hasB regs r <;> simp
theorem has_regsOf (k : Int) (regs : List ByteArray) (r s : ByteArray) (h : hasB regs s = true) : hasB (regsOf k regs r) s = true := by
  unfold regsOf; split
  · exact has_addR _ _ _ h
  · exact h
mutual
theorem has_regsS : ∀ (regs : List ByteArray) (x : TStmt) (s : ByteArray), hasB regs s = true → hasB (regsS regs x) s = true
  | regs, ⟨k, _, r, _, _, t, e⟩, s, h => by
    rw [regsS, regs1_of]
    exact has_regsL _ e s (has_regsL _ t s (has_regsOf k regs r s h))
theorem has_regsL : ∀ (regs : List ByteArray) (l : List TStmt) (s : ByteArray), hasB regs s = true → hasB (regsL regs l) s = true
  | regs, [], s, h => by rw [regsL]; exact h
  | regs, x :: xs, s, h => by rw [regsL]; exact has_regsL _ xs s (has_regsS regs x s h)
end
/-- A statement that is made has nothing wrong itself. -/
theorem stmt_good {P : AP} {vals : Int} {nl : Nat} (hg : Gd P vals nl) {rec : List ByteArray → List TStmt → Prop} {R regs : List ByteArray} {x : TStmt} (hx : gdS vals nl rec R x) (hK : Kn R regs) {st deep : Int} (h1 : st ≤ 16) (h2 : deep ≤ 6) : stmtE P st deep regs x 0 = 0 ∧ Kn (nextR R x.f2) (regsOf x.f0 regs x.f2) := by
  obtain ⟨k0, k7, hm, ha, hargs, hr, hl, hb⟩ := hx
  have e1 : st1 st deep 0 = 0 := need0 _ _ (by simp [h1, h2])
  have e2 : st2 x.f0 x.f1 x.f4.length 0 = 0 := need0 _ _ (by
    rw [hasI_of hm, beq_iff_eq.2 ha]; unfold okF; simp [k0, k7])
  have e3 : st3 x.f0 x.f5.length x.f6.length 0 = 0 := need0 _ _ (by
    cases e : bodyF x.f0 with
    | true => rfl
    | false => rw [e, if_neg (by decide)] at hb; rw [hb.1, hb.2]; rfl)
  have e5 : st5 P x.f0 x.f3 0 = 0 := by
    unfold st5
    cases e : locF x.f0 with
    | true => rw [e, if_pos rfl] at hl; rw [if_pos rfl]; exact need0 _ _ (by rw [locB_eq, hg.lo]; exact has_of hl)
    | false => rw [e, if_neg (by decide)] at hl; rw [if_neg (by decide), hl]; exact need0 _ _ emp_iff
  have e6 : argsE P.vals regs 0 x.f4 = 0 := by rw [hg.vs]; exact args_good vals R regs hK.hk x.f4 hargs
  cases e : regF x.f0 with
  | true =>
    rw [e, if_pos rfl] at hr
    have e4 : st4 P x.f0 regs x.f2 0 = 0 := by
      unfold st4
      rw [e, if_pos rfl, need0 (nameB x.f2 && !(locB P.init x.f2)) 4 (by rw [nm_name _ hr, locB_eq, hg.lo, nm_loc _ hr nl hg.n4]; rfl)]
      exact need0 _ _ (by have := (hK.add x.f2 hr).len; simp; omega)
    refine ⟨by unfold stmtE; rw [e1, e2, e3, e4, e5, e6], ?_⟩
    unfold regsOf; rw [e, if_pos rfl]; exact hK.next x.f2 hr
  | false =>
    rw [e, if_neg (by decide)] at hr
    have e4 : st4 P x.f0 regs x.f2 0 = 0 := by unfold st4; rw [e, if_neg (by decide), hr]; exact need0 _ _ emp_iff
    refine ⟨by unfold stmtE; rw [e1, e2, e3, e4, e5, e6], ?_⟩
    unfold regsOf; rw [e, if_neg (by decide), next_none R x.f2 hr]; exact hK
/-- What a block of good statements leaves. -/
def BlockGood (P : AP) (deep : Int) (R : List ByteArray) (l : List TStmt) (R' : List ByteArray) : Prop :=
  ∀ s : BS, Kn R s.regs → s.e = 0 → s.st + cntL l ≤ 16 → blockL P deep s l = ⟨s.part + cntL l, 0, s.st + cntL l, regsL s.regs l⟩ ∧ Kn R' (regsL s.regs l)
theorem BlockGood.nil (P : AP) (deep : Int) (R : List ByteArray) : BlockGood P deep R [] R := fun s hK he _ => by
  rw [blockL, cntL, regsL]
  exact ⟨by cases s; simp at he; simp [he], hK⟩
theorem list_good {P : AP} {vals : Int} {nl : Nat} (hg : Gd P vals nl) {rec : List ByteArray → List TStmt → Prop} {deep : Int} (hd : deep ≤ 6) (hrec : ∀ R l, rec R l → ∃ R', BlockGood P (deep + 1) R l R') : ∀ (l : List TStmt) (R R' : List ByteArray), gdL (gdS vals nl rec) R l R' → BlockGood P deep R l R'
  | [], R, R', h => by obtain rfl : R' = R := h; exact BlockGood.nil P deep R'
  | x :: xs, R, R', h => by
    intro s hK he hst
    obtain ⟨hx, hxs⟩ := h
    rw [cntL] at hst
    have hcx := cntS_def x
    have hh := stmt_good hg hx hK (st := s.st + 1) (deep := deep) (by omega) hd
    have hS : (stmtS P deep s x) = ⟨s.part + 1, 0, s.st + 1, regsOf x.f0 s.regs x.f2⟩ := by
      unfold stmtS; rw [he, hh.1]
    have hB : blockS P deep s x = ⟨s.part + cntS x, 0, s.st + cntS x, regsS s.regs x⟩ ∧ Kn (nextR R x.f2) (regsS s.regs x) := by
      rw [blockS_def, if_neg (by simp [he]), hS, if_neg (by simp), regsS_def, regs1_of]
      obtain ⟨k0, k7, hm, ha, hargs, hr, hl, hb⟩ := hx
      cases e : bodyF x.f0 with
      | false =>
        rw [e, if_neg (by decide)] at hb
        rw [hb.1, hb.2] at hcx ⊢
        have hc1 : cntS x = 1 := by rw [hcx, cntL]
        simp only [blockL, regsL, hc1]
        exact ⟨rfl, hh.2⟩
      | true =>
        rw [e, if_pos rfl] at hb
        have hnr : x.f2 = ⟨#[]⟩ := by rw [body_noreg e, if_neg (by decide)] at hr; exact hr
        have hn : nextR R x.f2 = R := next_none R x.f2 hnr
        rw [hn] at hh ⊢
        obtain ⟨R1, g1⟩ := hrec R x.f5 hb.1
        obtain ⟨R2, g2⟩ := hrec R x.f6 hb.2
        have a1 := g1 ⟨s.part + 1, 0, s.st + 1, regsOf x.f0 s.regs x.f2⟩ hh.2 rfl (by simp only; omega)
        have K1 : Kn R (regsL (regsOf x.f0 s.regs x.f2) x.f5) := hh.2.up a1.2 (fun q hq => has_regsL _ x.f5 q hq)
        have a2 := g2 ⟨s.part + 1 + cntL x.f5, 0, s.st + 1 + cntL x.f5, regsL (regsOf x.f0 s.regs x.f2) x.f5⟩ K1 rfl (by simp only; omega)
        rw [a1.1]
        simp only
        rw [a2.1]
        refine ⟨?_, K1.up a2.2 (fun q hq => has_regsL _ x.f6 q hq)⟩
        have h1 : s.part + 1 + (cntL x.f5 : Int) + (cntL x.f6 : Int) = s.part + (cntS x : Int) := by omega
        have h2 : s.st + 1 + (cntL x.f5 : Int) + (cntL x.f6 : Int) = s.st + (cntS x : Int) := by omega
        simp only [h1, h2]
    have ih := list_good hg hd hrec xs _ R' hxs ⟨s.part + cntS x, 0, s.st + cntS x, regsS s.regs x⟩ hB.2 rfl (by simp only; omega)
    rw [blockL, hB.1, ih.1, cntL, regsL]
    refine ⟨?_, ih.2⟩
    have h1 : s.part + (cntS x : Int) + (cntL xs : Int) = s.part + ((cntS x + cntL xs : Nat) : Int) := by omega
    have h2 : s.st + (cntS x : Int) + (cntL xs : Int) = s.st + ((cntS x + cntL xs : Nat) : Int) := by omega
    simp only [h1, h2]
theorem block_good {P : AP} {vals : Int} {nl : Nat} (hg : Gd P vals nl) : ∀ (D : Nat) (deep : Int), deep + D ≤ 6 → ∀ (l : List TStmt) (R R' : List ByteArray), gdB vals nl D R l R' → BlockGood P deep R l R'
  | 0, deep, hd, l, R, R', h => list_good hg (by omega) (fun R l h => absurd h (by simp)) l R R' h
  | D + 1, deep, hd, l, R, R', h => list_good hg (by omega) (fun R l h => by obtain ⟨-, R', h⟩ := h; exact ⟨R', block_good hg D (deep + 1) (by omega) l R R' h⟩) l R R' h
/-! ### sizes -/
theorem cnt_list {vals : Int} {nl : Nat} {rec : List ByteArray → List TStmt → Prop} {n : Nat} (hrec : ∀ R l, rec R l → cntL l ≤ n) : ∀ (l : List TStmt) (R R' : List ByteArray), gdL (gdS vals nl rec) R l R' → cntL l ≤ (1 + n + n) * l.length
  | [], R, R', h => by rw [cntL]; omega
  | x :: xs, R, R', h => by
    have ih := cnt_list hrec xs _ R' h.2
    have hcx := cntS_def x
    have hx : cntS x ≤ 1 + n + n := by
      obtain ⟨k0, k7, hm, ha, hargs, hr, hl, hb⟩ := h.1
      cases e : bodyF x.f0 with
      | false => rw [e, if_neg (by decide)] at hb; rw [hb.1, hb.2, cntL] at hcx; omega
      | true => rw [e, if_pos rfl] at hb; have := hrec _ _ hb.1; have := hrec _ _ hb.2; omega
    rw [cntL, List.length_cons, Nat.mul_succ]; omega
theorem cnt_0 {vals : Int} {nl : Nat} (l : List TStmt) (R R' : List ByteArray) (h : gdB vals nl 0 R l R') : cntL l ≤ l.length := by
  have := cnt_list (n := 0) (fun R l h => absurd h (by simp)) l R R' h; omega
theorem cnt_1 {vals : Int} {nl : Nat} (l : List TStmt) (R R' : List ByteArray) (h : gdB vals nl 1 R l R') : cntL l ≤ 3 * l.length :=
  cnt_list (n := 1) (fun R l h => by obtain ⟨h1, R', h⟩ := h; have := cnt_0 l R R' h; omega) l R R' h
theorem mem_next {R : List ByteArray} {r : ByteArray} (hR : ∀ s ∈ R, s ∈ nm4) (hr : r ∈ nm4 ∨ r = ⟨#[]⟩) : ∀ s ∈ nextR R r, s ∈ nm4 := by
  intro s hs
  unfold nextR at hs
  split at hs
  · exact hR s hs
  · rename_i hne
    rcases hr with hr | hr
    · unfold withF at hs
      split at hs
      · exact hR s hs
      · rcases List.mem_append.1 hs with q | q
        · exact hR s q
        · rw [List.mem_singleton.1 q]; exact hr
    · rw [hr] at hne; exact absurd (by decide +kernel) hne
theorem sm_list {vals : Int} {nl : Nat} {rec : List ByteArray → List TStmt → Prop} (hrec : ∀ R l, (∀ s ∈ R, s ∈ nm4) → rec R l → smSs l ∧ l.length ≤ 1000) : ∀ (l : List TStmt) (R R' : List ByteArray), (∀ s ∈ R, s ∈ nm4) → gdL (gdS vals nl rec) R l R' → smSs l ∧ ∀ s ∈ R', s ∈ nm4
  | [], R, R', hR, h => by obtain rfl : R' = R := h; exact ⟨by rw [smSs]; trivial, hR⟩
  | x :: xs, R, R', hR, h => by
    obtain ⟨k0, k7, hm, ha, hargs, hr, hl, hb⟩ := h.1
    have hr' : x.f2 ∈ nm4 ∨ x.f2 = ⟨#[]⟩ := by split at hr; exact .inl hr; exact .inr hr
    have ih := sm_list hrec xs _ R' (mem_next hR hr') h.2
    refine ⟨?_, ih.2⟩
    rw [smSs]
    refine ⟨?_, ih.1⟩
    rw [smS_def]
    have ha2 : argsF x.f0 ≤ 2 := by unfold argsF; repeat' split
                                    all_goals omega
    have hb' : smSs x.f5 ∧ x.f5.length ≤ 1000 ∧ smSs x.f6 ∧ x.f6.length ≤ 1000 := by
      split at hb
      · have q1 := hrec R _ hR hb.1
        have q2 := hrec R _ hR hb.2
        exact ⟨q1.1, q1.2, q2.1, q2.2⟩
      · rw [hb.1, hb.2, smSs]; exact ⟨trivial, by simp, trivial, by simp⟩
    refine ⟨?_, ?_, by omega, smes_good vals R hR x.f4 hargs, hb'.2.1, hb'.1, hb'.2.2.2, hb'.2.2.1⟩
    · rcases hr' with q | q
      · exact nm_size _ q
      · rw [q]; decide
    · split at hl
      · exact loc_size _ nl hl
      · rw [hl]; decide
theorem sm_0 {vals : Int} {nl : Nat} (l : List TStmt) (R R' : List ByteArray) (hR : ∀ s ∈ R, s ∈ nm4) (h : gdB vals nl 0 R l R') : smSs l :=
  (sm_list (fun R l _ h => absurd h (by simp)) l R R' hR h).1
theorem sm_1 {vals : Int} {nl : Nat} (l : List TStmt) (R R' : List ByteArray) (hR : ∀ s ∈ R, s ∈ nm4) (h : gdB vals nl 1 R l R') : smSs l ∧ ∀ s ∈ R', s ∈ nm4 :=
  sm_list (fun R l hR h => by obtain ⟨h1, R', h⟩ := h; exact ⟨sm_0 l R R' hR h, by omega⟩) l R R' hR h
end Go.Proofs.Ytlhbnbckanmaiaa.K
namespace Go.Proofs.Ytlhbnbckanmaiaa.K
open Go Go.RowKit Go.Proofs.YtlhbnbckanmaiaaW.PrintWords Go.Proofs.YtlhbnbckanmaiaaW.PrintLast Go.Proofs.YtlhbnbckanmaiaaW.PrintMore Go.Proofs.Ytlhbnbckanmaiaa.PC1
set_option linter.unusedVariables false
set_option linter.unusedSimpArgs false
/-- A program that is made: all but its condition. -/
structure GdT (P : AP) (vals : Int) (nl nt : Nat) (RS : List (List ByteArray)) : Prop where
  gd : Gd P vals nl
  nm : P.nm = madeB
  v2 : 2 ≤ vals ∧ vals ≤ 4
  iv : ∀ y ∈ P.init, 0 ≤ y.f1 ∧ y.f1 < vals
  tl : P.threads.length = nt
  n1 : 1 ≤ nt ∧ nt ≤ 4
  rl : RS.length = nt
  th : ∀ (t : Nat) (l : List TStmt) (R : List ByteArray), P.threads[t]? = some l → RS[t]? = some R → gdB vals nl 1 [] l R ∧ l.length ≤ 4
  ask : P.ask = 1 ∨ P.ask = 2
  cd : gdC vals nl RS 2 ⟨P.op, P.th, P.cn, P.n, P.kids⟩
theorem loc_len (nl : Nat) (h : nl ≤ 4) : (loc4.take nl).length = nl := by rw [List.length_take]; show min nl 4 = nl; omega
theorem GdT.il {P : AP} {vals : Int} {nl nt : Nat} {RS : List (List ByteArray)} (h : GdT P vals nl nt RS) : P.init.length = nl := by
  have := congrArg List.length h.gd.lo
  rw [List.length_map, loc_len nl h.gd.n4] at this; exact this
theorem made_name : nameB madeB = true := by kernel_rfl
theorem head_good {P : AP} (h1 : nameB P.nm = true) (h2 : 2 ≤ P.vals ∧ P.vals ≤ 4) (h3 : P.init.length ≤ 4) (h4 : 1 ≤ P.threads.length) (h5 : P.threads.length ≤ 4) : runF P s0 .head = s0 := by
  unfold runF; rw [if_pos (show s0.e = 0 from rfl)]; unfold stepF
  have : headE P s0.e = 0 := by
    show headE P 0 = 0
    unfold headE
    exact head5 h1 (by simp [h2.1, h2.2]) (by simp; omega) (by simp; omega) (by simp; omega)
  rw [this]; rfl
/-! ### inits -/
theorem iniF_succ (P : AP) (n : Nat) (s : BS) : iniF P (n + 1) s = runF P (iniF P n s) (.init n 0) := by
  unfold iniF; rw [List.range_succ, List.foldl_append]; rfl
theorem thrF_succ (P : AP) (n : Nat) (s : BS) : thrF P (n + 1) s = runF P (thrF P n s) (.thr n 0) := by
  unfold thrF; rw [List.range_succ, List.foldl_append]; rfl
theorem thrF_zero (P : AP) (s : BS) : thrF P 0 s = s := rfl
theorem runF_err (P : AP) (s : BS) (x : Stp) (h : s.e ≠ 0) : runF P s x = s := by unfold runF; rw [if_neg h]
theorem inits_to (P : AP) : ∀ n : Nat, (∀ i < n, initE P i 0 = 0) → iniF P n s0 = ⟨n, 0, 0, []⟩
  | 0, _ => rfl
  | n + 1, h => by
    rw [iniF_succ, inits_to P n (fun i hi => h i (by omega))]
    unfold runF; rw [if_pos rfl]; unfold stepF
    simp only
    rw [h n (by omega)]; rfl
theorem inits_stop (P : AP) (n : Nat) (s : BS) (h : (iniF P n s).e ≠ 0) : ∀ d : Nat, iniF P (n + d) s = iniF P n s
  | 0 => rfl
  | d + 1 => by rw [← Nat.add_assoc, iniF_succ, inits_stop P n s h d, runF_err _ _ _ h]
theorem thrF_err (P : AP) (s : BS) (h : s.e ≠ 0) : ∀ n : Nat, thrF P n s = s
  | 0 => rfl
  | n + 1 => by rw [thrF_succ, thrF_err P s h n, runF_err _ _ _ h]
/-- An init is the first that is wrong. -/
theorem may_init (P : AP) (hh : runF P s0 .head = s0) (i : Nat) (hi : i < P.init.length) (hb : ∀ j < i, initE P j 0 = 0) (c : Int) (hc : c ≠ 0) (h : initE P i 0 = c) : mayE P = c ∧ mayN P = i + 1 := by
  have h1 : iniF P (i + 1) s0 = ⟨(i : Int) + 1, c, 0, []⟩ := by
    rw [iniF_succ, inits_to P i hb]
    unfold runF; rw [if_pos rfl]; unfold stepF
    simp only
    rw [h]
  have h2 : iniF P P.init.length s0 = ⟨(i : Int) + 1, c, 0, []⟩ := by
    obtain ⟨d, hd⟩ : ∃ d, P.init.length = (i + 1) + d := ⟨P.init.length - (i + 1), by omega⟩
    rw [hd, inits_stop P (i + 1) s0 (by rw [h1]; exact hc) d, h1]
  have h3 : mayS P = ⟨(i : Int) + 1, c, 0, []⟩ := by
    unfold mayS
    rw [hh, h2, thrF_err P ⟨(i : Int) + 1, c, 0, []⟩ hc, runF_err _ ⟨(i : Int) + 1, c, 0, []⟩ _ hc]
  unfold mayE mayN
  rw [h3]
  exact ⟨rfl, if_neg hc⟩
theorem locs_ok : ∀ i ∈ [0, 1, 2, 3], nameB (loc4.getD i ⟨#[]⟩) = true ∧ hasB (loc4.take i) (loc4.getD i ⟨#[]⟩) = false := by decide +kernel
theorem nat4 {i : Nat} (h : i < 4) : i ∈ [0, 1, 2, 3] := by
  have : i = 0 ∨ i = 1 ∨ i = 2 ∨ i = 3 := by omega
  simpa using this
theorem init_name {P : AP} {nl : Nat} (hl : P.init.map (fun c => c.f0) = loc4.take nl) (h4 : nl ≤ 4) (i : Nat) (hi : i < P.init.length) : (cellAt P i).f0 = loc4.getD i ⟨#[]⟩ ∧ i < 4 := by
  have hn : P.init.length = nl := by have := congrArg List.length hl; rw [List.length_map, loc_len nl h4] at this; exact this
  refine ⟨?_, by omega⟩
  rw [cellAt_eq P i hi]
  have h1 : (P.init.map (fun c => c.f0))[i]? = some P.init[i].f0 := by rw [List.getElem?_map, List.getElem?_eq_getElem hi]; rfl
  rw [hl, List.getElem?_take, if_pos (by omega)] at h1
  rw [List.getD_eq_getElem?_getD, h1]; rfl
/-- The names ahead of a place that was left as it was made. -/
theorem init_ahead {l : List TCell} {nl : Nat} (hl : l.map (fun c => c.f0) = loc4.take nl) (i : Nat) (hi : i ≤ nl) (s : ByteArray) : locB (l.take i) s = hasB (loc4.take i) s := by
  rw [locB_eq, List.map_take, hl, List.take_take, Nat.min_eq_left hi]
theorem init_good {P : AP} {vals : Int} {nl nt : Nat} {RS : List (List ByteArray)} (h : GdT P vals nl nt RS) (i : Nat) (hi : i < nl) : initE P i 0 = 0 := by
  have hi' : i < P.init.length := by rw [h.il]; exact hi
  obtain ⟨h1, h2⟩ := init_name h.gd.lo h.gd.n4 i hi'
  unfold initE
  obtain ⟨k1, k2⟩ := locs_ok i (nat4 h2)
  rw [h1, k1, init_ahead h.gd.lo i (by omega), k2, need0 _ _ (by rfl)]
  refine need0 _ _ ?_
  have := h.iv (cellAt P i) (by rw [cellAt_eq P i hi']; exact List.getElem_mem hi')
  unfold valB; rw [h.gd.vs]; simp [this.1, this.2]
/-! ### threads -/
def sumC : List (List TStmt) → Nat
  | [] => 0
  | l :: ls => cntL l + sumC ls
theorem sumC_snoc : ∀ (l : List (List TStmt)) (x : List TStmt), sumC (l ++ [x]) = sumC l + cntL x
  | [], x => by simp [sumC]
  | y :: ys, x => by simp only [List.cons_append, sumC, sumC_snoc ys x]; omega
theorem sumC_take (l : List (List TStmt)) (i : Nat) (hi : i < l.length) : sumC (l.take (i + 1)) = sumC (l.take i) + cntL l[i] := by
  rw [List.take_succ_eq_append_getElem hi, sumC_snoc]
theorem thr_good {P : AP} {vals : Int} {nl : Nat} (hg : Gd P vals nl) (l : List TStmt) (R : List ByteArray) (h : gdB vals nl 1 [] l R) (h4 : l.length ≤ 4) (p : Int) : blockL P 0 ⟨p, 0, 0, []⟩ l = ⟨p + cntL l, 0, 0 + cntL l, regsL [] l⟩ ∧ Kn R (regsL [] l) ∧ cntL l ≤ 12 := by
  have hc := cnt_1 l [] R h
  have := block_good hg 1 0 (by omega) l [] R h ⟨p, 0, 0, []⟩ Kn.nil rfl (by simp only; omega)
  exact ⟨this.1, this.2, by omega⟩
theorem thrs_to {P : AP} {vals : Int} {nl : Nat} (hg : Gd P vals nl) (s : BS) (he : s.e = 0) : ∀ n : Nat, n ≤ P.threads.length → (∀ (t : Nat) (l : List TStmt), t < n → P.threads[t]? = some l → ∃ R, gdB vals nl 1 [] l R ∧ l.length ≤ 4) → ∃ st regs, thrF P n s = ⟨s.part + sumC (P.threads.take n), 0, st, regs⟩
  | 0, _, _ => ⟨s.st, s.regs, by rw [thrF_zero, List.take_zero]; cases s; simp at he; simp [he, sumC]⟩
  | n + 1, hn, h => by
    obtain ⟨st, regs, ih⟩ := thrs_to hg s he n (by omega) (fun t l ht hl => h t l (by omega) hl)
    have hn' : n < P.threads.length := by omega
    obtain ⟨R, h1, h2⟩ := h n P.threads[n] (by omega) (List.getElem?_eq_getElem hn')
    have h3 := thr_good hg P.threads[n] R h1 h2 (s.part + sumC (P.threads.take n))
    rw [thrF_succ, ih]
    unfold runF; rw [if_pos rfl]; unfold stepF
    simp only
    rw [thrOf_eq P n hn', h3.1, sumC_take _ n hn']
    refine ⟨0 + (cntL P.threads[n] : Int), regsL [] P.threads[n], ?_⟩
    rw [show s.part + (sumC (P.threads.take n) : Int) + (cntL P.threads[n] : Int) = s.part + ((sumC (P.threads.take n) + cntL P.threads[n] : Nat) : Int) from by omega]
theorem GdT.any {P : AP} {vals : Int} {nl nt : Nat} {RS : List (List ByteArray)} (h : GdT P vals nl nt RS) (t : Nat) (l : List TStmt) (hl : P.threads[t]? = some l) : ∃ R, RS[t]? = some R ∧ gdB vals nl 1 [] l R ∧ l.length ≤ 4 := by
  have ht : t < P.threads.length := (List.getElem?_eq_some_iff.1 hl).1
  have htr : t < RS.length := by rw [h.rl]; have := h.tl; omega
  obtain ⟨h1, h2⟩ := h.th t l RS[t] hl (List.getElem?_eq_getElem htr)
  exact ⟨RS[t], List.getElem?_eq_getElem htr, h1, h2⟩
/-! ### the condition -/
theorem gdC_open {vals : Int} {nl : Nat} {RS : List (List ByteArray)} {d : Nat} {op th n : Int} {nm : ByteArray} {kids : List TCond} (h : gdC vals nl RS d ⟨op, th, nm, n, kids⟩) :
    (op = 1 ∧ th = 0 ∧ nm ∈ loc4.take nl ∧ 0 ≤ n ∧ n < vals ∧ kids = []) ∨ (op = 2 ∧ (∃ t : Nat, th = t ∧ ∃ R, RS[t]? = some R ∧ nm ∈ R) ∧ 0 ≤ n ∧ n < vals ∧ kids = []) ∨ ∃ d', d = d' + 1 ∧ th = 0 ∧ nm = ⟨#[]⟩ ∧ n = 0 ∧ ((op = 3 ∧ ∃ a, kids = [a] ∧ gdC vals nl RS d' a) ∨ ((op = 4 ∨ op = 5) ∧ ∃ a b, kids = [a, b] ∧ gdC vals nl RS d' a ∧ gdC vals nl RS d' b)) := by
  cases d with
  | zero =>
    rw [gdC] at h
    rcases h with h | h | h
    · exact .inl h
    · exact .inr (.inl h)
    · exact absurd h (by simp)
  | succ d =>
    rw [gdC] at h
    rcases h with h | h | h
    · exact .inl h
    · exact .inr (.inl h)
    · exact .inr (.inr ⟨d, rfl, h⟩)
theorem depC_good {vals : Int} {nl : Nat} {RS : List (List ByteArray)} : ∀ (n d : Nat) (x : TCond), gdC vals nl RS d x → depC n x ≤ (d : Int) + 1
  | 0, d, x, h => by rw [depC]; omega
  | n + 1, d, ⟨op, th, nm, k, kids⟩, h => by
    rw [depC]
    rcases gdC_open h with ⟨_, _, _, _, _, hk⟩ | ⟨_, _, _, _, hk⟩ | ⟨d, rfl, _, _, _, ⟨_, a, hk, ha⟩ | ⟨_, a, b, hk, ha, hb⟩⟩
    · subst hk; simp only [List.foldl_nil]; omega
    · subst hk; simp only [List.foldl_nil]; omega
    · subst hk
      have h1 := depC_good n d a ha
      simp only [List.foldl_cons, List.foldl_nil]; omega
    · subst hk
      have h1 := depC_good n d a ha
      have h2 := depC_good n d b hb
      simp only [List.foldl_cons, List.foldl_nil]; omega
theorem cond_good {P : AP} {vals : Int} {nl : Nat} (hg : Gd P vals nl) {RS : List (List ByteArray)} (hr : ∀ (t : Nat) (R : List ByteArray), RS[t]? = some R → ∃ l, P.threads[t]? = some l ∧ ∀ r ∈ R, hasB (regsL [] l) r = true) : ∀ (d : Nat) (x : TCond), gdC vals nl RS d x → condF P 0 x = 0
  | d, ⟨op, th, nm, n, kids⟩, h => by
    rw [condF, if_pos rfl]
    rcases gdC_open h with ⟨h1, h2, h3, h4, h5, h6⟩ | ⟨h1, ⟨t, h2, R, h3, h3'⟩, h4, h5, h6⟩ | ⟨d, rfl, h1, h2, h3, ⟨h4, a, h5, ha⟩ | ⟨h4, a, b, h5, ha, hb⟩⟩
    · subst h1 h2 h6
      rw [condFs]
      unfold condHead
      rw [need0 _ _ (by rfl)]
      unfold askF; rw [if_pos rfl]; unfold memE
      rw [need0 _ _ (by rfl), need0 _ _ (by rw [locB_eq, hg.lo]; exact has_of h3), need0 _ _ (by unfold valB; rw [hg.vs]; simp [h4, h5])]
    · subst h1 h2 h6
      rw [condFs]
      unfold condHead
      rw [need0 _ _ (by rfl)]
      unfold askF; rw [if_neg (by decide), if_pos rfl]; unfold regIsE
      obtain ⟨l, hl, hl'⟩ := hr t R h3
      have hlt := (List.getElem?_eq_some_iff.1 hl).1
      have ht : thereB P (t : Int) = true := by unfold thereB; simp; omega
      have h1 : P.th1 (t : Int) = l := by
        unfold AP.th1 rdOf; rw [Int.toNat_natCast, List.getD_eq_getElem?_getD, hl]; rfl
      rw [ht, h1, hl' nm h3', need0 _ _ (by rfl), need0 _ _ (by rfl), need0 _ _ (by unfold valB; rw [hg.vs]; simp [h4, h5])]
    · subst h1 h2 h3 h4 h5
      have hh : condHead P 3 0 ⟨#[]⟩ 0 [a].length 0 = 0 := by
        unfold condHead; rw [need0 _ _ (by rfl)]; unfold askF; rw [if_neg (by decide), if_neg (by decide)]; unfold noneE; exact need0 _ _ (by rw [empty_nil]; rfl)
      rw [hh, condFs, condFs, cond_good hg hr d a ha]
    · subst h1 h2 h3 h5
      have hh : condHead P op 0 ⟨#[]⟩ 0 [a, b].length 0 = 0 := by
        unfold condHead; rw [need0 _ _ (by rcases h4 with rfl | rfl <;> rfl)]; unfold askF; rw [if_neg (by omega), if_neg (by omega)]; unfold noneE; exact need0 _ _ (by rw [empty_nil]; rfl)
      rw [hh, condFs, condFs, condFs, cond_good hg hr d a ha, cond_good hg hr d b hb]
theorem smc_good {vals : Int} {nl : Nat} {RS : List (List ByteArray)} (hR : ∀ (t : Nat) (R : List ByteArray), RS[t]? = some R → ∀ s ∈ R, s ∈ nm4) : ∀ (d : Nat) (x : TCond), gdC vals nl RS d x → smC x
  | d, ⟨op, th, nm, n, kids⟩, h => by
    rw [smC]
    rcases gdC_open h with ⟨h1, h2, h3, h4, h5, h6⟩ | ⟨h1, ⟨t, h2, R, h3, h3'⟩, h4, h5, h6⟩ | ⟨d, rfl, h1, h2, h3, ⟨h4, a, h5, ha⟩ | ⟨h4, a, b, h5, ha, hb⟩⟩
    · subst h6; exact ⟨loc_size _ nl h3, by simp, by rw [smCs]; trivial⟩
    · subst h6; exact ⟨nm_size _ (hR t R h3 nm h3'), by simp, by rw [smCs]; trivial⟩
    · subst h2 h5; exact ⟨by decide, by simp, by rw [smCs, smCs]; exact ⟨smc_good hR d a ha, trivial⟩⟩
    · subst h2 h5; exact ⟨by decide, by simp, by rw [smCs, smCs, smCs]; exact ⟨smc_good hR d a ha, smc_good hR d b hb, trivial⟩⟩
/-- The names of the registers that the maker knows are names. -/
theorem GdT.names {P : AP} {vals : Int} {nl nt : Nat} {RS : List (List ByteArray)} (h : GdT P vals nl nt RS) (t : Nat) (R : List ByteArray) (ht : RS[t]? = some R) : ∃ l, P.threads[t]? = some l ∧ (∀ r ∈ R, hasB (regsL [] l) r = true) ∧ ∀ s ∈ R, s ∈ nm4 := by
  have h1 : t < P.threads.length := by have := (List.getElem?_eq_some_iff.1 ht).1; have := h.rl; have := h.tl; omega
  have h2 := List.getElem?_eq_getElem h1
  obtain ⟨h3, h4⟩ := h.th t _ R h2 ht
  have h5 := thr_good h.gd _ R h3 h4 0
  exact ⟨_, h2, h5.2.1.hk, h5.2.1.r4⟩
theorem GdT.sm {P : AP} {vals : Int} {nl nt : Nat} {RS : List (List ByteArray)} (h : GdT P vals nl nt RS) : P.sm := by
  refine ⟨fun l hl => ?_, ?_⟩
  · obtain ⟨t, ht, e⟩ := List.getElem_of_mem hl
    obtain ⟨R, h1, h2, h3⟩ := h.any t l (by rw [List.getElem?_eq_getElem ht, e])
    exact ⟨(sm_1 l [] R (by simp) h2).1, by omega, by have := cnt_1 l [] R h2; omega⟩
  · have := smc_good (fun t R ht => (h.names t R ht).choose_spec.2.2) 2 _ h.cd
    rw [smC] at this
    exact ⟨this.2.2, this.2.1⟩
theorem GdT.cn {P : AP} {vals : Int} {nl nt : Nat} {RS : List (List ByteArray)} (h : GdT P vals nl nt RS) : P.cn.size ≤ 1000 := by
  have := smc_good (fun t R ht => (h.names t R ht).choose_spec.2.2) 2 _ h.cd
  rw [smC] at this
  exact this.1
theorem GdT.head {P : AP} {vals : Int} {nl nt : Nat} {RS : List (List ByteArray)} (h : GdT P vals nl nt RS) : runF P s0 .head = s0 :=
  head_good (by rw [h.nm]; exact made_name) (by rw [h.gd.vs]; exact h.v2) (by rw [h.il]; exact h.gd.n4) (by rw [h.tl]; exact h.n1.1) (by rw [h.tl]; exact h.n1.2)
/-- A program that is made may be. -/
theorem GdT.may {P : AP} {vals : Int} {nl nt : Nat} {RS : List (List ByteArray)} (h : GdT P vals nl nt RS) : mayE P = 0 ∧ mayN P = 0 := by
  have h2 : iniF P P.init.length s0 = ⟨P.init.length, 0, 0, []⟩ := inits_to P _ (fun i hi => init_good h i (by rw [h.il] at hi; exact hi))
  obtain ⟨st, regs, h3⟩ := thrs_to h.gd ⟨P.init.length, 0, 0, []⟩ rfl P.threads.length (Nat.le_refl _) (fun t l _ hl => by obtain ⟨R, _, h1, h2⟩ := h.any t l hl; exact ⟨R, h1, h2⟩)
  have hq : questE P 0 = 0 := by
    unfold questE
    have := depC_good 7 2 _ h.cd
    rw [need0 _ 1 (by rcases h.ask with e | e <;> rw [e] <;> rfl), need0 _ 3 (by simp; omega)]
    exact cond_good h.gd (fun t R ht => by obtain ⟨l, h1, h2, _⟩ := h.names t R ht; exact ⟨l, h1, h2⟩) 2 _ h.cd
  have h5 : (mayS P).e = 0 := by
    unfold mayS
    rw [h.head, h2, h3]
    unfold runF; rw [if_pos rfl]; unfold stepF
    exact hq
  unfold mayE mayN
  exact ⟨h5, if_pos h5⟩
end Go.Proofs.Ytlhbnbckanmaiaa.K
namespace Go.Proofs.Ytlhbnbckanmaiaa.K
open Go Go.RowKit Go.Proofs.YtlhbnbckanmaiaaW.PrintWords Go.Proofs.YtlhbnbckanmaiaaW.PrintLast Go.Proofs.YtlhbnbckanmaiaaW.PrintMore Go.Proofs.Ytlhbnbckanmaiaa.PC1
set_option linter.unusedVariables false
set_option linter.unusedSimpArgs false
def AP.withI (P : AP) (l : List TCell) : AP := { P with init := l }
theorem need_err (ok : Bool) (c e : Int) (h : e ≠ 0) : needE ok c e = e := by
  unfold needE; rw [beq_eq_false_iff_ne.2 h, Bool.and_false]; rfl
theorem need_bad (ok : Bool) (c : Int) (h : ok = false) : needE ok c 0 = c := by subst h; rfl
theorem take_set {α : Type} (l : List α) (i j : Nat) (y : α) (h : j ≤ i) : (l.set i y).take j = l.take j := by
  apply List.ext_getElem?
  intro n
  rw [List.getElem?_take, List.getElem?_take]
  split
  · rw [List.getElem?_set_ne (by omega)]
  · rfl
theorem cell_set (P : AP) (i j : Nat) (y : TCell) (hi : i < P.init.length) (hj : j < P.init.length) : cellAt (P.withI (P.init.set i y)) j = if i = j then y else cellAt P j := by
  rw [cellAt_eq P j hj, cellAt_eq _ j (by show j < (P.init.set i y).length; rw [List.length_set]; exact hj)]
  show (P.init.set i y)[j]'_ = _
  rw [List.getElem_set]
theorem init_bad {P : AP} {vals : Int} {nl nt : Nat} {RS : List (List ByteArray)} (h : GdT P vals nl nt RS) (i : Nat) (hi : i < nl) (y : TCell) (c : Int) (hc : c ≠ 0) (hE : needE (valB vals y.f1) 1 (needE (nameB y.f0 && !(locB (P.init.take i) y.f0)) 4 0) = c) : mayE (P.withI (P.init.set i y)) = c ∧ mayN (P.withI (P.init.set i y)) = i + 1 := by
  have hl := h.il
  have hl' : (P.withI (P.init.set i y)).init.length = nl := by show (P.init.set i y).length = nl; rw [List.length_set]; exact hl
  refine may_init _ (head_good (by show nameB P.nm = true; rw [h.nm]; exact made_name) (by show 2 ≤ P.vals ∧ P.vals ≤ 4; rw [h.gd.vs]; exact h.v2) (by rw [hl']; exact h.gd.n4) (by show 1 ≤ P.threads.length; rw [h.tl]; exact h.n1.1) (by show P.threads.length ≤ 4; rw [h.tl]; exact h.n1.2)) i (by rw [hl']; exact hi) (fun j hj => ?_) c hc ?_
  · have hg := init_good h j (by omega)
    unfold initE at hg ⊢
    rw [cell_set P i j y (by omega) (by omega), if_neg (by omega)]
    show needE (valB P.vals (cellAt P j).f1) 1 (needE (nameB (cellAt P j).f0 && !(locB ((P.init.set i y).take j) (cellAt P j).f0)) 4 0) = 0
    rw [take_set _ _ _ _ (by omega)]; exact hg
  · unfold initE
    rw [cell_set P i i y (by omega) (by omega), if_pos rfl]
    show needE (valB P.vals y.f1) 1 (needE (nameB y.f0 && !(locB ((P.init.set i y).take i) y.f0)) 4 0) = c
    rw [take_set _ _ _ _ (Nat.le_refl _), h.gd.vs]; exact hE
/-- A name that is none. -/
theorem init_odd {P : AP} {vals : Int} {nl nt : Nat} {RS : List (List ByteArray)} (h : GdT P vals nl nt RS) (i : Nat) (hi : i < nl) (s : ByteArray) (n : Int) (hs : nameB s = false) : mayE (P.withI (P.init.set i ⟨s, n⟩)) = 4 ∧ mayN (P.withI (P.init.set i ⟨s, n⟩)) = i + 1 :=
  init_bad h i hi _ 4 (by decide) (by
    simp only
    rw [need_bad (nameB s && _) 4 (by rw [hs, Bool.false_and]), need_err _ _ _ (by decide)])
/-- A name that is there already. -/
theorem init_twice {P : AP} {vals : Int} {nl nt : Nat} {RS : List (List ByteArray)} (h : GdT P vals nl nt RS) (i : Nat) (hi : i < nl) (h0 : 0 < i) (n : Int) : mayE (P.withI (P.init.set i ⟨(cellAt P 0).f0, n⟩)) = 4 ∧ mayN (P.withI (P.init.set i ⟨(cellAt P 0).f0, n⟩)) = i + 1 :=
  init_bad h i hi _ 4 (by decide) (by
    have hl := h.il
    have : locB (P.init.take i) (cellAt P 0).f0 = true := by
      rw [cellAt_eq P 0 (by omega), locB_eq]
      refine has_of ?_
      rw [List.mem_map]
      exact ⟨P.init[0], List.mem_take_iff_getElem.2 ⟨0, by omega, rfl⟩, rfl⟩
    simp only
    rw [this, need_bad (nameB _ && _) 4 (by simp), need_err _ _ _ (by decide)])
/-- A value that is none. -/
theorem init_val {P : AP} {vals : Int} {nl nt : Nat} {RS : List (List ByteArray)} (h : GdT P vals nl nt RS) (i : Nat) (hi : i < nl) : mayE (P.withI (P.init.set i ⟨(cellAt P i).f0, P.vals⟩)) = 1 ∧ mayN (P.withI (P.init.set i ⟨(cellAt P i).f0, P.vals⟩)) = i + 1 :=
  init_bad h i hi _ 1 (by decide) (by
    have hg := init_good h i hi
    unfold initE at hg
    have h1 : needE (nameB (cellAt P i).f0 && !(locB (P.init.take i) (cellAt P i).f0)) 4 0 = 0 := by
      cases e : (nameB (cellAt P i).f0 && !(locB (P.init.take i) (cellAt P i).f0)) with
      | true => rfl
      | false => rw [e, need_bad _ 4 rfl, need_err _ _ _ (by decide)] at hg; exact absurd hg (by decide)
    simp only
    rw [h1]
    exact need_bad _ _ (by unfold valB; rw [h.gd.vs]; simp))
theorem odd1 : nameB ⟨#[57, 120]⟩ = false := by kernel_rfl
theorem odd2 : nameB ⟨#[118, 97, 108, 117, 101, 115]⟩ = false := by kernel_rfl
theorem odd3 : nameB ⟨#[116, 111, 111, 108, 111, 110, 103, 110, 97, 109, 101]⟩ = false := by kernel_rfl
theorem withI_sm {P : AP} (h : P.sm) (l : List TCell) : (P.withI l).sm := ⟨h.st, h.kd⟩
/-! ### a statement that is wrong, behind all that are right -/
/-! ### the statements that are wrong -/
abbrev bzero : ByteArray := ⟨#[]⟩
end Go.Proofs.Ytlhbnbckanmaiaa.K
namespace Go.Proofs.Ytlhbnbckanmaiaa.K
open Go Go.RowKit Go.Proofs.YtlhbnbckanmaiaaW.PrintWords Go.Proofs.YtlhbnbckanmaiaaW.PrintLast Go.Proofs.YtlhbnbckanmaiaaW.PrintMore Go.Proofs.Ytlhbnbckanmaiaa.PC1
set_option linter.unusedVariables false
set_option linter.unusedSimpArgs false
/-- What a made program is, as check.May reads it. -/
theorem made_dat {w w' : World} {vals : Int} {nl nt : Nat} {e : Ending} (h : ProgPost1 w vals nl nt e w') (hv : 2 ≤ vals ∧ vals ≤ 4) (hn : 1 ≤ nl ∧ nl ≤ 4) (ht : 1 ≤ nt ∧ nt ≤ 4) :
    ∃ (P : AP) (RS : List (List ByteArray)), e = .returned (.agg #[.string P.nm, .int .i64 P.vals, .slice P.AI P.init.length P.cI, .slice P.AT P.threads.length P.cT, .int .i64 P.ask, .int .i64 P.op, .int .i64 P.th, .string P.cn, .int .i64 P.n, .slice P.AK P.kids.length P.cK]) ∧ P.dat w' ∧ GdT P vals nl nt RS := by
  obtain ⟨vI, vT, inits, ths, RS, ask, x, A, c, he, hRI, hNT, hl, hF, ha, hnm, hy, h1, h2, h3, h4⟩ := h
  obtain ⟨AI, cI, hvI, hcI, hC⟩ := Kd.R_reads hRI
  obtain ⟨AT, cT, rfl⟩ := Kd.N_slice hNT
  subst hvI
  have hg : GdT ⟨madeB, vals, AI, cI, inits, AT, cT, ths, ask, x.f0, x.f1, x.f2, x.f3, A, c, x.f4⟩ vals nl nt RS := ⟨⟨rfl, hnm, hn.1, hn.2⟩, rfl, hv, hy, h1, ht, h2, h3, ha, by cases x; exact h4⟩
  refine ⟨_, RS, he, ⟨hC, hcI, Kd.F_now (Kd.N_F hNT), (Kd.N_reads' hNT).2.1, Kd.F_now hF, hl, ?_, ?_, by show madeB.size ≤ 1000; decide, ?_⟩, hg⟩
  · have := hg.il; show inits.length ≤ 1000; simp only at this; omega
  · show ths.length ≤ 1000; omega
  · intro y hy'
    have h5 : y.f0 ∈ loc4.take nl := by rw [← hnm]; exact List.mem_map_of_mem hy'
    exact loc_size _ nl h5
theorem AP.dat.up {P : AP} {w w' : World} (h : P.dat w) (hb : Below w.heap.size w w') : P.dat w' :=
  ⟨Kd.C_below h.ci hb, h.li, Kd.C_below h.ct hb, h.lt, Kd.C_below h.ck hb, h.lk, h.ni, h.nt, h.nm, h.na⟩
set_option maxHeartbeats 8000000 in
set_option maxRecDepth 100000 in
theorem cmade_any (W : World) (A : Option Addr) (c : Nat) (l : List Int) (hr : Kd.C (Kd.int .u8) W A l.length l) (hc : l.length ≤ c) (hu : ∀ x ∈ l, 0 ≤ x ∧ x < 256) : Calls Try.prog 5 #[.slice A l.length c] W fun e W' => e = .returned (.bool true) ∧ Below W.heap.size W W' := by
  have HA := Aside0.mk (And.intro hr (And.intro hc hu))
  clear hr hc hu
  go_enter Try.func5, Try.ntmps5
  go_wp2_with fail
  refine (begun_any W).mono ?_
  rintro e w1 ⟨rfl, hb1⟩
  have HB1 := Aside0.mk hb1
  clear hb1
  by_cases h80 : (l.length : Int) > 80
  · have e1 : decide ((80 : Int) < (l.length : Int)) = true := decide_eq_true h80
    clear h80
    go_wp2
    go_ret
    exact ⟨rfl, HB1.out⟩
  · have e1 : decide ((80 : Int) < (l.length : Int)) = false := decide_eq_false h80
    have HL := Aside0.mk (show l.length ≤ 80 by omega)
    clear h80
    go_wp2_with fail
    refine (withemade_Made.calls A c l l 0 W w1 HB1.out HA.out.1 HA.out.2.1 rfl).mono ?_
    rintro e w2 ⟨g, rfl, hI, hb2, -, -⟩
    have HM := Aside0.mk (show MS W w2 g from ⟨hb2, l, 0, hI, by omega, by omega, by have := HL.out; omega, HA.out.2.2⟩)
    clear hI hb2 e1
    go_wp2_with fail
    refine (mprog_any W w2 g HM.out).mono ?_
    rintro e w3 ⟨wd, vals, nl, nt, hv2, hv4, hn1, hn4, ht1, ht4, hsz, hm3, hP, hc3⟩
    obtain ⟨P, RS, rfl, hd, hg⟩ := made_dat hP ⟨hv2, hv4⟩ ⟨hn1, hn4⟩ ⟨ht1, ht4⟩
    have HP := Aside0.mk (And.intro hd (And.intro hg hm3.1))
    clear hP hm3 hc3 hd hg hsz hv2 hv4 hn1 hn4 ht1 ht4
    go_wp2_with fail
    have hb4 := below_al (Below.refl w3.heap.size w3) (.cells #[.string P.nm, .int .i64 P.vals, .slice P.AI P.init.length P.cI, .slice P.AT P.threads.length P.cT, .int .i64 P.ask, .int .i64 P.op, .int .i64 P.th, .string P.cn, .int .i64 P.n, .slice P.AK P.kids.length P.cK] 28 (0, 0))
    refine (may_any _ P (HP.out.1.up hb4) HP.out.2.1.sm HP.out.2.1.cn).mono ?_
    rintro e w5 ⟨rfl, hb5⟩
    rw [HP.out.2.1.may.1, HP.out.2.1.may.2]
    have HB5 := Aside0.mk (below_step HP.out.2.2 (below_step hb4 hb5))
    clear hb4 hb5
    go_wp2
    go_ret
    exact ⟨rfl, HB5.out⟩
end Go.Proofs.Ytlhbnbckanmaiaa.K
namespace Go.Proofs.Ytlhbnbckanmaiaa.K
open Go Go.RowKit Go.Proofs.YtlhbnbckanmaiaaW.PrintWords Go.Proofs.YtlhbnbckanmaiaaW.PrintLast Go.Proofs.YtlhbnbckanmaiaaW.PrintMore Go.Proofs.Ytlhbnbckanmaiaa.PC1
set_option linter.unusedVariables false
set_option linter.unusedSimpArgs false
/-- Where the world stands behind Made(l).Prog() and what it is stored in: pb the program's block, g the inits'. -/
structure MW (W w : World) (pb g cI : Nat) (AT : Option Addr) (cT : Nat) (AK : Option Addr) (cK : Nat) (base : Nat) (vals : Int) (nl nt : Nat) (inits : List TCell) (ths : List (List TStmt)) (RS : List (List ByteArray)) (ask : Int) (x : TCond) : Prop where
  bel : Below W.heap.size W w
  wb : W.heap.size ≤ base
  hpb : base ≤ pb
  pbk : w.heap[pb]? = some (pBlk madeB vals (.slice (some ⟨g, 0, none⟩) inits.length cI) (.slice AT ths.length cT) ask x.f0 x.f1 x.f2 x.f3 (.slice AK x.f4.length cK))
  rI : Kd.R kCell 51 w base (fun k => base ≤ k) (.slice (some ⟨g, 0, none⟩) inits.length cI) inits
  nT : Kd.N kThr0 35 w base (fun k => base ≤ k ∧ k ≠ pb ∧ k ≠ g) (.slice AT ths.length cT) ths
  fK : Kd.F kCond w (fun k => base ≤ k ∧ k ≠ pb ∧ k ≠ g ∧ some k ≠ (Value.slice AT ths.length cT).ownBlock) AK x.f4.length x.f4
  lk : x.f4.length ≤ cK
theorem MW.mk' {W w1 w : World} {vals : Int} {nl nt : Nat} {cs : Value} (hW : Below W.heap.size W w1) (hwd : W.heap.size ≤ w.heap.size) (h : ProgPost1 w vals nl nt (.returned cs) w1) (hv : 2 ≤ vals ∧ vals ≤ 4) (hn : 1 ≤ nl ∧ nl ≤ 4) (ht : 1 ≤ nt ∧ nt ≤ 4) :
    ∃ (g cI : Nat) (AT : Option Addr) (cT : Nat) (AK : Option Addr) (cK : Nat) (inits : List TCell) (ths : List (List TStmt)) (RS : List (List ByteArray)) (ask : Int) (x : TCond), cs = .agg #[.string madeB, .int .i64 vals, .slice (some ⟨g, 0, none⟩) inits.length cI, .slice AT ths.length cT, .int .i64 ask, .int .i64 x.f0, .int .i64 x.f1, .string x.f2, .int .i64 x.f3, .slice AK x.f4.length cK] ∧
      MW W (w1.alloc (pBlk madeB vals (.slice (some ⟨g, 0, none⟩) inits.length cI) (.slice AT ths.length cT) ask x.f0 x.f1 x.f2 x.f3 (.slice AK x.f4.length cK))) w1.heap.size g cI AT cT AK cK w.heap.size vals nl nt inits ths RS ask x ∧
      ∀ AI cI' , GdT ⟨madeB, vals, AI, cI', inits, AT, cT, ths, ask, x.f0, x.f1, x.f2, x.f3, AK, cK, x.f4⟩ vals nl nt RS := by
  obtain ⟨vI, vT, inits, ths, RS, ask, x, A, c, he, hRI, hNT, hl, hF, ha, hnm, hy, h1, h2, h3, h4⟩ := h
  have hg : ∀ AI cI' AT cT, GdT ⟨madeB, vals, AI, cI', inits, AT, cT, ths, ask, x.f0, x.f1, x.f2, x.f3, A, c, x.f4⟩ vals nl nt RS := fun _ _ _ _ => ⟨⟨rfl, hnm, hn.1, hn.2⟩, rfl, hv, hy, h1, ht, h2, h3, ha, by cases x; exact h4⟩
  have hil : inits.length = nl := (hg none 0 none 0).il
  obtain ⟨AT, cT, rfl⟩ := Kd.N_slice hNT
  obtain ⟨g, cI, rfl, hgb, hgl, cells, hcl⟩ := Kd.R_form hRI (by omega)
  injection he with he
  have hb := below_al (Below.refl w1.heap.size w1) (pBlk madeB vals (.slice (some ⟨g, 0, none⟩) inits.length cI) (.slice AT ths.length cT) ask x.f0 x.f1 x.f2 x.f3 (.slice A x.f4.length c))
  have hne : ∀ k, some k ≠ (Value.slice (some ⟨g, 0, none⟩) inits.length cI).ownBlock → k ≠ g := fun k h e => h (by rw [e]; rfl)
  refine ⟨g, cI, AT, cT, A, c, inits, ths, RS, ask, x, he, ⟨below_step hW hb, hwd, by omega, blk_new _ _, Kd.R_below hRI hb, ?_, ?_, hl⟩, fun AI cI' => hg AI cI' AT cT⟩
  · exact Kd.N_below (Kd.N_mono (Kd.N_bound hNT) (fun k hk => ⟨hk.1.1, by have := hk.2; omega, hne k hk.1.2⟩)) hb
  · exact Kd.F_below (Kd.F_mono (Kd.F_bound hF) (fun k hk => ⟨hk.1.1, by have := hk.2; omega, hne k hk.1.2.1, hk.1.2.2⟩)) hb
/-- What check.May answers of the program as it lies. -/
theorem MW.ask {W w : World} {pb g cI : Nat} {AT : Option Addr} {cT : Nat} {AK : Option Addr} {cK : Nat} {base : Nat} {vals : Int} {nl nt : Nat} {inits : List TCell} {ths : List (List TStmt)} {RS : List (List ByteArray)} {ask : Int} {x : TCond} (h : MW W w pb g cI AT cT AK cK base vals nl nt inits ths RS ask x)
    (hl : inits.length ≤ 1000) (ht : ths.length ≤ 1000) (hn : ∀ y ∈ inits, y.f0.size ≤ 1000) (hs : (⟨madeB, vals, some ⟨g, 0, none⟩, cI, inits, AT, cT, ths, ask, x.f0, x.f1, x.f2, x.f3, AK, cK, x.f4⟩ : AP).sm) (hcn : x.f2.size ≤ 1000) :
    Calls Try.prog 11 #[.agg #[.string madeB, .int .i64 vals, .slice (some ⟨g, 0, none⟩) inits.length cI, .slice AT ths.length cT, .int .i64 ask, .int .i64 x.f0, .int .i64 x.f1, .string x.f2, .int .i64 x.f3, .slice AK x.f4.length cK]] w
      fun r w' => r = .returned (.tuple #[.int .i64 (mayE ⟨madeB, vals, some ⟨g, 0, none⟩, cI, inits, AT, cT, ths, ask, x.f0, x.f1, x.f2, x.f3, AK, cK, x.f4⟩), .int .i64 (mayN ⟨madeB, vals, some ⟨g, 0, none⟩, cI, inits, AT, cT, ths, ask, x.f0, x.f1, x.f2, x.f3, AK, cK, x.f4⟩)]) ∧ Below W.heap.size W w' := by
  obtain ⟨hn1, hc1, hC⟩ := Kd.R_reads' h.rI
  refine (may_any w ⟨madeB, vals, some ⟨g, 0, none⟩, cI, inits, AT, cT, ths, ask, x.f0, x.f1, x.f2, x.f3, AK, cK, x.f4⟩ ⟨hC, hc1, Kd.F_now (Kd.N_F h.nT), (Kd.N_reads' h.nT).2.1, Kd.F_now h.fK, h.lk, hl, ht, by show madeB.size ≤ 1000; decide, hn⟩ hs hcn).mono ?_
  rintro r w' ⟨rfl, hb⟩
  exact ⟨rfl, below_step h.bel hb⟩
/-- An init turns. -/
theorem MW.turn {W w w' : World} {pb g cI : Nat} {AT : Option Addr} {cT : Nat} {AK : Option Addr} {cK : Nat} {base : Nat} {vals : Int} {nl nt : Nat} {inits inits' : List TCell} {ths : List (List TStmt)} {RS : List (List ByteArray)} {ask : Int} {x : TCond} (h : MW W w pb g cI AT cT AK cK base vals nl nt inits ths RS ask x)
    (hg : w.grownBy w' (some g)) (hl : inits'.length = inits.length) (hb : Below base w w') (hr : Kd.R kCell 51 w' base (fun k => base ≤ k) (.slice (some ⟨g, 0, none⟩) inits.length cI) inits') : MW W w' pb g cI AT cT AK cK base vals nl nt inits' ths RS ask x := by
  have hne : ¬ some pb = some g := by
    obtain ⟨cells, hc⟩ := Kd.R_typed h.rI g (by rfl)
    intro e
    injection e with e
    subst e
    rw [h.pbk] at hc
    injection hc with q1
    injection q1 with _ q2
    exact absurd q2 (by decide)
  have hc : Chg (fun k => some k = some g) w w' := Chg.grown (F := fun k => some k = some g) hg (fun k hk => hk.symm)
  have hw : Below W.heap.size w w' := ⟨hb.os, hb.tape, hb.output, hb.size, fun k hk => hb.block k (by have := h.wb; omega)⟩
  exact ⟨h.bel.trans hw, h.wb, h.hpb, by rw [hl]; exact hc.heap h.pbk hne, by rw [hl]; exact hr, Kd.N_step h.nT (fun k hk hlt => hg.block k hlt (fun e => by injection e with e; exact hk.2.2 e)), Kd.F_step h.fK (fun k hk hlt => hg.block k hlt (fun e => by injection e with e; exact hk.2.2.1 e)), h.lk⟩
theorem MW.step {W w w' : World} {pb g cI : Nat} {AT : Option Addr} {cT : Nat} {AK : Option Addr} {cK : Nat} {base : Nat} {vals : Int} {nl nt : Nat} {inits : List TCell} {ths : List (List TStmt)} {RS : List (List ByteArray)} {ask : Int} {x : TCond} (h : MW W w pb g cI AT cT AK cK base vals nl nt inits ths RS ask x) (hb : Below w.heap.size w w') : MW W w' pb g cI AT cT AK cK base vals nl nt inits ths RS ask x :=
  ⟨below_step h.bel hb, h.wb, h.hpb, blk_below h.pbk hb, Kd.R_below h.rI hb, Kd.N_below h.nT hb, Kd.F_below h.fK hb, h.lk⟩
/-- One cell of an init turns. -/
theorem MW.put {W w : World} {pb g cI : Nat} {AT : Option Addr} {cT : Nat} {AK : Option Addr} {cK : Nat} {base : Nat} {vals : Int} {nl nt : Nat} {inits : List TCell} {ths : List (List TStmt)} {RS : List (List ByteArray)} {ask : Int} {x : TCond} (h : MW W w pb g cI AT cT AK cK base vals nl nt inits ths RS ask x)
    (i : Nat) (hi : i < inits.length) (j : Nat) (hj : j < 2) (v : Value) (hv : v.cells.toList = [v]) (y : TCell) (hy : ([.string (inits.getD i ⟨bzero, 0⟩).f0, .int .i64 (inits.getD i ⟨bzero, 0⟩).f1] : List Value).take j ++ [v] ++ ([.string (inits.getD i ⟨bzero, 0⟩).f0, .int .i64 (inits.getD i ⟨bzero, 0⟩).f1] : List Value).drop (j + 1) = [.string y.f0, .int .i64 y.f1]) : MW W (w.setCell ⟨g, i * 2 + j, none⟩ v) pb g cI AT cT AK cK base vals nl nt (inits.set i y) ths RS ask x := by
  have i0 : (0 : Int) ≤ (i : Int) := by omega
  have i1 : (i : Int) < (inits.length : Int) := by omega
  obtain ⟨cs, hcl, hM, hcc, hfr⟩ := Kd.R_elem h.rI ⟨bzero, 0⟩ (i : Int) i0 i1
  obtain rfl := k51_openM hM
  have hs := Kd.R_seg h.rI (i : Int) i0 i1 (okp := fun _ => False) (seg := [v]) (j := j) (x' := y) hcl hcc (by show j + 1 ≤ 2; omega) (by
    rw [show (i : Int).toNat = i from Int.toNat_natCast i]
    rw [show j + [v].length = j + 1 from rfl, hy]
    exact k51_mkM _ _ _ y) (fun _ hk => hk.elim)
  rw [show (i : Int).toNat = i from Int.toNat_natCast i] at hs
  have hg : base ≤ g := Kd.R_base h.rI g rfl
  have hlt : g < w.heap.size := Kd.R_lt h.rI g rfl
  exact h.turn hs.2 (List.length_set ..) ⟨hs.2.os, hs.2.tape, hs.2.output, hs.2.size, fun k hk => hs.2.block k (by omega) (fun e => by injection e with e; omega)⟩ hs.1
theorem cellD (P : AP) (i : Nat) (hi : i < P.init.length) : cellAt P i = P.init.getD i ⟨bzero, 0⟩ := by
  rw [cellAt_eq P i hi, List.getD_eq_getElem?_getD, List.getElem?_eq_getElem hi]; rfl
theorem MW.ask2 {W w : World} {pb g cI : Nat} {AT : Option Addr} {cT : Nat} {AK : Option Addr} {cK : Nat} {base : Nat} {vals : Int} {nl nt : Nat} {inits : List TCell} {ths : List (List TStmt)} {RS : List (List ByteArray)} {ask : Int} {x : TCond} {i : Nat} {y : TCell} (h : MW W w pb g cI AT cT AK cK base vals nl nt (inits.set i y) ths RS ask x)
    (hG : ∀ AI cI', GdT ⟨madeB, vals, AI, cI', inits, AT, cT, ths, ask, x.f0, x.f1, x.f2, x.f3, AK, cK, x.f4⟩ vals nl nt RS) (hy : y.f0.size ≤ 1000) (e n : Int)
    (hme : mayE (AP.withI ⟨madeB, vals, some ⟨g, 0, none⟩, cI, inits, AT, cT, ths, ask, x.f0, x.f1, x.f2, x.f3, AK, cK, x.f4⟩ (inits.set i y)) = e ∧ mayN (AP.withI ⟨madeB, vals, some ⟨g, 0, none⟩, cI, inits, AT, cT, ths, ask, x.f0, x.f1, x.f2, x.f3, AK, cK, x.f4⟩ (inits.set i y)) = n) :
    Calls Try.prog 11 #[.agg #[.string madeB, .int .i64 vals, .slice (some ⟨g, 0, none⟩) inits.length cI, .slice AT ths.length cT, .int .i64 ask, .int .i64 x.f0, .int .i64 x.f1, .string x.f2, .int .i64 x.f3, .slice AK x.f4.length cK]] w
      fun r w' => r = .returned (.tuple #[.int .i64 e, .int .i64 n]) ∧ Below W.heap.size W w' := by
  have hg := hG (some ⟨g, 0, none⟩) cI
  have h1 := hg.il
  have h2 := hg.tl
  have h3 := hg.n1
  have h4 := hg.gd.n4
  have h5 : inits.length = nl := h1
  have h6 : ths.length = nt := h2
  have hk := h.ask (by rw [List.length_set]; omega) (by omega) (fun z hz => by
    rcases List.mem_or_eq_of_mem_set hz with q | q
    · have : z.f0 ∈ loc4.take nl := by rw [← hg.gd.lo]; exact List.mem_map_of_mem q
      exact loc_size _ nl this
    · rw [q]; exact hy) (withI_sm hg.sm _) hg.cn
  rw [List.length_set] at hk
  refine hk.mono ?_
  · rintro r w' ⟨rfl, hb⟩
    have e1 : mayE ⟨madeB, vals, some ⟨g, 0, none⟩, cI, inits.set i y, AT, cT, ths, ask, x.f0, x.f1, x.f2, x.f3, AK, cK, x.f4⟩ = e := hme.1
    have e2 : mayN ⟨madeB, vals, some ⟨g, 0, none⟩, cI, inits.set i y, AT, cT, ths, ask, x.f0, x.f1, x.f2, x.f3, AK, cK, x.f4⟩ = n := hme.2
    rw [e1, e2]
    exact ⟨rfl, hb⟩
theorem cell_size {nl : Nat} {inits : List TCell} (hl : inits.map (fun c => c.f0) = loc4.take nl) (i : Nat) : (inits.getD i ⟨bzero, 0⟩).f0.size ≤ 1000 := by
  rw [List.getD_eq_getElem?_getD]
  cases e : inits[i]? with
  | none => decide
  | some y =>
    have : y.f0 ∈ loc4.take nl := by rw [← hl]; exact List.mem_map_of_mem (List.mem_of_getElem? e)
    exact loc_size _ nl this
set_option maxHeartbeats 8000000 in
set_option maxRecDepth 100000 in
theorem cinits_any (W : World) (A : Option Addr) (c : Nat) (l : List Int) (hr : Kd.C (Kd.int .u8) W A l.length l) (hc : l.length ≤ c) (hu : ∀ x ∈ l, 0 ≤ x ∧ x < 256) (k how : Int) (hk : 0 ≤ k ∧ k < 256) (hh : 0 ≤ how ∧ how < 256) : Calls Try.prog 6 #[.slice A l.length c, .int .u8 k, .int .u8 how] W fun e W' => e = .returned (.bool true) ∧ Below W.heap.size W W' := by
  have HA := Aside0.mk (And.intro hr (And.intro hc (And.intro hu (And.intro hk hh))))
  clear hr hc hu hk hh
  go_enter Try.func6, Try.ntmps6
  go_wp2_with fail
  refine (begun_any W).mono ?_
  rintro e w1 ⟨rfl, hb1⟩
  have HB1 := Aside0.mk hb1
  clear hb1
  by_cases h80 : (l.length : Int) > 80
  · have e1 : decide ((80 : Int) < (l.length : Int)) = true := decide_eq_true h80
    clear h80
    go_wp2
    go_ret
    exact ⟨rfl, HB1.out⟩
  · have e1 : decide ((80 : Int) < (l.length : Int)) = false := decide_eq_false h80
    have HL := Aside0.mk (show l.length ≤ 80 by omega)
    clear h80
    go_wp2_with fail
    refine (withemade_Made.calls A c l l 0 W w1 HB1.out HA.out.1 HA.out.2.1 rfl).mono ?_
    rintro e w2 ⟨g, rfl, hI, hb2, -, -⟩
    have HM := Aside0.mk (show MS W w2 g from ⟨hb2, l, 0, hI, by omega, by omega, by have := HL.out; omega, HA.out.2.2.1⟩)
    clear hI hb2 e1
    go_wp2_with fail
    refine (mprog_any W w2 g HM.out).mono ?_
    rintro e w3 ⟨wd, vals, nl, nt, hv2, hv4, hn1, hn4, ht1, ht4, hsz, hm3, hP, hc3⟩
    obtain ⟨vv, rfl⟩ : ∃ vv, e = Ending.returned vv := ⟨_, hP.choose_spec.choose_spec.choose_spec.choose_spec.choose_spec.choose_spec.choose_spec.choose_spec.choose_spec.1⟩
    obtain ⟨gI, cI, AT, cT, AK, cK, inits, ths, RS, ask, x, rfl, hMW, hG⟩ := MW.mk' hm3.1 (by have := HB1.out.size; have := HM.out.1.size; omega) hP ⟨hv2, hv4⟩ ⟨hn1, hn4⟩ ⟨ht1, ht4⟩
    have hil : inits.length = nl := (hG none 0).il
    have HN := Aside0.mk (show 1 ≤ nl ∧ nl ≤ 4 from ⟨hn1, hn4⟩)
    have HG := Aside0.mk hG
    have HW := Aside0.mk hMW
    have HIL := Aside0.mk hil
    clear hP hm3 hc3 hsz hv2 hv4 ht1 ht4 hG hMW hn1 hn4 hil
    go_upto_region 6 with fail
    generalize World.alloc w3 _ = wa at HW ⊢
    generalize w3.heap.size = pb at HW ⊢
    have c2 := (blk_cell HW.out.pbk 2).trans rfl
    have hz : ¬ (inits.length : Int) = 0 := by have := HIL.out; have := HN.out; omega
    have hk0 : wrap64 k = k := by have := HA.out.2.2.2.1; exact w64 k (by omega) (by omega)
    go_upto_region 8 with fail
    have hlen0 : 0 < (inits.length : Int) := by omega
    obtain ⟨i, hik, hi⟩ : ∃ i : Nat, k.tmod (inits.length : Int) = (i : Int) ∧ i < inits.length := by
      have q1 : 0 ≤ k.tmod (inits.length : Int) := Int.tmod_nonneg _ HA.out.2.2.2.1.1
      have q2 := Int.tmod_lt_of_pos k hlen0
      exact ⟨(k.tmod (inits.length : Int)).toNat, by omega, by omega⟩
    rw [hik]
    have i0 : (0 : Int) ≤ (i : Int) := by omega
    have i1 : (i : Int) < (inits.length : Int) := by omega
    obtain ⟨cs, hcl, hM, hcc, hfr⟩ := Kd.R_elem HW.out.rI ⟨bzero, 0⟩ (i : Int) i0 i1
    obtain rfl := k51_openM hM
    have x0 : wa.cell? ⟨gI, i * 2, none⟩ = some (.string (inits.getD i ⟨bzero, 0⟩).f0) := hcc 0 _ rfl
    have x1 : wa.cell? ⟨gI, i * 2 + 1, none⟩ = some (.int .i64 (inits.getD i ⟨bzero, 0⟩).f1) := hcc 1 _ rfl
    have z0 : wa.frozen? ⟨gI, i * 2, none⟩ = false := hfr 0
    have z1 : wa.frozen? ⟨gI, i * 2 + 1, none⟩ = false := hfr 1
    clear hM hcc hfr hcl hik hk0 hz hlen0
    obtain ⟨r, hr⟩ : ∃ r, how.tmod 5 = r := ⟨_, rfl⟩
    have hr5 : r = 0 ∨ r = 1 ∨ r = 2 ∨ r = 3 ∨ r = 4 := by
      have q1 : 0 ≤ how.tmod 5 := Int.tmod_nonneg _ HA.out.2.2.2.2.1
      have q2 : how.tmod 5 < 5 := Int.tmod_lt_of_pos how (by decide)
      omega
    rcases hr5 with rfl | rfl | rfl | rfl | rfl
    · go_upto_region 22 with fail
      have hput := HW.out.put i hi 0 (by decide) (.string ⟨#[57, 120]⟩) rfl ⟨⟨#[57, 120]⟩, (inits.getD i ⟨bzero, 0⟩).f1⟩ rfl
      generalize World.setCell wa _ _ = wb at hput ⊢
      have HP := Aside0.mk hput
      have e0 := (blk_cell HP.out.pbk 0).trans rfl
      have e1 := (blk_cell HP.out.pbk 1).trans rfl
      have e2 := (blk_cell HP.out.pbk 2).trans rfl
      have e3 := (blk_cell HP.out.pbk 3).trans rfl
      have e4 := (blk_cell HP.out.pbk 4).trans rfl
      have e5 := (blk_cell HP.out.pbk 5).trans rfl
      have e6 := (blk_cell HP.out.pbk 6).trans rfl
      have e7 := (blk_cell HP.out.pbk 7).trans rfl
      have e8 := (blk_cell HP.out.pbk 8).trans rfl
      have e9 := (blk_cell HP.out.pbk 9).trans rfl
      have HE := Aside0.mk (init_odd (HG.out (some ⟨gI, 0, none⟩) cI) i (HIL.out ▸ hi) ⟨#[57, 120]⟩ (inits.getD i ⟨bzero, 0⟩).f1 odd1)
      have hii := HIL.out ▸ hi
      have hw1 : wrap64 ((i : Int) + 1) = (i : Int) + 1 := by have := HN.out; unfold wrap64; omega
      clear hput x0 x1 z0 z1 c2
      go_wp2_with fail
      with_reducible refine (HP.out.ask2 HG.out (show ByteArray.size ⟨#[57, 120]⟩ ≤ 1000 from by decide) 4 ((i : Int) + 1) HE.out).mono ?_
      rintro e5 w5 ⟨rfl, hb5⟩
      have HB5 := Aside0.mk hb5
      clear hb5
      go_wp2
      go_ret
      exact ⟨rfl, HB5.out⟩
    · go_upto_region 22 with fail
      have hput := HW.out.put i hi 0 (by decide) (.string ⟨#[118, 97, 108, 117, 101, 115]⟩) rfl ⟨⟨#[118, 97, 108, 117, 101, 115]⟩, (inits.getD i ⟨bzero, 0⟩).f1⟩ rfl
      generalize World.setCell wa _ _ = wb at hput ⊢
      have HP := Aside0.mk hput
      have e0 := (blk_cell HP.out.pbk 0).trans rfl
      have e1 := (blk_cell HP.out.pbk 1).trans rfl
      have e2 := (blk_cell HP.out.pbk 2).trans rfl
      have e3 := (blk_cell HP.out.pbk 3).trans rfl
      have e4 := (blk_cell HP.out.pbk 4).trans rfl
      have e5 := (blk_cell HP.out.pbk 5).trans rfl
      have e6 := (blk_cell HP.out.pbk 6).trans rfl
      have e7 := (blk_cell HP.out.pbk 7).trans rfl
      have e8 := (blk_cell HP.out.pbk 8).trans rfl
      have e9 := (blk_cell HP.out.pbk 9).trans rfl
      have HE := Aside0.mk (init_odd (HG.out (some ⟨gI, 0, none⟩) cI) i (HIL.out ▸ hi) ⟨#[118, 97, 108, 117, 101, 115]⟩ (inits.getD i ⟨bzero, 0⟩).f1 odd2)
      have hii := HIL.out ▸ hi
      have hw1 : wrap64 ((i : Int) + 1) = (i : Int) + 1 := by have := HN.out; unfold wrap64; omega
      clear hput x0 x1 z0 z1 c2
      go_wp2_with fail
      with_reducible refine (HP.out.ask2 HG.out (show ByteArray.size ⟨#[118, 97, 108, 117, 101, 115]⟩ ≤ 1000 from by decide) 4 ((i : Int) + 1) HE.out).mono ?_
      rintro e5 w5 ⟨rfl, hb5⟩
      have HB5 := Aside0.mk hb5
      clear hb5
      go_wp2
      go_ret
      exact ⟨rfl, HB5.out⟩
    · go_upto_region 22 with fail
      have hput := HW.out.put i hi 0 (by decide) (.string ⟨#[116, 111, 111, 108, 111, 110, 103, 110, 97, 109, 101]⟩) rfl ⟨⟨#[116, 111, 111, 108, 111, 110, 103, 110, 97, 109, 101]⟩, (inits.getD i ⟨bzero, 0⟩).f1⟩ rfl
      generalize World.setCell wa _ _ = wb at hput ⊢
      have HP := Aside0.mk hput
      have e0 := (blk_cell HP.out.pbk 0).trans rfl
      have e1 := (blk_cell HP.out.pbk 1).trans rfl
      have e2 := (blk_cell HP.out.pbk 2).trans rfl
      have e3 := (blk_cell HP.out.pbk 3).trans rfl
      have e4 := (blk_cell HP.out.pbk 4).trans rfl
      have e5 := (blk_cell HP.out.pbk 5).trans rfl
      have e6 := (blk_cell HP.out.pbk 6).trans rfl
      have e7 := (blk_cell HP.out.pbk 7).trans rfl
      have e8 := (blk_cell HP.out.pbk 8).trans rfl
      have e9 := (blk_cell HP.out.pbk 9).trans rfl
      have HE := Aside0.mk (init_odd (HG.out (some ⟨gI, 0, none⟩) cI) i (HIL.out ▸ hi) ⟨#[116, 111, 111, 108, 111, 110, 103, 110, 97, 109, 101]⟩ (inits.getD i ⟨bzero, 0⟩).f1 odd3)
      have hii := HIL.out ▸ hi
      have hw1 : wrap64 ((i : Int) + 1) = (i : Int) + 1 := by have := HN.out; unfold wrap64; omega
      clear hput x0 x1 z0 z1 c2
      go_wp2_with fail
      with_reducible refine (HP.out.ask2 HG.out (show ByteArray.size ⟨#[116, 111, 111, 108, 111, 110, 103, 110, 97, 109, 101]⟩ ≤ 1000 from by decide) 4 ((i : Int) + 1) HE.out).mono ?_
      rintro e5 w5 ⟨rfl, hb5⟩
      have HB5 := Aside0.mk hb5
      clear hb5
      go_wp2
      go_ret
      exact ⟨rfl, HB5.out⟩
    · by_cases hi0 : (i : Int) = 0
      · have e1 : decide ((i : Int) = 0) = true := decide_eq_true hi0
        have e2 : ((i : Int) == 0) = true := beq_iff_eq.2 hi0
        have HB := Aside0.mk HW.out.bel
        obtain rfl : i = 0 := by omega
        go_wp2
        go_ret
        exact ⟨rfl, HB.out⟩
      · have e2 : ((i : Int) == 0) = false := beq_eq_false_iff_ne.2 hi0
        obtain ⟨cs, hcl, hM, hcc, hfr⟩ := Kd.R_elem HW.out.rI ⟨bzero, 0⟩ (0 : Int) (by decide) (by omega)
        obtain rfl := k51_openM hM
        have y0 : wa.cell? ⟨gI, 0, none⟩ = some (.string (inits.getD 0 ⟨bzero, 0⟩).f0) := hcc 0 _ rfl
        have il0 : (0 : Int) < (inits.length : Int) := by omega
        obtain ⟨s0, hs0⟩ : ∃ s0, (inits.getD 0 ⟨bzero, 0⟩).f0 = s0 := ⟨_, rfl⟩
        rw [hs0] at y0
        have HS0 := Aside0.mk hs0
        clear hcl hM hcc hfr hs0
        go_upto_region 18 with fail
        go_region
        have hput := (HW.out.put i hi 0 (by decide) (.string s0) rfl ⟨s0, (inits.getD i ⟨bzero, 0⟩).f1⟩ rfl).step (below_drew (Below.refl _ _))
        generalize World.drew (World.setCell wa _ _) = wb at hput ⊢
        have HP := Aside0.mk hput
        have e0 := (blk_cell HP.out.pbk 0).trans rfl
        have e1 := (blk_cell HP.out.pbk 1).trans rfl
        have e2 := (blk_cell HP.out.pbk 2).trans rfl
        have e3 := (blk_cell HP.out.pbk 3).trans rfl
        have e4 := (blk_cell HP.out.pbk 4).trans rfl
        have e5 := (blk_cell HP.out.pbk 5).trans rfl
        have e6 := (blk_cell HP.out.pbk 6).trans rfl
        have e7 := (blk_cell HP.out.pbk 7).trans rfl
        have e8 := (blk_cell HP.out.pbk 8).trans rfl
        have e9 := (blk_cell HP.out.pbk 9).trans rfl
        have hEv := init_twice (HG.out (some ⟨gI, 0, none⟩) cI) i (HIL.out ▸ hi) (by omega) (inits.getD i ⟨bzero, 0⟩).f1
        rw [cellD _ 0 (show 0 < inits.length by omega), show (AP.init ⟨madeB, vals, some ⟨gI, 0, none⟩, cI, inits, AT, cT, ths, ask, x.f0, x.f1, x.f2, x.f3, AK, cK, x.f4⟩).getD 0 ⟨bzero, 0⟩ = inits.getD 0 ⟨bzero, 0⟩ from rfl, HS0.out] at hEv
        have HE := Aside0.mk hEv
        clear hEv
        have hii := HIL.out ▸ hi
        have hw1 : wrap64 ((i : Int) + 1) = (i : Int) + 1 := by have := HN.out; unfold wrap64; omega
        clear hput x0 x1 z0 z1 c2
        go_wp2_with fail
        with_reducible refine (HP.out.ask2 HG.out (HS0.out ▸ cell_size (HG.out none 0).gd.lo 0) 4 ((i : Int) + 1) HE.out).mono ?_
        rintro e5 w5 ⟨rfl, hb5⟩
        have HB5 := Aside0.mk hb5
        clear hb5
        go_wp2
        go_ret
        exact ⟨rfl, HB5.out⟩
    · have c1 := (blk_cell HW.out.pbk 1).trans rfl
      go_upto_region 22 with fail
      have hput := HW.out.put i hi 1 (by decide) (.int .i64 vals) rfl ⟨(inits.getD i ⟨bzero, 0⟩).f0, vals⟩ rfl
      generalize World.setCell wa _ _ = wb at hput ⊢
      have HP := Aside0.mk hput
      have e0 := (blk_cell HP.out.pbk 0).trans rfl
      have e1 := (blk_cell HP.out.pbk 1).trans rfl
      have e2 := (blk_cell HP.out.pbk 2).trans rfl
      have e3 := (blk_cell HP.out.pbk 3).trans rfl
      have e4 := (blk_cell HP.out.pbk 4).trans rfl
      have e5 := (blk_cell HP.out.pbk 5).trans rfl
      have e6 := (blk_cell HP.out.pbk 6).trans rfl
      have e7 := (blk_cell HP.out.pbk 7).trans rfl
      have e8 := (blk_cell HP.out.pbk 8).trans rfl
      have e9 := (blk_cell HP.out.pbk 9).trans rfl
      have hEv := init_val (HG.out (some ⟨gI, 0, none⟩) cI) i (HIL.out ▸ hi)
      rw [cellD _ i hi] at hEv
      have HE := Aside0.mk hEv
      clear hEv
      have hii := HIL.out ▸ hi
      have hw1 : wrap64 ((i : Int) + 1) = (i : Int) + 1 := by have := HN.out; unfold wrap64; omega
      clear hput x0 x1 z0 z1 c2
      go_wp2_with fail
      with_reducible refine (HP.out.ask2 HG.out (cell_size (HG.out none 0).gd.lo i) 1 ((i : Int) + 1) HE.out).mono ?_
      rintro e5 w5 ⟨rfl, hb5⟩
      have HB5 := Aside0.mk hb5
      clear hb5
      go_wp2
      go_ret
      exact ⟨rfl, HB5.out⟩
end Go.Proofs.Ytlhbnbckanmaiaa.K
