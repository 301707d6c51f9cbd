/- A text of a claim (ours): withelaw9.begun; conditions: none of ours. -/
import Derived.Test.YtlhbnbckanmaiaaM5V
import Derived.Test.YtlhbnbckanmaiaaM3V
namespace Go.Proofs.Ytlhbnbckanmaiaa.K
open Go Go.RowKit Go.Proofs.YtlhbnbckanmaiaaW.PrintWords Go.Proofs.YtlhbnbckanmaiaaW.PrintLast Go.Proofs.YtlhbnbckanmaiaaW.PrintMore Go.Proofs.Ytlhbnbckanmaiaa.PC1
set_option linter.unusedVariables false
set_option linter.unusedSimpArgs false
def questE (P : AP) (e : Int) : Int := condF P (needE (decide (depC 7 ⟨P.op, P.th, P.cn, P.n, P.kids⟩ ≤ 6)) 3 (needE ((P.ask == 1) || (P.ask == 2)) 1 e)) ⟨P.op, P.th, P.cn, P.n, P.kids⟩
set_option maxHeartbeats 4000000 in
theorem quest_one (w0 W : World) (q : Nat) (P : AP) (hsm : P.sm) (hcn : P.cn.size ≤ 1000) (part e st : Int) (vR : Value) (h : AS w0 W q P part e st vR) (hp0 : 0 ≤ part) (hp1 : part ≤ 100000000) (ha : (P.ask == 1) = true) :
    Calls Try.prog 45 #[.pointer (some ⟨q, 0, none⟩)] W (Asked w0 W q P (part + 1) (questE P e) st vR) := by
  have HM := Aside0.mk (And.intro hsm (show smC ⟨P.op, P.th, P.cn, P.n, P.kids⟩ from (smC_def _).2 ⟨hcn, hsm.kd.2, hsm.kd.1⟩))
  have HA := Aside0.mk ha
  have HD := Aside0.mk (And.intro h.dat.ck h.dat.lk)
  have hS1 := h.set (part' := part + 1) (e' := e) (st' := st) (vR' := vR) 10 (v := .int .i64 (part + 1)) rfl
  have HS := Aside0.mk (And.intro hS1 (chg_set W q 10 (.int .i64 (part + 1))))
  have c10 := h.cells.2.2.2.2.2.2.2.2.2.2.1
  have c4 := h.cells.2.2.2.2.1
  have hq := h.lt
  have hfz := h.froz
  clear h hS1 hsm
  go_enter Try.func45, Try.ntmps45
  go_wp2_with fail
  refine (need w0 _ q P _ _ _ _ HS.out.1 _ _).mono ?_
  rintro r w1 hA
  obtain rfl := hA.ret
  have HS1 := Aside0.mk (hA.next HS.out.2)
  clear hA c10 c4 hq hfz
  obtain ⟨-, -, -, -, -, c5, c6, c7, c8, c9, -, -, -, -⟩ := HS1.out.1.cells
  go_wp2_with fail
  refine (depthC 7 (by decide) ⟨P.op, P.th, P.cn, P.n, P.kids⟩ _ P.AK P.cK (Kd.C_below HD.out.1 HS1.out.1.bel) HD.out.2 HM.out.2).mono ?_
  rintro r w2 ⟨rfl, hb⟩
  have HS2 := Aside0.mk (AS.move HS1.out hb)
  clear c5 c6 c7 c8 c9 hb
  go_wp2_with fail
  refine (need w0 _ q P _ _ _ _ HS2.out.1 _ _).mono ?_
  rintro r w3 hA
  obtain rfl := hA.ret
  have HS3 := Aside0.mk (hA.next HS2.out.2)
  clear hA
  obtain ⟨-, -, -, -, -, c5, c6, c7, c8, c9, -, -, -, -⟩ := HS3.out.1.cells
  go_wp2_with fail
  refine (cond_any w0 q P HM.out.1 _ _ _ (SizeOf.sizeOf (S26.mk P.op P.th P.cn P.n P.kids) + 1) ⟨P.op, P.th, P.cn, P.n, P.kids⟩ (Nat.lt_succ_self _) _ _ P.AK P.cK HS3.out.1 HD.out.1 HM.out.2).mono ?_
  rintro r w4 hA
  obtain rfl := hA.ret
  have HS4 := Aside0.mk (hA.next HS3.out.2)
  clear hA c5 c6 c7 c8 c9
  go_wp2
  go_end0
  exact ⟨rfl, HS4.out.1.to (by unfold questE; rw [HA.out]; simp), HS4.out.2⟩
set_option maxHeartbeats 4000000 in
theorem quest_not (w0 W : World) (q : Nat) (P : AP) (hsm : P.sm) (hcn : P.cn.size ≤ 1000) (part e st : Int) (vR : Value) (h : AS w0 W q P part e st vR) (hp0 : 0 ≤ part) (hp1 : part ≤ 100000000) (ha : (P.ask == 1) = false) :
    Calls Try.prog 45 #[.pointer (some ⟨q, 0, none⟩)] W (Asked w0 W q P (part + 1) (questE P e) st vR) := by
  have HM := Aside0.mk (And.intro hsm (show smC ⟨P.op, P.th, P.cn, P.n, P.kids⟩ from (smC_def _).2 ⟨hcn, hsm.kd.2, hsm.kd.1⟩))
  have HA := Aside0.mk ha
  have HD := Aside0.mk (And.intro h.dat.ck h.dat.lk)
  have hS1 := h.set (part' := part + 1) (e' := e) (st' := st) (vR' := vR) 10 (v := .int .i64 (part + 1)) rfl
  have HS := Aside0.mk (And.intro hS1 (chg_set W q 10 (.int .i64 (part + 1))))
  have c10 := h.cells.2.2.2.2.2.2.2.2.2.2.1
  have c4 := h.cells.2.2.2.2.1
  have hq := h.lt
  have hfz := h.froz
  clear h hS1 hsm
  go_enter Try.func45, Try.ntmps45
  go_wp2_with fail
  refine (need w0 _ q P _ _ _ _ HS.out.1 _ _).mono ?_
  rintro r w1 hA
  obtain rfl := hA.ret
  have HS1 := Aside0.mk (hA.next HS.out.2)
  clear hA c10 c4 hq hfz
  obtain ⟨-, -, -, -, -, c5, c6, c7, c8, c9, -, -, -, -⟩ := HS1.out.1.cells
  go_wp2_with fail
  refine (depthC 7 (by decide) ⟨P.op, P.th, P.cn, P.n, P.kids⟩ _ P.AK P.cK (Kd.C_below HD.out.1 HS1.out.1.bel) HD.out.2 HM.out.2).mono ?_
  rintro r w2 ⟨rfl, hb⟩
  have HS2 := Aside0.mk (AS.move HS1.out hb)
  clear c5 c6 c7 c8 c9 hb
  go_wp2_with fail
  refine (need w0 _ q P _ _ _ _ HS2.out.1 _ _).mono ?_
  rintro r w3 hA
  obtain rfl := hA.ret
  have HS3 := Aside0.mk (hA.next HS2.out.2)
  clear hA
  obtain ⟨-, -, -, -, -, c5, c6, c7, c8, c9, -, -, -, -⟩ := HS3.out.1.cells
  go_wp2_with fail
  refine (cond_any w0 q P HM.out.1 _ _ _ (SizeOf.sizeOf (S26.mk P.op P.th P.cn P.n P.kids) + 1) ⟨P.op, P.th, P.cn, P.n, P.kids⟩ (Nat.lt_succ_self _) _ _ P.AK P.cK HS3.out.1 HD.out.1 HM.out.2).mono ?_
  rintro r w4 hA
  obtain rfl := hA.ret
  have HS4 := Aside0.mk (hA.next HS3.out.2)
  clear hA c5 c6 c7 c8 c9
  go_wp2
  go_end0
  exact ⟨rfl, HS4.out.1.to (by unfold questE; rw [HA.out]; simp), HS4.out.2⟩
theorem quest_any (w0 W : World) (q : Nat) (P : AP) (hsm : P.sm) (hcn : P.cn.size ≤ 1000) (part e st : Int) (vR : Value) (h : AS w0 W q P part e st vR) (hp0 : 0 ≤ part) (hp1 : part ≤ 100000000) :
    Calls Try.prog 45 #[.pointer (some ⟨q, 0, none⟩)] W (Asked w0 W q P (part + 1) (questE P e) st vR) := by
  cases ha : (P.ask == 1) with
  | true => exact quest_one w0 W q P hsm hcn part e st vR h hp0 hp1 ha
  | false => exact quest_not w0 W q P hsm hcn part e st vR h hp0 hp1 ha
set_option maxHeartbeats 2000000 in
theorem step_init (w0 W : World) (q : Nat) (P : AP) (part e st : Int) (vR : Value) (h : AS w0 W q P part e st vR) (i : Nat) (hi : i < P.init.length) (hp0 : 0 ≤ part) (hp1 : part ≤ 100000000) (b1 b2 : Nat)
    (hb1 : W.cell? ⟨b1, 0, none⟩ = some (.pointer (some ⟨q, 0, none⟩))) (hb2 : W.cell? ⟨b2, 0, none⟩ = some (.int .i64 (i : Int))) (hn1 : b1 ≠ q) (hn2 : b2 ≠ q) :
    Calls Try.prog 41 #[.pointer (some ⟨b1, 0, none⟩), .pointer (some ⟨b2, 0, none⟩)] W (Asked w0 W q P (part + 1) (initE P i e) st vR) := by
  have hS1 := h.set (part' := part + 1) (e' := e) (st' := st) (vR' := vR) 10 (v := .int .i64 (part + 1)) rfl
  have HS := Aside0.mk (And.intro hS1 (chg_set W q 10 (.int .i64 (part + 1))))
  have c10 := h.cells.2.2.2.2.2.2.2.2.2.2.1
  have hq := h.lt
  have hfz := h.froz
  have l1 := World.block_lt_of_cell? _ _ hb1
  have l2 := World.block_lt_of_cell? _ _ hb2
  dsimp only at l1 l2
  have HI := Aside0.mk hi
  clear h hS1 hi
  go_enter Try.func41, Try.ntmps41
  go_wp2_with fail
  refine (init_any w0 _ q P _ _ _ _ HS.out.1 i HI.out).mono ?_
  rintro r w1 hA
  obtain rfl := hA.ret
  have HS1 := Aside0.mk (hA.next HS.out.2)
  clear hA c10 hq hfz
  go_wp2
  go_end0
  exact ⟨rfl, HS1.out.1, HS1.out.2⟩
theorem block_any (w0 : World) (q : Nat) (P : AP) : ∀ N, BlockOk w0 q P N
  | 0 => fun l hN => by omega
  | N + 1 => block_step w0 q P N (block_any w0 q P N)
set_option maxHeartbeats 2000000 in
theorem step_thr (w0 W : World) (q : Nat) (P : AP) (s : BS) (vR : Value) (h : AS w0 W q P s.part s.e s.st vR) (l : List TStmt) (A : Option Addr) (c : Nat) (hC : Kd.C kStmt w0 A l.length l) (hsm : smSs l) (hl : l.length ≤ 1000) (hcn : cntL l ≤ 1000) (hp0 : 0 ≤ s.part) (hp1 : s.part + 1000 ≤ 100000000) (b1 b2 : Nat)
    (hb1 : W.cell? ⟨b1, 0, none⟩ = some (.pointer (some ⟨q, 0, none⟩))) (hb2 : W.cell? ⟨b2, 0, none⟩ = some (.slice A l.length c)) (hn1 : b1 ≠ q) (hn2 : b2 ≠ q) :
    Calls Try.prog 43 #[.pointer (some ⟨b1, 0, none⟩), .pointer (some ⟨b2, 0, none⟩)] W (Blocked w0 W q P (blockL P 0 ⟨s.part, s.e, 0, []⟩ l)) := by
  have hS1 := (h.set (part' := s.part) (e' := s.e) (st' := 0) (vR' := vR) 12 (v := .int .i64 0) rfl).set (part' := s.part) (e' := s.e) (st' := 0) (vR' := .slice none 0 0) 13 (v := .slice none 0 0) rfl
  have HS := Aside0.mk (And.intro hS1 ((chg_set W q 12 (.int .i64 0)).step (chg_set _ q 13 (.slice none 0 0))))
  have c12 := h.cells.2.2.2.2.2.2.2.2.2.2.2.2.1
  have c13 := h.cells.2.2.2.2.2.2.2.2.2.2.2.2.2
  have hq := h.lt
  have hfz := h.froz
  have l1 := World.block_lt_of_cell? _ _ hb1
  have l2 := World.block_lt_of_cell? _ _ hb2
  dsimp only at l1 l2
  have HI := Aside0.mk (And.intro hC (And.intro hsm (And.intro hl (And.intro hcn (And.intro hp0 hp1)))))
  clear h hS1 hC hsm hl hcn hp0 hp1
  go_enter Try.func43, Try.ntmps43
  go_wp2_with fail
  refine (block_any w0 q P (SizeOf.sizeOf l + 1) l (Nat.lt_succ_self _) _ ⟨s.part, s.e, 0, []⟩ (.slice none 0 0) A c 0 HS.out.1 (RegsAt.nil _ _) HI.out.1 HI.out.2.1 HI.out.2.2.1 HI.out.2.2.2.2.1 (Int.le_refl _) (Int.le_refl _) (by have := HI.out; simp only; omega) (by have := HI.out; simp only; omega) (by have := HI.out; omega) (by have := HI.out; simp; omega)).mono ?_
  rintro r w1 ⟨v1, hA, hR⟩
  obtain rfl := hA.ret
  have HS1 := Aside0.mk (And.intro (hA.next HS.out.2) hR)
  clear hA c12 c13 hq hfz hR
  go_wp2
  go_end0
  exact ⟨v1, ⟨rfl, HS1.out.1.1, HS1.out.1.2⟩, HS1.out.2⟩
end Go.Proofs.Ytlhbnbckanmaiaa.K
namespace Go.Proofs.Ytlhbnbckanmaiaa.K
open Go Go.RowKit Go.Proofs.YtlhbnbckanmaiaaW.PrintWords Go.Proofs.YtlhbnbckanmaiaaW.PrintLast Go.Proofs.YtlhbnbckanmaiaaW.PrintMore Go.Proofs.Ytlhbnbckanmaiaa.PC1
set_option linter.unusedVariables false
set_option linter.unusedSimpArgs false
/-- A step that is to be taken: the head, an init (its number, where that lies), a thread (its number, where it lies), the question. -/
inductive Stp where
  | head
  | init (i b : Nat)
  | thr (i b : Nat)
  | quest
def encS (q t : Nat) : Stp → Value
  | .head => .func (.func 40) #[.pointer (some ⟨q, 0, none⟩)] #[]
  | .init i b => .func (.func 41) #[] #[.pointer (some ⟨t, 0, none⟩), .pointer (some ⟨b, 0, none⟩)]
  | .thr i b => .func (.func 43) #[] #[.pointer (some ⟨t, 0, none⟩), .pointer (some ⟨b, 0, none⟩)]
  | .quest => .func (.func 45) #[.pointer (some ⟨q, 0, none⟩)] #[]
theorem encS_one (q t : Nat) (s : Stp) : (encS q t s).oneCell' = true := by cases s <;> rfl
def kS (q t : Nat) : Kd Stp := Kd.scalar (encS q t) (encS_one q t)
theorem infoFn : (Try.prog.info? 1).map (fun i => (i.zero, i.size, i.bytes)) = some (some .nilFunc, 1, 8) := by kernel_rfl
def thrOf (P : AP) (i : Nat) : List TStmt := P.threads.getD i []
theorem thrOf_eq (P : AP) (i : Nat) (hi : i < P.threads.length) : thrOf P i = P.threads[i] := by unfold thrOf; rw [List.getD_eq_getElem?_getD, List.getElem?_eq_getElem hi]; rfl
def stepF (P : AP) (s : BS) : Stp → BS
  | .head => { s with e := headE P s.e }
  | .init i _ => { s with part := s.part + 1, e := initE P i s.e }
  | .thr i _ => blockL P 0 ⟨s.part, s.e, 0, []⟩ (thrOf P i)
  | .quest => { s with part := s.part + 1, e := questE P s.e }
def runF (P : AP) (s : BS) (x : Stp) : BS := if s.e = 0 then stepF P s x else s
/-- Where a step's number lies. -/
def StpAt (w0 W : World) (q : Nat) (P : AP) : Stp → Prop
  | .head => True
  | .quest => True
  | .init i b => i < P.init.length ∧ b ≠ q ∧ W.heap[b]? = some (.cells #[.int .i64 (i : Int)] 3 (0, 0))
  | .thr i b => i < P.threads.length ∧ b ≠ q ∧ ∃ A c, W.heap[b]? = some (.cells #[.slice A (thrOf P i).length c] 35 (0, 0)) ∧ Kd.C kStmt w0 A (thrOf P i).length (thrOf P i)
theorem StpAt.chg {w0 W W1 : World} {q : Nat} {P : AP} {s : Stp} (h : StpAt w0 W q P s) (c : Chg (fun k => k = q) W W1) : StpAt w0 W1 q P s := by
  cases s with
  | head => trivial
  | quest => trivial
  | init i b => exact ⟨h.1, h.2.1, c.heap h.2.2 h.2.1⟩
  | thr i b => obtain ⟨h1, h2, A, cc, h3, h4⟩ := h; exact ⟨h1, h2, A, cc, c.heap h3 h2, h4⟩
theorem StpAt.grown {w0 W W1 : World} {q base : Nat} {P : AP} {s : Stp} {v : Value} {n : Nat} {xs : List Value} (h : StpAt w0 W q P s) (hg : W.grownBy W1 v.ownBlock) (hv : W.ownsRow base 1 1 v n xs) : StpAt w0 W1 q P s := by
  cases s with
  | head => trivial
  | quest => trivial
  | init i b => exact ⟨h.1, h.2.1, blk_grown h.2.2 hg (own_ne hv h.2.2 (by decide))⟩
  | thr i b => obtain ⟨h1, h2, A, cc, h3, h4⟩ := h; exact ⟨h1, h2, A, cc, blk_grown h3 hg (own_ne hv h3 (by decide)), h4⟩
theorem step_any (w0 W : World) (q t : Nat) (P : AP) (hsm : P.sm) (hcn : P.cn.size ≤ 1000) (s : BS) (vR : Value) (h : AS w0 W q P s.part s.e s.st vR) (hR : RegsAt q W vR s.regs) (hp0 : 0 ≤ s.part) (hp1 : s.part + 1000 ≤ 100000000) (ht : W.cell? ⟨t, 0, none⟩ = some (.pointer (some ⟨q, 0, none⟩))) (htq : t ≠ q) (x : Stp) (hx : StpAt w0 W q P x)
    (R : Ending → World → Prop) (hk : ∀ r W', Blocked w0 W q P (stepF P s x) r W' → R r W') :
    match x with
    | .head => Calls Try.prog 40 #[.pointer (some ⟨q, 0, none⟩)] W R
    | .quest => Calls Try.prog 45 #[.pointer (some ⟨q, 0, none⟩)] W R
    | .init i b => Calls Try.prog 41 #[.pointer (some ⟨t, 0, none⟩), .pointer (some ⟨b, 0, none⟩)] W R
    | .thr i b => Calls Try.prog 43 #[.pointer (some ⟨t, 0, none⟩), .pointer (some ⟨b, 0, none⟩)] W R := by
  cases x with
  | head => exact (head w0 W q P s.part s.e s.st vR h).mono fun r W' hA => hk r W' ⟨vR, hA, hR.step hA.chg⟩
  | quest => exact (quest_any w0 W q P hsm hcn s.part s.e s.st vR h hp0 (by omega)).mono fun r W' hA => hk r W' ⟨vR, hA, hR.step hA.chg⟩
  | init i b =>
    obtain ⟨h1, h2, h3⟩ := hx
    exact (step_init w0 W q P s.part s.e s.st vR h i h1 hp0 (by omega) t b ht ((blk_cell h3 0).trans rfl) htq h2).mono fun r W' hA => hk r W' ⟨vR, hA, hR.step hA.chg⟩
  | thr i b =>
    obtain ⟨h1, h2, A, c, h3, h4⟩ := hx
    have hm : thrOf P i ∈ P.threads := by rw [thrOf_eq P i h1]; exact List.getElem_mem h1
    have hs := hsm.st _ hm
    exact (step_thr w0 W q P s vR h (thrOf P i) A c h4 hs.1 hs.2.1 hs.2.2 hp0 hp1 t b ht ((blk_cell h3 0).trans rfl) htq h2).mono fun r W' hA => hk r W' hA
theorem stepF_part (P : AP) (hsm : P.sm) (s : BS) (x : Stp) : s.part ≤ (runF P s x).part ∧ (runF P s x).part ≤ s.part + 1000 := by
  unfold runF
  split
  · cases x with
    | head => simp only [stepF]; omega
    | quest => simp only [stepF]; omega
    | init i b => simp only [stepF]; omega
    | thr i b =>
      have h := (blockL_far P 0 ⟨s.part, s.e, 0, []⟩ (thrOf P i)).p
      have hc : cntL (thrOf P i) ≤ 1000 := by
        by_cases hi : i < P.threads.length
        · have hm : thrOf P i ∈ P.threads := by rw [thrOf_eq P i hi]; exact List.getElem_mem hi
          exact (hsm.st _ hm).2.2
        · unfold thrOf; rw [List.getD_eq_getElem?_getD, List.getElem?_eq_none (by omega)]; simp [cntL]
      simp only [stepF]
      simp only at h
      omega
  · omega
/-- The steps, in order. -/
def inits (bs : List Nat) : List Stp := bs.mapIdx fun i b => .init i b
def thrs (bs : List Nat) : List Stp := bs.mapIdx fun i b => .thr i b
theorem inits_snoc (bs : List Nat) (b : Nat) : inits (bs ++ [b]) = inits bs ++ [.init bs.length b] := by simp [inits, List.mapIdx_append]
theorem thrs_snoc (bs : List Nat) (b : Nat) : thrs (bs ++ [b]) = thrs bs ++ [.thr bs.length b] := by simp [thrs, List.mapIdx_append]
/-- The row of steps that was laid so far. -/
structure Row (w0 W0 W : World) (q t : Nat) (P : AP) (v : Value) (xs : List Stp) (vR : Value) : Prop where
  a : AS w0 W q P 0 0 0 vR
  r : Kd.R (kS q t) 1 W W0.heap.size (fun _ => True) v xs
  t : W.heap[t]? = some (.cells #[.pointer (some ⟨q, 0, none⟩)] 64 (0, 0))
  x : ∀ s ∈ xs, StpAt w0 W q P s
  b : Below W0.heap.size W0 W
  q0 : q < W0.heap.size
theorem Row.own {w0 W0 W : World} {q t : Nat} {P : AP} {v : Value} {xs : List Stp} {vR : Value} (h : Row w0 W0 W q t P v xs vR) : W.ownsRow W0.heap.size 1 1 v xs.length (encs (encS q t) xs) := Kd.own_of_R h.r
theorem Row.quiet {w0 W0 W W1 : World} {q t : Nat} {P : AP} {v : Value} {xs : List Stp} {vR : Value} (h : Row w0 W0 W q t P v xs vR) (hb : Below W.heap.size W W1) : Row w0 W0 W1 q t P v xs vR :=
  ⟨h.a.step hb, Kd.R_of_own (h1 := encS_one q t) (pw_own_below h.own hb) (fun _ _ => trivial), blk_below h.t hb, fun s hs => (h.x s hs).chg (Chg.of_below hb), below_step h.b hb, h.q0⟩
theorem Row.grow {w0 W0 W W1 : World} {q t : Nat} {P : AP} {v v' : Value} {xs : List Stp} {vR : Value} (h : Row w0 W0 W q t P v xs vR) (s : Stp) (hs : StpAt w0 W q P s) (hr : Kd.R (kS q t) 1 W1 W0.heap.size (fun _ => True) v' (xs ++ [s])) (hb : Below W0.heap.size W0 W1) (hg : W.grownBy W1 v.ownBlock) : Row w0 W0 W1 q t P v' (xs ++ [s]) vR := by
  have hq : some q ≠ v.ownBlock := own_ne h.own h.a.blk (by decide)
  have ht : some t ≠ v.ownBlock := own_ne h.own h.t (by decide)
  refine ⟨⟨?_, h.a.hq, blk_grown h.a.blk hg hq, h.a.dat⟩, hr, blk_grown h.t hg ht, fun x hx => ?_, hb, h.q0⟩
  · exact pw_below_grown h.a.bel _ h.a.bel.size hg (fun k hk => by have := (h.own.lt k hk).1; have := h.a.hq; have := h.q0; omega)
  · rcases List.mem_append.1 hx with hx | hx
    · exact (h.x x hx).grown hg h.own
    · simp at hx; subst hx; exact hs.grown hg h.own
end Go.Proofs.Ytlhbnbckanmaiaa.K
namespace Go.Proofs.Ytlhbnbckanmaiaa.K
open Go Go.RowKit Go.Proofs.YtlhbnbckanmaiaaW.PrintWords Go.Proofs.YtlhbnbckanmaiaaW.PrintLast Go.Proofs.YtlhbnbckanmaiaaW.PrintMore Go.Proofs.Ytlhbnbckanmaiaa.PC1
set_option linter.unusedVariables false
set_option linter.unusedSimpArgs false
def s0 : BS := ⟨0, 0, 0, []⟩
theorem row_at {w0 W0 W3 wr : World} {q t n c : Nat} {P : AP} {A : Option Addr} {xs : List Stp} {vR : Value} (h : Row w0 W0 W3 q t P (.slice A n c) xs vR) (hc : Chg (fun k => k = q) W3 wr) (k : Nat) (hk : k < xs.length) : ∃ ad, A = some ad ∧ wr.cell? (ad.add k) = some (encS q t xs[k]) := by
  have hown := h.own
  have h3 := own_move hown (w1 := wr) (fun j hj => hc.block j (hown.lt j hj).2 (by have := (hown.lt j hj).1; have := h.q0; omega))
  obtain ⟨A', c', he, _, hC⟩ := Kd.R_reads (Kd.R_of_own (h1 := encS_one q t) h3 (fun _ _ => trivial) : Kd.R (kS q t) _ wr W0.heap.size (fun _ => True) _ xs)
  injection he with h6 _ _
  subst h6
  obtain ⟨ad, cc, e1, _, hK, hc0⟩ := Kd.C_get hC Stp.head (k : Int) (by omega) (by omega)
  have hg : xs.getD (k : Int).toNat Stp.head = xs[k] := by rw [Int.toNat_natCast, List.getD_eq_getElem?_getD, List.getElem?_eq_getElem hk]; rfl
  rw [hg] at hK
  refine ⟨ad, e1, ?_⟩
  obtain rfl : cc = [encS q t xs[k]] := hK
  have := hc0 0 _ rfl
  rw [Int.toNat_natCast] at this
  simpa [kS, Kd.scalar] using this
theorem step_c_head (w0 W : World) (q t : Nat) (P : AP) (hsm : P.sm) (hcn : P.cn.size ≤ 1000) (s : BS) (vR : Value) (h : AS w0 W q P s.part s.e s.st vR) (hR : RegsAt q W vR s.regs) (hp0 : 0 ≤ s.part) (hp1 : s.part + 1000 ≤ 100000000) : Calls Try.prog 40 #[.pointer (some ⟨q, 0, none⟩)] W (Blocked w0 W q P (stepF P s .head)) :=
  (head w0 W q P s.part s.e s.st vR h).mono fun r W' hA => ⟨vR, hA, hR.step hA.chg⟩
theorem step_c_quest (w0 W : World) (q t : Nat) (P : AP) (hsm : P.sm) (hcn : P.cn.size ≤ 1000) (s : BS) (vR : Value) (h : AS w0 W q P s.part s.e s.st vR) (hR : RegsAt q W vR s.regs) (hp0 : 0 ≤ s.part) (hp1 : s.part + 1000 ≤ 100000000) : Calls Try.prog 45 #[.pointer (some ⟨q, 0, none⟩)] W (Blocked w0 W q P (stepF P s .quest)) :=
  (quest_any w0 W q P hsm hcn s.part s.e s.st vR h hp0 (by omega)).mono fun r W' hA => ⟨vR, hA, hR.step hA.chg⟩
theorem step_c_init (w0 W : World) (q t : Nat) (P : AP) (hsm : P.sm) (hcn : P.cn.size ≤ 1000) (s : BS) (vR : Value) (h : AS w0 W q P s.part s.e s.st vR) (hR : RegsAt q W vR s.regs) (hp0 : 0 ≤ s.part) (hp1 : s.part + 1000 ≤ 100000000) (ht : W.cell? ⟨t, 0, none⟩ = some (.pointer (some ⟨q, 0, none⟩))) (htq : t ≠ q) (i b : Nat) (hx : StpAt w0 W q P (.init i b)) :
    Calls Try.prog 41 #[.pointer (some ⟨t, 0, none⟩), .pointer (some ⟨b, 0, none⟩)] W (Blocked w0 W q P (stepF P s (.init i b))) :=
  step_any w0 W q t P hsm hcn s vR h hR hp0 hp1 ht htq (.init i b) hx _ (fun _ _ h => h)
theorem step_c_thr (w0 W : World) (q t : Nat) (P : AP) (hsm : P.sm) (hcn : P.cn.size ≤ 1000) (s : BS) (vR : Value) (h : AS w0 W q P s.part s.e s.st vR) (hR : RegsAt q W vR s.regs) (hp0 : 0 ≤ s.part) (hp1 : s.part + 1000 ≤ 100000000) (ht : W.cell? ⟨t, 0, none⟩ = some (.pointer (some ⟨q, 0, none⟩))) (htq : t ≠ q) (i b : Nat) (hx : StpAt w0 W q P (.thr i b)) :
    Calls Try.prog 43 #[.pointer (some ⟨t, 0, none⟩), .pointer (some ⟨b, 0, none⟩)] W (Blocked w0 W q P (stepF P s (.thr i b))) :=
  step_any w0 W q t P hsm hcn s vR h hR hp0 hp1 ht htq (.thr i b) hx _ (fun _ _ h => h)
def Alled (w0 W : World) (q : Nat) (P : AP) (r : Ending) (W' : World) : Prop := ∃ bs cs : List Nat, bs.length = P.init.length ∧ cs.length = P.threads.length ∧ Blocked w0 W q P (((Stp.head :: inits bs) ++ thrs cs ++ [Stp.quest]).foldl (runF P) s0) r W'
theorem row_start (w0 W : World) (q : Nat) (P : AP) (vR : Value) (h : AS w0 W q P 0 0 0 vR) : Row w0 W ((W.alloc (.cells #[.pointer (some ⟨q, 0, none⟩)] 64 (0, 0))).alloc (.cells #[encS q W.heap.size .head] 1 (0, 0))) q W.heap.size P (.slice (some ⟨W.heap.size + 1, 0, none⟩) 1 1) [.head] vR := by
  have hb := below_alloc (below_alloc (Below.refl W.heap.size W) (.cells #[.pointer (some ⟨q, 0, none⟩)] 64 (0, 0))) (.cells #[encS q W.heap.size .head] 1 (0, 0))
  refine ⟨h.step hb, Kd.R_of_own (h1 := encS_one q W.heap.size) ⟨rfl, .inr ⟨W.heap.size + 1, 1, #[encS q W.heap.size .head], rfl, by omega, alloc_at _ _ _ (by simp), Nat.le_refl _, by decide, rfl, rfl⟩⟩ (fun _ _ => trivial), blk_alloc (blk_new W _) _, fun s hs => ?_, hb, h.lt⟩
  simp at hs; subst hs; trivial
set_option maxHeartbeats 8000000 in
set_option maxRecDepth 100000 in
theorem all_any (w0 W : World) (q : Nat) (P : AP) (hsm : P.sm) (hcn : P.cn.size ≤ 1000) (h : AS w0 W q P 0 0 0 (.slice none 0 0)) :
    Calls Try.prog 24 #[.pointer (some ⟨q, 0, none⟩)] W (Alled w0 W q P) := by
  have HP := Aside0.mk (And.intro hsm hcn)
  have HR0 := Aside0.mk (row_start w0 W q P _ h)
  have hn1 := h.dat.ni
  have hn2 := h.dat.nt
  have c2 := h.cells.2.2.1
  have hq := h.lt
  have hmf : ∀ (fn : Fn) (first cap : Array Value) (w : World), (Instr.makeFunc fn first cap).run Try.prog w = .ok (.func fn first cap) w := fun _ _ _ _ => rfl
  clear hsm hcn h
  go_enter Try.func24, Try.ntmps24
  go_wp2
  go_loopw [17, 2] (fun v17 v2 wr => ∃ (i : Nat) (bs : List Nat), i ≤ P.init.length ∧ v17 = .int .i64 i ∧ bs.length = i ∧ Aside0 (Row w0 W wr q W.heap.size P v2 (.head :: inits bs) (.slice none 0 0))) (fun v17 _ _ => P.init.length - (intOf v17).toNat)
  case atStart => exact ⟨0, [], Nat.zero_le _, rfl, rfl, HR0⟩
  case round =>
    obtain ⟨i, bs, hi, rfl, hbs, HR⟩ := hrel
    clear HR0 c2
    by_cases hlt : i < P.init.length
    · have e1 : decide ((i : Int) < (P.init.length : Int)) = true := decide_eq_true (by omega)
      have e2 : decide (i < P.init.length) = true := decide_eq_true hlt
      obtain ⟨Av, cv, hvv⟩ := Kd.R_slice HR.out.r
      subst hvv
      have HR2 := Aside0.mk (HR.out.quiet (below_alloc (Below.refl _ _) (.cells #[.int .i64 (i : Int)] 3 (0, 0))))
      have HLN := Aside0.mk (show (Stp.head :: inits bs).length ≤ 1001 from by simp [inits]; omega)
      have HSX := Aside0.mk (show StpAt w0 (wr.alloc (.cells #[.int .i64 (i : Int)] 3 (0, 0))) q P (.init i wr.heap.size) from ⟨hlt, by have := HR.out.a.lt; omega, blk_new wr _⟩)
      have HBS := Aside0.mk hbs
      clear hbs
      go_wp2_with (first | ((with_reducible refine gate_builtin (b := .append) (xs := #[.tmp 20, .tmp 22]) rfl ?_); refine hold ?_))
      refine ⟨?_⟩
      (at_builtin; refine Kd.R_append (kS q W.heap.size) (w0 := W) W.heap.size rfl (.tmp 20) (.tmp 22) 97 1 .nilFunc 8 rfl Try.underlying97 infoFn rfl (show 0 < (kS q W.heap.size).sz from Nat.one_pos) (by omega) _ (Stp.head :: inits bs) (.init i wr.heap.size) [encS q W.heap.size (.init i wr.heap.size)] (fun _ => True) (fun _ => False) (by first | rfl | (simp [Act.eval]; done)) (by first | rfl | (simp [Act.eval]; done)) (by first | rfl | (simp [Act.eval]; done)) (fun _ hk => hk.elim) (fun _ _ => trivial) HR2.out.r HR2.out.b HR2.out.b.size (by have := HLN.out; omega) ?_; intro v3 w3 ho3 hb3 hg3 _; have HR3 := Aside0.mk (HR2.out.grow (.init i wr.heap.size) (HSX.out) ho3 hb3 hg3); clear ho3 hb3 hg3)
      have HR4 := HR3
      obtain ⟨A3, c3, hv3⟩ := Kd.R_slice HR4.out.r
      subst hv3
      clear HR2 HR
      go_wp2
      go_roundw
      case rel => exact ⟨i + 1, bs ++ [wr.heap.size], by omega, by go_num, by rw [List.length_append, HBS.out]; rfl, ⟨by have q := HR4.out; rw [inits_snoc, HBS.out, ← List.cons_append]; simp only [List.length_append, List.length_cons, List.length_nil, Nat.zero_add] at q; exact q⟩⟩
      case measure => simp [intOf]; omega
    · have e1 : decide ((i : Int) < (P.init.length : Int)) = false := decide_eq_false (by omega)
      have e2 : decide (i < P.init.length) = false := decide_eq_false hlt
      obtain rfl : i = P.init.length := by omega
      have HB := Aside0.mk hbs
      clear hbs hi hlt
      obtain ⟨Av, cv, hvv⟩ := Kd.R_slice HR.out.r
      subst hvv
      have c3 := HR.out.a.cells.2.2.2.1
      obtain ⟨AT, hAT⟩ : ∃ AT, P.AT = AT := ⟨_, rfl⟩
      rw [hAT] at c3
      have HAT := Aside0.mk hAT
      clear hAT
      have t0 := (blk_cell HR.out.t 0).trans rfl
      have hql := HR.out.a.lt
      have hz := HR.out.b.size
      go_wp2
      go_loopw [31, 2] (fun v31 v2 wr => ∃ (i : Nat) (cs : List Nat) (A : Option Addr) (c : Nat), i ≤ P.threads.length ∧ v31 = .int .i64 i ∧ cs.length = i ∧ v2 = .slice A ((Stp.head :: inits bs) ++ thrs cs).length c ∧ Aside0 (Row w0 W wr q W.heap.size P v2 ((Stp.head :: inits bs) ++ thrs cs) (.slice none 0 0))) (fun v31 _ _ => P.threads.length - (intOf v31).toNat)
      case atStart => exact ⟨0, [], Av, cv, Nat.zero_le _, rfl, rfl, by rw [show thrs [] = [] from rfl, List.append_nil], ⟨by rw [show thrs [] = [] from rfl, List.append_nil]; exact HR.out⟩⟩
      case round =>
        clear HR c3 t0 hql e1 e2
        obtain ⟨i, cs, Av, cv, hi, rfl, hcs, rfl, HR⟩ := hrel
        by_cases hlt : i < P.threads.length
        · have e1 : decide ((i : Int) < (P.threads.length : Int)) = true := decide_eq_true (by omega)
          have e2 : decide (i < P.threads.length) = true := decide_eq_true hlt
          have i0 : (0 : Int) ≤ (i : Int) := by omega
          have i1 : (i : Int) < (P.threads.length : Int) := by omega
          obtain ⟨ad, At, ct, hA, hcl, hli, hCi, hC0, -⟩ := threads_at HR.out.a i hlt
          have hgd : thrOf P i = P.threads[i] := thrOf_eq P i hlt
          rw [← hgd] at hcl hC0
          have hA2 := HAT.out.symm.trans hA
          subst hA2
          have hlc := World.block_lt_of_cell? _ _ hcl
          have HR2 := Aside0.mk (HR.out.quiet (below_alloc (Below.refl _ _) (.cells #[.slice At (thrOf P i).length ct] 35 (0, 0))))
          have HLN := Aside0.mk (show ((Stp.head :: inits bs) ++ thrs cs).length ≤ 2001 from by simp [inits, thrs]; have := HB.out; omega)
          have HSX := Aside0.mk (show StpAt w0 (wr.alloc (.cells #[.slice At (thrOf P i).length ct] 35 (0, 0))) q P (.thr i wr.heap.size) from ⟨hlt, by have := HR.out.a.lt; omega, At, ct, blk_new wr _, hC0⟩)
          have HBS := Aside0.mk hcs
          clear hcs hA hgd hli hCi hC0
          go_wp2_with (first | ((with_reducible refine gate_builtin (b := .append) (xs := #[.tmp 35, .tmp 37]) rfl ?_); refine hold ?_))
          refine ⟨?_⟩
          (at_builtin; refine Kd.R_append (kS q W.heap.size) (w0 := W) W.heap.size rfl (.tmp 35) (.tmp 37) 97 1 .nilFunc 8 rfl Try.underlying97 infoFn rfl (show 0 < (kS q W.heap.size).sz from Nat.one_pos) (by omega) _ ((Stp.head :: inits bs) ++ thrs cs) (.thr i wr.heap.size) [encS q W.heap.size (.thr i wr.heap.size)] (fun _ => True) (fun _ => False) (by first | rfl | (simp [Act.eval]; done)) (by first | rfl | (simp [Act.eval]; done)) (by first | rfl | (simp [Act.eval]; done)) (fun _ hk => hk.elim) (fun _ _ => trivial) HR2.out.r HR2.out.b HR2.out.b.size (by have := HLN.out; omega) ?_; intro v3 w3 ho3 hb3 hg3 _; have HR3 := Aside0.mk (HR2.out.grow (.thr i wr.heap.size) (HSX.out) ho3 hb3 hg3); clear ho3 hb3 hg3)
          have HR4 := HR3
          obtain ⟨A3, c3, hv3⟩ := Kd.R_slice HR4.out.r
          subst hv3
          clear HR2 HR hcl hlc
          go_wp2
          go_roundw
          case rel => exact ⟨i + 1, cs ++ [wr.heap.size], A3, c3, by omega, by go_num, by rw [List.length_append, HBS.out]; rfl, by rw [thrs_snoc, HBS.out, ← List.append_assoc]; simp, ⟨by have q := HR4.out; rw [thrs_snoc, HBS.out, ← List.append_assoc]; simp only [List.length_append, List.length_cons, List.length_nil, Nat.zero_add] at q ⊢; rw [show (inits bs).length + ((thrs cs).length + 1) + 1 = (inits bs).length + 1 + (thrs cs).length + 1 by omega]; exact q⟩⟩
          case measure => simp [intOf]; omega
        · have e1 : decide ((i : Int) < (P.threads.length : Int)) = false := decide_eq_false (by omega)
          have e2 : decide (i < P.threads.length) = false := decide_eq_false hlt
          obtain rfl : i = P.threads.length := by omega
          have HCS := Aside0.mk hcs
          clear hcs hi hlt
          have HR2 := HR
          have t0 := (blk_cell HR.out.t 0).trans rfl
          have hql := HR.out.a.lt
          have hz2 := HR.out.b.size
          have htl := blk_lt HR.out.t
          have HLN := Aside0.mk (show ((Stp.head :: inits bs) ++ thrs cs).length ≤ 2001 from by simp [inits, thrs]; have := HB.out; have := HCS.out; omega)
          have HSX := Aside0.mk (show StpAt w0 wr q P .quest from trivial)
          clear HR
          go_wp2_with (first | ((with_reducible refine gate_builtin (b := .append) (xs := #[.tmp 40, .tmp 43]) rfl ?_); refine hold ?_))
          refine ⟨?_⟩
          (at_builtin; refine Kd.R_append (kS q W.heap.size) (w0 := W) W.heap.size rfl (.tmp 40) (.tmp 43) 97 1 .nilFunc 8 rfl Try.underlying97 infoFn rfl (show 0 < (kS q W.heap.size).sz from Nat.one_pos) (by omega) _ ((Stp.head :: inits bs) ++ thrs cs) .quest [encS q W.heap.size .quest] (fun _ => True) (fun _ => False) (by first | rfl | (simp [Act.eval]; done)) (by first | rfl | (simp [Act.eval]; done)) (by first | rfl | (simp [Act.eval]; done)) (fun _ hk => hk.elim) (fun _ _ => trivial) HR2.out.r HR2.out.b HR2.out.b.size (by have := HLN.out; omega) ?_; intro v3 w3 ho3 hb3 hg3 _; have HR3 := Aside0.mk (HR2.out.grow .quest (HSX.out) ho3 hb3 hg3); clear ho3 hb3 hg3)
          clear HR2 t0 hql hz2 htl
          obtain ⟨xs, hxs⟩ : ∃ xs, xs = (Stp.head :: inits bs) ++ thrs cs ++ [Stp.quest] := ⟨_, rfl⟩
          rw [← hxs] at HR3
          have HXS := Aside0.mk (And.intro hxs (show xs.length ≤ 3000 from by rw [hxs]; have := HLN.out; simp at this ⊢; omega))
          clear hxs HLN HSX
          obtain ⟨A3, c3, hv3⟩ := Kd.R_slice HR3.out.r
          subst hv3
          have hn3 : xs.length ≤ 3000 := HXS.out.2
          go_wp2
          go_loopw [46] (fun v46 wr => ∃ (k : Nat) (vR : Value), k ≤ xs.length ∧ v46 = .int .i64 k ∧ Aside0 (AS w0 wr q P ((xs.take k).foldl (runF P) s0).part ((xs.take k).foldl (runF P) s0).e ((xs.take k).foldl (runF P) s0).st vR ∧ RegsAt q wr vR ((xs.take k).foldl (runF P) s0).regs ∧ Chg (fun k => k = q) w3 wr ∧ 0 ≤ ((xs.take k).foldl (runF P) s0).part ∧ ((xs.take k).foldl (runF P) s0).part ≤ 1000 * k)) (fun v46 _ => xs.length - (intOf v46).toNat)
          case atStart => exact ⟨0, .slice none 0 0, Nat.zero_le _, rfl, ⟨HR3.out.a, RegsAt.nil _ _, Chg.refl _ _, Int.le_refl _, Int.le_refl _⟩⟩
          case round =>
            obtain ⟨k, vR, hk, rfl, HS⟩ := hrel
            by_cases hlt : k < xs.length
            · have e1 : decide ((k : Int) < (xs.length : Int)) = true := decide_eq_true (by omega)
              have e2 : decide (k < xs.length) = true := decide_eq_true hlt
              have i0 : (0 : Int) ≤ (k : Int) := by omega
              have i1 : (k : Int) < (xs.length : Int) := by omega
              have HTK := Aside0.mk (show (xs.take (k + 1)).foldl (runF P) s0 = runF P ((xs.take k).foldl (runF P) s0) xs[k] from by rw [List.take_succ_eq_append_getElem hlt, List.foldl_append]; rfl)
              have HXK := Aside0.mk ((HR3.out.x xs[k] (List.getElem_mem hlt)).chg HS.out.2.2.1)
              have HTT := Aside0.mk (HS.out.2.2.1.heap HR3.out.t (by have := HR3.out.q0; omega))
              have HPT := Aside0.mk (stepF_part P HP.out.1 ((xs.take k).foldl (runF P) s0) xs[k])
              generalize (xs.take k).foldl (runF P) s0 = s at HS HTK HPT
              obtain ⟨ad, hA, hcl⟩ := row_at HR3.out HS.out.2.2.1 k hlt
              generalize xs[k] = x at HTK HXK HPT hcl
              subst hA
              have hlc := World.block_lt_of_cell? _ _ hcl
              have t0 := (blk_cell HTT.out 0).trans rfl
              have htl := blk_lt HTT.out
              have c11 := HS.out.1.cells.2.2.2.2.2.2.2.2.2.2.2.1
              have hql := HS.out.1.lt
              by_cases he : s.e = 0
              · have HE := Aside0.mk (show runF P s x = stepF P s x from by unfold runF; rw [if_pos he])
                rw [he] at c11
                clear he
                have hp1 : s.part + 1000 ≤ 100000000 := by have := HS.out.2.2.2.2; omega
                cases x with
                | head =>
                  have hcl2 : wr.cell? (ad.add k) = some (encS q W.heap.size (.head)) := hcl
                  clear hcl
                  dsimp only [encS] at hcl2
                  go_wp2_with fail
                  refine (step_c_head w0 wr q W.heap.size P HP.out.1 HP.out.2 s vR HS.out.1 HS.out.2.1 HS.out.2.2.2.1 hp1).mono ?_
                  rintro r9 w9 ⟨v9, hA, hR9⟩
                  obtain rfl := hA.ret
                  have HS9 := Aside0.mk (And.intro hA.stt (And.intro hR9 (HS.out.2.2.1.step hA.chg)))
                  clear hA hR9 hcl2 t0 c11
                  go_wp2
                  go_roundw
                  case rel => exact ⟨k + 1, v9, by omega, by go_num, ⟨by have q2 := HPT.out; rw [HTK.out]; rw [HE.out] at q2 ⊢; refine ⟨HS9.out.1, HS9.out.2.1, HS9.out.2.2, ?_, ?_⟩ <;> (have := HS.out.2.2.2; omega)⟩⟩
                  case measure => simp [intOf]; omega
                | quest =>
                  have hcl2 : wr.cell? (ad.add k) = some (encS q W.heap.size (.quest)) := hcl
                  clear hcl
                  dsimp only [encS] at hcl2
                  go_wp2_with fail
                  refine (step_c_quest w0 wr q W.heap.size P HP.out.1 HP.out.2 s vR HS.out.1 HS.out.2.1 HS.out.2.2.2.1 hp1).mono ?_
                  rintro r9 w9 ⟨v9, hA, hR9⟩
                  obtain rfl := hA.ret
                  have HS9 := Aside0.mk (And.intro hA.stt (And.intro hR9 (HS.out.2.2.1.step hA.chg)))
                  clear hA hR9 hcl2 t0 c11
                  go_wp2
                  go_roundw
                  case rel => exact ⟨k + 1, v9, by omega, by go_num, ⟨by have q2 := HPT.out; rw [HTK.out]; rw [HE.out] at q2 ⊢; refine ⟨HS9.out.1, HS9.out.2.1, HS9.out.2.2, ?_, ?_⟩ <;> (have := HS.out.2.2.2; omega)⟩⟩
                  case measure => simp [intOf]; omega
                | init ii bb =>
                  have hcl2 : wr.cell? (ad.add k) = some (encS q W.heap.size (.init ii bb)) := hcl
                  clear hcl
                  dsimp only [encS] at hcl2
                  go_wp2_with fail
                  refine (step_c_init w0 wr q W.heap.size P HP.out.1 HP.out.2 s vR HS.out.1 HS.out.2.1 HS.out.2.2.2.1 hp1 t0 (by have := HR3.out.q0; omega) ii bb HXK.out).mono ?_
                  rintro r9 w9 ⟨v9, hA, hR9⟩
                  obtain rfl := hA.ret
                  have HS9 := Aside0.mk (And.intro hA.stt (And.intro hR9 (HS.out.2.2.1.step hA.chg)))
                  clear hA hR9 hcl2 t0 c11
                  go_wp2
                  go_roundw
                  case rel => exact ⟨k + 1, v9, by omega, by go_num, ⟨by have q2 := HPT.out; rw [HTK.out]; rw [HE.out] at q2 ⊢; refine ⟨HS9.out.1, HS9.out.2.1, HS9.out.2.2, ?_, ?_⟩ <;> (have := HS.out.2.2.2; omega)⟩⟩
                  case measure => simp [intOf]; omega
                | thr ii bb =>
                  have hcl2 : wr.cell? (ad.add k) = some (encS q W.heap.size (.thr ii bb)) := hcl
                  clear hcl
                  dsimp only [encS] at hcl2
                  go_wp2_with fail
                  refine (step_c_thr w0 wr q W.heap.size P HP.out.1 HP.out.2 s vR HS.out.1 HS.out.2.1 HS.out.2.2.2.1 hp1 t0 (by have := HR3.out.q0; omega) ii bb HXK.out).mono ?_
                  rintro r9 w9 ⟨v9, hA, hR9⟩
                  obtain rfl := hA.ret
                  have HS9 := Aside0.mk (And.intro hA.stt (And.intro hR9 (HS.out.2.2.1.step hA.chg)))
                  clear hA hR9 hcl2 t0 c11
                  go_wp2
                  go_roundw
                  case rel => exact ⟨k + 1, v9, by omega, by go_num, ⟨by have q2 := HPT.out; rw [HTK.out]; rw [HE.out] at q2 ⊢; refine ⟨HS9.out.1, HS9.out.2.1, HS9.out.2.2, ?_, ?_⟩ <;> (have := HS.out.2.2.2; omega)⟩⟩
                  case measure => simp [intOf]; omega
              · have g1 : (s.e == 0) = false := beq_eq_false_iff_ne.2 he
                have HE := Aside0.mk (show runF P s x = s from by unfold runF; rw [if_neg he])
                clear he
                go_wp2
                go_roundw
                case rel => exact ⟨k + 1, vR, by omega, by go_num, ⟨by rw [HTK.out, HE.out]; refine ⟨HS.out.1, HS.out.2.1, HS.out.2.2.1, HS.out.2.2.2.1, ?_⟩; have := HS.out.2.2.2.2; omega⟩⟩
                case measure => simp [intOf]; omega
            · have e1 : decide ((k : Int) < (xs.length : Int)) = false := decide_eq_false (by omega)
              have e2 : decide (k < xs.length) = false := decide_eq_false hlt
              obtain rfl : k = xs.length := by omega
              go_wp2
              go_end0
              refine ⟨bs, cs, HB.out, HCS.out, vR, ?_⟩
              rw [← HXS.out.1]
              have q1 := HS.out
              rw [List.take_length] at q1
              exact ⟨⟨rfl, q1.1, (Chg.of_below HR3.out.b).step q1.2.2.1⟩, q1.2.1⟩
end Go.Proofs.Ytlhbnbckanmaiaa.K
namespace Go.Proofs.Ytlhbnbckanmaiaa.K
open Go Go.RowKit Go.Proofs.YtlhbnbckanmaiaaW.PrintWords Go.Proofs.YtlhbnbckanmaiaaW.PrintLast Go.Proofs.YtlhbnbckanmaiaaW.PrintMore Go.Proofs.Ytlhbnbckanmaiaa.PC1
set_option linter.unusedVariables false
set_option linter.unusedSimpArgs false
def iniF (P : AP) (n : Nat) (s : BS) : BS := (List.range n).foldl (fun s i => runF P s (.init i 0)) s
def thrF (P : AP) (n : Nat) (s : BS) : BS := (List.range n).foldl (fun s i => runF P s (.thr i 0)) s
def mayS (P : AP) : BS := runF P (thrF P P.threads.length (iniF P P.init.length (runF P s0 .head))) .quest
def mayE (P : AP) : Int := (mayS P).e
def mayN (P : AP) : Int := if (mayS P).e = 0 then 0 else (mayS P).part
theorem snoc_ex (l : List Nat) (h : 0 < l.length) : ∃ cs b, l = cs ++ [b] := by
  rcases List.eq_nil_or_concat l with e | ⟨cs, b, e⟩
  · rw [e] at h; simp at h
  · exact ⟨cs, b, by simpa using e⟩
theorem fold_inits (P : AP) (s : BS) : ∀ (n : Nat) (bs : List Nat), bs.length = n → (inits bs).foldl (runF P) s = iniF P n s
  | 0, bs, h => by rw [List.length_eq_zero_iff.1 h]; rfl
  | n + 1, bs, h => by
    obtain ⟨cs, b, rfl⟩ : ∃ cs b, bs = cs ++ [b] := snoc_ex bs (by omega)
    have hc : cs.length = n := by simpa using h
    rw [inits_snoc, List.foldl_append, fold_inits P s n cs hc, hc]
    unfold iniF
    rw [List.range_succ, List.foldl_append]; rfl
theorem fold_thrs (P : AP) (s : BS) : ∀ (n : Nat) (bs : List Nat), bs.length = n → (thrs bs).foldl (runF P) s = thrF P n s
  | 0, bs, h => by rw [List.length_eq_zero_iff.1 h]; rfl
  | n + 1, bs, h => by
    obtain ⟨cs, b, rfl⟩ : ∃ cs b, bs = cs ++ [b] := snoc_ex bs (by omega)
    have hc : cs.length = n := by simpa using h
    rw [thrs_snoc, List.foldl_append, fold_thrs P s n cs hc, hc]
    unfold thrF
    rw [List.range_succ, List.foldl_append]; rfl
theorem fold_all (P : AP) (bs cs : List Nat) (hb : bs.length = P.init.length) (hc : cs.length = P.threads.length) : ((Stp.head :: inits bs) ++ thrs cs ++ [Stp.quest]).foldl (runF P) s0 = mayS P := by
  rw [List.foldl_append, List.foldl_append, fold_thrs P _ _ cs hc]
  rw [show (Stp.head :: inits bs).foldl (runF P) s0 = (inits bs).foldl (runF P) (runF P s0 .head) from rfl, fold_inits P _ _ bs hb]; rfl
set_option maxHeartbeats 4000000 in
theorem may_any (W : World) (P : AP) (hd : P.dat W) (hsm : P.sm) (hcn : P.cn.size ≤ 1000) :
    Calls Try.prog 11 #[.agg #[.string P.nm, .int .i64 P.vals, .slice P.AI P.init.length P.cI, .slice P.AT P.threads.length P.cT, .int .i64 P.ask, .int .i64 P.op, .int .i64 P.th, .string P.cn, .int .i64 P.n, .slice P.AK P.kids.length P.cK]] W
      fun r W' => r = .returned (.tuple #[.int .i64 (mayE P), .int .i64 (mayN P)]) ∧ Below W.heap.size W W' := by
  have HP := Aside0.mk (And.intro hd (And.intro hsm hcn))
  clear hd hsm hcn
  go_enter Try.func11, Try.ntmps11
  go_wp2_with fail
  refine (all_any W _ (W.heap.size + 1) P HP.out.2.1 HP.out.2.2 ⟨below_alloc (below_alloc (Below.refl _ _) _) _, by omega, alloc_at _ _ _ (by simp), HP.out.1⟩).mono ?_
  rintro r w1 ⟨bs, cs, hbs, hcs, vR, hA, -⟩
  rw [fold_all P bs cs hbs hcs] at hA
  obtain rfl := hA.ret
  have HA := Aside0.mk hA
  have HB := Aside0.mk (show Below W.heap.size W w1 from hA.stt.bel)
  have c11 := hA.stt.cells.2.2.2.2.2.2.2.2.2.2.2.1
  have c10 := hA.stt.cells.2.2.2.2.2.2.2.2.2.2.1
  have hq := hA.stt.lt
  clear hA hbs hcs
  by_cases he : (mayS P).e = 0
  · have g1 : ((mayS P).e == 0) = true := beq_iff_eq.2 he
    have HE := Aside0.mk (show mayE P = 0 ∧ mayN P = 0 from ⟨he, if_pos he⟩)
    rw [he] at c11
    clear he g1
    go_wp2
    go_ret2
    rw [HE.out.1, HE.out.2]
    exact ⟨rfl, HB.out⟩
  · have g1 : ((mayS P).e == 0) = false := beq_eq_false_iff_ne.2 he
    have HE := Aside0.mk (show mayE P = (mayS P).e ∧ mayN P = (mayS P).part from ⟨rfl, if_neg he⟩)
    clear he
    go_wp2
    go_quiet (fail)
    go_wp2
    go_ret2
    rw [HE.out.1, HE.out.2]
    exact ⟨rfl, pw_below_drewN HB.out nq⟩
end Go.Proofs.Ytlhbnbckanmaiaa.K
namespace Go.Proofs.Ytlhbnbckanmaiaa.K
open Go Go.RowKit Go.Proofs.YtlhbnbckanmaiaaW.PrintWords Go.Proofs.YtlhbnbckanmaiaaW.PrintLast Go.Proofs.YtlhbnbckanmaiaaW.PrintMore Go.Proofs.Ytlhbnbckanmaiaa.PC1
set_option linter.unusedVariables false
set_option linter.unusedSimpArgs false
theorem need0 (ok : Bool) (c : Int) (h : ok = true) : needE ok c 0 = 0 := by subst h; rfl
theorem need_bad0 (ok : Bool) (c : Int) (h : ok = false) : needE ok c 0 = c := by subst h; rfl
/-! ### inits -/
theorem iniF_succ (P : AP) (n : Nat) (s : BS) : iniF P (n + 1) s = runF P (iniF P n s) (.init n 0) := by
  unfold iniF; rw [List.range_succ, List.foldl_append]; rfl
theorem iniF_zero (P : AP) (s : BS) : iniF P 0 s = s := rfl
theorem thrF_succ (P : AP) (n : Nat) (s : BS) : thrF P (n + 1) s = runF P (thrF P n s) (.thr n 0) := by
  unfold thrF; rw [List.range_succ, List.foldl_append]; rfl
theorem runF_err (P : AP) (s : BS) (x : Stp) (h : s.e ≠ 0) : runF P s x = s := by unfold runF; rw [if_neg h]
theorem inits_to (P : AP) : ∀ n : Nat, (∀ i < n, initE P i 0 = 0) → iniF P n s0 = ⟨n, 0, 0, []⟩
  | 0, _ => rfl
  | n + 1, h => by
    rw [iniF_succ, inits_to P n (fun i hi => h i (by omega))]
    unfold runF; rw [if_pos rfl]; unfold stepF
    simp only
    rw [h n (by omega)]; rfl
theorem inits_stop (P : AP) (n : Nat) (s : BS) (h : (iniF P n s).e ≠ 0) : ∀ d : Nat, iniF P (n + d) s = iniF P n s
  | 0 => rfl
  | d + 1 => by rw [← Nat.add_assoc, iniF_succ, inits_stop P n s h d, runF_err _ _ _ h]
theorem thrF_err (P : AP) (s : BS) (h : s.e ≠ 0) : ∀ n : Nat, thrF P n s = s
  | 0 => rfl
  | n + 1 => by rw [thrF_succ, thrF_err P s h n, runF_err _ _ _ h]
/-- An init is the first that is wrong. -/
theorem may_init (P : AP) (hh : runF P s0 .head = s0) (i : Nat) (hi : i < P.init.length) (hb : ∀ j < i, initE P j 0 = 0) (c : Int) (hc : c ≠ 0) (h : initE P i 0 = c) : mayE P = c ∧ mayN P = i + 1 := by
  have h1 : iniF P (i + 1) s0 = ⟨(i : Int) + 1, c, 0, []⟩ := by
    rw [iniF_succ, inits_to P i hb]
    unfold runF; rw [if_pos rfl]; unfold stepF
    simp only
    rw [h]
  have h2 : iniF P P.init.length s0 = ⟨(i : Int) + 1, c, 0, []⟩ := by
    obtain ⟨d, hd⟩ : ∃ d, P.init.length = (i + 1) + d := ⟨P.init.length - (i + 1), by omega⟩
    rw [hd, inits_stop P (i + 1) s0 (by rw [h1]; exact hc) d, h1]
  have h3 : mayS P = ⟨(i : Int) + 1, c, 0, []⟩ := by
    unfold mayS
    rw [hh, h2, thrF_err P ⟨(i : Int) + 1, c, 0, []⟩ hc, runF_err _ ⟨(i : Int) + 1, c, 0, []⟩ _ hc]
  unfold mayE mayN
  rw [h3]
  exact ⟨rfl, if_neg hc⟩
/-- The head is wrong. -/
theorem may_head (P : AP) (c : Int) (hc : c ≠ 0) (h : headE P 0 = c) : mayE P = c ∧ mayN P = 0 := by
  have h1 : runF P s0 .head = ⟨0, c, 0, []⟩ := by
    unfold runF; rw [if_pos (show s0.e = 0 from rfl)]; unfold stepF
    have : headE P s0.e = c := h
    rw [this]; rfl
  have h2 : iniF P P.init.length ⟨0, c, 0, []⟩ = ⟨0, c, 0, []⟩ := by
    have := inits_stop P 0 ⟨0, c, 0, []⟩ (by rw [iniF_zero]; exact hc) P.init.length
    rw [Nat.zero_add, iniF_zero] at this; exact this
  have h3 : mayS P = ⟨0, c, 0, []⟩ := by
    unfold mayS
    rw [h1, h2, thrF_err P ⟨0, c, 0, []⟩ hc, runF_err _ ⟨0, c, 0, []⟩ _ hc]
  unfold mayE mayN
  rw [h3]
  exact ⟨rfl, if_neg hc⟩
/-- The threads so far, all right. -/
theorem thrF_stop (P : AP) (n : Nat) (s : BS) (h : (thrF P n s).e ≠ 0) : ∀ d : Nat, thrF P (n + d) s = thrF P n s
  | 0 => rfl
  | d + 1 => by rw [← Nat.add_assoc, thrF_succ, thrF_stop P n s h d, runF_err _ _ _ h]
/-- A thread is the first that is wrong. -/
theorem may_thr (P : AP) (hh : runF P s0 .head = s0) (hi : ∀ j < P.init.length, initE P j 0 = 0) (i : Nat) (hlt : i < P.threads.length) (s : BS) (hs : thrF P i ⟨P.init.length, 0, 0, []⟩ = s) (he : s.e = 0) (t : BS) (ht : blockL P 0 ⟨s.part, 0, 0, []⟩ (thrOf P i) = t) (hte : t.e ≠ 0) : mayE P = t.e ∧ mayN P = t.part := by
  have h1 : thrF P (i + 1) ⟨P.init.length, 0, 0, []⟩ = t := by
    rw [thrF_succ, hs]
    unfold runF; rw [if_pos he]; unfold stepF
    simp only
    rw [he, ht]
  obtain ⟨d, hd⟩ : ∃ d, P.threads.length = (i + 1) + d := ⟨P.threads.length - (i + 1), by omega⟩
  have h2 : thrF P P.threads.length ⟨P.init.length, 0, 0, []⟩ = t := by rw [hd, thrF_stop P (i + 1) _ (by rw [h1]; exact hte) d, h1]
  have h3 : mayS P = t := by
    unfold mayS
    rw [hh, inits_to P _ hi, h2, runF_err _ _ _ hte]
  unfold mayE mayN
  rw [h3]
  exact ⟨rfl, if_neg hte⟩
/-- All is right but what is asked, perhaps. -/
theorem may_quest (P : AP) (hh : runF P s0 .head = s0) (hi : ∀ j < P.init.length, initE P j 0 = 0) (s : BS) (hs : thrF P P.threads.length ⟨P.init.length, 0, 0, []⟩ = s) (he : s.e = 0) : mayE P = questE P 0 ∧ mayN P = if questE P 0 = 0 then 0 else s.part + 1 := by
  have h3 : mayS P = { s with part := s.part + 1, e := questE P 0 } := by
    unfold mayS
    rw [hh, inits_to P _ hi, hs]
    unfold runF; rw [if_pos he]; unfold stepF
    rw [he]
  unfold mayE mayN
  rw [h3]
  exact ⟨rfl, rfl⟩
end Go.Proofs.Ytlhbnbckanmaiaa.K
namespace Go.Proofs.Ytlhbnbckanmaiaa.K
open Go Go.RowKit Go.Proofs.YtlhbnbckanmaiaaW.PrintWords Go.Proofs.YtlhbnbckanmaiaaW.PrintLast Go.Proofs.YtlhbnbckanmaiaaW.PrintMore Go.Proofs.Ytlhbnbckanmaiaa.PC1
set_option linter.unusedVariables false
set_option linter.unusedSimpArgs false
/-- Slots filled, one after the other. -/
def fill : List (Nat × Value) → Array Value → Array Value
  | [], t => t
  | p :: l, t => fill l (t.setIfInBounds p.1 p.2)
theorem fill_size : ∀ (l : List (Nat × Value)) (t : Array Value), (fill l t).size = t.size
  | [], _ => rfl
  | p :: l, t => by rw [fill, fill_size l, Array.size_setIfInBounds]
theorem fill_ne : ∀ (l : List (Nat × Value)) (t : Array Value) (j : Nat), (∀ p ∈ l, p.1 ≠ j) → (fill l t)[j]?.getD undef = t[j]?.getD undef
  | [], _, _, _ => rfl
  | p :: l, t, j, h => by
    rw [fill, fill_ne l _ j (fun q hq => h q (List.mem_cons_of_mem _ hq)), Array.getElem?_setIfInBounds, if_neg (h p List.mem_cons_self)]
theorem fill_eq : ∀ (l : List (Nat × Value)) (t : Array Value) (i : Nat) (p : Nat × Value), (l.map Prod.fst).Nodup → l[i]? = some p → p.1 < t.size → (fill l t)[p.1]?.getD undef = p.2
  | [], _, _, _, _, h, _ => by simp at h
  | q :: l, t, i, p, hn, h, hs => by
    rw [List.map_cons, List.nodup_cons] at hn
    rw [fill]
    cases i with
    | zero =>
      rw [List.getElem?_cons_zero] at h
      obtain rfl := Option.some.inj h
      rw [fill_ne l _ _ (fun x hx e => hn.1 (List.mem_map.2 ⟨x, hx, e⟩))]
      simp [hs]
    | succ i =>
      rw [List.getElem?_cons_succ] at h
      exact fill_eq l _ i p hn.2 h (by rw [Array.size_setIfInBounds]; exact hs)
/-- What stands while the region is under way. -/
structure VI (L : List (Nat × Value)) (a0 : Act) (w0 : World) (f : Nat → Bool) (a : Act) (w : World) : Prop where
  sz : a.tmps.size = a0.tmps.size
  df : a.defers = a0.defers
  sl : ∀ j, (∀ p ∈ L, p.1 ≠ j) → gt a j = gt a0 j
  v : ∀ i p, L[i]? = some p → f i = true → gt a p.1 = p.2
  hb : Below w0.heap.size w0 w
theorem VI.put {L : List (Nat × Value)} {a0 a : Act} {w0 w w' : World} {f : Nat → Bool} (h : VI L a0 w0 f a w) (hn : (L.map Prod.fst).Nodup) (hs : ∀ p ∈ L, p.1 < a0.tmps.size) (i : Nat) (p : Nat × Value) (hp : L[i]? = some p) (hb : Below w.heap.size w w') : VI L a0 w0 (upd f i) ⟨a.tmps.setIfInBounds p.1 p.2, a.defers⟩ w' where
  sz := by rw [Array.size_setIfInBounds]; exact h.sz
  df := h.df
  sl j hj := (gt_ne _ _ _ _ _ (hj p (List.mem_of_getElem? hp))).trans (h.sl j hj)
  v k q hq hf := by
    by_cases e : k = i
    · subst e
      rw [hp] at hq
      obtain rfl := Option.some.inj hq
      exact gt_eq _ _ _ _ (by rw [h.sz]; exact hs p (List.mem_of_getElem? hp))
    · have hne : p.1 ≠ q.1 := by
        intro e1
        have h1 : (L.map Prod.fst)[k]? = some q.1 := by rw [List.getElem?_map, hq]; rfl
        have h2 : (L.map Prod.fst)[i]? = some p.1 := by rw [List.getElem?_map, hp]; rfl
        obtain ⟨h3, -⟩ := List.getElem?_eq_some_iff.1 h1
        exact e ((List.getElem?_inj h3 hn).1 (by rw [h1, h2, e1]))
      exact (gt_ne _ _ _ _ _ hne).trans (h.v k q hq ((upd_ne f e).symm.trans hf))
  hb := below_step h.hb hb
theorem wpAny_vals {ops : Array Oper} {Q : Exit → Act → World → Prop} {T : Bool × List (List Nat × List Nat)} {a1 : Act} {w1 : World} (hT : rtab .any ops = T)
    (hup : (List.range T.2.length).all (fun i => match T.2[i]? with | some r => r.1.all (fun j => decide (j < i)) | none => false) = true)
    (L : List (Nat × Value)) (hL : L.length = ops.size) (hn : (L.map Prod.fst).Nodup) (hs : ∀ p ∈ L, p.1 < a1.tmps.size)
    (step : ∀ (i : Nat) (o : Oper) (p : Nat × Value) (r : List Nat × List Nat) (a : Act) (w : World), ops[i]? = some o → L[i]? = some p → T.2[i]? = some r → (∀ j, (∀ p ∈ L, p.1 ≠ j) → gt a j = gt a1 j) → (∀ j ∈ r.1, ∀ q, L[j]? = some q → gt a q.1 = q.2) → Below w1.heap.size w1 w → ∀ K : Act → World → Prop, (∀ w', Below w.heap.size w w' → K (a.put (some p.1) p.2) w') → if Region.wanted o (yielded ops a.tmps) = true then o.wp Try.prog a w K Q else K (a.put o.dst undef) w)
    (fin : ∀ w, Below w1.heap.size w1 w → Q .normal ⟨fill L a1.tmps, a1.defers⟩ w) (fuel : Nat) (l : Array Bool) (hl : l.size = ops.size) (hu : unl l ≤ fuel) (hno : ∀ j, flag l j = false) : wpAny Try.prog .any ops Q fuel l a1 w1 := by
  refine wpAny_inv3 hT hup (fun a0 f a w => VI L a0 w1 f a w) ?_ ?_ fuel l hl hu ?_
  · intro f a w i o r hI ho hr hf hd K hK
    have hi : i < L.length := by rw [hL]; exact (Array.getElem?_eq_some_iff.1 ho).1
    have hp : L[i]? = some L[i] := List.getElem?_eq_getElem hi
    refine step i o _ r a w ho hp hr hI.sl (fun j hj q hq => hI.v j q hq (List.all_eq_true.1 hd j hj)) hI.hb K (fun w' hb => ?_)
    exact hK _ _ (hI.put hn hs i _ hp hb)
  · intro f a w hI hall
    have e : a = ⟨fill L a1.tmps, a1.defers⟩ := by
      have h1 := hI.df
      have h9 := hI
      obtain ⟨t, ds⟩ := a
      simp only at h1
      subst h1
      congr 1
      apply Array.ext
      · rw [fill_size]; exact hI.sz
      · intro j h1 h2
        have e1 : gt ⟨t, a1.defers⟩ j = (fill L a1.tmps)[j]?.getD undef := by
          by_cases c : ∃ p ∈ L, p.1 = j
          · obtain ⟨p, hp, rfl⟩ := c
            obtain ⟨i, hi, rfl⟩ := List.getElem_of_mem hp
            rw [fill_eq L a1.tmps i _ hn (List.getElem?_eq_getElem hi) (hs _ hp)]
            exact hI.v i _ (List.getElem?_eq_getElem hi) (hall i (by rw [← hL]; exact hi))
          · rw [fill_ne L a1.tmps j (fun p hp e => c ⟨p, hp, e⟩)]
            exact hI.sl j (fun p hp e => c ⟨p, hp, e⟩)
        unfold gt at e1
        simp only at e1
        rw [Array.getElem?_eq_getElem h1, Array.getElem?_eq_getElem h2] at e1
        exact e1
    subst e
    exact fin w hI.hb
  · exact { sz := rfl, df := rfl, sl := fun _ _ => rfl, v := fun i p _ hf => absurd (hf.symm.trans (hno i)) (by decide), hb := Below.refl _ _ }
theorem wpAny_vals2 {ops : Array Oper} {Q : Exit → Act → World → Prop} {T : Bool × List (List Nat × List Nat)} {a1 : Act} {w1 : World} (hT : rtab .any ops = T)
    (hup : (List.range T.2.length).all (fun i => match T.2[i]? with | some r => r.1.all (fun j => decide (j < i)) | none => false) = true)
    (L : List (Nat × Value)) (D : List Nat) (hD : L.map Prod.fst = D) (hL : L.length = ops.size) (hn : D.Nodup) (N : Nat) (hN : a1.tmps.size = N) (hs : D.all (fun d => decide (d < N)) = true)
    (step : ∀ (i : Nat) (o : Oper) (p : Nat × Value) (r : List Nat × List Nat) (a : Act) (w : World), ops[i]? = some o → L[i]? = some p → T.2[i]? = some r → (∀ j, D.contains j = false → gt a j = gt a1 j) → (∀ j ∈ r.1, ∀ q, L[j]? = some q → gt a q.1 = q.2) → Below w1.heap.size w1 w → ∀ K : Act → World → Prop, (∀ w', Below w.heap.size w w' → K (a.put (some p.1) p.2) w') → if Region.wanted o (yielded ops a.tmps) = true then o.wp Try.prog a w K Q else K (a.put o.dst undef) w)
    (fin : ∀ w, Below w1.heap.size w1 w → Q .normal ⟨fill L a1.tmps, a1.defers⟩ w) (fuel : Nat) (l : Array Bool) (hl : l.size = ops.size) (hu : unl l ≤ fuel) (hno : ∀ j, flag l j = false) : wpAny Try.prog .any ops Q fuel l a1 w1 := by
  subst hD
  subst hN
  refine wpAny_vals hT hup L hL hn (fun p hp => of_decide_eq_true (List.all_eq_true.1 hs p.1 (List.mem_map_of_mem hp))) ?_ fin fuel l hl hu hno
  intro i o p r a w ho hp hr hsl hv hb K hK
  refine step i o p r a w ho hp hr (fun j hj => hsl j (fun q hq e => ?_)) hv hb K hK
  have : (L.map Prod.fst).contains j = true := List.contains_iff_mem.2 (List.mem_map.2 ⟨q, hq, e⟩)
  rw [hj] at this
  exact absurd this (by decide)
theorem no_flag (n : Nat) (j : Nat) : flag (Array.replicate n false) j = false := by
  unfold flag
  by_cases hj : j < n <;> simp [hj]
/-- A guard that asks for false, and finds it. -/
theorem wants_no {ops : Array Oper} {o oj : Oper} {a : Act} {j d : Nat} {X E : Prop} (hg : o.guard = some (j, false)) (hj : ops[j]? = some oj) (hd : oj.dst = some d) (h : gt a d = .bool false) (hX : X) : if Region.wanted o (yielded ops a.tmps) = true then X else E := by
  rw [if_pos]; exact hX
  unfold gt at h
  simp only [Region.wanted, hg, yielded, hj, hd]
  cases hq : a.tmps[d]? with
  | none => rw [hq] at h; simp [undef] at h
  | some x => rw [hq] at h; simp at h; subst h; simp [hq, hd]
theorem wanted_no {ops : Array Oper} {o oj : Oper} {a : Act} {j d : Nat} (hg : o.guard = some (j, false)) (hj : ops[j]? = some oj) (hd : oj.dst = some d) (h : gt a d = .bool false) : Region.wanted o (yielded ops a.tmps) = true := by
  unfold gt at h
  simp only [Region.wanted, hg, yielded, hj, hd]
  cases hq : a.tmps[d]? with
  | none => rw [hq] at h; simp [undef] at h
  | some x => rw [hq] at h; simp at h; subst h; simp [hq, hd]
/-- .. and does not. -/
theorem wants_nay {ops : Array Oper} {o oj : Oper} {a : Act} {j d : Nat} {X E : Prop} (hg : o.guard = some (j, false)) (hj : ops[j]? = some oj) (hd : oj.dst = some d) (h : gt a d = .bool true) (hE : E) : if Region.wanted o (yielded ops a.tmps) = true then X else E := by
  rw [if_neg]; exact hE
  unfold gt at h
  simp only [Region.wanted, hg, yielded, hj, hd]
  cases hq : a.tmps[d]? with
  | none => rw [hq] at h; simp [undef] at h
  | some x => rw [hq] at h; simp at h; subst h; simp [hq, hd]
end Go.Proofs.Ytlhbnbckanmaiaa.K
namespace Go.Proofs.Ytlhbnbckanmaiaa.K
open Go Go.RowKit Go.Proofs.YtlhbnbckanmaiaaW.PrintWords Go.Proofs.YtlhbnbckanmaiaaW.PrintLast Go.Proofs.YtlhbnbckanmaiaaW.PrintMore Go.Proofs.Ytlhbnbckanmaiaa.PC1
set_option linter.unusedVariables false
set_option linter.unusedSimpArgs false
structure VI3 (T : List (List Nat × List Nat)) (L : List (Nat × Value)) (a0 : Act) (w0 : World) (f : Nat → Bool) (a : Act) (w : World) : Prop where
  vi : VI L a0 w0 f a w
  un : ∀ i p, L[i]? = some p → f i = false → gt a p.1 = gt a0 p.1
  cl : ∀ i r, T[i]? = some r → f i = true → ∀ j ∈ r.1, f j = true
theorem wpAny_vals3 {ops : Array Oper} {Q : Exit → Act → World → Prop} {T : Bool × List (List Nat × List Nat)} {a1 : Act} {w1 : World} (hT : rtab .any ops = T)
    (hup : (List.range T.2.length).all (fun i => match T.2[i]? with | some r => r.1.all (fun j => decide (j < i)) | none => false) = true)
    (L : List (Nat × Value)) (D : List Nat) (hD : L.map Prod.fst = D) (hL : L.length = ops.size) (hn : D.Nodup) (N : Nat) (hN : a1.tmps.size = N) (hs : D.all (fun d => decide (d < N)) = true)
    (step : ∀ (i : Nat) (o : Oper) (p : Nat × Value) (r : List Nat × List Nat) (a : Act) (w : World), ops[i]? = some o → L[i]? = some p → T.2[i]? = some r → (∀ j, D.contains j = false → gt a j = gt a1 j) → (∀ j ∈ r.1, ∀ q, L[j]? = some q → gt a q.1 = q.2) → (∀ (m : Nat) (r' : List Nat × List Nat), T.2[m]? = some r' → i ∈ r'.1 → ∀ (q : Nat × Value), L[m]? = some q → gt a q.1 = gt a1 q.1) → Below w1.heap.size w1 w → ∀ K : Act → World → Prop, (∀ w', Below w.heap.size w w' → K (a.put (some p.1) p.2) w') → if Region.wanted o (yielded ops a.tmps) = true then o.wp Try.prog a w K Q else K (a.put o.dst undef) w)
    (fin : ∀ w, Below w1.heap.size w1 w → Q .normal ⟨fill L a1.tmps, a1.defers⟩ w) (fuel : Nat) (l : Array Bool) (hl : l.size = ops.size) (hu : unl l ≤ fuel) (hno : ∀ j, flag l j = false) : wpAny Try.prog .any ops Q fuel l a1 w1 := by
  subst hD
  subst hN
  have hs' : ∀ p ∈ L, p.1 < a1.tmps.size := fun p hp => of_decide_eq_true (List.all_eq_true.1 hs p.1 (List.mem_map_of_mem hp))
  refine wpAny_inv3 hT hup (fun a0 f a w => VI3 T.2 L a0 w1 f a w) ?_ ?_ fuel l hl hu ?_
  · intro f a w i o r hI ho hr hf hd K hK
    have hi : i < L.length := by rw [hL]; exact (Array.getElem?_eq_some_iff.1 ho).1
    have hp : L[i]? = some L[i] := List.getElem?_eq_getElem hi
    refine step i o _ r a w ho hp hr (fun j hj => hI.vi.sl j (fun q hq e => ?_)) (fun j hj q hq => hI.vi.v j q hq (List.all_eq_true.1 hd j hj)) (fun m r' hm hi' q hq => hI.un m q hq ?_) hI.vi.hb K (fun w' hb => ?_)
    · have : (L.map Prod.fst).contains j = true := List.contains_iff_mem.2 (List.mem_map.2 ⟨q, hq, e⟩)
      rw [hj] at this
      exact absurd this (by decide)
    · cases hfm : f m with
      | false => rfl
      | true => exact absurd (hI.cl m r' hm hfm i hi') (by rw [hf]; decide)
    · refine hK _ _ ⟨hI.vi.put hn hs' i _ hp hb, fun k q hq hk => ?_, fun k r' hr' hk j hj => ?_⟩
      · have hki : k ≠ i := fun e => by subst e; rw [upd_eq] at hk; exact absurd hk (by decide)
        rw [upd_ne f hki] at hk
        have hne : (L[i]).1 ≠ q.1 := by
          intro e1
          have h1 : (L.map Prod.fst)[k]? = some q.1 := by rw [List.getElem?_map, hq]; rfl
          have h2 : (L.map Prod.fst)[i]? = some (L[i]).1 := by rw [List.getElem?_map, hp]; rfl
          obtain ⟨h3, -⟩ := List.getElem?_eq_some_iff.1 h1
          exact hki ((List.getElem?_inj h3 hn).1 (by rw [h1, h2, e1]))
        exact (gt_ne _ _ _ _ _ hne).trans (hI.un k q hq hk)
      · by_cases hji : j = i
        · subst hji; exact upd_eq f j
        · rw [upd_ne f hji]
          by_cases hki : k = i
          · subst hki
            rw [hr] at hr'
            obtain rfl := Option.some.inj hr'
            exact List.all_eq_true.1 hd j hj
          · rw [upd_ne f hki] at hk
            exact hI.cl k r' hr' hk j hj
  · intro f a w hI hall
    have e : a = ⟨fill L a1.tmps, a1.defers⟩ := by
      have h1 := hI.vi.df
      have h9 := hI.vi
      obtain ⟨t, ds⟩ := a
      simp only at h1
      subst h1
      congr 1
      apply Array.ext
      · rw [fill_size]; exact h9.sz
      · intro j h1 h2
        have e1 : gt ⟨t, a1.defers⟩ j = (fill L a1.tmps)[j]?.getD undef := by
          by_cases c : ∃ p ∈ L, p.1 = j
          · obtain ⟨p, hp, rfl⟩ := c
            obtain ⟨i, hi, rfl⟩ := List.getElem_of_mem hp
            rw [fill_eq L a1.tmps i _ hn (List.getElem?_eq_getElem hi) (hs' _ hp)]
            exact h9.v i _ (List.getElem?_eq_getElem hi) (hall i (by rw [← hL]; exact hi))
          · rw [fill_ne L a1.tmps j (fun p hp e => c ⟨p, hp, e⟩)]
            exact h9.sl j (fun p hp e => c ⟨p, hp, e⟩)
        unfold gt at e1
        simp only at e1
        rw [Array.getElem?_eq_getElem h1, Array.getElem?_eq_getElem h2] at e1
        exact e1
    subst e
    exact fin w hI.vi.hb
  · exact ⟨{ sz := rfl, df := rfl, sl := fun _ _ => rfl, v := fun i p _ hf => absurd (hf.symm.trans (hno i)) (by decide), hb := Below.refl _ _ }, fun _ _ _ _ => rfl, fun i _ _ hf => absurd (hf.symm.trans (hno i)) (by decide)⟩
end Go.Proofs.Ytlhbnbckanmaiaa.K
namespace Go.Proofs.Ytlhbnbckanmaiaa.K
open Go Go.RowKit Go.Proofs.YtlhbnbckanmaiaaW.PrintWords Go.Proofs.YtlhbnbckanmaiaaW.PrintLast Go.Proofs.YtlhbnbckanmaiaaW.PrintMore Go.Proofs.Ytlhbnbckanmaiaa.PC1
set_option linter.unusedVariables false
set_option linter.unusedSimpArgs false
structure FI (Tl : List (List Nat × List Nat)) (D : List (Option Nat)) (Φ : Nat → Value → World → Prop) (J : (Nat → Bool) → World → Prop) (a0 : Act) (f : Nat → Bool) (a : Act) (w : World) : Prop where
  sz : a.tmps.size = a0.tmps.size
  df : a.defers = a0.defers
  sl : ∀ j, D.contains (some j) = false → gt a j = gt a0 j
  v : ∀ i d, D[i]? = some (some d) → f i = true → Φ i (gt a d) w
  cl : ∀ i r, Tl[i]? = some r → f i = true → ∀ k ∈ r.1, f k = true
  j : J f w
theorem gt_put_ne (a : Act) (dd : Option Nat) (v : Value) (s : Nat) (h : dd ≠ some s) : gt (a.put dd v) s = gt a s := by
  cases dd with
  | none => rfl
  | some d => exact gt_ne _ _ _ _ _ (fun e => h (by rw [e]))
def apart (D : List (Option Nat)) : Bool := (List.range D.length).all fun i => (List.range D.length).all fun k => i == k || (match D[i]?, D[k]? with | some (some x), some (some y) => !(x == y) | _, _ => true)
theorem apart_ne {D : List (Option Nat)} (h : apart D = true) {i k x y : Nat} (hi : D[i]? = some (some x)) (hk : D[k]? = some (some y)) (hne : i ≠ k) : x ≠ y := by
  have h1 := List.all_eq_true.1 h i (List.mem_range.2 (List.getElem?_eq_some_iff.1 hi).1)
  have h2 := List.all_eq_true.1 h1 k (List.mem_range.2 (List.getElem?_eq_some_iff.1 hk).1)
  rw [hi, hk] at h2
  intro e
  subst e
  simp [hne] at h2
theorem FI.put {Tl : List (List Nat × List Nat)} {D : List (Option Nat)} {Φ : Nat → Value → World → Prop} {J : (Nat → Bool) → World → Prop} {a0 a : Act} {f : Nat → Bool} {w w' : World} (h : FI Tl D Φ J a0 f a w) (hn : apart D = true) (hs : D.all (fun d => match d with | some d => decide (d < a0.tmps.size) | none => true) = true) (i : Nat) (dd : Option Nat) (r : List Nat × List Nat) (hp : D[i]? = some dd) (hr : Tl[i]? = some r) (hd : ∀ k ∈ r.1, f k = true) (v : Value)
    (hv : ∀ d, dd = some d → Φ i v w') (hper : ∀ k d, D[k]? = some (some d) → f k = true → Φ k (gt a d) w → Φ k (gt a d) w') (hJ : J (upd f i) w') : FI Tl D Φ J a0 (upd f i) (a.put dd v) w' where
  sz := by
    cases dd with
    | none => exact h.sz
    | some d => show (Array.setIfInBounds _ _ _).size = _; rw [Array.size_setIfInBounds]; exact h.sz
  df := by
    cases dd with
    | none => exact h.df
    | some d => exact h.df
  sl j hj := by
    refine (gt_put_ne a dd v j (fun e => ?_)).trans (h.sl j hj)
    subst e
    have := List.contains_iff_mem.2 (List.mem_of_getElem? hp)
    rw [hj] at this
    exact absurd this (by decide)
  v k d hk hf := by
    by_cases e : k = i
    · subst e
      rw [hp] at hk
      obtain rfl := Option.some.inj hk
      have h1 := List.all_eq_true.1 hs _ (List.mem_of_getElem? hp)
      have h2 : d < a.tmps.size := by rw [h.sz]; simpa using h1
      rw [show gt (a.put (some d) v) d = v from gt_eq _ _ _ _ h2]
      exact hv d rfl
    · have hf' : f k = true := (upd_ne f e).symm.trans hf
      rw [gt_put_ne a dd v d (fun e1 => apart_ne hn hk (e1 ▸ hp) e rfl)]
      exact hper k d hk hf' (h.v k d hk hf')
  cl k r' hk hf q hq := by
    by_cases e2 : q = i
    · subst e2; exact upd_eq f q
    · rw [upd_ne f e2]
      by_cases e : k = i
      · subst e
        rw [hr] at hk
        obtain rfl := Option.some.inj hk
        exact hd q hq
      · exact h.cl k r' hk ((upd_ne f e).symm.trans hf) q hq
  j := hJ
/-- What is not done yet, is what needs a thing not done. -/
theorem FI.nf {Tl : List (List Nat × List Nat)} {D : List (Option Nat)} {Φ : Nat → Value → World → Prop} {J : (Nat → Bool) → World → Prop} {a0 a : Act} {f : Nat → Bool} {w : World} (h : FI Tl D Φ J a0 f a w) {i k : Nat} {r : List Nat × List Nat} (hf : f i = false) (hk : Tl[k]? = some r) (hi : r.1.contains i = true) : f k = false := by
  cases e : f k with
  | false => rfl
  | true =>
    have := h.cl k r hk e i (List.contains_iff_mem.1 hi)
    rw [hf] at this; exact absurd this (by decide)
theorem FI.nf2 {Tl : List (List Nat × List Nat)} {D : List (Option Nat)} {Φ : Nat → Value → World → Prop} {J : (Nat → Bool) → World → Prop} {a0 a : Act} {f : Nat → Bool} {w : World} (h : FI Tl D Φ J a0 f a w) {i k : Nat} (hf : f i = false) (hk : (match Tl[k]? with | some r => r.1.contains i | none => false) = true) : f k = false := by
  cases e : Tl[k]? with
  | none => rw [e] at hk; simp at hk
  | some r => rw [e] at hk; exact h.nf hf e hk
theorem fill_g (g : Nat → Value) : ∀ (l : List Nat) (t : Array Value) (j : Nat), (fill (l.map (fun d => (d, g d))) t)[j]?.getD undef = if j ∈ l ∧ j < t.size then g j else t[j]?.getD undef
  | [], t, j => by simp [fill]
  | d :: l, t, j => by
    rw [List.map_cons, fill, fill_g g l, Array.size_setIfInBounds]
    by_cases h : j ∈ l ∧ j < t.size
    · rw [if_pos h, if_pos ⟨List.mem_cons_of_mem _ h.1, h.2⟩]
    · rw [if_neg h]
      by_cases e : d = j
      · subst e
        by_cases hs : d < t.size
        · rw [if_pos ⟨List.mem_cons_self, hs⟩]; simp [hs]
        · rw [if_neg (fun q => hs q.2)]; simp [hs]
      · rw [if_neg (fun q => h ⟨(List.mem_cons.1 q.1).resolve_left (fun q => e q.symm), q.2⟩), Array.getElem?_setIfInBounds, if_neg e]
theorem FI.shape {Tl : List (List Nat × List Nat)} {D : List (Option Nat)} {Φ : Nat → Value → World → Prop} {J : (Nat → Bool) → World → Prop} {a0 a : Act} {f : Nat → Bool} {w : World} (h : FI Tl D Φ J a0 f a w) (E : List Nat) (hE : D.filterMap id = E) : a = ⟨fill (E.map (fun d => (d, gt a d))) a0.tmps, a0.defers⟩ := by
  have h1 := h.df
  have h2 := h.sz
  have h3 := h.sl
  obtain ⟨t, ds⟩ := a
  simp only at h1 h2
  subst h1
  congr 1
  apply Array.ext
  · rw [fill_size]; exact h2
  · intro j hj1 hj2
    have e1 : t[j]?.getD undef = (fill (E.map (fun d => (d, gt ⟨t, a0.defers⟩ d))) a0.tmps)[j]?.getD undef := by
      rw [fill_g]
      by_cases c : j ∈ E ∧ j < a0.tmps.size
      · rw [if_pos c]
      · rw [if_neg c]
        refine h3 j ?_
        cases e : D.contains (some j) with
        | false => rfl
        | true =>
          exfalso
          refine c ⟨?_, by rw [← h2]; exact hj1⟩
          rw [← hE, List.mem_filterMap]
          exact ⟨some j, List.contains_iff_mem.1 e, rfl⟩
    rw [Array.getElem?_eq_getElem hj1, Array.getElem?_eq_getElem hj2] at e1
    exact e1
end Go.Proofs.Ytlhbnbckanmaiaa.K
namespace Go.Proofs.Ytlhbnbckanmaiaa.K
open Go Go.RowKit Go.Proofs.YtlhbnbckanmaiaaW.PrintWords Go.Proofs.YtlhbnbckanmaiaaW.PrintLast Go.Proofs.YtlhbnbckanmaiaaW.PrintMore Go.Proofs.Ytlhbnbckanmaiaa.PC1
set_option linter.unusedVariables false
set_option linter.unusedSimpArgs false
structure FJ (Tl : List (List Nat × List Nat)) (D : List (Option Nat)) (Φ : Nat → Value → World → Prop) (J : (Nat → Bool) → (Nat → Value) → World → Prop) (a0 : Act) (f : Nat → Bool) (a : Act) (w : World) : Prop where
  fi : FI Tl D Φ (fun _ _ => True) a0 f a w
  j : J f (gt a) w
theorem gt_put_eq (a : Act) (d : Nat) (v : Value) (h : d < a.tmps.size) : gt (a.put (some d) v) d = v := gt_eq _ _ _ _ h
theorem wpAny_flow3 {ops : Array Oper} {Q : Exit → Act → World → Prop} {T : Bool × List (List Nat × List Nat)} {a1 : Act} {w1 : World} (hT : rtab .any ops = T)
    (hup : (List.range T.2.length).all (fun i => match T.2[i]? with | some r => r.1.all (fun j => decide (j < i)) | none => false) = true)
    (D : List (Option Nat)) (hD : ops.toList.map (fun o => o.dst) = D) (hn : apart D = true) (E : List Nat) (hE : D.filterMap id = E) (N : Nat) (hN : a1.tmps.size = N) (hs : D.all (fun d => match d with | some d => decide (d < N) | none => true) = true)
    (Φ : Nat → Value → World → Prop) (J : (Nat → Bool) → (Nat → Value) → World → Prop)
    (step : ∀ (i : Nat) (o : Oper) (dd : Option Nat) (r : List Nat × List Nat) (f : Nat → Bool) (a : Act) (w : World), ops[i]? = some o → D[i]? = some dd → T.2[i]? = some r → FJ T.2 D Φ J a1 f a w → a.tmps.size = N → f i = false → (∀ k ∈ r.1, f k = true) → ∀ K : Act → World → Prop,
      (∀ v w', (∀ d, dd = some d → Φ i v w') → (∀ k d, D[k]? = some (some d) → f k = true → Φ k (gt a d) w → Φ k (gt a d) w') → J (upd f i) (gt (a.put dd v)) w' → K (a.put dd v) w') → if Region.wanted o (yielded ops a.tmps) = true then o.wp Try.prog a w K Q else K (a.put o.dst undef) w)
    (fin : ∀ f (g : Nat → Value) w, (∀ i, i < ops.size → f i = true) → J f g w → (∀ i d, D[i]? = some (some d) → Φ i (g d) w) → Q .normal ⟨fill (E.map (fun d => (d, g d))) a1.tmps, a1.defers⟩ w) (hJ0 : ∀ f, (∀ j, f j = false) → J f (gt a1) w1) (fuel : Nat) (l : Array Bool) (hl : l.size = ops.size) (hu : unl l ≤ fuel) (hno : ∀ j, flag l j = false) : wpAny Try.prog .any ops Q fuel l a1 w1 := by
  subst hN
  refine wpAny_inv3 hT hup (fun a0 f a w => FJ T.2 D Φ J a0 f a w) ?_ ?_ fuel l hl hu ?_
  · intro f a w i o r hI ho hr hf hd K hK
    have hi := (Array.getElem?_eq_some_iff.1 ho).1
    have hdd : D[i]? = some o.dst := by rw [← hD, List.getElem?_map, Array.getElem?_toList, ho]; rfl
    refine step i o o.dst r f a w ho hdd hr hI hI.fi.sz hf (fun k hk => List.all_eq_true.1 hd k hk) K (fun v w' hv hper hJ => ?_)
    exact hK _ _ ⟨hI.fi.put hn hs i _ r hdd hr (fun k hk => List.all_eq_true.1 hd k hk) v hv hper trivial, hJ⟩
  · intro f a w hI hall
    rw [hI.fi.shape E hE]
    refine fin f (gt a) w hall hI.j (fun i d hd => hI.fi.v i d hd (hall i ?_))
    have h1 := (List.getElem?_eq_some_iff.1 hd).1
    rw [← hD, List.length_map, Array.length_toList] at h1
    exact h1
  · exact ⟨{ sz := rfl, df := rfl, sl := fun _ _ => rfl, v := fun i d _ hf => absurd (hf.symm.trans (hno i)) (by decide), cl := fun i r _ hf => absurd (hf.symm.trans (hno i)) (by decide), j := trivial }, hJ0 _ hno⟩
end Go.Proofs.Ytlhbnbckanmaiaa.K
namespace Go.Proofs.Ytlhbnbckanmaiaa.K
open Go Go.RowKit Go.Proofs.YtlhbnbckanmaiaaW.PrintWords Go.Proofs.YtlhbnbckanmaiaaW.PrintLast Go.Proofs.YtlhbnbckanmaiaaW.PrintMore Go.Proofs.Ytlhbnbckanmaiaa.PC1
set_option linter.unusedVariables false
set_option linter.unusedSimpArgs false
theorem below_al {w0 w : World} (h : Below w0.heap.size w0 w) (o : Obj) : Below w0.heap.size w0 (w.alloc o) := below_alloc h o
theorem C_one {α : Type} {d : Kd α} {w : World} {b : Nat} {cs : Array Value} {t : TypeId} {x : α} (h : w.heap[b]? = some (.cells cs t (0, 0))) (hK : d.K w x cs.toList) : Kd.C d w (some ⟨b, 0, none⟩) 1 [x] := by
  refine ⟨rfl, by omega, fun _ => ⟨_, rfl, ?_⟩⟩
  intro j p hp
  match j, hp with
  | 0, hp =>
    obtain rfl : x = p := by simpa using hp
    refine ⟨cs.toList, d.K_len hK, hK, fun i u hu => ?_⟩
    have := blk_cell h i
    rw [Array.getElem?_toList] at hu
    have e : (Addr.add ⟨b, 0, none⟩ (0 * d.sz + i)) = ⟨b, i, none⟩ := by simp [Addr.add]; omega
    rw [e, this, hu]
  | j + 1, hp => simp at hp
theorem C_two {α : Type} {d : Kd α} {w : World} {b : Nat} {cs : Array Value} {t : TypeId} {x y : α} {c1 c2 : List Value} (h : w.heap[b]? = some (.cells cs t (0, 0))) (h1 : d.K w x c1) (h2 : d.K w y c2) (e : cs.toList = c1 ++ c2) : Kd.C d w (some ⟨b, 0, none⟩) 2 [x, y] := by
  refine ⟨rfl, by omega, fun _ => ⟨_, rfl, ?_⟩⟩
  intro j p hp
  have l1 := d.K_len h1
  match j, hp with
  | 0, hp =>
    obtain rfl : x = p := by simpa using hp
    refine ⟨c1, l1, h1, fun i u hu => ?_⟩
    have := blk_cell h i
    rw [← Array.getElem?_toList, e] at this
    have e2 : (Addr.add ⟨b, 0, none⟩ (0 * d.sz + i)) = ⟨b, i, none⟩ := by simp [Addr.add]; omega
    have hi : i < c1.length := (List.getElem?_eq_some_iff.1 hu).1
    rw [e2, this, List.getElem?_append_left hi, hu]
  | 1, hp =>
    obtain rfl : y = p := by simpa using hp
    refine ⟨c2, d.K_len h2, h2, fun i u hu => ?_⟩
    have := blk_cell h (d.sz + i)
    rw [← Array.getElem?_toList, e] at this
    have e2 : (Addr.add ⟨b, 0, none⟩ (1 * d.sz + i)) = ⟨b, d.sz + i, none⟩ := by simp [Addr.add]; omega
    rw [e2, this, List.getElem?_append_right (by omega), ← l1, Nat.add_sub_cancel_left, hu]
  | j + 2, hp => simp at hp
theorem slice_K {α : Type} {e : Nat} {d : Kd α} {w : World} {A : Option Addr} {xs : List α} {c : Nat} (hl : xs.length ≤ c) (h : Kd.C d w A xs.length xs) : (Kd.slice e d).K w xs [.slice A xs.length c] := ⟨A, c, rfl, hl, h⟩
theorem kStmt_plain (w : World) (k m : Int) (r l : ByteArray) : kStmt.K w ⟨k, m, r, l, [], [], []⟩ [.int .i64 k, .int .i64 m, .string r, .string l, .slice none 0 0, .slice none 0 0, .slice none 0 0] :=
  k55_mk w ⟨k, m, r, l, [], [], []⟩ (Nat.le_refl 0) (Kd.C_nil _ _) (Nat.le_refl 0) (Kd.C_nil _ _) (Nat.le_refl 0) (Kd.C_nil _ _)
theorem kCell_plain (w : World) (r : ByteArray) (n : Int) : kCell.K w ⟨r, n⟩ [.string r, .int .i64 n] := k51_mk w ⟨r, n⟩
end Go.Proofs.Ytlhbnbckanmaiaa.K
namespace Go.Proofs.Ytlhbnbckanmaiaa.K
open Go Go.RowKit Go.Proofs.YtlhbnbckanmaiaaW.PrintWords Go.Proofs.YtlhbnbckanmaiaaW.PrintLast Go.Proofs.YtlhbnbckanmaiaaW.PrintMore Go.Proofs.Ytlhbnbckanmaiaa.PC1
set_option linter.unusedVariables false
set_option linter.unusedSimpArgs false
def bSt1 : TStmt := ⟨2, 0, ⟨#[114]⟩, ⟨#[120]⟩, [], [], []⟩
def bSt0 : TStmt := ⟨6, 4, ⟨#[]⟩, ⟨#[]⟩, [], [], []⟩
def bP1 (A B : Option Addr) : AP := ⟨⟨#[97]⟩, 2, A, 1, [⟨⟨#[120]⟩, 0⟩], B, 1, [[bSt1]], 1, 2, 0, ⟨#[114]⟩, 1, none, 0, []⟩
def bP2 (B : Option Addr) : AP := ⟨⟨#[97]⟩, 2, none, 0, [], B, 1, [[bSt0, bSt1]], 0, 0, 0, ⟨#[]⟩, 0, none, 0, []⟩
theorem bP1_may (A B : Option Addr) : mayE (bP1 A B) = 0 ∧ mayN (bP1 A B) = 0 := ⟨by kernel_rfl, by kernel_rfl⟩
theorem bP2_may (B : Option Addr) : mayE (bP2 B) = 4 ∧ mayN (bP2 B) = 2 := ⟨by kernel_rfl, by kernel_rfl⟩
theorem bP1_sm (A B : Option Addr) : (bP1 A B).sm := ⟨fun l hl => by
  obtain rfl : l = [bSt1] := by simpa [bP1] using hl
  exact ⟨by simp [smSs, bSt1, smS, smEs]; decide, by decide, by decide⟩, by simp [bP1, smCs]⟩
theorem bP2_sm (B : Option Addr) : (bP2 B).sm := ⟨fun l hl => by
  obtain rfl : l = [bSt0, bSt1] := by simpa [bP2] using hl
  exact ⟨by simp [smSs, bSt0, bSt1, smS, smEs]; decide, by decide, by decide⟩, by simp [bP2, smCs]⟩
theorem bP1_dat {w : World} {a b c : Nat} (h1 : w.heap[a]? = some (.cells #[.string ⟨#[120]⟩, .int .i64 0] 51 (0, 0)))
    (h2 : w.heap[b]? = some (.cells #[.int .i64 2, .int .i64 0, .string ⟨#[114]⟩, .string ⟨#[120]⟩, .slice none 0 0, .slice none 0 0, .slice none 0 0] 55 (0, 0)))
    (h3 : w.heap[c]? = some (.cells #[.slice (some ⟨b, 0, none⟩) 1 1] 35 (0, 0))) : (bP1 (some ⟨a, 0, none⟩) (some ⟨c, 0, none⟩)).dat w ∧ Kd.C kStmt w (some ⟨b, 0, none⟩) 1 [bSt1] := by
  have hC : Kd.C kStmt w (some ⟨b, 0, none⟩) 1 [bSt1] := C_one h2 (kStmt_plain w 2 0 _ _)
  exact ⟨⟨C_one h1 (kCell_plain w _ _), Nat.le_of_ble_eq_true rfl, C_one h3 (slice_K (e := 55) (d := kStmt) (xs := [bSt1]) (by decide) hC), Nat.le_of_ble_eq_true rfl, Kd.C_nil _ _, Nat.le_of_ble_eq_true rfl, Nat.le_of_ble_eq_true rfl, Nat.le_of_ble_eq_true rfl, Nat.le_of_ble_eq_true rfl, fun x hx => by
    obtain rfl : x = ⟨⟨#[120]⟩, 0⟩ := by simpa [bP1] using hx
    decide⟩, hC⟩
theorem bP2_dat {w : World} {b c : Nat}
    (h2 : w.heap[b]? = some (.cells #[.int .i64 6, .int .i64 4, .string ⟨#[]⟩, .string ⟨#[]⟩, .slice none 0 0, .slice none 0 0, .slice none 0 0, .int .i64 2, .int .i64 0, .string ⟨#[114]⟩, .string ⟨#[120]⟩, .slice none 0 0, .slice none 0 0, .slice none 0 0] 55 (0, 0)))
    (h3 : w.heap[c]? = some (.cells #[.slice (some ⟨b, 0, none⟩) 2 2] 35 (0, 0))) : (bP2 (some ⟨c, 0, none⟩)).dat w := by
  have hC : Kd.C kStmt w (some ⟨b, 0, none⟩) 2 [bSt0, bSt1] := C_two h2 (kStmt_plain w 6 4 _ _) (kStmt_plain w 2 0 _ _) rfl
  exact ⟨Kd.C_nil _ _, Nat.le_of_ble_eq_true rfl, C_one h3 (slice_K (e := 55) (d := kStmt) (xs := [bSt0, bSt1]) (by decide) hC), Nat.le_of_ble_eq_true rfl, Kd.C_nil _ _, Nat.le_of_ble_eq_true rfl, Nat.le_of_ble_eq_true rfl, Nat.le_of_ble_eq_true rfl, Nat.le_of_ble_eq_true rfl, fun x hx => by simp [bP2] at hx⟩
set_option maxHeartbeats 4000000 in
theorem begun_any (W : World) : Calls Try.prog 9 #[] W fun r W' => r = .returned (.bool true) ∧ Below W.heap.size W W' := by
  go_enter Try.func9, Try.ntmps9
  go_wp2_with fail
  generalize hW4 : World.alloc _ _ = W4
  have h0 : W4.heap[W.heap.size]? = some (.cells #[.string ⟨#[120]⟩, .int .i64 0] 51 (0, 0)) := by
    rw [← hW4]; exact blk_alloc (blk_alloc (blk_alloc (blk_new _ _) _) _) _
  have h1 : W4.heap[W.heap.size + 1]? = some (.cells #[.int .i64 2, .int .i64 0, .string ⟨#[114]⟩, .string ⟨#[120]⟩, .slice none 0 0, .slice none 0 0, .slice none 0 0] 55 (0, 0)) := by
    rw [← hW4]; exact blk_alloc (blk_alloc (alloc_at _ _ _ (by simp)) _) _
  have h2 : W4.heap[W.heap.size + 1 + 1]? = some (.cells #[.slice (some ⟨W.heap.size + 1, 0, none⟩) 1 1] 35 (0, 0)) := by
    rw [← hW4]; exact blk_alloc (alloc_at _ _ _ (by simp)) _
  have h3 : W4.heap[W.heap.size + 1 + 1 + 1]? = some (.cells #[.string ⟨#[97]⟩, .int .i64 2, .slice (some ⟨W.heap.size, 0, none⟩) 1 1, .slice (some ⟨W.heap.size + 1 + 1, 0, none⟩) 1 1, .int .i64 1, .int .i64 2, .int .i64 0, .string ⟨#[114]⟩, .int .i64 1, .slice none 0 0] 28 (0, 0)) := by
    rw [← hW4]; exact alloc_at _ _ _ (by simp)
  have hb : Below W.heap.size W W4 := by rw [← hW4]; exact below_al (below_al (below_al (below_al (Below.refl _ _) _) _) _) _
  clear hW4
  have hD := bP1_dat h0 h1 h2
  refine (may_any W4 (bP1 (some ⟨W.heap.size, 0, none⟩) (some ⟨W.heap.size + 1 + 1, 0, none⟩)) hD.1 (bP1_sm _ _) (Nat.le_of_ble_eq_true rfl)).mono ?_
  rintro r w5 ⟨rfl, hb5⟩
  rw [(bP1_may _ _).1, (bP1_may _ _).2]
  have HB5 := Aside0.mk (below_step hb hb5)
  have HC5 := Aside0.mk (Kd.C_below hD.2 hb5)
  have k2 := blk_below h2 hb5
  have k3 := blk_below h3 hb5
  clear h0 h1 h2 h3 hD hb hb5
  go_wp2_with fail
  generalize hW6 : World.alloc _ _ = W6
  have h4 : W6.heap[w5.heap.size]? = some (.cells #[.int .i64 6, .int .i64 4, .string ⟨#[]⟩, .string ⟨#[]⟩, .slice none 0 0, .slice none 0 0, .slice none 0 0, .int .i64 2, .int .i64 0, .string ⟨#[114]⟩, .string ⟨#[120]⟩, .slice none 0 0, .slice none 0 0, .slice none 0 0] 55 (0, 0)) := by
    rw [← hW6]; exact blk_alloc (blk_new _ _) _
  have h5 : W6.heap[w5.heap.size + 1]? = some (.cells #[.slice (some ⟨w5.heap.size, 0, none⟩) 2 2] 35 (0, 0)) := by
    rw [← hW6]; exact alloc_at _ _ _ (by simp)
  have hb : Below w5.heap.size w5 W6 := by rw [← hW6]; exact below_al (below_al (Below.refl _ _) _) _
  clear hW6
  have hD := bP2_dat h4 h5
  refine (may_any W6 (bP2 (some ⟨w5.heap.size + 1, 0, none⟩)) hD (bP2_sm _) (Nat.le_of_ble_eq_true rfl)).mono ?_
  rintro r w7 ⟨rfl, hb7⟩
  rw [(bP2_may _).1, (bP2_may _).2]
  have hb57 := below_step hb hb7
  have HB7 := Aside0.mk (below_step HB5.out hb57)
  have HC7 := Aside0.mk (Kd.C_below HC5.out hb57)
  have q2 := blk_below k2 hb57
  have q3 := blk_below k3 hb57
  have d2 := blk_cell q2 0
  have d3 := blk_cell q3 3
  clear k2 k3 h4 h5 hD hb hb7 hb57 HB5 HC5
  go_wp2_with fail
  refine (regs_any w7 [bSt1] _ _ HC7.out (by simp [smSs, bSt1, smS, smEs]; decide) (by decide) (by decide)).mono ?_
  rintro r w8 ⟨A, c, hr, hlc, hC8, hb8⟩
  have hrl : regsL [] [bSt1] = [⟨#[114]⟩] := by kernel_rfl
  rw [hrl] at hr hlc hC8
  subst hr
  have HB8 := Aside0.mk (below_step HB7.out hb8)
  have HC8 := Aside0.mk (Kd.C_below HC7.out hb8)
  obtain ⟨ad, cc, rfl, -, hK8, hc8⟩ := Kd.C_get hC8 (⟨#[]⟩ : ByteArray) 0 (by decide) (by decide)
  obtain rfl : cc = [.string ⟨#[114]⟩] := hK8
  have d8 : w8.cell? (ad.add 0) = some (.string ⟨#[114]⟩) := hc8 0 _ rfl
  have d9 : w8.cell? ad = some (.string ⟨#[114]⟩) := hc8 0 _ rfl
  have q2' := blk_below q2 hb8
  have q3' := blk_below q3 hb8
  have d2' := blk_cell q2' 0
  have d3' := blk_cell q3' 3
  have hlc1 : 1 ≤ c := hlc
  clear q2 q3 d2 d3 hC8 hc8 hb8 HB7 HC7 hrl
  go_wp2_with fail
  refine (stmts_any w8 [bSt1] _ _ HC8.out (by simp [smSs, bSt1, smS, smEs]; decide) (by decide) (by decide)).mono ?_
  rintro r w9 ⟨hr, hb9⟩
  rw [show cntL [bSt1] = 1 from by kernel_rfl] at hr
  subst hr
  have HB9 := Aside0.mk (below_step HB8.out hb9)
  clear hb9 HB8 q2' q3' d2' d3' d8 d9
  go_wp2
  go_ret
  exact ⟨rfl, HB9.out⟩
end Go.Proofs.Ytlhbnbckanmaiaa.K
