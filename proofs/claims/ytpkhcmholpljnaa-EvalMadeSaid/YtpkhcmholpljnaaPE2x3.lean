/- A text of a claim: it proves what its last theorem states, for every input that the given row speaks of; conditions of ours: none. Written by this claim's own program (wip/tools/xprint.py) over the kit's printer. -/
import Derived.Test.YtpkhcmholpljnaaPE2x0
import Derived.Test.YtpkhcmholpljnaaPE2x1
import Derived.Test.YtpkhcmholpljnaaPE2x2
namespace Go.Proofs.Ytpkhcmholpljnaa.PE2
open Go.RowKit Go.Proofs.YtpkhcmholpljnaaW.PrintWords Go.Proofs.YtpkhcmholpljnaaW.PrintLast Go.Proofs.YtpkhcmholpljnaaW.PrintMore
attribute [local go_sem] max2_int min2_int max_two min_two max_three min_three max_four min_four   -- for this text's walks alone
set_option linter.unusedVariables false
set_option linter.unusedSimpArgs false

/-! a register's place -/
def ix (x : ByteArray) : List ByteArray → Int → Int
  | [], _ => -1
  | y :: l, i => if x.toList = y.toList then i else ix x l (i + 1)
theorem ix_range (x : ByteArray) (l : List ByteArray) : ∀ i : Int, 0 ≤ i → ix x l i = -1 ∨ (i ≤ ix x l i ∧ ix x l i < i + l.length) := by
  induction l with
  | nil => intro i _; exact .inl rfl
  | cons y l ih =>
    intro i h0
    unfold ix
    split
    · right; simp; omega
    · rcases ih (i + 1) (by omega) with h | h
      · exact .inl h
      · right; simp; omega
theorem rd_drop {α : Type} (d : α) (l : List α) (j : Nat) (h : j < l.length) : l.drop j = rdOf d l (j : Int) :: l.drop (j + 1) := by
  have e : rdOf d l (j : Int) = l[j] := by
    unfold rdOf
    rw [Int.toNat_natCast, List.getD_eq_getElem?_getD, List.getElem?_eq_getElem h]; rfl
  rw [e]; exact List.drop_eq_getElem_cons h
/-! an expression that is not great: so many levels at most -/
def Good : Nat → S34 → Prop
  | 0, _ => False
  | f + 1, e => e.f3.length ≤ 20 ∧ ∀ i : Nat, i < e.f3.length → Good f (rd_T34 e.f3 i)

/-! how many are within one another, as the document asks it -/
def mxK (g : Nat → Nat) : Nat → Nat
  | 0 => 0
  | n + 1 => max (mxK g n) (g n)
theorem mxK_le (g : Nat → Nat) (b : Nat) (n : Nat) (h : ∀ i, i < n → g i ≤ b) : mxK g n ≤ b := by
  induction n with
  | zero => exact Nat.zero_le _
  | succ n ih =>
    unfold mxK
    have h1 := ih (fun i hi => h i (by omega))
    have h2 := h n (by omega)
    omega
def askN : Nat → S34 → Nat
  | 0, _ => 0
  | f + 1, e => if e.f0 = 1 then 1 else if e.f0 = 2 then 1 else 1 + mxK (fun i => askN f (rd_T34 e.f3 i)) e.f3.length
theorem askN_le (f : Nat) : ∀ e, askN f e ≤ f := by
  induction f with
  | zero => intro e; exact Nat.le_refl _
  | succ f ih =>
    intro e
    unfold askN
    split
    · omega
    · split
      · omega
      · have := mxK_le (fun i => askN f (rd_T34 e.f3 i)) f e.f3.length (fun i _ => ih _)
        omega
theorem askN_pos (f : Nat) (e : S34) : 1 ≤ askN (f + 1) e := by
  unfold askN
  split
  · omega
  · split <;> omega

/-! what an expression comes to -/
def opv (o a b n : Int) : Int := if o = 3 then inn (a + b) n else if o = 4 then inn (a - b) n else if o = 5 then (if a = b then 1 else 0) else (if a < b then 1 else 0)
def valN (regs : List ByteArray) (vals : List Int) (n : Int) : Nat → S34 → Int × Bool
  | 0, _ => (0, false)
  | f + 1, e =>
    if e.f0 = 1 then (inn e.f1 n, true)
    else if e.f0 = 2 then (if ix e.f2 regs 0 < 0 then (0, false) else (inn (rd vals (ix e.f2 regs 0)) n, true))
    else if e.f0 < 3 ∨ e.f0 > 6 ∨ e.f3.length ≠ 2 then (0, false)
    else if (valN regs vals n f (rd_T34 e.f3 0)).2 = true ∧ (valN regs vals n f (rd_T34 e.f3 1)).2 = true then (opv e.f0 (valN regs vals n f (rd_T34 e.f3 0)).1 (valN regs vals n f (rd_T34 e.f3 1)).1 n, true) else (0, false)
theorem opv_range (o a b n : Int) (hn : 2 ≤ n) : 0 ≤ opv o a b n ∧ opv o a b n < n := by
  unfold opv
  have h1 := inn_lo (a + b) n
  have h2 := inn_lt (a + b) n (by omega)
  have h3 := inn_lo (a - b) n
  have h4 := inn_lt (a - b) n (by omega)
  repeat' split
  all_goals omega
theorem valN_range (regs : List ByteArray) (vals : List Int) (n : Int) (hn : 2 ≤ n) (f : Nat) (e : S34) : 0 ≤ (valN regs vals n f e).1 ∧ (valN regs vals n f e).1 < n ∧ ((valN regs vals n f e).2 = false → (valN regs vals n f e).1 = 0) := by
  cases f with
  | zero => exact ⟨Int.le_refl _, by show (0 : Int) < n; omega, fun _ => rfl⟩
  | succ f =>
    have i1 := inn_lo e.f1 n
    have i2 := inn_lt e.f1 n (by omega)
    have i3 := inn_lo (rd vals (ix e.f2 regs 0)) n
    have i4 := inn_lt (rd vals (ix e.f2 regs 0)) n (by omega)
    have o := opv_range e.f0 (valN regs vals n f (rd_T34 e.f3 0)).1 (valN regs vals n f (rd_T34 e.f3 1)).1 n hn
    unfold valN
    split
    · exact ⟨i1, i2, fun h => by simp at h⟩
    · split
      · split
        · exact ⟨Int.le_refl _, by show (0 : Int) < n; omega, fun _ => rfl⟩
        · exact ⟨i3, i4, fun h => by simp at h⟩
      · split
        · exact ⟨Int.le_refl _, by show (0 : Int) < n; omega, fun _ => rfl⟩
        · split
          · exact ⟨o.1, o.2, fun h => by simp at h⟩
          · exact ⟨Int.le_refl _, by show (0 : Int) < n; omega, fun _ => rfl⟩

/-- What Expr comes to. -/
def exprR (regs : List ByteArray) (vals : List Int) (n : Int) (f : Nat) (e : S34) : Int × Bool :=
  if n < 2 then (0, false) else if n > 4 then (0, false) else if regs.length = vals.length then (if askN f e > 6 then (0, false) else valN regs vals n f e) else (0, false)
theorem exprR_zero (regs : List ByteArray) (vals : List Int) (n : Int) (f : Nat) (e : S34) : (exprR regs vals n f e).2 = false → (exprR regs vals n f e).1 = 0 := by
  unfold exprR
  by_cases h2 : n < 2
  · rw [if_pos h2]; exact fun _ => rfl
  · rw [if_neg h2]
    by_cases h4 : n > 4
    · rw [if_pos h4]; exact fun _ => rfl
    · rw [if_neg h4]
      split
      · split
        · exact fun _ => rfl
        · exact (valN_range regs vals n (by omega) f e).2.2
      · exact fun _ => rfl
theorem inn_id (a n : Int) (h0 : 0 ≤ a) (h1 : a < n) (h2 : n ≤ 4) : inn a n = a := by
  rw [inn_eq a n (by omega) (by omega)]; exact Int.emod_eq_of_lt h0 h1

theorem ite_range (c : Prop) [Decidable c] (p : Int × Bool) (n : Int) (hn : 2 ≤ n) (h : 0 ≤ p.1 ∧ p.1 < n) : 0 ≤ (if c then p else (0, false)).1 ∧ (if c then p else (0, false)).1 < n := by
  split
  · exact h
  · exact ⟨Int.le_refl _, by show (0 : Int) < n; omega⟩

/-! ### eval_Expr: function 24 -/
def eval_Expr.f (k : Nat) (a0_0 : Int) (a0_1 : Int) (a0_2 : ByteArray) (l0_3 : List (S34)) (l1 : List ByteArray) (l2 : List Int) (a3 : Int) : Option (Int × Bool) := if a3 < 2 then (some (0, false)) else (if a3 > 4 then (some (0, false)) else (if (l1.length : Int) = (l2.length : Int) then ((eval_place_of.f k l1 l2 a3 a0_0 a0_1 a0_2 l0_3 0).bind fun bt128 => (some (bt128.1, bt128.2))) else (some (0, false))))
theorem eval_Expr.mono : ∀ a0 a1 a2 a3 a4 a5 a6 k, LeO (eval_Expr.f k a0 a1 a2 a3 a4 a5 a6) (eval_Expr.f (k + 1) a0 a1 a2 a3 a4 a5 a6) := by
  intro a0 a1 a2 a3 a4 a5 a6 k
  unfold eval_Expr.f
  repeat' first
      | (with_reducible exact eval_place_of.mono _ _ _ _ _ _ _ _ _)
      | (with_reducible exact LeO.refl _)
      | (with_reducible exact LeO.none _)
      | (with_reducible refine LeO.ite ?_ ?_)
      | (with_reducible refine LeO.bind ?_ (fun _ => ?_))
      | exact eval_place_of.mono _ _ _ _ _ _ _ _ _
      | exact LeO.none _
      | refine LeO.ite ?_ ?_
      | refine LeO.bind ?_ (fun _ => ?_)
set_option maxHeartbeats 8000000 in
set_option maxRecDepth 100000 in
theorem eval_Expr.calls (k : Nat) (a0_0 : Int) (a0_1 : Int) (a0_2 : ByteArray) (A0_3 : Option Addr) (c0_3 : Nat) (l0_3 : List (S34)) (A1 : Option Addr) (c1 : Nat) (l1 : List ByteArray) (A2 : Option Addr) (c2 : Nat) (l2 : List Int) (a3 : Int) (r1 : Int) (r2 : Bool) (w : World) (hr0_3 : Kd.C k34 w A0_3 l0_3.length l0_3) (hc0_3 : l0_3.length ≤ c0_3) (hr1 : Kd.C Kd.string w A1 l1.length l1) (hc1 : l1.length ≤ c1) (hr2 : Kd.C (Kd.int .i64) w A2 l2.length l2) (hc2 : l2.length ≤ c2) (h : eval_Expr.f k a0_0 a0_1 a0_2 l0_3 l1 l2 a3 = some (r1, r2)) :
    Calls Try.prog 24 #[.agg #[.int .i64 a0_0, .int .i64 a0_1, .string a0_2, .slice A0_3 l0_3.length c0_3], .slice A1 l1.length c1, .slice A2 l2.length c2, .int .i64 a3] w fun e w' => e = .returned (.tuple #[.int .i64 r1, .bool r2]) ∧ Below w.heap.size w w' := by
  have hu34 := Try.underlying34
  have hu56 := Try.underlying56
  have HR0_3 := Aside0.mk hr0_3
  have HC0_3 := Aside0.mk hc0_3
  clear hr0_3 hc0_3
  have HR1 := Aside0.mk hr1
  have HC1 := Aside0.mk hc1
  clear hr1 hc1
  have HR2 := Aside0.mk hr2
  have HC2 := Aside0.mk hc2
  clear hr2 hc2
  have HB := Aside0.mk (Below.refl w.heap.size w)
  have H : (if a3 < 2 then (some (0, false)) else (if a3 > 4 then (some (0, false)) else (if (l1.length : Int) = (l2.length : Int) then ((eval_place_of.f k l1 l2 a3 a0_0 a0_1 a0_2 l0_3 0).bind fun bt128 => (some (bt128.1, bt128.2))) else (some (0, false))))) = some (r1, r2) := h
  clear h
  by_cases c5 : a3 < 2
  · rw [if_pos c5] at H
    have c5b0 : decide (a3 < 2) = true := decide_eq_true c5
    clear c5
    simp only [Option.some.injEq, Prod.mk.injEq] at H
    obtain ⟨rfl, rfl⟩ := H
    go_enter Try.func24, Try.ntmps24
    go_wp2_with (first | ((with_reducible refine gate_dst (N := 4) rfl ?_); (try (refine gate_guard (by rfl) ?_; dsimp only)); refine box_event ?hg (N := 4) ?hd (cs := #[.int .i64 a0_0, .int .i64 a0_1, .string a0_2, .slice A0_3 l0_3.length c0_3]) (t := 34) ?hr ?_; (case hd => rfl); (case hg => rfl); (case hr => first | (go_simp; done) | (go_simp; rfl)); intro gb127 hg w6 hbox hb; have n0_ := Aside0.mk (below_step (by repeat (first | (with_reducible first | exact HB.out | apply below_alloc | apply pw_below_drewN | apply below_drew1) | exact HB.out)) hb); have n1_ := Aside0.mk (hbox); have n2_ := Aside0.mk ((by rw [hg]; exact (below_size (by repeat (first | (with_reducible first | exact HB.out | apply below_alloc | apply pw_below_drewN | apply below_drew1) | exact HB.out))) : w.heap.size ≤ gb127)); have n3_ := Aside0.mk ((by rw [hg]; exact (below_size (by repeat (first | (with_reducible first | exact HB.out | apply below_alloc | apply pw_below_drewN | apply below_drew1) | exact HB.out))) : w.heap.size ≤ gb127)); clear HB; have HB := n0_; have BK127 := n1_; have GW127 := n2_; have GE127 := n3_; clear n0_ n1_ n2_ n3_; clear hb hbox hg))
    go_ret2
    exact ⟨by first | rfl | (simp [errW_none, errW_some] <;> rfl) | (simp [*, errW_none, errW_some] <;> rfl), by repeat (first | (with_reducible first | exact HB.out | apply below_alloc | apply pw_below_drewN | apply below_drew1 | refine below_set ?_ GE127.out) | exact HB.out)⟩
  · rw [if_neg c5] at H
    have c5b0 : decide (a3 < 2) = false := decide_eq_false c5
    clear c5
    by_cases c7 : a3 > 4
    · rw [if_pos c7] at H
      have c7b0 : decide (4 < a3) = true := decide_eq_true c7
      clear c7
      simp only [Option.some.injEq, Prod.mk.injEq] at H
      obtain ⟨rfl, rfl⟩ := H
      go_enter Try.func24, Try.ntmps24
      go_wp2_with (first | ((with_reducible refine gate_dst (N := 4) rfl ?_); (try (refine gate_guard (by rfl) ?_; dsimp only)); refine box_event ?hg (N := 4) ?hd (cs := #[.int .i64 a0_0, .int .i64 a0_1, .string a0_2, .slice A0_3 l0_3.length c0_3]) (t := 34) ?hr ?_; (case hd => rfl); (case hg => rfl); (case hr => first | (go_simp; done) | (go_simp; rfl)); intro gb127 hg w8 hbox hb; have n0_ := Aside0.mk (below_step (by repeat (first | (with_reducible first | exact HB.out | apply below_alloc | apply pw_below_drewN | apply below_drew1) | exact HB.out)) hb); have n1_ := Aside0.mk (hbox); have n2_ := Aside0.mk ((by rw [hg]; exact (below_size (by repeat (first | (with_reducible first | exact HB.out | apply below_alloc | apply pw_below_drewN | apply below_drew1) | exact HB.out))) : w.heap.size ≤ gb127)); have n3_ := Aside0.mk ((by rw [hg]; exact (below_size (by repeat (first | (with_reducible first | exact HB.out | apply below_alloc | apply pw_below_drewN | apply below_drew1) | exact HB.out))) : w.heap.size ≤ gb127)); clear HB; have HB := n0_; have BK127 := n1_; have GW127 := n2_; have GE127 := n3_; clear n0_ n1_ n2_ n3_; clear hb hbox hg))
      go_ret2
      exact ⟨by first | rfl | (simp [errW_none, errW_some] <;> rfl) | (simp [*, errW_none, errW_some] <;> rfl), by repeat (first | (with_reducible first | exact HB.out | apply below_alloc | apply pw_below_drewN | apply below_drew1 | refine below_set ?_ GE127.out) | exact HB.out)⟩
    · rw [if_neg c7] at H
      have c7b0 : decide (4 < a3) = false := decide_eq_false c7
      clear c7
      by_cases c9 : (l1.length : Int) = (l2.length : Int)
      · rw [if_pos c9] at H
        have c9b0 : ((l1.length : Int) == (l2.length : Int)) = true := beq_iff_eq.mpr c9
        have c9b1 : ((l1.length : Int) != (l2.length : Int)) = false := bne_eq_false_iff_eq.mpr c9
        have c9b2 : (l1.length == l2.length) = true := by first | simpa using c9 | (simp at c9 ⊢; omega)
        clear c9
        replace H := Option.bind_eq_some_iff.mp H
        obtain ⟨⟨t128, t129⟩, A100, H⟩ := H
        replace H : (some (t128, t129)) = some (r1, r2) := H
        have A10 := Aside0.mk A100
        clear A100
        simp only [Option.some.injEq, Prod.mk.injEq] at H
        obtain ⟨rfl, rfl⟩ := H
        go_enter Try.func24, Try.ntmps24
        go_wp2_with (first | ((with_reducible refine gate_dst (N := 4) rfl ?_); (try (refine gate_guard (by rfl) ?_; dsimp only)); refine box_event ?hg (N := 4) ?hd (cs := #[.int .i64 a0_0, .int .i64 a0_1, .string a0_2, .slice A0_3 l0_3.length c0_3]) (t := 34) ?hr ?_; (case hd => rfl); (case hg => rfl); (case hr => first | (go_simp; done) | (go_simp; rfl)); intro gb127 hg w11 hbox hb; have n0_ := Aside0.mk (below_step (by repeat (first | (with_reducible first | exact HB.out | apply below_alloc | apply pw_below_drewN | apply below_drew1) | exact HB.out)) hb); have n1_ := Aside0.mk (hbox); have n2_ := Aside0.mk ((by rw [hg]; exact (below_size (by repeat (first | (with_reducible first | exact HB.out | apply below_alloc | apply pw_below_drewN | apply below_drew1) | exact HB.out))) : w.heap.size ≤ gb127)); have n3_ := Aside0.mk ((by rw [hg]; exact (below_size (by repeat (first | (with_reducible first | exact HB.out | apply below_alloc | apply pw_below_drewN | apply below_drew1) | exact HB.out))) : w.heap.size ≤ gb127)); clear HB; have HB := n0_; have BK127 := n1_; have GW127 := n2_; have GE127 := n3_; clear n0_ n1_ n2_ n3_; clear hb hbox hg; have hcz12_0 : w11.cell? ⟨gb127, 0, none⟩ = some (.int .i64 a0_0) := (blk_cell BK127.out 0).trans rfl; have hcz12_1 : w11.cell? ⟨gb127, 1, none⟩ = some (.int .i64 a0_1) := (blk_cell BK127.out 1).trans rfl; have hcz12_2 : w11.cell? ⟨gb127, 2, none⟩ = some (.string a0_2) := (blk_cell BK127.out 2).trans rfl; have hcz12_3 : w11.cell? ⟨gb127, 3, none⟩ = some (.slice A0_3 l0_3.length c0_3) := (blk_cell BK127.out 3).trans rfl; have hfz12_0 := blk_frozen BK127.out 0; have hfz12_1 := blk_frozen BK127.out 1; have hfz12_2 := blk_frozen BK127.out 2; have hfz12_3 := blk_frozen BK127.out 3) | ((with_reducible refine gate_callee (f := 37) rfl ?_); refine goesL_ (some 28) rfl rfl Try.func37 (by kernel_rfl) rfl #[.agg #[.slice A1 l1.length c1, .slice A2 l2.length c2, .int .i64 a3], .agg #[.int .i64 a0_0, .int .i64 a0_1, .string a0_2, .slice A0_3 l0_3.length c0_3], .int .i64 0] rfl (by (try simp only [List.map_toArray, List.map_cons, List.map_nil]); first | done | rfl | (simp only [List.length_drop, List.length_take]; rfl)) ?_; (with_reducible refine (eval_place_of.calls k _ _ l1 _ _ l2 a3 a0_0 a0_1 a0_2 _ _ l0_3 0 t128 t129 _ ?side1 ?side2 ?side3 ?side4 ?side5 ?side6 A10.out).mono ?_); (case side1 => repeat (first | exact (Kd.C_below HR1.out HB.out) | (with_reducible refine Kd.C_alloc ?_ _) | (with_reducible refine Kd.C_drewN ?_ _) | (with_reducible refine Kd.C_drew ?_))); (case side2 => exact HC1.out); (case side3 => repeat (first | exact (Kd.C_below HR2.out HB.out) | (with_reducible refine Kd.C_alloc ?_ _) | (with_reducible refine Kd.C_drewN ?_ _) | (with_reducible refine Kd.C_drew ?_))); (case side4 => exact HC2.out); (case side5 => repeat (first | exact (Kd.C_below HR0_3.out HB.out) | (with_reducible refine Kd.C_alloc ?_ _) | (with_reducible refine Kd.C_drewN ?_ _) | (with_reducible refine Kd.C_drew ?_))); (case side6 => exact HC0_3.out); rintro e w13 ⟨rfl, hb⟩; refine ⟨_, rfl, ?_⟩; have n0_ := Aside0.mk (blk_below (g := gb127) (o := .cells #[.int .i64 a0_0, .int .i64 a0_1, .string a0_2, .slice A0_3 l0_3.length c0_3] 34 (0, 0)) (by (with_reducible repeat (first | refine blk_drewN ?_ _ | refine blk_drew ?_ | refine blk_alloc ?_ _)); exact BK127.out) hb); have n1_ := Aside0.mk (below_step (by repeat (first | (with_reducible first | exact HB.out | apply below_alloc | apply pw_below_drewN | apply below_drew1 | refine below_set ?_ GE127.out) | exact HB.out)) hb); clear BK127; clear HB; have BK127 := n0_; have HB := n1_; clear n0_ n1_; (try clear hb); (try clear hb2); (try clear hgn); (try clear hk); (try clear hi)))
        go_ret2
        exact ⟨by first | rfl | (simp [errW_none, errW_some] <;> rfl) | (simp [*, errW_none, errW_some] <;> rfl), by repeat (first | (with_reducible first | exact HB.out | apply below_alloc | apply pw_below_drewN | apply below_drew1 | refine below_set ?_ GE127.out) | exact HB.out)⟩
      · rw [if_neg c9] at H
        have c9b0 : ((l1.length : Int) == (l2.length : Int)) = false := beq_eq_false_iff_ne.mpr c9
        have c9b1 : ((l1.length : Int) != (l2.length : Int)) = true := bne_iff_ne.mpr c9
        have c9b2 : (l1.length == l2.length) = false := by first | simpa using c9 | (simp at c9 ⊢; omega)
        simp only [Option.some.injEq, Prod.mk.injEq] at H
        obtain ⟨rfl, rfl⟩ := H
        go_enter Try.func24, Try.ntmps24
        go_wp2_with (first | ((with_reducible refine gate_dst (N := 4) rfl ?_); (try (refine gate_guard (by rfl) ?_; dsimp only)); refine box_event ?hg (N := 4) ?hd (cs := #[.int .i64 a0_0, .int .i64 a0_1, .string a0_2, .slice A0_3 l0_3.length c0_3]) (t := 34) ?hr ?_; (case hd => rfl); (case hg => rfl); (case hr => first | (go_simp; done) | (go_simp; rfl)); intro gb127 hg w14 hbox hb; have n0_ := Aside0.mk (below_step (by repeat (first | (with_reducible first | exact HB.out | apply below_alloc | apply pw_below_drewN | apply below_drew1) | exact HB.out)) hb); have n1_ := Aside0.mk (hbox); have n2_ := Aside0.mk ((by rw [hg]; exact (below_size (by repeat (first | (with_reducible first | exact HB.out | apply below_alloc | apply pw_below_drewN | apply below_drew1) | exact HB.out))) : w.heap.size ≤ gb127)); have n3_ := Aside0.mk ((by rw [hg]; exact (below_size (by repeat (first | (with_reducible first | exact HB.out | apply below_alloc | apply pw_below_drewN | apply below_drew1) | exact HB.out))) : w.heap.size ≤ gb127)); clear HB; have HB := n0_; have BK127 := n1_; have GW127 := n2_; have GE127 := n3_; clear n0_ n1_ n2_ n3_; clear hb hbox hg))
        go_ret2
        exact ⟨by first | rfl | (simp [errW_none, errW_some] <;> rfl) | (simp [*, errW_none, errW_some] <;> rfl), by repeat (first | (with_reducible first | exact HB.out | apply below_alloc | apply pw_below_drewN | apply below_drew1 | refine below_set ?_ GE127.out) | exact HB.out)⟩
theorem index_l0 (regs : List ByteArray) (x : ByteArray) (hl : regs.length ≤ 8) (d : Nat) : ∀ j : Nat, j ≤ regs.length → regs.length - j = d →
    Ev (fun k => slices_Index_string_string.l0 k regs x regs.length j) (ix x (regs.drop j) j) := by
  induction d with
  | zero =>
    intro j hj hd
    refine Ev.step (f := fun _ => some (-1)) (fun k => ?_) ?_
    · simp only [slices_Index_string_string.l0]; rw [if_neg (by omega)]
    · rw [List.drop_eq_nil_of_le (by omega)]; exact Ev.now _
  | succ d ih =>
    intro j hj hd
    have hjl : j < regs.length := by omega
    have e2 : wrap64 ((j : Int) + 1) = ((j + 1 : Nat) : Int) := by unfold wrap64; omega
    rw [rd_drop ByteArray.empty regs j hjl]
    unfold ix
    by_cases h : x.toList = (rdOf ByteArray.empty regs (j : Int)).toList
    · rw [if_pos h]
      refine Ev.step (f := fun _ => some (j : Int)) (fun k => ?_) (Ev.now _)
      simp only [slices_Index_string_string.l0]; rw [if_pos (by omega), if_pos (by omega), if_pos (by omega), if_pos h]
    · rw [if_neg h]
      refine Ev.step (fun k => ?_) (ih (j + 1) (by omega) (by omega))
      simp only [slices_Index_string_string.l0]; rw [if_pos (by omega), if_pos (by omega), if_pos (by omega), if_neg h, e2]
theorem index_ev (regs : List ByteArray) (x : ByteArray) (hl : regs.length ≤ 8) : Ev (fun k => slices_Index_string_string.f k regs x) (ix x regs 0) :=
  index_l0 regs x hl regs.length 0 (by omega) (by omega)
theorem of_two (regs : List ByteArray) (vals : List Int) (n : Int) (hn : 2 ≤ n) (hn4 : n ≤ 4) (e : S34) (dp c : Int) (hdp : 0 ≤ dp ∧ dp < 6) (hk : e.f3.length = 2) (p0 p1 : Int × Bool)
    (hc : (e.f0 = 3 ∧ c = 45) ∨ (e.f0 = 4 ∧ c = 46) ∨ (e.f0 = 5 ∧ c = 47) ∨ (e.f0 = 6 ∧ c = 48))
    (r0 : 0 ≤ p0.1 ∧ p0.1 < n) (r1 : 0 ≤ p1.1 ∧ p1.1 < n)
    (g0 : Ev (fun k => eval_place_of.f k regs vals n (rd_T34 e.f3 0).f0 (rd_T34 e.f3 0).f1 (rd_T34 e.f3 0).f2 (rd_T34 e.f3 0).f3 (dp + 1)) p0)
    (g1 : Ev (fun k => eval_place_of.f k regs vals n (rd_T34 e.f3 1).f0 (rd_T34 e.f3 1).f1 (rd_T34 e.f3 1).f2 (rd_T34 e.f3 1).f3 (dp + 1)) p1) :
    Ev (fun k => eval_place_of.j0 k dp c ((e.f3.length : Int) != 2) regs vals n e.f0 e.f1 e.f2 e.f3) (if p0.2 = true ∧ p1.2 = true then (opv e.f0 p0.1 p1.1 n, true) else (0, false)) := by
  have hk2 : ((e.f3.length : Int) != 2) = false := by rw [hk]; rfl
  have ed : wrap64 (dp + 1) = dp + 1 := by unfold wrap64; omega
  obtain ⟨a, oa⟩ := p0
  obtain ⟨b, ob⟩ := p1
  simp only at r0 r1
  rw [hk2]
  have tail : Ev (fun _ : Nat => (if oa = true then (if ob = true then (if c = (45 : Int) then ((eval_sides_plus.f a b n).bind fun t123 => (some (t123, true))) else (if c = (46 : Int) then ((eval_sides_minus.f a b n).bind fun t124 => (some (t124, true))) else (if c = (47 : Int) then ((eval_sides_eq.f a b n).bind fun t125 => (some (t125, true))) else (if c = (48 : Int) then ((eval_sides_less.f a b n).bind fun t126 => (some (t126, true))) else (none))))) else (some (0, false))) else (some (0, false)))) (if oa = true ∧ ob = true then (opv e.f0 a b n, true) else (0, false)) := by
    cases oa with
    | false => exact Ev.congr (f := fun _ => some _) (fun k => by simp only [Bool.false_eq_true, false_and, reduceIte]) (Ev.now _)
    | true =>
      cases ob with
      | false => exact Ev.congr (f := fun _ => some _) (fun k => by simp only [Bool.false_eq_true, and_false, reduceIte]) (Ev.now _)
      | true =>
        refine Ev.congr (f := fun _ => some _) (fun k => ?_) (Ev.now _)
        have ia := inn_id a n r0.1 r0.2 hn4
        have ib := inn_id b n r1.1 r1.2 hn4
        have w1 : wrap64 (a + b) = a + b := by unfold wrap64; omega
        have w2 : wrap64 (a - b) = a - b := by unfold wrap64; omega
        simp only [eval_sides_plus.f, eval_sides_minus.f, eval_sides_eq.f, eval_sides_less.f, wrap_Add.f, wrap_Sub.f, eval_truth.f, Option.bind_some, ia, ib, w1, w2, and_self, reduceIte]
        unfold opv
        rcases hc with ⟨h, rfl⟩ | ⟨h, rfl⟩ | ⟨h, rfl⟩ | ⟨h, rfl⟩
        · simp only [h, reduceIte]
        · simp only [h]; rfl
        · simp only [h]
          by_cases q : a = b
          · simp only [q, beq_self_eq_true]; rfl
          · simp only [q, beq_eq_false_iff_ne.mpr q]; rfl
        · simp only [h]
          by_cases q : a < b
          · simp only [q, decide_true]; rfl
          · simp only [q, decide_false]; rfl
  refine Ev.step (f := fun k => (eval_place_of.f k regs vals n (rd_T34 e.f3 0).f0 (rd_T34 e.f3 0).f1 (rd_T34 e.f3 0).f2 (rd_T34 e.f3 0).f3 (dp + 1)).bind (fun b0 => (eval_place_of.f k regs vals n (rd_T34 e.f3 1).f0 (rd_T34 e.f3 1).f1 (rd_T34 e.f3 1).f2 (rd_T34 e.f3 1).f3 (dp + 1)).bind (fun b1 => (if b0.2 = true then (if b1.2 = true then (if c = (45 : Int) then ((eval_sides_plus.f b0.1 b1.1 n).bind fun t123 => (some (t123, true))) else (if c = (46 : Int) then ((eval_sides_minus.f b0.1 b1.1 n).bind fun t124 => (some (t124, true))) else (if c = (47 : Int) then ((eval_sides_eq.f b0.1 b1.1 n).bind fun t125 => (some (t125, true))) else (if c = (48 : Int) then ((eval_sides_less.f b0.1 b1.1 n).bind fun t126 => (some (t126, true))) else (none))))) else (some (0, false))) else (some (0, false)))))) (fun k => ?_) (Ev.bind g0 (Ev.bind g1 tail))
  have q0 : (0 : Int) < (e.f3.length : Int) := by omega
  have q1 : (1 : Int) < (e.f3.length : Int) := by omega
  simp only [eval_place_of.j0, q0, q1, ed, Bool.false_eq_true, reduceIte]

theorem of_ev (regs : List ByteArray) (vals : List Int) (n : Int) (hn : 2 ≤ n) (hn4 : n ≤ 4) (hr : regs.length ≤ 8) (hv : regs.length = vals.length) (f : Nat) : ∀ (e : S34) (dp : Int), Good f e → 0 ≤ dp → dp ≤ 6 →
    Ev (fun k => eval_place_of.f k regs vals n e.f0 e.f1 e.f2 e.f3 dp) (if dp + askN f e ≤ 6 then valN regs vals n f e else (0, false)) := by
  induction f with
  | zero => intro e dp hg; exact hg.elim
  | succ f ih =>
    intro e dp hg h0 h6
    have hp := askN_pos f e
    by_cases hd : dp ≥ 6
    · rw [if_neg (by omega)]
      refine Ev.step (f := fun _ => some (0, false)) (fun k => ?_) (Ev.now _)
      simp only [eval_place_of.f]; rw [if_pos hd]
    · by_cases h1 : e.f0 = 1
      · have ha : askN (f + 1) e = 1 := by unfold askN; rw [if_pos h1]
        rw [ha, if_pos (by omega)]
        refine Ev.step (f := fun _ => some (valN regs vals n (f + 1) e)) (fun k => ?_) (Ev.now _)
        simp only [eval_place_of.f]; rw [if_neg hd, if_pos h1]; simp only [wrap_In.f, Option.bind_some]
        rw [valN, if_pos h1]
      · by_cases h2 : e.f0 = 2
        · have ha : askN (f + 1) e = 1 := by unfold askN; rw [if_neg h1, if_pos h2]
          rw [ha, if_pos (by omega)]
          refine Ev.step (f := fun k => (slices_Index_string_string.f k regs e.f2).bind (fun t => if t < 0 then some (0, false) else if 0 ≤ t then (if t < (vals.length : Int) then ((wrap_In.f (rd vals t) n).bind fun t2 => some (t2, true)) else none) else none)) (fun k => ?_) ?_
          · simp only [eval_place_of.f]; rw [if_neg hd, if_neg h1, if_pos h2]
          · refine Ev.bind (index_ev regs e.f2 hr) (Ev.congr (f := fun _ => some (valN regs vals n (f + 1) e)) (fun k => ?_) (Ev.now _))
            have hx := ix_range e.f2 regs 0 (Int.le_refl _)
            rw [valN, if_neg h1, if_pos h2]
            by_cases hx0 : ix e.f2 regs 0 < 0
            · rw [if_pos hx0, if_pos hx0]
            · rw [if_neg hx0, if_neg hx0, if_pos (by omega), if_pos (by omega)]; rfl
        · have badv : (e.f0 < 3 ∨ e.f0 > 6 ∨ e.f3.length ≠ 2) → (if dp + (askN (f + 1) e : Int) ≤ 6 then valN regs vals n (f + 1) e else (0, false)) = (0, false) := by
            intro hb
            have : valN regs vals n (f + 1) e = (0, false) := by rw [valN, if_neg h1, if_neg h2, if_pos hb]
            rw [this]; split <;> rfl
          have head : Ev (fun k => (eval_operator.f e.f0).bind fun t => (if t = 0 then (eval_place_of.j0 k dp t true regs vals n e.f0 e.f1 e.f2 e.f3) else (eval_place_of.j0 k dp t ((e.f3.length : Int) != 2) regs vals n e.f0 e.f1 e.f2 e.f3))) (if dp + (askN (f + 1) e : Int) ≤ 6 then valN regs vals n (f + 1) e else (0, false)) → Ev (fun k => eval_place_of.f k regs vals n e.f0 e.f1 e.f2 e.f3 dp) (if dp + (askN (f + 1) e : Int) ≤ 6 then valN regs vals n (f + 1) e else (0, false)) := fun h => by
            refine Ev.step (fun k => ?_) h
            simp only [eval_place_of.f]; rw [if_neg hd, if_neg h1, if_neg h2]
          refine head ?_
          by_cases hb : e.f0 < 3 ∨ e.f0 > 6
          · have ec : eval_operator.f e.f0 = some 0 := by
              unfold eval_operator.f; rw [if_neg (by omega), if_neg (by omega), if_neg (by omega), if_neg (by omega)]
            rw [badv (by omega), ec]
            refine Ev.congr (f := fun k => eval_place_of.j0 k dp 0 true regs vals n e.f0 e.f1 e.f2 e.f3) (fun k => by rw [Option.bind_some, if_pos rfl]) (Ev.step (f := fun _ => some _) (fun k => ?_) (Ev.now _))
            simp only [eval_place_of.j0, reduceIte]
          · obtain ⟨c, hc, ec⟩ : ∃ c, ((e.f0 = 3 ∧ c = 45) ∨ (e.f0 = 4 ∧ c = 46) ∨ (e.f0 = 5 ∧ c = 47) ∨ (e.f0 = 6 ∧ c = 48)) ∧ eval_operator.f e.f0 = some c := by
              have : e.f0 = 3 ∨ e.f0 = 4 ∨ e.f0 = 5 ∨ e.f0 = 6 := by omega
              rcases this with h | h | h | h
              · exact ⟨45, .inl ⟨h, rfl⟩, by rw [h]; rfl⟩
              · exact ⟨46, .inr (.inl ⟨h, rfl⟩), by rw [h]; rfl⟩
              · exact ⟨47, .inr (.inr (.inl ⟨h, rfl⟩)), by rw [h]; rfl⟩
              · exact ⟨48, .inr (.inr (.inr ⟨h, rfl⟩)), by rw [h]; rfl⟩
            have hc0 : ¬ c = 0 := by omega
            rw [ec]
            refine Ev.congr (f := fun k => eval_place_of.j0 k dp c ((e.f3.length : Int) != 2) regs vals n e.f0 e.f1 e.f2 e.f3) (fun k => by rw [Option.bind_some, if_neg hc0]) ?_
            by_cases hk : e.f3.length = 2
            · have g0 := ih (rd_T34 e.f3 0) (dp + 1) (hg.2 0 (by omega)) (by omega) (by omega)
              have g1 := ih (rd_T34 e.f3 1) (dp + 1) (hg.2 1 (by omega)) (by omega) (by omega)
              have r0 := valN_range regs vals n hn f (rd_T34 e.f3 0)
              have r1 := valN_range regs vals n hn f (rd_T34 e.f3 1)
              have ha : askN (f + 1) e = 1 + max (max 0 (askN f (rd_T34 e.f3 0))) (askN f (rd_T34 e.f3 1)) := by
                rw [askN, if_neg h1, if_neg h2, hk]; rfl
              have ev : valN regs vals n (f + 1) e = if (valN regs vals n f (rd_T34 e.f3 0)).2 = true ∧ (valN regs vals n f (rd_T34 e.f3 1)).2 = true then (opv e.f0 (valN regs vals n f (rd_T34 e.f3 0)).1 (valN regs vals n f (rd_T34 e.f3 1)).1 n, true) else (0, false) := by
                rw [valN, if_neg h1, if_neg h2, if_neg (by omega)]
              have key := of_two regs vals n hn hn4 e dp c (by omega) hk _ _ hc (ite_range _ _ n hn ⟨r0.1, r0.2.1⟩) (ite_range _ _ n hn ⟨r1.1, r1.2.1⟩) g0 g1
              refine cast (congrArg (fun z => Ev _ z) ?_) key
              by_cases ht : dp + (askN (f + 1) e : Int) ≤ 6
              · have z0 : (if dp + 1 + (askN f (rd_T34 e.f3 0) : Int) ≤ 6 then valN regs vals n f (rd_T34 e.f3 0) else (0, false)) = valN regs vals n f (rd_T34 e.f3 0) := if_pos (by omega)
                have z1 : (if dp + 1 + (askN f (rd_T34 e.f3 1) : Int) ≤ 6 then valN regs vals n f (rd_T34 e.f3 1) else (0, false)) = valN regs vals n f (rd_T34 e.f3 1) := if_pos (by omega)
                rw [if_pos ht, z0, z1, ev]
              · rw [if_neg ht]
                have : ¬ (dp + 1 + (askN f (rd_T34 e.f3 0) : Int) ≤ 6) ∨ ¬ (dp + 1 + (askN f (rd_T34 e.f3 1) : Int) ≤ 6) := by omega
                rcases this with h | h
                · rw [if_neg (show ¬ (_ ∧ _) from fun q => by rw [if_neg h] at q; exact absurd q.1 (by decide))]
                · rw [if_neg (show ¬ (_ ∧ _) from fun q => by rw [if_neg h] at q; exact absurd q.2 (by decide))]
            · rw [badv (.inr (.inr hk))]
              refine Ev.step (f := fun _ => some _) (fun k => ?_) (Ev.now _)
              simp only [eval_place_of.j0]; rw [if_pos (bne_iff_ne.mpr (by omega))]

theorem code_ev (regs : List ByteArray) (vals : List Int) (n : Int) (f : Nat) (e : S34) (hg : Good f e) (hr : regs.length ≤ 8) :
    Ev (fun k => eval_Expr.f k e.f0 e.f1 e.f2 e.f3 regs vals n) (exprR regs vals n f e) := by
  unfold exprR
  by_cases h2 : n < 2
  · rw [if_pos h2]; exact Ev.congr (f := fun _ => some _) (fun k => by unfold eval_Expr.f; rw [if_pos h2]) (Ev.now _)
  · rw [if_neg h2]
    by_cases h4 : n > 4
    · rw [if_pos h4]; exact Ev.congr (f := fun _ => some _) (fun k => by unfold eval_Expr.f; rw [if_neg h2, if_pos h4]) (Ev.now _)
    · rw [if_neg h4]
      by_cases hl : regs.length = vals.length
      · rw [if_pos hl]
        have h := of_ev regs vals n (by omega) (by omega) hr hl f e 0 hg (by omega) (by omega)
        have e1 : (if (0 : Int) + (askN f e : Int) ≤ 6 then valN regs vals n f e else (0, false)) = (if askN f e > 6 then (0, false) else valN regs vals n f e) := by
          by_cases ha : askN f e > 6
          · rw [if_pos ha, if_neg (by omega)]
          · rw [if_neg ha, if_pos (by omega)]
        rw [e1] at h
        exact Ev.congr (fun k => by unfold eval_Expr.f; rw [if_neg h2, if_neg h4, if_pos (by omega)]) (Ev.bind (f := fun _ b => some (b.1, b.2)) h (Ev.now _))
      · rw [if_neg hl]
        exact Ev.congr (f := fun _ => some _) (fun k => by unfold eval_Expr.f; rw [if_neg h2, if_neg h4, if_neg (by omega)]) (Ev.now _)


/-! ### eval_True: function 26 -/
def eval_True.f (k : Nat) (a0_0 : Int) (a0_1 : Int) (a0_2 : ByteArray) (l0_3 : List (S34)) (l1 : List ByteArray) (l2 : List Int) (a3 : Int) : Option (Bool × Bool) := (eval_Expr.f k a0_0 a0_1 a0_2 l0_3 l1 l2 a3).bind fun bt131 => (some ((bt131.1 != 0), bt131.2))
theorem eval_True.mono : ∀ a0 a1 a2 a3 a4 a5 a6 k, LeO (eval_True.f k a0 a1 a2 a3 a4 a5 a6) (eval_True.f (k + 1) a0 a1 a2 a3 a4 a5 a6) := by
  intro a0 a1 a2 a3 a4 a5 a6 k
  unfold eval_True.f
  repeat' first
      | (with_reducible exact eval_Expr.mono _ _ _ _ _ _ _ _)
      | (with_reducible exact LeO.refl _)
      | (with_reducible exact LeO.none _)
      | (with_reducible refine LeO.ite ?_ ?_)
      | (with_reducible refine LeO.bind ?_ (fun _ => ?_))
      | exact eval_Expr.mono _ _ _ _ _ _ _ _
      | exact LeO.none _
      | refine LeO.ite ?_ ?_
      | refine LeO.bind ?_ (fun _ => ?_)
set_option maxHeartbeats 8000000 in
set_option maxRecDepth 100000 in
theorem eval_True.calls (k : Nat) (a0_0 : Int) (a0_1 : Int) (a0_2 : ByteArray) (A0_3 : Option Addr) (c0_3 : Nat) (l0_3 : List (S34)) (A1 : Option Addr) (c1 : Nat) (l1 : List ByteArray) (A2 : Option Addr) (c2 : Nat) (l2 : List Int) (a3 : Int) (r1 : Bool) (r2 : Bool) (w : World) (hr0_3 : Kd.C k34 w A0_3 l0_3.length l0_3) (hc0_3 : l0_3.length ≤ c0_3) (hr1 : Kd.C Kd.string w A1 l1.length l1) (hc1 : l1.length ≤ c1) (hr2 : Kd.C (Kd.int .i64) w A2 l2.length l2) (hc2 : l2.length ≤ c2) (h : eval_True.f k a0_0 a0_1 a0_2 l0_3 l1 l2 a3 = some (r1, r2)) :
    Calls Try.prog 26 #[.agg #[.int .i64 a0_0, .int .i64 a0_1, .string a0_2, .slice A0_3 l0_3.length c0_3], .slice A1 l1.length c1, .slice A2 l2.length c2, .int .i64 a3] w fun e w' => e = .returned (.tuple #[.bool r1, .bool r2]) ∧ Below w.heap.size w w' := by
  have hu34 := Try.underlying34
  have HR0_3 := Aside0.mk hr0_3
  have HC0_3 := Aside0.mk hc0_3
  clear hr0_3 hc0_3
  have HR1 := Aside0.mk hr1
  have HC1 := Aside0.mk hc1
  clear hr1 hc1
  have HR2 := Aside0.mk hr2
  have HC2 := Aside0.mk hc2
  clear hr2 hc2
  have HB := Aside0.mk (Below.refl w.heap.size w)
  have H : ((eval_Expr.f k a0_0 a0_1 a0_2 l0_3 l1 l2 a3).bind fun bt131 => (some ((bt131.1 != 0), bt131.2))) = some (r1, r2) := h
  clear h
  replace H := Option.bind_eq_some_iff.mp H
  obtain ⟨⟨t131, t132⟩, A50, H⟩ := H
  replace H : (some ((t131 != 0), t132)) = some (r1, r2) := H
  have A5 := Aside0.mk A50
  clear A50
  simp only [Option.some.injEq, Prod.mk.injEq] at H
  obtain ⟨rfl, rfl⟩ := H
  go_enter Try.func26, Try.ntmps26
  go_wp2_with (first | ((with_reducible refine gate_dst (N := 4) rfl ?_); refine box_event ?hg (N := 4) ?hd (cs := #[.int .i64 a0_0, .int .i64 a0_1, .string a0_2, .slice A0_3 l0_3.length c0_3]) (t := 34) ?hr ?_; (case hd => rfl); (case hg => rfl); (case hr => first | (go_simp; done) | (go_simp; rfl)); intro gb130 hg w6 hbox hb; have n0_ := Aside0.mk (below_step (by repeat (first | (with_reducible first | exact HB.out | apply below_alloc | apply pw_below_drewN | apply below_drew1) | exact HB.out)) hb); have n1_ := Aside0.mk (hbox); have n2_ := Aside0.mk ((by rw [hg]; exact (below_size (by repeat (first | (with_reducible first | exact HB.out | apply below_alloc | apply pw_below_drewN | apply below_drew1) | exact HB.out))) : w.heap.size ≤ gb130)); have n3_ := Aside0.mk ((by rw [hg]; exact (below_size (by repeat (first | (with_reducible first | exact HB.out | apply below_alloc | apply pw_below_drewN | apply below_drew1) | exact HB.out))) : w.heap.size ≤ gb130)); clear HB; have HB := n0_; have BK130 := n1_; have GW130 := n2_; have GE130 := n3_; clear n0_ n1_ n2_ n3_; clear hb hbox hg; have hcz7_0 : w6.cell? ⟨gb130, 0, none⟩ = some (.int .i64 a0_0) := (blk_cell BK130.out 0).trans rfl; have hcz7_1 : w6.cell? ⟨gb130, 1, none⟩ = some (.int .i64 a0_1) := (blk_cell BK130.out 1).trans rfl; have hcz7_2 : w6.cell? ⟨gb130, 2, none⟩ = some (.string a0_2) := (blk_cell BK130.out 2).trans rfl; have hcz7_3 : w6.cell? ⟨gb130, 3, none⟩ = some (.slice A0_3 l0_3.length c0_3) := (blk_cell BK130.out 3).trans rfl; have hfz7_0 := blk_frozen BK130.out 0; have hfz7_1 := blk_frozen BK130.out 1; have hfz7_2 := blk_frozen BK130.out 2; have hfz7_3 := blk_frozen BK130.out 3) | ((with_reducible refine gate_callee (f := 24) rfl ?_); refine goesL_ (some 17) rfl rfl Try.func24 (by kernel_rfl) rfl #[.agg #[.int .i64 a0_0, .int .i64 a0_1, .string a0_2, .slice A0_3 l0_3.length c0_3], .slice A1 l1.length c1, .slice A2 l2.length c2, .int .i64 a3] rfl (by (try simp only [List.map_toArray, List.map_cons, List.map_nil]); first | done | rfl | (simp only [List.length_drop, List.length_take]; rfl)) ?_; (with_reducible refine (eval_Expr.calls k a0_0 a0_1 a0_2 _ _ l0_3 _ _ l1 _ _ l2 a3 t131 t132 _ ?side1 ?side2 ?side3 ?side4 ?side5 ?side6 A5.out).mono ?_); (case side1 => repeat (first | exact (Kd.C_below HR0_3.out HB.out) | (with_reducible refine Kd.C_alloc ?_ _) | (with_reducible refine Kd.C_drewN ?_ _) | (with_reducible refine Kd.C_drew ?_))); (case side2 => exact HC0_3.out); (case side3 => repeat (first | exact (Kd.C_below HR1.out HB.out) | (with_reducible refine Kd.C_alloc ?_ _) | (with_reducible refine Kd.C_drewN ?_ _) | (with_reducible refine Kd.C_drew ?_))); (case side4 => exact HC1.out); (case side5 => repeat (first | exact (Kd.C_below HR2.out HB.out) | (with_reducible refine Kd.C_alloc ?_ _) | (with_reducible refine Kd.C_drewN ?_ _) | (with_reducible refine Kd.C_drew ?_))); (case side6 => exact HC2.out); rintro e w8 ⟨rfl, hb⟩; refine ⟨_, rfl, ?_⟩; have n0_ := Aside0.mk (blk_below (g := gb130) (o := .cells #[.int .i64 a0_0, .int .i64 a0_1, .string a0_2, .slice A0_3 l0_3.length c0_3] 34 (0, 0)) (by (with_reducible repeat (first | refine blk_drewN ?_ _ | refine blk_drew ?_ | refine blk_alloc ?_ _)); exact BK130.out) hb); have n1_ := Aside0.mk (below_step (by repeat (first | (with_reducible first | exact HB.out | apply below_alloc | apply pw_below_drewN | apply below_drew1 | refine below_set ?_ GE130.out) | exact HB.out)) hb); clear BK130; clear HB; have BK130 := n0_; have HB := n1_; clear n0_ n1_; (try clear hb); (try clear hb2); (try clear hgn); (try clear hk); (try clear hi)))
  go_ret2
  exact ⟨by first | rfl | (simp [errW_none, errW_some] <;> rfl) | (simp [*, errW_none, errW_some] <;> rfl), by repeat (first | (with_reducible first | exact HB.out | apply below_alloc | apply pw_below_drewN | apply below_drew1 | refine below_set ?_ GE130.out) | exact HB.out)⟩

/-! ### withelaw10_begun: function 22 -/
def withelaw10_begun.f (k : Nat)  : Option (Bool) := (some (([(⟨1, 1, (⟨#[]⟩ : ByteArray), ([] : List (S34))⟩ : S34), (⟨2, 0, (⟨#[114]⟩ : ByteArray), ([] : List (S34))⟩ : S34)] : List (S34)) : List (S34))).bind fun y133 => ((eval_Expr.f k 3 0 (⟨#[]⟩ : ByteArray) y133 (([(⟨#[114]⟩ : ByteArray)] : List ByteArray)) (([3] : List Int)) 4).bind fun bt143 => ((eval_Expr.f k 3 0 (⟨#[]⟩ : ByteArray) y133 ([] : List ByteArray) ([] : List Int) 4).bind fun bt145 => ((eval_True.f k 3 0 (⟨#[]⟩ : ByteArray) y133 (([(⟨#[114]⟩ : ByteArray)] : List ByteArray)) (([3] : List Int)) 4).bind fun bt153 => (if bt143.1 = 0 then (if bt143.2 = true then (if bt145.2 = true then (none) else (if bt153.1 = true then (none) else (some bt153.2))) else (none)) else (none)))))
theorem withelaw10_begun.mono : ∀ k, LeO (withelaw10_begun.f k ) (withelaw10_begun.f (k + 1) ) := by
  intro  k
  unfold withelaw10_begun.f
  repeat' first
      | (with_reducible exact eval_Expr.mono _ _ _ _ _ _ _ _)
      | (with_reducible exact eval_True.mono _ _ _ _ _ _ _ _)
      | (with_reducible exact LeO.refl _)
      | (with_reducible exact LeO.none _)
      | (with_reducible refine LeO.ite ?_ ?_)
      | (with_reducible refine LeO.bind ?_ (fun _ => ?_))
      | exact eval_Expr.mono _ _ _ _ _ _ _ _
      | exact eval_True.mono _ _ _ _ _ _ _ _
      | exact LeO.none _
      | refine LeO.ite ?_ ?_
      | refine LeO.bind ?_ (fun _ => ?_)
set_option maxHeartbeats 8000000 in
set_option maxRecDepth 100000 in
theorem withelaw10_begun.calls (k : Nat)  (r : Bool) (w : World) (h : withelaw10_begun.f k  = some r) :
    Calls Try.prog 22 #[] w fun e w' => e = .returned (.bool r) ∧ Below w.heap.size w w' := by
  have hu34 := Try.underlying34
  have HB := Aside0.mk (Below.refl w.heap.size w)
  have H : ((some (([(⟨1, 1, (⟨#[]⟩ : ByteArray), ([] : List (S34))⟩ : S34), (⟨2, 0, (⟨#[114]⟩ : ByteArray), ([] : List (S34))⟩ : S34)] : List (S34)) : List (S34))).bind fun y133 => ((eval_Expr.f k 3 0 (⟨#[]⟩ : ByteArray) y133 (([(⟨#[114]⟩ : ByteArray)] : List ByteArray)) (([3] : List Int)) 4).bind fun bt143 => ((eval_Expr.f k 3 0 (⟨#[]⟩ : ByteArray) y133 ([] : List ByteArray) ([] : List Int) 4).bind fun bt145 => ((eval_True.f k 3 0 (⟨#[]⟩ : ByteArray) y133 (([(⟨#[114]⟩ : ByteArray)] : List ByteArray)) (([3] : List Int)) 4).bind fun bt153 => (if bt143.1 = 0 then (if bt143.2 = true then (if bt145.2 = true then (none) else (if bt153.1 = true then (none) else (some bt153.2))) else (none)) else (none)))))) = some r := h
  clear h
  obtain ⟨y133, hy133⟩ : ∃ y_ : List (S34), y_ = (([(⟨1, 1, (⟨#[]⟩ : ByteArray), ([] : List (S34))⟩ : S34), (⟨2, 0, (⟨#[114]⟩ : ByteArray), ([] : List (S34))⟩ : S34)] : List (S34))) := ⟨_, rfl⟩
  replace H : ((eval_Expr.f k 3 0 (⟨#[]⟩ : ByteArray) y133 (([(⟨#[114]⟩ : ByteArray)] : List ByteArray)) (([3] : List Int)) 4).bind fun bt143 => ((eval_Expr.f k 3 0 (⟨#[]⟩ : ByteArray) y133 ([] : List ByteArray) ([] : List Int) 4).bind fun bt145 => ((eval_True.f k 3 0 (⟨#[]⟩ : ByteArray) y133 (([(⟨#[114]⟩ : ByteArray)] : List ByteArray)) (([3] : List Int)) 4).bind fun bt153 => (if bt143.1 = 0 then (if bt143.2 = true then (if bt145.2 = true then (none) else (if bt153.1 = true then (none) else (some bt153.2))) else (none)) else (none))))) = some r := by first | (rw [hy133]; with_reducible exact H) | (have H2_ := (Option.bind_some _ _).symm.trans H; rw [hy133]; with_reducible exact H2_) | (have H2_ := (Option.bind_some _ _).symm.trans H; with_reducible exact H2_) | with_reducible exact H | (rw [hy133]; exact H) | exact H
  have Ny133 := Aside0.mk hy133
  clear hy133
  obtain ⟨y137, hy137⟩ : ∃ y_ : List ByteArray, y_ = (([(⟨#[114]⟩ : ByteArray)] : List ByteArray)) := ⟨_, rfl⟩
  replace H : ((eval_Expr.f k 3 0 (⟨#[]⟩ : ByteArray) y133 y137 (([3] : List Int)) 4).bind fun bt143 => ((eval_Expr.f k 3 0 (⟨#[]⟩ : ByteArray) y133 ([] : List ByteArray) ([] : List Int) 4).bind fun bt145 => ((eval_True.f k 3 0 (⟨#[]⟩ : ByteArray) y133 (([(⟨#[114]⟩ : ByteArray)] : List ByteArray)) (([3] : List Int)) 4).bind fun bt153 => (if bt143.1 = 0 then (if bt143.2 = true then (if bt145.2 = true then (none) else (if bt153.1 = true then (none) else (some bt153.2))) else (none)) else (none))))) = some r := by first | (rw [hy137]; with_reducible exact H) | (have H2_ := (Option.bind_some _ _).symm.trans H; rw [hy137]; with_reducible exact H2_) | (have H2_ := (Option.bind_some _ _).symm.trans H; with_reducible exact H2_) | with_reducible exact H | (rw [hy137]; exact H) | exact H
  have Ny137 := Aside0.mk hy137
  clear hy137
  obtain ⟨y140, hy140⟩ : ∃ y_ : List Int, y_ = (([3] : List Int)) := ⟨_, rfl⟩
  replace H : ((eval_Expr.f k 3 0 (⟨#[]⟩ : ByteArray) y133 y137 y140 4).bind fun bt143 => ((eval_Expr.f k 3 0 (⟨#[]⟩ : ByteArray) y133 ([] : List ByteArray) ([] : List Int) 4).bind fun bt145 => ((eval_True.f k 3 0 (⟨#[]⟩ : ByteArray) y133 (([(⟨#[114]⟩ : ByteArray)] : List ByteArray)) (([3] : List Int)) 4).bind fun bt153 => (if bt143.1 = 0 then (if bt143.2 = true then (if bt145.2 = true then (none) else (if bt153.1 = true then (none) else (some bt153.2))) else (none)) else (none))))) = some r := by first | (rw [hy140]; with_reducible exact H) | (have H2_ := (Option.bind_some _ _).symm.trans H; rw [hy140]; with_reducible exact H2_) | (have H2_ := (Option.bind_some _ _).symm.trans H; with_reducible exact H2_) | with_reducible exact H | (rw [hy140]; exact H) | exact H
  have Ny140 := Aside0.mk hy140
  clear hy140
  replace H := Option.bind_eq_some_iff.mp H
  obtain ⟨⟨t143, t144⟩, A10, H⟩ := H
  replace H : ((eval_Expr.f k 3 0 (⟨#[]⟩ : ByteArray) y133 ([] : List ByteArray) ([] : List Int) 4).bind fun bt145 => ((eval_True.f k 3 0 (⟨#[]⟩ : ByteArray) y133 (([(⟨#[114]⟩ : ByteArray)] : List ByteArray)) (([3] : List Int)) 4).bind fun bt153 => (if t143 = 0 then (if t144 = true then (if bt145.2 = true then (none) else (if bt153.1 = true then (none) else (some bt153.2))) else (none)) else (none)))) = some r := H
  have A1 := Aside0.mk A10
  clear A10
  replace H := Option.bind_eq_some_iff.mp H
  obtain ⟨⟨t145, t146⟩, A20, H⟩ := H
  replace H : ((eval_True.f k 3 0 (⟨#[]⟩ : ByteArray) y133 (([(⟨#[114]⟩ : ByteArray)] : List ByteArray)) (([3] : List Int)) 4).bind fun bt153 => (if t143 = 0 then (if t144 = true then (if t146 = true then (none) else (if bt153.1 = true then (none) else (some bt153.2))) else (none)) else (none))) = some r := H
  have A2 := Aside0.mk A20
  clear A20
  obtain ⟨y147, hy147⟩ : ∃ y_ : List ByteArray, y_ = (([(⟨#[114]⟩ : ByteArray)] : List ByteArray)) := ⟨_, rfl⟩
  replace H : ((eval_True.f k 3 0 (⟨#[]⟩ : ByteArray) y133 y147 (([3] : List Int)) 4).bind fun bt153 => (if t143 = 0 then (if t144 = true then (if t146 = true then (none) else (if bt153.1 = true then (none) else (some bt153.2))) else (none)) else (none))) = some r := by first | (rw [hy147]; with_reducible exact H) | (have H2_ := (Option.bind_some _ _).symm.trans H; rw [hy147]; with_reducible exact H2_) | (have H2_ := (Option.bind_some _ _).symm.trans H; with_reducible exact H2_) | with_reducible exact H | (rw [hy147]; exact H) | exact H
  have Ny147 := Aside0.mk hy147
  clear hy147
  obtain ⟨y150, hy150⟩ : ∃ y_ : List Int, y_ = (([3] : List Int)) := ⟨_, rfl⟩
  replace H : ((eval_True.f k 3 0 (⟨#[]⟩ : ByteArray) y133 y147 y150 4).bind fun bt153 => (if t143 = 0 then (if t144 = true then (if t146 = true then (none) else (if bt153.1 = true then (none) else (some bt153.2))) else (none)) else (none))) = some r := by first | (rw [hy150]; with_reducible exact H) | (have H2_ := (Option.bind_some _ _).symm.trans H; rw [hy150]; with_reducible exact H2_) | (have H2_ := (Option.bind_some _ _).symm.trans H; with_reducible exact H2_) | with_reducible exact H | (rw [hy150]; exact H) | exact H
  have Ny150 := Aside0.mk hy150
  clear hy150
  replace H := Option.bind_eq_some_iff.mp H
  obtain ⟨⟨t153, t154⟩, A30, H⟩ := H
  replace H : (if t143 = 0 then (if t144 = true then (if t146 = true then (none) else (if t153 = true then (none) else (some t154))) else (none)) else (none)) = some r := H
  have A3 := Aside0.mk A30
  clear A30
  by_cases c4 : t143 = 0
  · rw [if_pos c4] at H
    have c4b0 : (t143 == 0) = true := beq_iff_eq.mpr c4
    have c4b1 : (t143 != 0) = false := bne_eq_false_iff_eq.mpr c4
    clear c4
    by_cases c5 : t144 = true
    · subst c5
      have H1 : (if t146 = true then (none) else (if t153 = true then (none) else (some t154))) = some r := by rw [if_pos rfl] at H; exact H
      clear H
      have H := H1
      clear H1
      by_cases c6 : t146 = true
      · subst c6
        have H1 : (none) = some r := by rw [if_pos rfl] at H; exact H
        clear H
        have H := H1
        clear H1
        exact absurd H (by simp)
      · replace c6 := Bool.eq_false_iff.mpr c6
        subst c6
        have H1 : (if t153 = true then (none) else (some t154)) = some r := by rw [if_neg (show ¬ (false = true) by decide)] at H; exact H
        clear H
        have H := H1
        clear H1
        by_cases c7 : t153 = true
        · subst c7
          have H1 : (none) = some r := by rw [if_pos rfl] at H; exact H
          clear H
          have H := H1
          clear H1
          exact absurd H (by simp)
        · replace c7 := Bool.eq_false_iff.mpr c7
          subst c7
          have H1 : (some t154) = some r := by rw [if_neg (show ¬ (false = true) by decide)] at H; exact H
          clear H
          have H := H1
          clear H1
          obtain rfl := Option.some.inj H
          go_enter Try.func22, Try.ntmps22
          go_wp2_with (first | ((with_reducible refine gate_dst (N := 10) rfl ?_); refine Kd.R_lit k34 _ 34 ?hg (N := 10) ?hd (xs := ([(⟨1, 1, (⟨#[]⟩ : ByteArray), ([] : List (S34))⟩ : S34), (⟨2, 0, (⟨#[114]⟩ : ByteArray), ([] : List (S34))⟩ : S34)] : List (S34))) (inner := [.int .i64 1, .int .i64 1, .string (⟨#[]⟩ : ByteArray), .slice none 0 0, .int .i64 2, .int .i64 0, .string (⟨#[114]⟩ : ByteArray), .slice none 0 0]) (ok := fun _ => True) (okp := fun _ => True) ?hr ?hp (fun _ hk => hk) trivial (Below.refl _ _) (Nat.le_refl _) (by simp) ?_; (case hd => rfl); (case hg => rfl); (case hr => first | (go_simp; done) | (go_simp; rfl)); (case hp => exact (Reps.c4 (show Kd.M k34 _ _ _ (⟨1, 1, (⟨#[]⟩ : ByteArray), ([] : List (S34))⟩ : S34) [.int .i64 1, .int .i64 1, .string (⟨#[]⟩ : ByteArray), .slice none 0 0] from (k34_mkM _ _ _ (⟨1, 1, (⟨#[]⟩ : ByteArray), ([] : List (S34))⟩ : S34) (Kd.R_nil _ _ _ _ _))) (Reps.c4 (show Kd.M k34 _ _ _ (⟨2, 0, (⟨#[114]⟩ : ByteArray), ([] : List (S34))⟩ : S34) [.int .i64 2, .int .i64 0, .string (⟨#[114]⟩ : ByteArray), .slice none 0 0] from (k34_mkM _ _ _ (⟨2, 0, (⟨#[114]⟩ : ByteArray), ([] : List (S34))⟩ : S34) (Kd.R_nil _ _ _ _ _))) (Reps.none _ _)))); intro v134 w8 ho9 hb hg_ hnew_; clear hg_ hnew_; (first | rw [← Ny133.out] at ho9 | (simp only [Int.reduceToNat] at ho9; rw [← Ny133.out] at ho9)); have n0_ := Aside0.mk (Kd.R_lower ho9 (below_size (by repeat (first | (with_reducible first | exact HB.out | apply below_alloc | apply pw_below_drewN | apply below_drew1) | exact HB.out)))); have n1_ := Aside0.mk (below_step (by repeat (first | (with_reducible first | exact HB.out | apply below_alloc | apply pw_below_drewN | apply below_drew1) | exact HB.out)) hb); clear HB; have HO135 := n0_; have HB := n1_; clear n0_ n1_; clear hb ho9; obtain ⟨Ao10, co10, eo10⟩ := Kd.R_slice HO135.out; subst eo10) | ((with_reducible refine gate_dst (N := 1) rfl ?_); refine box_event ?hg (N := 1) ?hd (cs := #[.int .i64 0, .int .i64 0, .string (⟨#[]⟩ : ByteArray), .slice none 0 0]) (t := 34) ?hr ?_; (case hd => rfl); (case hg => rfl); (case hr => first | (go_simp; done) | (go_simp; rfl)); intro gb136 hg w11 hbox hb; have n0_ := Aside0.mk (Kd.R_below (Kd.R_elderB (by (with_reducible repeat (first | apply Kd.R_alloc | apply Kd.R_drewN | apply Kd.R_drew)); exact HO135.out) gb136 (Nat.le_of_eq hg.symm)) hb); have n1_ := Aside0.mk (below_step (by repeat (first | (with_reducible first | exact HB.out | apply below_alloc | apply pw_below_drewN | apply below_drew1) | exact HB.out)) hb); have n2_ := Aside0.mk (hbox); have n3_ := Aside0.mk ((by rw [hg]; exact (below_size (by repeat (first | (with_reducible first | exact HB.out | apply below_alloc | apply pw_below_drewN | apply below_drew1) | exact HB.out))) : w.heap.size ≤ gb136)); have n4_ := Aside0.mk ((by rw [hg]; exact (below_size (by repeat (first | (with_reducible first | exact HB.out | apply below_alloc | apply pw_below_drewN | apply below_drew1) | exact HB.out))) : w.heap.size ≤ gb136)); clear HO135; clear HB; have HO135 := n0_; have HB := n1_; have BK136 := n2_; have GW136 := n3_; have GE136 := n4_; clear n0_ n1_ n2_ n3_ n4_; clear hb hbox hg; have hcz12_0 : w11.cell? ⟨gb136, 0, none⟩ = some (.int .i64 0) := (blk_cell BK136.out 0).trans rfl; have hcz12_1 : w11.cell? ⟨gb136, 1, none⟩ = some (.int .i64 0) := (blk_cell BK136.out 1).trans rfl; have hcz12_2 : w11.cell? ⟨gb136, 2, none⟩ = some (.string (⟨#[]⟩ : ByteArray)) := (blk_cell BK136.out 2).trans rfl; have hcz12_3 : w11.cell? ⟨gb136, 3, none⟩ = some (.slice none 0 0) := (blk_cell BK136.out 3).trans rfl; have hfz12_0 := blk_frozen BK136.out 0; have hfz12_1 := blk_frozen BK136.out 1; have hfz12_2 := blk_frozen BK136.out 2; have hfz12_3 := blk_frozen BK136.out 3) | ((with_reducible refine gate_dst (N := 14) rfl ?_); refine Kd.R_lit Kd.string _ 9 ?hg (N := 14) ?hd (xs := ([(⟨#[114]⟩ : ByteArray)] : List ByteArray)) (inner := [.string (⟨#[114]⟩ : ByteArray)]) (ok := fun _ => True) (okp := fun _ => True) ?hr ?hp (fun _ hk => hk) trivial (Below.refl _ _) (Nat.le_refl _) (by simp) ?_; (case hd => rfl); (case hg => rfl); (case hr => first | (go_simp; done) | (go_simp; rfl)); (case hp => exact (Reps.one (show Kd.M Kd.string _ _ _ (⟨#[114]⟩ : ByteArray) [.string (⟨#[114]⟩ : ByteArray)] from rfl) (Reps.none _ _))); intro v138 w13 ho14 hb hg_ hnew_; clear hg_ hnew_; (first | rw [← Ny137.out] at ho14 | (simp only [Int.reduceToNat] at ho14; rw [← Ny137.out] at ho14)); have n0_ := Aside0.mk (Kd.R_below (by (with_reducible repeat (first | apply Kd.R_alloc | apply Kd.R_drewN | apply Kd.R_drew)); exact (Kd.R_mono (Kd.R_far (p := ⟨gb136, 3, none⟩) (Kd.R_far (p := ⟨gb136, 2, none⟩) (Kd.R_far (p := ⟨gb136, 1, none⟩) (Kd.R_far (p := ⟨gb136, 0, none⟩) (Kd.R_mono HO135.out (fun k_ hk => (⟨hk, hk.2⟩ : _ ∧ k_ ≠ gb136))) (fun _ hk => hk.2) (.int .i64 3)) (fun _ hk => hk.2) (.int .i64 0)) (fun _ hk => hk.2) (.string (⟨#[]⟩ : ByteArray))) (fun _ hk => hk.2) (.slice Ao10 y133.length co10)) (fun _ h_ => h_.1))) hb); have n1_ := Aside0.mk (Kd.R_lower ho14 (below_size (by repeat (first | (with_reducible first | exact HB.out | apply below_alloc | apply pw_below_drewN | apply below_drew1 | refine below_set ?_ GE136.out) | exact HB.out)))); have n2_ := Aside0.mk (blk_below (g := gb136) (o := .cells #[.int .i64 3, .int .i64 0, .string (⟨#[]⟩ : ByteArray), .slice Ao10 y133.length co10] 34 (0, 0)) (by (with_reducible repeat (first | refine blk_drewN ?_ _ | refine blk_drew ?_ | refine blk_alloc ?_ _)); refine blk_put (cs := #[.int .i64 3, .int .i64 0, .string (⟨#[]⟩ : ByteArray), .slice none 0 0]) ?_ 3 _ rfl; (with_reducible repeat (first | refine blk_drewN ?_ _ | refine blk_drew ?_ | refine blk_alloc ?_ _)); refine blk_put (cs := #[.int .i64 3, .int .i64 0, .string (⟨#[]⟩ : ByteArray), .slice none 0 0]) ?_ 2 _ rfl; (with_reducible repeat (first | refine blk_drewN ?_ _ | refine blk_drew ?_ | refine blk_alloc ?_ _)); refine blk_put (cs := #[.int .i64 3, .int .i64 0, .string (⟨#[]⟩ : ByteArray), .slice none 0 0]) ?_ 1 _ rfl; (with_reducible repeat (first | refine blk_drewN ?_ _ | refine blk_drew ?_ | refine blk_alloc ?_ _)); refine blk_put (cs := #[.int .i64 0, .int .i64 0, .string (⟨#[]⟩ : ByteArray), .slice none 0 0]) ?_ 0 _ rfl; (with_reducible repeat (first | refine blk_drewN ?_ _ | refine blk_drew ?_ | refine blk_alloc ?_ _)); exact BK136.out) hb); have n3_ := Aside0.mk (below_step (by repeat (first | (with_reducible first | exact HB.out | apply below_alloc | apply pw_below_drewN | apply below_drew1 | refine below_set ?_ GE136.out) | exact HB.out)) hb); clear HO135; clear BK136; clear HB; have HO135 := n0_; have HO139 := n1_; have BK136 := n2_; have HB := n3_; clear n0_ n1_ n2_ n3_; clear hb ho14) | ((with_reducible refine gate_dst (N := 15) rfl ?_); refine Kd.R_lit (Kd.int .i64) _ 3 ?hg (N := 15) ?hd (xs := ([3] : List Int)) (inner := [.int .i64 3]) (ok := fun _ => True) (okp := fun _ => True) ?hr ?hp (fun _ hk => hk) trivial (Below.refl _ _) (Nat.le_refl _) (by simp) ?_; (case hd => rfl); (case hg => rfl); (case hr => first | (go_simp; done) | (go_simp; rfl)); (case hp => exact (Reps.one (show Kd.M (Kd.int .i64) _ _ _ 3 [.int .i64 3] from rfl) (Reps.none _ _))); intro v141 w15 ho16 hb hg_ hnew_; clear hg_ hnew_; (first | rw [← Ny140.out] at ho16 | (simp only [Int.reduceToNat] at ho16; rw [← Ny140.out] at ho16)); have n0_ := Aside0.mk (Kd.R_below (by (with_reducible repeat (first | apply Kd.R_alloc | apply Kd.R_drewN | apply Kd.R_drew)); exact HO135.out) hb); have n1_ := Aside0.mk (Kd.R_below (by (with_reducible repeat (first | apply Kd.R_alloc | apply Kd.R_drewN | apply Kd.R_drew)); exact HO139.out) hb); have n2_ := Aside0.mk (Kd.R_lower ho16 (below_size (by repeat (first | (with_reducible first | exact HB.out | apply below_alloc | apply pw_below_drewN | apply below_drew1 | refine below_set ?_ GE136.out) | exact HB.out)))); have n3_ := Aside0.mk (blk_below (g := gb136) (o := .cells #[.int .i64 3, .int .i64 0, .string (⟨#[]⟩ : ByteArray), .slice Ao10 y133.length co10] 34 (0, 0)) (by (with_reducible repeat (first | refine blk_drewN ?_ _ | refine blk_drew ?_ | refine blk_alloc ?_ _)); exact BK136.out) hb); have n4_ := Aside0.mk (below_step (by repeat (first | (with_reducible first | exact HB.out | apply below_alloc | apply pw_below_drewN | apply below_drew1 | refine below_set ?_ GE136.out) | exact HB.out)) hb); clear HO135; clear HO139; clear BK136; clear HB; have HO135 := n0_; have HO139 := n1_; have HO142 := n2_; have BK136 := n3_; have HB := n4_; clear n0_ n1_ n2_ n3_ n4_; clear hb ho16; obtain ⟨Ao17, co17, eo17⟩ := Kd.R_slice HO139.out; subst eo17; obtain ⟨Ao18, co18, eo18⟩ := Kd.R_slice HO142.out; subst eo18) | ((with_reducible refine gate_callee (f := 24) rfl ?_); refine goesL_ (some 16) rfl rfl Try.func24 (by kernel_rfl) rfl #[.agg #[.int .i64 3, .int .i64 0, .string (⟨#[]⟩ : ByteArray), .slice Ao10 y133.length co10], .slice Ao17 y137.length co17, .slice Ao18 y140.length co18, .int .i64 4] rfl (by (try simp only [List.map_toArray, List.map_cons, List.map_nil]); first | done | rfl | (simp only [List.length_drop, List.length_take]; rfl)) ?_; (with_reducible refine (eval_Expr.calls k 3 0 (⟨#[]⟩ : ByteArray) _ _ y133 _ _ y137 _ _ y140 4 t143 true _ ?side1 ?side2 ?side3 ?side4 ?side5 ?side6 A1.out).mono ?_); (case side1 => repeat (first | exact (Kd.R_reads' HO135.out).2.2 | (with_reducible refine Kd.C_alloc ?_ _) | (with_reducible refine Kd.C_drewN ?_ _) | (with_reducible refine Kd.C_drew ?_))); (case side2 => exact (Kd.R_reads' HO135.out).2.1); (case side3 => repeat (first | exact (Kd.R_reads' HO139.out).2.2 | (with_reducible refine Kd.C_alloc ?_ _) | (with_reducible refine Kd.C_drewN ?_ _) | (with_reducible refine Kd.C_drew ?_))); (case side4 => exact (Kd.R_reads' HO139.out).2.1); (case side5 => repeat (first | exact (Kd.R_reads' HO142.out).2.2 | (with_reducible refine Kd.C_alloc ?_ _) | (with_reducible refine Kd.C_drewN ?_ _) | (with_reducible refine Kd.C_drew ?_))); (case side6 => exact (Kd.R_reads' HO142.out).2.1); rintro e w19 ⟨rfl, hb⟩; refine ⟨_, rfl, ?_⟩; have n0_ := Aside0.mk (Kd.R_below (by (with_reducible repeat (first | apply Kd.R_alloc | apply Kd.R_drewN | apply Kd.R_drew)); exact HO135.out) hb); have n1_ := Aside0.mk (Kd.R_below (by (with_reducible repeat (first | apply Kd.R_alloc | apply Kd.R_drewN | apply Kd.R_drew)); exact HO139.out) hb); have n2_ := Aside0.mk (Kd.R_below (by (with_reducible repeat (first | apply Kd.R_alloc | apply Kd.R_drewN | apply Kd.R_drew)); exact HO142.out) hb); have n3_ := Aside0.mk (blk_below (g := gb136) (o := .cells #[.int .i64 3, .int .i64 0, .string (⟨#[]⟩ : ByteArray), .slice Ao10 y133.length co10] 34 (0, 0)) (by (with_reducible repeat (first | refine blk_drewN ?_ _ | refine blk_drew ?_ | refine blk_alloc ?_ _)); exact BK136.out) hb); have n4_ := Aside0.mk (below_step (by repeat (first | (with_reducible first | exact HB.out | apply below_alloc | apply pw_below_drewN | apply below_drew1 | refine below_set ?_ GE136.out) | exact HB.out)) hb); clear HO135; clear HO139; clear HO142; clear BK136; clear HB; have HO135 := n0_; have HO139 := n1_; have HO142 := n2_; have BK136 := n3_; have HB := n4_; clear n0_ n1_ n2_ n3_ n4_; (try clear hb); (try clear hb2); (try clear hgn); (try clear hk); (try clear hi); have hcz20_0 : w19.cell? ⟨gb136, 0, none⟩ = some (.int .i64 3) := (blk_cell BK136.out 0).trans rfl; have hcz20_1 : w19.cell? ⟨gb136, 1, none⟩ = some (.int .i64 0) := (blk_cell BK136.out 1).trans rfl; have hcz20_2 : w19.cell? ⟨gb136, 2, none⟩ = some (.string (⟨#[]⟩ : ByteArray)) := (blk_cell BK136.out 2).trans rfl; have hcz20_3 : w19.cell? ⟨gb136, 3, none⟩ = some (.slice Ao10 y133.length co10) := (blk_cell BK136.out 3).trans rfl; have hfz20_0 := blk_frozen BK136.out 0; have hfz20_1 := blk_frozen BK136.out 1; have hfz20_2 := blk_frozen BK136.out 2; have hfz20_3 := blk_frozen BK136.out 3) | (go_at_call 24; (with_reducible refine (eval_Expr.calls k 3 0 (⟨#[]⟩ : ByteArray) _ _ y133 _ _ y137 _ _ y140 4 t143 true _ ?side1 ?side2 ?side3 ?side4 ?side5 ?side6 A1.out).mono ?_); (case side1 => repeat (first | exact (Kd.R_reads' HO135.out).2.2 | (with_reducible refine Kd.C_alloc ?_ _) | (with_reducible refine Kd.C_drewN ?_ _) | (with_reducible refine Kd.C_drew ?_))); (case side2 => exact (Kd.R_reads' HO135.out).2.1); (case side3 => repeat (first | exact (Kd.R_reads' HO139.out).2.2 | (with_reducible refine Kd.C_alloc ?_ _) | (with_reducible refine Kd.C_drewN ?_ _) | (with_reducible refine Kd.C_drew ?_))); (case side4 => exact (Kd.R_reads' HO139.out).2.1); (case side5 => repeat (first | exact (Kd.R_reads' HO142.out).2.2 | (with_reducible refine Kd.C_alloc ?_ _) | (with_reducible refine Kd.C_drewN ?_ _) | (with_reducible refine Kd.C_drew ?_))); (case side6 => exact (Kd.R_reads' HO142.out).2.1); rintro e w19 ⟨rfl, hb⟩; have n0_ := Aside0.mk (Kd.R_below (by (with_reducible repeat (first | apply Kd.R_alloc | apply Kd.R_drewN | apply Kd.R_drew)); exact HO135.out) hb); have n1_ := Aside0.mk (Kd.R_below (by (with_reducible repeat (first | apply Kd.R_alloc | apply Kd.R_drewN | apply Kd.R_drew)); exact HO139.out) hb); have n2_ := Aside0.mk (Kd.R_below (by (with_reducible repeat (first | apply Kd.R_alloc | apply Kd.R_drewN | apply Kd.R_drew)); exact HO142.out) hb); have n3_ := Aside0.mk (blk_below (g := gb136) (o := .cells #[.int .i64 3, .int .i64 0, .string (⟨#[]⟩ : ByteArray), .slice Ao10 y133.length co10] 34 (0, 0)) (by (with_reducible repeat (first | refine blk_drewN ?_ _ | refine blk_drew ?_ | refine blk_alloc ?_ _)); exact BK136.out) hb); have n4_ := Aside0.mk (below_step (by repeat (first | (with_reducible first | exact HB.out | apply below_alloc | apply pw_below_drewN | apply below_drew1 | refine below_set ?_ GE136.out) | exact HB.out)) hb); clear HO135; clear HO139; clear HO142; clear BK136; clear HB; have HO135 := n0_; have HO139 := n1_; have HO142 := n2_; have BK136 := n3_; have HB := n4_; clear n0_ n1_ n2_ n3_ n4_; (try clear hb); (try clear hb2); (try clear hgn); (try clear hk); (try clear hi); have hcz20_0 : w19.cell? ⟨gb136, 0, none⟩ = some (.int .i64 3) := (blk_cell BK136.out 0).trans rfl; have hcz20_1 : w19.cell? ⟨gb136, 1, none⟩ = some (.int .i64 0) := (blk_cell BK136.out 1).trans rfl; have hcz20_2 : w19.cell? ⟨gb136, 2, none⟩ = some (.string (⟨#[]⟩ : ByteArray)) := (blk_cell BK136.out 2).trans rfl; have hcz20_3 : w19.cell? ⟨gb136, 3, none⟩ = some (.slice Ao10 y133.length co10) := (blk_cell BK136.out 3).trans rfl; have hfz20_0 := blk_frozen BK136.out 0; have hfz20_1 := blk_frozen BK136.out 1; have hfz20_2 := blk_frozen BK136.out 2; have hfz20_3 := blk_frozen BK136.out 3) | ((with_reducible refine gate_callee (f := 24) rfl ?_); refine goesL_ (some 21) rfl rfl Try.func24 (by kernel_rfl) rfl #[.agg #[.int .i64 3, .int .i64 0, .string (⟨#[]⟩ : ByteArray), .slice Ao10 y133.length co10], .slice none 0 0, .slice none 0 0, .int .i64 4] rfl (by (try simp only [List.map_toArray, List.map_cons, List.map_nil]); first | done | rfl | (simp only [List.length_drop, List.length_take]; rfl)) ?_; (refine (eval_Expr.calls k 3 0 (⟨#[]⟩ : ByteArray) _ _ y133 _ _ ([] : List ByteArray) _ _ ([] : List Int) 4 t145 false _ ?side1 ?side2 ?side3 ?side4 ?side5 ?side6 A2.out).mono ?_); (case side1 => repeat (first | exact (Kd.R_reads' HO135.out).2.2 | (with_reducible refine Kd.C_alloc ?_ _) | (with_reducible refine Kd.C_drewN ?_ _) | (with_reducible refine Kd.C_drew ?_))); (case side2 => exact (Kd.R_reads' HO135.out).2.1); (case side3 => exact Kd.C_nil _ _); (case side4 => exact Nat.le_refl _); (case side5 => exact Kd.C_nil _ _); (case side6 => exact Nat.le_refl _); rintro e w21 ⟨rfl, hb⟩; refine ⟨_, rfl, ?_⟩; have n0_ := Aside0.mk (Kd.R_below (by (with_reducible repeat (first | apply Kd.R_alloc | apply Kd.R_drewN | apply Kd.R_drew)); exact HO135.out) hb); have n1_ := Aside0.mk (Kd.R_below (by (with_reducible repeat (first | apply Kd.R_alloc | apply Kd.R_drewN | apply Kd.R_drew)); exact HO139.out) hb); have n2_ := Aside0.mk (Kd.R_below (by (with_reducible repeat (first | apply Kd.R_alloc | apply Kd.R_drewN | apply Kd.R_drew)); exact HO142.out) hb); have n3_ := Aside0.mk (blk_below (g := gb136) (o := .cells #[.int .i64 3, .int .i64 0, .string (⟨#[]⟩ : ByteArray), .slice Ao10 y133.length co10] 34 (0, 0)) (by (with_reducible repeat (first | refine blk_drewN ?_ _ | refine blk_drew ?_ | refine blk_alloc ?_ _)); exact BK136.out) hb); have n4_ := Aside0.mk (below_step (by repeat (first | (with_reducible first | exact HB.out | apply below_alloc | apply pw_below_drewN | apply below_drew1 | refine below_set ?_ GE136.out) | exact HB.out)) hb); clear HO135; clear HO139; clear HO142; clear BK136; clear HB; have HO135 := n0_; have HO139 := n1_; have HO142 := n2_; have BK136 := n3_; have HB := n4_; clear n0_ n1_ n2_ n3_ n4_; (try clear hb); (try clear hb2); (try clear hgn); (try clear hk); (try clear hi); have hcz22_0 : w21.cell? ⟨gb136, 0, none⟩ = some (.int .i64 3) := (blk_cell BK136.out 0).trans rfl; have hcz22_1 : w21.cell? ⟨gb136, 1, none⟩ = some (.int .i64 0) := (blk_cell BK136.out 1).trans rfl; have hcz22_2 : w21.cell? ⟨gb136, 2, none⟩ = some (.string (⟨#[]⟩ : ByteArray)) := (blk_cell BK136.out 2).trans rfl; have hcz22_3 : w21.cell? ⟨gb136, 3, none⟩ = some (.slice Ao10 y133.length co10) := (blk_cell BK136.out 3).trans rfl; have hfz22_0 := blk_frozen BK136.out 0; have hfz22_1 := blk_frozen BK136.out 1; have hfz22_2 := blk_frozen BK136.out 2; have hfz22_3 := blk_frozen BK136.out 3) | (go_at_call 24; (refine (eval_Expr.calls k 3 0 (⟨#[]⟩ : ByteArray) _ _ y133 _ _ ([] : List ByteArray) _ _ ([] : List Int) 4 t145 false _ ?side1 ?side2 ?side3 ?side4 ?side5 ?side6 A2.out).mono ?_); (case side1 => repeat (first | exact (Kd.R_reads' HO135.out).2.2 | (with_reducible refine Kd.C_alloc ?_ _) | (with_reducible refine Kd.C_drewN ?_ _) | (with_reducible refine Kd.C_drew ?_))); (case side2 => exact (Kd.R_reads' HO135.out).2.1); (case side3 => exact Kd.C_nil _ _); (case side4 => exact Nat.le_refl _); (case side5 => exact Kd.C_nil _ _); (case side6 => exact Nat.le_refl _); rintro e w21 ⟨rfl, hb⟩; have n0_ := Aside0.mk (Kd.R_below (by (with_reducible repeat (first | apply Kd.R_alloc | apply Kd.R_drewN | apply Kd.R_drew)); exact HO135.out) hb); have n1_ := Aside0.mk (Kd.R_below (by (with_reducible repeat (first | apply Kd.R_alloc | apply Kd.R_drewN | apply Kd.R_drew)); exact HO139.out) hb); have n2_ := Aside0.mk (Kd.R_below (by (with_reducible repeat (first | apply Kd.R_alloc | apply Kd.R_drewN | apply Kd.R_drew)); exact HO142.out) hb); have n3_ := Aside0.mk (blk_below (g := gb136) (o := .cells #[.int .i64 3, .int .i64 0, .string (⟨#[]⟩ : ByteArray), .slice Ao10 y133.length co10] 34 (0, 0)) (by (with_reducible repeat (first | refine blk_drewN ?_ _ | refine blk_drew ?_ | refine blk_alloc ?_ _)); exact BK136.out) hb); have n4_ := Aside0.mk (below_step (by repeat (first | (with_reducible first | exact HB.out | apply below_alloc | apply pw_below_drewN | apply below_drew1 | refine below_set ?_ GE136.out) | exact HB.out)) hb); clear HO135; clear HO139; clear HO142; clear BK136; clear HB; have HO135 := n0_; have HO139 := n1_; have HO142 := n2_; have BK136 := n3_; have HB := n4_; clear n0_ n1_ n2_ n3_ n4_; (try clear hb); (try clear hb2); (try clear hgn); (try clear hk); (try clear hi); have hcz22_0 : w21.cell? ⟨gb136, 0, none⟩ = some (.int .i64 3) := (blk_cell BK136.out 0).trans rfl; have hcz22_1 : w21.cell? ⟨gb136, 1, none⟩ = some (.int .i64 0) := (blk_cell BK136.out 1).trans rfl; have hcz22_2 : w21.cell? ⟨gb136, 2, none⟩ = some (.string (⟨#[]⟩ : ByteArray)) := (blk_cell BK136.out 2).trans rfl; have hcz22_3 : w21.cell? ⟨gb136, 3, none⟩ = some (.slice Ao10 y133.length co10) := (blk_cell BK136.out 3).trans rfl; have hfz22_0 := blk_frozen BK136.out 0; have hfz22_1 := blk_frozen BK136.out 1; have hfz22_2 := blk_frozen BK136.out 2; have hfz22_3 := blk_frozen BK136.out 3) | ((with_reducible refine gate_dst (N := 26) rfl ?_); refine Kd.R_lit Kd.string _ 9 ?hg (N := 26) ?hd (xs := ([(⟨#[114]⟩ : ByteArray)] : List ByteArray)) (inner := [.string (⟨#[114]⟩ : ByteArray)]) (ok := fun _ => True) (okp := fun _ => True) ?hr ?hp (fun _ hk => hk) trivial (Below.refl _ _) (Nat.le_refl _) (by simp) ?_; (case hd => rfl); (case hg => rfl); (case hr => first | (go_simp; done) | (go_simp; rfl)); (case hp => exact (Reps.one (show Kd.M Kd.string _ _ _ (⟨#[114]⟩ : ByteArray) [.string (⟨#[114]⟩ : ByteArray)] from rfl) (Reps.none _ _))); intro v148 w23 ho24 hb hg_ hnew_; clear hg_ hnew_; (first | rw [← Ny147.out] at ho24 | (simp only [Int.reduceToNat] at ho24; rw [← Ny147.out] at ho24)); have n0_ := Aside0.mk (Kd.R_below (by (with_reducible repeat (first | apply Kd.R_alloc | apply Kd.R_drewN | apply Kd.R_drew)); exact HO135.out) hb); have n1_ := Aside0.mk (Kd.R_elder' (by (with_reducible repeat (first | apply Kd.R_alloc | apply Kd.R_drewN | apply Kd.R_drew)); exact HO139.out) (Kd.R_base ho24) hb); have n2_ := Aside0.mk (Kd.R_below (by (with_reducible repeat (first | apply Kd.R_alloc | apply Kd.R_drewN | apply Kd.R_drew)); exact HO142.out) hb); have n3_ := Aside0.mk (Kd.R_lower (Kd.R_new' ho24 (Kd.R_lt (by (with_reducible repeat (first | apply Kd.R_alloc | apply Kd.R_drewN | apply Kd.R_drew)); exact HO139.out))) (below_size (by repeat (first | (with_reducible first | exact HB.out | apply below_alloc | apply pw_below_drewN | apply below_drew1 | refine below_set ?_ GE136.out) | exact HB.out)))); have n4_ := Aside0.mk (blk_below (g := gb136) (o := .cells #[.int .i64 3, .int .i64 0, .string (⟨#[]⟩ : ByteArray), .slice Ao10 y133.length co10] 34 (0, 0)) (by (with_reducible repeat (first | refine blk_drewN ?_ _ | refine blk_drew ?_ | refine blk_alloc ?_ _)); exact BK136.out) hb); have n5_ := Aside0.mk (below_step (by repeat (first | (with_reducible first | exact HB.out | apply below_alloc | apply pw_below_drewN | apply below_drew1 | refine below_set ?_ GE136.out) | exact HB.out)) hb); clear HO135; clear HO139; clear HO142; clear BK136; clear HB; have HO135 := n0_; have HO139 := n1_; have HO142 := n2_; have HO149 := n3_; have BK136 := n4_; have HB := n5_; clear n0_ n1_ n2_ n3_ n4_ n5_; clear hb ho24) | ((with_reducible refine gate_dst (N := 27) rfl ?_); refine Kd.R_lit (Kd.int .i64) _ 3 ?hg (N := 27) ?hd (xs := ([3] : List Int)) (inner := [.int .i64 3]) (ok := fun _ => True) (okp := fun _ => True) ?hr ?hp (fun _ hk => hk) trivial (Below.refl _ _) (Nat.le_refl _) (by simp) ?_; (case hd => rfl); (case hg => rfl); (case hr => first | (go_simp; done) | (go_simp; rfl)); (case hp => exact (Reps.one (show Kd.M (Kd.int .i64) _ _ _ 3 [.int .i64 3] from rfl) (Reps.none _ _))); intro v151 w25 ho26 hb hg_ hnew_; clear hg_ hnew_; (first | rw [← Ny150.out] at ho26 | (simp only [Int.reduceToNat] at ho26; rw [← Ny150.out] at ho26)); have n0_ := Aside0.mk (Kd.R_below (by (with_reducible repeat (first | apply Kd.R_alloc | apply Kd.R_drewN | apply Kd.R_drew)); exact HO135.out) hb); have n1_ := Aside0.mk (Kd.R_below (by (with_reducible repeat (first | apply Kd.R_alloc | apply Kd.R_drewN | apply Kd.R_drew)); exact HO139.out) hb); have n2_ := Aside0.mk (Kd.R_elder' (by (with_reducible repeat (first | apply Kd.R_alloc | apply Kd.R_drewN | apply Kd.R_drew)); exact HO142.out) (Kd.R_base ho26) hb); have n3_ := Aside0.mk (Kd.R_below (by (with_reducible repeat (first | apply Kd.R_alloc | apply Kd.R_drewN | apply Kd.R_drew)); exact HO149.out) hb); have n4_ := Aside0.mk (Kd.R_lower (Kd.R_new' ho26 (Kd.R_lt (by (with_reducible repeat (first | apply Kd.R_alloc | apply Kd.R_drewN | apply Kd.R_drew)); exact HO142.out))) (below_size (by repeat (first | (with_reducible first | exact HB.out | apply below_alloc | apply pw_below_drewN | apply below_drew1 | refine below_set ?_ GE136.out) | exact HB.out)))); have n5_ := Aside0.mk (blk_below (g := gb136) (o := .cells #[.int .i64 3, .int .i64 0, .string (⟨#[]⟩ : ByteArray), .slice Ao10 y133.length co10] 34 (0, 0)) (by (with_reducible repeat (first | refine blk_drewN ?_ _ | refine blk_drew ?_ | refine blk_alloc ?_ _)); exact BK136.out) hb); have n6_ := Aside0.mk (below_step (by repeat (first | (with_reducible first | exact HB.out | apply below_alloc | apply pw_below_drewN | apply below_drew1 | refine below_set ?_ GE136.out) | exact HB.out)) hb); clear HO135; clear HO139; clear HO142; clear HO149; clear BK136; clear HB; have HO135 := n0_; have HO139 := n1_; have HO142 := n2_; have HO149 := n3_; have HO152 := n4_; have BK136 := n5_; have HB := n6_; clear n0_ n1_ n2_ n3_ n4_ n5_ n6_; clear hb ho26; obtain ⟨Ao27, co27, eo27⟩ := Kd.R_slice HO149.out; subst eo27; obtain ⟨Ao28, co28, eo28⟩ := Kd.R_slice HO152.out; subst eo28) | ((with_reducible refine gate_callee (f := 26) rfl ?_); refine goesL_ (some 28) rfl rfl Try.func26 (by kernel_rfl) rfl #[.agg #[.int .i64 3, .int .i64 0, .string (⟨#[]⟩ : ByteArray), .slice Ao10 y133.length co10], .slice Ao27 y147.length co27, .slice Ao28 y150.length co28, .int .i64 4] rfl (by (try simp only [List.map_toArray, List.map_cons, List.map_nil]); first | done | rfl | (simp only [List.length_drop, List.length_take]; rfl)) ?_; (with_reducible refine (eval_True.calls k 3 0 (⟨#[]⟩ : ByteArray) _ _ y133 _ _ y147 _ _ y150 4 false t154 _ ?side1 ?side2 ?side3 ?side4 ?side5 ?side6 A3.out).mono ?_); (case side1 => repeat (first | exact (Kd.R_reads' HO135.out).2.2 | (with_reducible refine Kd.C_alloc ?_ _) | (with_reducible refine Kd.C_drewN ?_ _) | (with_reducible refine Kd.C_drew ?_))); (case side2 => exact (Kd.R_reads' HO135.out).2.1); (case side3 => repeat (first | exact (Kd.R_reads' HO149.out).2.2 | (with_reducible refine Kd.C_alloc ?_ _) | (with_reducible refine Kd.C_drewN ?_ _) | (with_reducible refine Kd.C_drew ?_))); (case side4 => exact (Kd.R_reads' HO149.out).2.1); (case side5 => repeat (first | exact (Kd.R_reads' HO152.out).2.2 | (with_reducible refine Kd.C_alloc ?_ _) | (with_reducible refine Kd.C_drewN ?_ _) | (with_reducible refine Kd.C_drew ?_))); (case side6 => exact (Kd.R_reads' HO152.out).2.1); rintro e w29 ⟨rfl, hb⟩; refine ⟨_, rfl, ?_⟩; have n0_ := Aside0.mk (Kd.R_below (by (with_reducible repeat (first | apply Kd.R_alloc | apply Kd.R_drewN | apply Kd.R_drew)); exact HO135.out) hb); have n1_ := Aside0.mk (Kd.R_below (by (with_reducible repeat (first | apply Kd.R_alloc | apply Kd.R_drewN | apply Kd.R_drew)); exact HO139.out) hb); have n2_ := Aside0.mk (Kd.R_below (by (with_reducible repeat (first | apply Kd.R_alloc | apply Kd.R_drewN | apply Kd.R_drew)); exact HO142.out) hb); have n3_ := Aside0.mk (Kd.R_below (by (with_reducible repeat (first | apply Kd.R_alloc | apply Kd.R_drewN | apply Kd.R_drew)); exact HO149.out) hb); have n4_ := Aside0.mk (Kd.R_below (by (with_reducible repeat (first | apply Kd.R_alloc | apply Kd.R_drewN | apply Kd.R_drew)); exact HO152.out) hb); have n5_ := Aside0.mk (blk_below (g := gb136) (o := .cells #[.int .i64 3, .int .i64 0, .string (⟨#[]⟩ : ByteArray), .slice Ao10 y133.length co10] 34 (0, 0)) (by (with_reducible repeat (first | refine blk_drewN ?_ _ | refine blk_drew ?_ | refine blk_alloc ?_ _)); exact BK136.out) hb); have n6_ := Aside0.mk (below_step (by repeat (first | (with_reducible first | exact HB.out | apply below_alloc | apply pw_below_drewN | apply below_drew1 | refine below_set ?_ GE136.out) | exact HB.out)) hb); clear HO135; clear HO139; clear HO142; clear HO149; clear HO152; clear BK136; clear HB; have HO135 := n0_; have HO139 := n1_; have HO142 := n2_; have HO149 := n3_; have HO152 := n4_; have BK136 := n5_; have HB := n6_; clear n0_ n1_ n2_ n3_ n4_ n5_ n6_; (try clear hb); (try clear hb2); (try clear hgn); (try clear hk); (try clear hi)) | (go_at_call 26; (with_reducible refine (eval_True.calls k 3 0 (⟨#[]⟩ : ByteArray) _ _ y133 _ _ y147 _ _ y150 4 false t154 _ ?side1 ?side2 ?side3 ?side4 ?side5 ?side6 A3.out).mono ?_); (case side1 => repeat (first | exact (Kd.R_reads' HO135.out).2.2 | (with_reducible refine Kd.C_alloc ?_ _) | (with_reducible refine Kd.C_drewN ?_ _) | (with_reducible refine Kd.C_drew ?_))); (case side2 => exact (Kd.R_reads' HO135.out).2.1); (case side3 => repeat (first | exact (Kd.R_reads' HO149.out).2.2 | (with_reducible refine Kd.C_alloc ?_ _) | (with_reducible refine Kd.C_drewN ?_ _) | (with_reducible refine Kd.C_drew ?_))); (case side4 => exact (Kd.R_reads' HO149.out).2.1); (case side5 => repeat (first | exact (Kd.R_reads' HO152.out).2.2 | (with_reducible refine Kd.C_alloc ?_ _) | (with_reducible refine Kd.C_drewN ?_ _) | (with_reducible refine Kd.C_drew ?_))); (case side6 => exact (Kd.R_reads' HO152.out).2.1); rintro e w29 ⟨rfl, hb⟩; have n0_ := Aside0.mk (Kd.R_below (by (with_reducible repeat (first | apply Kd.R_alloc | apply Kd.R_drewN | apply Kd.R_drew)); exact HO135.out) hb); have n1_ := Aside0.mk (Kd.R_below (by (with_reducible repeat (first | apply Kd.R_alloc | apply Kd.R_drewN | apply Kd.R_drew)); exact HO139.out) hb); have n2_ := Aside0.mk (Kd.R_below (by (with_reducible repeat (first | apply Kd.R_alloc | apply Kd.R_drewN | apply Kd.R_drew)); exact HO142.out) hb); have n3_ := Aside0.mk (Kd.R_below (by (with_reducible repeat (first | apply Kd.R_alloc | apply Kd.R_drewN | apply Kd.R_drew)); exact HO149.out) hb); have n4_ := Aside0.mk (Kd.R_below (by (with_reducible repeat (first | apply Kd.R_alloc | apply Kd.R_drewN | apply Kd.R_drew)); exact HO152.out) hb); have n5_ := Aside0.mk (blk_below (g := gb136) (o := .cells #[.int .i64 3, .int .i64 0, .string (⟨#[]⟩ : ByteArray), .slice Ao10 y133.length co10] 34 (0, 0)) (by (with_reducible repeat (first | refine blk_drewN ?_ _ | refine blk_drew ?_ | refine blk_alloc ?_ _)); exact BK136.out) hb); have n6_ := Aside0.mk (below_step (by repeat (first | (with_reducible first | exact HB.out | apply below_alloc | apply pw_below_drewN | apply below_drew1 | refine below_set ?_ GE136.out) | exact HB.out)) hb); clear HO135; clear HO139; clear HO142; clear HO149; clear HO152; clear BK136; clear HB; have HO135 := n0_; have HO139 := n1_; have HO142 := n2_; have HO149 := n3_; have HO152 := n4_; have BK136 := n5_; have HB := n6_; clear n0_ n1_ n2_ n3_ n4_ n5_ n6_; (try clear hb); (try clear hb2); (try clear hgn); (try clear hk); (try clear hi)))
          go_ret
          exact ⟨by first | rfl | (simp [errW_none, errW_some] <;> rfl) | (simp [*, errW_none, errW_some] <;> rfl), by repeat (first | (with_reducible first | exact HB.out | apply below_alloc | apply pw_below_drewN | apply below_drew1 | refine below_set ?_ GE136.out) | exact HB.out)⟩
    · replace c5 := Bool.eq_false_iff.mpr c5
      subst c5
      have H1 : (none) = some r := by rw [if_neg (show ¬ (false = true) by decide)] at H; exact H
      clear H
      have H := H1
      clear H1
      exact absurd H (by simp)
  · rw [if_neg c4] at H
    exact absurd H (by simp)

/-- A state of type 60 at block g of W; what its slices lead to came in by w0. -/
def IsS60 (w0 W : World) (g : Nat) (f0 : List Int) (f1 : Int) : Prop := ∃ A0 c0, W.heap[g]? = some (.cells #[.slice A0 f0.length c0, .int .i64 f1] 60 (0, 0)) ∧ w0.heap.size ≤ g ∧ Kd.C (Kd.int .u8) w0 A0 f0.length f0
theorem IsS60.grown {w0 W : World} {g : Nat} {f0 : List Int} {f1 : Int} {W1 : World} {row : Option Nat} (h : IsS60 w0 W g f0 f1) (hw : W.grownBy W1 row) (hne : some g ≠ row) : IsS60 w0 W1 g f0 f1 := by
  obtain ⟨A0, c0, hb, hg, hr0⟩ := h
  exact ⟨A0, c0, blk_grown hb hw hne, hg, hr0⟩
theorem IsS60.own_neN {w0 W : World} {g : Nat} {f0 : List Int} {f1 : Int} {α : Type} {d : Kd α} {e : Nat} {base : Nat} {ok : Nat → Prop} {v : Value} {xs : List α} (h : IsS60 w0 W g f0 f1) (ho : Kd.N d e W base ok v xs) (ht : e ≠ 60) : some g ≠ v.ownBlock := by
  obtain ⟨A0, c0, hb, hg, hr0⟩ := h
  exact Kd.N_ne ho hb ht
theorem IsS60.fresh {w0 W : World} {g : Nat} {f0 : List Int} {f1 : Int} (h : IsS60 w0 W g f0 f1) : ∀ k, W.heap.size ≤ k → k ≠ g := by
  obtain ⟨A0, c0, hb, hg, hr0⟩ := h
  exact Kd.freshB hb
theorem IsS60.kept {w0 W : World} {g : Nat} {f0 : List Int} {f1 : Int} {W1 : World} {S : Nat → Prop} (h : IsS60 w0 W g f0 f1) (hk : Kept W W1 S) (hne : ¬ S g) : IsS60 w0 W1 g f0 f1 := by
  obtain ⟨A0, c0, hb, hg, hr0⟩ := h
  exact ⟨A0, c0, blk_kept hb hk hne, hg, hr0⟩
theorem IsS60.below {w0 W : World} {g : Nat} {f0 : List Int} {f1 : Int} {W1 : World} (h : IsS60 w0 W g f0 f1) (hw : Below W.heap.size W W1) : IsS60 w0 W1 g f0 f1 := h.grown (grown_of_below hw none) (by simp)
theorem IsS60.alloc {w0 W : World} {g : Nat} {f0 : List Int} {f1 : Int} (h : IsS60 w0 W g f0 f1) (o : Obj) : IsS60 w0 (W.alloc o) g f0 f1 := h.below (below_alloc (Below.refl _ _) o)
theorem IsS60.drewN {w0 W : World} {g : Nat} {f0 : List Int} {f1 : Int} (h : IsS60 w0 W g f0 f1) (m : Nat) : IsS60 w0 (W.drewN m) g f0 f1 := h
theorem IsS60.drew {w0 W : World} {g : Nat} {f0 : List Int} {f1 : Int} (h : IsS60 w0 W g f0 f1) : IsS60 w0 W.drew g f0 f1 := h
theorem IsS60.at_ {w0 W : World} {g : Nat} {f0 : List Int} {f1 : Int} {w' : World} {m : Nat} (hq : W.drewN m = w') (h : IsS60 w0 W g f0 f1) : IsS60 w0 w' g f0 f1 := by subst hq; exact IsS60.drewN h m
theorem IsS60.apart {w0 W : World} {g : Nat} {f0 : List Int} {f1 : Int} {α : Type} {d : Kd α} {e : Nat} {base : Nat} {ok : Nat → Prop} {v : Value} {xs : List α} (h : IsS60 w0 W g f0 f1) (ho : d.R e W base ok v xs) (ht : ∀ q, q ∈ e :: d.E → q ≠ 60) : d.R e W base (fun k => ok k ∧ k ≠ g) v xs := by
  obtain ⟨A0, c0, hb, hg, hr0⟩ := h
  exact Kd.R_types ho hb ht
theorem IsS60.own_ne {w0 W : World} {g : Nat} {f0 : List Int} {f1 : Int} {α : Type} {d : Kd α} {e : Nat} {base : Nat} {ok : Nat → Prop} {v : Value} {xs : List α} (h : IsS60 w0 W g f0 f1) (ho : d.R e W base ok v xs) (ht : e ≠ 60) : some g ≠ v.ownBlock := by
  obtain ⟨A0, c0, hb, hg, hr0⟩ := h
  exact Kd.R_ne ho hb ht
theorem IsS60.apartQ {w0 W : World} {g : Nat} {f0 : List Int} {f1 : Int} {α : Type} {d : Kd α} {e : Nat} {base : Nat} {ok : Nat → Prop} {v : Value} {xs : List α} (h : IsS60 w0 W g f0 f1) (ho : d.Q e W base ok v xs) (ht : ∀ q, q ∈ e :: d.E → q ≠ 60) : d.Q e W base (fun k => ok k ∧ k ≠ g) v xs := by
  obtain ⟨A0, c0, hb, hg, hr0⟩ := h
  exact Kd.Q_types ho hb ht
theorem IsS60.own_neQ {w0 W : World} {g : Nat} {f0 : List Int} {f1 : Int} {α : Type} {d : Kd α} {e : Nat} {base : Nat} {ok : Nat → Prop} {v : Value} {xs : List α} (h : IsS60 w0 W g f0 f1) (ho : d.Q e W base ok v xs) (ht : e ≠ 60) : some g ≠ v.ownBlock := by
  obtain ⟨A0, c0, hb, hg, hr0⟩ := h
  exact Kd.Q_ne ho hb ht
theorem IsS60.apartS {w0 W : World} {g : Nat} {f0 : List Int} {f1 : Int} {α : Type} {d : Kd α} {e : Nat} {base : Nat} {ok : Nat → Prop} {v : Value} {xs : List α} (h : IsS60 w0 W g f0 f1) (ho : d.S e W base ok v xs) (ht : ∀ q, q ∈ e :: d.E → q ≠ 60) : d.S e W base (fun k => ok k ∧ k ≠ g) v xs := by
  obtain ⟨A0, c0, hb, hg, hr0⟩ := h
  exact Kd.S_types ho hb ht
theorem IsS60.own_neS {w0 W : World} {g : Nat} {f0 : List Int} {f1 : Int} {α : Type} {d : Kd α} {e : Nat} {base : Nat} {ok : Nat → Prop} {v : Value} {xs : List α} (h : IsS60 w0 W g f0 f1) (ho : d.S e W base ok v xs) (ht : e ≠ 60) : some g ≠ v.ownBlock := by
  obtain ⟨A0, c0, hb, hg, hr0⟩ := h
  exact Kd.S_ne ho hb ht
theorem IsS60.lt {w0 W : World} {g : Nat} {f0 : List Int} {f1 : Int} (h : IsS60 w0 W g f0 f1) : g < W.heap.size := by
  obtain ⟨A0, c0, hb, hg, hr0⟩ := h
  exact blk_lt hb
theorem IsS60.ge {w0 W : World} {g : Nat} {f0 : List Int} {f1 : Int} (h : IsS60 w0 W g f0 f1) : w0.heap.size ≤ g := by
  obtain ⟨A0, c0, hb, hg, hr0⟩ := h
  exact hg
theorem IsS60.ne_blk {w0 W : World} {g : Nat} {f0 : List Int} {f1 : Int} {a : Nat} {cs : Array Value} {t : TypeId} {fr : Nat × Nat} (h : IsS60 w0 W g f0 f1) (hb2 : W.heap[a]? = some (.cells cs t fr)) (ht : t ≠ 60) : g ≠ a := by
  obtain ⟨A0, c0, hb, hg, hr0⟩ := h
  rintro rfl
  rw [hb] at hb2
  injection hb2 with hb2
  injection hb2 with _ ht2
  exact ht ht2.symm
theorem IsS60.far {w0 W : World} {g : Nat} {f0 : List Int} {f1 : Int} {p : Addr} (h : IsS60 w0 W g f0 f1) (hne : g ≠ p.block) (u : Value) : IsS60 w0 (W.setCell p u) g f0 f1 := by
  obtain ⟨A0, c0, hb, hg, hr0⟩ := h
  exact ⟨A0, c0, blk_far hb hne u, hg, hr0⟩
theorem cellS60_0 {W : World} {g : Nat} {A0 : Option Addr} {c0 : Nat} {f0 : List Int} {f1 : Int} (h : W.heap[g]? = some (.cells #[.slice A0 f0.length c0, .int .i64 f1] 60 (0, 0))) : W.cell? ⟨g, 0, none⟩ = some (.slice A0 f0.length c0) := (blk_cell h 0).trans rfl
theorem cellS60_1 {W : World} {g : Nat} {A0 : Option Addr} {c0 : Nat} {f0 : List Int} {f1 : Int} (h : W.heap[g]? = some (.cells #[.slice A0 f0.length c0, .int .i64 f1] 60 (0, 0))) : W.cell? ⟨g, 1, none⟩ = some (.int .i64 f1) := (blk_cell h 1).trans rfl
theorem IsS60.set_1 {w0 W : World} {g : Nat} {f0 : List Int} {f1 : Int} (h : IsS60 w0 W g f0 f1) (x : Int) : IsS60 w0 (W.setCell ⟨g, 1, none⟩ (.int .i64 x)) g f0 x := by
  obtain ⟨A0, c0, hb, hg, hr0⟩ := h
  exact ⟨A0, c0, by simpa using blk_set hb 1 (.int .i64 x), hg, hr0⟩
theorem IsS60.new (w0 W : World) (A0 : Option Addr) (c0 : Nat) (f0 : List Int) (f1 : Int) (hB : Below w0.heap.size w0 W) (hr0 : Kd.C (Kd.int .u8) w0 A0 f0.length f0) : IsS60 w0 (W.alloc (.cells #[.slice A0 f0.length c0, .int .i64 f1] 60)) W.heap.size f0 f1 := ⟨A0, c0, by simpa using heap_alloc_new W _, hB.size, hr0⟩

/-! ### withemade_Made: function 27 -/
def withemade_Made.f (l0 : List Int) : Option (List Int × Int) := some (l0, 0)
set_option maxHeartbeats 8000000 in
set_option maxRecDepth 100000 in
theorem withemade_Made.calls (A0 : Option Addr) (c0 : Nat) (l0 : List Int) (r1 : List Int) (r2 : Int) (w0 w : World) (hB : Below w0.heap.size w0 w) (hr0 : Kd.C (Kd.int .u8) w0 A0 l0.length l0) (hc0 : l0.length ≤ c0) (h : withemade_Made.f l0 = some (r1, r2)) :
    Calls Try.prog 27 #[.slice A0 l0.length c0] w fun e w' => ∃ g_ : Nat, e = .returned (.pointer (some ⟨g_, 0, none⟩)) ∧ IsS60 w0 w' g_ r1 r2 ∧ Below w0.heap.size w0 w' ∧ Below w.heap.size w w' ∧ w.heap.size ≤ g_ := by
  have hu60 := Try.underlying60
  have HR0 := Aside0.mk hr0
  have HC0 := Aside0.mk hc0
  clear hr0 hc0
  have HBW := Aside0.mk (Below.refl w.heap.size w)
  have HW0 := Aside0.mk hB.size
  have HB := Aside0.mk hB
  clear hB
  have H : (some (l0, 0)) = some (r1, r2) := h
  clear h
  simp only [Option.some.injEq, Prod.mk.injEq] at H
  obtain ⟨rfl, rfl⟩ := H
  go_enter Try.func27, Try.ntmps27
  go_wp2_with (first | ((with_reducible refine gate_dst (N := 5) rfl ?_); refine box_event ?hg (N := 5) ?hd (cs := #[.slice A0 l0.length c0, .int .i64 0]) (t := 60) ?hr ?_; (case hd => rfl); (case hg => rfl); (case hr => first | (go_simp; done) | (go_simp; rfl)); intro gb155 hg w2 hbox hb; have n0_ := Aside0.mk (below_step HBW.out hb); have n1_ := Aside0.mk (below_step (by repeat (first | (with_reducible first | exact HB.out | apply below_alloc | apply pw_below_drewN | apply below_drew1) | exact HB.out)) hb); have n2_ := Aside0.mk (hbox); have n3_ := Aside0.mk ((by rw [hg]; exact (below_size (by repeat (first | (with_reducible first | exact HBW.out | apply below_alloc | apply pw_below_drewN | apply below_drew1) | exact HBW.out))) : w.heap.size ≤ gb155)); have n4_ := Aside0.mk ((Nat.le_trans HW0.out (by rw [hg]; exact (below_size (by repeat (first | (with_reducible first | exact HBW.out | apply below_alloc | apply pw_below_drewN | apply below_drew1) | exact HBW.out))) : w.heap.size ≤ gb155) : w0.heap.size ≤ gb155)); clear HBW; clear HB; have HBW := n0_; have HB := n1_; have BK155 := n2_; have GW155 := n3_; have GE155 := n4_; clear n0_ n1_ n2_ n3_ n4_; clear hb hbox hg))
  go_ret
  exact ⟨_, rfl, (show IsS60 w0 _ gb155 l0 0 from ⟨_, _, by (with_reducible repeat (first | refine blk_drewN ?_ _ | refine blk_drew ?_ | refine blk_alloc ?_ _)); exact BK155.out, GE155.out, HR0.out⟩), by repeat (first | (with_reducible first | exact HB.out | apply below_alloc | apply pw_below_drewN | apply below_drew1 | refine below_set ?_ GE155.out) | exact HB.out), by repeat (first | (with_reducible first | exact HBW.out | apply below_alloc | apply pw_below_drewN | apply below_drew1 | refine below_set ?_ GW155.out) | exact HBW.out), GW155.out⟩

/-! ### withemade_Maker_Pick: function 40 -/
def withemade_Maker_Pick.f (s0_0 : List Int) (s0_1 : Int) (a1 : Int) : Option (Int × Int) := if s0_1 ≥ (s0_0.length : Int) then (some (0, s0_1)) else (if a1 < 1 then (some (0, s0_1)) else (if 0 ≤ (wrap64 ((wrap64 (s0_1 + 1)) - 1)) then (if (wrap64 ((wrap64 (s0_1 + 1)) - 1)) < (s0_0.length : Int) then (if a1 = 0 then (none) else (some (Int.tmod (wrap64 (rd s0_0 (wrap64 ((wrap64 (s0_1 + 1)) - 1)))) a1, wrap64 (s0_1 + 1)))) else (none)) else (none)))
set_option maxHeartbeats 8000000 in
set_option maxRecDepth 100000 in
theorem withemade_Maker_Pick.calls (g : Nat) (s0_0 : List Int) (s0_1 : Int) (a1 : Int) (r1 : Int) (r2 : Int) (w0 w : World) (hI : IsS60 w0 w g s0_0 s0_1) (hB : Below w0.heap.size w0 w) (h : withemade_Maker_Pick.f s0_0 s0_1 a1 = some (r1, r2)) :
    Calls Try.prog 40 #[.pointer (some ⟨g, 0, none⟩), .int .i64 a1] w fun e w' => e = .returned (.int .i64 r1) ∧ IsS60 w0 w' g s0_0 r2 ∧ Below w0.heap.size w0 w' ∧ KeepBut w w' g none := by
  have HI0 := Aside0.mk hI
  have HK := Aside0.mk (KeepBut.refl w g none)
  have HL := Aside0.mk hB.size
  clear hI
  have HW0 := Aside0.mk hB.size
  have HB := Aside0.mk hB
  clear hB
  have H : (if s0_1 ≥ (s0_0.length : Int) then (some (0, s0_1)) else (if a1 < 1 then (some (0, s0_1)) else (if 0 ≤ (wrap64 ((wrap64 (s0_1 + 1)) - 1)) then (if (wrap64 ((wrap64 (s0_1 + 1)) - 1)) < (s0_0.length : Int) then (if a1 = 0 then (none) else (some (Int.tmod (wrap64 (rd s0_0 (wrap64 ((wrap64 (s0_1 + 1)) - 1)))) a1, wrap64 (s0_1 + 1)))) else (none)) else (none)))) = some (r1, r2) := h
  clear h
  by_cases c3 : s0_1 ≥ (s0_0.length : Int)
  · rw [if_pos c3] at H
    have c3b0 : decide ((s0_0.length : Int) ≤ s0_1) = true := decide_eq_true c3
    clear c3
    simp only [Option.some.injEq, Prod.mk.injEq] at H
    obtain ⟨rfl, rfl⟩ := H
    obtain ⟨ASz4_0, cSz4_0, HGz4, hgz4, HSz4_0⟩ := HI0.out
    have hcz4_0 := cellS60_0 HGz4
    have hcz4_1 := cellS60_1 HGz4
    have hfz4_1 := blk_frozen HGz4 1
    clear HGz4 hgz4
    go_enter Try.func40, Try.ntmps40
    go_wp2
    repeat (go_quiet (fail); try go_wp2)
    go_ret
    exact ⟨by first | rfl | (simp [errW_none, errW_some] <;> rfl) | (simp [*, errW_none, errW_some] <;> rfl), by repeat (first | (with_reducible first | exact HI0.out | apply IsS60.alloc | apply IsS60.drewN | apply IsS60.drew | apply IsS60.set_1) | exact HI0.out), by repeat (first | (with_reducible first | exact HB.out | apply below_alloc | apply pw_below_drewN | apply below_drew1 | refine below_set ?_ (IsS60.ge HI0.out)) | exact HB.out), by repeat (first | (with_reducible first | exact HK.out | apply KeepBut.set_ | apply keep_drewN | apply keep_drew | apply keep_alloc) | exact HK.out)⟩
  · rw [if_neg c3] at H
    have c3b0 : decide ((s0_0.length : Int) ≤ s0_1) = false := decide_eq_false c3
    clear c3
    by_cases c5 : a1 < 1
    · rw [if_pos c5] at H
      have c5b0 : decide (a1 < 1) = true := decide_eq_true c5
      clear c5
      simp only [Option.some.injEq, Prod.mk.injEq] at H
      obtain ⟨rfl, rfl⟩ := H
      obtain ⟨ASz6_0, cSz6_0, HGz6, hgz6, HSz6_0⟩ := HI0.out
      have hcz6_0 := cellS60_0 HGz6
      have hcz6_1 := cellS60_1 HGz6
      have hfz6_1 := blk_frozen HGz6 1
      clear HGz6 hgz6
      go_enter Try.func40, Try.ntmps40
      go_wp2
      repeat (go_quiet (fail); try go_wp2)
      go_ret
      exact ⟨by first | rfl | (simp [errW_none, errW_some] <;> rfl) | (simp [*, errW_none, errW_some] <;> rfl), by repeat (first | (with_reducible first | exact HI0.out | apply IsS60.alloc | apply IsS60.drewN | apply IsS60.drew | apply IsS60.set_1) | exact HI0.out), by repeat (first | (with_reducible first | exact HB.out | apply below_alloc | apply pw_below_drewN | apply below_drew1 | refine below_set ?_ (IsS60.ge HI0.out)) | exact HB.out), by repeat (first | (with_reducible first | exact HK.out | apply KeepBut.set_ | apply keep_drewN | apply keep_drew | apply keep_alloc) | exact HK.out)⟩
    · rw [if_neg c5] at H
      have c5b0 : decide (a1 < 1) = false := decide_eq_false c5
      clear c5
      obtain ⟨ji7, hji7⟩ : ∃ j_ : Int, (wrap64 ((wrap64 (s0_1 + 1)) - 1)) = j_ := ⟨_, rfl⟩
      replace H : (if 0 ≤ (ji7) then (if (ji7) < (s0_0.length : Int) then (if a1 = 0 then (none) else (some (Int.tmod (wrap64 (rd s0_0 (ji7))) a1, wrap64 (s0_1 + 1)))) else (none)) else (none)) = some (r1, r2) := by first | (rw [hji7] at H; exact H) | (simp only [hji7] at H ⊢; exact H)
      have hji7w : (IntKind.i64.wrap ((wrap64 (s0_1 + 1)) - 1)) = ji7 := (i64_w _).trans hji7
      by_cases c8 : 0 ≤ (ji7)
      · rw [if_pos c8] at H
        have c8b0 : decide (0 ≤ (ji7)) = true := decide_eq_true c8
        clear c8
        by_cases c9 : (ji7) < (s0_0.length : Int)
        · rw [if_pos c9] at H
          have c9b0 : decide ((ji7) < (s0_0.length : Int)) = true := decide_eq_true c9
          clear c9
          by_cases c10 : a1 = 0
          · rw [if_pos c10] at H
            exact absurd H (by simp)
          · rw [if_neg c10] at H
            have c10b0 : (a1 == 0) = false := beq_eq_false_iff_ne.mpr c10
            have c10b1 : (a1 != 0) = true := bne_iff_ne.mpr c10
            simp only [Option.some.injEq, Prod.mk.injEq] at H
            obtain ⟨rfl, rfl⟩ := H
            obtain ⟨ASz11_0, cSz11_0, HGz11, hgz11, HSz11_0⟩ := HI0.out
            have hcz11_0 := cellS60_0 HGz11
            have hcz11_1 := cellS60_1 HGz11
            have hfz11_1 := blk_frozen HGz11 1
            clear HGz11 hgz11
            have p156 : 0 ≤ ((ji7) : Int) := of_decide_eq_true (by first | (with_reducible assumption) | assumption)
            have q156 : (ji7) < (s0_0.length : Int) := of_decide_eq_true (by first | (with_reducible assumption) | assumption)
            obtain ⟨ad156, e156, hx156_0⟩ := Kd.at_int HSz11_0 (ji7) p156 q156
            cases e156
            have hn156_0 : ad156.block ≠ g := Nat.ne_of_lt (Nat.lt_of_lt_of_le (by have := World.block_lt_of_cell? _ _ hx156_0; first | rwa [add_block] at this | exact this) (IsS60.ge HI0.out))
            replace hx156_0 := pw_cell_below HB.out hx156_0
            replace hx156_0 := (cell_far (p := ⟨g, 1, none⟩) (by first | (rw [add_block]; exact hn156_0) | (show (Addr.add _ _).block ≠ _; rw [add_block]; exact hn156_0) | exact hn156_0) (.int .i64 (wrap64 (s0_1 + 1)))).trans hx156_0
            (try have hy156_0 := fun (n_ : Nat) => (show (((w.drewN n_).setCell ⟨g, 1, none⟩ (.int .i64 (wrap64 (s0_1 + 1))))).cell? _ = some _ from hx156_0))
            clear hn156_0
            replace p156 := eq_true p156
            replace q156 := eq_true q156
            go_enter Try.func40, Try.ntmps40
            go_wp2
            repeat (go_quiet (fail); try go_wp2)
            go_ret
            exact ⟨by first | rfl | (simp [errW_none, errW_some] <;> rfl) | (simp only [← hji7]; first | rfl | (simp [errW_none, errW_some] <;> rfl)) | (simp [*, errW_none, errW_some] <;> rfl), by repeat (first | (with_reducible first | exact HI0.out | apply IsS60.alloc | apply IsS60.drewN | apply IsS60.drew | apply IsS60.set_1) | exact HI0.out), by repeat (first | (with_reducible first | exact HB.out | apply below_alloc | apply pw_below_drewN | apply below_drew1 | refine below_set ?_ (IsS60.ge HI0.out)) | exact HB.out), by repeat (first | (with_reducible first | exact HK.out | apply KeepBut.set_ | apply keep_drewN | apply keep_drew | apply keep_alloc) | exact HK.out)⟩
        · rw [if_neg c9] at H
          exact absurd H (by simp)
      · rw [if_neg c8] at H
        exact absurd H (by simp)

end Go.Proofs.Ytpkhcmholpljnaa.PE2
