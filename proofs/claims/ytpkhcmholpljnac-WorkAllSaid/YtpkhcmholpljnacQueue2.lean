/- A text of a claim (ours): what the queue's Push and Pop do to the world; conditions: none of ours. -/
import Derived.Test.YtpkhcmholpljnacProg
import Derived.Below
import Derived.Deep.Draws
import Derived.Deep.AppendLies
import Derived.Maps.AppendAt
import Derived.OwnWalk
import Derived.Laws.BytesArg
import Derived.Laws.MakeOwn
import Derived.Laws.OwnMore
import Derived.Deep.OwnRows
import Derived.Tactics
import Derived.Lib.ConvBytes
import Derived.Laws.Slices
import Derived.WalkKit
import Derived.KernelRfl
import Derived.RowKit3
import Derived.Deep.LoopGhost
import Derived.Deep.QuietTactic
import Derived.BigQuiet
import Derived.WideLaws
import Derived.Deep.DeepCutAuto
import Derived.Deep.CutBlock
import Derived.Deep.RegionHeld3
import Derived.Laws.Rows
import Derived.Lib.AppendStr
import Derived.ArgAppend
import Derived.Laws.IdiomCopy
import Derived.OrdersHeld
import Derived.Laws.BitsLemmas
import Derived.RowKit
import Derived.Test.YtpkhcmholpljnacWWords
import Derived.Test.YtpkhcmholpljnacWLast
import Derived.Test.YtpkhcmholpljnacWTab
import Derived.Test.YtpkhcmholpljnacWFour
import Derived.Test.YtpkhcmholpljnacWQPut
import Derived.Test.YtpkhcmholpljnacWApart
import Derived.Test.YtpkhcmholpljnacWArr
import Derived.Test.YtpkhcmholpljnacWZeros
import Derived.Test.YtpkhcmholpljnacWFoot
import Derived.Test.YtpkhcmholpljnacWKept
import Derived.Test.YtpkhcmholpljnacWShare
import Derived.Test.YtpkhcmholpljnacWN
import Derived.Test.YtpkhcmholpljnacWFootNe
import Derived.Test.YtpkhcmholpljnacWAt
import Derived.Test.YtpkhcmholpljnacWEqStruct
import Derived.Test.YtpkhcmholpljnacWRepsOne
import Derived.Test.YtpkhcmholpljnacWInv
import Derived.Test.YtpkhcmholpljnacWInvWords
import Derived.Test.YtpkhcmholpljnacWGuard
import Derived.Test.YtpkhcmholpljnacWNEv
import Derived.Test.YtpkhcmholpljnacWMore
import Derived.RegionTactic
import Derived.ChangeAlike
import Derived.BigRegion
import Derived.StillTailTactics
import Derived.Deep.RegionLaw
import Derived.Test.YtpkhcmholpljnacQueue
namespace Go.Proofs.Ytpkhcmholpljnac.Q
open Go Go.RowKit Go.Proofs.Ytpkhcmholpljnac.Heap Go.Proofs.YtpkhcmholpljnacW.PrintWords Go.Proofs.YtpkhcmholpljnacW.PrintLast Go.Proofs.YtpkhcmholpljnacW.PrintMore
set_option linter.unusedVariables false
set_option linter.unusedSimpArgs false

theorem m_push (a : Addr) (w : World) : (method 176 45 (.pointer (some a)) "Push").run Try.prog w = .ok (40, .pointer (some a)) w := by kernel_rfl
theorem m_len (a : Addr) (w : World) : (method 176 45 (.pointer (some a)) "Len").run Try.prog w = .ok (15, .pointer (some a)) w := by kernel_rfl
theorem m_less (a : Addr) (w : World) : (method 176 45 (.pointer (some a)) "Less").run Try.prog w = .ok (38, .pointer (some a)) w := by kernel_rfl
theorem m_swap (a : Addr) (w : World) : (method 176 45 (.pointer (some a)) "Swap").run Try.prog w = .ok (41, .pointer (some a)) w := by kernel_rfl
theorem m_pop (a : Addr) (w : World) : (method 176 45 (.pointer (some a)) "Pop").run Try.prog w = .ok (39, .pointer (some a)) w := by kernel_rfl
theorem info44 : (Try.prog.info? 44).map (fun i => (i.zero, i.size, i.bytes)) = some (some (.agg #[.int .i64 0, .int .i64 0, .int .i64 0]), 3, 24) := by kernel_rfl
/-- An append to a row of the call's own, as one step of a region that draws. -/
theorem step_append_th {ops : Array Oper} {o : Oper} {a : Act} {w : World} {K : Act → World → Prop} {Q : Exit → Act → World → Prop} {E : Prop}
    (hg : o.guard = none) (s x : Operand) (ho : o.op = .call { callee := .builtin .append, args := #[s, x], argTypes := #[46, 46] }) (base : Nat)
    (v : Value) (xs : List Th) (t : Th) (hs : a.eval s = v) (hown : w.ownsRow base 44 3 v xs.length (flat xs)) (b : Nat) (hx : a.eval x = .slice (some ⟨b, 0, none⟩) 1 1)
    (hb : w.heap[b]? = some (.cells #[.int .i64 t.1, .int .i64 t.2.1, .int .i64 t.2.2] 44 (0, 0))) (hn : xs.length < 1000) (hbase : base ≤ w.heap.size)
    (h : ∀ v' w', w'.ownsRow base 44 3 v' (xs ++ [t]).length (flat (xs ++ [t])) → w.grownBy w' v.ownBlock → (v'.ownBlock = v.ownBlock ∨ ∃ b, v'.ownBlock = some b ∧ w.heap.size ≤ b) → K (a.put o.dst v') w') :
    if Region.wanted o (yielded ops a.tmps) = true then Oper.wp Try.prog o a w K Q else E := by
  have hw : Region.wanted o (yielded ops a.tmps) = true := by simp [Region.wanted, hg]
  rw [if_pos hw]
  obtain ⟨i0, hi, hz0, hz1, hz2⟩ := info_parts info44
  obtain ⟨v1, w1, hr, h1, h2, _, hat⟩ := run_append_own_at (P := Try.prog) w base 46 o.type 44 i0 _ 3 24 Try.underlying46 hi hz0 hz1 hz2 rfl (by decide) v xs.length (flat xs) hown ⟨b, 0, none⟩ 1 1 (tc t) rfl (fun j u hj => by
    rw [add_plain, blk_cell hb]
    match j, hj with
    | 0, h => exact h
    | 1, h => exact h
    | 2, h => exact h
    | j + 3, h => simp [tc] at h) (fun u hu => by
    simp only [tc, List.mem_cons, List.not_mem_nil, or_false] at hu
    rcases hu with rfl | rfl | rfl <;> rfl) (by simp only [maxLen]; omega) (by omega) hbase
  unfold Oper.wp execOp
  simp only [ho, resolve, invoke, builtin, Sem.run_bind, Sem.run_pure, Result.andThen_ok, List.map_toArray, List.map_cons, List.map_nil, hs, hx, hr]
  refine h v1 w1 ?_ h2 ?_
  · rw [flat_append, List.length_append]
    rw [show flat [t] = tc t from by simp [flat]]
    exact h1
  · rcases hat with hat | hat
    · exact .inl hat
    · exact .inr ⟨_, hat, Nat.le_refl _⟩
/-- What a push leaves. -/
def Pushed (W : World) (base q : Nat) (v : Value) (xs : List Th) (t : Th) (e : Ending) (W' : World) : Prop :=
  e = .returned (.tuple #[]) ∧ ∃ v', W'.heap[q]? = some (.cells #[v'] 48 (0, 0)) ∧ W'.ownsRow base 44 3 v' (xs ++ [t]).length (flat (xs ++ [t])) ∧ (v'.ownBlock = v.ownBlock ∨ ∃ b, v'.ownBlock = some b ∧ W.heap.size ≤ b) ∧ Chg (fun k => k = q ∨ some k = v.ownBlock) W W'
theorem pushed_mk (W W2 w1 : World) (base q : Nat) (v v' : Value) (xs : List Th) (t : Th) (hW : Below W.heap.size W W2) (hq : W.heap[q]? = some (.cells #[v] 48 (0, 0))) (hrq : some q ≠ v.ownBlock) (h1 : w1.ownsRow base 44 3 v' (xs ++ [t]).length (flat (xs ++ [t]))) (h2 : W2.grownBy w1 v.ownBlock)
    (h3 : v'.ownBlock = v.ownBlock ∨ ∃ b, v'.ownBlock = some b ∧ W2.heap.size ≤ b) : Pushed W base q v xs t (.returned (.tuple #[])) (w1.setCell ⟨q, 0, none⟩ v') := by
  have hq2 : w1.heap[q]? = some (.cells #[v] 48 (0, 0)) := blk_grown (blk_below hq hW) h2 hrq
  refine ⟨rfl, v', blk_set hq2 0 v', own_setCell h1 (fun e => ?_) v', ?_, ((Chg.of_below hW).trans (Chg.grown (F := fun k => k = q ∨ some k = v.ownBlock) h2 (fun k hk => .inr hk.symm)) (fun _ _ e => e)).setCell (.inl rfl) v'⟩
  · exact own_ne h1 hq2 (by decide) e
  · rcases h3 with h | ⟨b, hb, hle⟩
    · exact .inl h
    · exact .inr ⟨b, hb, Nat.le_trans hW.size hle⟩
set_option maxHeartbeats 4000000 in
set_option maxRecDepth 100000 in
theorem qpush_core (W : World) (base q : Nat) (xs : List Th) (v : Value) (t : Th) (hq : W.heap[q]? = some (.cells #[v] 48 (0, 0))) (hown : W.ownsRow base 44 3 v xs.length (flat xs)) (hn : xs.length < 1000) (hbase : base ≤ W.heap.size) :
    Calls Try.prog 40 #[.pointer (some ⟨q, 0, none⟩), .iface 44 (.agg #[.int .i64 t.1, .int .i64 t.2.1, .int .i64 t.2.2])] W (Pushed W base q v xs t) := by
  have hqs := blk_lt hq
  have hcq : W.cell? ⟨q, 0, none⟩ = some v := (blk_cell hq 0).trans rfl
  have hfq := blk_frozen hq 0
  have hrq := own_ne hown hq (by decide)
  have HR := Aside0.mk hrq
  have HO := Aside0.mk hown
  have HQ := Aside0.mk hq
  clear hown hq hrq
  obtain ⟨x0, x1, x2⟩ := t
  dsimp only
  have ta : ∀ w, (Instr.typeAssert (.iface 44 (.agg #[.int .i64 x0, .int .i64 x1, .int .i64 x2])) 20 44 true).run Try.prog w = .ok (.tuple #[.agg #[.int .i64 x0, .int .i64 x1, .int .i64 x2], .bool true]) w := fun w => by kernel_rfl
  go_enter Try.func40, Try.ntmps40
  go_wp2_with fail
  go_region_law (refine step_append_th rfl (.tmp 16) (.tmp 18) rfl base v xs (x0, x1, x2) (by simp [Act.eval, Act.put]) (pw_own_below HO.out (below_drew (below_alloc (below_alloc (Below.refl _ _) _) _))) (W.heap.size + 1) (by simp [Act.eval, Act.put]) (by have h := heap_alloc_new (W.alloc (.cells #[.int .i64 x0, .int .i64 x1, .int .i64 x2] 44 (0, 0))) (.cells #[.int .i64 x0, .int .i64 x1, .int .i64 x2] 44 (0, 0)); rw [drew_heap]; simpa using h) hn (by simp; omega) ?_; intro v' w1 h1 h2 h3; obtain ⟨A1, c1, rfl⟩ := own_slice h1; have hq1 : w1.heap[q]? = some (.cells #[v] 48 (0, 0)) := blk_grown (blk_below HQ.out (below_drew (below_alloc (below_alloc (Below.refl _ _) _) _))) h2 HR.out; have hc1 : w1.cell? ⟨q, 0, none⟩ = some v := (blk_cell hq1 0).trans rfl; have hf1 := blk_frozen hq1 0; have HP := Aside0.mk (pushed_mk W _ w1 base q v _ xs (x0, x1, x2) (below_drew (below_alloc (below_alloc (Below.refl _ _) _) _)) HQ.out HR.out h1 h2 h3); clear h1 h2 h3 hq1)
  all_goals
    go_end0
    have hp := HP.out
    simp only [List.length_append, List.length_cons, List.length_nil, Nat.zero_add] at hp
    exact hp
theorem qpush (W : World) (base q : Nat) (F : Nat → Prop) (xs : List Th) (t : Th) (h : QI W base F q xs) (hn : xs.length < 1000) (hbase : base ≤ W.heap.size) :
    Calls Try.prog 40 #[.pointer (some ⟨q, 0, none⟩), .iface 44 (.agg #[.int .i64 t.1, .int .i64 t.2.1, .int .i64 t.2.2])] W fun e W' => e = .returned (.tuple #[]) ∧ QI W' base (fun k => F k ∨ (W.heap.size ≤ k ∧ k < W'.heap.size)) q (xs ++ [t]) ∧ Chg F W W' := by
  obtain ⟨v, h1, h2, h3, h4, h5⟩ := h
  refine (qpush_core W base q xs v t h1 h2 hn hbase).mono ?_
  rintro e W' ⟨rfl, v', g1, g2, g3, g4⟩
  refine ⟨rfl, ⟨v', g1, g2, .inl h3, h4, fun k hk => ?_⟩, g4.mono (fun k e => ?_)⟩
  · rcases g3 with g | ⟨b, hb, hle⟩
    · exact .inl (h5 k (g ▸ hk))
    · rw [hb] at hk
      obtain rfl := Option.some.inj hk
      exact .inr ⟨hle, (g2.lt b hb).2⟩
  · rcases e with rfl | e
    · exact h3
    · exact h5 k e.symm

/-- The thing at the end is taken off. -/
def Popped (W : World) (base q : Nat) (F : Nat → Prop) (xs : List Th) (n : Nat) (e : Ending) (W' : World) : Prop :=
  e = .returned (.iface 44 (.agg #[.int .i64 (g xs n).1, .int .i64 (g xs n).2.1, .int .i64 (g xs n).2.2])) ∧ QI W' base F q (xs.take n) ∧ Chg F W W'
theorem popped_mk (W : World) (base q : Nat) (F : Nat → Prop) (xs : List Th) (n : Nat) (hl : xs.length = n + 1) (h : QI W base F q xs) (W2 : World) (hW : Below W.heap.size W W2) (r cap : Nat) (h1 : W.heap[q]? = some (.cells #[.slice (some ⟨r, 0, none⟩) xs.length cap] 48 (0, 0))) :
    Popped W base q F xs n (.returned (.iface 44 (.agg #[.int .i64 (g xs n).1, .int .i64 (g xs n).2.1, .int .i64 (g xs n).2.2]))) (W2.setCell ⟨q, 0, none⟩ (.slice (some ⟨r, 0, none⟩) n cap)) := by
  obtain ⟨r', cap', cur, g1, hr, fq, fr, bq, br, hc, hm, hs, ht, hqr⟩ := h.opened (by omega)
  have e := h1.symm.trans g1
  simp only [Option.some.injEq, Obj.cells.injEq, Array.mk.injEq, List.cons.injEq, Value.slice.injEq, Addr.mk.injEq] at e
  obtain ⟨rfl, rfl⟩ : r = r' ∧ cap = cap' := by
    refine ⟨?_, ?_⟩
    · exact e.1.1.1.1
    · exact e.1.1.2.2
  have el : (xs.take n).length = n := by rw [List.length_take]; omega
  have q2 := blk_set (blk_below g1 hW) 0 (.slice (some ⟨r, 0, none⟩) n cap)
  have r2 := blk_far (blk_below hr hW) (p := ⟨q, 0, none⟩) (Ne.symm hqr) (.slice (some ⟨r, 0, none⟩) n cap)
  refine ⟨rfl, QI.shut (r := r) (cap := cap) (cur := cur) ?_ r2 fq fr bq br (by omega) hm hs ?_, (Chg.of_below hW).setCell fq _⟩
  · rw [el]; exact q2
  · rw [el]
    have e2 : flat xs = flat (xs.take n) ++ tc (g xs n) := by
      have := congrArg flat (take_last xs n hl)
      rw [flat_append] at this
      rw [← this]; simp [flat]
    have e3 : cur.toList.take (n * 3) = (cur.toList.take (xs.length * 3)).take (n * 3) := by rw [List.take_take, Nat.min_eq_left (by omega)]
    rw [e3, ht, e2, List.take_append_of_le_length (by rw [flat_len, el]; exact Nat.le_refl _), List.take_of_length_le (by rw [flat_len, el]; exact Nat.le_refl _)]
theorem Popped.alloc {W W1 : World} {base q : Nat} {F : Nat → Prop} {xs : List Th} {n : Nat} {e : Ending} (h : Popped W base q F xs n e W1) (o : Obj) : Popped W base q F xs n e (W1.alloc o) :=
  ⟨h.1, h.2.1.below (below_alloc (Below.refl _ _) o), h.2.2.alloc o⟩
set_option maxHeartbeats 4000000 in
set_option maxRecDepth 100000 in
theorem qpop (W : World) (base q : Nat) (F : Nat → Prop) (xs : List Th) (n : Nat) (hl : xs.length = n + 1) (hn : xs.length ≤ 1000) (h : QI W base F q xs) :
    Calls Try.prog 39 #[.pointer (some ⟨q, 0, none⟩)] W (Popped W base q F xs n) := by
  obtain ⟨r, cap, cur, h1, hr, fq, fr, bq, br, hc, hm, hs, ht, hqr⟩ := h.opened (by omega)
  have c0 := row_cell hr ht n 0 (by omega) (by omega)
  have c1 := row_cell hr ht n 1 (by omega) (by omega)
  have c2 := row_cell hr ht n 2 (by omega) (by omega)
  have hq0 : W.cell? ⟨q, 0, none⟩ = some (.slice (some ⟨r, 0, none⟩) xs.length cap) := (blk_cell h1 0).trans rfl
  have hfq := blk_frozen h1 0
  have hqs := blk_lt h1
  have hrs := blk_lt hr
  have HM := Aside0.mk (fun W2 hW => popped_mk W base q F xs n hl h W2 hW r cap h1)
  clear h h1 hr fq fr bq br hs ht
  rw [hl] at hq0 hn hc
  clear hl
  generalize g xs n = t at *
  obtain ⟨x0, x1, x2⟩ := t
  replace c0 : W.cell? ⟨r, n * 3, none⟩ = some (.int .i64 x0) := c0
  replace c1 : W.cell? ⟨r, n * 3 + 1, none⟩ = some (.int .i64 x1) := c1
  replace c2 : W.cell? ⟨r, n * 3 + 2, none⟩ = some (.int .i64 x2) := c2
  go_enter Try.func39, Try.ntmps39
  go_wp2
  go_ret
  exact (HM.out W (Below.refl _ _)).alloc _
end Go.Proofs.Ytpkhcmholpljnac.Q
