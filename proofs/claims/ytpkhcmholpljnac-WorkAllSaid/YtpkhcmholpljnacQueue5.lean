/- A text of a claim (ours): what the calls of container/heap and the queue's put and take do; conditions: none of ours. -/
import Derived.Test.YtpkhcmholpljnacProg
import Derived.Below
import Derived.Deep.Draws
import Derived.Deep.AppendLies
import Derived.Maps.AppendAt
import Derived.OwnWalk
import Derived.Laws.BytesArg
import Derived.Laws.MakeOwn
import Derived.Laws.OwnMore
import Derived.Deep.OwnRows
import Derived.Tactics
import Derived.Lib.ConvBytes
import Derived.Laws.Slices
import Derived.WalkKit
import Derived.KernelRfl
import Derived.RowKit3
import Derived.Deep.LoopGhost
import Derived.Deep.QuietTactic
import Derived.BigQuiet
import Derived.WideLaws
import Derived.Deep.DeepCutAuto
import Derived.Deep.CutBlock
import Derived.Deep.RegionHeld3
import Derived.Laws.Rows
import Derived.Lib.AppendStr
import Derived.ArgAppend
import Derived.Laws.IdiomCopy
import Derived.OrdersHeld
import Derived.Laws.BitsLemmas
import Derived.RowKit
import Derived.Test.YtpkhcmholpljnacWWords
import Derived.Test.YtpkhcmholpljnacWLast
import Derived.Test.YtpkhcmholpljnacWTab
import Derived.Test.YtpkhcmholpljnacWFour
import Derived.Test.YtpkhcmholpljnacWQPut
import Derived.Test.YtpkhcmholpljnacWApart
import Derived.Test.YtpkhcmholpljnacWArr
import Derived.Test.YtpkhcmholpljnacWZeros
import Derived.Test.YtpkhcmholpljnacWFoot
import Derived.Test.YtpkhcmholpljnacWKept
import Derived.Test.YtpkhcmholpljnacWShare
import Derived.Test.YtpkhcmholpljnacWN
import Derived.Test.YtpkhcmholpljnacWFootNe
import Derived.Test.YtpkhcmholpljnacWAt
import Derived.Test.YtpkhcmholpljnacWEqStruct
import Derived.Test.YtpkhcmholpljnacWRepsOne
import Derived.Test.YtpkhcmholpljnacWInv
import Derived.Test.YtpkhcmholpljnacWInvWords
import Derived.Test.YtpkhcmholpljnacWGuard
import Derived.Test.YtpkhcmholpljnacWNEv
import Derived.Test.YtpkhcmholpljnacWMore
import Derived.RegionTactic
import Derived.ChangeAlike
import Derived.BigRegion
import Derived.StillTailTactics
import Derived.Deep.RegionLaw
import Derived.Test.YtpkhcmholpljnacQueue4
namespace Go.Proofs.Ytpkhcmholpljnac.Q
open Go Go.RowKit Go.Proofs.Ytpkhcmholpljnac.Heap Go.Proofs.YtpkhcmholpljnacW.PrintWords Go.Proofs.YtpkhcmholpljnacW.PrintLast Go.Proofs.YtpkhcmholpljnacW.PrintMore
set_option linter.unusedVariables false
set_option linter.unusedSimpArgs false

/-- F, and what came in between two worlds. -/
def grow (F : Nat → Prop) (W W' : World) : Nat → Prop := fun k => F k ∨ (W.heap.size ≤ k ∧ k < W'.heap.size)
/-- The queue, with these things in any order. -/
def HQ (W : World) (base : Nat) (F : Nat → Prop) (q : Nat) (ms : List Th) : Prop := ∃ ys, QI W base F q ys ∧ Ok ys ys.length ∧ ys.Perm ms
theorem HQ.mono {W : World} {base q : Nat} {F F' : Nat → Prop} {ms : List Th} (h : HQ W base F q ms) (hF : ∀ k, k < W.heap.size → F k → F' k) : HQ W base F' q ms := by
  obtain ⟨ys, h1, h2, h3⟩ := h; exact ⟨ys, h1.mono hF, h2, h3⟩
theorem HQ.far {W W1 : World} {base q : Nat} {F F1 : Nat → Prop} {ms : List Th} (h : HQ W base F q ms) (c : Chg F1 W W1) (hd : ∀ k, k < W.heap.size → F k → ¬ F1 k) : HQ W1 base F q ms := by
  obtain ⟨ys, h1, h2, h3⟩ := h; exact ⟨ys, h1.far c hd, h2, h3⟩
theorem HQ.below {W W1 : World} {base q : Nat} {F : Nat → Prop} {ms : List Th} (h : HQ W base F q ms) (hb : Below W.heap.size W W1) : HQ W1 base F q ms := by
  obtain ⟨ys, h1, h2, h3⟩ := h; exact ⟨ys, h1.below hb, h2, h3⟩
def HPushed (W : World) (base : Nat) (F : Nat → Prop) (q : Nat) (ms : List Th) (t : Th) (e : Ending) (W' : World) : Prop :=
  e = .returned (.tuple #[]) ∧ HQ W' base (grow F W W') q (ms ++ [t]) ∧ Chg F W W'
set_option maxHeartbeats 4000000 in
set_option maxRecDepth 100000 in
theorem hpush (W : World) (base q : Nat) (F : Nat → Prop) (ms : List Th) (t : Th) (h : HQ W base F q ms) (hn : ms.length < 1000) (hbase : base ≤ W.heap.size) :
    Calls Try.prog 18 #[.iface 45 (.pointer (some ⟨q, 0, none⟩)), .iface 44 (.agg #[.int .i64 t.1, .int .i64 t.2.1, .int .i64 t.2.2])] W (HPushed W base F q ms t) := by
  obtain ⟨xs, hq, ho, hp⟩ := h
  have hl : xs.length = ms.length := hp.length_eq
  have hxl : xs.length < 1000 := by omega
  have hx0 : (xs.length : Int) ≤ 1000 := by omega
  have m1 := fun w => m_push ⟨q, 0, none⟩ w
  have m2 := fun w => m_len ⟨q, 0, none⟩ w
  have HQ0 := Aside0.mk hq
  have HO := Aside0.mk ho
  have HP := Aside0.mk hp
  have HX := Aside0.mk hxl
  have HB := Aside0.mk hbase
  clear hq ho hp hl hn hxl hbase
  obtain ⟨x0, x1, x2⟩ := t
  dsimp only
  go_enter Try.func18, Try.ntmps18
  go_wp2_with (first | ((with_reducible refine (qpush W base q F xs (x0, x1, x2) HQ0.out HX.out HB.out).mono ?_); rintro e w1 ⟨rfl, hq1, hc1⟩; have HQ1 := Aside0.mk hq1; have HC1 := Aside0.mk hc1; clear hq1 hc1) | ((with_reducible refine (qlen _ base q _ _ HQ1.out).mono ?_); rintro e w2 ⟨rfl, rfl⟩; rw [show (((xs ++ [(x0, x1, x2)]).length : Nat) : Int) = (xs.length : Int) + 1 by simp]))
  refine (up _ base q _ (xs ++ [(x0, x1, x2)]) xs.length HQ1.out (by have := HX.out; simp; omega) (up_start xs (x0, x1, x2) HO.out)).mono ?_
  rintro e w3 ⟨rfl, ys, g1, g2, g3, g4, g5, g6⟩
  have HF : HPushed W base F q ms (x0, x1, x2) (.returned (.tuple #[])) w3 := by
    refine ⟨rfl, ⟨ys, g1.mono (fun k hk e => ?_), by rw [g4]; exact g2, g3.trans (HP.out.append_right _)⟩, HC1.out.trans g6 (fun k hk e => ?_)⟩
    · rcases e with e | ⟨e1, e2⟩
      · exact .inl e
      · exact .inr ⟨e1, hk⟩
    · rcases e with e | ⟨e1, e2⟩
      · exact e
      · omega
  have HFA := Aside0.mk HF
  clear g1 g2 g3 g4 g5 g6 HF
  go_wp2
  go_end0
  exact HFA.out
def HPopped (v : Th → Value) (W : World) (base : Nat) (F : Nat → Prop) (q : Nat) (ms : List Th) (e : Ending) (W' : World) : Prop :=
  ∃ (t : Th) (rest : List Th), e = .returned (v t) ∧ HQ W' base F q rest ∧ (t :: rest).Perm ms ∧ (∀ u ∈ ms, le t u) ∧ Chg F W W'
set_option maxHeartbeats 4000000 in
set_option maxRecDepth 100000 in
theorem hpop (W : World) (base q : Nat) (F : Nat → Prop) (ms : List Th) (h : HQ W base F q ms) (hn : ms.length ≤ 1000) (h0 : 0 < ms.length) :
    Calls Try.prog 19 #[.iface 45 (.pointer (some ⟨q, 0, none⟩))] W (HPopped (fun t => .iface 44 (.agg #[.int .i64 t.1, .int .i64 t.2.1, .int .i64 t.2.2])) W base F q ms) := by
  obtain ⟨xs, hq, ho, hp⟩ := h
  have hl : xs.length = ms.length := hp.length_eq
  obtain ⟨n, hn1⟩ : ∃ n, xs.length = n + 1 := ⟨xs.length - 1, by omega⟩
  have hx0 : (n : Int) ≤ 1000 := by omega
  have m1 := fun w => m_len ⟨q, 0, none⟩ w
  have m2 := fun w => m_swap ⟨q, 0, none⟩ w
  have m3 := fun w => m_pop ⟨q, 0, none⟩ w
  have HQ0 := Aside0.mk hq
  have HO := Aside0.mk ho
  have HP := Aside0.mk hp
  have HX := Aside0.mk (show xs.length = n + 1 ∧ xs.length ≤ 1000 by omega)
  clear hq ho hp hl hn h0
  go_enter Try.func19, Try.ntmps19
  go_wp2_with (first | ((with_reducible refine (qlen W base q _ xs HQ0.out).mono ?_); rintro e w2 ⟨rfl, hw⟩; obtain rfl : W = w2 := hw.symm; rw [show ((xs.length : Nat) : Int) = (n : Int) + 1 by have := HX.out.1; omega]))
  refine (swapped _ base q _ xs HQ0.out HX.out.2 0 n (by have := HX.out.1; omega) (by have := HX.out.1; omega)).mono ?_
  rintro e w3 ⟨rfl, hq3, hc3⟩
  have HQ3 := Aside0.mk hq3
  have HC3 := Aside0.mk hc3
  clear hq3 hc3
  go_wp2_with fail
  refine (down _ base q _ (swap xs 0 n) n HQ3.out (by rw [swap_len]; exact HX.out.2) (by rw [swap_len]; have := HX.out.1; omega) (down_start xs n (by rw [← HX.out.1]; exact HO.out) (by have := HX.out.1; omega))).mono ?_
  rintro e w4 ⟨b, rfl, ys, g1, g2, g3, g4, g5, g6⟩
  rw [swap_len] at g4 g5
  have HG := Aside0.mk (And.intro g1 (And.intro g2 (And.intro g3 (And.intro g4 (And.intro g5 g6)))))
  clear g1 g2 g3 g4 g5 g6
  go_wp2_with fail
  refine (qpop _ base q F ys n (by rw [HG.out.2.2.2.1]; exact HX.out.1) (by rw [HG.out.2.2.2.1]; exact HX.out.2) HG.out.1).mono ?_
  rintro e w5 ⟨rfl, hq5, hc5⟩
  have HF : HPopped (fun t => .iface 44 (.agg #[.int .i64 t.1, .int .i64 t.2.1, .int .i64 t.2.2])) W base F q ms (.returned (.iface 44 (.agg #[.int .i64 (g ys n).1, .int .i64 (g ys n).2.1, .int .i64 (g ys n).2.2]))) w5 := by
    obtain ⟨g1, g2, g3, g4, g5, g6⟩ := HG.out
    have hx := HX.out.1
    have hlast : g ys n = g xs 0 := by
      rw [g5 n (Nat.le_refl _) (by omega), g_swap xs 0 n n (by omega) (by omega), if_pos rfl]
    have hperm : ys.Perm ms := (g3.trans (swap_perm xs 0 n (by omega) (by omega))).trans HP.out
    have hsplit := take_last ys n (by rw [g4]; exact hx)
    refine ⟨g ys n, ys.take n, rfl, ⟨_, hq5, ok_take ys n (by omega) g2, List.Perm.refl _⟩, ?_, fun u hu => ?_, (HC3.out.step g6).step hc5⟩
    · refine List.Perm.trans ?_ hperm
      conv => rhs; rw [← hsplit]
      exact (List.perm_append_singleton _ _).symm
    · rw [hlast]
      exact root_least xs HO.out u (HP.out.mem_iff.2 hu)
  have HFA := Aside0.mk HF
  clear hq5 hc5 HF
  go_wp2
  go_ret
  exact HFA.out
set_option maxHeartbeats 4000000 in
set_option maxRecDepth 100000 in
theorem put (W : World) (base q : Nat) (F : Nat → Prop) (ms : List Th) (t : Th) (h : HQ W base F q ms) (hn : ms.length < 1000) (hbase : base ≤ W.heap.size) :
    Calls Try.prog 16 #[.pointer (some ⟨q, 0, none⟩), .agg #[.int .i64 t.1, .int .i64 t.2.1, .int .i64 t.2.2]] W (HPushed W base F q ms t) := by
  have H0 := Aside0.mk h
  have HB := Aside0.mk hbase
  clear h hbase
  go_enter Try.func16, Try.ntmps16
  go_wp2_with fail
  refine (hpush _ base q F ms t (H0.out.below (below_alloc (Below.refl _ _) _)) hn (by have := HB.out; simp; omega)).mono ?_
  rintro e w1 ⟨rfl, h1, h2⟩
  have HF : HPushed W base F q ms t (.returned (.tuple #[])) w1 := by
    refine ⟨rfl, h1.mono (fun k hk e => ?_), (Chg.of_below (below_alloc (Below.refl _ _) _)).step h2⟩
    rcases e with e | ⟨e1, e2⟩
    · exact .inl e
    · exact .inr ⟨by simp at e1; omega, e2⟩
  have HFA := Aside0.mk HF
  clear h1 h2 HF
  go_wp2
  go_end0
  exact HFA.out
theorem set3_chg (W : World) (r : Nat) (u0 u1 u2 : Value) (o : Obj) : Chg (fun k => k = r) W ((((W.setCell ⟨r, 0, none⟩ u0).setCell ⟨r, 1, none⟩ u1).setCell ⟨r, 2, none⟩ u2).alloc o) := by
  have h1 : Chg (fun k => k = r) W (W.setCell ⟨r, 0, none⟩ u0) := (Chg.refl (fun k => k = r) W).setCell (p := ⟨r, 0, none⟩) rfl u0
  have h2 := h1.setCell (p := ⟨r, 1, none⟩) rfl u1
  have h3 := h2.setCell (p := ⟨r, 2, none⟩) rfl u2
  exact h3.alloc o
theorem set3_blk (W : World) (r : Nat) (a0 a1 a2 : Value) (h : W.heap[r]? = some (.cells #[a0, a1, a2] 44 (0, 0))) (u0 u1 u2 : Value) (o : Obj) :
    ((((W.setCell ⟨r, 0, none⟩ u0).setCell ⟨r, 1, none⟩ u1).setCell ⟨r, 2, none⟩ u2).alloc o).heap[r]? = some (.cells #[u0, u1, u2] 44 (0, 0)) := by
  have h1 := blk_set h 0 u0
  have h2 := blk_set h1 1 u1
  have h3 := blk_set h2 2 u2
  exact blk_alloc h3 o
set_option maxHeartbeats 4000000 in
set_option maxRecDepth 100000 in
theorem take (W : World) (base q : Nat) (F : Nat → Prop) (ms : List Th) (h : HQ W base F q ms) (hn : ms.length ≤ 1000) (h0 : 0 < ms.length) :
    Calls Try.prog 17 #[.pointer (some ⟨q, 0, none⟩)] W (HPopped (fun t => .agg #[.int .i64 t.1, .int .i64 t.2.1, .int .i64 t.2.2]) W base F q ms) := by
  have H0 := Aside0.mk h
  clear h
  go_enter Try.func17, Try.ntmps17
  go_wp2_with fail
  refine (hpop _ base q (fun k => F k ∧ k < W.heap.size) ms ((H0.out.mono (fun k hk e => ⟨e, hk⟩)).below (below_alloc (Below.refl _ _) _)) hn h0).mono ?_
  rintro e w1 ⟨⟨x0, x1, x2⟩, rest, rfl, h1, h2, h3, h4⟩
  have ta : ∀ w, (Instr.typeAssert (.iface 44 (.agg #[.int .i64 x0, .int .i64 x1, .int .i64 x2])) 20 44 true).run Try.prog w = .ok (.tuple #[.agg #[.int .i64 x0, .int .i64 x1, .int .i64 x2], .bool true]) w := fun w => by kernel_rfl
  have hb := h4.heap (heap_alloc_new W (.cells #[.int .i64 0, .int .i64 0, .int .i64 0] 44 (0, 0))) (by omega)
  have e0 : w1.cell? ⟨W.heap.size, 0, none⟩ = some (.int .i64 0) := (blk_cell hb 0).trans rfl
  have e1 : w1.cell? ⟨W.heap.size, 1, none⟩ = some (.int .i64 0) := (blk_cell hb 1).trans rfl
  have e2 : w1.cell? ⟨W.heap.size, 2, none⟩ = some (.int .i64 0) := (blk_cell hb 2).trans rfl
  have ef := blk_frozen hb
  have hlt := blk_lt hb
  have HHB := Aside0.mk hb
  have HH := Aside0.mk (And.intro h1 (And.intro h2 (And.intro h3 ((Chg.of_below (F := fun k => F k ∧ k < W.heap.size) (below_alloc (Below.refl W.heap.size W) (.cells #[.int .i64 0, .int .i64 0, .int .i64 0] 44 (0, 0)))).step h4))))
  clear h1 h2 h3 h4 hb
  go_wp2
  have C9 := set3_chg w1 W.heap.size (.int .i64 x0) (.int .i64 x1) (.int .i64 x2) (.cells #[.int .i64 x0, .int .i64 x1, .int .i64 x2] 44 (0, 0))
  have b9 := set3_blk w1 W.heap.size _ _ _ HHB.out (.int .i64 x0) (.int .i64 x1) (.int .i64 x2) (.cells #[.int .i64 x0, .int .i64 x1, .int .i64 x2] 44 (0, 0))
  obtain ⟨h1, h2, h3, h4⟩ := HH.out
  clear e0 e1 e2 ef ta HHB
  generalize ((((w1.setCell ⟨W.heap.size, 0, none⟩ (.int .i64 x0)).setCell ⟨W.heap.size, 1, none⟩ (.int .i64 x1)).setCell ⟨W.heap.size, 2, none⟩ (.int .i64 x2)).alloc (.cells #[.int .i64 x0, .int .i64 x1, .int .i64 x2] 44 (0, 0))) = w9 at C9 b9 ⊢
  have r0 : w9.cell? ⟨W.heap.size, 0, none⟩ = some (.int .i64 x0) := (blk_cell b9 0).trans rfl
  have r1 : w9.cell? ⟨W.heap.size, 1, none⟩ = some (.int .i64 x1) := (blk_cell b9 1).trans rfl
  have r2 : w9.cell? ⟨W.heap.size, 2, none⟩ = some (.int .i64 x2) := (blk_cell b9 2).trans rfl
  clear b9
  refine bodyPost_ret (v := .agg #[.int .i64 x0, .int .i64 x1, .int .i64 x2]) (by simp [results, Try.results17, go_sem, r0, r1, r2]) rfl ⟨(x0, x1, x2), rest, rfl, (h1.far C9 (fun k hk e e2 => ?_)).mono (fun k hk e => e.1), h2, h3, (h4.mono (fun k e => e.1)).trans C9 (fun k hk e => ?_)⟩
  · have := e.2; omega
  · omega
end Go.Proofs.Ytpkhcmholpljnac.Q
