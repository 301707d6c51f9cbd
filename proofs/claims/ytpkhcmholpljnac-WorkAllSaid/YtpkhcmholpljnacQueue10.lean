/- A text of a claim (ours): one list alone, made in the call; begun and WorkNil walked; conditions: none of ours. -/
import Derived.Test.YtpkhcmholpljnacProg
import Derived.Below
import Derived.Deep.Draws
import Derived.Deep.AppendLies
import Derived.Maps.AppendAt
import Derived.OwnWalk
import Derived.Laws.BytesArg
import Derived.Laws.MakeOwn
import Derived.Laws.OwnMore
import Derived.Deep.OwnRows
import Derived.Tactics
import Derived.Lib.ConvBytes
import Derived.Laws.Slices
import Derived.WalkKit
import Derived.KernelRfl
import Derived.RowKit3
import Derived.Deep.LoopGhost
import Derived.Deep.QuietTactic
import Derived.BigQuiet
import Derived.WideLaws
import Derived.Deep.DeepCutAuto
import Derived.Deep.CutBlock
import Derived.Deep.RegionHeld3
import Derived.Laws.Rows
import Derived.Lib.AppendStr
import Derived.ArgAppend
import Derived.Laws.IdiomCopy
import Derived.OrdersHeld
import Derived.Laws.BitsLemmas
import Derived.RowKit
import Derived.Test.YtpkhcmholpljnacWWords
import Derived.Test.YtpkhcmholpljnacWLast
import Derived.Test.YtpkhcmholpljnacWTab
import Derived.Test.YtpkhcmholpljnacWFour
import Derived.Test.YtpkhcmholpljnacWQPut
import Derived.Test.YtpkhcmholpljnacWApart
import Derived.Test.YtpkhcmholpljnacWArr
import Derived.Test.YtpkhcmholpljnacWZeros
import Derived.Test.YtpkhcmholpljnacWFoot
import Derived.Test.YtpkhcmholpljnacWKept
import Derived.Test.YtpkhcmholpljnacWShare
import Derived.Test.YtpkhcmholpljnacWN
import Derived.Test.YtpkhcmholpljnacWFootNe
import Derived.Test.YtpkhcmholpljnacWAt
import Derived.Test.YtpkhcmholpljnacWEqStruct
import Derived.Test.YtpkhcmholpljnacWRepsOne
import Derived.Test.YtpkhcmholpljnacWInv
import Derived.Test.YtpkhcmholpljnacWInvWords
import Derived.Test.YtpkhcmholpljnacWGuard
import Derived.Test.YtpkhcmholpljnacWNEv
import Derived.Test.YtpkhcmholpljnacWMore
import Derived.RegionTactic
import Derived.ChangeAlike
import Derived.BigRegion
import Derived.StillTailTactics
import Derived.Deep.RegionLaw
import Derived.WalkSpells
import Derived.Laws.EntriesVeiled
import Derived.Test.YtpkhcmholpljnacQueue9
namespace Go.Proofs.Ytpkhcmholpljnac.Q
open Go Go.RowKit Go.Proofs.Ytpkhcmholpljnac.Heap Go.Proofs.YtpkhcmholpljnacW.PrintWords Go.Proofs.YtpkhcmholpljnacW.PrintLast Go.Proofs.YtpkhcmholpljnacW.PrintMore
set_option linter.unusedVariables false
set_option linter.unusedSimpArgs false

theorem HQ.perm {W : World} {base q : Nat} {F : Nat → Prop} {ms ns : List Th} (h : HQ W base F q ms) (hp : ms.Perm ns) : HQ W base F q ns := by
  obtain ⟨ys, h1, h2, h3⟩ := h; exact ⟨ys, h1, h2, h3.trans hp⟩
theorem LI.perm {W : World} {base l pushed : Nat} {F : Nat → Prop} {picks : List Int} {ms ns : List Th} (h : LI W base F l picks pushed ms) (hp : ms.Perm ns) : LI W base F l picks pushed ns := by
  obtain ⟨q, pv, h1, h2, h3, h4, h5⟩ := h; exact ⟨q, pv, h1, h2, h3, h4, h5.perm hp⟩
theorem QI.lower {W : World} {base base' q : Nat} {F : Nat → Prop} {xs : List Th} (h : QI W base F q xs) (hb : base' ≤ base) : QI W base' F q xs := by
  obtain ⟨v, h1, h2, h3, h4, h5⟩ := h; exact ⟨v, h1, own_weaken h2 hb, h3, Nat.le_trans hb h4, h5⟩
theorem LI.lower {W : World} {base base' l pushed : Nat} {F : Nat → Prop} {picks : List Int} {ms : List Th} (h : LI W base F l picks pushed ms) (hb : base' ≤ base) : LI W base' F l picks pushed ms := by
  obtain ⟨q, pv, h1, h2, h3, h4, ⟨ys, g1, g2, g3⟩⟩ := h; exact ⟨q, pv, h1, Kd.R_lower h2 hb, h3, Nat.le_trans hb h4, ys, g1.lower hb, g2, g3⟩
theorem least_is {m t : Th} {r rest ms : List Th} (hp : ms.Perm (m :: r)) (hm : ∀ u ∈ r, lt m u = true) (g2 : (t :: rest).Perm ms) (g3 : ∀ u ∈ ms, le t u) : t = m ∧ rest.Perm r := by
  have ht : t ∈ m :: r := (g2.trans hp).mem_iff.1 (by simp)
  have e : t = m := by
    rcases List.mem_cons.1 ht with e | e
    · exact e
    · have h1 := hm t e
      have h2 := g3 m (hp.mem_iff.2 (by simp))
      unfold le at h2
      rw [h1] at h2; cases h2
  subst e
  exact ⟨rfl, List.Perm.cons_inv (g2.trans hp)⟩
def PopEq (W : World) (base l : Nat) (F : Nat → Prop) (picks : List Int) (pushed : Nat) (m : Th) (r : List Th) (e : Ending) (W' : World) : Prop :=
  e = .returned (.tuple #[.int .i64 m.2.2, .bool true]) ∧ LI W' base F l picks pushed r ∧ Chg F W W'
theorem pop_eq (W : World) (base l pushed : Nat) (F : Nat → Prop) (picks : List Int) (ms : List Th) (m : Th) (r : List Th) (h : LI W base F l picks pushed ms) (hp : ms.Perm (m :: r)) (hm : ∀ u ∈ r, lt m u = true) (hn : r.length < 1000) :
    Calls Try.prog 11 #[.pointer (some ⟨l, 0, none⟩)] W (PopEq W base l F picks pushed m r) := by
  have hl : ms.length = r.length + 1 := hp.length_eq
  refine (pop_some W base l pushed F picks ms h (by omega) (by omega)).mono ?_
  rintro e W' ⟨t, rest, rfl, g1, g2, g3, g4⟩
  obtain ⟨rfl, hr⟩ := least_is hp hm g2 g3
  exact ⟨rfl, g1.perm hr, g4⟩
/-- One list alone, made in the call. -/
def LS (w W : World) (l : Nat) (picks : List Int) (pushed : Nat) (ms : List Th) : Prop := ∃ F, LI W w.heap.size F l picks pushed ms ∧ (∀ k, F k → w.heap.size ≤ k) ∧ Below w.heap.size w W
theorem LS.below {w W W1 : World} {l pushed : Nat} {picks : List Int} {ms : List Th} (h : LS w W l picks pushed ms) (hb : Below W.heap.size W W1) : LS w W1 l picks pushed ms := by
  obtain ⟨F, h1, h2, h3⟩ := h; exact ⟨F, h1.below hb, h2, below_step h3 hb⟩
theorem LS.of_new {w W W' : World} {l : Nat} {picks : List Int} (hw : Below w.heap.size w W) (h : LI W' W.heap.size (fun k => W.heap.size ≤ k ∧ k < W'.heap.size) l picks 0 []) (hb : Below W.heap.size W W') : LS w W' l picks 0 [] :=
  ⟨_, h.lower hw.size, fun k hk => Nat.le_trans hw.size hk.1, below_step hw hb⟩
theorem push_s (w W : World) (l pushed : Nat) (picks : List Int) (h1000 : picks.length ≤ 1000) (ms : List Th) (n : Int) (h : LS w W l picks pushed ms) (hn : ms.length < 1000) (hp : pushed < 1000000) :
    Calls Try.prog 9 #[.pointer (some ⟨l, 0, none⟩), .int .i64 n] W fun e W' => e = .returned (.tuple #[]) ∧ LS w W' l picks (pushed + 1) (ms ++ [(keyOf picks pushed, (pushed : Int), n)]) := by
  obtain ⟨F, h1, h2, h3⟩ := h
  refine (push W _ l pushed F picks h1000 ms n h1 hn hp h3.size).mono ?_
  rintro e W' ⟨rfl, g1, g2⟩
  refine ⟨rfl, grow F W W', g1, fun k hk => ?_, h3.trans (g2.below h3.size h2)⟩
  rcases hk with e | e
  · exact h2 k e
  · exact Nat.le_trans h3.size e.1
theorem pop_s (w W : World) (l pushed : Nat) (picks : List Int) (ms : List Th) (m : Th) (r : List Th) (h : LS w W l picks pushed ms) (hp : ms.Perm (m :: r)) (hm : ∀ u ∈ r, lt m u = true) (hn : r.length < 1000) :
    Calls Try.prog 11 #[.pointer (some ⟨l, 0, none⟩)] W fun e W' => e = .returned (.tuple #[.int .i64 m.2.2, .bool true]) ∧ LS w W' l picks pushed r := by
  obtain ⟨F, h1, h2, h3⟩ := h
  refine (pop_eq W _ l pushed F picks ms m r h1 hp hm hn).mono ?_
  rintro e W' ⟨rfl, g1, g2⟩
  exact ⟨rfl, F, g1, h2, h3.trans (g2.below h3.size h2)⟩
theorem pop_s0 (w W : World) (l pushed : Nat) (picks : List Int) (h : LS w W l picks pushed []) :
    Calls Try.prog 11 #[.pointer (some ⟨l, 0, none⟩)] W fun e W' => e = .returned (.tuple #[.int .i64 0, .bool false]) ∧ W = W' := by
  obtain ⟨F, h1, h2, h3⟩ := h
  exact pop_none W _ l pushed F picks h1
theorem len_s (w W : World) (l pushed : Nat) (picks : List Int) (ms : List Th) (h : LS w W l picks pushed ms) :
    Calls Try.prog 12 #[.pointer (some ⟨l, 0, none⟩)] W fun e W' => e = .returned (.int .i64 ms.length) ∧ W = W' := by
  obtain ⟨F, h1, h2, h3⟩ := h
  exact len_ W _ l pushed F picks ms h1
theorem lit_C (W : World) (xs : List Int) (hn : xs.length ≤ 1000) : Kd.C (Kd.int .i64) (W.alloc (.cells (nums .i64 xs).toArray 3 (0, 0))) (some ⟨W.heap.size, 0, none⟩) xs.length xs := by
  refine ⟨rfl, by omega, fun _ => ⟨_, rfl, fun j p hj => ⟨[.int .i64 p], rfl, rfl, fun i u hi => ?_⟩⟩⟩
  have hi0 : i = 0 := by
    cases i with
    | zero => rfl
    | succ i => simp at hi
  subst hi0
  obtain rfl : Value.int .i64 p = u := by simpa using hi
  rw [add_plain, blk_cell (heap_alloc_new W _)]
  show (nums .i64 xs).toArray[j * 1 + 0]? = _
  rw [Nat.mul_one, Nat.add_zero, List.getElem?_toArray]
  unfold nums
  rw [List.getElem?_map, hj]; rfl
set_option maxHeartbeats 8000000 in
set_option maxRecDepth 100000 in
theorem begun (w : World) : Calls Try.prog 7 #[] w fun e W' => e = .returned (.bool true) ∧ Below w.heap.size w W' := by
  go_enter Try.func7, Try.ntmps7
  go_wp2_with fail
  refine (new_ _ _ 2 [5, 3] (lit_C w [5, 3] (by decide)) (by decide)).mono ?_
  rintro e w1 ⟨l, rfl, h1, hb1⟩
  have H1 := Aside0.mk (LS.of_new (w := w) (below_alloc (Below.refl _ _) _) h1 hb1)
  clear h1 hb1
  go_wp2_with fail
  refine (push_s w w1 l 0 [5, 3] (by decide) [] 10 H1.out (by decide) (by decide)).mono ?_
  rintro e w2 ⟨rfl, h⟩
  have H2 := Aside0.mk h
  clear h
  go_wp2_with fail
  refine (push_s w w2 l 1 [5, 3] (by decide) _ 11 H2.out (by decide) (by decide)).mono ?_
  rintro e w3 ⟨rfl, h⟩
  have H3 := Aside0.mk h
  clear h
  go_wp2_with fail
  refine (push_s w w3 l 2 [5, 3] (by decide) _ 12 H3.out (by decide) (by decide)).mono ?_
  rintro e w4 ⟨rfl, h⟩
  have H4 := Aside0.mk (show LS w w4 l [5, 3] 3 [(5, 0, 10), (3, 1, 11), (5, 2, 12)] from h)
  clear h
  go_wp2_with fail
  refine (pop_s w w4 l 3 [5, 3] _ (3, 1, 11) [(5, 0, 10), (5, 2, 12)] H4.out (by decide) (by decide) (by decide)).mono ?_
  rintro e w5 ⟨rfl, h⟩
  have H5 := Aside0.mk h
  clear h
  go_wp2_with fail
  refine (pop_s w w5 l 3 [5, 3] _ (5, 0, 10) [(5, 2, 12)] H5.out (by decide) (by decide) (by decide)).mono ?_
  rintro e w6 ⟨rfl, h⟩
  have H6 := Aside0.mk h
  clear h
  go_wp2_with fail
  refine (pop_s w w6 l 3 [5, 3] _ (5, 2, 12) [] H6.out (by decide) (by decide) (by decide)).mono ?_
  rintro e w7 ⟨rfl, h⟩
  have H7 := Aside0.mk h
  clear h
  go_wp2_with fail
  refine (pop_s0 w w7 l 3 [5, 3] H7.out).mono ?_
  rintro e w8 ⟨rfl, rfl⟩
  go_wp2_with (first | ((with_reducible refine (len_s w _ l 3 [5, 3] [] H7.out).mono ?_); rintro e w9 ⟨rfl, rfl⟩; rw [show ((([] : List Th).length : Nat) : Int) = 0 from rfl]))
  go_ret
  obtain ⟨F, _, _, hb⟩ := H7.out
  exact ⟨rfl, hb⟩
set_option maxHeartbeats 4000000 in
set_option maxRecDepth 100000 in
theorem workNil (w : World) (n : Int) : Calls Try.prog 6 #[.int .i64 n] w fun e W' => e = .returned (.bool true) ∧ Below w.heap.size w W' := by
  go_enter Try.func6, Try.ntmps6
  go_wp2_with fail
  refine (begun w).mono ?_
  rintro e w1 ⟨rfl, hb⟩
  have HB := Aside0.mk hb
  clear hb
  go_wp2_with (first | ((with_reducible refine (push_nil w1 n).mono ?_); rintro e w2 ⟨rfl, rfl⟩) | ((with_reducible refine (pop_nil w1).mono ?_); rintro e w2 ⟨rfl, rfl⟩) | ((with_reducible refine (len_nil w1).mono ?_); rintro e w2 ⟨rfl, rfl⟩))
  go_ret
  exact ⟨rfl, HB.out⟩
end Go.Proofs.Ytpkhcmholpljnac.Q
