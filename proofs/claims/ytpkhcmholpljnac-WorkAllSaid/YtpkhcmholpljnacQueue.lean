/- A text of a claim (ours): what the calls of the queue (Less, Swap, Len) do to the world; conditions: none of ours. -/
import Derived.Test.YtpkhcmholpljnacProg
import Derived.Below
import Derived.Deep.Draws
import Derived.Deep.AppendLies
import Derived.Maps.AppendAt
import Derived.OwnWalk
import Derived.Laws.BytesArg
import Derived.Laws.MakeOwn
import Derived.Laws.OwnMore
import Derived.Deep.OwnRows
import Derived.Tactics
import Derived.Lib.ConvBytes
import Derived.Laws.Slices
import Derived.WalkKit
import Derived.KernelRfl
import Derived.RowKit3
import Derived.Deep.LoopGhost
import Derived.Deep.QuietTactic
import Derived.BigQuiet
import Derived.WideLaws
import Derived.Deep.DeepCutAuto
import Derived.Deep.CutBlock
import Derived.Deep.RegionHeld3
import Derived.Laws.Rows
import Derived.Lib.AppendStr
import Derived.ArgAppend
import Derived.Laws.IdiomCopy
import Derived.OrdersHeld
import Derived.Laws.BitsLemmas
import Derived.RowKit
import Derived.Test.YtpkhcmholpljnacWWords
import Derived.Test.YtpkhcmholpljnacWLast
import Derived.Test.YtpkhcmholpljnacWTab
import Derived.Test.YtpkhcmholpljnacWFour
import Derived.Test.YtpkhcmholpljnacWQPut
import Derived.Test.YtpkhcmholpljnacWApart
import Derived.Test.YtpkhcmholpljnacWArr
import Derived.Test.YtpkhcmholpljnacWZeros
import Derived.Test.YtpkhcmholpljnacWFoot
import Derived.Test.YtpkhcmholpljnacWKept
import Derived.Test.YtpkhcmholpljnacWShare
import Derived.Test.YtpkhcmholpljnacWN
import Derived.Test.YtpkhcmholpljnacWFootNe
import Derived.Test.YtpkhcmholpljnacWAt
import Derived.Test.YtpkhcmholpljnacWEqStruct
import Derived.Test.YtpkhcmholpljnacWRepsOne
import Derived.Test.YtpkhcmholpljnacWInv
import Derived.Test.YtpkhcmholpljnacWInvWords
import Derived.Test.YtpkhcmholpljnacWGuard
import Derived.Test.YtpkhcmholpljnacWNEv
import Derived.Test.YtpkhcmholpljnacWMore
import Derived.RegionTactic
import Derived.ChangeAlike
import Derived.BigRegion
import Derived.Test.YtpkhcmholpljnacHeap
namespace Go.Proofs.Ytpkhcmholpljnac.Q
open Go Go.RowKit Go.Proofs.Ytpkhcmholpljnac.Heap Go.Proofs.YtpkhcmholpljnacW.PrintWords Go.Proofs.YtpkhcmholpljnacW.PrintLast Go.Proofs.YtpkhcmholpljnacW.PrintMore
set_option linter.unusedVariables false
set_option linter.unusedSimpArgs false

/-- All but the blocks of F is as it was. -/
structure Chg (F : Nat → Prop) (W W' : World) : Prop where
  os : W'.os = W.os
  tape : W'.tape = W.tape
  output : W'.output = W.output
  size : W.heap.size ≤ W'.heap.size
  block : ∀ k, k < W.heap.size → ¬ F k → W'.heap[k]? = W.heap[k]?
theorem Chg.refl (F : Nat → Prop) (W : World) : Chg F W W := ⟨rfl, rfl, rfl, Nat.le_refl _, fun _ _ _ => rfl⟩
theorem Chg.trans {F F1 : Nat → Prop} {W W1 W2 : World} (h : Chg F W W1) (k : Chg F1 W1 W2) (hF : ∀ k, k < W.heap.size → F1 k → F k) : Chg F W W2 :=
  ⟨k.os.trans h.os, k.tape.trans h.tape, k.output.trans h.output, Nat.le_trans h.size k.size, fun i hi hn => (k.block i (Nat.lt_of_lt_of_le hi h.size) (fun e => hn (hF i hi e))).trans (h.block i hi hn)⟩
theorem Chg.step {F : Nat → Prop} {W W1 W2 : World} (h : Chg F W W1) (k : Chg F W1 W2) : Chg F W W2 := h.trans k (fun _ _ e => e)
theorem Chg.mono {F F1 : Nat → Prop} {W W1 : World} (h : Chg F1 W W1) (hF : ∀ k, F1 k → F k) : Chg F W W1 := ⟨h.os, h.tape, h.output, h.size, fun i hi hn => h.block i hi (fun e => hn (hF i e))⟩
theorem Chg.of_below {F : Nat → Prop} {W W1 : World} (h : Below W.heap.size W W1) : Chg F W W1 := ⟨h.os, h.tape, h.output, h.size, fun k hk _ => h.block k hk⟩
theorem Chg.setCell {F : Nat → Prop} {W W1 : World} (h : Chg F W W1) {p : Addr} (hp : F p.block) (u : Value) : Chg F W (W1.setCell p u) :=
  ⟨h.os, h.tape, h.output, by rw [World.size_setCell]; exact h.size, fun k hk hn => (Below.heap_setCell W1 p u k (fun e => hn (e ▸ hp))).trans (h.block k hk hn)⟩
theorem Chg.drew {F : Nat → Prop} {W W1 : World} (h : Chg F W W1) : Chg F W W1.drew := ⟨h.os, h.tape, h.output, h.size, h.block⟩
theorem Chg.drewN {F : Nat → Prop} {W W1 : World} (h : Chg F W W1) (n : Nat) : Chg F W (W1.drewN n) := ⟨h.os, h.tape, h.output, h.size, h.block⟩
theorem Chg.alloc {F : Nat → Prop} {W W1 : World} (h : Chg F W W1) (o : Obj) : Chg F W (W1.alloc o) := h.step (Chg.of_below (below_alloc (Below.refl _ _) o))
theorem Chg.grown {F : Nat → Prop} {W W1 : World} {row : Option Nat} (hg : W.grownBy W1 row) (hr : ∀ k, row = some k → F k) : Chg F W W1 :=
  ⟨hg.os, hg.tape, hg.output, hg.size, fun k hk hn => hg.block k hk (fun e => hn (hr k e.symm))⟩
theorem Chg.below {F : Nat → Prop} {W W1 : World} (h : Chg F W W1) {B : Nat} (hB : B ≤ W.heap.size) (hF : ∀ k, F k → B ≤ k) : Below B W W1 :=
  ⟨h.os, h.tape, h.output, h.size, fun k hk => h.block k (Nat.lt_of_lt_of_le hk hB) (fun e => absurd (hF k e) (by omega))⟩
theorem Chg.heap {F : Nat → Prop} {W W1 : World} (h : Chg F W W1) {k : Nat} {o : Obj} (hb : W.heap[k]? = some o) (hn : ¬ F k) : W1.heap[k]? = some o := (h.block k (blk_lt hb) hn).trans hb
/-! ### the cells of things -/
def tc (t : Th) : List Value := [.int .i64 t.1, .int .i64 t.2.1, .int .i64 t.2.2]
def flat : List Th → List Value
  | [] => []
  | t :: ts => tc t ++ flat ts
theorem flat_len : ∀ xs, (flat xs).length = xs.length * 3
  | [] => rfl
  | t :: ts => by rw [flat, List.length_append, flat_len ts]; simp [tc]; omega
theorem flat_append : ∀ xs ys, flat (xs ++ ys) = flat xs ++ flat ys
  | [], _ => rfl
  | t :: ts, ys => by rw [List.cons_append, flat, flat, flat_append ts ys, List.append_assoc]
theorem flat_get : ∀ (xs : List Th) (i k : Nat), i < xs.length → k < 3 → (flat xs)[i * 3 + k]? = (tc (g xs i))[k]?
  | [], i, k, h, _ => by simp at h
  | t :: ts, 0, k, _, hk => by
    rw [flat, Nat.zero_mul, Nat.zero_add, List.getElem?_append_left (by simp [tc]; omega)]; rfl
  | t :: ts, i + 1, k, h, hk => by
    rw [flat, List.getElem?_append_right (by simp [tc]; omega), show (i + 1) * 3 + k - (tc t).length = i * 3 + k by simp [tc]; omega, flat_get ts i k (by simpa using h) hk]; rfl
theorem flat_ext (xs : List Th) (l : List Value) (hl : l.length = xs.length * 3) (h : ∀ i k, i < xs.length → k < 3 → l[i * 3 + k]? = (tc (g xs i))[k]?) : l = flat xs := by
  apply List.ext_getElem?
  intro p
  by_cases hp : p < xs.length * 3
  · have := h (p / 3) (p % 3) (by omega) (by omega)
    rw [show p / 3 * 3 + p % 3 = p by omega] at this
    rw [this, ← flat_get xs (p / 3) (p % 3) (by omega) (by omega), show p / 3 * 3 + p % 3 = p by omega]
  · rw [List.getElem?_eq_none (by omega), List.getElem?_eq_none (by rw [flat_len]; omega)]
/-! ### the queue's state: its block, and its row of things -/
def QI (W : World) (base : Nat) (F : Nat → Prop) (q : Nat) (xs : List Th) : Prop :=
  ∃ v, W.heap[q]? = some (.cells #[v] 48 (0, 0)) ∧ W.ownsRow base 44 3 v xs.length (flat xs) ∧ F q ∧ base ≤ q ∧ (∀ k, v.ownBlock = some k → F k)
theorem QI.mono {W : World} {base q : Nat} {F F' : Nat → Prop} {xs : List Th} (h : QI W base F q xs) (hF : ∀ k, k < W.heap.size → F k → F' k) : QI W base F' q xs := by
  obtain ⟨v, h1, h2, h3, h4, h5⟩ := h
  exact ⟨v, h1, h2, hF q (blk_lt h1) h3, h4, fun k hk => hF k (h2.lt k hk).2 (h5 k hk)⟩
theorem QI.far {W W1 : World} {base q : Nat} {F F1 : Nat → Prop} {xs : List Th} (h : QI W base F q xs) (c : Chg F1 W W1) (hd : ∀ k, k < W.heap.size → F k → ¬ F1 k) : QI W1 base F q xs := by
  obtain ⟨v, h1, h2, h3, h4, h5⟩ := h
  exact ⟨v, c.heap h1 (hd q (blk_lt h1) h3), own_move h2 (fun k hk => c.block k (h2.lt k hk).2 (hd k (h2.lt k hk).2 (h5 k hk))), h3, h4, h5⟩
theorem QI.below {W W1 : World} {base q : Nat} {F : Nat → Prop} {xs : List Th} (h : QI W base F q xs) (hb : Below W.heap.size W W1) : QI W1 base F q xs :=
  h.far (Chg.of_below (F := fun _ => False) hb) (fun _ _ _ h => h)
/-- The queue laid open: where there is a thing. -/
theorem QI.opened {W : World} {base q : Nat} {F : Nat → Prop} {xs : List Th} (h : QI W base F q xs) (hp : 0 < xs.length) :
    ∃ r cap cur, W.heap[q]? = some (.cells #[.slice (some ⟨r, 0, none⟩) xs.length cap] 48 (0, 0)) ∧ W.heap[r]? = some (.cells cur 44 (0, 0)) ∧ F q ∧ F r ∧ base ≤ q ∧ base ≤ r ∧ xs.length ≤ cap ∧ cap ≤ maxLen ∧ cur.size = cap * 3 ∧ cur.toList.take (xs.length * 3) = flat xs ∧ q ≠ r := by
  obtain ⟨v, h1, h2, h3, h4, h5⟩ := h
  obtain ⟨hl, h2⟩ := h2
  rcases h2 with ⟨rfl, h0⟩ | ⟨r, cap, cur, rfl, hb, hr, hn, hm, hs, ht⟩
  · omega
  · exact ⟨r, cap, cur, h1, hr, h3, h5 r rfl, h4, hb, hn, hm, hs, ht, fun e => by rw [e] at h1; rw [h1] at hr; simp at hr⟩
theorem QI.shut {W : World} {base q r cap : Nat} {F : Nat → Prop} {xs : List Th} {cur : Array Value} (h1 : W.heap[q]? = some (.cells #[.slice (some ⟨r, 0, none⟩) xs.length cap] 48 (0, 0))) (hr : W.heap[r]? = some (.cells cur 44 (0, 0)))
    (h3 : F q) (h5 : F r) (h4 : base ≤ q) (hb : base ≤ r) (hn : xs.length ≤ cap) (hm : cap ≤ maxLen) (hs : cur.size = cap * 3) (ht : cur.toList.take (xs.length * 3) = flat xs) : QI W base F q xs :=
  ⟨_, h1, ⟨flat_len xs, .inr ⟨r, cap, cur, rfl, hb, hr, hn, hm, hs, ht⟩⟩, h3, h4, fun k hk => by simp [Value.ownBlock] at hk; subst hk; exact h5⟩
theorem cur_cell {cur : Array Value} {xs : List Th} (ht : cur.toList.take (xs.length * 3) = flat xs) (i k : Nat) (hi : i < xs.length) (hk : k < 3) : cur[i * 3 + k]? = (tc (g xs i))[k]? := by
  rw [← flat_get xs i k hi hk, ← ht, List.getElem?_take_of_lt (by omega), Array.getElem?_toList]
theorem row_cell {W : World} {r : Nat} {cur : Array Value} {xs : List Th} (hr : W.heap[r]? = some (.cells cur 44 (0, 0))) (ht : cur.toList.take (xs.length * 3) = flat xs) (i k : Nat) (hi : i < xs.length) (hk : k < 3) : W.cell? ⟨r, i * 3 + k, none⟩ = (tc (g xs i))[k]? := by
  rw [blk_cell hr, cur_cell ht i k hi hk]
/-! ### Less, Len, Swap -/
set_option maxHeartbeats 4000000 in
set_option maxRecDepth 100000 in
theorem less_core (W : World) (q r n cap i j : Nat) (a b : Th) (hq : W.cell? ⟨q, 0, none⟩ = some (.slice (some ⟨r, 0, none⟩) n cap)) (hn : n ≤ 1000) (hi : i < n) (hj : j < n)
    (a0 : W.cell? ⟨r, i * 3, none⟩ = some (.int .i64 a.1)) (a1 : W.cell? ⟨r, i * 3 + 1, none⟩ = some (.int .i64 a.2.1)) (a2 : W.cell? ⟨r, i * 3 + 2, none⟩ = some (.int .i64 a.2.2))
    (b0 : W.cell? ⟨r, j * 3, none⟩ = some (.int .i64 b.1)) (b1 : W.cell? ⟨r, j * 3 + 1, none⟩ = some (.int .i64 b.2.1)) (b2 : W.cell? ⟨r, j * 3 + 2, none⟩ = some (.int .i64 b.2.2)) :
    Calls Try.prog 38 #[.pointer (some ⟨q, 0, none⟩), .int .i64 i, .int .i64 j] W fun e W' => e = .returned (.bool (lt a b)) ∧ Below W.heap.size W W' := by
  obtain ⟨x0, x1, x2⟩ := a
  obtain ⟨y0, y1, y2⟩ := b
  dsimp only at a0 a1 a2 b0 b1 b2
  have hrs := World.block_lt_of_cell? _ _ a0
  have hqs := World.block_lt_of_cell? _ _ hq
  dsimp only at hrs hqs
  by_cases h1 : x0 < y0
  · have k1 : decide (x0 < y0) = true := decide_eq_true h1
    have R : lt (x0, x1, x2) (y0, y1, y2) = true := by rw [lt_def]; exact .inl h1
    rw [R]
    clear R
    go_enter Try.func38, Try.ntmps38
    go_wp2
    go_region
    all_goals
      go_wp2
      go_ret
      exact ⟨rfl, by repeat (first | exact Below.refl _ _ | (with_reducible first | apply below_alloc | apply pw_below_drewN | apply below_drew1))⟩
  · have k1 : decide (x0 < y0) = false := decide_eq_false h1
    by_cases h2 : x0 = y0
    · have k2 : (x0 == y0) = true := beq_iff_eq.2 h2
      have R : lt (x0, x1, x2) (y0, y1, y2) = decide (x1 < y1) := by unfold lt; simp [h1, h2]
      rw [R]
      clear R h1 h2
      go_enter Try.func38, Try.ntmps38
      go_wp2
      go_region
      all_goals
        go_wp2
        go_ret
        exact ⟨rfl, by repeat (first | exact Below.refl _ _ | (with_reducible first | apply below_alloc | apply pw_below_drewN | apply below_drew1))⟩
    · have k2 : (x0 == y0) = false := beq_eq_false_iff_ne.2 h2
      have R : lt (x0, x1, x2) (y0, y1, y2) = false := by unfold lt; simp [h1, h2]
      rw [R]
      clear R h1 h2
      go_enter Try.func38, Try.ntmps38
      go_wp2
      go_region
      all_goals
        go_wp2
        go_ret
        exact ⟨rfl, by repeat (first | exact Below.refl _ _ | (with_reducible first | apply below_alloc | apply pw_below_drewN | apply below_drew1))⟩

theorem less (W : World) (base q : Nat) (F : Nat → Prop) (xs : List Th) (h : QI W base F q xs) (hn : xs.length ≤ 1000) (i j : Nat) (hi : i < xs.length) (hj : j < xs.length) :
    Calls Try.prog 38 #[.pointer (some ⟨q, 0, none⟩), .int .i64 i, .int .i64 j] W fun e W' => e = .returned (.bool (lt (g xs i) (g xs j))) ∧ Below W.heap.size W W' := by
  obtain ⟨r, cap, cur, h1, hr, _, _, _, _, _, _, _, ht, _⟩ := h.opened (by omega)
  have c := fun i k hi hk => row_cell hr ht i k hi hk
  exact less_core W q r xs.length cap i j (g xs i) (g xs j) ((blk_cell h1 0).trans rfl) hn hi hj (c i 0 hi (by omega)) (c i 1 hi (by omega)) (c i 2 hi (by omega)) (c j 0 hj (by omega)) (c j 1 hj (by omega)) (c j 2 hj (by omega))
set_option maxHeartbeats 8000000 in
set_option maxRecDepth 100000 in
theorem swap_core (W : World) (q r n cap i j : Nat) (a b : Th) (cur : Array Value) (hq : W.cell? ⟨q, 0, none⟩ = some (.slice (some ⟨r, 0, none⟩) n cap)) (hr : W.heap[r]? = some (.cells cur 44 (0, 0))) (hn : n ≤ 1000) (hi : i < n) (hj : j < n) (hqr : q ≠ r) (hij : i ≠ j)
    (a0 : W.cell? ⟨r, i * 3, none⟩ = some (.int .i64 a.1)) (a1 : W.cell? ⟨r, i * 3 + 1, none⟩ = some (.int .i64 a.2.1)) (a2 : W.cell? ⟨r, i * 3 + 2, none⟩ = some (.int .i64 a.2.2))
    (b0 : W.cell? ⟨r, j * 3, none⟩ = some (.int .i64 b.1)) (b1 : W.cell? ⟨r, j * 3 + 1, none⟩ = some (.int .i64 b.2.1)) (b2 : W.cell? ⟨r, j * 3 + 2, none⟩ = some (.int .i64 b.2.2)) :
    Calls Try.prog 41 #[.pointer (some ⟨q, 0, none⟩), .int .i64 i, .int .i64 j] W fun e W' => e = .returned (.tuple #[]) ∧
      W' = ((((((W.setCell ⟨r, i * 3, none⟩ (.int .i64 b.1)).setCell ⟨r, i * 3 + 1, none⟩ (.int .i64 b.2.1)).setCell ⟨r, i * 3 + 2, none⟩ (.int .i64 b.2.2)).setCell ⟨r, j * 3, none⟩ (.int .i64 a.1)).setCell ⟨r, j * 3 + 1, none⟩ (.int .i64 a.2.1)).setCell ⟨r, j * 3 + 2, none⟩ (.int .i64 a.2.2)).drew := by
  obtain ⟨x0, x1, x2⟩ := a
  obtain ⟨y0, y1, y2⟩ := b
  dsimp only at a0 a1 a2 b0 b1 b2
  have hrs := World.block_lt_of_cell? _ _ a0
  have hqs := World.block_lt_of_cell? _ _ hq
  dsimp only at hrs hqs
  have f0 := blk_frozen hr
  clear hr
  have d0 : i * 3 ≠ j * 3 := by omega
  go_enter Try.func41, Try.ntmps41
  go_region
  go_end0
  exact ⟨rfl, rfl⟩
set_option maxHeartbeats 8000000 in
set_option maxRecDepth 100000 in
theorem swap_same (W : World) (q r n cap i : Nat) (a : Th) (cur : Array Value) (hq : W.cell? ⟨q, 0, none⟩ = some (.slice (some ⟨r, 0, none⟩) n cap)) (hr : W.heap[r]? = some (.cells cur 44 (0, 0))) (hn : n ≤ 1000) (hi : i < n) (hqr : q ≠ r)
    (a0 : W.cell? ⟨r, i * 3, none⟩ = some (.int .i64 a.1)) (a1 : W.cell? ⟨r, i * 3 + 1, none⟩ = some (.int .i64 a.2.1)) (a2 : W.cell? ⟨r, i * 3 + 2, none⟩ = some (.int .i64 a.2.2)) :
    Calls Try.prog 41 #[.pointer (some ⟨q, 0, none⟩), .int .i64 i, .int .i64 i] W fun e W' => e = .returned (.tuple #[]) ∧
      W' = ((((((W.setCell ⟨r, i * 3, none⟩ (.int .i64 a.1)).setCell ⟨r, i * 3 + 1, none⟩ (.int .i64 a.2.1)).setCell ⟨r, i * 3 + 2, none⟩ (.int .i64 a.2.2)).setCell ⟨r, i * 3, none⟩ (.int .i64 a.1)).setCell ⟨r, i * 3 + 1, none⟩ (.int .i64 a.2.1)).setCell ⟨r, i * 3 + 2, none⟩ (.int .i64 a.2.2)).drew := by
  obtain ⟨x0, x1, x2⟩ := a
  dsimp only at a0 a1 a2
  have hrs := World.block_lt_of_cell? _ _ a0
  have hqs := World.block_lt_of_cell? _ _ hq
  dsimp only at hrs hqs
  have f0 := blk_frozen hr
  clear hr
  go_enter Try.func41, Try.ntmps41
  go_region
  go_end0
  exact ⟨rfl, rfl⟩
theorem drew_heap (W : World) : W.drew.heap = W.heap := rfl
theorem set6 (W : World) (r i j : Nat) (cur : Array Value) (hr : W.heap[r]? = some (.cells cur 44 (0, 0))) (u0 u1 u2 v0 v1 v2 : Value) :
    ((((((W.setCell ⟨r, i, none⟩ u0).setCell ⟨r, i + 1, none⟩ u1).setCell ⟨r, i + 2, none⟩ u2).setCell ⟨r, j, none⟩ v0).setCell ⟨r, j + 1, none⟩ v1).setCell ⟨r, j + 2, none⟩ v2).drew.heap[r]? =
      some (.cells ((((((cur.setIfInBounds i u0).setIfInBounds (i + 1) u1).setIfInBounds (i + 2) u2).setIfInBounds j v0).setIfInBounds (j + 1) v1).setIfInBounds (j + 2) v2) 44 (0, 0)) :=
  by
  have a1 := blk_set hr i u0
  have a2 := blk_set a1 (i + 1) u1
  have a3 := blk_set a2 (i + 2) u2
  have a4 := blk_set a3 j v0
  have a5 := blk_set a4 (j + 1) v1
  have a6 := blk_set a5 (j + 2) v2
  rw [drew_heap]
  exact a6
theorem set6_chg (F : Nat → Prop) (W : World) (r i j : Nat) (hF : F r) (u0 u1 u2 v0 v1 v2 : Value) :
    Chg F W ((((((W.setCell ⟨r, i, none⟩ u0).setCell ⟨r, i + 1, none⟩ u1).setCell ⟨r, i + 2, none⟩ u2).setCell ⟨r, j, none⟩ v0).setCell ⟨r, j + 1, none⟩ v1).setCell ⟨r, j + 2, none⟩ v2).drew :=
  ((((((((Chg.refl F W).setCell hF _).setCell hF _).setCell hF _).setCell hF _).setCell hF _).setCell hF _)).drew
theorem set6_at (cur : Array Value) (i j p : Nat) (hi : i + 2 < cur.size) (hj : j + 2 < cur.size) (u0 u1 u2 v0 v1 v2 : Value) :
    ((((((cur.setIfInBounds i u0).setIfInBounds (i + 1) u1).setIfInBounds (i + 2) u2).setIfInBounds j v0).setIfInBounds (j + 1) v1).setIfInBounds (j + 2) v2)[p]? =
      if p = j + 2 then some v2 else if p = j + 1 then some v1 else if p = j then some v0 else if p = i + 2 then some u2 else if p = i + 1 then some u1 else if p = i then some u0 else cur[p]? := by
  simp only [Array.getElem?_setIfInBounds, Array.size_setIfInBounds]
  repeat' split
  all_goals first | rfl | omega
theorem set6_flat (cur : Array Value) (xs : List Th) (i j : Nat) (hi : i < xs.length) (hj : j < xs.length) (hs : xs.length * 3 ≤ cur.size) (ht : cur.toList.take (xs.length * 3) = flat xs) :
    ((((((cur.setIfInBounds (i * 3) (.int .i64 (g xs j).1)).setIfInBounds (i * 3 + 1) (.int .i64 (g xs j).2.1)).setIfInBounds (i * 3 + 2) (.int .i64 (g xs j).2.2)).setIfInBounds (j * 3) (.int .i64 (g xs i).1)).setIfInBounds (j * 3 + 1) (.int .i64 (g xs i).2.1)).setIfInBounds (j * 3 + 2) (.int .i64 (g xs i).2.2)).toList.take ((swap xs i j).length * 3) = flat (swap xs i j) := by
  apply flat_ext
  · rw [List.length_take, swap_len]; simp; omega
  · intro p k hp hk
    rw [swap_len] at hp
    rw [List.getElem?_take_of_lt (by rw [swap_len]; omega), Array.getElem?_toList, set6_at cur (i * 3) (j * 3) (p * 3 + k) (by omega) (by omega), g_swap xs i j p hi hj, cur_cell ht p k hp hk]
    have hk3 : k = 0 ∨ k = 1 ∨ k = 2 := by omega
    by_cases e1 : j = p
    · subst e1
      rw [if_pos rfl]
      rcases hk3 with rfl | rfl | rfl
      · rw [if_neg (by omega), if_neg (by omega), if_pos (by omega)]; rfl
      · rw [if_neg (by omega), if_pos (by omega)]; rfl
      · rw [if_pos (by omega)]; rfl
    · rw [if_neg e1, if_neg (by omega), if_neg (by omega), if_neg (by omega)]
      by_cases e2 : i = p
      · subst e2
        rw [if_pos rfl]
        rcases hk3 with rfl | rfl | rfl
        · rw [if_neg (by omega), if_neg (by omega), if_pos (by omega)]; rfl
        · rw [if_neg (by omega), if_pos (by omega)]; rfl
        · rw [if_pos (by omega)]; rfl
      · rw [if_neg e2, if_neg (by omega), if_neg (by omega), if_neg (by omega)]
theorem swapped (W : World) (base q : Nat) (F : Nat → Prop) (xs : List Th) (h : QI W base F q xs) (hn : xs.length ≤ 1000) (i j : Nat) (hi : i < xs.length) (hj : j < xs.length) :
    Calls Try.prog 41 #[.pointer (some ⟨q, 0, none⟩), .int .i64 i, .int .i64 j] W fun e W' => e = .returned (.tuple #[]) ∧ QI W' base F q (swap xs i j) ∧ Chg F W W' := by
  obtain ⟨r, cap, cur, h1, hr, fq, fr, bq, br, hc, hm, hs, ht, hqr⟩ := h.opened (by omega)
  have c := fun i k hi hk => row_cell hr ht i k hi hk
  have key : ∀ W', W' = ((((((W.setCell ⟨r, i * 3, none⟩ (.int .i64 (g xs j).1)).setCell ⟨r, i * 3 + 1, none⟩ (.int .i64 (g xs j).2.1)).setCell ⟨r, i * 3 + 2, none⟩ (.int .i64 (g xs j).2.2)).setCell ⟨r, j * 3, none⟩ (.int .i64 (g xs i).1)).setCell ⟨r, j * 3 + 1, none⟩ (.int .i64 (g xs i).2.1)).setCell ⟨r, j * 3 + 2, none⟩ (.int .i64 (g xs i).2.2)).drew → QI W' base F q (swap xs i j) ∧ Chg F W W' := by
    intro W' e
    subst e
    have C := set6_chg (fun k => k = r) W r (i * 3) (j * 3) rfl (.int .i64 (g xs j).1) (.int .i64 (g xs j).2.1) (.int .i64 (g xs j).2.2) (.int .i64 (g xs i).1) (.int .i64 (g xs i).2.1) (.int .i64 (g xs i).2.2)
    refine ⟨QI.shut (by rw [swap_len]; exact C.heap h1 hqr) (set6 W r (i * 3) (j * 3) cur hr _ _ _ _ _ _) fq fr bq br (by rw [swap_len]; exact hc) hm (by simp only [Array.size_setIfInBounds]; exact hs) (set6_flat cur xs i j hi hj (by rw [hs]; omega) ht), C.mono (fun k e => by subst e; exact fr)⟩
  by_cases e : i = j
  · subst e
    exact (swap_same W q r xs.length cap i (g xs i) cur ((blk_cell h1 0).trans rfl) hr hn hi hqr (c i 0 hi (by omega)) (c i 1 hi (by omega)) (c i 2 hi (by omega))).mono fun e W' ⟨he, hw⟩ => ⟨he, key W' hw⟩
  · exact (swap_core W q r xs.length cap i j (g xs i) (g xs j) cur ((blk_cell h1 0).trans rfl) hr hn hi hj hqr e (c i 0 hi (by omega)) (c i 1 hi (by omega)) (c i 2 hi (by omega)) (c j 0 hj (by omega)) (c j 1 hj (by omega)) (c j 2 hj (by omega))).mono fun e W' ⟨he, hw⟩ => ⟨he, key W' hw⟩
theorem QI.slice {W : World} {base q : Nat} {F : Nat → Prop} {xs : List Th} (h : QI W base F q xs) : ∃ A c, W.heap[q]? = some (.cells #[.slice A xs.length c] 48 (0, 0)) := by
  obtain ⟨v, h1, h2, _⟩ := h
  obtain ⟨A, c, rfl⟩ := own_slice h2
  exact ⟨A, c, h1⟩
theorem qlen (W : World) (base q : Nat) (F : Nat → Prop) (xs : List Th) (h : QI W base F q xs) :
    Calls Try.prog 15 #[.pointer (some ⟨q, 0, none⟩)] W fun e W' => e = .returned (.int .i64 xs.length) ∧ W' = W := by
  obtain ⟨A, c, h1⟩ := h.slice
  have hq : W.cell? ⟨q, 0, none⟩ = some (.slice A xs.length c) := (blk_cell h1 0).trans rfl
  clear h h1
  go_enter Try.func15, Try.ntmps15
  go_wp2
  go_ret
  exact ⟨rfl, rfl⟩
end Go.Proofs.Ytpkhcmholpljnac.Q
