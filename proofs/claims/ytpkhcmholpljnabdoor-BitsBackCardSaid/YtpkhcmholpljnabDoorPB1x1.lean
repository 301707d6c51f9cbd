/- A text of a claim: it proves what its last theorem states, for every input that the given row speaks of; conditions of ours: none. Written by this claim's own program (wip/tools/xprint.py) over the kit's printer. -/
import Derived.Test.YtpkhcmholpljnabDoorPB1x0
namespace Go.Proofs.YtpkhcmholpljnabDoor.PB1
open Go.RowKit Go.Proofs.YtpkhcmholpljnabDoorW.PrintWords Go.Proofs.YtpkhcmholpljnabDoorW.PrintLast Go.Proofs.YtpkhcmholpljnabDoorW.PrintMore
attribute [local go_sem] max2_int min2_int max_two min_two max_three min_three max_four min_four   -- for this text's walks alone
set_option linter.unusedVariables false
set_option linter.unusedSimpArgs false

/-! ### bits_one: function 27 -/
def bits_one.f (a0 : Int) : Option (Int) := if a0 < 0 then (some 0) else (if a0 ≥ 64 then (some 0) else (if 0 ≤ a0 then (some (shl .u64 1 a0)) else (none)))
set_option maxHeartbeats 8000000 in
set_option maxRecDepth 100000 in
theorem bits_one.calls (a0 : Int) (r : Int) (w : World) (h : bits_one.f a0 = some r) :
    Calls Tryd.prog 27 #[.int .i64 a0] w fun e w' => e = .returned (.int .u64 r) ∧ Drawn0 w w' := by
  have H : (if a0 < 0 then (some 0) else (if a0 ≥ 64 then (some 0) else (if 0 ≤ a0 then (some (shl .u64 1 a0)) else (none)))) = some r := h
  clear h
  by_cases c2 : a0 < 0
  · rw [if_pos c2] at H
    have c2b0 : decide (a0 < 0) = true := decide_eq_true c2
    clear c2
    obtain rfl := Option.some.inj H
    go_enter Tryd.func27, Tryd.ntmps27
    go_wp2
    go_ret
    exact ⟨by first | rfl | (simp; done) | (simp [*]; done), by repeat (first | exact Drawn0.refl _ | apply Drawn0.step)⟩
  · rw [if_neg c2] at H
    have c2b0 : decide (a0 < 0) = false := decide_eq_false c2
    clear c2
    by_cases c3 : a0 ≥ 64
    · rw [if_pos c3] at H
      have c3b0 : decide (64 ≤ a0) = true := decide_eq_true c3
      clear c3
      obtain rfl := Option.some.inj H
      go_enter Tryd.func27, Tryd.ntmps27
      go_wp2
      go_ret
      exact ⟨by first | rfl | (simp; done) | (simp [*]; done), by repeat (first | exact Drawn0.refl _ | apply Drawn0.step)⟩
    · rw [if_neg c3] at H
      have c3b0 : decide (64 ≤ a0) = false := decide_eq_false c3
      clear c3
      by_cases c4 : 0 ≤ a0
      · rw [if_pos c4] at H
        have c4b0 := eq_true c4
        have c4b1 : decide (0 ≤ a0) = true := decide_eq_true c4
        clear c4
        obtain ⟨ji5, hji5⟩ : ∃ j_ : Int, (shl .u64 1 a0) = j_ := ⟨_, rfl⟩
        replace H : (some ji5) = some r := by first | (rw [hji5] at H; exact H) | (simp only [hji5] at H ⊢; exact H)
        have hji5_ : (IntKind.u64.wrap (1 * 2 ^ min a0.toNat 64)) = ji5 := hji5
        have hji5z : a0 ≤ 64 → (IntKind.u64.wrap (1 * 2 ^ a0.toNat)) = ji5 := shl_small hji5
        have hji5u : (IntKind.u64.wrap (2 ^ min a0.toNat 64)) = ji5 := by have h_ := hji5_; rw [Int.one_mul] at h_; exact h_
        have hji5v : a0 ≤ 64 → (IntKind.u64.wrap (2 ^ a0.toNat)) = ji5 := fun hle_ => by have h_ := hji5z hle_; rw [Int.one_mul] at h_; exact h_
        obtain rfl := Option.some.inj H
        go_enter Tryd.func27, Tryd.ntmps27
        go_wp2
        go_ret
        exact ⟨by first | rfl | (simp; done) | (simp only [← hji5] <;> (first | rfl | simp)) | (simp [*]; done), by repeat (first | exact Drawn0.refl _ | apply Drawn0.step)⟩
      · rw [if_neg c4] at H
        exact absurd H (by simp)

/-! ### bits_Of: function 10 -/
def bits_Of.l0 : Nat → Int → List Int → Int → Int → Option (Int)
  | 0, _, _, _, _ => none
  | k + 1, x3, x6, x7, x8 => if x8 < x7 then (if 0 ≤ x8 then (if x8 < (x6.length : Int) then ((bits_one.f (rd x6 x8)).bind fun t102 => (bits_Of.l0 k (Go.bits .or .u64 x3 t102) x6 x7 (wrap64 (x8 + 1)))) else (none)) else (none)) else (some x3)
def bits_Of.f (k : Nat) (l0 : List Int) : Option (Int) := bits_Of.l0 k 0 l0 (l0.length : Int) 0
theorem bits_Of.mono_l : ∀ k, (∀ y0 y1 y2 y3, LeO (bits_Of.l0 k y0 y1 y2 y3) (bits_Of.l0 (k + 1) y0 y1 y2 y3))
  | 0 => fun _ _ _ _ r h => by simp [bits_Of.l0] at h
  | k + 1 => by
    have ih0 := bits_Of.mono_l k
    · intro y0 y1 y2 y3
      unfold bits_Of.l0
      repeat' first
      | (with_reducible exact ih0 _ _ _ _)
      | (with_reducible exact LeO.refl _)
      | (with_reducible exact LeO.none _)
      | (with_reducible refine LeO.ite ?_ ?_)
      | (with_reducible refine LeO.bind ?_ (fun _ => ?_))
      | exact ih0 _ _ _ _
      | exact LeO.none _
      | refine LeO.ite ?_ ?_
      | refine LeO.bind ?_ (fun _ => ?_)
theorem bits_Of.mono : ∀ a0 k, LeO (bits_Of.f k a0) (bits_Of.f (k + 1) a0) := by
  intro a0 k
  have ih0 := bits_Of.mono_l k
  unfold bits_Of.f
  repeat' first
      | (with_reducible exact ih0 _ _ _ _)
      | (with_reducible exact LeO.refl _)
      | (with_reducible exact LeO.none _)
      | (with_reducible refine LeO.ite ?_ ?_)
      | (with_reducible refine LeO.bind ?_ (fun _ => ?_))
      | exact ih0 _ _ _ _
      | exact LeO.none _
      | refine LeO.ite ?_ ?_
      | refine LeO.bind ?_ (fun _ => ?_)
set_option maxHeartbeats 8000000 in
set_option maxRecDepth 100000 in
theorem bits_Of.calls (k : Nat) (A0 : Option Addr) (c0 : Nat) (l0 : List Int) (r : Int) (w : World) (hr0 : Kd.C (Kd.int .i64) w A0 l0.length l0) (hc0 : l0.length ≤ c0) (h : bits_Of.f k l0 = some r) :
    Calls Tryd.prog 10 #[.slice A0 l0.length c0] w fun e w' => e = .returned (.int .u64 r) ∧ Drawn0 w w' := by
  have HR0 := Aside0.mk hr0
  have HC0 := Aside0.mk hc0
  clear hr0 hc0
  have H : (bits_Of.l0 k 0 l0 (l0.length : Int) 0) = some r := h
  clear h
  have H' := Aside0.mk H
  clear H
  go_enter Tryd.func10, Tryd.ntmps10
  go_wp2
  go_loopg [3, 8] k (fun kq v3 v8 w' => ∃ (x3_1 : Int) (x8_1 : Int), v3 = .int .u64 x3_1 ∧ v8 = .int .i64 x8_1 ∧ Aside0 (bits_Of.l0 kq x3_1 l0 (l0.length : Int) x8_1 = some r) ∧ Aside0 (kq ≤ k) ∧ Drawn0 w w')
  case atStart => exact ⟨(0), (0), (by first | rfl | (simp; done) | (simp [*]; done)), (by first | rfl | (simp; done) | (simp [*]; done)), H', ⟨Nat.le_refl _⟩, by repeat (first | exact Drawn0.refl _ | apply Drawn0.step)⟩
  case round =>
    clear H'
    try clear c1
    obtain ⟨x3_1, x8_1, rfl, rfl, HA, HK1, ⟨m1, rfl⟩⟩ := hrel
    cases gk with
    | zero => exact absurd HA.out (by simp [bits_Of.l0])
    | succ k1 =>
      have H := HA.out
      clear HA
      simp only [bits_Of.l0] at H
      by_cases c2 : x8_1 < (l0.length : Int)
      · rw [if_pos c2] at H
        have c2b0 : decide (x8_1 < (l0.length : Int)) = true := decide_eq_true c2
        clear c2
        by_cases c3 : 0 ≤ x8_1
        · rw [if_pos c3] at H
          have c3b0 : decide (0 ≤ x8_1) = true := decide_eq_true c3
          clear c3
          by_cases c4 : x8_1 < (l0.length : Int)
          · rw [if_pos c4] at H
            have c4b0 : decide (x8_1 < (l0.length : Int)) = true := decide_eq_true c4
            clear c4
            replace H := Option.bind_eq_some_iff.mp H
            obtain ⟨t102, A50, H⟩ := H
            replace H : (bits_Of.l0 k1 (Go.bits .or .u64 x3_1 t102) l0 (l0.length : Int) (wrap64 (x8_1 + 1))) = some r := H
            have A5 := Aside0.mk A50
            clear A50
            have H' := Aside0.mk H
            clear H
            have p101 : 0 ≤ (x8_1 : Int) := of_decide_eq_true (by first | (with_reducible assumption) | assumption)
            have q101 : x8_1 < (l0.length : Int) := of_decide_eq_true (by first | (with_reducible assumption) | assumption)
            obtain ⟨ad101, e101, hx101_0⟩ := Kd.at_int HR0.out x8_1 p101 q101
            cases e101
            replace p101 := eq_true p101
            replace q101 := eq_true q101
            go_wp2_with (first | ((with_reducible refine gate_callee (f := 27) rfl ?_); refine goesL_ (some 14) rfl rfl Tryd.func27 (by kernel_rfl) rfl #[.int .i64 (rd l0 x8_1)] rfl (by (try simp only [List.map_toArray, List.map_cons, List.map_nil]); first | done | rfl | (simp only [List.length_drop, List.length_take]; rfl)) ?_; (with_reducible refine (bits_one.calls (rd l0 x8_1) t102 _ A5.out).mono ?_); rintro e w' ⟨rfl, ⟨nd, rfl⟩⟩; refine ⟨_, rfl, ?_⟩))
            go_roundg k1
            case measure => have := HK1.out; omega
            case rel => exact ⟨(Go.bits .or .u64 x3_1 t102), (wrap64 (x8_1 + 1)), (by first | rfl | (simp; done) | (simp [*]; done)), (by first | rfl | (simp; done) | (simp [*]; done)), H', ⟨by have := HK1.out; omega⟩, by repeat (first | exact Drawn0.refl _ | apply Drawn0.step)⟩
          · rw [if_neg c4] at H
            exact absurd H (by simp)
        · rw [if_neg c3] at H
          exact absurd H (by simp)
      · rw [if_neg c2] at H
        have c2b0 : decide (x8_1 < (l0.length : Int)) = false := decide_eq_false c2
        clear c2
        obtain rfl := Option.some.inj H
        go_wp2
        go_ret
        exact ⟨by first | rfl | (simp; done) | (simp [*]; done), by repeat (first | exact Drawn0.refl _ | apply Drawn0.step)⟩

/-! ### the table of the library's, in its variable -/
def TabW (w : World) : Prop := ∀ j : Nat, j < 64 → w.cell? ⟨0, j, none⟩ = some (.int .u8 ((Lib.deBruijn64tab.getD j 0 : Nat) : Int))
theorem TabW.below {w w1 : World} (h : TabW w) (hb : Below w.heap.size w w1) : TabW w1 := fun j hj => pw_cell_below hb (h j hj)
theorem TabW.drewN {w : World} {n : Nat} (h : TabW w) : TabW (w.drewN n) := fun j hj => h j hj
theorem TabW.drew {w : World} (h : TabW w) : TabW w.drew := fun j hj => h j hj
theorem TabW.alloc {w : World} {o : Obj} (h : TabW w) : TabW (w.alloc o) := TabW.below h (below_alloc (Below.refl w.heap.size w) o)

/-! ### bits_TrailingZeros64: function 32 -/
def bits_TrailingZeros64.f (a0 : Int) : Option Int := if 0 ≤ a0 then (if a0 < 18446744073709551616 then some ((Lib.ctz 64 a0.toNat : Nat) : Int) else none) else none
theorem tz64_zero (w : World) :
    Calls Tryd.prog 32 #[.int .u64 0] w fun e w' => e = .returned (.int .i64 64) ∧ w' = w := by
  go_enter Tryd.func32, Tryd.ntmps32
  go_wp2
  go_ret
  exact ⟨rfl, rfl⟩
set_option maxHeartbeats 1000000 in
theorem tz64_core (x k idx : Nat) (w : World) (hx0 : ((x : Int) == 0) = false)
    (key : IntKind.u64.wrap (bits BinOp.and IntKind.u64 (x : Int) (IntKind.u64.wrap (-(x : Int))) * 285870213051353865) / 288230376151711744 = (idx : Int))
    (hi : idx < 64) (hk : k < 64) (hcell : w.cell? ⟨0, idx, none⟩ = some (.int .u8 k)) :
    Calls Tryd.prog 32 #[.int .u64 x] w fun e w' => e = .returned (.int .i64 k) ∧ w' = w := by
  go_enter Tryd.func32, Tryd.ntmps32
  go_wp2_with (simp only [key])
  go_ret
  exact ⟨rfl, rfl⟩
theorem bits_TrailingZeros64.calls (a0 : Int) (r : Int) (w : World) (hTab : TabW w) (h : bits_TrailingZeros64.f a0 = some r) :
    Calls Tryd.prog 32 #[.int .u64 a0] w fun e w' => e = .returned (.int .i64 r) ∧ Drawn0 w w' := by
  unfold bits_TrailingZeros64.f at h
  by_cases h0 : 0 ≤ a0
  · rw [if_pos h0] at h
    by_cases h1 : a0 < 18446744073709551616
    · rw [if_pos h1] at h
      obtain rfl := Option.some.inj h
      obtain ⟨x, rfl⟩ : ∃ x : Nat, a0 = x := ⟨a0.toNat, by omega⟩
      rw [Int.toNat_natCast]
      by_cases hx0 : x = 0
      · subst hx0
        exact (tz64_zero w).mono fun e w' ⟨he, hw⟩ => ⟨he, by subst hw; exact Drawn0.refl _⟩
      · obtain ⟨hlow, hk⟩ := Lib.lowest_bit 64 x hx0 (by omega)
        obtain ⟨hi, htab⟩ := Lib.deBruijn64_at _ hk
        have hcell := hTab _ hi
        rw [htab] at hcell
        exact (tz64_core x _ _ w (by simp; omega) (tz64_key x _ (by omega) hx0 hlow) hi hk hcell).mono fun e w' ⟨he, hw⟩ => ⟨he, by subst hw; exact Drawn0.refl _⟩
    · rw [if_neg h1] at h; exact absurd h (by simp)
  · rw [if_neg h0] at h; exact absurd h (by simp)

/-! ### a set's numbers, rising -/
theorem and_pred_lt (s : Nat) (h : s ≠ 0) : s &&& (s - 1) < s := Nat.lt_of_le_of_lt Nat.and_le_right (by omega)
def low (s : Nat) : List Int := if h : s = 0 then [] else ((Lib.ctz 64 s : Nat) : Int) :: low (s &&& (s - 1))
termination_by s
decreasing_by exact and_pred_lt s h
theorem low_zero : low 0 = [] := by rw [low]; rfl
theorem low_pos (s : Nat) (h : s ≠ 0) : low s = ((Lib.ctz 64 s : Nat) : Int) :: low (s &&& (s - 1)) := by rw [low]; rw [dif_neg h]

/-! ### bits_List: function 13 -/
def bits_List.f (a0 : Int) : Option (List Int) := if 0 ≤ a0 then (if a0 < 18446744073709551616 then (if (low a0.toNat).length ≤ 1000 then some (low a0.toNat) else none) else none) else none
set_option maxHeartbeats 1000000 in
theorem row_add (w0 W : World) (b : Nat) (v : Value) (xs : List Int) (i : Int) (hb : W.heap[b]? = some (.cells #[v] 41 (0, 0))) (hB : Below w0.heap.size w0 W) (hge : w0.heap.size ≤ b)
    (ho : Kd.R (Kd.int .i64) 3 W w0.heap.size (fun k => k ≠ b) v xs) (hlen : xs.length < 1000) :
    Calls Tryd.prog 29 #[.pointer (some ⟨b, 0, none⟩), .int .i64 i] W fun e W' => e = .returned (.tuple #[]) ∧ ∃ v' : Value, W'.heap[b]? = some (.cells #[v'] 41 (0, 0)) ∧ Below w0.heap.size w0 W' ∧ Kd.R (Kd.int .i64) 3 W' w0.heap.size (fun k => k ≠ b) v' (xs ++ [i]) := by
  have hlt := blk_lt hb
  have hsz := hB.size
  have hc0 : W.cell? ⟨b, 0, none⟩ = some v := (blk_cell hb 0).trans rfl
  have hf0 := blk_frozen hb 0
  have HO := Aside0.mk ho
  have HBb := Aside0.mk hB
  have BK := Aside0.mk hb
  clear ho hB hb
  go_enter Tryd.func29, Tryd.ntmps29
  go_wp2_with (first | ((with_reducible refine gate_builtin (b := .append) (xs := #[.tmp 8, .tmp 10]) rfl ?_); at_builtin; refine Kd.R_append (Kd.int .i64) (w0 := w0) w0.heap.size rfl (.tmp 8) (.tmp 10) 23 3 (.int .i64 0) 8 rfl Tryd.underlying23 info3 rfl (by decide) (by omega) v xs i [.int .i64 i] (fun k => k ≠ b) (fun _ => False) rfl rfl ?aP (fun _ hk => hk.elim) ?aF ?aO ?aB ?aS ?aL ?_; (case aP => exact rfl); (case aB => exact HBb.out); (case aF => exact (fun k hk => by omega)); (case aO => exact HO.out); (case aS => exact hsz); (case aL => omega); intro v1 w6 ho6 hb6 hg6 hat6; obtain ⟨A1, c1, rfl, hl1_, hC1_⟩ := Kd.R_reads ho6; clear hl1_ hC1_; simp only [List.length_append, List.length_cons, List.length_nil, Nat.zero_add] at ho6; have hk6 := blk_grown BK.out hg6 (fun e => HO.out.1 b e.symm rfl); have hc6 : w6.cell? ⟨b, 0, none⟩ = some v := (blk_cell hk6 0).trans rfl; have hf6 := blk_frozen hk6 0; have HK6 := Aside0.mk hk6; have HO6 := Aside0.mk ho6; have HB6 := Aside0.mk hb6; clear hk6 ho6 hb6 hg6 hat6))
  go_end0
  exact ⟨rfl, _, blk_set HK6.out 0 _, HB6.out.setCell hge _, Kd.R_far HO6.out (fun k hk => hk) _⟩
theorem and_pred_bits (s : Nat) (hs : s < 18446744073709551616) (h : s ≠ 0) : bits .and .u64 (s : Int) ((s : Int) - 1) = ((s &&& (s - 1) : Nat) : Int) := by
  rw [show (s : Int) - 1 = ((s - 1 : Nat) : Int) by omega]
  exact bits_and_u64_nat s (s - 1) hs (by omega)
set_option maxHeartbeats 2000000 in
set_option maxRecDepth 100000 in
theorem each_row (w0 W : World) (b : Nat) (v : Value) (xs : List Int) (s : Nat) (hs : s < 18446744073709551616) (hb : W.heap[b]? = some (.cells #[v] 41 (0, 0))) (hB : Below w0.heap.size w0 W) (hge : w0.heap.size ≤ b)
    (ho : Kd.R (Kd.int .i64) 3 W w0.heap.size (fun k => k ≠ b) v xs) (hTab : TabW w0) (hlen : xs.length + (low s).length ≤ 1000) :
    Calls Tryd.prog 28 #[.int .u64 s, .func (.func 29) #[.pointer (some ⟨b, 0, none⟩)] #[]] W fun e W' => e = .returned (.tuple #[]) ∧ ∃ v' : Value, W'.heap[b]? = some (.cells #[v'] 41 (0, 0)) ∧ Below w0.heap.size w0 W' ∧ Kd.R (Kd.int .i64) 3 W' w0.heap.size (fun k => k ≠ b) v' (xs ++ low s) := by
  have HI := Aside0.mk (And.intro hb (And.intro hB ho))
  have HL := Aside0.mk hlen
  clear hb hB ho hlen
  go_enter Tryd.func28, Tryd.ntmps28
  go_wp2
  go_loopw [0] (fun v0 wr => ∃ (s1 : Nat) (v1 : Value) (xs1 : List Int), v0 = .int .u64 s1 ∧ Aside0 (s1 < 18446744073709551616 ∧ xs1 ++ low s1 = xs ++ low s) ∧ Aside0 (wr.heap[b]? = some (.cells #[v1] 41 (0, 0)) ∧ Below w0.heap.size w0 wr ∧ Kd.R (Kd.int .i64) 3 wr w0.heap.size (fun k => k ≠ b) v1 xs1)) (fun v0 _ => (intOf v0).toNat)
  case atStart => exact ⟨s, v, xs, rfl, ⟨hs, rfl⟩, HI⟩
  case round =>
    clear HI
    obtain ⟨s1, v1, xs1, rfl, HE, HI⟩ := hrel
    have hs1 := HE.out.1
    by_cases h0 : s1 = 0
    · subst h0
      have c0 : ((((0 : Nat) : Int)) != 0) = false := rfl
      go_wp2
      go_end0
      have he := HE.out.2
      rw [low_zero, List.append_nil] at he
      exact ⟨rfl, v1, HI.out.1, HI.out.2.1, by rw [← he]; exact HI.out.2.2⟩
    · have c0 : ((s1 : Int) != 0) = true := bne_iff_ne.mpr (by omega)
      have hpos : (1 : Int) ≤ (s1 : Int) := by omega
      have hpos0 : (0 : Int) ≤ (s1 : Int) - 1 := by omega
      have AB := Aside0.mk (and_pred_bits s1 hs1 h0)
      have LL := Aside0.mk (show xs1.length < 1000 by
        have he := congrArg List.length HE.out.2
        have h2 := HL.out
        rw [low_pos s1 h0] at he
        simp at he
        omega)
      have FT := Aside0.mk (show bits_TrailingZeros64.f (s1 : Int) = some ((Lib.ctz 64 s1 : Nat) : Int) by
        unfold bits_TrailingZeros64.f
        rw [if_pos (by omega), if_pos (by omega), Int.toNat_natCast])
      have N0 := Aside0.mk h0
      clear h0
      go_wp2_with (first | (go_at_call 32; (with_reducible refine (bits_TrailingZeros64.calls _ _ _ (TabW.below hTab HI.out.2.1) FT.out).mono ?_); rintro e w' ⟨rfl, ⟨nd, rfl⟩⟩) | (go_at_call 29; (refine (row_add w0 _ b v1 xs1 _ (blk_drewN HI.out.1 _) (pw_below_drewN HI.out.2.1 _) hge (Kd.R_drewN HI.out.2.2 _) LL.out).mono ?_); rintro e w' ⟨rfl, v2, hb2, hB2, ho2⟩; have HI2 := Aside0.mk (And.intro hb2 (And.intro hB2 ho2)); clear hb2 hB2 ho2))
      refine ⟨⟨s1 &&& (s1 - 1), v2, xs1 ++ [((Lib.ctz 64 s1 : Nat) : Int)], by rw [AB.out], ⟨⟨Nat.lt_trans (and_pred_lt s1 N0.out) hs1, ?_⟩⟩, HI2⟩, ?_⟩
      · rw [List.append_assoc, ← HE.out.2, low_pos s1 N0.out]; rfl
      · rw [AB.out]
        have := and_pred_lt s1 N0.out
        simp only [intOf, Int.toNat_natCast]
        exact this
set_option maxHeartbeats 1000000 in
set_option maxRecDepth 100000 in
theorem bits_List.calls (a0 : Int) (r : List Int) (w : World) (hTab : TabW w) (h : bits_List.f a0 = some r) :
    Calls Tryd.prog 13 #[.int .u64 a0] w fun e w' => ∃ v0_ : Value, e = .returned (v0_) ∧ Kd.R (Kd.int .i64) 3 w' w.heap.size (fun _ => True) v0_ r ∧ Below w.heap.size w w' := by
  unfold bits_List.f at h
  by_cases h0 : 0 ≤ a0
  · rw [if_pos h0] at h
    by_cases h1 : a0 < 18446744073709551616
    · rw [if_pos h1] at h
      obtain ⟨s, rfl⟩ : ∃ s : Nat, a0 = s := ⟨a0.toNat, by omega⟩
      rw [Int.toNat_natCast] at h
      by_cases h2 : (low s).length ≤ 1000
      · rw [if_pos h2] at h
        obtain rfl := Option.some.inj h
        have hs : s < 18446744073709551616 := by omega
        clear h h0 h1
        have HL := Aside0.mk (show ([] : List Int).length + (low s).length ≤ 1000 by simpa using h2)
        clear h2
        have hmf : ∀ (fn : Fn) (first cap : Array Value) (w : World), (Instr.makeFunc fn first cap).run Tryd.prog w = .ok (.func fn first cap) w := fun _ _ _ _ => rfl
        go_enter Tryd.func13, Tryd.ntmps13
        go_wp2_with (first | (go_at_call 28; (refine (each_row w _ w.heap.size (.slice none 0 0) [] s hs (heap_alloc_new w _) (below_alloc (Below.refl w.heap.size w) _) (Nat.le_refl _) (Kd.R_nil _ _ _ _ _) hTab HL.out).mono ?_); rintro e w' ⟨rfl, v2, hb2, hB2, ho2⟩; rw [List.nil_append] at ho2; obtain ⟨A2, c2, rfl, hl2_, hC2_⟩ := Kd.R_reads ho2; clear hl2_ hC2_; have hc2 : w'.cell? ⟨w.heap.size, 0, none⟩ = some (.slice A2 (low s).length c2) := (blk_cell hb2 0).trans rfl; have hf2 := blk_frozen hb2 0; have HO2 := Aside0.mk ho2; have HB2 := Aside0.mk hB2; clear hb2 hB2 ho2))
        go_ret
        exact ⟨_, rfl, Kd.R_mono HO2.out (fun _ _ => trivial), HB2.out⟩
      · rw [if_neg h2] at h; exact absurd h (by simp)
    · rw [if_neg h1] at h; exact absurd h (by simp)
  · rw [if_neg h0] at h; exact absurd h (by simp)

/-! ### bits_Range: function 14 -/
def bits_Range.l0 : Nat → Int → Int → Int → Option (Int)
  | 0, _, _, _ => none
  | k + 1, x1, x5, x6 => if x6 < (mn x1 64) then ((bits_one.f x6).bind fun t103 => (bits_Range.l0 k x1 (Go.bits .or .u64 x5 t103) (wrap64 (x6 + 1)))) else (some x5)
def bits_Range.f (k : Nat) (a0 : Int) (a1 : Int) : Option (Int) := bits_Range.l0 k a1 0 (mx a0 0)
theorem bits_Range.mono_l : ∀ k, (∀ y0 y1 y2, LeO (bits_Range.l0 k y0 y1 y2) (bits_Range.l0 (k + 1) y0 y1 y2))
  | 0 => fun _ _ _ r h => by simp [bits_Range.l0] at h
  | k + 1 => by
    have ih0 := bits_Range.mono_l k
    · intro y0 y1 y2
      unfold bits_Range.l0
      repeat' first
      | (with_reducible exact ih0 _ _ _)
      | (with_reducible exact LeO.refl _)
      | (with_reducible exact LeO.none _)
      | (with_reducible refine LeO.ite ?_ ?_)
      | (with_reducible refine LeO.bind ?_ (fun _ => ?_))
      | exact ih0 _ _ _
      | exact LeO.none _
      | refine LeO.ite ?_ ?_
      | refine LeO.bind ?_ (fun _ => ?_)
theorem bits_Range.mono : ∀ a0 a1 k, LeO (bits_Range.f k a0 a1) (bits_Range.f (k + 1) a0 a1) := by
  intro a0 a1 k
  have ih0 := bits_Range.mono_l k
  unfold bits_Range.f
  repeat' first
      | (with_reducible exact ih0 _ _ _)
      | (with_reducible exact LeO.refl _)
      | (with_reducible exact LeO.none _)
      | (with_reducible refine LeO.ite ?_ ?_)
      | (with_reducible refine LeO.bind ?_ (fun _ => ?_))
      | exact ih0 _ _ _
      | exact LeO.none _
      | refine LeO.ite ?_ ?_
      | refine LeO.bind ?_ (fun _ => ?_)
set_option maxHeartbeats 8000000 in
set_option maxRecDepth 100000 in
theorem bits_Range.calls (k : Nat) (a0 : Int) (a1 : Int) (r : Int) (w : World) (h : bits_Range.f k a0 a1 = some r) :
    Calls Tryd.prog 14 #[.int .i64 a0, .int .i64 a1] w fun e w' => e = .returned (.int .u64 r) ∧ Below w.heap.size w w' := by
  have HB := Aside0.mk (Below.refl w.heap.size w)
  have H : (bits_Range.l0 k a1 0 (mx a0 0)) = some r := h
  clear h
  obtain ⟨ji3, hji3⟩ : ∃ j_ : Int, (mx a0 0) = j_ := ⟨_, rfl⟩
  replace H : (bits_Range.l0 k a1 0 ji3) = some r := by first | (rw [hji3] at H; exact H) | (simp only [hji3] at H ⊢; exact H)
  (try (have hji3l : 0 ≤ ji3 := by (rw [← hji3]; unfold mx; (repeat' split) <;> omega)))
  (try (have hji3m : 0 ≤ ji3 := by omega))
  have hji3_ : (if a0 < 0 then 0 else a0) = ji3 := hji3
  have H' := Aside0.mk H
  clear H
  go_enter Tryd.func14, Tryd.ntmps14
  go_wp2
  go_loopg [5, 6] k (fun kq v5 v6 w' => ∃ (x5_1 : Int) (x6_1 : Int), v5 = .int .u64 x5_1 ∧ v6 = .int .i64 x6_1 ∧ Aside0 (bits_Range.l0 kq a1 x5_1 x6_1 = some r) ∧ Aside0 (kq ≤ k) ∧ Aside0 (Below w.heap.size w w'))
  case atStart => exact ⟨(0), (ji3), (by first | rfl | (simp; done) | (simp [*]; done)), (by first | rfl | (simp; done) | (simp only [← hji3] <;> (first | rfl | simp)) | (simp [*]; done)), H', ⟨Nat.le_refl _⟩, ⟨by repeat (first | (with_reducible first | exact HB.out | apply below_alloc | apply pw_below_drewN | apply below_drew1) | exact HB.out)⟩⟩
  case round =>
    clear H'
    try clear c1
    try clear p2
    obtain ⟨x5_1, x6_1, rfl, rfl, HA, HK1, HB⟩ := hrel
    cases gk with
    | zero => exact absurd HA.out (by simp [bits_Range.l0])
    | succ k1 =>
      have H := HA.out
      clear HA
      simp only [bits_Range.l0] at H
      obtain ⟨ji4, hji4⟩ : ∃ j_ : Int, (mn a1 64) = j_ := ⟨_, rfl⟩
      replace H : (if x6_1 < (ji4) then ((bits_one.f x6_1).bind fun t103 => (bits_Range.l0 k1 a1 (Go.bits .or .u64 x5_1 t103) (wrap64 (x6_1 + 1)))) else (some x5_1)) = some r := by first | (rw [hji4] at H; exact H) | (simp only [hji4] at H ⊢; exact H)
      have hji4_ : (if 64 < a1 then 64 else a1) = ji4 := hji4
      by_cases c5 : x6_1 < (ji4)
      · rw [if_pos c5] at H
        have c5b0 : decide (x6_1 < (ji4)) = true := decide_eq_true c5
        clear c5
        replace H := Option.bind_eq_some_iff.mp H
        obtain ⟨t103, A60, H⟩ := H
        replace H : (bits_Range.l0 k1 a1 (Go.bits .or .u64 x5_1 t103) (wrap64 (x6_1 + 1))) = some r := H
        have A6 := Aside0.mk A60
        clear A60
        have H' := Aside0.mk H
        clear H
        go_wp2_with (first | ((with_reducible refine gate_callee (f := 27) rfl ?_); refine goesL_ (some 17) rfl rfl Tryd.func27 (by kernel_rfl) rfl #[.int .i64 x6_1] rfl (by (try simp only [List.map_toArray, List.map_cons, List.map_nil]); first | done | rfl | (simp only [List.length_drop, List.length_take]; rfl)) ?_; (with_reducible refine (bits_one.calls x6_1 t103 _ A6.out).mono ?_); rintro e w' ⟨rfl, ⟨nd, rfl⟩⟩; refine ⟨_, rfl, ?_⟩))
        go_roundg k1
        case measure => have := HK1.out; omega
        case rel => exact ⟨(Go.bits .or .u64 x5_1 t103), (wrap64 (x6_1 + 1)), (by first | rfl | (simp; done) | (simp [*]; done)), (by first | rfl | (simp; done) | (simp [*]; done)), H', ⟨by have := HK1.out; omega⟩, ⟨by repeat (first | (with_reducible first | exact HB.out | apply below_alloc | apply pw_below_drewN | apply below_drew1) | exact HB.out)⟩⟩
      · rw [if_neg c5] at H
        have c5b0 : decide (x6_1 < (ji4)) = false := decide_eq_false c5
        clear c5
        obtain rfl := Option.some.inj H
        go_wp2
        go_ret
        exact ⟨by first | rfl | (simp [errW_none, errW_some] <;> rfl) | (simp only [← hji3, ← hji4]; first | rfl | (simp [errW_none, errW_some] <;> rfl)) | (simp [*, errW_none, errW_some] <;> rfl), by repeat (first | (with_reducible first | exact HB.out | apply below_alloc | apply pw_below_drewN | apply below_drew1) | exact HB.out)⟩

/-! ### bits_Has: function 16 -/
def bits_Has.f (a0 : Int) (a1 : Int) : Option (Bool) := (bits_one.f a1).bind fun t104 => (some ((Go.bits .and .u64 a0 t104) != 0))
set_option maxHeartbeats 8000000 in
set_option maxRecDepth 100000 in
theorem bits_Has.calls (a0 : Int) (a1 : Int) (r : Bool) (w : World) (h : bits_Has.f a0 a1 = some r) :
    Calls Tryd.prog 16 #[.int .u64 a0, .int .i64 a1] w fun e w' => e = .returned (.bool r) ∧ Drawn0 w w' := by
  have H : ((bits_one.f a1).bind fun t104 => (some ((Go.bits .and .u64 a0 t104) != 0))) = some r := h
  clear h
  replace H := Option.bind_eq_some_iff.mp H
  obtain ⟨t104, A30, H⟩ := H
  replace H : (some ((Go.bits .and .u64 a0 t104) != 0)) = some r := H
  have A3 := Aside0.mk A30
  clear A30
  obtain rfl := Option.some.inj H
  go_enter Tryd.func16, Tryd.ntmps16
  go_wp2_with (first | ((with_reducible refine gate_callee (f := 27) rfl ?_); refine goesL_ (some 7) rfl rfl Tryd.func27 (by kernel_rfl) rfl #[.int .i64 a1] rfl (by (try simp only [List.map_toArray, List.map_cons, List.map_nil]); first | done | rfl | (simp only [List.length_drop, List.length_take]; rfl)) ?_; (with_reducible refine (bits_one.calls a1 t104 _ A3.out).mono ?_); rintro e w' ⟨rfl, ⟨nd, rfl⟩⟩; refine ⟨_, rfl, ?_⟩))
  go_ret
  exact ⟨by first | rfl | (simp; done) | (simp [*]; done), by repeat (first | exact Drawn0.refl _ | apply Drawn0.step)⟩

/-! ### bits_Put: function 18 -/
def bits_Put.f (a0 : Int) (a1 : Int) : Option (Int) := (bits_one.f a1).bind fun t105 => (some (Go.bits .or .u64 a0 t105))
set_option maxHeartbeats 8000000 in
set_option maxRecDepth 100000 in
theorem bits_Put.calls (a0 : Int) (a1 : Int) (r : Int) (w : World) (h : bits_Put.f a0 a1 = some r) :
    Calls Tryd.prog 18 #[.int .u64 a0, .int .i64 a1] w fun e w' => e = .returned (.int .u64 r) ∧ Drawn0 w w' := by
  have H : ((bits_one.f a1).bind fun t105 => (some (Go.bits .or .u64 a0 t105))) = some r := h
  clear h
  replace H := Option.bind_eq_some_iff.mp H
  obtain ⟨t105, A30, H⟩ := H
  replace H : (some (Go.bits .or .u64 a0 t105)) = some r := H
  have A3 := Aside0.mk A30
  clear A30
  obtain rfl := Option.some.inj H
  go_enter Tryd.func18, Tryd.ntmps18
  go_wp2_with (first | ((with_reducible refine gate_callee (f := 27) rfl ?_); refine goesL_ (some 7) rfl rfl Tryd.func27 (by kernel_rfl) rfl #[.int .i64 a1] rfl (by (try simp only [List.map_toArray, List.map_cons, List.map_nil]); first | done | rfl | (simp only [List.length_drop, List.length_take]; rfl)) ?_; (with_reducible refine (bits_one.calls a1 t105 _ A3.out).mono ?_); rintro e w' ⟨rfl, ⟨nd, rfl⟩⟩; refine ⟨_, rfl, ?_⟩))
  go_ret
  exact ⟨by first | rfl | (simp; done) | (simp [*]; done), by repeat (first | exact Drawn0.refl _ | apply Drawn0.step)⟩

/-! ### bits_Drop: function 20 -/
def bits_Drop.f (a0 : Int) (a1 : Int) : Option (Int) := (bits_one.f a1).bind fun t106 => (some (Go.bits .andNot .u64 a0 t106))
set_option maxHeartbeats 8000000 in
set_option maxRecDepth 100000 in
theorem bits_Drop.calls (a0 : Int) (a1 : Int) (r : Int) (w : World) (h : bits_Drop.f a0 a1 = some r) :
    Calls Tryd.prog 20 #[.int .u64 a0, .int .i64 a1] w fun e w' => e = .returned (.int .u64 r) ∧ Drawn0 w w' := by
  have H : ((bits_one.f a1).bind fun t106 => (some (Go.bits .andNot .u64 a0 t106))) = some r := h
  clear h
  replace H := Option.bind_eq_some_iff.mp H
  obtain ⟨t106, A30, H⟩ := H
  replace H : (some (Go.bits .andNot .u64 a0 t106)) = some r := H
  have A3 := Aside0.mk A30
  clear A30
  obtain rfl := Option.some.inj H
  go_enter Tryd.func20, Tryd.ntmps20
  go_wp2_with (first | ((with_reducible refine gate_callee (f := 27) rfl ?_); refine goesL_ (some 7) rfl rfl Tryd.func27 (by kernel_rfl) rfl #[.int .i64 a1] rfl (by (try simp only [List.map_toArray, List.map_cons, List.map_nil]); first | done | rfl | (simp only [List.length_drop, List.length_take]; rfl)) ?_; (with_reducible refine (bits_one.calls a1 t106 _ A3.out).mono ?_); rintro e w' ⟨rfl, ⟨nd, rfl⟩⟩; refine ⟨_, rfl, ?_⟩))
  go_ret
  exact ⟨by first | rfl | (simp; done) | (simp [*]; done), by repeat (first | exact Drawn0.refl _ | apply Drawn0.step)⟩

/-! ### bits_OnesCount64: function 31 -/
def bits_OnesCount64.f (a0 : Int) : Option (Int) := some (Go.bits .and .i64 (wrap64 (IntKind.u64.wrap ((IntKind.u64.wrap ((IntKind.u64.wrap ((Go.bits .and .u64 (IntKind.u64.wrap (((IntKind.u64.wrap ((Go.bits .and .u64 ((IntKind.u64.wrap ((Go.bits .and .u64 (a0 / 2) 6148914691236517205) + (Go.bits .and .u64 a0 6148914691236517205))) / 4) 3689348814741910323) + (Go.bits .and .u64 (IntKind.u64.wrap ((Go.bits .and .u64 (a0 / 2) 6148914691236517205) + (Go.bits .and .u64 a0 6148914691236517205))) 3689348814741910323))) / 16) + (IntKind.u64.wrap ((Go.bits .and .u64 ((IntKind.u64.wrap ((Go.bits .and .u64 (a0 / 2) 6148914691236517205) + (Go.bits .and .u64 a0 6148914691236517205))) / 4) 3689348814741910323) + (Go.bits .and .u64 (IntKind.u64.wrap ((Go.bits .and .u64 (a0 / 2) 6148914691236517205) + (Go.bits .and .u64 a0 6148914691236517205))) 3689348814741910323))))) 1085102592571150095) + ((Go.bits .and .u64 (IntKind.u64.wrap (((IntKind.u64.wrap ((Go.bits .and .u64 ((IntKind.u64.wrap ((Go.bits .and .u64 (a0 / 2) 6148914691236517205) + (Go.bits .and .u64 a0 6148914691236517205))) / 4) 3689348814741910323) + (Go.bits .and .u64 (IntKind.u64.wrap ((Go.bits .and .u64 (a0 / 2) 6148914691236517205) + (Go.bits .and .u64 a0 6148914691236517205))) 3689348814741910323))) / 16) + (IntKind.u64.wrap ((Go.bits .and .u64 ((IntKind.u64.wrap ((Go.bits .and .u64 (a0 / 2) 6148914691236517205) + (Go.bits .and .u64 a0 6148914691236517205))) / 4) 3689348814741910323) + (Go.bits .and .u64 (IntKind.u64.wrap ((Go.bits .and .u64 (a0 / 2) 6148914691236517205) + (Go.bits .and .u64 a0 6148914691236517205))) 3689348814741910323))))) 1085102592571150095) / 256))) + ((IntKind.u64.wrap ((Go.bits .and .u64 (IntKind.u64.wrap (((IntKind.u64.wrap ((Go.bits .and .u64 ((IntKind.u64.wrap ((Go.bits .and .u64 (a0 / 2) 6148914691236517205) + (Go.bits .and .u64 a0 6148914691236517205))) / 4) 3689348814741910323) + (Go.bits .and .u64 (IntKind.u64.wrap ((Go.bits .and .u64 (a0 / 2) 6148914691236517205) + (Go.bits .and .u64 a0 6148914691236517205))) 3689348814741910323))) / 16) + (IntKind.u64.wrap ((Go.bits .and .u64 ((IntKind.u64.wrap ((Go.bits .and .u64 (a0 / 2) 6148914691236517205) + (Go.bits .and .u64 a0 6148914691236517205))) / 4) 3689348814741910323) + (Go.bits .and .u64 (IntKind.u64.wrap ((Go.bits .and .u64 (a0 / 2) 6148914691236517205) + (Go.bits .and .u64 a0 6148914691236517205))) 3689348814741910323))))) 1085102592571150095) + ((Go.bits .and .u64 (IntKind.u64.wrap (((IntKind.u64.wrap ((Go.bits .and .u64 ((IntKind.u64.wrap ((Go.bits .and .u64 (a0 / 2) 6148914691236517205) + (Go.bits .and .u64 a0 6148914691236517205))) / 4) 3689348814741910323) + (Go.bits .and .u64 (IntKind.u64.wrap ((Go.bits .and .u64 (a0 / 2) 6148914691236517205) + (Go.bits .and .u64 a0 6148914691236517205))) 3689348814741910323))) / 16) + (IntKind.u64.wrap ((Go.bits .and .u64 ((IntKind.u64.wrap ((Go.bits .and .u64 (a0 / 2) 6148914691236517205) + (Go.bits .and .u64 a0 6148914691236517205))) / 4) 3689348814741910323) + (Go.bits .and .u64 (IntKind.u64.wrap ((Go.bits .and .u64 (a0 / 2) 6148914691236517205) + (Go.bits .and .u64 a0 6148914691236517205))) 3689348814741910323))))) 1085102592571150095) / 256))) / 65536))) + ((IntKind.u64.wrap ((IntKind.u64.wrap ((Go.bits .and .u64 (IntKind.u64.wrap (((IntKind.u64.wrap ((Go.bits .and .u64 ((IntKind.u64.wrap ((Go.bits .and .u64 (a0 / 2) 6148914691236517205) + (Go.bits .and .u64 a0 6148914691236517205))) / 4) 3689348814741910323) + (Go.bits .and .u64 (IntKind.u64.wrap ((Go.bits .and .u64 (a0 / 2) 6148914691236517205) + (Go.bits .and .u64 a0 6148914691236517205))) 3689348814741910323))) / 16) + (IntKind.u64.wrap ((Go.bits .and .u64 ((IntKind.u64.wrap ((Go.bits .and .u64 (a0 / 2) 6148914691236517205) + (Go.bits .and .u64 a0 6148914691236517205))) / 4) 3689348814741910323) + (Go.bits .and .u64 (IntKind.u64.wrap ((Go.bits .and .u64 (a0 / 2) 6148914691236517205) + (Go.bits .and .u64 a0 6148914691236517205))) 3689348814741910323))))) 1085102592571150095) + ((Go.bits .and .u64 (IntKind.u64.wrap (((IntKind.u64.wrap ((Go.bits .and .u64 ((IntKind.u64.wrap ((Go.bits .and .u64 (a0 / 2) 6148914691236517205) + (Go.bits .and .u64 a0 6148914691236517205))) / 4) 3689348814741910323) + (Go.bits .and .u64 (IntKind.u64.wrap ((Go.bits .and .u64 (a0 / 2) 6148914691236517205) + (Go.bits .and .u64 a0 6148914691236517205))) 3689348814741910323))) / 16) + (IntKind.u64.wrap ((Go.bits .and .u64 ((IntKind.u64.wrap ((Go.bits .and .u64 (a0 / 2) 6148914691236517205) + (Go.bits .and .u64 a0 6148914691236517205))) / 4) 3689348814741910323) + (Go.bits .and .u64 (IntKind.u64.wrap ((Go.bits .and .u64 (a0 / 2) 6148914691236517205) + (Go.bits .and .u64 a0 6148914691236517205))) 3689348814741910323))))) 1085102592571150095) / 256))) + ((IntKind.u64.wrap ((Go.bits .and .u64 (IntKind.u64.wrap (((IntKind.u64.wrap ((Go.bits .and .u64 ((IntKind.u64.wrap ((Go.bits .and .u64 (a0 / 2) 6148914691236517205) + (Go.bits .and .u64 a0 6148914691236517205))) / 4) 3689348814741910323) + (Go.bits .and .u64 (IntKind.u64.wrap ((Go.bits .and .u64 (a0 / 2) 6148914691236517205) + (Go.bits .and .u64 a0 6148914691236517205))) 3689348814741910323))) / 16) + (IntKind.u64.wrap ((Go.bits .and .u64 ((IntKind.u64.wrap ((Go.bits .and .u64 (a0 / 2) 6148914691236517205) + (Go.bits .and .u64 a0 6148914691236517205))) / 4) 3689348814741910323) + (Go.bits .and .u64 (IntKind.u64.wrap ((Go.bits .and .u64 (a0 / 2) 6148914691236517205) + (Go.bits .and .u64 a0 6148914691236517205))) 3689348814741910323))))) 1085102592571150095) + ((Go.bits .and .u64 (IntKind.u64.wrap (((IntKind.u64.wrap ((Go.bits .and .u64 ((IntKind.u64.wrap ((Go.bits .and .u64 (a0 / 2) 6148914691236517205) + (Go.bits .and .u64 a0 6148914691236517205))) / 4) 3689348814741910323) + (Go.bits .and .u64 (IntKind.u64.wrap ((Go.bits .and .u64 (a0 / 2) 6148914691236517205) + (Go.bits .and .u64 a0 6148914691236517205))) 3689348814741910323))) / 16) + (IntKind.u64.wrap ((Go.bits .and .u64 ((IntKind.u64.wrap ((Go.bits .and .u64 (a0 / 2) 6148914691236517205) + (Go.bits .and .u64 a0 6148914691236517205))) / 4) 3689348814741910323) + (Go.bits .and .u64 (IntKind.u64.wrap ((Go.bits .and .u64 (a0 / 2) 6148914691236517205) + (Go.bits .and .u64 a0 6148914691236517205))) 3689348814741910323))))) 1085102592571150095) / 256))) / 65536))) / 4294967296)))) 127)
set_option maxHeartbeats 8000000 in
set_option maxRecDepth 100000 in
theorem bits_OnesCount64.calls (a0 : Int) (r : Int) (w : World) (h : bits_OnesCount64.f a0 = some r) :
    Calls Tryd.prog 31 #[.int .u64 a0] w fun e w' => e = .returned (.int .i64 r) ∧ Drawn0 w w' := by
  have H : (some (Go.bits .and .i64 (wrap64 (IntKind.u64.wrap ((IntKind.u64.wrap ((IntKind.u64.wrap ((Go.bits .and .u64 (IntKind.u64.wrap (((IntKind.u64.wrap ((Go.bits .and .u64 ((IntKind.u64.wrap ((Go.bits .and .u64 (a0 / 2) 6148914691236517205) + (Go.bits .and .u64 a0 6148914691236517205))) / 4) 3689348814741910323) + (Go.bits .and .u64 (IntKind.u64.wrap ((Go.bits .and .u64 (a0 / 2) 6148914691236517205) + (Go.bits .and .u64 a0 6148914691236517205))) 3689348814741910323))) / 16) + (IntKind.u64.wrap ((Go.bits .and .u64 ((IntKind.u64.wrap ((Go.bits .and .u64 (a0 / 2) 6148914691236517205) + (Go.bits .and .u64 a0 6148914691236517205))) / 4) 3689348814741910323) + (Go.bits .and .u64 (IntKind.u64.wrap ((Go.bits .and .u64 (a0 / 2) 6148914691236517205) + (Go.bits .and .u64 a0 6148914691236517205))) 3689348814741910323))))) 1085102592571150095) + ((Go.bits .and .u64 (IntKind.u64.wrap (((IntKind.u64.wrap ((Go.bits .and .u64 ((IntKind.u64.wrap ((Go.bits .and .u64 (a0 / 2) 6148914691236517205) + (Go.bits .and .u64 a0 6148914691236517205))) / 4) 3689348814741910323) + (Go.bits .and .u64 (IntKind.u64.wrap ((Go.bits .and .u64 (a0 / 2) 6148914691236517205) + (Go.bits .and .u64 a0 6148914691236517205))) 3689348814741910323))) / 16) + (IntKind.u64.wrap ((Go.bits .and .u64 ((IntKind.u64.wrap ((Go.bits .and .u64 (a0 / 2) 6148914691236517205) + (Go.bits .and .u64 a0 6148914691236517205))) / 4) 3689348814741910323) + (Go.bits .and .u64 (IntKind.u64.wrap ((Go.bits .and .u64 (a0 / 2) 6148914691236517205) + (Go.bits .and .u64 a0 6148914691236517205))) 3689348814741910323))))) 1085102592571150095) / 256))) + ((IntKind.u64.wrap ((Go.bits .and .u64 (IntKind.u64.wrap (((IntKind.u64.wrap ((Go.bits .and .u64 ((IntKind.u64.wrap ((Go.bits .and .u64 (a0 / 2) 6148914691236517205) + (Go.bits .and .u64 a0 6148914691236517205))) / 4) 3689348814741910323) + (Go.bits .and .u64 (IntKind.u64.wrap ((Go.bits .and .u64 (a0 / 2) 6148914691236517205) + (Go.bits .and .u64 a0 6148914691236517205))) 3689348814741910323))) / 16) + (IntKind.u64.wrap ((Go.bits .and .u64 ((IntKind.u64.wrap ((Go.bits .and .u64 (a0 / 2) 6148914691236517205) + (Go.bits .and .u64 a0 6148914691236517205))) / 4) 3689348814741910323) + (Go.bits .and .u64 (IntKind.u64.wrap ((Go.bits .and .u64 (a0 / 2) 6148914691236517205) + (Go.bits .and .u64 a0 6148914691236517205))) 3689348814741910323))))) 1085102592571150095) + ((Go.bits .and .u64 (IntKind.u64.wrap (((IntKind.u64.wrap ((Go.bits .and .u64 ((IntKind.u64.wrap ((Go.bits .and .u64 (a0 / 2) 6148914691236517205) + (Go.bits .and .u64 a0 6148914691236517205))) / 4) 3689348814741910323) + (Go.bits .and .u64 (IntKind.u64.wrap ((Go.bits .and .u64 (a0 / 2) 6148914691236517205) + (Go.bits .and .u64 a0 6148914691236517205))) 3689348814741910323))) / 16) + (IntKind.u64.wrap ((Go.bits .and .u64 ((IntKind.u64.wrap ((Go.bits .and .u64 (a0 / 2) 6148914691236517205) + (Go.bits .and .u64 a0 6148914691236517205))) / 4) 3689348814741910323) + (Go.bits .and .u64 (IntKind.u64.wrap ((Go.bits .and .u64 (a0 / 2) 6148914691236517205) + (Go.bits .and .u64 a0 6148914691236517205))) 3689348814741910323))))) 1085102592571150095) / 256))) / 65536))) + ((IntKind.u64.wrap ((IntKind.u64.wrap ((Go.bits .and .u64 (IntKind.u64.wrap (((IntKind.u64.wrap ((Go.bits .and .u64 ((IntKind.u64.wrap ((Go.bits .and .u64 (a0 / 2) 6148914691236517205) + (Go.bits .and .u64 a0 6148914691236517205))) / 4) 3689348814741910323) + (Go.bits .and .u64 (IntKind.u64.wrap ((Go.bits .and .u64 (a0 / 2) 6148914691236517205) + (Go.bits .and .u64 a0 6148914691236517205))) 3689348814741910323))) / 16) + (IntKind.u64.wrap ((Go.bits .and .u64 ((IntKind.u64.wrap ((Go.bits .and .u64 (a0 / 2) 6148914691236517205) + (Go.bits .and .u64 a0 6148914691236517205))) / 4) 3689348814741910323) + (Go.bits .and .u64 (IntKind.u64.wrap ((Go.bits .and .u64 (a0 / 2) 6148914691236517205) + (Go.bits .and .u64 a0 6148914691236517205))) 3689348814741910323))))) 1085102592571150095) + ((Go.bits .and .u64 (IntKind.u64.wrap (((IntKind.u64.wrap ((Go.bits .and .u64 ((IntKind.u64.wrap ((Go.bits .and .u64 (a0 / 2) 6148914691236517205) + (Go.bits .and .u64 a0 6148914691236517205))) / 4) 3689348814741910323) + (Go.bits .and .u64 (IntKind.u64.wrap ((Go.bits .and .u64 (a0 / 2) 6148914691236517205) + (Go.bits .and .u64 a0 6148914691236517205))) 3689348814741910323))) / 16) + (IntKind.u64.wrap ((Go.bits .and .u64 ((IntKind.u64.wrap ((Go.bits .and .u64 (a0 / 2) 6148914691236517205) + (Go.bits .and .u64 a0 6148914691236517205))) / 4) 3689348814741910323) + (Go.bits .and .u64 (IntKind.u64.wrap ((Go.bits .and .u64 (a0 / 2) 6148914691236517205) + (Go.bits .and .u64 a0 6148914691236517205))) 3689348814741910323))))) 1085102592571150095) / 256))) + ((IntKind.u64.wrap ((Go.bits .and .u64 (IntKind.u64.wrap (((IntKind.u64.wrap ((Go.bits .and .u64 ((IntKind.u64.wrap ((Go.bits .and .u64 (a0 / 2) 6148914691236517205) + (Go.bits .and .u64 a0 6148914691236517205))) / 4) 3689348814741910323) + (Go.bits .and .u64 (IntKind.u64.wrap ((Go.bits .and .u64 (a0 / 2) 6148914691236517205) + (Go.bits .and .u64 a0 6148914691236517205))) 3689348814741910323))) / 16) + (IntKind.u64.wrap ((Go.bits .and .u64 ((IntKind.u64.wrap ((Go.bits .and .u64 (a0 / 2) 6148914691236517205) + (Go.bits .and .u64 a0 6148914691236517205))) / 4) 3689348814741910323) + (Go.bits .and .u64 (IntKind.u64.wrap ((Go.bits .and .u64 (a0 / 2) 6148914691236517205) + (Go.bits .and .u64 a0 6148914691236517205))) 3689348814741910323))))) 1085102592571150095) + ((Go.bits .and .u64 (IntKind.u64.wrap (((IntKind.u64.wrap ((Go.bits .and .u64 ((IntKind.u64.wrap ((Go.bits .and .u64 (a0 / 2) 6148914691236517205) + (Go.bits .and .u64 a0 6148914691236517205))) / 4) 3689348814741910323) + (Go.bits .and .u64 (IntKind.u64.wrap ((Go.bits .and .u64 (a0 / 2) 6148914691236517205) + (Go.bits .and .u64 a0 6148914691236517205))) 3689348814741910323))) / 16) + (IntKind.u64.wrap ((Go.bits .and .u64 ((IntKind.u64.wrap ((Go.bits .and .u64 (a0 / 2) 6148914691236517205) + (Go.bits .and .u64 a0 6148914691236517205))) / 4) 3689348814741910323) + (Go.bits .and .u64 (IntKind.u64.wrap ((Go.bits .and .u64 (a0 / 2) 6148914691236517205) + (Go.bits .and .u64 a0 6148914691236517205))) 3689348814741910323))))) 1085102592571150095) / 256))) / 65536))) / 4294967296)))) 127)) = some r := h
  clear h
  obtain rfl := Option.some.inj H
  go_enter Tryd.func31, Tryd.ntmps31
  go_wp2
  go_ret
  exact ⟨by first | rfl | (simp; done) | (simp [*]; done), by repeat (first | exact Drawn0.refl _ | apply Drawn0.step)⟩

/-! ### bits_Count: function 22 -/
def bits_Count.f (a0 : Int) : Option (Int) := (bits_OnesCount64.f a0).bind fun t107 => (some t107)
set_option maxHeartbeats 8000000 in
set_option maxRecDepth 100000 in
theorem bits_Count.calls (a0 : Int) (r : Int) (w : World) (h : bits_Count.f a0 = some r) :
    Calls Tryd.prog 22 #[.int .u64 a0] w fun e w' => e = .returned (.int .i64 r) ∧ Drawn0 w w' := by
  have H : ((bits_OnesCount64.f a0).bind fun t107 => (some t107)) = some r := h
  clear h
  replace H := Option.bind_eq_some_iff.mp H
  obtain ⟨t107, A20, H⟩ := H
  replace H : (some t107) = some r := H
  have A2 := Aside0.mk A20
  clear A20
  obtain rfl := Option.some.inj H
  go_enter Tryd.func22, Tryd.ntmps22
  go_wp2_with (first | ((with_reducible refine gate_callee (f := 31) rfl ?_); refine goesL_ (some 4) rfl rfl Tryd.func31 (by kernel_rfl) rfl #[.int .u64 a0] rfl (by (try simp only [List.map_toArray, List.map_cons, List.map_nil]); first | done | rfl | (simp only [List.length_drop, List.length_take]; rfl)) ?_; (with_reducible refine (bits_OnesCount64.calls a0 t107 _ A2.out).mono ?_); rintro e w' ⟨rfl, ⟨nd, rfl⟩⟩; refine ⟨_, rfl, ?_⟩))
  go_ret
  exact ⟨by first | rfl | (simp; done) | (simp [*]; done), by repeat (first | exact Drawn0.refl _ | apply Drawn0.step)⟩

/-! ### bits_First: function 23 -/
def bits_First.f (a0 : Int) : Option (Int) := if a0 = 0 then (some (-1)) else ((bits_TrailingZeros64.f a0).bind fun t108 => (some t108))
set_option maxHeartbeats 8000000 in
set_option maxRecDepth 100000 in
theorem bits_First.calls (a0 : Int) (r : Int) (w : World) (hTab : TabW w) (h : bits_First.f a0 = some r) :
    Calls Tryd.prog 23 #[.int .u64 a0] w fun e w' => e = .returned (.int .i64 r) ∧ Drawn0 w w' := by
  have H : (if a0 = 0 then (some (-1)) else ((bits_TrailingZeros64.f a0).bind fun t108 => (some t108))) = some r := h
  clear h
  by_cases c2 : a0 = 0
  · rw [if_pos c2] at H
    have c2b0 : (a0 == 0) = true := beq_iff_eq.mpr c2
    have c2b1 : (a0 != 0) = false := bne_eq_false_iff_eq.mpr c2
    clear c2
    obtain rfl := Option.some.inj H
    go_enter Tryd.func23, Tryd.ntmps23
    go_wp2
    go_ret
    exact ⟨by first | rfl | (simp; done) | (simp [*]; done), by repeat (first | exact Drawn0.refl _ | apply Drawn0.step)⟩
  · rw [if_neg c2] at H
    have c2b0 : (a0 == 0) = false := beq_eq_false_iff_ne.mpr c2
    have c2b1 : (a0 != 0) = true := bne_iff_ne.mpr c2
    replace H := Option.bind_eq_some_iff.mp H
    obtain ⟨t108, A30, H⟩ := H
    replace H : (some t108) = some r := H
    have A3 := Aside0.mk A30
    clear A30
    obtain rfl := Option.some.inj H
    go_enter Tryd.func23, Tryd.ntmps23
    go_wp2_with (first | ((with_reducible refine gate_callee (f := 32) rfl ?_); refine goesL_ (some 6) rfl rfl Tryd.func32 (by kernel_rfl) rfl #[.int .u64 a0] rfl (by (try simp only [List.map_toArray, List.map_cons, List.map_nil]); first | done | rfl | (simp only [List.length_drop, List.length_take]; rfl)) ?_; (with_reducible refine (bits_TrailingZeros64.calls a0 t108 _ (by first | exact hTab | (repeat (first | exact hTab | exact TabW.below hTab HB.out | (with_reducible apply TabW.drewN) | (with_reducible apply TabW.drew) | (with_reducible apply TabW.alloc)))) A3.out).mono ?_); rintro e w' ⟨rfl, ⟨nd, rfl⟩⟩; refine ⟨_, rfl, ?_⟩))
    go_ret
    exact ⟨by first | rfl | (simp; done) | (simp [*]; done), by repeat (first | exact Drawn0.refl _ | apply Drawn0.step)⟩

/-! ### bits_Len64: function 33 -/
def bits_Len64.f (a0 : Int) : Option Int := if 0 ≤ a0 then (if a0 ≤ 18446744073709551615 then some ((Lib.bitLen a0.toNat : Nat) : Int) else none) else none
theorem len8tab_size : Lib.len8tab.size = 256 := by decide +kernel
theorem len8tab_fin : ∀ n : Fin 256, ∀ h : n.val < Lib.len8tab.size, (Lib.len8tab[n.val]'h).toNat = Lib.bitLen n.val := by decide +kernel
theorem len8tab_at (i : Nat) (h : i < Lib.len8tab.size) : (Lib.len8tab[i]'h).toNat = Lib.bitLen i := len8tab_fin ⟨i, by rw [← len8tab_size]; exact h⟩ h
theorem len64_56 (x : Int) (h0 : 0 ≤ x) (h1 : x ≤ 18446744073709551615) (q0 : 4294967296 ≤ x) (q1 : 65536 ≤ x / 4294967296) (q2 : 256 ≤ x / 4294967296 / 65536) : wrap64 (56 + wrap64 ((Lib.bitLen (x / 4294967296 / 65536 / 256).toNat : Nat) : Int)) = (Lib.bitLen x.toNat : Nat) := by
  have e : (x / 4294967296 / 65536 / 256).toNat = x.toNat / 72057594037927936 := by omega
  have l := Lib.bitLen_le8' (x / 4294967296 / 65536 / 256) (by omega) (by omega)
  have s := Lib.bitLen_shift56 x.toNat (by omega) (by omega)
  rw [e] at l ⊢
  unfold wrap64
  omega
theorem len64_48 (x : Int) (h0 : 0 ≤ x) (h1 : x ≤ 18446744073709551615) (q0 : 4294967296 ≤ x) (q1 : 65536 ≤ x / 4294967296) (q2 : x / 4294967296 / 65536 < 256) : wrap64 (48 + wrap64 ((Lib.bitLen (x / 4294967296 / 65536).toNat : Nat) : Int)) = (Lib.bitLen x.toNat : Nat) := by
  have e : (x / 4294967296 / 65536).toNat = x.toNat / 281474976710656 := by omega
  have l := Lib.bitLen_le8' (x / 4294967296 / 65536) (by omega) (by omega)
  have s := Lib.bitLen_shift48 x.toNat (by omega) (by omega)
  rw [e] at l ⊢
  unfold wrap64
  omega
theorem len64_40 (x : Int) (h0 : 0 ≤ x) (h1 : x ≤ 18446744073709551615) (q0 : 4294967296 ≤ x) (q1 : x / 4294967296 < 65536) (q2 : 256 ≤ x / 4294967296) : wrap64 (40 + wrap64 ((Lib.bitLen (x / 4294967296 / 256).toNat : Nat) : Int)) = (Lib.bitLen x.toNat : Nat) := by
  have e : (x / 4294967296 / 256).toNat = x.toNat / 1099511627776 := by omega
  have l := Lib.bitLen_le8' (x / 4294967296 / 256) (by omega) (by omega)
  have s := Lib.bitLen_shift40 x.toNat (by omega) (by omega)
  rw [e] at l ⊢
  unfold wrap64
  omega
theorem len64_32 (x : Int) (h0 : 0 ≤ x) (h1 : x ≤ 18446744073709551615) (q0 : 4294967296 ≤ x) (q1 : x / 4294967296 < 65536) (q2 : x / 4294967296 < 256) : wrap64 (32 + wrap64 ((Lib.bitLen (x / 4294967296).toNat : Nat) : Int)) = (Lib.bitLen x.toNat : Nat) := by
  have e : (x / 4294967296).toNat = x.toNat / 4294967296 := by omega
  have l := Lib.bitLen_le8' (x / 4294967296) (by omega) (by omega)
  have s := Lib.bitLen_shift32 x.toNat (by omega) (by omega)
  rw [e] at l ⊢
  unfold wrap64
  omega
theorem len64_24 (x : Int) (h0 : 0 ≤ x) (h1 : x ≤ 18446744073709551615) (q0 : x < 4294967296) (q1 : 65536 ≤ x) (q2 : 256 ≤ x / 65536) : wrap64 (24 + wrap64 ((Lib.bitLen (x / 65536 / 256).toNat : Nat) : Int)) = (Lib.bitLen x.toNat : Nat) := by
  have e : (x / 65536 / 256).toNat = x.toNat / 16777216 := by omega
  have l := Lib.bitLen_le8' (x / 65536 / 256) (by omega) (by omega)
  have s := Lib.bitLen_shift24 x.toNat (by omega) (by omega)
  rw [e] at l ⊢
  unfold wrap64
  omega
theorem len64_16 (x : Int) (h0 : 0 ≤ x) (h1 : x ≤ 18446744073709551615) (q0 : x < 4294967296) (q1 : 65536 ≤ x) (q2 : x / 65536 < 256) : wrap64 (16 + wrap64 ((Lib.bitLen (x / 65536).toNat : Nat) : Int)) = (Lib.bitLen x.toNat : Nat) := by
  have e : (x / 65536).toNat = x.toNat / 65536 := by omega
  have l := Lib.bitLen_le8' (x / 65536) (by omega) (by omega)
  have s := Lib.bitLen_shift16 x.toNat (by omega) (by omega)
  rw [e] at l ⊢
  unfold wrap64
  omega
theorem len64_8 (x : Int) (h0 : 0 ≤ x) (h1 : x ≤ 18446744073709551615) (q0 : x < 4294967296) (q1 : x < 65536) (q2 : 256 ≤ x) : wrap64 (8 + wrap64 ((Lib.bitLen (x / 256).toNat : Nat) : Int)) = (Lib.bitLen x.toNat : Nat) := by
  have e : (x / 256).toNat = x.toNat / 256 := by omega
  have l := Lib.bitLen_le8' (x / 256) (by omega) (by omega)
  have s := Lib.bitLen_shift8 x.toNat (by omega) (by omega)
  rw [e] at l ⊢
  unfold wrap64
  omega
theorem len64_0 (x : Int) (h0 : 0 ≤ x) (h1 : x ≤ 18446744073709551615) (q0 : x < 4294967296) (q1 : x < 65536) (q2 : x < 256) : wrap64 (wrap64 ((Lib.bitLen (x).toNat : Nat) : Int)) = (Lib.bitLen x.toNat : Nat) := by
  have l := Lib.bitLen_le8' x (by omega) (by omega)
  unfold wrap64
  omega
set_option maxHeartbeats 4000000 in
set_option maxRecDepth 100000 in
theorem len64_any (x : Int) (w : World) (h0 : 0 ≤ x) (h1 : x ≤ 18446744073709551615) :
    Calls Tryd.prog 33 #[.int .u64 x] w fun e w' => e = .returned (.int .i64 (Lib.bitLen x.toNat)) ∧ w' = w := by
  have hsz := len8tab_size
  go_enter Tryd.func33, Tryd.ntmps33
  go_wp2
  all_goals first
    | (exfalso; omega)
    | (go_ret; refine ⟨congrArg Ending.returned (congrArg (Value.int IntKind.i64) ?_), rfl⟩)
  all_goals rw [len8tab_at]
  all_goals clear hsz
  all_goals first
    | exact len64_56 x h0 h1 (by assumption) (by assumption) (by assumption)
    | exact len64_48 x h0 h1 (by assumption) (by assumption) (by assumption)
    | exact len64_40 x h0 h1 (by assumption) (by assumption) (by assumption)
    | exact len64_32 x h0 h1 (by assumption) (by assumption) (by assumption)
    | exact len64_24 x h0 h1 (by assumption) (by assumption) (by assumption)
    | exact len64_16 x h0 h1 (by assumption) (by assumption) (by assumption)
    | exact len64_8 x h0 h1 (by assumption) (by assumption) (by assumption)
    | exact len64_0 x h0 h1 (by assumption) (by assumption) (by assumption)
theorem bits_Len64.calls (a0 : Int) (r : Int) (w : World) (h : bits_Len64.f a0 = some r) :
    Calls Tryd.prog 33 #[.int .u64 a0] w fun e w' => e = .returned (.int .i64 r) ∧ Drawn0 w w' := by
  unfold bits_Len64.f at h
  by_cases h0 : 0 ≤ a0
  · rw [if_pos h0] at h
    by_cases h1 : a0 ≤ 18446744073709551615
    · rw [if_pos h1] at h
      obtain rfl := Option.some.inj h
      exact (len64_any a0 w h0 h1).mono fun e w' ⟨he, hw⟩ => ⟨he, by subst hw; exact Drawn0.refl _⟩
    · rw [if_neg h1] at h; exact absurd h (by simp)
  · rw [if_neg h0] at h; exact absurd h (by simp)

/-! ### bits_Last: function 24 -/
def bits_Last.f (a0 : Int) : Option (Int) := (bits_Len64.f a0).bind fun t109 => (some (wrap64 (t109 - 1)))
set_option maxHeartbeats 8000000 in
set_option maxRecDepth 100000 in
theorem bits_Last.calls (a0 : Int) (r : Int) (w : World) (h : bits_Last.f a0 = some r) :
    Calls Tryd.prog 24 #[.int .u64 a0] w fun e w' => e = .returned (.int .i64 r) ∧ Drawn0 w w' := by
  have H : ((bits_Len64.f a0).bind fun t109 => (some (wrap64 (t109 - 1)))) = some r := h
  clear h
  replace H := Option.bind_eq_some_iff.mp H
  obtain ⟨t109, A20, H⟩ := H
  replace H : (some (wrap64 (t109 - 1))) = some r := H
  have A2 := Aside0.mk A20
  clear A20
  obtain rfl := Option.some.inj H
  go_enter Tryd.func24, Tryd.ntmps24
  go_wp2_with (first | ((with_reducible refine gate_callee (f := 33) rfl ?_); refine goesL_ (some 4) rfl rfl Tryd.func33 (by kernel_rfl) rfl #[.int .u64 a0] rfl (by (try simp only [List.map_toArray, List.map_cons, List.map_nil]); first | done | rfl | (simp only [List.length_drop, List.length_take]; rfl)) ?_; (with_reducible refine (bits_Len64.calls a0 t109 _ A2.out).mono ?_); rintro e w' ⟨rfl, ⟨nd, rfl⟩⟩; refine ⟨_, rfl, ?_⟩))
  go_ret
  exact ⟨by first | rfl | (simp; done) | (simp [*]; done), by repeat (first | exact Drawn0.refl _ | apply Drawn0.step)⟩

/-! ### bits_Within: function 25 -/
def bits_Within.f (a0 : Int) (a1 : Int) : Option (Bool) := some ((Go.bits .andNot .u64 a0 a1) == 0)
set_option maxHeartbeats 8000000 in
set_option maxRecDepth 100000 in
theorem bits_Within.calls (a0 : Int) (a1 : Int) (r : Bool) (w : World) (h : bits_Within.f a0 a1 = some r) :
    Calls Tryd.prog 25 #[.int .u64 a0, .int .u64 a1] w fun e w' => e = .returned (.bool r) ∧ Drawn0 w w' := by
  have H : (some ((Go.bits .andNot .u64 a0 a1) == 0)) = some r := h
  clear h
  obtain rfl := Option.some.inj H
  go_enter Tryd.func25, Tryd.ntmps25
  go_wp2
  go_ret
  exact ⟨by first | rfl | (simp; done) | (simp [*]; done), by repeat (first | exact Drawn0.refl _ | apply Drawn0.step)⟩

/-! ### withelaw1_begun: function 8 -/
def withelaw1_begun.f (k : Nat)  : Option (Bool) := (bits_Of.f k (([3, 1, 3, 64] : List Int))).bind fun t113 => ((bits_List.f t113).bind fun t114 => (if t113 = 10 then (if (t114.length : Int) = 2 then (if 1 < (t114.length : Int) then (if (rd t114 1) = 3 then ((bits_Has.f t113 1).bind fun t118 => (if t118 = true then ((bits_Put.f 0 2).bind fun t119 => (if t119 = 4 then ((bits_Drop.f t113 1).bind fun t120 => (if t120 = 8 then ((bits_Count.f t113).bind fun t121 => (if t121 = 2 then ((bits_First.f t113).bind fun t122 => (if t122 = 1 then ((bits_Last.f t113).bind fun t123 => (if t123 = 3 then ((bits_First.f 0).bind fun t124 => (if t124 = (-1) then ((bits_Range.f k (-5) 2).bind fun t125 => (if t125 = 3 then ((bits_Within.f 2 t113).bind fun t126 => (some t126)) else (none))) else (none))) else (none))) else (none))) else (none))) else (none))) else (none))) else (none))) else (none)) else (none)) else (none)) else (none)))
theorem withelaw1_begun.mono : ∀ k, LeO (withelaw1_begun.f k ) (withelaw1_begun.f (k + 1) ) := by
  intro  k
  unfold withelaw1_begun.f
  repeat' first
      | (with_reducible exact bits_Of.mono _ _)
      | (with_reducible exact bits_Range.mono _ _ _)
      | (with_reducible exact LeO.refl _)
      | (with_reducible exact LeO.none _)
      | (with_reducible refine LeO.ite ?_ ?_)
      | (with_reducible refine LeO.bind ?_ (fun _ => ?_))
      | exact bits_Of.mono _ _
      | exact bits_Range.mono _ _ _
      | exact LeO.none _
      | refine LeO.ite ?_ ?_
      | refine LeO.bind ?_ (fun _ => ?_)
set_option maxHeartbeats 8000000 in
set_option maxRecDepth 100000 in
theorem withelaw1_begun.calls (k : Nat)  (r : Bool) (w : World) (hTab : TabW w) (h : withelaw1_begun.f k  = some r) :
    Calls Tryd.prog 8 #[] w fun e w' => e = .returned (.bool r) ∧ Below w.heap.size w w' := by
  have HB := Aside0.mk (Below.refl w.heap.size w)
  have H : ((bits_Of.f k (([3, 1, 3, 64] : List Int))).bind fun t113 => ((bits_List.f t113).bind fun t114 => (if t113 = 10 then (if (t114.length : Int) = 2 then (if 1 < (t114.length : Int) then (if (rd t114 1) = 3 then ((bits_Has.f t113 1).bind fun t118 => (if t118 = true then ((bits_Put.f 0 2).bind fun t119 => (if t119 = 4 then ((bits_Drop.f t113 1).bind fun t120 => (if t120 = 8 then ((bits_Count.f t113).bind fun t121 => (if t121 = 2 then ((bits_First.f t113).bind fun t122 => (if t122 = 1 then ((bits_Last.f t113).bind fun t123 => (if t123 = 3 then ((bits_First.f 0).bind fun t124 => (if t124 = (-1) then ((bits_Range.f k (-5) 2).bind fun t125 => (if t125 = 3 then ((bits_Within.f 2 t113).bind fun t126 => (some t126)) else (none))) else (none))) else (none))) else (none))) else (none))) else (none))) else (none))) else (none))) else (none)) else (none)) else (none)) else (none)))) = some r := h
  clear h
  obtain ⟨y110, hy110⟩ : ∃ y_ : List Int, y_ = (([3, 1, 3, 64] : List Int)) := ⟨_, rfl⟩
  replace H : ((bits_Of.f k y110).bind fun t113 => ((bits_List.f t113).bind fun t114 => (if t113 = 10 then (if (t114.length : Int) = 2 then (if 1 < (t114.length : Int) then (if (rd t114 1) = 3 then ((bits_Has.f t113 1).bind fun t118 => (if t118 = true then ((bits_Put.f 0 2).bind fun t119 => (if t119 = 4 then ((bits_Drop.f t113 1).bind fun t120 => (if t120 = 8 then ((bits_Count.f t113).bind fun t121 => (if t121 = 2 then ((bits_First.f t113).bind fun t122 => (if t122 = 1 then ((bits_Last.f t113).bind fun t123 => (if t123 = 3 then ((bits_First.f 0).bind fun t124 => (if t124 = (-1) then ((bits_Range.f k (-5) 2).bind fun t125 => (if t125 = 3 then ((bits_Within.f 2 t113).bind fun t126 => (some t126)) else (none))) else (none))) else (none))) else (none))) else (none))) else (none))) else (none))) else (none))) else (none)) else (none)) else (none)) else (none)))) = some r := by first | (rw [hy110]; with_reducible exact H) | (have H2_ := (Option.bind_some _ _).symm.trans H; rw [hy110]; with_reducible exact H2_) | (have H2_ := (Option.bind_some _ _).symm.trans H; with_reducible exact H2_) | with_reducible exact H | (rw [hy110]; exact H) | exact H
  have Ny110 := Aside0.mk hy110
  clear hy110
  replace H := Option.bind_eq_some_iff.mp H
  obtain ⟨t113, A10, H⟩ := H
  replace H : ((bits_List.f t113).bind fun t114 => (if t113 = 10 then (if (t114.length : Int) = 2 then (if 1 < (t114.length : Int) then (if (rd t114 1) = 3 then ((bits_Has.f t113 1).bind fun t118 => (if t118 = true then ((bits_Put.f 0 2).bind fun t119 => (if t119 = 4 then ((bits_Drop.f t113 1).bind fun t120 => (if t120 = 8 then ((bits_Count.f t113).bind fun t121 => (if t121 = 2 then ((bits_First.f t113).bind fun t122 => (if t122 = 1 then ((bits_Last.f t113).bind fun t123 => (if t123 = 3 then ((bits_First.f 0).bind fun t124 => (if t124 = (-1) then ((bits_Range.f k (-5) 2).bind fun t125 => (if t125 = 3 then ((bits_Within.f 2 t113).bind fun t126 => (some t126)) else (none))) else (none))) else (none))) else (none))) else (none))) else (none))) else (none))) else (none))) else (none)) else (none)) else (none)) else (none))) = some r := H
  have A1 := Aside0.mk A10
  clear A10
  replace H := Option.bind_eq_some_iff.mp H
  obtain ⟨t114, A20, H⟩ := H
  replace H : (if t113 = 10 then (if (t114.length : Int) = 2 then (if 1 < (t114.length : Int) then (if (rd t114 1) = 3 then ((bits_Has.f t113 1).bind fun t118 => (if t118 = true then ((bits_Put.f 0 2).bind fun t119 => (if t119 = 4 then ((bits_Drop.f t113 1).bind fun t120 => (if t120 = 8 then ((bits_Count.f t113).bind fun t121 => (if t121 = 2 then ((bits_First.f t113).bind fun t122 => (if t122 = 1 then ((bits_Last.f t113).bind fun t123 => (if t123 = 3 then ((bits_First.f 0).bind fun t124 => (if t124 = (-1) then ((bits_Range.f k (-5) 2).bind fun t125 => (if t125 = 3 then ((bits_Within.f 2 t113).bind fun t126 => (some t126)) else (none))) else (none))) else (none))) else (none))) else (none))) else (none))) else (none))) else (none))) else (none)) else (none)) else (none)) else (none)) = some r := H
  have A2 := Aside0.mk A20
  clear A20
  by_cases c3 : t113 = 10
  · rw [if_pos c3] at H
    have c3b0 : (t113 == 10) = true := beq_iff_eq.mpr c3
    have c3b1 : (t113 != 10) = false := bne_eq_false_iff_eq.mpr c3
    clear c3
    by_cases c4 : (t114.length : Int) = 2
    · rw [if_pos c4] at H
      have c4b0 : ((t114.length : Int) == 2) = true := beq_iff_eq.mpr c4
      have c4b1 : ((t114.length : Int) != 2) = false := bne_eq_false_iff_eq.mpr c4
      clear c4
      by_cases c5 : 1 < (t114.length : Int)
      · rw [if_pos c5] at H
        have c5b0 : decide (1 < (t114.length : Int)) = true := decide_eq_true c5
        have c5b1 : decide (1 < t114.length) = true := decide_eq_true (by omega)
        clear c5
        by_cases c6 : (rd t114 1) = 3
        · rw [if_pos c6] at H
          have c6b0 : ((rd t114 1) == 3) = true := beq_iff_eq.mpr c6
          have c6b1 : ((rd t114 1) != 3) = false := bne_eq_false_iff_eq.mpr c6
          clear c6
          replace H := Option.bind_eq_some_iff.mp H
          obtain ⟨t118, A70, H⟩ := H
          replace H : (if t118 = true then ((bits_Put.f 0 2).bind fun t119 => (if t119 = 4 then ((bits_Drop.f t113 1).bind fun t120 => (if t120 = 8 then ((bits_Count.f t113).bind fun t121 => (if t121 = 2 then ((bits_First.f t113).bind fun t122 => (if t122 = 1 then ((bits_Last.f t113).bind fun t123 => (if t123 = 3 then ((bits_First.f 0).bind fun t124 => (if t124 = (-1) then ((bits_Range.f k (-5) 2).bind fun t125 => (if t125 = 3 then ((bits_Within.f 2 t113).bind fun t126 => (some t126)) else (none))) else (none))) else (none))) else (none))) else (none))) else (none))) else (none))) else (none)) = some r := H
          have A7 := Aside0.mk A70
          clear A70
          by_cases c8 : t118 = true
          · subst c8
            have H1 : ((bits_Put.f 0 2).bind fun t119 => (if t119 = 4 then ((bits_Drop.f t113 1).bind fun t120 => (if t120 = 8 then ((bits_Count.f t113).bind fun t121 => (if t121 = 2 then ((bits_First.f t113).bind fun t122 => (if t122 = 1 then ((bits_Last.f t113).bind fun t123 => (if t123 = 3 then ((bits_First.f 0).bind fun t124 => (if t124 = (-1) then ((bits_Range.f k (-5) 2).bind fun t125 => (if t125 = 3 then ((bits_Within.f 2 t113).bind fun t126 => (some t126)) else (none))) else (none))) else (none))) else (none))) else (none))) else (none))) else (none))) = some r := by rw [if_pos rfl] at H; exact H
            clear H
            have H := H1
            clear H1
            replace H := Option.bind_eq_some_iff.mp H
            obtain ⟨t119, A90, H⟩ := H
            replace H : (if t119 = 4 then ((bits_Drop.f t113 1).bind fun t120 => (if t120 = 8 then ((bits_Count.f t113).bind fun t121 => (if t121 = 2 then ((bits_First.f t113).bind fun t122 => (if t122 = 1 then ((bits_Last.f t113).bind fun t123 => (if t123 = 3 then ((bits_First.f 0).bind fun t124 => (if t124 = (-1) then ((bits_Range.f k (-5) 2).bind fun t125 => (if t125 = 3 then ((bits_Within.f 2 t113).bind fun t126 => (some t126)) else (none))) else (none))) else (none))) else (none))) else (none))) else (none))) else (none)) = some r := H
            have A9 := Aside0.mk A90
            clear A90
            by_cases c10 : t119 = 4
            · rw [if_pos c10] at H
              have c10b0 : (t119 == 4) = true := beq_iff_eq.mpr c10
              have c10b1 : (t119 != 4) = false := bne_eq_false_iff_eq.mpr c10
              clear c10
              replace H := Option.bind_eq_some_iff.mp H
              obtain ⟨t120, A110, H⟩ := H
              replace H : (if t120 = 8 then ((bits_Count.f t113).bind fun t121 => (if t121 = 2 then ((bits_First.f t113).bind fun t122 => (if t122 = 1 then ((bits_Last.f t113).bind fun t123 => (if t123 = 3 then ((bits_First.f 0).bind fun t124 => (if t124 = (-1) then ((bits_Range.f k (-5) 2).bind fun t125 => (if t125 = 3 then ((bits_Within.f 2 t113).bind fun t126 => (some t126)) else (none))) else (none))) else (none))) else (none))) else (none))) else (none)) = some r := H
              have A11 := Aside0.mk A110
              clear A110
              by_cases c12 : t120 = 8
              · rw [if_pos c12] at H
                have c12b0 : (t120 == 8) = true := beq_iff_eq.mpr c12
                have c12b1 : (t120 != 8) = false := bne_eq_false_iff_eq.mpr c12
                clear c12
                replace H := Option.bind_eq_some_iff.mp H
                obtain ⟨t121, A130, H⟩ := H
                replace H : (if t121 = 2 then ((bits_First.f t113).bind fun t122 => (if t122 = 1 then ((bits_Last.f t113).bind fun t123 => (if t123 = 3 then ((bits_First.f 0).bind fun t124 => (if t124 = (-1) then ((bits_Range.f k (-5) 2).bind fun t125 => (if t125 = 3 then ((bits_Within.f 2 t113).bind fun t126 => (some t126)) else (none))) else (none))) else (none))) else (none))) else (none)) = some r := H
                have A13 := Aside0.mk A130
                clear A130
                by_cases c14 : t121 = 2
                · rw [if_pos c14] at H
                  have c14b0 : (t121 == 2) = true := beq_iff_eq.mpr c14
                  have c14b1 : (t121 != 2) = false := bne_eq_false_iff_eq.mpr c14
                  clear c14
                  replace H := Option.bind_eq_some_iff.mp H
                  obtain ⟨t122, A150, H⟩ := H
                  replace H : (if t122 = 1 then ((bits_Last.f t113).bind fun t123 => (if t123 = 3 then ((bits_First.f 0).bind fun t124 => (if t124 = (-1) then ((bits_Range.f k (-5) 2).bind fun t125 => (if t125 = 3 then ((bits_Within.f 2 t113).bind fun t126 => (some t126)) else (none))) else (none))) else (none))) else (none)) = some r := H
                  have A15 := Aside0.mk A150
                  clear A150
                  by_cases c16 : t122 = 1
                  · rw [if_pos c16] at H
                    have c16b0 : (t122 == 1) = true := beq_iff_eq.mpr c16
                    have c16b1 : (t122 != 1) = false := bne_eq_false_iff_eq.mpr c16
                    clear c16
                    replace H := Option.bind_eq_some_iff.mp H
                    obtain ⟨t123, A170, H⟩ := H
                    replace H : (if t123 = 3 then ((bits_First.f 0).bind fun t124 => (if t124 = (-1) then ((bits_Range.f k (-5) 2).bind fun t125 => (if t125 = 3 then ((bits_Within.f 2 t113).bind fun t126 => (some t126)) else (none))) else (none))) else (none)) = some r := H
                    have A17 := Aside0.mk A170
                    clear A170
                    by_cases c18 : t123 = 3
                    · rw [if_pos c18] at H
                      have c18b0 : (t123 == 3) = true := beq_iff_eq.mpr c18
                      have c18b1 : (t123 != 3) = false := bne_eq_false_iff_eq.mpr c18
                      clear c18
                      replace H := Option.bind_eq_some_iff.mp H
                      obtain ⟨t124, A190, H⟩ := H
                      replace H : (if t124 = (-1) then ((bits_Range.f k (-5) 2).bind fun t125 => (if t125 = 3 then ((bits_Within.f 2 t113).bind fun t126 => (some t126)) else (none))) else (none)) = some r := H
                      have A19 := Aside0.mk A190
                      clear A190
                      by_cases c20 : t124 = (-1)
                      · rw [if_pos c20] at H
                        have c20b0 : (t124 == (-1)) = true := beq_iff_eq.mpr c20
                        have c20b1 : (t124 != (-1)) = false := bne_eq_false_iff_eq.mpr c20
                        clear c20
                        replace H := Option.bind_eq_some_iff.mp H
                        obtain ⟨t125, A210, H⟩ := H
                        replace H : (if t125 = 3 then ((bits_Within.f 2 t113).bind fun t126 => (some t126)) else (none)) = some r := H
                        have A21 := Aside0.mk A210
                        clear A210
                        by_cases c22 : t125 = 3
                        · rw [if_pos c22] at H
                          have c22b0 : (t125 == 3) = true := beq_iff_eq.mpr c22
                          have c22b1 : (t125 != 3) = false := bne_eq_false_iff_eq.mpr c22
                          clear c22
                          replace H := Option.bind_eq_some_iff.mp H
                          obtain ⟨t126, A230, H⟩ := H
                          replace H : (some t126) = some r := H
                          have A23 := Aside0.mk A230
                          clear A230
                          obtain rfl := Option.some.inj H
                          go_enter Tryd.func8, Tryd.ntmps8
                          go_wp2_with (first | ((with_reducible refine gate_dst (N := 3) rfl ?_); (try (refine gate_guard (by rfl) ?_; dsimp only)); refine Kd.R_lit (Kd.int .i64) _ 3 ?hg (N := 3) ?hd (xs := ([3, 1, 3, 64] : List Int)) (inner := [.int .i64 3, .int .i64 1, .int .i64 3, .int .i64 64]) (ok := fun _ => True) (okp := fun _ => True) ?hr ?hp (fun _ hk => hk) trivial (Below.refl _ _) (Nat.le_refl _) (by simp) ?_; (case hd => rfl); (case hg => rfl); (case hr => first | (go_simp; done) | (go_simp; rfl)); (case hp => exact (Reps.one (show Kd.M (Kd.int .i64) _ _ _ 3 [.int .i64 3] from rfl) (Reps.one (show Kd.M (Kd.int .i64) _ _ _ 1 [.int .i64 1] from rfl) (Reps.one (show Kd.M (Kd.int .i64) _ _ _ 3 [.int .i64 3] from rfl) (Reps.one (show Kd.M (Kd.int .i64) _ _ _ 64 [.int .i64 64] from rfl) (Reps.none _ _)))))); intro v111 w24 ho25 hb hg_ hnew_; clear hg_ hnew_; (first | rw [← Ny110.out] at ho25 | (simp only [Int.reduceToNat] at ho25; rw [← Ny110.out] at ho25)); have n0_ := Aside0.mk (Kd.R_lower ho25 (below_size (by repeat (first | (with_reducible first | exact HB.out | apply below_alloc | apply pw_below_drewN | apply below_drew1) | exact HB.out)))); have n1_ := Aside0.mk (below_step (by repeat (first | (with_reducible first | exact HB.out | apply below_alloc | apply pw_below_drewN | apply below_drew1) | exact HB.out)) hb); clear HB; have HO112 := n0_; have HB := n1_; clear n0_ n1_; clear hb ho25; obtain ⟨Ao26, co26, eo26⟩ := Kd.R_slice HO112.out; subst eo26) | ((with_reducible refine gate_callee (f := 10) rfl ?_); refine goesL_ (some 4) rfl rfl Tryd.func10 (by kernel_rfl) rfl #[.slice Ao26 y110.length co26] rfl (by (try simp only [List.map_toArray, List.map_cons, List.map_nil]); first | done | rfl | (simp only [List.length_drop, List.length_take]; rfl)) ?_; (with_reducible refine (bits_Of.calls k _ _ y110 t113 _ ?side1 ?side2 A1.out).mono ?_); (case side1 => repeat (first | exact (Kd.R_reads' HO112.out).2.2 | (with_reducible refine Kd.C_alloc ?_ _) | (with_reducible refine Kd.C_drewN ?_ _) | (with_reducible refine Kd.C_drew ?_))); (case side2 => exact (Kd.R_reads' HO112.out).2.1); rintro e w' ⟨rfl, ⟨nd, rfl⟩⟩; refine ⟨_, rfl, ?_⟩) | (go_at_call 10; (with_reducible refine (bits_Of.calls k _ _ y110 t113 _ ?side1 ?side2 A1.out).mono ?_); (case side1 => repeat (first | exact (Kd.R_reads' HO112.out).2.2 | (with_reducible refine Kd.C_alloc ?_ _) | (with_reducible refine Kd.C_drewN ?_ _) | (with_reducible refine Kd.C_drew ?_))); (case side2 => exact (Kd.R_reads' HO112.out).2.1); rintro e w' ⟨rfl, ⟨nd, rfl⟩⟩) | ((with_reducible refine gate_callee (f := 13) rfl ?_); refine goesL_ (some 6) rfl rfl Tryd.func13 (by kernel_rfl) rfl #[.int .u64 t113] rfl (by (try simp only [List.map_toArray, List.map_cons, List.map_nil]); first | done | rfl | (simp only [List.length_drop, List.length_take]; rfl)) ?_; (with_reducible refine (bits_List.calls t113 t114 _ (by first | exact hTab | (repeat (first | exact hTab | exact TabW.below hTab HB.out | (with_reducible apply TabW.drewN) | (with_reducible apply TabW.drew) | (with_reducible apply TabW.alloc)))) A2.out).mono ?_); rintro e w27 ⟨v115, rfl, ho0, hb⟩; refine ⟨_, rfl, ?_⟩; have n0_ := Aside0.mk (Kd.R_elder' (by (with_reducible repeat (first | apply Kd.R_alloc | apply Kd.R_drewN | apply Kd.R_drew)); exact HO112.out) (Kd.R_base ho0) hb); have n1_ := Aside0.mk (Kd.R_lower (Kd.R_new' ho0 (Kd.R_lt (by (with_reducible repeat (first | apply Kd.R_alloc | apply Kd.R_drewN | apply Kd.R_drew)); exact HO112.out))) (below_size (by repeat (first | (with_reducible first | exact HB.out | apply below_alloc | apply pw_below_drewN | apply below_drew1) | exact HB.out)))); have n2_ := Aside0.mk (below_step (by repeat (first | (with_reducible first | exact HB.out | apply below_alloc | apply pw_below_drewN | apply below_drew1) | exact HB.out)) hb); clear HO112; clear HB; have HO112 := n0_; have HO116 := n1_; have HB := n2_; clear n0_ n1_ n2_; (try clear hb); (try clear hb2); (try clear hk); (try clear hi); (try clear ho0); obtain ⟨Ao28, co28, eo28⟩ := Kd.R_slice HO116.out; subst eo28; have p117 : 0 ≤ (1 : Int) := (by omega); have q117 : 1 < (t114.length : Int) := of_decide_eq_true (by first | (with_reducible assumption) | assumption); obtain ⟨ad117, e117, hx117_0⟩ := Kd.at_int (Kd.R_reads' HO116.out).2.2 1 p117 q117; cases e117; (try simp only [show (1 : Int).toNat = 1 from rfl, Nat.reduceMul, Nat.reduceEqDiff, Go.Addr.add, ↓reduceIte] at hx117_0); have qi117 : (1 < t114.length) = True := eq_true (by omega); (try rw [show ((1 : Int)).toNat = 1 from rfl] at hx117_0); replace p117 := eq_true p117; replace q117 := eq_true q117) | (go_at_call 13; (with_reducible refine (bits_List.calls t113 t114 _ (by first | exact hTab | (repeat (first | exact hTab | exact TabW.below hTab HB.out | (with_reducible apply TabW.drewN) | (with_reducible apply TabW.drew) | (with_reducible apply TabW.alloc)))) A2.out).mono ?_); rintro e w27 ⟨v115, rfl, ho0, hb⟩; have n0_ := Aside0.mk (Kd.R_elder' (by (with_reducible repeat (first | apply Kd.R_alloc | apply Kd.R_drewN | apply Kd.R_drew)); exact HO112.out) (Kd.R_base ho0) hb); have n1_ := Aside0.mk (Kd.R_lower (Kd.R_new' ho0 (Kd.R_lt (by (with_reducible repeat (first | apply Kd.R_alloc | apply Kd.R_drewN | apply Kd.R_drew)); exact HO112.out))) (below_size (by repeat (first | (with_reducible first | exact HB.out | apply below_alloc | apply pw_below_drewN | apply below_drew1) | exact HB.out)))); have n2_ := Aside0.mk (below_step (by repeat (first | (with_reducible first | exact HB.out | apply below_alloc | apply pw_below_drewN | apply below_drew1) | exact HB.out)) hb); clear HO112; clear HB; have HO112 := n0_; have HO116 := n1_; have HB := n2_; clear n0_ n1_ n2_; (try clear hb); (try clear hb2); (try clear hk); (try clear hi); (try clear ho0); obtain ⟨Ao28, co28, eo28⟩ := Kd.R_slice HO116.out; subst eo28; have p117 : 0 ≤ (1 : Int) := (by omega); have q117 : 1 < (t114.length : Int) := of_decide_eq_true (by first | (with_reducible assumption) | assumption); obtain ⟨ad117, e117, hx117_0⟩ := Kd.at_int (Kd.R_reads' HO116.out).2.2 1 p117 q117; cases e117; (try simp only [show (1 : Int).toNat = 1 from rfl, Nat.reduceMul, Nat.reduceEqDiff, Go.Addr.add, ↓reduceIte] at hx117_0); have qi117 : (1 < t114.length) = True := eq_true (by omega); (try rw [show ((1 : Int)).toNat = 1 from rfl] at hx117_0); replace p117 := eq_true p117; replace q117 := eq_true q117) | (go_at_call 16; (with_reducible refine (bits_Has.calls t113 1 true _ A7.out).mono ?_); rintro e w' ⟨rfl, ⟨nd, rfl⟩⟩) | (go_at_call 18; (with_reducible refine (bits_Put.calls 0 2 t119 _ A9.out).mono ?_); rintro e w' ⟨rfl, ⟨nd, rfl⟩⟩) | (go_at_call 20; (with_reducible refine (bits_Drop.calls t113 1 t120 _ A11.out).mono ?_); rintro e w' ⟨rfl, ⟨nd, rfl⟩⟩) | (go_at_call 22; (with_reducible refine (bits_Count.calls t113 t121 _ A13.out).mono ?_); rintro e w' ⟨rfl, ⟨nd, rfl⟩⟩) | (go_at_call 23; (with_reducible refine (bits_First.calls t113 t122 _ (by first | exact hTab | (repeat (first | exact hTab | exact TabW.below hTab HB.out | (with_reducible apply TabW.drewN) | (with_reducible apply TabW.drew) | (with_reducible apply TabW.alloc)))) A15.out).mono ?_); rintro e w' ⟨rfl, ⟨nd, rfl⟩⟩) | (go_at_call 24; (with_reducible refine (bits_Last.calls t113 t123 _ A17.out).mono ?_); rintro e w' ⟨rfl, ⟨nd, rfl⟩⟩) | (go_at_call 23; (with_reducible refine (bits_First.calls 0 t124 _ (by first | exact hTab | (repeat (first | exact hTab | exact TabW.below hTab HB.out | (with_reducible apply TabW.drewN) | (with_reducible apply TabW.drew) | (with_reducible apply TabW.alloc)))) A19.out).mono ?_); rintro e w' ⟨rfl, ⟨nd, rfl⟩⟩) | (go_at_call 14; (with_reducible refine (bits_Range.calls k (-5) 2 t125 _ A21.out).mono ?_); rintro e w29 ⟨rfl, hb⟩; have n0_ := Aside0.mk (Kd.R_below (by (with_reducible repeat (first | apply Kd.R_alloc | apply Kd.R_drewN | apply Kd.R_drew)); exact HO112.out) hb); have n1_ := Aside0.mk (Kd.R_below (by (with_reducible repeat (first | apply Kd.R_alloc | apply Kd.R_drewN | apply Kd.R_drew)); exact HO116.out) hb); have n2_ := Aside0.mk (below_step (by repeat (first | (with_reducible first | exact HB.out | apply below_alloc | apply pw_below_drewN | apply below_drew1) | exact HB.out)) hb); clear HO112; clear HO116; clear HB; have HO112 := n0_; have HO116 := n1_; have HB := n2_; clear n0_ n1_ n2_; (try clear hb); (try clear hb2); (try clear hk); (try clear hi)) | (go_at_call 25; (with_reducible refine (bits_Within.calls 2 t113 t126 _ A23.out).mono ?_); rintro e w' ⟨rfl, ⟨nd, rfl⟩⟩))
                          go_ret
                          exact ⟨by first | rfl | (simp [errW_none, errW_some] <;> rfl) | (simp [*, errW_none, errW_some] <;> rfl), by repeat (first | (with_reducible first | exact HB.out | apply below_alloc | apply pw_below_drewN | apply below_drew1) | exact HB.out)⟩
                        · rw [if_neg c22] at H
                          exact absurd H (by simp)
                      · rw [if_neg c20] at H
                        exact absurd H (by simp)
                    · rw [if_neg c18] at H
                      exact absurd H (by simp)
                  · rw [if_neg c16] at H
                    exact absurd H (by simp)
                · rw [if_neg c14] at H
                  exact absurd H (by simp)
              · rw [if_neg c12] at H
                exact absurd H (by simp)
            · rw [if_neg c10] at H
              exact absurd H (by simp)
          · replace c8 := Bool.eq_false_iff.mpr c8
            subst c8
            have H1 : (none) = some r := by rw [if_neg (show ¬ (false = true) by decide)] at H; exact H
            clear H
            have H := H1
            clear H1
            exact absurd H (by simp)
        · rw [if_neg c6] at H
          exact absurd H (by simp)
      · rw [if_neg c5] at H
        exact absurd H (by simp)
    · rw [if_neg c4] at H
      exact absurd H (by simp)
  · rw [if_neg c3] at H
    exact absurd H (by simp)

end Go.Proofs.YtpkhcmholpljnabDoor.PB1
