import Derived.Test.YtpkhcmholpljnacProg
import Derived.Below
import Derived.Deep.Draws
import Derived.Deep.AppendLies
import Derived.Maps.AppendAt
import Derived.OwnWalk
import Derived.Laws.BytesArg
import Derived.Laws.MakeOwn
import Derived.Laws.OwnMore
import Derived.Deep.OwnRows
import Derived.Tactics
import Derived.Lib.ConvBytes
import Derived.Laws.Slices
import Derived.WalkKit
import Derived.KernelRfl
import Derived.RowKit3
import Derived.Deep.LoopGhost
import Derived.Deep.QuietTactic
import Derived.BigQuiet
import Derived.WideLaws
import Derived.Deep.DeepCutAuto
import Derived.Deep.CutBlock
import Derived.Deep.RegionHeld3
import Derived.Laws.Rows
import Derived.Lib.AppendStr
import Derived.ArgAppend
import Derived.Laws.IdiomCopy
import Derived.OrdersHeld
import Derived.Laws.BitsLemmas
import Derived.RowKit
import Derived.Test.YtpkhcmholpljnacWWords
import Derived.Test.YtpkhcmholpljnacWLast
import Derived.Test.YtpkhcmholpljnacWTab
import Derived.Test.YtpkhcmholpljnacWFour
import Derived.Test.YtpkhcmholpljnacWQPut
import Derived.Test.YtpkhcmholpljnacWApart
import Derived.Test.YtpkhcmholpljnacWArr
import Derived.Test.YtpkhcmholpljnacWZeros
import Derived.Test.YtpkhcmholpljnacWFoot
import Derived.Test.YtpkhcmholpljnacWKept
import Derived.Test.YtpkhcmholpljnacWShare
import Derived.Test.YtpkhcmholpljnacWN
import Derived.Test.YtpkhcmholpljnacWFootNe
import Derived.Test.YtpkhcmholpljnacWAt
import Derived.Test.YtpkhcmholpljnacWEqStruct
import Derived.Test.YtpkhcmholpljnacWRepsOne
import Derived.Test.YtpkhcmholpljnacWInv
import Derived.Test.YtpkhcmholpljnacWInvWords
import Derived.Test.YtpkhcmholpljnacWGuard
import Derived.Test.YtpkhcmholpljnacWNEv
import Derived.Test.YtpkhcmholpljnacWMore
import Derived.RegionTactic
import Derived.ChangeAlike
import Derived.BigRegion
import Derived.Outline
import Derived.StillTailTactics
import Derived.Deep.RegionLaw
import Derived.WalkSpells
import Derived.Laws.EntriesVeiled
import Derived.Test.YtpkhcmholpljnacQueue10
namespace Go.Proofs.Ytpkhcmholpljnac.Q
open Go Go.RowKit Go.Proofs.Ytpkhcmholpljnac.Heap Go.Proofs.YtpkhcmholpljnacW.PrintWords Go.Proofs.YtpkhcmholpljnacW.PrintLast Go.Proofs.YtpkhcmholpljnacW.PrintMore
set_option linter.unusedVariables false
set_option linter.unusedSimpArgs false

/-! ### three lists beside one another -/
structure LSt where
  l : Nat
  picks : List Int
  pushed : Nat
  ms : List Th
def LIS (W w : World) (F : Nat → Prop) (a : LSt) : Prop := LI W w.heap.size F a.l a.picks a.pushed a.ms
def L3 (w W : World) (a b c : LSt) : Prop := ∃ Fa Fb Fc : Nat → Prop, LIS W w Fa a ∧ LIS W w Fb b ∧ LIS W w Fc c ∧ (∀ k, Fa k → ¬ Fb k ∧ ¬ Fc k) ∧ (∀ k, Fb k → ¬ Fc k) ∧ (∀ k, Fa k ∨ Fb k ∨ Fc k → w.heap.size ≤ k ∧ k < W.heap.size) ∧ Below w.heap.size w W
theorem L3.rot {w W : World} {a b c : LSt} (h : L3 w W a b c) : L3 w W b c a := by
  obtain ⟨Fa, Fb, Fc, h1, h2, h3, h4, h5, h6, h7⟩ := h
  refine ⟨Fb, Fc, Fa, h2, h3, h1, fun k hk => ⟨h5 k hk, fun e => (h4 k e).1 hk⟩, fun k hk e => (h4 k e).2 hk, fun k hk => h6 k ?_, h7⟩
  rcases hk with e | e | e
  · exact .inr (.inl e)
  · exact .inr (.inr e)
  · exact .inl e
theorem L3.below {w W W1 : World} {a b c : LSt} (h : L3 w W a b c) (hb : Below W.heap.size W W1) : L3 w W1 a b c := by
  obtain ⟨Fa, Fb, Fc, h1, h2, h3, h4, h5, h6, h7⟩ := h
  exact ⟨Fa, Fb, Fc, LI.below h1 hb, LI.below h2 hb, LI.below h3 hb, h4, h5, fun k hk => ⟨(h6 k hk).1, Nat.lt_of_lt_of_le (h6 k hk).2 hb.size⟩, below_step h7 hb⟩
theorem push3 (w W : World) (a b c : LSt) (n : Int) (h : L3 w W a b c) (h1000 : a.picks.length ≤ 1000) (hn : a.ms.length < 1000) (hp : a.pushed < 1000000) :
    Calls Try.prog 9 #[.pointer (some ⟨a.l, 0, none⟩), .int .i64 n] W fun e W' => e = .returned (.tuple #[]) ∧ L3 w W' ⟨a.l, a.picks, a.pushed + 1, a.ms ++ [(keyOf a.picks a.pushed, (a.pushed : Int), n)]⟩ b c := by
  obtain ⟨Fa, Fb, Fc, h1, h2, h3, h4, h5, h6, h7⟩ := h
  refine (push W _ a.l a.pushed Fa a.picks h1000 a.ms n h1 hn hp h7.size).mono ?_
  rintro e W' ⟨rfl, g1, g2⟩
  have hs := g2.size
  refine ⟨rfl, grow Fa W W', Fb, Fc, g1, LI.far h2 g2 (fun k hk f e => (h4 k e).1 f), LI.far h3 g2 (fun k hk f e => (h4 k e).2 f), fun k hk => ?_, h5, fun k hk => ?_, h7.trans (g2.below h7.size (fun k e => (h6 k (.inl e)).1))⟩
  · rcases hk with e | e
    · exact h4 k e
    · exact ⟨fun f => by have := (h6 k (.inr (.inl f))).2; omega, fun f => by have := (h6 k (.inr (.inr f))).2; omega⟩
  · rcases hk with (e | e) | e | e
    · have := h6 k (.inl e); omega
    · have := h7.size; omega
    · have := h6 k (.inr (.inl e)); omega
    · have := h6 k (.inr (.inr e)); omega
theorem pop3 (w W : World) (a b c : LSt) (m : Th) (r : List Th) (h : L3 w W a b c) (hp : a.ms.Perm (m :: r)) (hm : ∀ u ∈ r, lt m u = true) (hn : r.length < 1000) :
    Calls Try.prog 11 #[.pointer (some ⟨a.l, 0, none⟩)] W fun e W' => e = .returned (.tuple #[.int .i64 m.2.2, .bool true]) ∧ L3 w W' ⟨a.l, a.picks, a.pushed, r⟩ b c := by
  obtain ⟨Fa, Fb, Fc, h1, h2, h3, h4, h5, h6, h7⟩ := h
  refine (pop_eq W _ a.l a.pushed Fa a.picks a.ms m r h1 hp hm hn).mono ?_
  rintro e W' ⟨rfl, g1, g2⟩
  have hs := g2.size
  exact ⟨rfl, Fa, Fb, Fc, g1, LI.far h2 g2 (fun k hk f e => (h4 k e).1 f), LI.far h3 g2 (fun k hk f e => (h4 k e).2 f), h4, h5, fun k hk => ⟨(h6 k hk).1, Nat.lt_of_lt_of_le (h6 k hk).2 hs⟩, h7.trans (g2.below h7.size (fun k e => (h6 k (.inl e)).1))⟩
theorem pop3v (w W : World) (a b c : LSt) (k s v : Int) (r : List Th) (h : L3 w W a b c) (hp : a.ms.Perm ((k, s, v) :: r)) (hm : ∀ u ∈ r, lt (k, s, v) u = true) (hn : r.length < 1000) :
    Calls Try.prog 11 #[.pointer (some ⟨a.l, 0, none⟩)] W fun e W' => e = .returned (.tuple #[.int .i64 v, .bool true]) ∧ L3 w W' ⟨a.l, a.picks, a.pushed, r⟩ b c := pop3 w W a b c (k, s, v) r h hp hm hn
theorem L3.bel {w W : World} {a b c : LSt} (h : L3 w W a b c) : Below w.heap.size w W := by
  obtain ⟨Fa, Fb, Fc, h1, h2, h3, h4, h5, h6, h7⟩ := h; exact h7
theorem C_nil (W : World) : Kd.C (Kd.int .i64) W none 0 [] := ⟨rfl, by decide, fun h => absurd h (by decide)⟩
/-- Made one behind the other. -/
theorem L3.made {w W0 W1 W2 W3 W4 W5 : World} {la lb lc : Nat} {pa pb pc : List Int} (b0 : Below w.heap.size w W0)
    (ha : LI W1 W0.heap.size (fun k => W0.heap.size ≤ k ∧ k < W1.heap.size) la pa 0 []) (b1 : Below W0.heap.size W0 W1) (b2 : Below W1.heap.size W1 W2)
    (hb : LI W3 W2.heap.size (fun k => W2.heap.size ≤ k ∧ k < W3.heap.size) lb pb 0 []) (b3 : Below W2.heap.size W2 W3) (b4 : Below W3.heap.size W3 W4)
    (hc : LI W5 W4.heap.size (fun k => W4.heap.size ≤ k ∧ k < W5.heap.size) lc pc 0 []) (b5 : Below W4.heap.size W4 W5) : L3 w W5 ⟨la, pa, 0, []⟩ ⟨lb, pb, 0, []⟩ ⟨lc, pc, 0, []⟩ := by
  have s0 := b0.size; have s1 := b1.size; have s2 := b2.size; have s3 := b3.size; have s4 := b4.size; have s5 := b5.size
  refine ⟨_, _, _, (((((ha.below b2).below b3).below b4).below b5).lower s0), (((hb.below b4).below b5).lower (by omega)), (hc.lower (by omega)), fun k hk => ⟨fun e => by omega, fun e => by omega⟩, fun k hk e => by omega, fun k hk => by omega, ?_⟩
  exact below_step (below_step (below_step (below_step (below_step b0 b1) b2) b3) b4) b5
/-! ### what is in them -/
def ta (l : List Int) (key : Nat → Int) (k : Nat) : Th := (key k, (k : Int), rd l (k : Int))
def dn (n i : Nat) : List Int := (List.range i).map (fun (k : Nat) => (n : Int) - (k : Int))
theorem dn_succ (n i : Nat) : dn n (i + 1) = dn n i ++ [(n : Int) - (i : Int)] := by unfold dn; rw [List.range_succ, List.map_append]; rfl
theorem dn_len (n i : Nat) : (dn n i).length = i := by simp [dn]
theorem key_nil (k : Nat) : keyOf [] k = 0 := by unfold keyOf; exact if_pos (show ([] : List Int).length = 0 from rfl)
theorem key_one (p : Int) (k : Nat) : keyOf [p] k = p := by
  unfold keyOf; rw [if_neg (by simp), show k % ([p] : List Int).length = 0 from Nat.mod_one k]; rfl
theorem key_dn (n k : Nat) (h : k < n) : keyOf (dn n n) k = (n : Int) - (k : Int) := by
  unfold keyOf
  rw [if_neg (by rw [dn_len]; omega), dn_len, Nat.mod_eq_of_lt h]
  unfold rd dn
  rw [Int.toNat_natCast, List.getD_eq_getElem?_getD, List.getElem?_map, List.getElem?_range h]; rfl
def tt (l : List Int) (picks : List Int) (i : Nat) : List Th := (List.range i).map (fun k => (keyOf picks k, (k : Int), rd l (k : Int)))
theorem tt_succ (l picks : List Int) (i : Nat) : tt l picks (i + 1) = tt l picks i ++ [(keyOf picks i, (i : Int), rd l (i : Int))] := by unfold tt; rw [List.range_succ, List.map_append]; rfl
theorem tt_len (l picks : List Int) (i : Nat) : (tt l picks i).length = i := by simp [tt]
/-- What is left where things come out as they went in. -/
def rest (l : List Int) (picks : List Int) (n i : Nat) : List Th := (List.range' i (n - i)).map (fun k => (keyOf picks k, (k : Int), rd l (k : Int)))
theorem rest_start (l picks : List Int) (n : Nat) : tt l picks n = rest l picks n 0 := by unfold tt rest; rw [List.range_eq_range', Nat.sub_zero]
theorem rest_step (l picks : List Int) (n i : Nat) (h : i < n) : rest l picks n i = (keyOf picks i, (i : Int), rd l (i : Int)) :: rest l picks n (i + 1) := by
  unfold rest
  rw [show n - i = (n - (i + 1)) + 1 by omega, List.range'_succ]; rfl
theorem rest_lt (l picks : List Int) (n i : Nat) (hk : ∀ k k', keyOf picks k = keyOf picks k') : ∀ u ∈ rest l picks n (i + 1), lt (keyOf picks i, (i : Int), rd l (i : Int)) u = true := by
  intro u hu
  unfold rest at hu
  obtain ⟨k, hk1, rfl⟩ := List.mem_map.1 hu
  rw [List.mem_range'_1] at hk1
  rw [lt_def]
  exact .inr ⟨hk i k, by show (i : Int) < (k : Int); omega⟩
theorem rest_len (l picks : List Int) (n i : Nat) : (rest l picks n i).length = n - i := by simp [rest]
theorem dn_last (l : List Int) (n j : Nat) (h : j < n) : ∀ u ∈ tt l (dn n n) j, lt (keyOf (dn n n) j, (j : Int), rd l (j : Int)) u = true := by
  intro u hu
  unfold tt at hu
  obtain ⟨k, hk1, rfl⟩ := List.mem_map.1 hu
  rw [List.mem_range] at hk1
  rw [lt_def]
  left
  show keyOf (dn n n) j < keyOf (dn n n) k
  rw [key_dn n j h, key_dn n k (by omega)]; omega
theorem info3' : (Try.prog.info? 3).map (fun i => (i.zero, i.size, i.bytes)) = some (some (.int .i64 0), 1, 8) := by kernel_rfl
set_option maxHeartbeats 8000000 in
set_option maxRecDepth 100000 in
theorem plain_main (w : World) (A : Option Addr) (c0 : Nat) (l : List Int) (pick : Int) (hC : Kd.C (Kd.int .i64) w A l.length l) (h60 : l.length ≤ 60) :
    Calls Try.prog 5 #[.slice A l.length c0, .int .i64 pick] w fun e W' => e = .returned (.bool true) ∧ Below w.heap.size w W' := by
  have d3 : decide (60 < (l.length : Int)) = false := decide_eq_false (by omega)
  have d4 : decide (60 < l.length) = false := decide_eq_false (by omega)
  obtain ⟨nl, hnl⟩ : ∃ nl, nl = l.length := ⟨_, rfl⟩
  have HC := Aside0.mk hC
  have HN := Aside0.mk (And.intro hnl h60)
  rw [← hnl] at d3 d4 h60 ⊢
  have hn9 : (nl : Int) ≤ 60 := by omega
  clear hC hnl
  go_enter Try.func5, Try.ntmps5
  go_wp2_with fail
  refine (begun w).mono ?_
  rintro e w1 ⟨rfl, hb⟩
  have HB1 := Aside0.mk hb
  clear hb
  go_wp2_with fail
  go_loopw [5, 6] (fun v5 v6 wr => ∃ (i : Nat) (A5 : Option Addr) (c5 : Nat), i ≤ nl ∧ v6 = .int .i64 i ∧ v5 = .slice A5 i c5 ∧ Aside0 (Kd.R (Kd.int .i64) 3 wr w.heap.size (fun _ => True) (.slice A5 i c5) (dn nl i) ∧ Below w.heap.size w wr)) (fun _ v6 _ => nl - (intOf v6).toNat)
  case atStart => exact ⟨0, none, 0, Nat.zero_le _, rfl, rfl, ⟨by rw [show dn nl 0 = [] from rfl]; exact Kd.R_nil _ _ _ _ _, HB1.out⟩⟩
  case round =>
    obtain ⟨i, A5, c5, hi, rfl, rfl, HR⟩ := hrel
    by_cases hlt : i < nl
    · have e1 : decide ((i : Int) < (nl : Int)) = true := decide_eq_true (by omega)
      have e2 : decide (i < nl) = true := decide_eq_true hlt
      go_wp2_with (first | ((with_reducible refine gate_builtin (b := .append) (xs := #[.tmp 29, .tmp 34]) rfl ?_); at_builtin; refine Kd.R_append (Kd.int .i64) (w0 := w) w.heap.size rfl (.tmp 29) (.tmp 34) 22 3 (.int .i64 0) 8 rfl Try.underlying22 info3' rfl (by decide) (by omega) (.slice A5 i c5) (dn nl i) ((nl : Int) - (i : Int)) [.int .i64 ((nl : Int) - (i : Int))] (fun _ => True) (fun _ => False) rfl rfl rfl (fun _ hk => hk.elim) (fun _ _ => trivial) HR.out.1 HR.out.2 HR.out.2.size (by rw [dn_len]; omega) ?_; intro v1 w6 ho6 hb6 _ _; rw [← dn_succ] at ho6; obtain ⟨A1, c1, rfl, hl1_, hC1_⟩ := Kd.R_reads ho6; rw [dn_len] at ho6; rw [dn_len]; have HO6 := Aside0.mk (And.intro ho6 hb6); clear ho6 hb6 hl1_ hC1_))
      refine ⟨⟨i + 1, A1, c1, by omega, by go_num, rfl, HO6⟩, ?_⟩
      simp [intOf]; omega
    · obtain rfl : i = nl := by omega
      have e1 : decide ((i : Int) < (i : Int)) = false := decide_eq_false (by omega)
      have e2 : decide (i < i) = false := decide_eq_false hlt
      obtain ⟨A1, c1, hAc, hl1_, hC1_⟩ := Kd.R_reads HR.out.1
      rw [dn_len] at hAc
      obtain ⟨rfl, rfl⟩ : A1 = A5 ∧ c1 = c5 := by injection hAc with q1 q2 q3; exact ⟨q1.symm, q3.symm⟩
      have HD := Aside0.mk (And.intro hC1_ HR.out.2)
      clear hAc hl1_ hC1_ HR
      go_wp2_with fail
      have hnew0 : Calls Try.prog 8 #[.slice none 0 0] wr (Newed wr []) := new_ wr none 0 [] (C_nil wr) (by decide)
      with_reducible refine hnew0.mono ?_
      clear hnew0
      rintro e w2 ⟨la, rfl, h1, h2⟩
      have HA := Aside0.mk (And.intro h1 h2)
      clear h1 h2
      go_wp2_with fail
      have hb3 := below_alloc (Below.refl w2.heap.size w2) (.cells (nums .i64 [pick]).toArray 3 (0, 0))
      refine (new_ _ _ 1 [pick] (lit_C w2 [pick] (by simp)) (by simp)).mono ?_
      rintro e w3 ⟨lb, rfl, h1, h2⟩
      have HB := Aside0.mk (And.intro hb3 (And.intro h1 h2))
      clear h1 h2 hb3
      go_wp2_with fail
      have hdn : Calls Try.prog 8 #[.slice A1 i c1] w3 (Newed w3 (dn i i)) := by
        have q := new_ w3 A1 c1 (dn i i) (Kd.C_below (Kd.C_below (Kd.C_below HD.out.1 HA.out.2) HB.out.1) HB.out.2.2) (by rw [dn_len]; omega)
        rw [dn_len] at q; exact q
      refine hdn.mono ?_
      clear hdn
      rintro e w4 ⟨lc, rfl, h1, h2⟩
      have HL := Aside0.mk (L3.made HD.out.2 HA.out.1 HA.out.2 HB.out.1 HB.out.2.1 HB.out.2.2 (Below.refl _ _) h1 h2)
      clear h1 h2
      clear HA HB HD HB1
      go_wp2
      go_loopw [10] (fun v10 wr => ∃ k : Nat, k ≤ i ∧ v10 = .int .i64 k ∧ Aside0 (L3 w wr ⟨la, [], k, tt l [] k⟩ ⟨lb, [pick], k, tt l [pick] k⟩ ⟨lc, dn i i, k, tt l (dn i i) k⟩)) (fun v10 _ => i - (intOf v10).toNat)
      case atStart => exact ⟨0, Nat.zero_le _, rfl, HL⟩
      case round =>
        clear HL
        obtain ⟨k, hk, rfl, HR⟩ := hrel
        by_cases hlt2 : k < i
        · have e3 : decide ((k : Int) < (i : Int)) = true := decide_eq_true (by omega)
          have e4 : decide (k < i) = true := decide_eq_true hlt2
          obtain ⟨ad, rfl, hcell⟩ := Kd.at_int HC.out (k : Int) (by omega) (by have := HN.out.1; omega)
          rw [Int.toNat_natCast] at hcell
          have HCL := Aside0.mk hcell
          have hc1 := pw_cell_below HR.out.bel hcell
          clear hcell
          go_wp2_with fail
          refine (push3 w _ _ _ _ (rd l (k : Int)) HR.out (by simp) (by rw [tt_len]; omega) (by show k < 1000000; omega)).mono ?_
          rintro e w5 ⟨rfl, h⟩
          have hc2 := pw_cell_below h.bel HCL.out
          have HR2 := Aside0.mk h.rot
          clear h hc1
          go_wp2_with fail
          refine (push3 w _ _ _ _ (rd l (k : Int)) HR2.out (by simp) (by rw [tt_len]; omega) (by show k < 1000000; omega)).mono ?_
          rintro e w6 ⟨rfl, h⟩
          have hc3 := pw_cell_below h.bel HCL.out
          have HR3 := Aside0.mk h.rot
          clear h hc2
          go_wp2_with fail
          refine (push3 w _ _ _ _ (rd l (k : Int)) HR3.out (by rw [dn_len]; omega) (by rw [tt_len]; omega) (by show k < 1000000; omega)).mono ?_
          rintro e w7 ⟨rfl, h⟩
          have HR4 := Aside0.mk h.rot
          clear h hc3
          go_wp2
          refine ⟨⟨k + 1, by omega, by go_num, ⟨by rw [tt_succ, tt_succ, tt_succ]; exact HR4.out⟩⟩, ?_⟩
          simp [intOf]; omega
        · obtain rfl : k = i := by omega
          have e3 : decide ((k : Int) < (k : Int)) = false := decide_eq_false (by omega)
          have e4 : decide (k < k) = false := decide_eq_false hlt2
          have HP := Aside0.mk (show L3 w wr ⟨la, [], k, rest l [] k 0⟩ ⟨lb, [pick], k, rest l [pick] k 0⟩ ⟨lc, dn k k, k, tt l (dn k k) (k - 0)⟩ by rw [← rest_start, ← rest_start]; exact HR.out)
          clear HR
          go_wp2
          go_loopw [11] (fun v11 wr => ∃ j : Nat, j ≤ k ∧ v11 = .int .i64 j ∧ Aside0 (L3 w wr ⟨la, [], k, rest l [] k j⟩ ⟨lb, [pick], k, rest l [pick] k j⟩ ⟨lc, dn k k, k, tt l (dn k k) (k - j)⟩)) (fun v11 _ => k - (intOf v11).toNat)
          case atStart => exact ⟨0, Nat.zero_le _, rfl, HP⟩
          case round =>
            clear HP
            obtain ⟨j, hj, rfl, HR⟩ := hrel
            by_cases hlt3 : j < k
            · have e5 : decide ((j : Int) < (k : Int)) = true := decide_eq_true (by omega)
              have e6 : decide (j < k) = true := decide_eq_true hlt3
              go_wp2_with fail
              refine (pop3v w _ _ _ _ (keyOf [] j) (j : Int) (rd l (j : Int)) (rest l [] k (j + 1)) HR.out (by rw [rest_step l [] k j hlt3]) (rest_lt l [] k j (fun a b => by rw [key_nil, key_nil])) (by rw [rest_len]; omega)).mono ?_
              rintro e w5 ⟨rfl, h⟩
              have HR2 := Aside0.mk h.rot
              clear h
              go_wp2_with fail
              refine (pop3v w _ _ _ _ (keyOf [pick] j) (j : Int) (rd l (j : Int)) (rest l [pick] k (j + 1)) HR2.out (by rw [rest_step l [pick] k j hlt3]) (rest_lt l [pick] k j (fun a b => by rw [key_one, key_one])) (by rw [rest_len]; omega)).mono ?_
              rintro e w6 ⟨rfl, h⟩
              have HR3 := Aside0.mk h.rot
              clear h
              go_wp2_with fail
              obtain ⟨m, hm⟩ : ∃ m, k - j = m + 1 := ⟨k - j - 1, by omega⟩
              refine (pop3v w _ _ _ _ (keyOf (dn k k) m) (m : Int) (rd l (m : Int)) (tt l (dn k k) m) HR3.out (by rw [hm, tt_succ]; exact List.perm_append_singleton _ _) (dn_last l k m (by omega)) (by rw [tt_len]; omega)).mono ?_
              rintro e w7 ⟨rfl, h⟩
              have HR4 := Aside0.mk h.rot
              have hbw := Aside0.mk h.bel
              clear h
              obtain ⟨ad, rfl, hcell⟩ := Kd.at_int HC.out (j : Int) (by omega) (by have := HN.out.1; omega)
              obtain ⟨ad2, had, hcell2⟩ := Kd.at_int HC.out (m : Int) (by omega) (by have := HN.out.1; omega)
              injection had with had
              subst had
              rw [Int.toNat_natCast] at hcell hcell2
              have hc1 := pw_cell_below hbw.out hcell
              have hc2 := pw_cell_below hbw.out hcell2
              clear hcell hcell2
              have b1 : (rd l (j : Int) == rd l (j : Int)) = true := beq_self_eq_true _
              have b2 : (rd l (m : Int) == rd l (m : Int)) = true := beq_self_eq_true _
              have hmi : (k : Int) - 1 - (j : Int) = (m : Int) := by omega
              generalize rd l (j : Int) = x at *
              generalize rd l (m : Int) = z at *
              go_wp2
              refine ⟨⟨j + 1, by omega, by go_num, ⟨by rw [show k - (j + 1) = m by omega]; exact HR4.out⟩⟩, ?_⟩
              simp [intOf]; omega
            · obtain rfl : j = k := by omega
              have e5 : decide ((j : Int) < (j : Int)) = false := decide_eq_false (by omega)
              have e6 : decide (j < j) = false := decide_eq_false hlt3
              have HBF := Aside0.mk HR.out.bel
              clear HR
              go_wp2
              go_ret
              exact ⟨rfl, HBF.out⟩
set_option maxHeartbeats 8000000 in
set_option maxRecDepth 100000 in
theorem workPlain (w : World) (A : Option Addr) (c0 : Nat) (l : List Int) (pick : Int) (hC : Kd.C (Kd.int .i64) w A l.length l) (hm : l.length ≤ maxLen) :
    Calls Try.prog 5 #[.slice A l.length c0, .int .i64 pick] w fun e W' => e = .returned (.bool true) ∧ Below w.heap.size w W' := by
  simp only [maxLen] at hm
  by_cases h60 : 60 < l.length
  · have d3 : decide (60 < (l.length : Int)) = true := decide_eq_true (by omega)
    have d4 : decide (60 < l.length) = true := decide_eq_true h60
    clear hC h60
    go_enter Try.func5, Try.ntmps5
    go_wp2_with (first | ((with_reducible refine (begun w).mono ?_); rintro e w1 ⟨rfl, hb⟩; have HB1 := Aside0.mk hb; clear hb))
    go_ret
    exact ⟨rfl, HB1.out⟩
  · exact plain_main w A c0 l pick hC (by omega)
end Go.Proofs.Ytpkhcmholpljnac.Q
