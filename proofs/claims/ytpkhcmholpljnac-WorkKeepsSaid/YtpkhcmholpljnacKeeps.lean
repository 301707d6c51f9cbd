/- A text of a claim (ours): WorkKeeps walked: just what went in comes out, by rising keys; conditions: none of ours. -/
import Derived.Test.YtpkhcmholpljnacProg
import Derived.Below
import Derived.Deep.Draws
import Derived.Deep.AppendLies
import Derived.Maps.AppendAt
import Derived.OwnWalk
import Derived.Laws.BytesArg
import Derived.Laws.MakeOwn
import Derived.Laws.OwnMore
import Derived.Deep.OwnRows
import Derived.Tactics
import Derived.Lib.ConvBytes
import Derived.Laws.Slices
import Derived.WalkKit
import Derived.KernelRfl
import Derived.RowKit3
import Derived.Deep.LoopGhost
import Derived.Deep.QuietTactic
import Derived.BigQuiet
import Derived.WideLaws
import Derived.Deep.DeepCutAuto
import Derived.Deep.CutBlock
import Derived.Deep.RegionHeld3
import Derived.Laws.Rows
import Derived.Lib.AppendStr
import Derived.ArgAppend
import Derived.Laws.IdiomCopy
import Derived.OrdersHeld
import Derived.Laws.BitsLemmas
import Derived.RowKit
import Derived.Test.YtpkhcmholpljnacWWords
import Derived.Test.YtpkhcmholpljnacWLast
import Derived.Test.YtpkhcmholpljnacWTab
import Derived.Test.YtpkhcmholpljnacWFour
import Derived.Test.YtpkhcmholpljnacWQPut
import Derived.Test.YtpkhcmholpljnacWApart
import Derived.Test.YtpkhcmholpljnacWArr
import Derived.Test.YtpkhcmholpljnacWZeros
import Derived.Test.YtpkhcmholpljnacWFoot
import Derived.Test.YtpkhcmholpljnacWKept
import Derived.Test.YtpkhcmholpljnacWShare
import Derived.Test.YtpkhcmholpljnacWN
import Derived.Test.YtpkhcmholpljnacWFootNe
import Derived.Test.YtpkhcmholpljnacWAt
import Derived.Test.YtpkhcmholpljnacWEqStruct
import Derived.Test.YtpkhcmholpljnacWRepsOne
import Derived.Test.YtpkhcmholpljnacWInv
import Derived.Test.YtpkhcmholpljnacWInvWords
import Derived.Test.YtpkhcmholpljnacWGuard
import Derived.Test.YtpkhcmholpljnacWNEv
import Derived.Test.YtpkhcmholpljnacWMore
import Derived.RegionTactic
import Derived.ChangeAlike
import Derived.BigRegion
import Derived.StillTailTactics
import Derived.Deep.RegionLaw
import Derived.WalkSpells
import Derived.Laws.EntriesVeiled
import Derived.Test.YtpkhcmholpljnacQueue10
namespace Go.Proofs.Ytpkhcmholpljnac.Q
open Go Go.RowKit Go.Proofs.Ytpkhcmholpljnac.Heap Go.Proofs.YtpkhcmholpljnacW.PrintWords Go.Proofs.YtpkhcmholpljnacW.PrintLast Go.Proofs.YtpkhcmholpljnacW.PrintMore
set_option linter.unusedVariables false
set_option linter.unusedSimpArgs false

def th (picks : List Int) (k : Nat) : Th := (keyOf picks k, (k : Int), (k : Int))
def things (picks : List Int) (i : Nat) : List Th := (List.range i).map (th picks)
theorem things_succ (picks : List Int) (i : Nat) : things picks (i + 1) = things picks i ++ [(keyOf picks i, (i : Int), (i : Int))] := by
  unfold things; rw [List.range_succ, List.map_append]; rfl
theorem keep_step (picks : List Int) (ks : List Nat) (t : Th) (rest : List Th) (hp : (t :: rest).Perm (ks.map (th picks))) : ∃ k, k ∈ ks ∧ t = th picks k ∧ rest.Perm ((ks.erase k).map (th picks)) := by
  have ht : t ∈ ks.map (th picks) := hp.mem_iff.1 (by simp)
  obtain ⟨k, hk, rfl⟩ := List.mem_map.1 ht
  refine ⟨k, hk, rfl, List.Perm.cons_inv (hp.trans ?_)⟩
  have := (List.perm_cons_erase hk).map (th picks)
  simpa using this
structure KI (w wr : World) (l u nl : Nat) (picks : List Int) (i : Nat) (last lastAt : Int) : Prop where
  out : ∃ (F : Nat → Prop) (ks : List Nat) (ub : List Bool), LI wr w.heap.size F l picks nl (ks.map (th picks)) ∧ (∀ k, F k → w.heap.size ≤ k) ∧ Below w.heap.size w wr ∧ ¬ F u ∧ w.heap.size ≤ u ∧ wr.heap[u]? = some (.cells (ub.map Value.bool).toArray 4 (0, 0)) ∧
    ks.Nodup ∧ (∀ k ∈ ks, k < nl) ∧ ks.length + i = nl ∧ ub.length = nl ∧ (∀ k, k < nl → ub.getD k false = !(decide (k ∈ ks))) ∧ (0 < i → ∀ k ∈ ks, last < keyOf picks k ∨ (last = keyOf picks k ∧ lastAt ≤ (k : Int)))
theorem info4 : (Try.prog.info? 4).map (fun i => (i.zero, i.size, i.bytes)) = some (some (.bool false), 1, 1) := by kernel_rfl
theorem made_bools (m : Nat) : madeCells #[Value.bool false] m = ((List.replicate m false).map Value.bool).toArray := by
  apply Array.ext'
  apply List.ext_getElem
  · simp [size_madeCells]
  · intro i h1 h2
    simp [madeCells, Nat.mod_one]
theorem ki_start (w wr : World) (l nl : Nat) (picks : List Int) (hn : nl ≤ 60) (h : LS w wr l picks nl (things picks nl)) :
    KI w (wr.alloc (.cells (madeCells #[Value.bool false] nl) 4 (0, 0))) l wr.heap.size nl picks 0 0 (-1) := by
  obtain ⟨F, h1, h2, h3⟩ := h
  have hb := below_alloc (Below.refl wr.heap.size wr) (.cells (madeCells #[Value.bool false] nl) 4 (0, 0))
  refine ⟨⟨fun k => F k ∧ k < wr.heap.size, List.range nl, List.replicate nl false, (h1.mono (fun k hk f => ⟨f, hk⟩)).below hb, fun k e => h2 k e.1, below_step h3 hb, fun e => by omega, h3.size, ?_, List.nodup_range, fun k hk => List.mem_range.1 hk, by simp, by simp, fun k hk => ?_, fun h => by omega⟩⟩
  · rw [← made_bools]; exact heap_alloc_new wr _
  · rw [decide_eq_true (List.mem_range.2 hk), List.getD_eq_getElem?_getD, List.getElem?_replicate, if_pos hk]; rfl
theorem getD_set (l : List Bool) (k j : Nat) (hk : k < l.length) : (l.set k true).getD j false = if k = j then true else l.getD j false := by
  rw [List.getD_eq_getElem?_getD, List.getD_eq_getElem?_getD, List.getElem?_set]
  by_cases h : k = j
  · rw [if_pos h, if_pos hk, if_pos h]; rfl
  · rw [if_neg h, if_neg h]
/-- Behind a pop and the mark: the next round's state. -/
theorem ki_next (w wr w5 : World) (l u nl k i : Nat) (picks : List Int) (F : Nat → Prop) (ks : List Nat) (ub : List Bool) (h2 : ∀ k, F k → w.heap.size ≤ k) (h3 : Below w.heap.size w wr) (h4 : ¬ F u) (hu : w.heap.size ≤ u) (h5 : wr.heap[u]? = some (.cells (ub.map Value.bool).toArray 4 (0, 0)))
    (h6 : ks.Nodup) (h7 : ∀ k ∈ ks, k < nl) (h8 : ks.length + i = nl) (h9 : ub.length = nl) (h10 : ∀ k, k < nl → ub.getD k false = !(decide (k ∈ ks))) (hk : k ∈ ks)
    (g1 : LI w5 w.heap.size F l picks nl ((ks.erase k).map (th picks))) (g3 : ∀ x ∈ ks.map (th picks), le (th picks k) x) (g4 : Chg F wr w5) :
    KI w (w5.setCell ⟨u, k, none⟩ (.bool true)) l u nl picks (i + 1) (keyOf picks k) (k : Int) := by
  have C : Chg (fun x => x = u) w5 (w5.setCell ⟨u, k, none⟩ (.bool true)) := (Chg.refl (fun x => x = u) w5).setCell (p := ⟨u, k, none⟩) rfl _
  have b5 := g4.heap h5 h4
  have b6 := blk_set b5 k (.bool true)
  have hkn := h7 k hk
  refine ⟨⟨F, ks.erase k, ub.set k true, g1.far C (fun x hx f e => h4 (e ▸ f)), h2, ?_, h4, hu, ?_, h6.erase k, fun x hx => h7 x (List.mem_of_mem_erase hx), ?_, by rw [List.length_set]; exact h9, fun x hx => ?_, fun _ x hx => ?_⟩⟩
  · exact (h3.trans (g4.below h3.size h2)).setCell hu _
  · rw [b6]; simp [List.map_set]
  · rw [List.length_erase_of_mem hk]; have := List.length_pos_of_mem hk; omega
  · rw [getD_set ub k x (by omega), h10 x hx]
    by_cases e : k = x
    · subst e
      rw [if_pos rfl]
      have : ¬ k ∈ ks.erase k := fun h => by rw [List.Nodup.mem_erase_iff h6] at h; exact h.1 rfl
      simp [this]
    · rw [if_neg e]
      have : x ∈ ks.erase k ↔ x ∈ ks := by rw [List.Nodup.mem_erase_iff h6]; exact ⟨fun h => h.2, fun h => ⟨fun q => e q.symm, h⟩⟩
      simp [this]
  · have hm := List.mem_of_mem_erase hx
    have h := g3 (th picks x) (List.mem_map.2 ⟨x, hm, rfl⟩)
    rw [le_def] at h
    simp only [th] at h
    omega
set_option maxHeartbeats 8000000 in
set_option maxRecDepth 100000 in
theorem keeps_main (w : World) (A0 A1 : Option Addr) (c0 c1 nl : Nat) (picks : List Int) (hC : Kd.C (Kd.int .i64) w A0 picks.length picks) (h20 : picks.length ≤ 20) (h60 : nl ≤ 60) :
    Calls Try.prog 4 #[.slice A0 picks.length c0, .slice A1 nl c1] w fun e W' => e = .returned (.bool true) ∧ Below w.heap.size w W' := by
  have d1 : decide (20 < (picks.length : Int)) = false := decide_eq_false (by omega)
  have d2 : decide (20 < picks.length) = false := decide_eq_false (by omega)
  have d3 : decide (60 < (nl : Int)) = false := decide_eq_false (by omega)
  have d4 : decide (60 < nl) = false := decide_eq_false (by omega)
  have HC := Aside0.mk hC
  have HN := Aside0.mk (And.intro h20 h60)
  have hn9 : (nl : Int) ≤ 60 := by omega
  clear hC
  go_enter Try.func4, Try.ntmps4
  go_wp2_with fail
  refine (begun w).mono ?_
  rintro e w1 ⟨rfl, hb⟩
  have HB1 := Aside0.mk hb
  clear hb
  go_wp2_with fail
  refine (new_ w1 A0 c0 picks (Kd.C_below HC.out HB1.out) (by have := HN.out; omega)).mono ?_
  rintro e w2 ⟨l, rfl, h1, h2⟩
  have HL := Aside0.mk (LS.of_new HB1.out h1 h2)
  clear h1 h2
  go_wp2
  go_loopw [6] (fun v6 wr => ∃ i : Nat, i ≤ nl ∧ v6 = .int .i64 i ∧ Aside0 (LS w wr l picks i (things picks i))) (fun v6 _ => nl - (intOf v6).toNat)
  case atStart => exact ⟨0, Nat.zero_le _, rfl, HL⟩
  case round =>
    obtain ⟨i, hi, rfl, HR⟩ := hrel
    by_cases hlt : i < nl
    · have e1 : decide ((i : Int) < (nl : Int)) = true := decide_eq_true (by omega)
      have e2 : decide (i < nl) = true := decide_eq_true hlt
      go_wp2_with (first | ((with_reducible refine (push_s w wr l i picks (by have := HN.out; omega) _ (i : Int) HR.out (by unfold things; simp; omega) (by omega)).mono ?_); rintro e w4 ⟨rfl, h⟩; have HR2 := Aside0.mk h; clear h))
      refine ⟨⟨i + 1, by omega, by go_num, ⟨by rw [things_succ]; exact HR2.out⟩⟩, ?_⟩
      simp [intOf]; omega
    · obtain rfl : i = nl := by omega
      have e1 : decide ((i : Int) < (i : Int)) = false := decide_eq_false (by omega)
      have e2 : decide (i < i) = false := decide_eq_false hlt
      have hmk := print_make_of (P := Try.prog) 35 4 (.bool false) 1 Try.underlying35 info4 rfl (by omega) i (by omega)
      have HK0 := Aside0.mk (ki_start w wr l i picks (by have := HN.out; omega) HR.out)
      clear HR
      go_wp2_with fail
      clear hmk
      generalize wr.alloc (.cells (madeCells #[Value.bool false] i) 4 (0, 0)) = wm at HK0 ⊢
      generalize wr.heap.size = u at HK0 ⊢
      go_loopw [10, 8, 9] (fun v10 v8 v9 wr => ∃ (i1 : Nat) (last lastAt : Int), i1 ≤ i ∧ v10 = .int .i64 i1 ∧ v8 = .int .i64 last ∧ v9 = .int .i64 lastAt ∧ Aside0 (KI w wr l u i picks i1 last lastAt)) (fun v10 _ _ _ => i - (intOf v10).toNat)
      case atStart => exact ⟨0, 0, -1, Nat.zero_le _, rfl, rfl, rfl, HK0⟩
      case round =>
        clear HK0
        obtain ⟨i1, last, lastAt, hi1, rfl, rfl, rfl, HR⟩ := hrel
        obtain ⟨F, ks, ub, k1, k2, k3, k4, ku, k5, k6, k7, k8, k9, k10, k11⟩ := HR.out.out
        have HK := Aside0.mk (And.intro k1 (And.intro k2 (And.intro k3 (And.intro k4 (And.intro ku (And.intro k5 (And.intro k6 (And.intro k7 (And.intro k8 (And.intro k9 (And.intro k10 k11)))))))))))
        clear k1 k2 k3 k4 ku k5 k6 k7 k9 k10 k11
        by_cases hlt2 : i1 < i
        · have e3 : decide ((i1 : Int) < (i : Int)) = true := decide_eq_true (by omega)
          have e4 : decide (i1 < i) = true := decide_eq_true hlt2
          have hkl : 0 < (ks.map (th picks)).length := by rw [List.length_map]; omega
          have hkl2 : (ks.map (th picks)).length ≤ 1000 := by rw [List.length_map]; have := HN.out; omega
          go_wp2_with fail
          refine (pop_some wr _ l i F picks (ks.map (th picks)) HK.out.1 hkl hkl2).mono ?_
          rintro e w5 ⟨t, rest, rfl, g1, g2, g3, g4⟩
          obtain ⟨k, hk, rfl, hr⟩ := keep_step picks ks t rest g2
          obtain ⟨k1, k2, k3, k4, ku, k5, k6, k7, k8, k9, k10, k11⟩ := HK.out
          have hkn := k7 k hk
          have b5 := g4.heap k5 k4
          have hfz := blk_frozen b5
          have hcu : w5.cell? ⟨u, k, none⟩ = some (.bool false) := by
            rw [blk_cell b5]
            have q := k10 k hkn
            rw [decide_eq_true hk] at q
            rw [List.getElem?_toArray, List.getElem?_map]
            rw [List.getD_eq_getElem?_getD, List.getElem?_eq_getElem (by omega)] at q
            rw [List.getElem?_eq_getElem (by omega)]
            simp at q
            simp [q]
          have HX := Aside0.mk (ki_next w wr w5 l u i k i1 picks F ks ub k2 k3 k4 ku k5 k6 k7 k8 k9 k10 hk (g1.perm hr) g3 g4)
          have HBw := Aside0.mk (k3.trans (g4.below k3.size k2))
          have K11 := Aside0.mk k11
          have HU := Aside0.mk ku
          have hk0 := Aside0.mk hk
          have t22 : (th picks k).2.2 = (k : Int) := rfl
          rw [t22]
          clear k1 k2 k3 k4 ku k5 k6 k7 k8 k9 k10 k11 g1 g2 g3 g4 hr HK b5 t22 hk hkl hkl2
          have hks : (k : Int) < (i : Int) := by omega
          by_cases hp0 : picks.length = 0
          · have HKY := Aside0.mk (show keyOf picks k = 0 by unfold keyOf; rw [if_pos hp0])
            have d5 : decide (0 < (picks.length : Int)) = false := decide_eq_false (by omega)
            have d6 : decide (0 < picks.length) = false := decide_eq_false (by omega)
            clear hp0
            rcases Nat.eq_zero_or_pos i1 with h0 | h0
            · have q1 : decide (0 < (i1 : Int)) = false := decide_eq_false (by omega)
              have q2 : decide (0 < i1) = false := decide_eq_false (by omega)
              clear h0
              go_wp2
              refine ⟨⟨i1 + 1, 0, (k : Int), by omega, by go_num, rfl, rfl, ⟨by rw [← HKY.out]; exact HX.out⟩⟩, ?_⟩
              simp [intOf]; omega
            · have q1 : decide (0 < (i1 : Int)) = true := decide_eq_true (by omega)
              have q2 : decide (0 < i1) = true := decide_eq_true h0
              have KK := K11.out h0 k hk0.out
              rw [HKY.out] at KK
              clear h0
              rcases KK with KK | ⟨KK, KL⟩
              · have q3 : decide (0 < last) = false := decide_eq_false (by omega)
                have q4 : ((0 : Int) == last) = false := by rw [beq_eq_false_iff_ne]; omega
                clear KK
                go_wp2
                refine ⟨⟨i1 + 1, 0, (k : Int), by omega, by go_num, rfl, rfl, ⟨by rw [← HKY.out]; exact HX.out⟩⟩, ?_⟩
                simp [intOf]; omega
              · have q3 : decide (0 < last) = false := decide_eq_false (by omega)
                have q4 : ((0 : Int) == last) = true := by rw [beq_iff_eq]; omega
                have q5 : decide ((k : Int) < lastAt) = false := decide_eq_false (by omega)
                clear KK KL
                go_wp2
                refine ⟨⟨i1 + 1, 0, (k : Int), by omega, by go_num, rfl, rfl, ⟨by rw [← HKY.out]; exact HX.out⟩⟩, ?_⟩
                simp [intOf]; omega
          · have d5 : decide (0 < (picks.length : Int)) = true := decide_eq_true (by omega)
            have d6 : decide (0 < picks.length) = true := decide_eq_true (by omega)
            have d7 : ((picks.length : Int) == 0) = false := by rw [beq_eq_false_iff_ne]; omega
            have hm : k % picks.length < picks.length := Nat.mod_lt _ (by omega)
            obtain ⟨ad, rfl, hcell⟩ := Kd.at_int HC.out ((k % picks.length : Nat) : Int) (by omega) (by omega)
            have ek : keyOf picks k = rd picks ((k % picks.length : Nat) : Int) := by unfold keyOf; rw [if_neg hp0]
            have hblk := World.block_lt_of_cell? _ _ hcell
            have hc5 := pw_cell_below HBw.out hcell
            have hcx : (w5.setCell ⟨u, k, none⟩ (.bool true)).cell? (ad.add ((k % picks.length : Nat) : Int).toNat) = some (.int .i64 (rd picks ((k % picks.length : Nat) : Int))) := (pw_cell_below (HBw.out.setCell (p := ⟨u, k, none⟩) HU.out (.bool true)) hcell)
            rw [← ek, Int.toNat_natCast] at hcx
            clear hcell hc5 hblk
            have em : Int.tmod (k : Int) (picks.length : Int) = ((k % picks.length : Nat) : Int) := (Int.ofNat_tmod _ _).symm
            have em2 : (k : Int) % (picks.length : Int) = ((k % picks.length : Nat) : Int) := by omega
            generalize k % picks.length = m at hm hcx em em2 ek
            obtain ⟨key, hkey⟩ : ∃ key, key = keyOf picks k := ⟨_, rfl⟩
            rw [← hkey] at hcx
            have HKY := Aside0.mk hkey.symm
            have hm3 : (m : Int) < (picks.length : Int) := by omega
            have hp3 : (picks.length : Int) ≤ 20 := by omega
            clear hkey ek hp0
            rcases Nat.eq_zero_or_pos i1 with h0 | h0
            · have q1 : decide (0 < (i1 : Int)) = false := decide_eq_false (by omega)
              have q2 : decide (0 < i1) = false := decide_eq_false (by omega)
              clear h0
              go_wp2
              refine ⟨⟨i1 + 1, key, (k : Int), by omega, by go_num, rfl, rfl, ⟨by rw [← HKY.out]; exact HX.out⟩⟩, ?_⟩
              simp [intOf]; omega
            · have q1 : decide (0 < (i1 : Int)) = true := decide_eq_true (by omega)
              have q2 : decide (0 < i1) = true := decide_eq_true h0
              have KK := K11.out h0 k hk0.out
              rw [HKY.out] at KK
              clear h0
              rcases KK with KK | ⟨KK, KL⟩
              · have q3 : decide (key < last) = false := decide_eq_false (by omega)
                have q4 : ((key : Int) == last) = false := by rw [beq_eq_false_iff_ne]; omega
                clear KK
                go_wp2
                refine ⟨⟨i1 + 1, key, (k : Int), by omega, by go_num, rfl, rfl, ⟨by rw [← HKY.out]; exact HX.out⟩⟩, ?_⟩
                simp [intOf]; omega
              · have q3 : decide (key < last) = false := decide_eq_false (by omega)
                have q4 : ((key : Int) == last) = true := by rw [beq_iff_eq]; omega
                have q5 : decide ((k : Int) < lastAt) = false := decide_eq_false (by omega)
                clear KK KL
                go_wp2
                refine ⟨⟨i1 + 1, key, (k : Int), by omega, by go_num, rfl, rfl, ⟨by rw [← HKY.out]; exact HX.out⟩⟩, ?_⟩
                simp [intOf]; omega
        · obtain rfl : i1 = i := by omega
          have e3 : decide ((i1 : Int) < (i1 : Int)) = false := decide_eq_false (by omega)
          have e4 : decide (i1 < i1) = false := decide_eq_false hlt2
          have hks : ks = [] := List.eq_nil_of_length_eq_zero (by omega)
          subst hks
          have HBw := Aside0.mk HK.out.2.2.1
          have HLL := Aside0.mk (show LI wr w.heap.size F l picks i1 [] from HK.out.1)
          clear HK
          go_wp2_with fail
          refine (pop_none wr _ l i1 F picks HLL.out).mono ?_
          rintro e w5 ⟨rfl, rfl⟩
          go_wp2_with (first | ((with_reducible refine (len_ wr _ l i1 F picks [] HLL.out).mono ?_); rintro e w6 ⟨rfl, rfl⟩; rw [show ((([] : List Th).length : Nat) : Int) = 0 from rfl]))
          go_ret
          exact ⟨rfl, HBw.out⟩
set_option maxHeartbeats 8000000 in
set_option maxRecDepth 100000 in
theorem workKeeps (w : World) (A0 A1 : Option Addr) (c0 c1 nl : Nat) (picks : List Int) (hC : Kd.C (Kd.int .i64) w A0 picks.length picks) (hm : picks.length ≤ maxLen) (hn : nl ≤ maxLen) :
    Calls Try.prog 4 #[.slice A0 picks.length c0, .slice A1 nl c1] w fun e W' => e = .returned (.bool true) ∧ Below w.heap.size w W' := by
  simp only [maxLen] at hm hn
  by_cases h20 : 20 < picks.length
  · have d1 : decide (20 < (picks.length : Int)) = true := decide_eq_true (by omega)
    have d2 : decide (20 < picks.length) = true := decide_eq_true h20
    clear hC h20
    go_enter Try.func4, Try.ntmps4
    go_wp2_with (first | ((with_reducible refine (begun w).mono ?_); rintro e w1 ⟨rfl, hb⟩; have HB1 := Aside0.mk hb; clear hb))
    go_ret
    exact ⟨rfl, HB1.out⟩
  · by_cases h60 : 60 < nl
    · have d1 : decide (20 < (picks.length : Int)) = false := decide_eq_false (by omega)
      have d2 : decide (20 < picks.length) = false := decide_eq_false h20
      have d3 : decide (60 < (nl : Int)) = true := decide_eq_true (by omega)
      have d4 : decide (60 < nl) = true := decide_eq_true h60
      clear hC h20 h60
      go_enter Try.func4, Try.ntmps4
      go_wp2_with (first | ((with_reducible refine (begun w).mono ?_); rintro e w1 ⟨rfl, hb⟩; have HB1 := Aside0.mk hb; clear hb))
      go_ret
      exact ⟨rfl, HB1.out⟩
    · exact keeps_main w A0 A1 c0 c1 nl picks hC (by omega) (by omega)
end Go.Proofs.Ytpkhcmholpljnac.Q
