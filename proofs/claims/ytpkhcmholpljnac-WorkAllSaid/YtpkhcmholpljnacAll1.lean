import Derived.Test.YtpkhcmholpljnacProg
import Derived.Below
import Derived.Deep.Draws
import Derived.Deep.AppendLies
import Derived.Maps.AppendAt
import Derived.OwnWalk
import Derived.Laws.BytesArg
import Derived.Laws.MakeOwn
import Derived.Laws.OwnMore
import Derived.Deep.OwnRows
import Derived.Tactics
import Derived.Lib.ConvBytes
import Derived.Laws.Slices
import Derived.WalkKit
import Derived.KernelRfl
import Derived.RowKit3
import Derived.Deep.LoopGhost
import Derived.Deep.QuietTactic
import Derived.BigQuiet
import Derived.WideLaws
import Derived.Deep.DeepCutAuto
import Derived.Deep.CutBlock
import Derived.Deep.RegionHeld3
import Derived.Laws.Rows
import Derived.Lib.AppendStr
import Derived.ArgAppend
import Derived.Laws.IdiomCopy
import Derived.OrdersHeld
import Derived.Laws.BitsLemmas
import Derived.RowKit
import Derived.Test.YtpkhcmholpljnacWWords
import Derived.Test.YtpkhcmholpljnacWLast
import Derived.Test.YtpkhcmholpljnacWTab
import Derived.Test.YtpkhcmholpljnacWFour
import Derived.Test.YtpkhcmholpljnacWQPut
import Derived.Test.YtpkhcmholpljnacWApart
import Derived.Test.YtpkhcmholpljnacWArr
import Derived.Test.YtpkhcmholpljnacWZeros
import Derived.Test.YtpkhcmholpljnacWFoot
import Derived.Test.YtpkhcmholpljnacWKept
import Derived.Test.YtpkhcmholpljnacWShare
import Derived.Test.YtpkhcmholpljnacWN
import Derived.Test.YtpkhcmholpljnacWFootNe
import Derived.Test.YtpkhcmholpljnacWAt
import Derived.Test.YtpkhcmholpljnacWEqStruct
import Derived.Test.YtpkhcmholpljnacWRepsOne
import Derived.Test.YtpkhcmholpljnacWInv
import Derived.Test.YtpkhcmholpljnacWInvWords
import Derived.Test.YtpkhcmholpljnacWGuard
import Derived.Test.YtpkhcmholpljnacWNEv
import Derived.Test.YtpkhcmholpljnacWMore
import Derived.RegionTactic
import Derived.ChangeAlike
import Derived.BigRegion
import Derived.Outline
import Derived.StillTailTactics
import Derived.Deep.RegionLaw
import Derived.WalkSpells
import Derived.Laws.EntriesVeiled
import Derived.Test.YtpkhcmholpljnacQueue10
import Derived.Test.YtpkhcmholpljnacPK1x
import Derived.Test.YtpkhcmholpljnacBest
namespace Go.Proofs.Ytpkhcmholpljnac.Q
open Go Go.RowKit Go.Proofs.Ytpkhcmholpljnac.Heap Go.Proofs.YtpkhcmholpljnacW.PrintWords Go.Proofs.YtpkhcmholpljnacW.PrintLast Go.Proofs.YtpkhcmholpljnacW.PrintMore Go.Proofs.Ytpkhcmholpljnac.PK1
set_option linter.unusedVariables false
set_option linter.unusedSimpArgs false

structure AI (w W : World) (F : Nat → Prop) (l k : Nat) (picks : List Int) (vi vm : Value) (ms : List S28) (ns : List Th) : Prop where
  li : LI W w.heap.size F l picks k ns
  rm : Kd.R k28 28 W w.heap.size (fun b => ¬ F b) vm ms
  ri : Kd.R (Kd.int .i64) 3 W w.heap.size (fun b => ¬ F b) vi picks
  lo : ∀ b, F b → w.heap.size ≤ b ∧ b < W.heap.size
  bel : Below w.heap.size w W
theorem in_grown {W w1 : World} {base : Nat} {ok ok' : Nat → Prop} {vi vm : Value} {xs : List Int} {ms : List S28} (hi : Kd.R (Kd.int .i64) 3 W base ok vi xs) (hm : Kd.R k28 28 W base ok' vm ms) (hg : W.grownBy w1 vm.ownBlock) : Kd.R (Kd.int .i64) 3 w1 base ok vi xs := by
  refine Kd.R_mono (Kd.R_grown (Kd.R_bound hi) hg (fun k hk e => ?_)) (fun _ hk => hk.1)
  obtain ⟨_, _, _, q, hq, cells, hc⟩ := hk
  obtain ⟨inner, ho⟩ := Kd.R_own hm
  obtain ⟨cells', hc'⟩ := own_typed ho k e.symm
  rw [hc] at hc'
  injection hc' with h
  injection h with _ h
  rcases List.mem_cons.1 hq with rfl | hq
  · exact absurd h (by decide)
  · exact absurd hq (by simp [Kd.int, Kd.scalar])
theorem R_pass {α : Type} {d : Kd α} {e : Nat} {W W' : World} {base : Nat} {F : Nat → Prop} {v : Value} {xs : List α} (h : d.R e W base (fun b => ¬ F b) v xs) (c : Chg F W W') : d.R e W' base (fun b => ¬ F b ∧ b < W.heap.size) v xs :=
  Kd.R_mono (Kd.R_step (Kd.R_bound h) (fun k hk hlt => c.block k hlt hk.1)) (fun k hk => ⟨hk.1, hk.2.2.1⟩)
theorem AI.append {w W w1 : World} {F : Nat → Prop} {l k : Nat} {picks : List Int} {vi vm v1 : Value} {ms ms' : List S28} {ns : List Th} (h : AI w W F l k picks vi vm ms ns)
    (g1 : Kd.R k28 28 w1 w.heap.size (fun b => ¬ F b) v1 ms') (g2 : Below w.heap.size w w1) (g3 : W.grownBy w1 vm.ownBlock) : AI w w1 F l k picks vi v1 ms' ns :=
  ⟨h.li.far (Chg.grown (F := fun b => vm.ownBlock = some b) g3 (fun _ e => e)) (fun b _ f e => h.rm.1 b e f), g1, in_grown h.ri h.rm g3, fun b hb => ⟨(h.lo b hb).1, Nat.lt_of_lt_of_le (h.lo b hb).2 g3.size⟩, g2⟩
theorem AI.below {w W W1 : World} {F : Nat → Prop} {l k : Nat} {picks : List Int} {vi vm : Value} {ms : List S28} {ns : List Th} (h : AI w W F l k picks vi vm ms ns) (hb : Below W.heap.size W W1) : AI w W1 F l k picks vi vm ms ns :=
  ⟨h.li.below hb, Kd.R_below h.rm hb, Kd.R_below h.ri hb, fun b hf => ⟨(h.lo b hf).1, Nat.lt_of_lt_of_le (h.lo b hf).2 hb.size⟩, below_step h.bel hb⟩
theorem AI.push {w W : World} {F : Nat → Prop} {l k : Nat} {picks : List Int} {vi vm : Value} {ms : List S28} {ns : List Th} (h : AI w W F l k picks vi vm ms ns) (n : Int) (h1000 : picks.length ≤ 1000) (hn : ns.length < 1000) (hp : k < 1000000) :
    Calls Try.prog 9 #[.pointer (some ⟨l, 0, none⟩), .int .i64 n] W fun e W' => e = .returned (.tuple #[]) ∧ ∃ F', AI w W' F' l (k + 1) picks vi vm ms (ns ++ [(keyOf picks k, (k : Int), n)]) := by
  refine (Q.push W _ l k F picks h1000 ns n h.li hn hp h.bel.size).mono ?_
  rintro e W' ⟨rfl, g1, g2⟩
  have hs := g2.size
  have hb := h.bel.size
  refine ⟨rfl, grow F W W', g1, Kd.R_mono (R_pass h.rm g2) ?_, Kd.R_mono (R_pass h.ri g2) ?_, fun b hb' => ?_, h.bel.trans (g2.below hb (fun b e => (h.lo b e).1))⟩
  · rintro b ⟨q1, q2⟩ (q3 | q3)
    · exact q1 q3
    · omega
  · rintro b ⟨q1, q2⟩ (q3 | q3)
    · exact q1 q3
    · omega
  · rcases hb' with q | q
    · have := h.lo b q; omega
    · omega
theorem AI.pop {w W : World} {F : Nat → Prop} {l k : Nat} {picks : List Int} {vi vm : Value} {ms : List S28} {ns : List Th} (h : AI w W F l k picks vi vm ms ns) (a b n : Int) (r : List Th) (hp : ns.Perm ((a, b, n) :: r)) (hm : ∀ u ∈ r, lt (a, b, n) u = true) (hn : r.length < 1000) :
    Calls Try.prog 11 #[.pointer (some ⟨l, 0, none⟩)] W fun e W' => e = .returned (.tuple #[.int .i64 n, .bool true]) ∧ AI w W' F l k picks vi vm ms r := by
  refine (pop_eq W _ l k F picks ns (a, b, n) r h.li hp hm hn).mono ?_
  rintro e W' ⟨rfl, g1, g2⟩
  have hs := g2.size
  exact ⟨rfl, g1, Kd.R_mono (R_pass h.rm g2) (fun _ q => q.1), Kd.R_mono (R_pass h.ri g2) (fun _ q => q.1), fun b hb' => ⟨(h.lo b hb').1, Nat.lt_of_lt_of_le (h.lo b hb').2 hs⟩, h.bel.trans (g2.below h.bel.size (fun b e => (h.lo b e).1))⟩
theorem AI.drawn {w W W1 : World} {F : Nat → Prop} {l k : Nat} {picks : List Int} {vi vm : Value} {ms : List S28} {ns : List Th} (h : AI w W F l k picks vi vm ms ns) (hb : Drawn0 W W1) : AI w W1 F l k picks vi vm ms ns := by
  obtain ⟨m, rfl⟩ := hb
  exact h.below ⟨rfl, rfl, rfl, Nat.le_refl _, fun _ _ => rfl⟩
theorem drop_perm (ms : List S28) (j : Nat) (hj : j < ms.length) : (ms.map T).Perm (T (ms.getD j z28) :: (ms.take j ++ ms.drop (j + 1)).map T) := by
  have h : ms = ms.take j ++ ms.getD j z28 :: ms.drop (j + 1) := by
    rw [List.getD_eq_getElem?_getD, List.getElem?_eq_getElem hj]
    simp
  have h2 : ms.Perm (ms.getD j z28 :: (ms.take j ++ ms.drop (j + 1))) := by
    conv => lhs; rw [h]
    exact List.perm_middle
  exact h2.map T
theorem drop_lt (ms : List S28) (j : Nat) (hj : j < ms.length) (hd : (ms.map S28.f2).Nodup) (hb : ∀ t, t < ms.length → le (T (ms.getD j z28)) (T (ms.getD t z28))) : ∀ u ∈ (ms.take j ++ ms.drop (j + 1)).map T, lt (T (ms.getD j z28)) u = true := by
  intro u hu
  obtain ⟨s, hs, rfl⟩ := List.mem_map.1 hu
  have h : ms = ms.take j ++ ms.getD j z28 :: ms.drop (j + 1) := by
    rw [List.getD_eq_getElem?_getD, List.getElem?_eq_getElem hj]
    simp
  have hsm : s ∈ ms := by
    rcases List.mem_append.1 hs with q | q
    · exact List.mem_of_mem_take q
    · exact List.mem_of_mem_drop q
  obtain ⟨t, ht, hst⟩ := List.getElem_of_mem hsm
  have hle := hb t ht
  have e1 : ms.getD t z28 = s := by rw [List.getD_eq_getElem?_getD, List.getElem?_eq_getElem ht]; exact hst
  rw [e1, le_T] at hle
  have hne : (ms.getD j z28).f2 ≠ s.f2 := by
    rw [h, List.map_append, List.map_cons] at hd
    have hd2 := (List.perm_middle.nodup_iff).1 hd
    rw [← List.map_append] at hd2
    intro e
    exact (List.nodup_cons.1 hd2).1 (List.mem_map.2 ⟨s, hs, e.symm⟩)
  rw [lt_def]
  show (ms.getD j z28).f1 < s.f1 ∨ (ms.getD j z28).f1 = s.f1 ∧ (ms.getD j z28).f2 < s.f2
  omega
theorem drop_nodup (ms : List S28) (j : Nat) (hd : (ms.map S28.f2).Nodup) : ((ms.take j ++ ms.drop (j + 1)).map S28.f2).Nodup := by
  refine List.Nodup.sublist (List.Sublist.map _ ?_) hd
  conv => rhs; rw [← List.take_append_drop j ms]
  exact List.Sublist.append (List.Sublist.refl _) (by rw [← List.drop_drop]; exact List.drop_sublist 1 _)
end Go.Proofs.Ytpkhcmholpljnac.Q
