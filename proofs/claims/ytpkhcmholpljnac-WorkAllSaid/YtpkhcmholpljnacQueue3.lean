/- A text of a claim (ours): the heap's up; conditions: none of ours. -/
import Derived.Test.YtpkhcmholpljnacProg
import Derived.Below
import Derived.Deep.Draws
import Derived.Deep.AppendLies
import Derived.Maps.AppendAt
import Derived.OwnWalk
import Derived.Laws.BytesArg
import Derived.Laws.MakeOwn
import Derived.Laws.OwnMore
import Derived.Deep.OwnRows
import Derived.Tactics
import Derived.Lib.ConvBytes
import Derived.Laws.Slices
import Derived.WalkKit
import Derived.KernelRfl
import Derived.RowKit3
import Derived.Deep.LoopGhost
import Derived.Deep.QuietTactic
import Derived.BigQuiet
import Derived.WideLaws
import Derived.Deep.DeepCutAuto
import Derived.Deep.CutBlock
import Derived.Deep.RegionHeld3
import Derived.Laws.Rows
import Derived.Lib.AppendStr
import Derived.ArgAppend
import Derived.Laws.IdiomCopy
import Derived.OrdersHeld
import Derived.Laws.BitsLemmas
import Derived.RowKit
import Derived.Test.YtpkhcmholpljnacWWords
import Derived.Test.YtpkhcmholpljnacWLast
import Derived.Test.YtpkhcmholpljnacWTab
import Derived.Test.YtpkhcmholpljnacWFour
import Derived.Test.YtpkhcmholpljnacWQPut
import Derived.Test.YtpkhcmholpljnacWApart
import Derived.Test.YtpkhcmholpljnacWArr
import Derived.Test.YtpkhcmholpljnacWZeros
import Derived.Test.YtpkhcmholpljnacWFoot
import Derived.Test.YtpkhcmholpljnacWKept
import Derived.Test.YtpkhcmholpljnacWShare
import Derived.Test.YtpkhcmholpljnacWN
import Derived.Test.YtpkhcmholpljnacWFootNe
import Derived.Test.YtpkhcmholpljnacWAt
import Derived.Test.YtpkhcmholpljnacWEqStruct
import Derived.Test.YtpkhcmholpljnacWRepsOne
import Derived.Test.YtpkhcmholpljnacWInv
import Derived.Test.YtpkhcmholpljnacWInvWords
import Derived.Test.YtpkhcmholpljnacWGuard
import Derived.Test.YtpkhcmholpljnacWNEv
import Derived.Test.YtpkhcmholpljnacWMore
import Derived.RegionTactic
import Derived.ChangeAlike
import Derived.BigRegion
import Derived.StillTailTactics
import Derived.Deep.RegionLaw
import Derived.Test.YtpkhcmholpljnacQueue2
namespace Go.Proofs.Ytpkhcmholpljnac.Q
open Go Go.RowKit Go.Proofs.Ytpkhcmholpljnac.Heap Go.Proofs.YtpkhcmholpljnacW.PrintWords Go.Proofs.YtpkhcmholpljnacW.PrintLast Go.Proofs.YtpkhcmholpljnacW.PrintMore
set_option linter.unusedVariables false
set_option linter.unusedSimpArgs false

def Heaped (W : World) (base q : Nat) (F : Nat → Prop) (xs : List Th) (n : Nat) (r : Value) (e : Ending) (W' : World) : Prop :=
  e = .returned r ∧ ∃ ys, QI W' base F q ys ∧ Ok ys n ∧ ys.Perm xs ∧ ys.length = xs.length ∧ (∀ k, n ≤ k → k < xs.length → g ys k = g xs k) ∧ Chg F W W'
/-- A round's state. -/
structure Rd (W0 wr : World) (base q : Nat) (F : Nat → Prop) (xs ys : List Th) (n : Nat) : Prop where
  qi : QI wr base F q ys
  perm : ys.Perm xs
  len : ys.length = xs.length
  top : ∀ k, n ≤ k → k < xs.length → g ys k = g xs k
  chg : Chg F W0 wr
theorem Rd.below {W0 wr w1 : World} {base q n : Nat} {F : Nat → Prop} {xs ys : List Th} (h : Rd W0 wr base q F xs ys n) (hb : Below wr.heap.size wr w1) : Rd W0 w1 base q F xs ys n :=
  ⟨h.qi.below hb, h.perm, h.len, h.top, h.chg.step (Chg.of_below hb)⟩
theorem Rd.swap {W0 wr w1 : World} {base q n i j : Nat} {F : Nat → Prop} {xs ys : List Th} (h : Rd W0 wr base q F xs ys n) (hq : QI w1 base F q (swap ys i j)) (hc : Chg F wr w1) (hi : i < n) (hj : j < n) (hn : n ≤ xs.length) : Rd W0 w1 base q F xs (swap ys i j) n :=
  ⟨hq, (swap_perm ys i j (by rw [h.len]; omega) (by rw [h.len]; omega)).trans h.perm, by rw [swap_len]; exact h.len, fun k h1 h2 => by
    rw [g_swap ys i j k (by rw [h.len]; omega) (by rw [h.len]; omega), if_neg (by omega), if_neg (by omega)]; exact h.top k h1 h2, h.chg.step hc⟩
set_option maxHeartbeats 4000000 in
set_option maxRecDepth 100000 in
theorem up (W : World) (base q : Nat) (F : Nat → Prop) (xs : List Th) (j : Nat) (h : QI W base F q xs) (hn : xs.length ≤ 1000) (hi : UpInv xs xs.length j) :
    Calls Try.prog 20 #[.iface 45 (.pointer (some ⟨q, 0, none⟩)), .int .i64 j] W (Heaped W base q F xs xs.length (.tuple #[])) := by
  have m1 := fun w => m_less ⟨q, 0, none⟩ w
  have m2 := fun w => m_swap ⟨q, 0, none⟩ w
  have HS := Aside0.mk (And.intro hi (Rd.mk (n := xs.length) h (List.Perm.refl _) rfl (fun _ _ _ => rfl) (Chg.refl F W)))
  clear h hi
  go_enter Try.func20, Try.ntmps20
  go_wp2
  go_loopw [1] (fun v1 wr => ∃ (j1 : Nat) (ys : List Th), v1 = .int .i64 j1 ∧ Aside0 (UpInv ys xs.length j1 ∧ Rd W wr base q F xs ys xs.length)) (fun v1 _ => (intOf v1).toNat)
  case atStart => exact ⟨j, xs, rfl, HS⟩
  case round =>
    clear HS
    obtain ⟨j1, ys, rfl, HR⟩ := hrel
    have hj := HR.out.1.1
    by_cases h0 : j1 = 0
    · subst h0
      go_wp2
      go_end0
      exact ⟨rfl, ys, HR.out.2.qi, up_end0 ys _ HR.out.1, HR.out.2.perm, HR.out.2.len, HR.out.2.top, HR.out.2.chg⟩
    · obtain ⟨p, hp⟩ : ∃ p, p = (j1 - 1) / 2 := ⟨_, rfl⟩
      have ep : ((j1 : Int) - 1) / 2 = (p : Int) := by omega
      have lo : (1 : Int) ≤ (j1 : Int) := by omega
      have hi2 : (j1 : Int) ≤ 1000 := by omega
      have ne1 : ((p : Int) == (j1 : Int)) = false := by rw [beq_eq_false_iff_ne]; omega
      have hpj : p < xs.length := by omega
      have HP := Aside0.mk hp
      have HN := Aside0.mk (And.intro h0 (And.intro hj hpj))
      clear hp h0 hj hpj
      by_cases hl : lt (g ys j1) (g ys p) = true
      · go_wp2_with (first | (refine (less _ base q F ys HR.out.2.qi (by rw [HR.out.2.len]; exact hn) j1 p (by rw [HR.out.2.len]; exact HN.out.2.1) (by rw [HR.out.2.len]; exact HN.out.2.2)).mono ?_; rintro e w1 ⟨rfl, hb⟩; have HR1 := Aside0.mk (HR.out.2.below hb); clear hb) | (refine (swapped _ base q F ys HR1.out.qi (by rw [HR1.out.len]; exact hn) p j1 (by rw [HR1.out.len]; exact HN.out.2.2) (by rw [HR1.out.len]; exact HN.out.2.1)).mono ?_; rintro e w2 ⟨rfl, hq2, hc2⟩; have HR2 := Aside0.mk (HR1.out.swap hq2 hc2 HN.out.2.2 HN.out.2.1 (Nat.le_refl _)); clear hq2 hc2))
        refine ⟨⟨p, swap ys p j1, rfl, ⟨⟨?_, HR2.out⟩⟩⟩, ?_⟩
        · have hpo := HP.out
          subst hpo
          exact up_step ys _ j1 HR.out.1 (by have := HN.out.1; omega) hl
        · have := HP.out
          have := HN.out.1
          simp [intOf]; omega
      · replace hl := Bool.eq_false_iff.2 hl
        go_wp2_with (first | (refine (less _ base q F ys HR.out.2.qi (by rw [HR.out.2.len]; exact hn) j1 p (by rw [HR.out.2.len]; exact HN.out.2.1) (by rw [HR.out.2.len]; exact HN.out.2.2)).mono ?_; rintro e w1 ⟨rfl, hb⟩; have HR1 := Aside0.mk (HR.out.2.below hb); clear hb))
        go_end0
        exact ⟨rfl, ys, HR1.out.qi, up_end ys _ j1 HR.out.1 (by rw [← HP.out]; exact hl), HR1.out.perm, HR1.out.len, HR1.out.top, HR1.out.chg⟩
end Go.Proofs.Ytpkhcmholpljnac.Q
