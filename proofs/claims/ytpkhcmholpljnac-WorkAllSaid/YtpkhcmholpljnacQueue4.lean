/- A text of a claim (ours): the heap's down; conditions: none of ours. -/
import Derived.Test.YtpkhcmholpljnacProg
import Derived.Below
import Derived.Deep.Draws
import Derived.Deep.AppendLies
import Derived.Maps.AppendAt
import Derived.OwnWalk
import Derived.Laws.BytesArg
import Derived.Laws.MakeOwn
import Derived.Laws.OwnMore
import Derived.Deep.OwnRows
import Derived.Tactics
import Derived.Lib.ConvBytes
import Derived.Laws.Slices
import Derived.WalkKit
import Derived.KernelRfl
import Derived.RowKit3
import Derived.Deep.LoopGhost
import Derived.Deep.QuietTactic
import Derived.BigQuiet
import Derived.WideLaws
import Derived.Deep.DeepCutAuto
import Derived.Deep.CutBlock
import Derived.Deep.RegionHeld3
import Derived.Laws.Rows
import Derived.Lib.AppendStr
import Derived.ArgAppend
import Derived.Laws.IdiomCopy
import Derived.OrdersHeld
import Derived.Laws.BitsLemmas
import Derived.RowKit
import Derived.Test.YtpkhcmholpljnacWWords
import Derived.Test.YtpkhcmholpljnacWLast
import Derived.Test.YtpkhcmholpljnacWTab
import Derived.Test.YtpkhcmholpljnacWFour
import Derived.Test.YtpkhcmholpljnacWQPut
import Derived.Test.YtpkhcmholpljnacWApart
import Derived.Test.YtpkhcmholpljnacWArr
import Derived.Test.YtpkhcmholpljnacWZeros
import Derived.Test.YtpkhcmholpljnacWFoot
import Derived.Test.YtpkhcmholpljnacWKept
import Derived.Test.YtpkhcmholpljnacWShare
import Derived.Test.YtpkhcmholpljnacWN
import Derived.Test.YtpkhcmholpljnacWFootNe
import Derived.Test.YtpkhcmholpljnacWAt
import Derived.Test.YtpkhcmholpljnacWEqStruct
import Derived.Test.YtpkhcmholpljnacWRepsOne
import Derived.Test.YtpkhcmholpljnacWInv
import Derived.Test.YtpkhcmholpljnacWInvWords
import Derived.Test.YtpkhcmholpljnacWGuard
import Derived.Test.YtpkhcmholpljnacWNEv
import Derived.Test.YtpkhcmholpljnacWMore
import Derived.RegionTactic
import Derived.ChangeAlike
import Derived.BigRegion
import Derived.StillTailTactics
import Derived.Deep.RegionLaw
import Derived.Test.YtpkhcmholpljnacQueue3
namespace Go.Proofs.Ytpkhcmholpljnac.Q
open Go Go.RowKit Go.Proofs.Ytpkhcmholpljnac.Heap Go.Proofs.YtpkhcmholpljnacW.PrintWords Go.Proofs.YtpkhcmholpljnacW.PrintLast Go.Proofs.YtpkhcmholpljnacW.PrintMore
set_option linter.unusedVariables false
set_option linter.unusedSimpArgs false
set_option maxHeartbeats 16000000 in
set_option maxRecDepth 100000 in
theorem down (W : World) (base q : Nat) (F : Nat → Prop) (xs : List Th) (n : Nat) (h : QI W base F q xs) (hn : xs.length ≤ 1000) (hnl : n ≤ xs.length) (hi : DownInv xs n 0) :
    Calls Try.prog 21 #[.iface 45 (.pointer (some ⟨q, 0, none⟩)), .int .i64 0, .int .i64 n] W fun e W' => ∃ b : Bool, Heaped W base q F xs n (.bool b) e W' := by
  have m1 := fun w => m_less ⟨q, 0, none⟩ w
  have m2 := fun w => m_swap ⟨q, 0, none⟩ w
  have hn1 : (n : Int) ≤ 1000 := by omega
  have HS := Aside0.mk (And.intro hi (And.intro (Rd.mk (n := n) h (List.Perm.refl _) rfl (fun _ _ _ => rfl) (Chg.refl F W)) (Nat.zero_le n)))
  clear h hi
  go_enter Try.func21, Try.ntmps21
  go_wp2
  go_loopw [7] (fun v7 wr => ∃ (i1 : Nat) (ys : List Th), v7 = .int .i64 i1 ∧ Aside0 (DownInv ys n i1 ∧ Rd W wr base q F xs ys n ∧ i1 ≤ n)) (fun v7 _ => n - (intOf v7).toNat)
  case atStart => exact ⟨0, xs, rfl, HS⟩
  case round =>
    clear HS
    obtain ⟨i1, ys, rfl, HR'⟩ := hrel
    have HR := Aside0.mk (And.intro HR'.out.1 HR'.out.2.1)
    have hi1 : (i1 : Int) ≤ 1000 := by have := HR'.out.2.2; omega
    clear HR'
    obtain ⟨a, ha⟩ : ∃ a, a = 2 * i1 + 1 := ⟨_, rfl⟩
    obtain ⟨b, hb⟩ : ∃ b, b = 2 * i1 + 2 := ⟨_, rfl⟩
    have ea : 2 * (i1 : Int) + 1 = (a : Int) := by omega
    have eb : (a : Int) + 1 = (b : Int) := by omega
    have ha9 : (a : Int) ≤ 3000 := by omega
    have hb9 : (b : Int) ≤ 3000 := by omega
    have HE := Aside0.mk (And.intro ha hb)
    clear ha hb
    by_cases h1 : n ≤ a
    · have d1 : decide ((n : Int) ≤ (a : Int)) = true := decide_eq_true (by omega)
      have d2 : decide (n ≤ a) = true := decide_eq_true h1
      have H1 := Aside0.mk h1
      clear h1
      go_wp2
      go_ret
      exact ⟨_, rfl, ys, HR.out.2.qi, down_end0 ys n i1 HR.out.1 (by have := HE.out.1; have := H1.out; omega), HR.out.2.perm, HR.out.2.len, HR.out.2.top, HR.out.2.chg⟩
    · have d1 : decide ((n : Int) ≤ (a : Int)) = false := decide_eq_false (by omega)
      have d2 : decide (n ≤ a) = false := decide_eq_false h1
      by_cases h2 : b < n
      · have d3 : decide ((b : Int) < (n : Int)) = true := decide_eq_true (by omega)
        have d4 : decide (b < n) = true := decide_eq_true h2
        have HN := Aside0.mk (show i1 < n ∧ (a < n ∧ b < n) ∧ n ≤ xs.length by have := HE.out.1; omega)
        have HB := Aside0.mk (show i1 < xs.length ∧ a < xs.length ∧ b < xs.length by have := HE.out.1; omega)
        clear h1 h2
        by_cases hr1 : lt (g ys b) (g ys a) = true
        · have HR9 := Aside0.mk hr1
          have HK := Aside0.mk (show Kid ys n i1 b from by obtain ⟨ea', eb'⟩ := HE.out; have := HN.out.2.1.2; have h9 := HR9.out; subst ea' eb'; exact kid2 ys n i1 this h9)
          by_cases hl : lt (g ys b) (g ys i1) = true
          · go_wp2_with (first | ((with_reducible refine (less _ base q F ys HR.out.2.qi (by rw [HR.out.2.len]; exact hn) b a (by rw [HR.out.2.len]; exact HB.out.2.2) (by rw [HR.out.2.len]; exact HB.out.2.1)).mono ?_); rintro e w1 ⟨rfl, hb⟩; have HR1 := Aside0.mk (HR.out.2.below hb); clear hb) | ((with_reducible refine (less _ base q F ys HR1.out.qi (by rw [HR1.out.len]; exact hn) b i1 (by rw [HR1.out.len]; exact HB.out.2.2) (by rw [HR1.out.len]; exact HB.out.1)).mono ?_); rintro e w2 ⟨rfl, hb⟩; have HR2 := Aside0.mk (HR1.out.below hb); clear hb) | ((with_reducible refine (swapped _ base q F ys HR2.out.qi (by rw [HR2.out.len]; exact hn) i1 b (by rw [HR2.out.len]; exact HB.out.1) (by rw [HR2.out.len]; exact HB.out.2.2)).mono ?_); rintro e w3 ⟨rfl, hq3, hc3⟩; have HR3 := Aside0.mk (HR2.out.swap hq3 hc3 HN.out.1 HN.out.2.1.2 HN.out.2.2); clear hq3 hc3))
            refine ⟨⟨b, swap ys i1 b, rfl, ⟨⟨down_step ys n i1 b HR.out.1 HK.out hl, HR3.out, ?_⟩⟩⟩, ?_⟩
            · exact Nat.le_of_lt HN.out.2.1.2
            · have h7 := HE.out.1; have h8 := HE.out.2; have := HN.out.1; simp [intOf]; omega
          · replace hl := Bool.eq_false_iff.2 hl
            go_wp2_with (first | ((with_reducible refine (less _ base q F ys HR.out.2.qi (by rw [HR.out.2.len]; exact hn) b a (by rw [HR.out.2.len]; exact HB.out.2.2) (by rw [HR.out.2.len]; exact HB.out.2.1)).mono ?_); rintro e w1 ⟨rfl, hb⟩; have HR1 := Aside0.mk (HR.out.2.below hb); clear hb) | ((with_reducible refine (less _ base q F ys HR1.out.qi (by rw [HR1.out.len]; exact hn) b i1 (by rw [HR1.out.len]; exact HB.out.2.2) (by rw [HR1.out.len]; exact HB.out.1)).mono ?_); rintro e w2 ⟨rfl, hb⟩; have HR2 := Aside0.mk (HR1.out.below hb); clear hb))
            go_ret
            exact ⟨_, rfl, ys, HR2.out.qi, down_end ys n i1 b HR.out.1 HK.out hl, HR2.out.perm, HR2.out.len, HR2.out.top, HR2.out.chg⟩
        · replace hr1 := Bool.eq_false_iff.2 hr1
          have HR9 := Aside0.mk hr1
          have HK := Aside0.mk (show Kid ys n i1 a from by obtain ⟨ea', eb'⟩ := HE.out; have := HN.out.2.1.1; have h9 := HR9.out; subst ea' eb'; exact kid1 ys n i1 this (.inr h9))
          by_cases hl : lt (g ys a) (g ys i1) = true
          · go_wp2_with (first | ((with_reducible refine (less _ base q F ys HR.out.2.qi (by rw [HR.out.2.len]; exact hn) b a (by rw [HR.out.2.len]; exact HB.out.2.2) (by rw [HR.out.2.len]; exact HB.out.2.1)).mono ?_); rintro e w1 ⟨rfl, hb⟩; have HR1 := Aside0.mk (HR.out.2.below hb); clear hb) | ((with_reducible refine (less _ base q F ys HR1.out.qi (by rw [HR1.out.len]; exact hn) a i1 (by rw [HR1.out.len]; exact HB.out.2.1) (by rw [HR1.out.len]; exact HB.out.1)).mono ?_); rintro e w2 ⟨rfl, hb⟩; have HR2 := Aside0.mk (HR1.out.below hb); clear hb) | ((with_reducible refine (swapped _ base q F ys HR2.out.qi (by rw [HR2.out.len]; exact hn) i1 a (by rw [HR2.out.len]; exact HB.out.1) (by rw [HR2.out.len]; exact HB.out.2.1)).mono ?_); rintro e w3 ⟨rfl, hq3, hc3⟩; have HR3 := Aside0.mk (HR2.out.swap hq3 hc3 HN.out.1 HN.out.2.1.1 HN.out.2.2); clear hq3 hc3))
            refine ⟨⟨a, swap ys i1 a, rfl, ⟨⟨down_step ys n i1 a HR.out.1 HK.out hl, HR3.out, ?_⟩⟩⟩, ?_⟩
            · exact Nat.le_of_lt HN.out.2.1.1
            · have h7 := HE.out.1; have h8 := HE.out.2; have := HN.out.1; simp [intOf]; omega
          · replace hl := Bool.eq_false_iff.2 hl
            go_wp2_with (first | ((with_reducible refine (less _ base q F ys HR.out.2.qi (by rw [HR.out.2.len]; exact hn) b a (by rw [HR.out.2.len]; exact HB.out.2.2) (by rw [HR.out.2.len]; exact HB.out.2.1)).mono ?_); rintro e w1 ⟨rfl, hb⟩; have HR1 := Aside0.mk (HR.out.2.below hb); clear hb) | ((with_reducible refine (less _ base q F ys HR1.out.qi (by rw [HR1.out.len]; exact hn) a i1 (by rw [HR1.out.len]; exact HB.out.2.1) (by rw [HR1.out.len]; exact HB.out.1)).mono ?_); rintro e w2 ⟨rfl, hb⟩; have HR2 := Aside0.mk (HR1.out.below hb); clear hb))
            go_ret
            exact ⟨_, rfl, ys, HR2.out.qi, down_end ys n i1 a HR.out.1 HK.out hl, HR2.out.perm, HR2.out.len, HR2.out.top, HR2.out.chg⟩
      · have d3 : decide ((b : Int) < (n : Int)) = false := decide_eq_false (by omega)
        have d4 : decide (b < n) = false := decide_eq_false h2
        have HN := Aside0.mk (show i1 < n ∧ (a < n ∧ True) ∧ n ≤ xs.length from ⟨by have := HE.out.1; omega, ⟨by omega, trivial⟩, hnl⟩)
        have HB := Aside0.mk (show i1 < xs.length ∧ a < xs.length by have := HE.out.1; omega)
        have H2 := Aside0.mk h2
        clear h1 h2
        have HK := Aside0.mk (show Kid ys n i1 a from by obtain ⟨ea', eb'⟩ := HE.out; have := HN.out.2.1.1; have h9 := H2.out; subst ea' eb'; exact kid1 ys n i1 this (.inl (Nat.le_of_not_lt h9)))
        by_cases hl : lt (g ys a) (g ys i1) = true
        · go_wp2_with (first | ((with_reducible refine (less _ base q F ys HR.out.2.qi (by rw [HR.out.2.len]; exact hn) a i1 (by rw [HR.out.2.len]; exact HB.out.2) (by rw [HR.out.2.len]; exact HB.out.1)).mono ?_); rintro e w2 ⟨rfl, hb⟩; have HR2 := Aside0.mk (HR.out.2.below hb); clear hb) | ((with_reducible refine (swapped _ base q F ys HR2.out.qi (by rw [HR2.out.len]; exact hn) i1 a (by rw [HR2.out.len]; exact HB.out.1) (by rw [HR2.out.len]; exact HB.out.2)).mono ?_); rintro e w3 ⟨rfl, hq3, hc3⟩; have HR3 := Aside0.mk (HR2.out.swap hq3 hc3 HN.out.1 HN.out.2.1.1 HN.out.2.2); clear hq3 hc3))
          refine ⟨⟨a, swap ys i1 a, rfl, ⟨⟨down_step ys n i1 a HR.out.1 HK.out hl, HR3.out, ?_⟩⟩⟩, ?_⟩
          · exact Nat.le_of_lt HN.out.2.1.1
          · have h7 := HE.out.1; have h8 := HE.out.2; have := HN.out.1; simp [intOf]; omega
        · replace hl := Bool.eq_false_iff.2 hl
          go_wp2_with (first | ((with_reducible refine (less _ base q F ys HR.out.2.qi (by rw [HR.out.2.len]; exact hn) a i1 (by rw [HR.out.2.len]; exact HB.out.2) (by rw [HR.out.2.len]; exact HB.out.1)).mono ?_); rintro e w2 ⟨rfl, hb⟩; have HR2 := Aside0.mk (HR.out.2.below hb); clear hb))
          go_ret
          exact ⟨_, rfl, ys, HR2.out.qi, down_end ys n i1 a HR.out.1 HK.out hl, HR2.out.perm, HR2.out.len, HR2.out.top, HR2.out.chg⟩
end Go.Proofs.Ytpkhcmholpljnac.Q
