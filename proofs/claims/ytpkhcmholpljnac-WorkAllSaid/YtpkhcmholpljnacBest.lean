import Derived.Test.YtpkhcmholpljnacProg
import Derived.Below
import Derived.Deep.Draws
import Derived.Deep.AppendLies
import Derived.Maps.AppendAt
import Derived.OwnWalk
import Derived.Laws.BytesArg
import Derived.Laws.MakeOwn
import Derived.Laws.OwnMore
import Derived.Deep.OwnRows
import Derived.Tactics
import Derived.Lib.ConvBytes
import Derived.Laws.Slices
import Derived.WalkKit
import Derived.KernelRfl
import Derived.RowKit3
import Derived.Deep.LoopGhost
import Derived.Deep.QuietTactic
import Derived.BigQuiet
import Derived.WideLaws
import Derived.Deep.DeepCutAuto
import Derived.Deep.CutBlock
import Derived.Deep.RegionHeld3
import Derived.Laws.Rows
import Derived.Lib.AppendStr
import Derived.ArgAppend
import Derived.Laws.IdiomCopy
import Derived.OrdersHeld
import Derived.Laws.BitsLemmas
import Derived.RowKit
import Derived.Test.YtpkhcmholpljnacWWords
import Derived.Test.YtpkhcmholpljnacWLast
import Derived.Test.YtpkhcmholpljnacWTab
import Derived.Test.YtpkhcmholpljnacWFour
import Derived.Test.YtpkhcmholpljnacWQPut
import Derived.Test.YtpkhcmholpljnacWApart
import Derived.Test.YtpkhcmholpljnacWArr
import Derived.Test.YtpkhcmholpljnacWZeros
import Derived.Test.YtpkhcmholpljnacWFoot
import Derived.Test.YtpkhcmholpljnacWKept
import Derived.Test.YtpkhcmholpljnacWShare
import Derived.Test.YtpkhcmholpljnacWN
import Derived.Test.YtpkhcmholpljnacWFootNe
import Derived.Test.YtpkhcmholpljnacWAt
import Derived.Test.YtpkhcmholpljnacWEqStruct
import Derived.Test.YtpkhcmholpljnacWRepsOne
import Derived.Test.YtpkhcmholpljnacWInv
import Derived.Test.YtpkhcmholpljnacWInvWords
import Derived.Test.YtpkhcmholpljnacWGuard
import Derived.Test.YtpkhcmholpljnacWNEv
import Derived.Test.YtpkhcmholpljnacWMore
import Derived.RegionTactic
import Derived.ChangeAlike
import Derived.BigRegion
import Derived.Outline
import Derived.StillTailTactics
import Derived.Deep.RegionLaw
import Derived.WalkSpells
import Derived.Laws.EntriesVeiled
import Derived.Test.YtpkhcmholpljnacQueue10
import Derived.Test.YtpkhcmholpljnacPK1x
namespace Go.Proofs.Ytpkhcmholpljnac.Q
open Go Go.RowKit Go.Proofs.Ytpkhcmholpljnac.Heap Go.Proofs.YtpkhcmholpljnacW.PrintWords Go.Proofs.YtpkhcmholpljnacW.PrintLast Go.Proofs.YtpkhcmholpljnacW.PrintMore Go.Proofs.Ytpkhcmholpljnac.PK1
set_option linter.unusedVariables false
set_option linter.unusedSimpArgs false

def T (s : S28) : Th := (s.f1, s.f2, s.f0)
theorem rd28 (xs : List S28) (i : Nat) : rd_T28 xs (i : Int) = xs.getD i z28 := by unfold rd_T28; rw [Int.toNat_natCast]
def Best (xs : List S28) (b : Int) (i : Nat) : Prop := (i = 0 ∧ b = -1) ∨ ∃ j : Nat, b = (j : Int) ∧ j < i ∧ ∀ t, t < i → le (T (xs.getD j z28)) (T (xs.getD t z28))
theorem le_T (a b : S28) : le (T a) (T b) ↔ a.f1 < b.f1 ∨ (a.f1 = b.f1 ∧ a.f2 ≤ b.f2) := le_def _ _
theorem best_step (xs : List S28) (j i : Nat) (c : Bool) (hji : j < i) (hb : ∀ t, t < i → le (T (xs.getD j z28)) (T (xs.getD t z28))) (hc : c = true ↔ ¬ le (T (xs.getD j z28)) (T (xs.getD i z28))) : Best xs (if c then (i : Int) else (j : Int)) (i + 1) := by
  right
  cases c with
  | true =>
    refine ⟨i, rfl, by omega, fun t ht => ?_⟩
    have h1 := hc.1 rfl
    rw [le_T] at h1
    rcases Nat.lt_or_ge t i with h2 | h2
    · have h3 := hb t h2
      rw [le_T] at h3 ⊢
      omega
    · obtain rfl : t = i := by omega
      rw [le_T]; omega
  | false =>
    refine ⟨j, rfl, by omega, fun t ht => ?_⟩
    rcases Nat.lt_or_ge t i with h2 | h2
    · exact hb t h2
    · obtain rfl : t = i := by omega
      apply Classical.byContradiction
      intro h3
      have := hc.2 h3
      cases this
theorem l0_best (xs : List S28) (hl : xs.length ≤ 1000) : ∀ (n i : Nat) (b : Int) (fuel : Nat), xs.length = i + n → n < fuel → Best xs b i → ∃ r, withelaw4_pop.l0 fuel xs b (i : Int) = some r ∧ Best xs r xs.length := by
  intro n
  induction n with
  | zero =>
    intro i b fuel h1 h2 hb
    obtain ⟨f, rfl⟩ : ∃ f, fuel = f + 1 := ⟨fuel - 1, by omega⟩
    refine ⟨b, ?_, by rw [h1]; exact hb⟩
    show (if (i : Int) < (xs.length : Int) then _ else some b) = some b
    rw [if_neg (by omega)]
  | succ n ih =>
    intro i b fuel h1 h2 hb
    obtain ⟨f, rfl⟩ : ∃ f, fuel = f + 1 := ⟨fuel - 1, by omega⟩
    have hw : wrap64 ((i : Int) + 1) = ((i + 1 : Nat) : Int) := by unfold wrap64; omega
    simp only [withelaw4_pop.l0]
    rw [if_pos (show (i : Int) < (xs.length : Int) by omega), hw]
    rcases hb with ⟨rfl, rfl⟩ | ⟨j, rfl, hj, hb⟩
    · rw [if_pos (by omega)]
      refine ih 1 ((0 : Nat) : Int) f (by omega) (by omega) (.inr ⟨0, rfl, by omega, fun t ht => ?_⟩)
      obtain rfl : t = 0 := by omega
      rw [le_T]; omega
    · rw [if_neg (by omega), if_pos (by omega), if_pos (by omega), if_pos (by omega), rd28, rd28]
      have key := best_step xs j i
      by_cases c1 : (xs.getD i z28).f1 < (xs.getD j z28).f1
      · rw [if_pos c1]
        exact ih (i + 1) _ f (by omega) (by omega) (by simpa using key true hj hb ⟨fun _ => by rw [le_T]; omega, fun _ => rfl⟩)
      · rw [if_neg c1]
        by_cases c2 : (xs.getD i z28).f1 = (xs.getD j z28).f1
        · rw [if_pos c2]
          by_cases c3 : (xs.getD i z28).f2 < (xs.getD j z28).f2
          · rw [if_pos c3]
            exact ih (i + 1) _ f (by omega) (by omega) (by simpa using key true hj hb ⟨fun _ => by rw [le_T]; omega, fun _ => rfl⟩)
          · rw [if_neg c3]
            exact ih (i + 1) _ f (by omega) (by omega) (by simpa using key false hj hb ⟨(fun h => by cases h), fun h => absurd (by rw [le_T]; omega) h⟩)
        · rw [if_neg c2]
          exact ih (i + 1) _ f (by omega) (by omega) (by simpa using key false hj hb ⟨(fun h => by cases h), fun h => absurd (by rw [le_T]; omega) h⟩)
theorem pop_best (w : World) (A : Option Addr) (c : Nat) (l : List S28) (hC : Kd.C k28 w A l.length l) (hc : l.length ≤ c) (hl : l.length ≤ 1000) :
    Calls Try.prog 10 #[.slice A l.length c] w fun e w' => ∃ r, e = .returned (.int .i64 r) ∧ Best l r l.length ∧ Drawn0 w w' := by
  obtain ⟨r, h1, h2⟩ := l0_best l hl l.length 0 (-1) (l.length + 1) (by omega) (by omega) (.inl ⟨rfl, rfl⟩)
  exact (withelaw4_pop.calls (l.length + 1) A c l r w hC hc h1).mono fun e w' ⟨h3, h4⟩ => ⟨r, h3, h2, h4⟩
end Go.Proofs.Ytpkhcmholpljnac.Q
