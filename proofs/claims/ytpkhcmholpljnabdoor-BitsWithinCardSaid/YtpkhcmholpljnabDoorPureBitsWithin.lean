import Derived.Test.YtpkhcmholpljnabDoorPureBits
namespace Go.Proofs.YtpkhcmholpljnabDoor.Pure
set_option linter.unusedSimpArgs false
open Go Go.RowKit Go.Proofs.YtpkhcmholpljnabDoor.PB1 Go.Proofs.YtpkhcmholpljnabDoor.PureBits Go.Proofs.YtpkhcmholpljnabDoorW.PrintWords Go.Proofs.YtpkhcmholpljnabDoorW.PrintLast
theorem pop_mono (f : Nat) : ∀ a b : Nat, Lib.popAux f (a &&& b) ≤ Lib.popAux f b := by
  induction f with
  | zero => intros; exact Nat.le_refl _
  | succ f ih =>
    intro a b
    simp only [Lib.popAux]
    have h := ih (a / 2) (b / 2)
    rw [Nat.and_div_two]
    have h1 : (a &&& b) % 2 ≤ b % 2 := by
      have e2 : (a &&& b) % 2 = (a % 2) &&& (b % 2) := by
        have := Nat.and_mod_two_pow (a := a) (b := b) (n := 1); simpa using this
      rw [e2]; exact Nat.and_le_right
    omega
theorem u64_of_wf {a : Int} (h : (Lit.int .u64 a).wf = true) : ∃ n : Nat, a = (n : Int) ∧ n < 18446744073709551616 := by
  simp only [Lit.wf, Bool.and_eq_true, decide_eq_true_eq] at h
  have m1 : IntKind.u64.min = 0 := by decide
  have m2 : IntKind.u64.max = 18446744073709551615 := by decide
  rw [m1, m2] at h
  exact ⟨a.toNat, by omega, by omega⟩
theorem BitsWithin : withelaw1_BitsWithin.Pure := by
  intro a0 a1 a2 w0 w1 w2
  obtain ⟨x, rfl, hx⟩ := u64_of_wf w0
  obtain ⟨y, rfl, hy⟩ := u64_of_wf w1
  obtain ⟨z, rfl, hz⟩ := u64_of_wf w2
  refine ⟨8, ?_⟩
  have ha : x &&& y < 18446744073709551616 := Nat.lt_of_le_of_lt Nat.and_le_left hx
  have ho : x ||| y < 18446744073709551616 := Nat.or_lt_two_pow (n := 64) hx hy
  have E1 : bits .and .u64 (x : Int) (y : Int) = ((x &&& y : Nat) : Int) := bits_and_u64_nat x y hx hy
  have E2 : bits .or .u64 (x : Int) (y : Int) = ((x ||| y : Nat) : Int) := bits_or_u64_nat x y hx hy
  have W1 : bits_Within.f ((x &&& y : Nat) : Int) (x : Int) = some true := by
    rw [within _ _ ha hx]
    have : x &&& y &&& x = x &&& y := by
      apply Nat.eq_of_testBit_eq; intro i; simp only [Nat.testBit_and]; cases x.testBit i <;> cases y.testBit i <;> rfl
    simp [this]
  have W2 : bits_Within.f (x : Int) ((x ||| y : Nat) : Int) = some true := by
    rw [within _ _ hx ho]
    have : x &&& (x ||| y) = x := by
      apply Nat.eq_of_testBit_eq; intro i; simp only [Nat.testBit_and, Nat.testBit_or]; cases x.testBit i <;> simp
    simp [this]
  have P := pop_incl 64 x y
  have PS : ((wrap64 (((Lib.onesCount x : Nat) : Int) + ((Lib.onesCount y : Nat) : Int))) == (wrap64 (((Lib.onesCount (x ||| y) : Nat) : Int) + ((Lib.onesCount (x &&& y) : Nat) : Int)))) = true := by
    have : ((Lib.onesCount x : Nat) : Int) + ((Lib.onesCount y : Nat) : Int) = ((Lib.onesCount (x ||| y) : Nat) : Int) + ((Lib.onesCount (x &&& y) : Nat) : Int) := by
      unfold Lib.onesCount; omega
    rw [this]; exact beq_self_eq_true _
  have Cx := count x hx
  have Cy := count y hy
  have Co := count _ ho
  have Ca := count _ ha
  unfold withelaw1_BitsWithin.f
  rw [PureBits.begun, E1, E2]
  simp only [Option.bind_some, if_true, reduceIte, W1, W2]
  rw [within x y hx hy]
  by_cases c : x &&& y = x
  · have hm : ((Lib.onesCount x : Nat) : Int) ≤ ((Lib.onesCount y : Nat) : Int) := by
      have := pop_mono 64 x y
      rw [c] at this
      exact Int.ofNat_le.2 this
    have e : ((decide (y &&& x = y)) != ((x : Int) == (y : Int))) = false := by
      by_cases q : x = y
      · subst q; simp
      · have : ¬ y &&& x = y := fun h => q (by rw [Nat.and_comm] at h; exact c.symm.trans h)
        have q' : ¬ (x : Int) = (y : Int) := fun h => q (Int.ofNat.inj h)
        simp [this, q']
    simp only [c, decide_true, if_true, Option.bind_some]
    rw [within y x hy hx]
    simp only [Option.bind_some]
    rw [e]
    rw [withelaw1_BitsWithin.j0]
    simp only [Bool.false_eq_true, if_false]
    rw [within x y hx hy, within y z hy hz, within x z hx hz, Cx, Cy, E2, Co]
    rw [c] at Ca PS
    simp only [c, decide_true, if_true, Option.bind_some, Bool.false_eq_true, if_false, Ca, hm, PS]
    by_cases d : y &&& z = y
    · have t : x &&& z = x := by
        rw [← c, Nat.and_assoc, d]
      simp [d, t]
    · simp [d]
  · simp only [c, decide_false, if_false, Option.bind_some, Bool.false_eq_true]
    rw [withelaw1_BitsWithin.j0]
    simp only [Bool.false_eq_true, if_false]
    rw [within x y hx hy, Cx, Cy, E2, Co]
    simp only [c, decide_false, if_false, Option.bind_some, Bool.false_eq_true, Ca, PS]
end Go.Proofs.YtpkhcmholpljnabDoor.Pure
