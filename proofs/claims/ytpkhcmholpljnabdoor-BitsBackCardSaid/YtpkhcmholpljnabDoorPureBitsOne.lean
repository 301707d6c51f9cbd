/- A text of a claim (ours), the plain law: a number that is put is there, one that is dropped is not, no other one is touched; conditions: none. -/
import Derived.Test.YtpkhcmholpljnabDoorPureBits
namespace Go.Proofs.YtpkhcmholpljnabDoor.Pure
set_option linter.unusedSimpArgs false
open Go Go.RowKit Go.Proofs.YtpkhcmholpljnabDoor.PB1 Go.Proofs.YtpkhcmholpljnabDoor.PureBits Go.Proofs.YtpkhcmholpljnabDoorW.PrintWords Go.Proofs.YtpkhcmholpljnabDoorW.PrintLast
namespace One
theorem u64_of_wf {a : Int} (h : (Lit.int .u64 a).wf = true) : ∃ n : Nat, a = (n : Int) ∧ n < 18446744073709551616 := by
  simp only [Lit.wf, Bool.and_eq_true, decide_eq_true_eq] at h
  have m1 : IntKind.u64.min = 0 := by decide
  have m2 : IntKind.u64.max = 18446744073709551615 := by decide
  rw [m1, m2] at h
  exact ⟨a.toNat, by omega, by omega⟩
theorem u8_of_wf {a : Int} (h : (Lit.int .u8 a).wf = true) : ∃ n : Nat, a = (n : Int) ∧ n < 256 := by
  simp only [Lit.wf, Bool.and_eq_true, decide_eq_true_eq] at h
  have m1 : IntKind.u8.min = 0 := by decide
  have m2 : IntKind.u8.max = 255 := by decide
  rw [m1, m2] at h
  exact ⟨a.toNat, by omega, by omega⟩
theorem one_fin : ∀ n : Fin 64, shl .u64 1 (n.1 : Int) = ((2 ^ n.1 : Nat) : Int) := by decide +kernel
theorem two_lt : ∀ n : Fin 64, 2 ^ n.1 < 18446744073709551616 := by decide +kernel
theorem pop_two : ∀ n : Fin 64, Lib.onesCount (2 ^ n.1) = 1 := by decide +kernel
theorem one (n : Nat) (h : n < 64) : bits_one.f (n : Int) = some ((2 ^ n : Nat) : Int) := by
  unfold bits_one.f
  rw [if_neg (by omega), if_neg (by omega), if_pos (by omega), one_fin ⟨n, h⟩]
theorem and_pow (s n : Nat) : s &&& 2 ^ n = if s.testBit n then 2 ^ n else 0 := by
  apply Nat.eq_of_testBit_eq; intro i
  rw [Nat.testBit_and, Nat.testBit_two_pow]
  by_cases e : n = i
  · subst e; cases h : s.testBit n <;> simp [h, Nat.testBit_two_pow]
  · cases h : s.testBit n <;> simp [h, e, Nat.testBit_two_pow]
theorem has (s n : Nat) (hs : s < 18446744073709551616) (h : n < 64) : bits_Has.f (s : Int) (n : Int) = some (s.testBit n) := by
  unfold bits_Has.f
  rw [one n h]
  simp only [Option.bind_some]
  rw [bits_and_u64_nat s (2 ^ n) hs (two_lt ⟨n, h⟩)]
  congr 1
  rw [and_pow]
  cases s.testBit n
  · simp
  · have h1 : 0 < 2 ^ n := Nat.two_pow_pos n
    rw [if_pos rfl]
    have h2 : ((2 ^ n : Nat) : Int) ≠ 0 := by generalize 2 ^ n = q at h1; omega
    exact bne_iff_ne.2 h2
theorem put (s n : Nat) (hs : s < 18446744073709551616) (h : n < 64) : bits_Put.f (s : Int) (n : Int) = some ((s ||| 2 ^ n : Nat) : Int) := by
  unfold bits_Put.f
  rw [one n h]
  simp only [Option.bind_some]
  rw [bits_or_u64_nat s (2 ^ n) hs (two_lt ⟨n, h⟩)]
def dr (s n : Nat) : Nat := s &&& (18446744073709551615 - 2 ^ n)
theorem drop (s n : Nat) (hs : s < 18446744073709551616) (h : n < 64) : bits_Drop.f (s : Int) (n : Int) = some ((dr s n : Nat) : Int) := by
  unfold bits_Drop.f
  rw [one n h]
  simp only [Option.bind_some]
  rw [u64_andNot_nat s (2 ^ n) hs (two_lt ⟨n, h⟩)]
  rfl
theorem put_bit (s n i : Nat) : (s ||| 2 ^ n).testBit i = (s.testBit i || decide (n = i)) := by
  rw [Nat.testBit_or, Nat.testBit_two_pow]
theorem dr_bit (s n i : Nat) (hs : s < 18446744073709551616) (h : n < 64) : (dr s n).testBit i = (s.testBit i && !decide (n = i)) := by
  unfold dr
  have e : 18446744073709551615 - 2 ^ n = 2 ^ 64 - (2 ^ n + 1) := by omega
  rw [Nat.testBit_and, e, Nat.testBit_two_pow_sub_succ (two_lt ⟨n, h⟩), Nat.testBit_two_pow]
  by_cases hi : i < 64
  · simp [hi]
  · have h64 : (2 : Nat) ^ 64 ≤ 2 ^ i := Nat.pow_le_pow_right (by decide) (by omega)
    have : s.testBit i = false := Nat.testBit_lt_two_pow (Nat.lt_of_lt_of_le hs h64)
    simp [this]
theorem dr_lt (s n : Nat) (hs : s < 18446744073709551616) : dr s n < 18446744073709551616 := Nat.lt_of_le_of_lt Nat.and_le_left hs
theorem oc_incl (a b : Nat) : Lib.onesCount (a ||| b) + Lib.onesCount (a &&& b) = Lib.onesCount a + Lib.onesCount b := pop_incl 64 a b
theorem oc_zero : Lib.onesCount 0 = 0 := by decide +kernel
theorem oc_le (n : Nat) (h : n < 18446744073709551616) : Lib.onesCount n < 128 := by
  obtain ⟨y1, y2, y3, z1, z2, z3, _, _, _, _, _, _, _, _, _, _, _, _, _, hz⟩ := Pop.swar n h
  rw [← hz]; exact Nat.mod_lt _ (by decide)
theorem cnt (x n : Nat) (hx : x < 18446744073709551616) (hn : n < 64) (hp : x ||| 2 ^ n < 18446744073709551616) : wrap64 (((Lib.onesCount (dr x n) : Nat) : Int) + 1) = ((Lib.onesCount (x ||| 2 ^ n) : Nat) : Int) := by
  have P := oc_incl (dr x n) (2 ^ n)
  have e1 : dr x n ||| 2 ^ n = x ||| 2 ^ n := by
    apply Nat.eq_of_testBit_eq; intro i
    rw [put_bit, put_bit, dr_bit x n i hx hn]
    cases x.testBit i <;> by_cases q : n = i <;> simp [q]
  have e2 : dr x n &&& 2 ^ n = 0 := by
    rw [and_pow, dr_bit x n n hx hn]; simp
  have e3 : Lib.onesCount (2 ^ n) = 1 := pop_two ⟨n, hn⟩
  rw [e1, e2, e3, oc_zero] at P
  have lb := oc_le _ hp
  generalize Lib.onesCount (x ||| 2 ^ n) = a at P lb
  generalize Lib.onesCount (dr x n) = b at P
  clear e1 e2 e3 hp hx hn
  unfold wrap64
  omega
theorem or_lt64 (a b : Nat) (ha : a < 18446744073709551616) (hb : b < 18446744073709551616) : a ||| b < 18446744073709551616 := Nat.or_lt_two_pow (n := 64) ha hb
theorem tm (y : Nat) (hy : y < 256) : wrap64 (Int.tmod (y : Int) 64) = ((y % 64 : Nat) : Int) := by
  have : Int.tmod (y : Int) 64 = ((y % 64 : Nat) : Int) := by rw [Int.tmod_eq_emod_of_nonneg (by omega)]; omega
  rw [this]; exact w64_nat _ (by omega)
theorem J (k x p d n m : Nat) (hp : p < 18446744073709551616) (hx : x < 18446744073709551616) (hd : d < 18446744073709551616) (hm : m < 64) (hpb : n ≠ m → p.testBit m = x.testBit m) (hdb : n ≠ m → d.testBit m = x.testBit m) :
    withelaw1_BitsOne.j0 (k + 1) (x : Int) (n : Int) (m : Int) (p : Int) (d : Int) false = some true := by
  rw [withelaw1_BitsOne.j0]
  simp only [Bool.false_eq_true, if_false]
  by_cases q : n = m
  · subst q; simp
  · have q' : ¬ (n : Int) = (m : Int) := fun h => q (Int.ofNat.inj h)
    rw [if_neg q', has _ m hp hm, has _ m hx hm, has _ m hd hm]
    simp only [Option.bind_some]
    rw [hpb q, hdb q]
    simp
theorem t2 (cp cd p x d : Nat) (W : Int → Int) (C : W ((cd : Int) + 1) = cp) (F : Bool → Option Bool) (j : F false = some true) (hor : p = x ∨ d = x) :
  ((some true).bind fun t130 =>
      if t130 = true then
        (some false).bind fun t131 =>
          if t131 = true then F true
          else
            (some (cp : Int)).bind fun t132 =>
              (some (cd : Int)).bind fun t133 =>
                if t132 = W (t133 + 1) then if (p : Int) = (x : Int) then F false else F ((d : Int) != (x : Int)) else F true
      else F true) =
    some true := by
  simp only [Option.bind_some, if_true, Bool.false_eq_true, if_false]
  rw [if_pos C.symm]
  by_cases q : (p : Int) = (x : Int)
  · rw [if_pos q]; exact j
  · rw [if_neg q]
    have e : ((d : Int) != (x : Int)) = false := by
      rcases hor with h | h
      · exact absurd (congrArg (fun (k : Nat) => (k : Int)) h) q
      · subst h; simp
    rw [e]; exact j
theorem core (k x n m p d cp cd : Nat) (hbegun : withelaw1_begun.f (k + 1) = some true) (hx : x < 18446744073709551616) (hn : n < 64) (hm : m < 64) (hp : p < 18446744073709551616) (hd : d < 18446744073709551616)
    (e1 : bits_Put.f (x : Int) (n : Int) = some (p : Int)) (e2 : bits_Drop.f (x : Int) (n : Int) = some (d : Int)) (H1 : p.testBit n = true) (H2 : d.testBit n = false)
    (hpb : n ≠ m → p.testBit m = x.testBit m) (hdb : n ≠ m → d.testBit m = x.testBit m) (c1 : bits_Count.f (p : Int) = some (cp : Int)) (c2 : bits_Count.f (d : Int) = some (cd : Int))
    (C : wrap64 ((cd : Int) + 1) = (cp : Int)) (hor : p = x ∨ d = x) (y z : Nat) (En : wrap64 (Int.tmod (y : Int) 64) = (n : Int)) (Em : wrap64 (Int.tmod (z : Int) 64) = (m : Int)) :
    withelaw1_BitsOne.f (k + 1) (x : Int) (y : Int) (z : Int) = some true := by
  unfold withelaw1_BitsOne.f
  rw [hbegun, En, Em]
  simp only [Option.bind_some, if_true]
  rw [e1, e2]
  simp only [Option.bind_some]
  generalize bits_Count.f (p : Int) = g1 at c1 ⊢
  generalize bits_Count.f (d : Int) = g2 at c2 ⊢
  have a1 := has _ n hp hn
  have a2 := has _ n hd hn
  have j := J k x p d n m hp hx hd hm hpb hdb
  generalize bits_Has.f (p : Int) (n : Int) = g3 at a1 ⊢
  generalize bits_Has.f (d : Int) (n : Int) = g4 at a2 ⊢
  generalize withelaw1_BitsOne.j0 (k + 1) (x : Int) (n : Int) (m : Int) (p : Int) (d : Int) = F at j ⊢
  rw [H1] at a1
  rw [H2] at a2
  subst a1 a2 c1 c2
  exact t2 cp cd p x d wrap64 C F j hor
end One
open Go.Proofs.YtpkhcmholpljnabDoor.Pure.One
theorem BitsOne : withelaw1_BitsOne.Pure := by
  intro a0 a1 a2 w0 w1 w2
  obtain ⟨x, rfl, hx⟩ := One.u64_of_wf w0
  obtain ⟨y, rfl, hy⟩ := u8_of_wf w1
  obtain ⟨z, rfl, hz⟩ := u8_of_wf w2
  have hn : y % 64 < 64 := Nat.mod_lt _ (by decide)
  have hm : z % 64 < 64 := Nat.mod_lt _ (by decide)
  have hp := or_lt64 x (2 ^ (y % 64)) hx (two_lt ⟨_, hn⟩)
  have hd := dr_lt x (y % 64) hx
  refine ⟨8, core 7 x (y % 64) (z % 64) (x ||| 2 ^ (y % 64)) (dr x (y % 64)) _ _ PureBits.begun hx hn hm hp hd (put x _ hx hn) (drop x _ hx hn) ?_ ?_ ?_ ?_ (count _ hp) (count _ hd) (cnt x _ hx hn hp) ?_ y z (tm y hy) (tm z hz)⟩
  · rw [put_bit]; simp
  · rw [dr_bit x _ _ hx hn]; simp
  · intro q; rw [put_bit]; simp [q]
  · intro q; rw [dr_bit x _ _ hx hn]; simp [q]
  · generalize y % 64 = n at hn
    by_cases hb : x.testBit n = true
    · left
      apply Nat.eq_of_testBit_eq; intro i
      rw [put_bit]
      by_cases e : n = i
      · subst e; simp [hb]
      · simp [e]
    · right
      apply Nat.eq_of_testBit_eq; intro i
      rw [dr_bit x n i hx hn]
      by_cases e : n = i
      · subst e; simp [hb]
      · simp [e]
end Go.Proofs.YtpkhcmholpljnabDoor.Pure
