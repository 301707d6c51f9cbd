/- A text of a claim (ours): expressions, conditions, statements that are not great; conditions: none of ours. -/
import Derived.Test.YtlhbnbckanmaiaaProg
import Derived.Below
import Derived.Deep.Draws
import Derived.Deep.AppendLies
import Derived.Maps.AppendAt
import Derived.OwnWalk
import Derived.Laws.BytesArg
import Derived.Laws.MakeOwn
import Derived.Laws.OwnMore
import Derived.Deep.OwnRows
import Derived.Tactics
import Derived.Lib.ConvBytes
import Derived.Laws.Slices
import Derived.WalkKit
import Derived.KernelRfl
import Derived.RowKit3
import Derived.Deep.LoopGhost
import Derived.Deep.QuietTactic
import Derived.BigQuiet
import Derived.WideLaws
import Derived.Deep.DeepCutAuto
import Derived.Deep.CutBlock
import Derived.Deep.RegionHeld3
import Derived.Laws.Rows
import Derived.Lib.AppendStr
import Derived.ArgAppend
import Derived.Laws.IdiomCopy
import Derived.OrdersHeld
import Derived.Laws.BitsLemmas
import Derived.RowKit
import Derived.Test.YtlhbnbckanmaiaaWWordsV
import Derived.Test.YtlhbnbckanmaiaaWLastV
import Derived.Test.YtlhbnbckanmaiaaWTabV
import Derived.Test.YtlhbnbckanmaiaaWApartV
import Derived.Test.YtlhbnbckanmaiaaWFootV
import Derived.Test.YtlhbnbckanmaiaaWKeptV
import Derived.Test.YtlhbnbckanmaiaaWShareV
import Derived.Test.YtlhbnbckanmaiaaWNV
import Derived.Laws.StructEq
import Derived.Test.YtlhbnbckanmaiaaWRepsOneV
import Derived.Test.YtlhbnbckanmaiaaWInvV
import Derived.Test.YtlhbnbckanmaiaaWNEvV
import Derived.Test.YtlhbnbckanmaiaaWMoreV
import Derived.RegionTactic
import Derived.ChangeAlike
import Derived.BigRegion
import Derived.Outline
import Derived.StillTailTactics
import Derived.Deep.RegionLaw
import Derived.WalkSpells
import Derived.Laws.EntriesVeiled
import Derived.Test.YtlhbnbckanmaiaaPC1x0V
import Derived.Test.YtlhbnbckanmaiaaPC1x1V
import Derived.Test.YtlhbnbckanmaiaaPC1x5V
import Derived.Test.YtlhbnbckanmaiaaPC1x6V
import Derived.Test.YtlhbnbckanmaiaaPC1x8V
namespace Go.Proofs.Ytlhbnbckanmaiaa.K
open Go Go.RowKit Go.Proofs.YtlhbnbckanmaiaaW.PrintWords Go.Proofs.YtlhbnbckanmaiaaW.PrintLast Go.Proofs.YtlhbnbckanmaiaaW.PrintMore
set_option linter.unusedVariables false
set_option linter.unusedSimpArgs false
/-- All but the blocks of F is as it was. -/
structure Chg (F : Nat → Prop) (W W' : World) : Prop where
  os : W'.os = W.os
  tape : W'.tape = W.tape
  output : W'.output = W.output
  size : W.heap.size ≤ W'.heap.size
  block : ∀ k, k < W.heap.size → ¬ F k → W'.heap[k]? = W.heap[k]?
theorem Chg.refl (F : Nat → Prop) (W : World) : Chg F W W := ⟨rfl, rfl, rfl, Nat.le_refl _, fun _ _ _ => rfl⟩
theorem Chg.trans {F F1 : Nat → Prop} {W W1 W2 : World} (h : Chg F W W1) (k : Chg F1 W1 W2) (hF : ∀ k, k < W.heap.size → F1 k → F k) : Chg F W W2 :=
  ⟨k.os.trans h.os, k.tape.trans h.tape, k.output.trans h.output, Nat.le_trans h.size k.size, fun i hi hn => (k.block i (Nat.lt_of_lt_of_le hi h.size) (fun e => hn (hF i hi e))).trans (h.block i hi hn)⟩
theorem Chg.step {F : Nat → Prop} {W W1 W2 : World} (h : Chg F W W1) (k : Chg F W1 W2) : Chg F W W2 := h.trans k (fun _ _ e => e)
theorem Chg.of_below {F : Nat → Prop} {W W1 : World} (h : Below W.heap.size W W1) : Chg F W W1 := ⟨h.os, h.tape, h.output, h.size, fun k hk _ => h.block k hk⟩
theorem Chg.setCell {F : Nat → Prop} {W W1 : World} (h : Chg F W W1) {p : Addr} (hp : F p.block) (u : Value) : Chg F W (W1.setCell p u) :=
  ⟨h.os, h.tape, h.output, by rw [World.size_setCell]; exact h.size, fun k hk hn => (Below.heap_setCell W1 p u k (fun e => hn (e ▸ hp))).trans (h.block k hk hn)⟩
theorem Chg.alloc {F : Nat → Prop} {W W1 : World} (h : Chg F W W1) (o : Obj) : Chg F W (W1.alloc o) := h.step (Chg.of_below (below_alloc (Below.refl _ _) o))
theorem Chg.grown {F : Nat → Prop} {W W1 : World} {row : Option Nat} (hg : W.grownBy W1 row) (hr : ∀ k, row = some k → F k) : Chg F W W1 :=
  ⟨hg.os, hg.tape, hg.output, hg.size, fun k hk hn => hg.block k hk (fun e => hn (hr k e.symm))⟩
theorem Chg.below {F : Nat → Prop} {W W1 : World} (h : Chg F W W1) {B : Nat} (hB : B ≤ W.heap.size) (hF : ∀ k, F k → B ≤ k) : Below B W W1 :=
  ⟨h.os, h.tape, h.output, h.size, fun k hk => h.block k (Nat.lt_of_lt_of_le hk hB) (fun e => absurd (hF k e) (by omega))⟩
theorem Chg.heap {F : Nat → Prop} {W W1 : World} (h : Chg F W W1) {k : Nat} {o : Obj} (hb : W.heap[k]? = some o) (hn : ¬ F k) : W1.heap[k]? = some o := (h.block k (blk_lt hb) hn).trans hb
structure Hold (p : Prop) : Prop where
  out : p
theorem hold {p : Prop} (h : Hold p) : p := h.out
/-- A fact on the world that stands whatever becomes of block q (and of new blocks). -/
def Far (q : Nat) (W : World) (Φ : World → Prop) : Prop := ∀ W', Chg (fun k => k = q) W W' → Φ W'
theorem Far.now {q : Nat} {W : World} {Φ : World → Prop} (h : Far q W Φ) : Φ W := h W (Chg.refl _ _)
theorem Far.step {q : Nat} {W W1 : World} {Φ : World → Prop} (h : Far q W Φ) (c : Chg (fun k => k = q) W W1) : Far q W1 Φ := fun W' c' => h W' (c.step c')
end Go.Proofs.Ytlhbnbckanmaiaa.K
namespace Go.Proofs.Ytlhbnbckanmaiaa.K
open Go Go.RowKit Go.Proofs.YtlhbnbckanmaiaaW.PrintWords Go.Proofs.YtlhbnbckanmaiaaW.PrintLast Go.Proofs.YtlhbnbckanmaiaaW.PrintMore Go.Proofs.Ytlhbnbckanmaiaa.PC1
set_option linter.unusedVariables false
set_option linter.unusedSimpArgs false
def hasB (l : List ByteArray) (s : ByteArray) : Bool := l.any (fun x => x.toList == s.toList)
def hasI (l : List Int) (n : Int) : Bool := l.any (fun x => x == n)
theorem w64 (x : Int) (h0 : -9223372036854775808 ≤ x) (h1 : x ≤ 9223372036854775807) : wrap64 x = x := by unfold wrap64; omega
theorem rdOf_get {α : Type} (d : α) (l : List α) (i : Nat) (hi : i < l.length) : rdOf d l (i : Int) = l[i] := by
  unfold rdOf; rw [Int.toNat_natCast, List.getD_eq_getElem?_getD, List.getElem?_eq_getElem hi]; rfl
theorem index_str (l : List ByteArray) (a : ByteArray) (hl : l.length ≤ 1000) : ∀ d i k : Nat, i + d = l.length → d < k → ∃ r, slices_Index_string_string.l0 k l a l.length (i : Int) = some r ∧ decide (0 ≤ r) = (l.drop i).any (fun x => x.toList == a.toList)
  | 0, i, k, hd, hk => by
    obtain ⟨k, rfl⟩ : ∃ m, k = m + 1 := ⟨k - 1, by omega⟩
    refine ⟨-1, ?_, ?_⟩
    · simp only [slices_Index_string_string.l0]; rw [if_neg (by omega)]
    · rw [List.drop_eq_nil_of_le (by omega)]; rfl
  | d + 1, i, k, hd, hk => by
    obtain ⟨k, rfl⟩ : ∃ m, k = m + 1 := ⟨k - 1, by omega⟩
    have hi : i < l.length := by omega
    simp only [slices_Index_string_string.l0]
    rw [if_pos (by omega), if_pos (by omega), if_pos (by omega), rdOf_get _ l i hi, List.drop_eq_getElem_cons hi, List.any_cons]
    by_cases he : a.toList = l[i].toList
    · rw [if_pos he]; exact ⟨i, rfl, by rw [show (l[i].toList == a.toList) = true from by rw [he]; simp]; simp⟩
    · rw [if_neg he, w64 _ (by omega) (by omega)]
      obtain ⟨r, h1, h2⟩ := index_str l a hl d (i + 1) k (by omega) (by omega)
      refine ⟨r, h1, ?_⟩
      rw [h2, show (l[i].toList == a.toList) = false from beq_eq_false_iff_ne.2 (fun e => he e.symm)]; rfl
theorem contains_str (l : List ByteArray) (a : ByteArray) (hl : l.length ≤ 1000) : slices_Contains_string_string.f 1002 l a = some (hasB l a) := by
  obtain ⟨r, h1, h2⟩ := index_str l a hl l.length 0 1002 (by omega) (by omega)
  simp only [slices_Contains_string_string.f, slices_Index_string_string.f]
  rw [show ((0 : Int)) = ((0 : Nat) : Int) from rfl, h1, Option.bind_some]
  rw [List.drop_zero] at h2
  exact congrArg some h2
theorem index_int (l : List Int) (a : Int) (hl : l.length ≤ 1000) : ∀ d i k : Nat, i + d = l.length → d < k → ∃ r, slices_Index_int_int.l0 k l a l.length (i : Int) = some r ∧ decide (0 ≤ r) = (l.drop i).any (fun x => x == a)
  | 0, i, k, hd, hk => by
    obtain ⟨k, rfl⟩ : ∃ m, k = m + 1 := ⟨k - 1, by omega⟩
    refine ⟨-1, ?_, ?_⟩
    · simp only [slices_Index_int_int.l0]; rw [if_neg (by omega)]
    · rw [List.drop_eq_nil_of_le (by omega)]; rfl
  | d + 1, i, k, hd, hk => by
    obtain ⟨k, rfl⟩ : ∃ m, k = m + 1 := ⟨k - 1, by omega⟩
    have hi : i < l.length := by omega
    simp only [slices_Index_int_int.l0]
    have hr : rd l (i : Int) = l[i] := by unfold rd; rw [Int.toNat_natCast, List.getD_eq_getElem?_getD, List.getElem?_eq_getElem hi]; rfl
    rw [if_pos (by omega), if_pos (by omega), if_pos (by omega), hr, List.drop_eq_getElem_cons hi, List.any_cons]
    by_cases he : a = l[i]
    · rw [if_pos he]; exact ⟨i, rfl, by rw [show (l[i] == a) = true from by rw [he]; simp]; simp⟩
    · rw [if_neg he, w64 _ (by omega) (by omega)]
      obtain ⟨r, h1, h2⟩ := index_int l a hl d (i + 1) k (by omega) (by omega)
      refine ⟨r, h1, ?_⟩
      rw [h2, show (l[i] == a) = false from beq_eq_false_iff_ne.2 (fun e => he e.symm)]; rfl
theorem contains_int (l : List Int) (a : Int) (hl : l.length ≤ 1000) : slices_Contains_int_int.f 1002 l a = some (hasI l a) := by
  obtain ⟨r, h1, h2⟩ := index_int l a hl l.length 0 1002 (by omega) (by omega)
  simp only [slices_Contains_int_int.f, slices_Index_int_int.f]
  rw [show ((0 : Int)) = ((0 : Nat) : Int) from rfl, h1, Option.bind_some]
  rw [List.drop_zero] at h2
  exact congrArg some h2
theorem place_str (l : List ByteArray) (a : ByteArray) (hl : l.length ≤ 1000) : ∀ d i k : Nat, i + d = l.length → d < k → ∃ r, witheref9_Place.l0 k l a (i : Int) = some r ∧ decide (0 ≤ r) = (l.drop i).any (fun x => x.toList == a.toList)
  | 0, i, k, hd, hk => by
    obtain ⟨k, rfl⟩ : ∃ m, k = m + 1 := ⟨k - 1, by omega⟩
    refine ⟨-1, ?_, ?_⟩
    · simp only [witheref9_Place.l0]; rw [if_neg (by omega)]
    · rw [List.drop_eq_nil_of_le (by omega)]; rfl
  | d + 1, i, k, hd, hk => by
    obtain ⟨k, rfl⟩ : ∃ m, k = m + 1 := ⟨k - 1, by omega⟩
    have hi : i < l.length := by omega
    simp only [witheref9_Place.l0]
    rw [if_pos (by omega), if_pos (by omega), rdOf_get _ l i hi, List.drop_eq_getElem_cons hi, List.any_cons]
    by_cases he : l[i].toList = a.toList
    · rw [if_pos he]; exact ⟨i, rfl, by rw [show (l[i].toList == a.toList) = true from by rw [he]; simp]; simp⟩
    · rw [if_neg he, w64 _ (by omega) (by omega)]
      obtain ⟨r, h1, h2⟩ := place_str l a hl d (i + 1) k (by omega) (by omega)
      refine ⟨r, h1, ?_⟩
      rw [h2, show (l[i].toList == a.toList) = false from beq_eq_false_iff_ne.2 he]; rfl
theorem in_str (l : List ByteArray) (a : ByteArray) (hl : l.length ≤ 1000) : witheref9_In.f 1002 l a = some (hasB l a) := by
  obtain ⟨r, h1, h2⟩ := place_str l a hl l.length 0 1002 (by omega) (by omega)
  simp only [witheref9_In.f, witheref9_Place.f]
  rw [show ((0 : Int)) = ((0 : Nat) : Int) from rfl, h1, Option.bind_some]
  rw [List.drop_zero] at h2
  exact congrArg some h2
/-! ### names -/
def letB (c : Int) : Bool := decide (65 ≤ c ∧ c ≤ 90 ∨ 97 ≤ c ∧ c ≤ 122)
def digB (c : Int) : Bool := decide (48 ≤ c ∧ c ≤ 57)
def tailB (c : Int) : Bool := letB c || digB c
/-- the last d bytes of a text -/
def allT (s : ByteArray) : Nat → Bool
  | 0 => true
  | d + 1 => tailB (bt s ((s.size - (d + 1) : Nat) : Int)) && allT s d
def kws : List ByteArray := (witheref6_words.f).getD []
theorem kws_eq : witheref6_words.f = some kws := rfl
theorem kws_len : kws.length = 21 := by decide
def nameB (s : ByteArray) : Bool := !(s.toList == []) && decide (s.size ≤ 8) && letB (bt s 0) && allT s s.size && !(hasB kws s)
theorem letter_eq (c : Int) : lex_char_letter.f c = some (letB c) := by
  unfold lex_char_letter.f letB
  by_cases h1 : c ≥ 65 <;> by_cases h2 : c ≤ 90 <;> by_cases h3 : c ≥ 97 <;> by_cases h4 : c ≤ 122 <;> simp [h1, h2, h3, h4] <;> omega
theorem letter_eq' (c : Int) : witheref6_letter.f c = some (letB c) := by
  unfold witheref6_letter.f letB
  by_cases h1 : c ≥ 65 <;> by_cases h2 : c ≤ 90 <;> by_cases h3 : c ≥ 97 <;> by_cases h4 : c ≤ 122 <;> simp [h1, h2, h3, h4] <;> omega
theorem digit_eq (c : Int) : lex_char_digit.f c = some (digB c) := by
  unfold lex_char_digit.f digB
  by_cases h1 : c ≥ 48 <;> by_cases h2 : c ≤ 57 <;> simp [h1, h2] <;> omega
theorem digit_eq' (c : Int) : witheref6_digit.f c = some (digB c) := by
  unfold witheref6_digit.f digB
  by_cases h1 : c ≥ 48 <;> by_cases h2 : c ≤ 57 <;> simp [h1, h2] <;> omega
theorem tail_eq (c : Int) : lex_char_tail.f c = some (tailB c) := by
  unfold lex_char_tail.f tailB
  rw [letter_eq, Option.bind_some, digit_eq, Option.bind_some]
  cases letB c <;> rfl
theorem run_eq (s : ByteArray) (hs : s.size ≤ 1000) : ∀ d i k : Nat, i + d = s.size → d < k → ∃ r, lex_run.l0 k s 0 91 (i : Int) = some r ∧ decide (r = (s.size : Int)) = allT s d
  | 0, i, k, hd, hk => by
    obtain ⟨k, rfl⟩ : ∃ m, k = m + 1 := ⟨k - 1, by omega⟩
    refine ⟨i, ?_, ?_⟩
    · simp only [lex_run.l0]; rw [w64 _ (by omega) (by omega), if_neg (by omega)]
    · show _ = true
      exact decide_eq_true (by omega)
  | d + 1, i, k, hd, hk => by
    obtain ⟨k, rfl⟩ : ∃ m, k = m + 1 := ⟨k - 1, by omega⟩
    simp only [lex_run.l0]
    rw [w64 _ (by omega) (by omega), if_pos (by omega), if_pos (by omega), if_pos trivial, tail_eq, Option.bind_some, w64 _ (by omega) (by omega)]
    have ei : ((0 : Int) + (i : Int)) = ((s.size - (d + 1) : Nat) : Int) := by omega
    rw [ei]
    unfold allT
    cases ht : tailB (bt s ((s.size - (d + 1) : Nat) : Int)) with
    | true =>
      rw [if_pos rfl]
      obtain ⟨r, h1, h2⟩ := run_eq s hs d (i + 1) k (by omega) (by omega)
      exact ⟨r, h1, by rw [h2]; rfl⟩
    | false =>
      rw [if_neg (by decide)]
      exact ⟨i, rfl, by rw [Bool.false_and]; exact decide_eq_false (by omega)⟩
theorem size_nil (s : ByteArray) : s.toList = [] ↔ s.size = 0 := by
  rw [ByteArray.toList_eq]
  constructor
  · intro h; exact congrArg List.length h
  · intro h; exact List.length_eq_zero_iff.1 h
theorem lexKw_eq (s : ByteArray) : lex_Keyword.f 1002 s = some (hasB kws s) := by
  show (slices_Contains_string_string.f 1002 kws s).bind _ = _
  rw [contains_str kws s (by rw [kws_len]; omega)]; rfl
theorem lexName_eq (s : ByteArray) (hs : s.size ≤ 1000) : lex_Name.f 1003 s = some (nameB s) := by
  have hz : s.toList = [] ↔ s.size = 0 := size_nil s 
  unfold lex_Name.f nameB
  by_cases h0 : s.toList = []
  · rw [if_pos h0]; simp [lex_Name.j0, h0]
  · rw [if_neg h0]
    have hp : s.size ≠ 0 := fun e => h0 (hz.2 e)
    by_cases h8 : (s.size : Int) > 8
    · rw [if_pos h8]; simp [lex_Name.j0, show ¬ s.size ≤ 8 by omega]
    · rw [if_neg h8, if_pos (by omega), letter_eq, Option.bind_some]
      simp only [lex_Name.j0]
      have hb : (s.toList == []) = false := beq_eq_false_iff_ne.2 h0
      rw [hb, show decide (s.size ≤ 8) = true from decide_eq_true (by omega)]
      cases letB (bt s 0) with
      | false => rfl
      | true =>
        obtain ⟨r, h1, h2⟩ := run_eq s hs s.size 0 1002 (by omega) (by omega)
        rw [if_neg (by decide), lex_run.f, show ((0 : Int)) = ((0 : Nat) : Int) from rfl]
        rw [show lex_run.l0 1002 s ((0 : Nat) : Int) 91 ((0 : Nat) : Int) = some r from h1, Option.bind_some]
        rw [← h2]
        by_cases hr : r = (s.size : Int)
        · rw [if_pos hr]
          rw [lexKw_eq, Option.bind_some]
          simp [hr]
        · rw [if_neg hr]; simp [hr]
theorem keyword_eq (s : ByteArray) (l : List ByteArray) (hl : l.length ≤ 1000) : ∀ d i k : Nat, i + d = l.length → d < k → witheref6_Keyword.l0 k s l (i : Int) = some ((l.drop i).any (fun x => x.toList == s.toList))
  | 0, i, k, hd, hk => by
    obtain ⟨k, rfl⟩ : ∃ m, k = m + 1 := ⟨k - 1, by omega⟩
    simp only [witheref6_Keyword.l0]; rw [if_neg (by omega), List.drop_eq_nil_of_le (by omega)]; rfl
  | d + 1, i, k, hd, hk => by
    obtain ⟨k, rfl⟩ : ∃ m, k = m + 1 := ⟨k - 1, by omega⟩
    have hi : i < l.length := by omega
    simp only [witheref6_Keyword.l0]
    rw [if_pos (by omega), if_pos (by omega), rdOf_get _ l i hi, List.drop_eq_getElem_cons hi, List.any_cons]
    by_cases he : l[i].toList = s.toList
    · rw [if_pos he, show (l[i].toList == s.toList) = true from by rw [he]; simp]; rfl
    · rw [if_neg he, w64 _ (by omega) (by omega), show (l[i].toList == s.toList) = false from beq_eq_false_iff_ne.2 he]
      exact keyword_eq s l hl d (i + 1) k (by omega) (by omega)
theorem nameL_eq (s : ByteArray) (hs : s.size ≤ 1000) : ∀ d i k : Nat, i + d = s.size → d < k → witheref6_Name.l0 k s (i : Int) = some (allT s d)
  | 0, i, k, hd, hk => by
    obtain ⟨k, rfl⟩ : ∃ m, k = m + 1 := ⟨k - 1, by omega⟩
    simp only [witheref6_Name.l0]; rw [if_neg (by omega)]; rfl
  | d + 1, i, k, hd, hk => by
    obtain ⟨k, rfl⟩ : ∃ m, k = m + 1 := ⟨k - 1, by omega⟩
    simp only [witheref6_Name.l0]
    rw [if_pos (by omega), if_pos (by omega), letter_eq', Option.bind_some, digit_eq', w64 _ (by omega) (by omega)]
    have ei : ((i : Int)) = ((s.size - (d + 1) : Nat) : Int) := by omega
    have ih := nameL_eq s hs d (i + 1) k (by omega) (by omega)
    rw [show ((i + 1 : Nat) : Int) = (i : Int) + 1 from rfl] at ih
    rw [ih]
    rw [show allT s (d + 1) = (tailB (bt s ((s.size - (d + 1) : Nat) : Int)) && allT s d) from rfl, tailB, ← ei]
    cases letB (bt s (i : Int)) <;> cases digB (bt s (i : Int)) <;> rfl
theorem refName_eq (s : ByteArray) (hs : s.size ≤ 1000) : witheref6_Name.f 1003 s = some (nameB s) := by
  have hz : s.toList = [] ↔ s.size = 0 := size_nil s
  unfold witheref6_Name.f nameB
  by_cases h0 : s.toList = []
  · rw [if_pos h0]; simp [witheref6_Name.j0, h0]
  · rw [if_neg h0]
    have hp : s.size ≠ 0 := fun e => h0 (hz.2 e)
    by_cases h8 : (s.size : Int) > 8
    · rw [if_pos h8]; simp [witheref6_Name.j0, show ¬ s.size ≤ 8 by omega]
    · rw [if_neg h8, if_pos (by omega), letter_eq', Option.bind_some]
      have hb : (s.toList == []) = false := beq_eq_false_iff_ne.2 h0
      rw [hb, show decide (s.size ≤ 8) = true from decide_eq_true (by omega)]
      cases letB (bt s 0) with
      | false => simp [witheref6_Name.j0]
      | true =>
        rw [if_pos rfl]
        unfold witheref6_Keyword.f
        rw [kws_eq, Option.bind_some]
        have hk := keyword_eq s kws (by rw [kws_len]; omega) kws.length 0 1003 (by omega) (by rw [kws_len]; omega)
        rw [List.drop_zero] at hk
        rw [show witheref6_Keyword.l0 1003 s kws 0 = some (hasB kws s) from hk, Option.bind_some]
        simp only [witheref6_Name.j0]
        have hn := nameL_eq s hs s.size 0 1002 (by omega) (by omega)
        rw [show witheref6_Name.l0 1002 s 0 = some (allT s s.size) from hn]
        cases hasB kws s <;> simp
end Go.Proofs.Ytlhbnbckanmaiaa.K
namespace Go.Proofs.Ytlhbnbckanmaiaa.K
open Go Go.RowKit Go.Proofs.YtlhbnbckanmaiaaW.PrintWords Go.Proofs.YtlhbnbckanmaiaaW.PrintLast Go.Proofs.YtlhbnbckanmaiaaW.PrintMore Go.Proofs.Ytlhbnbckanmaiaa.PC1
set_option linter.unusedVariables false
set_option linter.unusedSimpArgs false
/-! ### closures over a cell's name -/
def Found (W : World) (xs : List S51) (s : ByteArray) (e : Ending) (W' : World) : Prop := ∃ n : Int, e = .returned (.int .i64 n) ∧ decide (0 ≤ n) = xs.any (fun x => x.f0.toList == s.toList) ∧ Below W.heap.size W W'
theorem any_hit (xs : List S51) (s : ByteArray) (i : Nat) (hi : i < xs.length) (h : ((rd_T51 xs (i : Int)).f0.toList == s.toList) = true) : xs.any (fun x => x.f0.toList == s.toList) = true := by
  rw [List.any_eq_true]
  refine ⟨xs[i], List.getElem_mem hi, ?_⟩
  unfold rd_T51 at h
  rw [Int.toNat_natCast, List.getD_eq_getElem?_getD, List.getElem?_eq_getElem hi] at h
  exact h
theorem any_miss (xs : List S51) (s : ByteArray) (h : ∀ i : Nat, i < xs.length → ((rd_T51 xs (i : Int)).f0.toList == s.toList) = false) : xs.any (fun x => x.f0.toList == s.toList) = false := by
  rw [List.any_eq_false]
  intro x hx
  obtain ⟨i, hi, rfl⟩ := List.mem_iff_getElem.1 hx
  have := h i hi
  unfold rd_T51 at this
  rw [Int.toNat_natCast, List.getD_eq_getElem?_getD, List.getElem?_eq_getElem hi] at this
  simpa using this
set_option maxHeartbeats 1000000 in
theorem same_loc (W : World) (b : Nat) (s : ByteArray) (x : S51) (hb : W.cell? ⟨b, 0, none⟩ = some (.string s)) :
    Calls Try.prog 109 #[.agg #[.string x.f0, .int .i64 x.f1], .pointer (some ⟨b, 0, none⟩)] W fun e W' => e = .returned (.bool (x.f0.toList == s.toList)) ∧ Below W.heap.size W W' := by
  have hlt := World.block_lt_of_cell? _ _ hb
  dsimp only at hlt
  go_enter Try.func109, Try.ntmps109
  go_wp2
  go_ret
  exact ⟨rfl, by repeat (first | exact Below.refl _ _ | (with_reducible first | apply below_alloc | apply pw_below_drewN | apply below_drew1))⟩
set_option maxHeartbeats 4000000 in
theorem index_loc (W : World) (b : Nat) (s : ByteArray) (A : Option Addr) (c : Nat) (xs : List S51) (hb : W.cell? ⟨b, 0, none⟩ = some (.string s)) (hC : Kd.C k51 W A xs.length xs) (hn : xs.length ≤ 1000) :
    Calls Try.prog 93 #[.slice A xs.length c, .func (.func 109) #[] #[.pointer (some ⟨b, 0, none⟩)]] W (Found W xs s) := by
  have HC := Aside0.mk hC
  have HB := Aside0.mk hb
  clear hC hb
  go_enter Try.func93, Try.ntmps93
  go_wp2
  go_loopw [8] (fun v8 wr => ∃ i : Nat, i ≤ xs.length ∧ v8 = .int .i64 i ∧ Aside0 (∀ j : Nat, j < i → ((rd_T51 xs (j : Int)).f0.toList == s.toList) = false) ∧ Aside0 (Below W.heap.size W wr)) (fun v8 _ => xs.length - (intOf v8).toNat)
  case atStart => exact ⟨0, Nat.zero_le _, rfl, ⟨fun j h => by omega⟩, ⟨Below.refl _ _⟩⟩
  case round =>
    obtain ⟨i, hi, rfl, HM, HL⟩ := hrel
    by_cases hlt : i < xs.length
    · have e1 : decide ((i : Int) < (xs.length : Int)) = true := decide_eq_true (by omega)
      have e2 : decide (i < xs.length) = true := decide_eq_true hlt
      obtain ⟨ad, rfl, h0, h1⟩ := at_T51 HC.out (i : Int) (by omega) (by omega)
      rw [Int.toNat_natCast] at h0 h1
      replace h0 := pw_cell_below HL.out h0
      replace h1 := pw_cell_below HL.out h1
      have HCL := Aside0.mk (pw_cell_below HL.out HB.out)
      go_wp2_with fail
      refine (same_loc _ b s (rd_T51 xs (i : Int)) HCL.out).mono ?_
      rintro e w1 ⟨rfl, hw1⟩
      have HW := Aside0.mk (below_step HL.out hw1)
      clear hw1
      by_cases hq : ((rd_T51 xs (i : Int)).f0.toList == s.toList) = true
      · have HQ := Aside0.mk hq
        rw [hq]
        clear hq
        go_wp2
        go_ret
        exact ⟨i, rfl, by rw [any_hit xs s i hlt HQ.out]; exact decide_eq_true (by omega), HW.out⟩
      · replace hq := Bool.eq_false_iff.mpr hq
        have HQ := Aside0.mk hq
        rw [hq]
        clear hq
        go_wp2
        go_roundw
        case rel => exact ⟨i + 1, by omega, by go_num, ⟨fun j hj => by
          by_cases e : j = i
          · subst e; exact HQ.out
          · exact HM.out j (by omega)⟩, HW⟩
        case measure => simp [intOf]; omega
    · have e1 : decide ((i : Int) < (xs.length : Int)) = false := decide_eq_false (by omega)
      have e2 : decide (i < xs.length) = false := decide_eq_false hlt
      go_wp2
      go_ret
      exact ⟨-1, rfl, by rw [any_miss xs s (fun j hj => HM.out j (by omega))]; rfl, HL.out⟩
set_option maxHeartbeats 1000000 in
theorem has_loc (W : World) (b : Nat) (s : ByteArray) (A : Option Addr) (c : Nat) (xs : List S51) (hb : W.cell? ⟨b, 0, none⟩ = some (.string s)) (hC : Kd.C k51 W A xs.length xs) (hn : xs.length ≤ 1000) :
    Calls Try.prog 70 #[.slice A xs.length c, .func (.func 109) #[] #[.pointer (some ⟨b, 0, none⟩)]] W fun e W' => e = .returned (.bool (xs.any (fun x => x.f0.toList == s.toList))) ∧ Below W.heap.size W W' := by
  have HC := Aside0.mk hC
  have HB := Aside0.mk hb
  clear hC hb
  go_enter Try.func70, Try.ntmps70
  go_wp2_with fail
  refine (index_loc _ b s A c xs HB.out HC.out hn).mono ?_
  rintro e w1 ⟨n, rfl, h1, h2⟩
  have HN := Aside0.mk (And.intro h1 h2)
  clear h1 h2
  go_wp2
  go_ret
  exact ⟨congrArg (fun b => Ending.returned (Value.bool b)) HN.out.1, HN.out.2⟩
set_option maxHeartbeats 1000000 in
theorem same_init (W : World) (b : Nat) (s : ByteArray) (x : S51) (hb : W.cell? ⟨b, 0, none⟩ = some (.string s)) :
    Calls Try.prog 69 #[.agg #[.string x.f0, .int .i64 x.f1], .pointer (some ⟨b, 0, none⟩)] W fun e W' => e = .returned (.bool (x.f0.toList == s.toList)) ∧ Below W.heap.size W W' := by
  have hlt := World.block_lt_of_cell? _ _ hb
  dsimp only at hlt
  go_enter Try.func69, Try.ntmps69
  go_wp2
  go_ret
  exact ⟨rfl, by repeat (first | exact Below.refl _ _ | (with_reducible first | apply below_alloc | apply pw_below_drewN | apply below_drew1))⟩
set_option maxHeartbeats 4000000 in
theorem index_init (W : World) (b : Nat) (s : ByteArray) (A : Option Addr) (c : Nat) (xs : List S51) (hb : W.cell? ⟨b, 0, none⟩ = some (.string s)) (hC : Kd.C k51 W A xs.length xs) (hn : xs.length ≤ 1000) :
    Calls Try.prog 93 #[.slice A xs.length c, .func (.func 69) #[] #[.pointer (some ⟨b, 0, none⟩)]] W (Found W xs s) := by
  have HC := Aside0.mk hC
  have HB := Aside0.mk hb
  clear hC hb
  go_enter Try.func93, Try.ntmps93
  go_wp2
  go_loopw [8] (fun v8 wr => ∃ i : Nat, i ≤ xs.length ∧ v8 = .int .i64 i ∧ Aside0 (∀ j : Nat, j < i → ((rd_T51 xs (j : Int)).f0.toList == s.toList) = false) ∧ Aside0 (Below W.heap.size W wr)) (fun v8 _ => xs.length - (intOf v8).toNat)
  case atStart => exact ⟨0, Nat.zero_le _, rfl, ⟨fun j h => by omega⟩, ⟨Below.refl _ _⟩⟩
  case round =>
    obtain ⟨i, hi, rfl, HM, HL⟩ := hrel
    by_cases hlt : i < xs.length
    · have e1 : decide ((i : Int) < (xs.length : Int)) = true := decide_eq_true (by omega)
      have e2 : decide (i < xs.length) = true := decide_eq_true hlt
      obtain ⟨ad, rfl, h0, h1⟩ := at_T51 HC.out (i : Int) (by omega) (by omega)
      rw [Int.toNat_natCast] at h0 h1
      replace h0 := pw_cell_below HL.out h0
      replace h1 := pw_cell_below HL.out h1
      have HCL := Aside0.mk (pw_cell_below HL.out HB.out)
      go_wp2_with fail
      refine (same_init _ b s (rd_T51 xs (i : Int)) HCL.out).mono ?_
      rintro e w1 ⟨rfl, hw1⟩
      have HW := Aside0.mk (below_step HL.out hw1)
      clear hw1
      by_cases hq : ((rd_T51 xs (i : Int)).f0.toList == s.toList) = true
      · have HQ := Aside0.mk hq
        rw [hq]
        clear hq
        go_wp2
        go_ret
        exact ⟨i, rfl, by rw [any_hit xs s i hlt HQ.out]; exact decide_eq_true (by omega), HW.out⟩
      · replace hq := Bool.eq_false_iff.mpr hq
        have HQ := Aside0.mk hq
        rw [hq]
        clear hq
        go_wp2
        go_roundw
        case rel => exact ⟨i + 1, by omega, by go_num, ⟨fun j hj => by
          by_cases e : j = i
          · subst e; exact HQ.out
          · exact HM.out j (by omega)⟩, HW⟩
        case measure => simp [intOf]; omega
    · have e1 : decide ((i : Int) < (xs.length : Int)) = false := decide_eq_false (by omega)
      have e2 : decide (i < xs.length) = false := decide_eq_false hlt
      go_wp2
      go_ret
      exact ⟨-1, rfl, by rw [any_miss xs s (fun j hj => HM.out j (by omega))]; rfl, HL.out⟩
set_option maxHeartbeats 1000000 in
theorem has_init (W : World) (b : Nat) (s : ByteArray) (A : Option Addr) (c : Nat) (xs : List S51) (hb : W.cell? ⟨b, 0, none⟩ = some (.string s)) (hC : Kd.C k51 W A xs.length xs) (hn : xs.length ≤ 1000) :
    Calls Try.prog 70 #[.slice A xs.length c, .func (.func 69) #[] #[.pointer (some ⟨b, 0, none⟩)]] W fun e W' => e = .returned (.bool (xs.any (fun x => x.f0.toList == s.toList))) ∧ Below W.heap.size W W' := by
  have HC := Aside0.mk hC
  have HB := Aside0.mk hb
  clear hC hb
  go_enter Try.func70, Try.ntmps70
  go_wp2_with fail
  refine (index_init _ b s A c xs HB.out HC.out hn).mono ?_
  rintro e w1 ⟨n, rfl, h1, h2⟩
  have HN := Aside0.mk (And.intro h1 h2)
  clear h1 h2
  go_wp2
  go_ret
  exact ⟨congrArg (fun b => Ending.returned (Value.bool b)) HN.out.1, HN.out.2⟩
end Go.Proofs.Ytlhbnbckanmaiaa.K
namespace Go.Proofs.Ytlhbnbckanmaiaa.K
open Go Go.RowKit Go.Proofs.YtlhbnbckanmaiaaW.PrintWords Go.Proofs.YtlhbnbckanmaiaaW.PrintLast Go.Proofs.YtlhbnbckanmaiaaW.PrintMore Go.Proofs.Ytlhbnbckanmaiaa.PC1
set_option linter.unusedVariables false
set_option linter.unusedSimpArgs false
abbrev TCell := S51
abbrev TStmt := S55
abbrev TExpr := S57
abbrev TCond := S26
abbrev kCell : Kd TCell := k51
abbrev kStmt : Kd TStmt := k55
abbrev kExpr : Kd TExpr := k57
abbrev kCond : Kd TCond := k26
/-- A program as it lies in the asker. -/
structure AP where
  nm : ByteArray
  vals : Int
  AI : Option Addr
  cI : Nat
  init : List TCell
  AT : Option Addr
  cT : Nat
  threads : List (List TStmt)
  ask : Int
  op : Int
  th : Int
  cn : ByteArray
  n : Int
  AK : Option Addr
  cK : Nat
  kids : List TCond
def ablk (P : AP) (part e st : Int) (vR : Value) : Obj :=
  .cells #[.string P.nm, .int .i64 P.vals, .slice P.AI P.init.length P.cI, .slice P.AT P.threads.length P.cT, .int .i64 P.ask, .int .i64 P.op, .int .i64 P.th, .string P.cn, .int .i64 P.n, .slice P.AK P.kids.length P.cK, .int .i64 part, .int .i64 e, .int .i64 st, vR] 68 (0, 0)
structure AP.dat (P : AP) (w : World) : Prop where
  ci : Kd.C kCell w P.AI P.init.length P.init
  li : P.init.length ≤ P.cI
  ct : Kd.C (Kd.slice 55 kStmt) w P.AT P.threads.length P.threads
  lt : P.threads.length ≤ P.cT
  ck : Kd.C kCond w P.AK P.kids.length P.kids
  lk : P.kids.length ≤ P.cK
  ni : P.init.length ≤ 1000
  nt : P.threads.length ≤ 1000
  nm : P.nm.size ≤ 1000
  na : ∀ x ∈ P.init, x.f0.size ≤ 1000
structure AS (w0 W : World) (q : Nat) (P : AP) (part e st : Int) (vR : Value) : Prop where
  bel : Below w0.heap.size w0 W
  hq : w0.heap.size ≤ q
  blk : W.heap[q]? = some (ablk P part e st vR)
  dat : P.dat w0
def needE (ok : Bool) (c e : Int) : Int := if (!ok && (e == 0)) = true then c else e
theorem AS.step {w0 W W1 : World} {q : Nat} {P : AP} {part e st : Int} {vR : Value} (h : AS w0 W q P part e st vR) (hb : Below W.heap.size W W1) : AS w0 W1 q P part e st vR :=
  ⟨below_weaken h.bel h.bel.size hb, h.hq, blk_below h.blk hb, h.dat⟩
theorem AS.cells {w0 W : World} {q : Nat} {P : AP} {part e st : Int} {vR : Value} (h : AS w0 W q P part e st vR) :
    W.cell? ⟨q, 0, none⟩ = some (.string P.nm) ∧ W.cell? ⟨q, 1, none⟩ = some (.int .i64 P.vals) ∧ W.cell? ⟨q, 2, none⟩ = some (.slice P.AI P.init.length P.cI) ∧ W.cell? ⟨q, 3, none⟩ = some (.slice P.AT P.threads.length P.cT) ∧
    W.cell? ⟨q, 4, none⟩ = some (.int .i64 P.ask) ∧ W.cell? ⟨q, 5, none⟩ = some (.int .i64 P.op) ∧ W.cell? ⟨q, 6, none⟩ = some (.int .i64 P.th) ∧ W.cell? ⟨q, 7, none⟩ = some (.string P.cn) ∧ W.cell? ⟨q, 8, none⟩ = some (.int .i64 P.n) ∧ W.cell? ⟨q, 9, none⟩ = some (.slice P.AK P.kids.length P.cK) ∧
    W.cell? ⟨q, 10, none⟩ = some (.int .i64 part) ∧ W.cell? ⟨q, 11, none⟩ = some (.int .i64 e) ∧ W.cell? ⟨q, 12, none⟩ = some (.int .i64 st) ∧ W.cell? ⟨q, 13, none⟩ = some vR :=
  ⟨(blk_cell h.blk 0).trans rfl, (blk_cell h.blk 1).trans rfl, (blk_cell h.blk 2).trans rfl, (blk_cell h.blk 3).trans rfl, (blk_cell h.blk 4).trans rfl, (blk_cell h.blk 5).trans rfl, (blk_cell h.blk 6).trans rfl, (blk_cell h.blk 7).trans rfl, (blk_cell h.blk 8).trans rfl, (blk_cell h.blk 9).trans rfl, (blk_cell h.blk 10).trans rfl, (blk_cell h.blk 11).trans rfl, (blk_cell h.blk 12).trans rfl, (blk_cell h.blk 13).trans rfl⟩
theorem AS.froz {w0 W : World} {q : Nat} {P : AP} {part e st : Int} {vR : Value} (h : AS w0 W q P part e st vR) (i : Nat) : W.frozen? ⟨q, i, none⟩ = false := blk_frozen h.blk i
theorem AS.lt {w0 W : World} {q : Nat} {P : AP} {part e st : Int} {vR : Value} (h : AS w0 W q P part e st vR) : q < W.heap.size := blk_lt h.blk
theorem AS.set {w0 W : World} {q : Nat} {P : AP} {part e st part' e' st' : Int} {vR vR' v : Value} (h : AS w0 W q P part e st vR) (i : Nat)
    (hi : (#[Value.string P.nm, .int .i64 P.vals, .slice P.AI P.init.length P.cI, .slice P.AT P.threads.length P.cT, .int .i64 P.ask, .int .i64 P.op, .int .i64 P.th, .string P.cn, .int .i64 P.n, .slice P.AK P.kids.length P.cK, .int .i64 part, .int .i64 e, .int .i64 st, vR] : Array Value).setIfInBounds i v = #[.string P.nm, .int .i64 P.vals, .slice P.AI P.init.length P.cI, .slice P.AT P.threads.length P.cT, .int .i64 P.ask, .int .i64 P.op, .int .i64 P.th, .string P.cn, .int .i64 P.n, .slice P.AK P.kids.length P.cK, .int .i64 part', .int .i64 e', .int .i64 st', vR']) :
    AS w0 (W.setCell ⟨q, i, none⟩ v) q P part' e' st' vR' :=
  ⟨below_set h.bel h.hq, h.hq, blk_put h.blk i v hi, h.dat⟩
theorem chg_set (W : World) (q i : Nat) (v : Value) : Chg (fun k => k = q) W (W.setCell ⟨q, i, none⟩ v) := (Chg.refl (fun k => k = q) W).setCell (p := ⟨q, i, none⟩) rfl v
theorem new_cell (W : World) (v : Value) (t : TypeId) : (W.alloc (.cells #[v] t (0, 0))).cell? ⟨W.heap.size, 0, none⟩ = some v := (blk_cell (blk_new W _) 0).trans rfl
/-- What becomes of the state: only the asker's block turns. -/
structure Asked (w0 W : World) (q : Nat) (P : AP) (part e st : Int) (vR : Value) (r : Ending) (W' : World) : Prop where
  ret : r = .returned (.tuple #[])
  stt : AS w0 W' q P part e st vR
  chg : Chg (fun k => k = q) W W'
set_option maxHeartbeats 1000000 in
theorem need (w0 W : World) (q : Nat) (P : AP) (part e st : Int) (vR : Value) (h : AS w0 W q P part e st vR) (ok : Bool) (c : Int) :
    Calls Try.prog 67 #[.pointer (some ⟨q, 0, none⟩), .bool ok, .int .i64 c] W (Asked w0 W q P part (needE ok c e) st vR) := by
  have c11 := h.cells.2.2.2.2.2.2.2.2.2.2.2.1
  have hf := h.froz
  have hlt := h.lt
  have HS := Aside0.mk h
  clear h
  cases ok with
  | true =>
    go_enter Try.func67, Try.ntmps67
    go_wp2
    go_end0
    exact ⟨rfl, HS.out, Chg.refl _ _⟩
  | false =>
    by_cases he : e = 0
    · subst he
      go_enter Try.func67, Try.ntmps67
      go_wp2
      go_end0
      exact ⟨rfl, HS.out.set 11 rfl, chg_set _ _ _ _⟩
    · have e1 : (e == 0) = false := beq_eq_false_iff_ne.2 he
      have HE : needE false c e = e := by unfold needE; simp [e1]
      rw [HE]
      clear he HE
      go_enter Try.func67, Try.ntmps67
      go_wp2
      go_end0
      exact ⟨rfl, HS.out, Chg.refl _ _⟩
def valB (vals n : Int) : Bool := decide (0 ≤ n) && decide (n < vals)
set_option maxHeartbeats 1000000 in
theorem value (w0 W : World) (q : Nat) (P : AP) (part e st : Int) (vR : Value) (h : AS w0 W q P part e st vR) (n : Int) :
    Calls Try.prog 71 #[.pointer (some ⟨q, 0, none⟩), .int .i64 n] W fun r W' => r = .returned (.bool (valB P.vals n)) ∧ W = W' := by
  have c1 := h.cells.2.1
  clear h
  by_cases h0 : 0 ≤ n
  · have d0 : decide (0 ≤ n) = true := decide_eq_true h0
    have HV : valB P.vals n = decide (n < P.vals) := by unfold valB; rw [d0]; rfl
    rw [HV]
    clear HV
    go_enter Try.func71, Try.ntmps71
    go_wp2
    go_ret
    exact ⟨rfl, rfl⟩
  · have d0 : decide (0 ≤ n) = false := decide_eq_false h0
    have HV : valB P.vals n = false := by unfold valB; rw [d0]; rfl
    rw [HV]
    clear HV
    go_enter Try.func71, Try.ntmps71
    go_wp2
    go_ret
    exact ⟨rfl, rfl⟩
def locB (init : List TCell) (s : ByteArray) : Bool := init.any (fun x => x.f0.toList == s.toList)
set_option maxHeartbeats 1000000 in
theorem loc (w0 W : World) (q : Nat) (P : AP) (part e st : Int) (vR : Value) (h : AS w0 W q P part e st vR) (s : ByteArray) :
    Calls Try.prog 95 #[.pointer (some ⟨q, 0, none⟩), .string s] W fun r W' => r = .returned (.bool (locB P.init s)) ∧ Below W.heap.size W W' := by
  have c2 := h.cells.2.2.1
  have hlt := h.lt
  have HI := Aside0.mk (And.intro (Kd.C_below h.dat.ci h.bel) h.dat.ni)
  clear h
  have hmf : ∀ (fn : Fn) (first cap : Array Value) (w : World), (Instr.makeFunc fn first cap).run Try.prog w = .ok (.func fn first cap) w := fun _ _ _ _ => rfl
  go_enter Try.func95, Try.ntmps95
  go_wp2_with fail
  refine (has_loc _ W.heap.size s P.AI P.cI P.init ?_ (Kd.C_alloc HI.out.1 _) HI.out.2).mono ?_
  · exact new_cell _ _ _
  rintro r w1 ⟨rfl, hw⟩
  have HW := Aside0.mk (below_step (below_alloc (Below.refl _ _) _) hw)
  clear hw
  go_wp2
  go_ret
  exact ⟨rfl, HW.out⟩
end Go.Proofs.Ytlhbnbckanmaiaa.K
namespace Go.Proofs.Ytlhbnbckanmaiaa.K
open Go Go.RowKit Go.Proofs.YtlhbnbckanmaiaaW.PrintWords Go.Proofs.YtlhbnbckanmaiaaW.PrintLast Go.Proofs.YtlhbnbckanmaiaaW.PrintMore Go.Proofs.Ytlhbnbckanmaiaa.PC1
set_option linter.unusedVariables false
set_option linter.unusedSimpArgs false
def mput (w : World) (r : Nat) (es : Array MapEntry) (clk : Nat) : World := { w with heap := w.heap.setIfInBounds r (.map es clk) }
theorem mput_size (w : World) (r : Nat) (es : Array MapEntry) (clk : Nat) : (mput w r es clk).heap.size = w.heap.size := by simp [mput]
theorem mput_at (w : World) (r : Nat) (es : Array MapEntry) (clk : Nat) (h : r < w.heap.size) : (mput w r es clk).heap[r]? = some (.map es clk) := by simp [mput, h]
theorem mput_ne (w : World) (r k : Nat) (es : Array MapEntry) (clk : Nat) (h : ¬ r = k) : (mput w r es clk).heap[k]? = w.heap[k]? := by simp [mput, Array.getElem?_setIfInBounds, h]
theorem alloc_at (w : World) (o : Obj) (k : Nat) (h : k = w.heap.size) : (w.alloc o).heap[k]? = some o := by subst h; exact heap_alloc_new w o
theorem drew_at (w : World) (k : Nat) : w.drew.heap[k]? = w.heap[k]? := rfl
theorem mput_below {W w : World} (h : Below W.heap.size W w) (r : Nat) (es : Array MapEntry) (clk : Nat) (hr : W.heap.size ≤ r) : Below W.heap.size W (mput w r es clk) :=
  ⟨h.os, h.tape, h.output, by rw [mput_size]; exact h.size, fun k hk => (mput_ne w r k es clk (by omega)).trans (h.block k hk)⟩
theorem run_ins (mty kt et : TypeId) (w : World) (r clk : Nat) (es : Array MapEntry) (k : Int) (v : Value) (hm : Try.prog.underlying mty = some (.map kt et)) (hk : Try.prog.underlying kt = some (.int .i64)) (hb : w.heap[r]? = some (.map es clk)) (hf : Instr.findNow (.int .i64) (.int .i64 k) es.toList 0 = some none) :
    (Instr.mapUpdate mty (.map (some r)) (.int .i64 k) v).run Try.prog w = .ok () (mput w r (es.push ⟨.int .i64 k, v, clk⟩) (clk + 1)) := by
  have hc : (Instr.checkKey false 10000 kt (.int .i64 k)).run Try.prog w = .ok () w := MapKept.run_checkKey (k := .int .i64 k) hk (by simp [MapKept.IsKey]) false 9999
  simp [Instr.mapUpdate, run_underlying hm, MapKept.run_getObj_map hb, hc, MapKept.run_findKey hk hf, MapKept.run_setObj_map _ hb, Result.andThen, mput]
theorem run_look (mty kt et : TypeId) (w : World) (r clk : Nat) (es : Array MapEntry) (k : Int) (i : Nat) (v : Value) (hm : Try.prog.underlying mty = some (.map kt et)) (hk : Try.prog.underlying kt = some (.int .i64)) (hb : w.heap[r]? = some (.map es clk)) (hf : Instr.findNow (.int .i64) (.int .i64 k) es.toList 0 = some (some (i, v))) :
    (Instr.lookup mty (.map (some r)) (.int .i64 k) true).run Try.prog w = .ok (.tuple #[v, .bool true]) w := by
  have hc : (Instr.checkKey es.isEmpty 10000 kt (.int .i64 k)).run Try.prog w = .ok () w := MapKept.run_checkKey (k := .int .i64 k) hk (by simp [MapKept.IsKey]) _ 9999
  simp [Instr.lookup, run_underlying hm, MapKept.run_getObj_map hb, hc, MapKept.run_findKey hk hf, Result.andThen]
theorem run_look_no (mty kt et : TypeId) (w : World) (r clk : Nat) (es : Array MapEntry) (k : Int) (z : Value) (hm : Try.prog.underlying mty = some (.map kt et)) (hk : Try.prog.underlying kt = some (.int .i64)) (hb : w.heap[r]? = some (.map es clk)) (hf : Instr.findNow (.int .i64) (.int .i64 k) es.toList 0 = some none) (hz : (zeroValue et).run Try.prog w = .ok z w) :
    (Instr.lookup mty (.map (some r)) (.int .i64 k) true).run Try.prog w = .ok (.tuple #[z, .bool false]) w := by
  have hc : (Instr.checkKey es.isEmpty 10000 kt (.int .i64 k)).run Try.prog w = .ok () w := MapKept.run_checkKey (k := .int .i64 k) hk (by simp [MapKept.IsKey]) _ 9999
  simp [Instr.lookup, run_underlying hm, MapKept.run_getObj_map hb, hc, MapKept.run_findKey hk hf, Result.andThen, hz]
end Go.Proofs.Ytlhbnbckanmaiaa.K
namespace Go.Proofs.Ytlhbnbckanmaiaa.K
open Go Go.RowKit Go.Proofs.YtlhbnbckanmaiaaW.PrintWords Go.Proofs.YtlhbnbckanmaiaaW.PrintLast Go.Proofs.YtlhbnbckanmaiaaW.PrintMore Go.Proofs.Ytlhbnbckanmaiaa.PC1
set_option linter.unusedVariables false
set_option linter.unusedSimpArgs false
theorem name_any (s : ByteArray) (hs : s.size ≤ 1000) (W : World) : Calls Try.prog 68 #[.string s] W fun e W' => e = .returned (.bool (nameB s)) ∧ Below W.heap.size W W' := lex_Name.calls 1003 s _ W (lexName_eq s hs)
theorem has_any (l : List ByteArray) (A : Option Addr) (c : Nat) (s : ByteArray) (W : World) (hC : Kd.C Kd.string W A l.length l) (hc : l.length ≤ c) (hl : l.length ≤ 1000) : Calls Try.prog 52 #[.slice A l.length c, .string s] W fun e W' => e = .returned (.bool (hasB l s)) ∧ Below W.heap.size W W' :=
  (slices_Contains_string_string.calls 1002 A c l s _ W hC hc (contains_str l s hl)).mono fun _ _ ⟨h1, h2⟩ => ⟨h1, h2.below⟩
theorem hasI_any (l : List Int) (A : Option Addr) (c : Nat) (s : Int) (W : World) (hC : Kd.C (Kd.int .i64) W A l.length l) (hc : l.length ≤ c) (hl : l.length ≤ 1000) : Calls Try.prog 94 #[.slice A l.length c, .int .i64 s] W fun e W' => e = .returned (.bool (hasI l s)) ∧ Below W.heap.size W W' :=
  (slices_Contains_int_int.calls 1002 A c l s _ W hC hc (contains_int l s hl)).mono fun _ _ ⟨h1, h2⟩ => ⟨h1, h2.below⟩
theorem AS.move {w0 W W1 : World} {q : Nat} {P : AP} {part e st : Int} {vR : Value} {C : World} (h : AS w0 W q P part e st vR ∧ Chg (fun k => k = q) C W) (hb : Below W.heap.size W W1) : AS w0 W1 q P part e st vR ∧ Chg (fun k => k = q) C W1 := ⟨h.1.step hb, h.2.step (Chg.of_below hb)⟩
theorem Asked.next {w0 W W1 C : World} {q : Nat} {P : AP} {part e st : Int} {vR : Value} {r : Ending} (h : Asked w0 W q P part e st vR r W1) (hc : Chg (fun k => k = q) C W) : AS w0 W1 q P part e st vR ∧ Chg (fun k => k = q) C W1 := ⟨h.stt, hc.step h.chg⟩
def headE (P : AP) (e : Int) : Int := needE (decide ((P.threads.length : Int) ≤ 4)) 3 (needE (decide (0 < P.threads.length)) 1 (needE (decide ((P.init.length : Int) ≤ 4)) 3 (needE (decide (2 ≤ P.vals) && decide (P.vals ≤ 4)) 1 (needE (nameB P.nm) 4 e))))
set_option maxHeartbeats 2000000 in
theorem head_true (w0 W : World) (q : Nat) (P : AP) (part e st : Int) (vR : Value) (h : AS w0 W q P part e st vR) (h2 : decide (2 ≤ P.vals) = true) :
    Calls Try.prog 40 #[.pointer (some ⟨q, 0, none⟩)] W (Asked w0 W q P part (headE P e) st vR) := by
  have HS := Aside0.mk (And.intro h (Chg.refl (fun k => k = q) W))
  have hN := Aside0.mk h.dat.nm
  have h2' := Aside0.mk h2
  clear h
  obtain ⟨c0, c1, c2, c3, c4, c5, c6, c7, c8, c9, c10, c11, c12, c13⟩ := HS.out.1.cells
  go_enter Try.func40, Try.ntmps40
  go_wp2_with fail
  refine (name_any P.nm hN.out _).mono ?_
  rintro r w1 ⟨rfl, hb⟩
  have HS := Aside0.mk (AS.move HS.out hb)
  clear c0 c1 c2 c3 c4 c5 c6 c7 c8 c9 c10 c11 c12 c13 hb
  obtain ⟨c0, c1, c2, c3, c4, c5, c6, c7, c8, c9, c10, c11, c12, c13⟩ := HS.out.1.cells
  go_wp2_with fail
  refine (need w0 _ q P _ _ _ _ HS.out.1 _ _).mono ?_
  rintro r w1 hA
  obtain rfl := hA.ret
  have HS := Aside0.mk (hA.next HS.out.2)
  clear c0 c1 c2 c3 c4 c5 c6 c7 c8 c9 c10 c11 c12 c13 hA
  obtain ⟨c0, c1, c2, c3, c4, c5, c6, c7, c8, c9, c10, c11, c12, c13⟩ := HS.out.1.cells
  go_wp2_with fail
  refine (need w0 _ q P _ _ _ _ HS.out.1 _ _).mono ?_
  rintro r w1 hA
  obtain rfl := hA.ret
  have HS := Aside0.mk (hA.next HS.out.2)
  clear c0 c1 c2 c3 c4 c5 c6 c7 c8 c9 c10 c11 c12 c13 hA
  obtain ⟨c0, c1, c2, c3, c4, c5, c6, c7, c8, c9, c10, c11, c12, c13⟩ := HS.out.1.cells
  go_wp2_with fail
  refine (need w0 _ q P _ _ _ _ HS.out.1 _ _).mono ?_
  rintro r w1 hA
  obtain rfl := hA.ret
  have HS := Aside0.mk (hA.next HS.out.2)
  clear c0 c1 c2 c3 c4 c5 c6 c7 c8 c9 c10 c11 c12 c13 hA
  obtain ⟨c0, c1, c2, c3, c4, c5, c6, c7, c8, c9, c10, c11, c12, c13⟩ := HS.out.1.cells
  go_wp2_with fail
  refine (need w0 _ q P _ _ _ _ HS.out.1 _ _).mono ?_
  rintro r w1 hA
  obtain rfl := hA.ret
  have HS := Aside0.mk (hA.next HS.out.2)
  clear c0 c1 c2 c3 c4 c5 c6 c7 c8 c9 c10 c11 c12 c13 hA
  obtain ⟨c0, c1, c2, c3, c4, c5, c6, c7, c8, c9, c10, c11, c12, c13⟩ := HS.out.1.cells
  go_wp2_with fail
  refine (need w0 _ q P _ _ _ _ HS.out.1 _ _).mono ?_
  rintro r w1 hA
  obtain rfl := hA.ret
  have HS := Aside0.mk (hA.next HS.out.2)
  clear c0 c1 c2 c3 c4 c5 c6 c7 c8 c9 c10 c11 c12 c13 hA
  go_wp2
  go_end0
  refine ⟨rfl, ?_, HS.out.2⟩
  have := HS.out.1
  unfold headE
  rw [h2'.out]
  simpa using this
set_option maxHeartbeats 2000000 in
theorem head_false (w0 W : World) (q : Nat) (P : AP) (part e st : Int) (vR : Value) (h : AS w0 W q P part e st vR) (h2 : decide (2 ≤ P.vals) = false) :
    Calls Try.prog 40 #[.pointer (some ⟨q, 0, none⟩)] W (Asked w0 W q P part (headE P e) st vR) := by
  have HS := Aside0.mk (And.intro h (Chg.refl (fun k => k = q) W))
  have hN := Aside0.mk h.dat.nm
  have h2' := Aside0.mk h2
  clear h
  obtain ⟨c0, c1, c2, c3, c4, c5, c6, c7, c8, c9, c10, c11, c12, c13⟩ := HS.out.1.cells
  go_enter Try.func40, Try.ntmps40
  go_wp2_with fail
  refine (name_any P.nm hN.out _).mono ?_
  rintro r w1 ⟨rfl, hb⟩
  have HS := Aside0.mk (AS.move HS.out hb)
  clear c0 c1 c2 c3 c4 c5 c6 c7 c8 c9 c10 c11 c12 c13 hb
  obtain ⟨c0, c1, c2, c3, c4, c5, c6, c7, c8, c9, c10, c11, c12, c13⟩ := HS.out.1.cells
  go_wp2_with fail
  refine (need w0 _ q P _ _ _ _ HS.out.1 _ _).mono ?_
  rintro r w1 hA
  obtain rfl := hA.ret
  have HS := Aside0.mk (hA.next HS.out.2)
  clear c0 c1 c2 c3 c4 c5 c6 c7 c8 c9 c10 c11 c12 c13 hA
  obtain ⟨c0, c1, c2, c3, c4, c5, c6, c7, c8, c9, c10, c11, c12, c13⟩ := HS.out.1.cells
  go_wp2_with fail
  refine (need w0 _ q P _ _ _ _ HS.out.1 _ _).mono ?_
  rintro r w1 hA
  obtain rfl := hA.ret
  have HS := Aside0.mk (hA.next HS.out.2)
  clear c0 c1 c2 c3 c4 c5 c6 c7 c8 c9 c10 c11 c12 c13 hA
  obtain ⟨c0, c1, c2, c3, c4, c5, c6, c7, c8, c9, c10, c11, c12, c13⟩ := HS.out.1.cells
  go_wp2_with fail
  refine (need w0 _ q P _ _ _ _ HS.out.1 _ _).mono ?_
  rintro r w1 hA
  obtain rfl := hA.ret
  have HS := Aside0.mk (hA.next HS.out.2)
  clear c0 c1 c2 c3 c4 c5 c6 c7 c8 c9 c10 c11 c12 c13 hA
  obtain ⟨c0, c1, c2, c3, c4, c5, c6, c7, c8, c9, c10, c11, c12, c13⟩ := HS.out.1.cells
  go_wp2_with fail
  refine (need w0 _ q P _ _ _ _ HS.out.1 _ _).mono ?_
  rintro r w1 hA
  obtain rfl := hA.ret
  have HS := Aside0.mk (hA.next HS.out.2)
  clear c0 c1 c2 c3 c4 c5 c6 c7 c8 c9 c10 c11 c12 c13 hA
  obtain ⟨c0, c1, c2, c3, c4, c5, c6, c7, c8, c9, c10, c11, c12, c13⟩ := HS.out.1.cells
  go_wp2_with fail
  refine (need w0 _ q P _ _ _ _ HS.out.1 _ _).mono ?_
  rintro r w1 hA
  obtain rfl := hA.ret
  have HS := Aside0.mk (hA.next HS.out.2)
  clear c0 c1 c2 c3 c4 c5 c6 c7 c8 c9 c10 c11 c12 c13 hA
  go_wp2
  go_end0
  refine ⟨rfl, ?_, HS.out.2⟩
  have := HS.out.1
  unfold headE
  rw [h2'.out]
  simpa using this
theorem head (w0 W : World) (q : Nat) (P : AP) (part e st : Int) (vR : Value) (h : AS w0 W q P part e st vR) : Calls Try.prog 40 #[.pointer (some ⟨q, 0, none⟩)] W (Asked w0 W q P part (headE P e) st vR) := by
  cases h2 : decide (2 ≤ P.vals) with
  | true => exact head_true w0 W q P part e st vR h h2
  | false => exact head_false w0 W q P part e st vR h h2
def noneE (op th : Int) (nm : ByteArray) (n : Int) (e : Int) : Int := needE ((th == 0) && (nm.toList == []) && (n == 0)) 1 e
set_option maxHeartbeats 2000000 in
theorem none_1 (w0 W : World) (q : Nat) (P : AP) (part e st : Int) (vR : Value) (h : AS w0 W q P part e st vR) (op th : Int) (nm : ByteArray) (n : Int) (AK : Option Addr) (kl cK : Nat) (h1 : (th == 0) = false) :
    Calls Try.prog 100 #[.pointer (some ⟨q, 0, none⟩), .agg #[.int .i64 op, .int .i64 th, .string nm, .int .i64 n, .slice AK kl cK]] W (Asked w0 W q P part (needE false 1 e) st vR) := by
  have HS := Aside0.mk (And.intro h (Chg.refl (fun k => k = q) W))
  clear h
  go_enter Try.func100, Try.ntmps100
  go_wp2_with fail
  refine (need w0 _ q P _ _ _ _ (HS.out.1.step (below_alloc (Below.refl _ _) _)) _ _).mono ?_
  rintro r w1 hA
  obtain rfl := hA.ret
  have HS := Aside0.mk (hA.next (HS.out.2.step (Chg.of_below (below_alloc (Below.refl _ _) _))))
  clear hA
  go_wp2
  go_end0
  exact ⟨rfl, HS.out.1, HS.out.2⟩
set_option maxHeartbeats 2000000 in
theorem none_2 (w0 W : World) (q : Nat) (P : AP) (part e st : Int) (vR : Value) (h : AS w0 W q P part e st vR) (op th : Int) (nm : ByteArray) (n : Int) (AK : Option Addr) (kl cK : Nat) (h1 : (th == 0) = true) (h2 : (nm.toList == []) = false) :
    Calls Try.prog 100 #[.pointer (some ⟨q, 0, none⟩), .agg #[.int .i64 op, .int .i64 th, .string nm, .int .i64 n, .slice AK kl cK]] W (Asked w0 W q P part (needE false 1 e) st vR) := by
  have HS := Aside0.mk (And.intro h (Chg.refl (fun k => k = q) W))
  clear h
  have h3 : ¬ nm.toList = [] := by simpa using h2
  have h4 : (!nm.toList.isEmpty) = true := by simpa using h3
  go_enter Try.func100, Try.ntmps100
  go_wp2_with fail
  refine (need w0 _ q P _ _ _ _ (HS.out.1.step (below_alloc (Below.refl _ _) _)) _ _).mono ?_
  rintro r w1 hA
  obtain rfl := hA.ret
  have HS := Aside0.mk (hA.next (HS.out.2.step (Chg.of_below (below_alloc (Below.refl _ _) _))))
  clear hA
  go_wp2
  go_end0
  exact ⟨rfl, HS.out.1, HS.out.2⟩
set_option maxHeartbeats 2000000 in
theorem none_3 (w0 W : World) (q : Nat) (P : AP) (part e st : Int) (vR : Value) (h : AS w0 W q P part e st vR) (op th : Int) (nm : ByteArray) (n : Int) (AK : Option Addr) (kl cK : Nat) (h1 : (th == 0) = true) (h2 : (nm.toList == []) = true) :
    Calls Try.prog 100 #[.pointer (some ⟨q, 0, none⟩), .agg #[.int .i64 op, .int .i64 th, .string nm, .int .i64 n, .slice AK kl cK]] W (Asked w0 W q P part (needE (n == 0) 1 e) st vR) := by
  have HS := Aside0.mk (And.intro h (Chg.refl (fun k => k = q) W))
  clear h
  have h3 : nm.toList = [] := by simpa using h2
  go_enter Try.func100, Try.ntmps100
  go_wp2_with fail
  refine (need w0 _ q P _ _ _ _ (HS.out.1.step (below_alloc (Below.refl _ _) _)) _ _).mono ?_
  rintro r w1 hA
  obtain rfl := hA.ret
  have HS := Aside0.mk (hA.next (HS.out.2.step (Chg.of_below (below_alloc (Below.refl _ _) _))))
  clear hA
  go_wp2
  go_end0
  exact ⟨rfl, HS.out.1, HS.out.2⟩
theorem none_any (w0 W : World) (q : Nat) (P : AP) (part e st : Int) (vR : Value) (h : AS w0 W q P part e st vR) (op th : Int) (nm : ByteArray) (n : Int) (AK : Option Addr) (kl cK : Nat) : Calls Try.prog 100 #[.pointer (some ⟨q, 0, none⟩), .agg #[.int .i64 op, .int .i64 th, .string nm, .int .i64 n, .slice AK kl cK]] W (Asked w0 W q P part (noneE op th nm n e) st vR) := by
  unfold noneE
  cases h1 : (th == 0) with
  | false => exact none_1 w0 W q P part e st vR h op th nm n AK kl cK h1
  | true =>
    cases h2 : (nm.toList == []) with
    | false => exact none_2 w0 W q P part e st vR h op th nm n AK kl cK h1 h2
    | true => exact none_3 w0 W q P part e st vR h op th nm n AK kl cK h1 h2
def memE (P : AP) (op th : Int) (nm : ByteArray) (n : Int) (e : Int) : Int := needE (valB P.vals n) 1 (needE (locB P.init nm) 4 (needE (th == 0) 1 e))
set_option maxHeartbeats 2000000 in
theorem mem (w0 W : World) (q : Nat) (P : AP) (part e st : Int) (vR : Value) (h : AS w0 W q P part e st vR) (op th : Int) (nm : ByteArray) (n : Int) (AK : Option Addr) (kl cK : Nat) :
    Calls Try.prog 101 #[.pointer (some ⟨q, 0, none⟩), .agg #[.int .i64 op, .int .i64 th, .string nm, .int .i64 n, .slice AK kl cK]] W (Asked w0 W q P part (memE P op th nm n e) st vR) := by
  have HS := Aside0.mk (And.intro h (Chg.refl (fun k => k = q) W))
  clear h
  go_enter Try.func101, Try.ntmps101
  go_wp2_with fail
  have HX := Aside0.mk (blk_new W (.cells #[.int .i64 op, .int .i64 th, .string nm, .int .i64 n, .slice AK kl cK] 26 (0, 0)))
  have HQ := Aside0.mk (show ¬ W.heap.size = q from by have := HS.out.1.lt; omega)
  refine (need w0 _ q P _ _ _ _ (HS.out.1.step (below_alloc (Below.refl _ _) _)) _ _).mono ?_
  rintro r w1 hA
  obtain rfl := hA.ret
  have HS := Aside0.mk (hA.next (HS.out.2.step (Chg.of_below (below_alloc (Below.refl _ _) _))))
  have HX := Aside0.mk (hA.chg.heap HX.out HQ.out)
  clear hA
  have x2 := (blk_cell HX.out 2).trans rfl
  go_wp2_with fail
  refine (loc w0 _ q P _ _ _ _ HS.out.1 nm).mono ?_
  rintro r w2 ⟨rfl, hb⟩
  have HS := Aside0.mk (AS.move HS.out hb)
  have HX := Aside0.mk (blk_below HX.out hb)
  clear hb x2
  go_wp2_with fail
  refine (need w0 _ q P _ _ _ _ HS.out.1 _ _).mono ?_
  rintro r w3 hA
  obtain rfl := hA.ret
  have HS := Aside0.mk (hA.next HS.out.2)
  have HX := Aside0.mk (hA.chg.heap HX.out HQ.out)
  clear hA
  have x3 := (blk_cell HX.out 3).trans rfl
  go_wp2_with fail
  refine (value w0 _ q P _ _ _ _ HS.out.1 n).mono ?_
  rintro r w4 ⟨rfl, rfl⟩
  go_wp2_with fail
  refine (need w0 _ q P _ _ _ _ HS.out.1 _ _).mono ?_
  rintro r w4 hA
  obtain rfl := hA.ret
  have HS := Aside0.mk (hA.next HS.out.2)
  clear hA x3
  go_wp2
  go_end0
  exact ⟨rfl, HS.out.1, HS.out.2⟩
end Go.Proofs.Ytlhbnbckanmaiaa.K
namespace Go.Proofs.Ytlhbnbckanmaiaa.K
open Go Go.RowKit Go.Proofs.YtlhbnbckanmaiaaW.PrintWords Go.Proofs.YtlhbnbckanmaiaaW.PrintLast Go.Proofs.YtlhbnbckanmaiaaW.PrintMore Go.Proofs.Ytlhbnbckanmaiaa.PC1
set_option linter.unusedVariables false
set_option linter.unusedSimpArgs false
theorem slice_head (ty el : TypeId) (sz by_ : Nat) (z : Value) (hu : Try.prog.underlying ty = some (.slice el)) (hi : (Try.prog.info? el).map (fun i => (i.zero, i.size, i.bytes)) = some (some z, sz, by_)) (A : Option Addr) (n c i : Nat) (hin : i ≤ c) (W : World) :
    (Instr.slice ty (.slice A n c) none (some (.int .i64 (i : Int))) none).run Try.prog W = .ok (.slice A i c) W := by
  obtain ⟨i0, hi0, hzz⟩ := Option.map_eq_some_iff.1 hi
  simp only [Prod.mk.injEq] at hzz
  have hsz := hzz.2.1
  have hel : Try.prog.elem ty = el := by simp [Program.elem, hu]
  have ha : (A.map fun x => x.add 0) = A := by cases A <;> simp [Addr.add]
  rw [run_slice_h W ty A n c (by rw [hel]; exact hu) .i64 (i : Int) (by omega) (by omega), hel]
  simp [sizeOf, typeInfo, hi0, hsz, sliced, Result.andThen, ha]
theorem infoCell : (Try.prog.info? 51).map (fun i => (i.zero, i.size, i.bytes)) = some (some (.agg #[.string ⟨#[]⟩, .int .i64 0]), 2, 24) := by kernel_rfl
def cellAt (P : AP) (i : Nat) : TCell := rd_T51 P.init (i : Int)
theorem cellAt_eq (P : AP) (i : Nat) (hi : i < P.init.length) : cellAt P i = P.init[i] := by
  unfold cellAt rd_T51; rw [Int.toNat_natCast, List.getD_eq_getElem?_getD, List.getElem?_eq_getElem hi]; rfl
def initE (P : AP) (i : Nat) (e : Int) : Int := needE (valB P.vals (cellAt P i).f1) 1 (needE (nameB (cellAt P i).f0 && !(locB (P.init.take i) (cellAt P i).f0)) 4 e)
set_option maxHeartbeats 2000000 in
theorem init_true (w0 W : World) (q : Nat) (P : AP) (part e st : Int) (vR : Value) (h : AS w0 W q P part e st vR) (i : Nat) (hi : i < P.init.length) (hn : nameB (cellAt P i).f0 = true) :
    Calls Try.prog 42 #[.pointer (some ⟨q, 0, none⟩), .int .i64 (i : Int)] W (Asked w0 W q P part (initE P i e) st vR) := by
  have HS := Aside0.mk (And.intro h (Chg.refl (fun k => k = q) W))
  have HN := Aside0.mk hn
  have hsz : (cellAt P i).f0.size ≤ 1000 := by rw [cellAt_eq P i hi]; exact h.dat.na _ (List.getElem_mem hi)
  obtain ⟨ad, hA, h0, h1⟩ := at_T51 (Kd.C_below h.dat.ci h.bel) (i : Int) (by omega) (by omega)
  change W.cell? _ = some (.string (cellAt P i).f0) at h0
  change W.cell? _ = some (.int .i64 (cellAt P i).f1) at h1
  rw [Int.toNat_natCast] at h0 h1
  have hs : ∀ w, (Instr.slice 22 (.slice (some ad) P.init.length P.cI) none (some (.int .i64 (i : Int))) none).run Try.prog w = .ok (.slice (some ad) i P.cI) w := fun w => slice_head 22 51 2 24 _ Try.underlying22 infoCell _ _ _ i (by have := h.dat.li; omega) w
  obtain ⟨c0, c1, c2, c3, c4, c5, c6, c7, c8, c9, c10, c11, c12, c13⟩ := h.cells
  clear c0 c1 c3 c4 c5 c6 c7 c8 c9 c10 c11 c12 c13
  rw [hA] at c2
  have hlt := h.lt
  have HL := Aside0.mk (And.intro hi hA)
  have hi2 : (i : Int) < (P.init.length : Int) := by omega
  have HZ := Aside0.mk (And.intro hsz hn)
  clear hn hsz h hi hA
  have hmf : ∀ (fn : Fn) (first cap : Array Value) (w : World), (Instr.makeFunc fn first cap).run Try.prog w = .ok (.func fn first cap) w := fun _ _ _ _ => rfl
  have HQ := Aside0.mk (show ¬ W.heap.size = q from by omega)
  go_enter Try.func42, Try.ntmps42
  go_wp2_with fail
  refine (name_any _ HZ.out.1 _).mono ?_
  rintro r w1 ⟨rfl, hb⟩
  have HX := Aside0.mk (blk_below (blk_new W _) hb)
  have HS := Aside0.mk (AS.move (AS.move HS.out (below_alloc (Below.refl _ _) _)) hb)
  have HY := Aside0.mk (below_step (below_alloc (Below.refl _ _) _) hb)
  rw [HZ.out.2]
  clear hb
  obtain ⟨c0, c1, c2', c3, c4, c5, c6, c7, c8, c9, c10, c11, c12, c13⟩ := HS.out.1.cells
  clear c0 c1 c2 c3 c4 c5 c6 c7 c8 c9 c10 c11 c12 c13 h0 h1 hlt
  rw [HL.out.2] at c2'
  go_wp2_with fail
  have hT := Kd.C_take (Kd.C_below HS.out.1.dat.ci HS.out.1.bel) (m := i) (by have := HL.out.1; omega)
  rw [HL.out.2] at hT
  have hTl : (P.init.take i).length = i := by have := HL.out.1; rw [List.length_take]; omega
  have HC := (has_init w1 W.heap.size (cellAt P i).f0 (some ad) P.cI (P.init.take i) ((blk_cell HX.out 0).trans rfl) hT (by have := HS.out.1.dat.ni; have := HL.out.1; omega))
  rw [hTl] at HC
  refine HC.mono ?_
  clear HC hT hTl
  rintro r w2 ⟨rfl, hb⟩
  have HX := Aside0.mk (blk_below HX.out hb)
  have HS := Aside0.mk (AS.move HS.out hb)
  clear hb c2'
  go_wp2_with fail
  refine (need w0 _ q P _ _ _ _ HS.out.1 _ _).mono ?_
  rintro r w3 hA
  obtain rfl := hA.ret
  have HS := Aside0.mk (hA.next HS.out.2)
  have HX := Aside0.mk (hA.chg.heap HX.out HQ.out)
  clear hA
  have x1 := (blk_cell HX.out 1).trans rfl
  go_wp2_with fail
  refine (value w0 _ q P _ _ _ _ HS.out.1 _).mono ?_
  rintro r w4 ⟨rfl, rfl⟩
  go_wp2_with fail
  refine (need w0 _ q P _ _ _ _ HS.out.1 _ _).mono ?_
  rintro r w4 hA
  obtain rfl := hA.ret
  have HS := Aside0.mk (hA.next HS.out.2)
  clear hA x1
  go_wp2
  go_end0
  refine ⟨rfl, ?_, HS.out.2⟩
  have := HS.out.1
  unfold initE locB
  rw [HZ.out.2]
  simpa using this
set_option maxHeartbeats 2000000 in
theorem init_false (w0 W : World) (q : Nat) (P : AP) (part e st : Int) (vR : Value) (h : AS w0 W q P part e st vR) (i : Nat) (hi : i < P.init.length) (hn : nameB (cellAt P i).f0 = false) :
    Calls Try.prog 42 #[.pointer (some ⟨q, 0, none⟩), .int .i64 (i : Int)] W (Asked w0 W q P part (initE P i e) st vR) := by
  have HS := Aside0.mk (And.intro h (Chg.refl (fun k => k = q) W))
  have HN := Aside0.mk hn
  have hsz : (cellAt P i).f0.size ≤ 1000 := by rw [cellAt_eq P i hi]; exact h.dat.na _ (List.getElem_mem hi)
  obtain ⟨ad, hA, h0, h1⟩ := at_T51 (Kd.C_below h.dat.ci h.bel) (i : Int) (by omega) (by omega)
  change W.cell? _ = some (.string (cellAt P i).f0) at h0
  change W.cell? _ = some (.int .i64 (cellAt P i).f1) at h1
  rw [Int.toNat_natCast] at h0 h1
  have hs : ∀ w, (Instr.slice 22 (.slice (some ad) P.init.length P.cI) none (some (.int .i64 (i : Int))) none).run Try.prog w = .ok (.slice (some ad) i P.cI) w := fun w => slice_head 22 51 2 24 _ Try.underlying22 infoCell _ _ _ i (by have := h.dat.li; omega) w
  obtain ⟨c0, c1, c2, c3, c4, c5, c6, c7, c8, c9, c10, c11, c12, c13⟩ := h.cells
  clear c0 c1 c3 c4 c5 c6 c7 c8 c9 c10 c11 c12 c13
  rw [hA] at c2
  have hlt := h.lt
  have HL := Aside0.mk (And.intro hi hA)
  have hi2 : (i : Int) < (P.init.length : Int) := by omega
  have HZ := Aside0.mk (And.intro hsz hn)
  clear hn hsz h hi hA
  have hmf : ∀ (fn : Fn) (first cap : Array Value) (w : World), (Instr.makeFunc fn first cap).run Try.prog w = .ok (.func fn first cap) w := fun _ _ _ _ => rfl
  have HQ := Aside0.mk (show ¬ W.heap.size = q from by omega)
  go_enter Try.func42, Try.ntmps42
  go_wp2_with fail
  refine (name_any _ HZ.out.1 _).mono ?_
  rintro r w1 ⟨rfl, hb⟩
  have HX := Aside0.mk (blk_below (blk_new W _) hb)
  have HS := Aside0.mk (AS.move (AS.move HS.out (below_alloc (Below.refl _ _) _)) hb)
  have HY := Aside0.mk (below_step (below_alloc (Below.refl _ _) _) hb)
  rw [HZ.out.2]
  clear hb
  obtain ⟨c0, c1, c2', c3, c4, c5, c6, c7, c8, c9, c10, c11, c12, c13⟩ := HS.out.1.cells
  clear c0 c1 c2 c3 c4 c5 c6 c7 c8 c9 c10 c11 c12 c13 h0 h1 hlt
  rw [HL.out.2] at c2'
  go_wp2_with fail
  refine (need w0 _ q P _ _ _ _ HS.out.1 _ _).mono ?_
  rintro r w3 hA
  obtain rfl := hA.ret
  have HS := Aside0.mk (hA.next HS.out.2)
  have HX := Aside0.mk (hA.chg.heap HX.out HQ.out)
  clear hA
  have x1 := (blk_cell HX.out 1).trans rfl
  go_wp2_with fail
  refine (value w0 _ q P _ _ _ _ HS.out.1 _).mono ?_
  rintro r w4 ⟨rfl, rfl⟩
  go_wp2_with fail
  refine (need w0 _ q P _ _ _ _ HS.out.1 _ _).mono ?_
  rintro r w4 hA
  obtain rfl := hA.ret
  have HS := Aside0.mk (hA.next HS.out.2)
  clear hA x1
  go_wp2
  go_end0
  refine ⟨rfl, ?_, HS.out.2⟩
  have := HS.out.1
  unfold initE locB
  rw [HZ.out.2]
  simpa using this
theorem init_any (w0 W : World) (q : Nat) (P : AP) (part e st : Int) (vR : Value) (h : AS w0 W q P part e st vR) (i : Nat) (hi : i < P.init.length) :
    Calls Try.prog 42 #[.pointer (some ⟨q, 0, none⟩), .int .i64 (i : Int)] W (Asked w0 W q P part (initE P i e) st vR) := by
  cases hn : nameB (cellAt P i).f0 with
  | true => exact init_true w0 W q P part e st vR h i hi hn
  | false => exact init_false w0 W q P part e st vR h i hi hn
end Go.Proofs.Ytlhbnbckanmaiaa.K
namespace Go.Proofs.Ytlhbnbckanmaiaa.K
open Go Go.RowKit Go.Proofs.YtlhbnbckanmaiaaW.PrintWords Go.Proofs.YtlhbnbckanmaiaaW.PrintLast Go.Proofs.YtlhbnbckanmaiaaW.PrintMore Go.Proofs.Ytlhbnbckanmaiaa.PC1
set_option linter.unusedVariables false
set_option linter.unusedSimpArgs false
mutual
def smE : TExpr → Prop
  | ⟨_, _, nm, kids⟩ => nm.size ≤ 1000 ∧ kids.length ≤ 1000 ∧ smEs kids
def smEs : List TExpr → Prop
  | [] => True
  | x :: xs => smE x ∧ smEs xs
end
mutual
def smC : TCond → Prop
  | ⟨_, _, nm, _, kids⟩ => nm.size ≤ 1000 ∧ kids.length ≤ 1000 ∧ smCs kids
def smCs : List TCond → Prop
  | [] => True
  | x :: xs => smC x ∧ smCs xs
end
mutual
def smS : TStmt → Prop
  | ⟨_, _, r, l, a, t, e⟩ => r.size ≤ 1000 ∧ l.size ≤ 1000 ∧ a.length ≤ 1000 ∧ smEs a ∧ t.length ≤ 1000 ∧ smSs t ∧ e.length ≤ 1000 ∧ smSs e
def smSs : List TStmt → Prop
  | [] => True
  | x :: xs => smS x ∧ smSs xs
end
theorem smE_def (x : TExpr) : smE x ↔ (x.f2.size ≤ 1000 ∧ x.f3.length ≤ 1000 ∧ smEs x.f3) := by cases x; rw [smE]
theorem smC_def (x : TCond) : smC x ↔ (x.f2.size ≤ 1000 ∧ x.f4.length ≤ 1000 ∧ smCs x.f4) := by cases x; rw [smC]
theorem smS_def (x : TStmt) : smS x ↔ (x.f2.size ≤ 1000 ∧ x.f3.size ≤ 1000 ∧ x.f4.length ≤ 1000 ∧ smEs x.f4 ∧ x.f5.length ≤ 1000 ∧ smSs x.f5 ∧ x.f6.length ≤ 1000 ∧ smSs x.f6) := by cases x; rw [smS]
theorem smEs_get : ∀ (l : List TExpr) (i : Nat) (hi : i < l.length), smEs l → smE l[i]
  | [], i, hi, _ => by simp at hi
  | x :: xs, 0, _, h => by rw [smEs] at h; exact h.1
  | x :: xs, i + 1, hi, h => by rw [smEs] at h; exact smEs_get xs i (by simpa using hi) h.2
theorem smCs_get : ∀ (l : List TCond) (i : Nat) (hi : i < l.length), smCs l → smC l[i]
  | [], i, hi, _ => by simp at hi
  | x :: xs, 0, _, h => by rw [smCs] at h; exact h.1
  | x :: xs, i + 1, hi, h => by rw [smCs] at h; exact smCs_get xs i (by simpa using hi) h.2
theorem smSs_get : ∀ (l : List TStmt) (i : Nat) (hi : i < l.length), smSs l → smS l[i]
  | [], i, hi, _ => by simp at hi
  | x :: xs, 0, _, h => by rw [smSs] at h; exact h.1
  | x :: xs, i + 1, hi, h => by rw [smSs] at h; exact smSs_get xs i (by simpa using hi) h.2
theorem rdE_eq (l : List TExpr) (i : Nat) (hi : i < l.length) : rd_T57 l (i : Int) = l[i] := by
  unfold rd_T57; rw [Int.toNat_natCast, List.getD_eq_getElem?_getD, List.getElem?_eq_getElem hi]; rfl
theorem rdC_eq (l : List TCond) (i : Nat) (hi : i < l.length) : rd_T26 l (i : Int) = l[i] := by
  unfold rd_T26; rw [Int.toNat_natCast, List.getD_eq_getElem?_getD, List.getElem?_eq_getElem hi]; rfl
theorem rdS_eq (l : List TStmt) (i : Nat) (hi : i < l.length) : rd_T55 l (i : Int) = l[i] := by
  unfold rd_T55; rw [Int.toNat_natCast, List.getD_eq_getElem?_getD, List.getElem?_eq_getElem hi]; rfl
/-! ### how deep -/
def depE : Nat → TExpr → Int
  | 0, _ => 1
  | n + 1, x => (x.f3.foldl (fun a k => max a (depE n k)) 0) + 1
def depC : Nat → TCond → Int
  | 0, _ => 1
  | n + 1, x => (x.f4.foldl (fun a k => max a (depC n k)) 0) + 1
theorem fold_bd {α : Type} (f : α → Int) (N : Int) : ∀ (l : List α) (a : Int), 0 ≤ a → a ≤ N → (∀ k, 0 ≤ f k ∧ f k ≤ N) → 0 ≤ l.foldl (fun a k => max a (f k)) a ∧ l.foldl (fun a k => max a (f k)) a ≤ N
  | [], a, h0, h1, _ => ⟨h0, h1⟩
  | x :: xs, a, h0, h1, h => by
    have := h x
    exact fold_bd f N xs (max a (f x)) (by omega) (by omega) h
theorem depE_bd : ∀ (n : Nat) (x : TExpr), 0 ≤ depE n x ∧ depE n x ≤ (n : Int) + 1
  | 0, x => by simp [depE]
  | n + 1, x => by
    have := fold_bd (depE n) ((n : Int) + 1) x.f3 0 (by omega) (by omega) (fun k => depE_bd n k)
    unfold depE
    omega
theorem depC_bd : ∀ (n : Nat) (x : TCond), 0 ≤ depC n x ∧ depC n x ≤ (n : Int) + 1
  | 0, x => by simp [depC]
  | n + 1, x => by
    have := fold_bd (depC n) ((n : Int) + 1) x.f4 0 (by omega) (by omega) (fun k => depC_bd n k)
    unfold depC
    omega
theorem fold_snoc {α : Type} (f : α → Int) (l : List α) (i : Nat) (hi : i < l.length) : (l.take (i + 1)).foldl (fun a k => max a (f k)) 0 = max ((l.take i).foldl (fun a k => max a (f k)) 0) (f l[i]) := by
  rw [List.take_succ_eq_append_getElem hi, List.foldl_append]; rfl
end Go.Proofs.Ytlhbnbckanmaiaa.K
