/- A text of a claim: it proves what its last theorem states, for every input that the given row speaks of; conditions of ours: none. Written by this claim's own program (wip/tools/xprint.py) over the kit's printer. -/
import Derived.Test.YtpkhcmholpljnaaProg
import Derived.Below
import Derived.Deep.Draws
import Derived.Deep.AppendLies
import Derived.Maps.AppendAt
import Derived.OwnWalk
import Derived.Laws.BytesArg
import Derived.Laws.MakeOwn
import Derived.Laws.OwnMore
import Derived.Deep.OwnRows
import Derived.Tactics
import Derived.Lib.ConvBytes
import Derived.Laws.Slices
import Derived.WalkKit
import Derived.KernelRfl
import Derived.RowKit3
import Derived.Deep.LoopGhost
import Derived.Deep.QuietTactic
import Derived.BigQuiet
import Derived.WideLaws
import Derived.Deep.DeepCutAuto
import Derived.Deep.CutBlock
import Derived.Deep.RegionHeld3
import Derived.Laws.Rows
import Derived.Lib.AppendStr
import Derived.ArgAppend
import Derived.Laws.IdiomCopy
import Derived.OrdersHeld
import Derived.Laws.BitsLemmas
import Derived.RowKit
import Derived.Test.YtpkhcmholpljnaaWWords
import Derived.Test.YtpkhcmholpljnaaWLast
import Derived.Test.YtpkhcmholpljnaaWTab
import Derived.Test.YtpkhcmholpljnaaWFour
import Derived.Test.YtpkhcmholpljnaaWQPut
import Derived.Test.YtpkhcmholpljnaaWApart
import Derived.Test.YtpkhcmholpljnaaWArr
import Derived.Test.YtpkhcmholpljnaaWZeros
import Derived.Test.YtpkhcmholpljnaaWFoot
import Derived.Test.YtpkhcmholpljnaaWKept
import Derived.Test.YtpkhcmholpljnaaWShare
import Derived.Test.YtpkhcmholpljnaaWN
import Derived.Test.YtpkhcmholpljnaaWFootNe
import Derived.Test.YtpkhcmholpljnaaWAt
import Derived.Test.YtpkhcmholpljnaaWEqStruct
import Derived.Test.YtpkhcmholpljnaaWRepsOne
import Derived.Test.YtpkhcmholpljnaaWInv
import Derived.Test.YtpkhcmholpljnaaWInvWords
import Derived.Test.YtpkhcmholpljnaaWGuard
import Derived.Test.YtpkhcmholpljnaaWNEv
import Derived.Test.YtpkhcmholpljnaaWMore
import Derived.ChangeArms
import Derived.DataReads
import Derived.DataElems
import Derived.OpenShut
import Derived.Test.YtpkhcmholpljnaaPE2x0
namespace Go.Proofs.Ytpkhcmholpljnaa.PE2
open Go.RowKit Go.Proofs.YtpkhcmholpljnaaW.PrintWords Go.Proofs.YtpkhcmholpljnaaW.PrintLast Go.Proofs.YtpkhcmholpljnaaW.PrintMore
attribute [local go_sem] max2_int min2_int max_two min_two max_three min_three max_four min_four   -- for this text's walks alone
set_option linter.unusedVariables false
set_option linter.unusedSimpArgs false

/-! ### what is read at a type is a value of its kind -/
theorem list_choose {α : Type} {p : Nat → α → Prop} : ∀ n, (∀ i, i < n → ∃ y, p i y) → ∃ l : List α, l.length = n ∧ ∀ i y, l[i]? = some y → p i y
  | 0, _ => ⟨[], rfl, fun i y h => by simp at h⟩
  | n + 1, h => by
    obtain ⟨l, hl, hp⟩ := list_choose n (fun i hi => h i (by omega))
    obtain ⟨y, hy⟩ := h n (by omega)
    refine ⟨l ++ [y], by simp [hl], fun i z hz => ?_⟩
    by_cases hi : i < l.length
    · rw [List.getElem?_append_left hi] at hz
      exact hp i z hz
    · rw [List.getElem?_append_right (by omega)] at hz
      by_cases hi2 : i - l.length = 0
      · rw [hi2] at hz
        simp at hz
        subst hz
        have : i = n := by omega
        subst this
        exact hy
      · obtain ⟨m, hm⟩ : ∃ m, i - l.length = m + 1 := ⟨i - l.length - 1, by omega⟩
        rw [hm] at hz
        simp at hz
def OpensAt {α : Type} (P : Program) (W : World) (d : Kd α) (t : TypeId) (n : Nat) : Prop :=
  ∀ (H : Type) (enc : TypeId × Value → H) (cs : List Value) (x : DataW H × List MemPlace), DataW.trod enc P W 0 (fun _ => true) true n t cs = some x → ∃ a, d.K W a cs
theorem opens_int {P : Program} {W : World} {t : TypeId} {k : IntKind} (ht : P.underlying t = some (.int k)) (n : Nat) : OpensAt P W (Kd.int k) t n := by
  intro H enc cs x h
  obtain ⟨v, rfl, _, _⟩ := DataW.trod_int ht h
  exact ⟨v, rfl⟩
theorem opens_bool {P : Program} {W : World} {t : TypeId} (ht : P.underlying t = some .bool) (n : Nat) : OpensAt P W Kd.bool t n := by
  intro H enc cs x h
  obtain ⟨v, rfl, _⟩ := DataW.trod_bool ht h
  exact ⟨v, rfl⟩
theorem opens_string {P : Program} {W : World} {t : TypeId} (ht : P.underlying t = some .string) (n : Nat) : OpensAt P W Kd.string t n := by
  intro H enc cs x h
  obtain ⟨v, rfl, _, _⟩ := DataW.trod_string ht h
  exact ⟨v, rfl⟩
theorem opens_slice {α : Type} {P : Program} {W : World} {d : Kd α} {t e : TypeId} (ht : P.underlying t = some (.slice e)) (hs : P.cellsOf e = d.sz) (n : Nat) (ih : ∀ m, m < n → OpensAt P W d e m) : OpensAt P W (Kd.slice e d) t n := by
  intro H enc cs x h
  rcases DataW.trod_slice ht h with ⟨rfl, _⟩ | ⟨a, len, cap, elems, rest, m, rfl, rfl, _, _, hl, hm, hlen, hel, _, _⟩
  · exact ⟨[], none, 0, rfl, Nat.le_refl _, rfl, by simp, fun h => absurd h (by simp)⟩
  · obtain ⟨l, hll, hp⟩ := list_choose (α := α) (p := fun i y => ∃ cs', W.cells? 0 (a.add (i * P.cellsOf e)) (P.cellsOf e) = some cs' ∧ d.K W y cs') len (fun i hi => by
      have h1 := hel i hi
      rw [List.getElem?_eq_getElem (by omega)] at h1
      obtain ⟨cs', h2, h3⟩ := Option.bind_eq_some_iff.1 h1
      obtain ⟨y, hy⟩ := ih m (by omega) H enc cs' _ h3
      exact ⟨y, cs', h2, hy⟩)
    refine ⟨l, some a, cap, by rw [hll], by omega, rfl, by rw [hll]; unfold maxLen at hm; omega, fun _ => ⟨a, rfl, fun j p hj => ?_⟩⟩
    obtain ⟨cs', h2, h3⟩ := hp j p hj
    obtain ⟨_, hcl, hcell⟩ := World.cells?_some h2
    refine ⟨cs', by omega, h3, fun i u hu => ?_⟩
    have hi : i < P.cellsOf e := by
      have := (List.getElem?_eq_some_iff.1 hu).1
      omega
    rw [← hs, ← hu, ← hcell i hi, Addr.add_add]
/-- A row of cells parts into what its fields take. -/
theorem part_cells (cs : List Value) (o s : Nat) : cs.drop o = (cs.drop o).take s ++ cs.drop (o + s) := by
  rw [← List.drop_drop, List.take_append_drop]

theorem opens_T44 {W : World} (n : Nat) : OpensAt Try.prog W k44 44 n := by
  induction n using Nat.strongRecOn with
  | _ n ih =>
  intro H enc cs x h
  obtain ⟨xs, m, rfl, _, hl, hx, hf⟩ := DataW.trod_array Try.underlying44 h
  have hn : Try.prog.cellsOf 44 = 2 := by kernel_rfl
  rw [hn] at hl
  clear hn
  obtain ⟨c0, c1, rfl⟩ : ∃ c0 c1 : Value, cs = [c0, c1] := by
    match cs, hl with
    | [c0, c1], _ => exact ⟨c0, c1, rfl⟩
  have e0 := hf 0 (by decide)
  rw [List.getElem?_eq_getElem (by rw [hx]; decide)] at e0
  obtain ⟨b0, k0_⟩ := (opens_int Try.underlying5 m) H enc _ _ e0
  replace k0_ : Kd.K (Kd.int .u8) W b0 [c0] := k0_
  clear e0
  have e1 := hf 1 (by decide)
  rw [List.getElem?_eq_getElem (by rw [hx]; decide)] at e1
  obtain ⟨b1, k1_⟩ := (opens_int Try.underlying5 m) H enc _ _ e1
  replace k1_ : Kd.K (Kd.int .u8) W b1 [c1] := k1_
  clear e1
  exact ⟨⟨b0, b1⟩, ⟨[c0], [c1], rfl, k0_, k1_⟩⟩

end Go.Proofs.Ytpkhcmholpljnaa.PE2
