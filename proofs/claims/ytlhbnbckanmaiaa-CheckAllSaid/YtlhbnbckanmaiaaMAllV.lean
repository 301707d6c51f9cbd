/- The statement CheckAll is proved: whether any program may be, what is wrong first, and its registers, as the given row says it; conditions: none of ours. -/
import Derived.Test.YtlhbnbckanmaiaaRows
import Derived.Test.YtlhbnbckanmaiaaNCV
import Derived.WalkKit
import Derived.ProofKit
import Derived.OpenShut
import Derived.ShutString
import Derived.ChangeOld
import Derived.Below
import Derived.SizedLaws
namespace Go.Proofs.Ytlhbnbckanmaiaa.checkAll
open Go.ChangeShapes Go.WideShapes Go.ChangeAt Go.RowKit
open Go.ChangeMaps (open_string shut_string)
set_option linter.unusedVariables false
theorem own : ownKnob Try.prog.godebug = none := by kernel_rfl
theorem laidOut : laidOutB Try.prog = true := by kernel_rfl
set_option maxRecDepth 100000 in
theorem lifted (os : Os) (started : os.Started) (H : Type) (enc : TypeId × Value → H) :
    ReturnsInHanded {} Try.checked os 3 .any (Rows.checkAllSpec.pre6 enc Try.prog Try.f3 Rows.checkAllRow.domain false) (Rows.checkAllSpec.post enc Try.prog Try.f3 false true false false) := by
  refine returnsInHanded_of_change_sized (C := Try.checked) own started (by kernel_rfl) Try.func3
    (ChangeSpec.witness6 (enc := enc) (C := Try.checked) false ⟨#[], #[.agg #[.string ByteArray.empty, .int .i64 0, .slice none 0 0, .slice none 0 0, .int .i64 0, .int .i64 0, .int .i64 0, .string ByteArray.empty, .int .i64 0, .slice none 0 0]], []⟩ 8 (by kernel_rfl) (by kernel_rfl) (by kernel_rfl) (by kernel_rfl)) ?_
  intro W base args ds gs before hval0 hW hcnd hsz0 _
  have hsz : (DataW.weightsEach Try.prog (Try.f3.params.toList ++ Rows.checkAllSpec.plain.varTypes Try.prog) (ds ++ gs)).all (· ≤ reachBytes) = true := hsz0
  have hval : ∀ (j : Nat) t v, Try.f3.params[j]? = some t → args[j]? = some v → Value.okWide Try.prog W .any base t v := hval0
  have hW' := hW
  obtain ⟨p, q, hA0, hV, rfl, hfz, hnd⟩ := hW
  have hA : DataW.TrodAll enc Try.prog W 0 (fun _ => true) true Try.f3.params.toList args.toList ds p := hA0
  rw [Try.params3] at hA hval hsz
  obtain ⟨v0, vs0, d0, ds0, p0, q0, hargs, rfl, rfl, h0, r0⟩ := trodAll_cons hA
  obtain ⟨rfl, rfl, rfl⟩ := trodAll_nil r0
  obtain rfl : args = #[v0] := by cases args; simp_all
  obtain ⟨rfl, rfl⟩ := trodVars_none hV
  have k0 := h0
  have lt0 : ∀ x ∈ p0, x.block < W.heap.size := by obtain ⟨m, hm⟩ := k0; exact DataW.trod_lt m _ _ _ hm
  obtain ⟨cs0, rfl, hs0⟩ := okWide_struct Try.underlying28 (hval 0 28 v0 rfl rfl)
  obtain ⟨fu0, hf0⟩ := h0
  obtain ⟨s0, hK0⟩ := (K.opens_T28 fu0) H enc _ _ hf0
  obtain ⟨A2, c2, A3, c3, A9, c9, z0, l2, g2, l3, g3, l9, g9⟩ := PC1.k28_open hK0
  replace z0 : cs0.toList = [.string s0.f0, .int .i64 s0.f1, .slice A2 s0.f2.length c2, .slice A3 s0.f3.length c3, .int .i64 s0.f4, .int .i64 s0.f5.f0, .int .i64 s0.f5.f1, .string s0.f5.f2, .int .i64 s0.f5.f3, .slice A9 s0.f5.f4.length c9] := z0
  obtain rfl : cs0 = #[.string s0.f0, .int .i64 s0.f1, .slice A2 s0.f2.length c2, .slice A3 s0.f3.length c3, .int .i64 s0.f4, .int .i64 s0.f5.f0, .int .i64 s0.f5.f1, .string s0.f5.f2, .int .i64 s0.f5.f3, .slice A9 s0.f5.f4.length c9] := by cases cs0; simp_all
  clear hA0 hval0 hsz0 hsz
  refine (K.call_any W ⟨s0.f0, s0.f1, A2, c2, s0.f2, A3, c3, s0.f3, s0.f4, s0.f5.f0, s0.f5.f1, s0.f5.f2, s0.f5.f3, A9, c9, s0.f5.f4⟩ ⟨g2, g3, g9, l9⟩ l2 l3).mono fun e W' ⟨he, bel⟩ => ?_
  subst he
  exact ⟨_, rfl, _, _, _, [], _, [], hW', trodAll_mk1 (shut_bool Try.underlying4 _), (trodAll_cons_mk (Below.trod laidOut (by kernel_rfl) (of_decide_eq_true (by kernel_rfl)) k0 bel lt0) trodAll_mk0), rfl, bel.frame _, fun h => by cases h⟩
theorem over : Rows.checkAllRow.holds Try.pinned (OpenSpec.ofChange Rows.checkAllSpec) :=
  OpenClaim.holds_of_wide 3 Try.f3 rfl rfl rfl rfl rfl rfl rfl ⟨rfl, rfl, rfl, rfl, rfl⟩ rfl rfl rfl rfl rfl (by kernel_rfl) Try.func3 (by kernel_rfl)
    (of_decide_eq_true (by kernel_rfl)) (by unfold Func.isWrapper; first | (rw [if_pos (by decide +kernel)]; kernel_rfl) | (rw [if_neg (by decide +kernel)]; exact ⟨rfl, rfl⟩))
    (fun os started H enc _ => lifted os started H enc)
theorem proved : Rows.CheckAllSaid := over
#print axioms proved
end Go.Proofs.Ytlhbnbckanmaiaa.checkAll
namespace Go.Proofs.Ytlhbnbckanmaiaa
/-- The row, under a short name, for the claim. -/
theorem checkAll_holds : Rows.CheckAllSaid := checkAll.proved
end Go.Proofs.Ytlhbnbckanmaiaa
