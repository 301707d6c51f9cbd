/- A text of a claim: it proves what its last theorem states, for every input that the given row speaks of; conditions of ours: none. Written by this claim's own program (wip/tools/xprint.py) over the kit's printer. -/
import Derived.Test.YtpkhcmholpljnaaRows
import Derived.Test.YtpkhcmholpljnaaPE1x
import Derived.Test.YtpkhcmholpljnaaPE1xo
import Derived.Test.YtpkhcmholpljnaaPureEvalAll
import Derived.WalkKit
import Derived.ProofKit
import Derived.OpenShut
import Derived.ShutString
import Derived.ChangeOld
import Derived.Below
import Derived.SizedLaws
namespace Go.Proofs.Ytpkhcmholpljnaa.evalAll
open Go.ChangeShapes Go.WideShapes Go.ChangeAt Go.RowKit
open Go.ChangeMaps (open_string shut_string)
open Go.Proofs.YtpkhcmholpljnaaW.PrintWords Go.Proofs.Ytpkhcmholpljnaa.PE1
set_option linter.unusedVariables false
theorem own : ownKnob Try.prog.godebug = none := by kernel_rfl
theorem laidOut : laidOutB Try.prog = true := by kernel_rfl
set_option maxRecDepth 100000 in
theorem lifted (os : Os) (started : os.Started) (H : Type) (enc : TypeId × Value → H) :
    ReturnsInHanded {} Try.checked os 7 .any (Rows.evalAllSpec.pre6 enc Try.prog Try.f7 Rows.evalAllRow.domain false) (Rows.evalAllSpec.post enc Try.prog Try.f7 false true false false) := by
  refine returnsInHanded_of_change_sized (C := Try.checked) own started (by kernel_rfl) Try.func7
    (ChangeSpec.witness6 (enc := enc) (C := Try.checked) false ⟨#[], #[.agg #[.int .i64 0, .int .i64 0, .string ByteArray.empty, .slice none 0 0], .slice none 0 0, .slice none 0 0, .int .i64 0], []⟩ 8 (by kernel_rfl) (by kernel_rfl) (by kernel_rfl) (by kernel_rfl)) ?_
  intro W base args ds gs before hval0 hW hcnd hsz0 _
  have hsz : (DataW.weightsEach Try.prog (Try.f7.params.toList ++ Rows.evalAllSpec.plain.varTypes Try.prog) (ds ++ gs)).all (· ≤ reachBytes) = true := hsz0
  have hval : ∀ (j : Nat) t v, Try.f7.params[j]? = some t → args[j]? = some v → Value.okWide Try.prog W .any base t v := hval0
  have hW' := hW
  obtain ⟨p, q, hA0, hV, rfl, hfz, hnd⟩ := hW
  have hA : DataW.TrodAll enc Try.prog W 0 (fun _ => true) true Try.f7.params.toList args.toList ds p := hA0
  rw [Try.params7] at hA hval hsz
  obtain ⟨v0, vs0, d0, ds0, p0, q0, hargs, rfl, rfl, h0, r0⟩ := trodAll_cons hA
  obtain ⟨v1, vs1, d1, ds1, p1, q1, rfl, rfl, rfl, h1, r1⟩ := trodAll_cons r0
  obtain ⟨v2, vs2, d2, ds2, p2, q2, rfl, rfl, rfl, h2, r2⟩ := trodAll_cons r1
  obtain ⟨v3, vs3, d3, ds3, p3, q3, rfl, rfl, rfl, h3, r3⟩ := trodAll_cons r2
  obtain ⟨rfl, rfl, rfl⟩ := trodAll_nil r3
  obtain rfl : args = #[v0, v1, v2, v3] := by cases args; simp_all
  obtain ⟨rfl, rfl⟩ := trodVars_none hV
  have k0 := h0
  have lt0 : ∀ x ∈ p0, x.block < W.heap.size := by obtain ⟨m, hm⟩ := k0; exact DataW.trod_lt m _ _ _ hm
  obtain ⟨cs0, rfl, hs0⟩ := okWide_struct Try.underlying34 (hval 0 34 v0 rfl rfl)
  obtain ⟨fu0, hf0⟩ := h0
  obtain ⟨s0, hK0⟩ := (opens_T34 fu0) H enc _ _ hf0
  obtain ⟨A0_3, c0_3, z0, hc0_3, hr0_3⟩ := k34_open hK0
  replace z0 : cs0.toList = [.int .i64 s0.f0, .int .i64 s0.f1, .string s0.f2, .slice A0_3 s0.f3.length c0_3] := z0
  obtain rfl : cs0 = #[.int .i64 s0.f0, .int .i64 s0.f1, .string s0.f2, .slice A0_3 s0.f3.length c0_3] := by cases cs0; simp_all
  have k1 := h1
  have lt1 : ∀ x ∈ p1, x.block < W.heap.size := by obtain ⟨m, hm⟩ := k1; exact DataW.trod_lt m _ _ _ hm
  obtain ⟨a1, len1, cap1, rfl⟩ := okWide_slice Try.underlying35 (hval 1 35 v1 rfl rfl)
  obtain ⟨fu1, hf1⟩ := h1
  obtain ⟨l1, A1, c1, z1, hc1, hr1⟩ := (opens_slice Try.underlying35 (by kernel_rfl) fu1 (fun q0 hq0 => opens_string Try.underlying9 q0)) H enc _ _ hf1
  replace z1 : [Value.slice a1 len1 cap1] = [.slice A1 l1.length c1] := z1
  obtain ⟨rfl, rfl, rfl⟩ := Value.slice.inj (List.cons.inj z1).1
  have k2 := h2
  have lt2 : ∀ x ∈ p2, x.block < W.heap.size := by obtain ⟨m, hm⟩ := k2; exact DataW.trod_lt m _ _ _ hm
  obtain ⟨a2, len2, cap2, rfl⟩ := okWide_slice Try.underlying36 (hval 2 36 v2 rfl rfl)
  obtain ⟨fu2, hf2⟩ := h2
  obtain ⟨l2, A2, c2, z2, hc2, hr2⟩ := (opens_slice Try.underlying36 (by kernel_rfl) fu2 (fun q0 hq0 => opens_int Try.underlying3 q0)) H enc _ _ hf2
  replace z2 : [Value.slice a2 len2 cap2] = [.slice A2 l2.length c2] := z2
  obtain ⟨rfl, rfl, rfl⟩ := Value.slice.inj (List.cons.inj z2).1
  obtain ⟨a3, rfl, rfl, rfl, w3⟩ := open_int Try.underlying3 (hval 3 3 v3 rfl rfl) h3
  clear hA0 hval0 hsz0 hsz
  obtain ⟨k, hp⟩ := Pure.EvalAll s0.f0 s0.f1 s0.f2 s0.f3 l1 l2 a3 hr1.2.1 hr2.2.1 w3
  refine ((withelaw10_EvalAll.calls k s0.f0 s0.f1 s0.f2 _ _ s0.f3 _ _ l1 _ _ l2 a3 W hr0_3 hc0_3 hr1 hc1 hr2 hc2 hp).mono ?_)
  rintro e W' ⟨rfl, bel⟩
  exact ⟨_, rfl, _, _, _, [], _, [], hW', trodAll_mk1 (shut_bool Try.underlying4 _), (trodAll_cons_mk (Below.trod laidOut (by kernel_rfl) (of_decide_eq_true (by kernel_rfl)) k0 bel lt0) (trodAll_cons_mk (Below.trod laidOut (by kernel_rfl) (of_decide_eq_true (by kernel_rfl)) k1 bel lt1) (trodAll_cons_mk (Below.trod laidOut (by kernel_rfl) (of_decide_eq_true (by kernel_rfl)) k2 bel lt2) (trodAll_cons_mk (shut_int Try.underlying3 w3) trodAll_mk0)))), rfl, bel.frame _, fun h => by cases h⟩
theorem over : Rows.evalAllRow.holds Try.pinned (OpenSpec.ofChange Rows.evalAllSpec) :=
  OpenClaim.holds_of_wide 7 Try.f7 rfl rfl rfl rfl rfl rfl rfl ⟨rfl, rfl, rfl, rfl, rfl⟩ rfl rfl rfl rfl rfl (by kernel_rfl) Try.func7 (by kernel_rfl)
    (of_decide_eq_true (by kernel_rfl)) (by unfold Func.isWrapper; first | (rw [if_pos (by decide +kernel)]; kernel_rfl) | (rw [if_neg (by decide +kernel)]; exact ⟨rfl, rfl⟩))
    (fun os started H enc _ => lifted os started H enc)
theorem proved : Rows.EvalAllSaid := over
#print axioms proved
end Go.Proofs.Ytpkhcmholpljnaa.evalAll
namespace Go.Proofs.Ytpkhcmholpljnaa
/-- The row, under a short name, for the claim. -/
theorem evalAll_holds : Rows.EvalAllSaid := evalAll.proved
end Go.Proofs.Ytpkhcmholpljnaa
