import Derived.Test.YtpkhcmholpljnacProg
import Derived.Below
import Derived.Deep.Draws
import Derived.Deep.AppendLies
import Derived.Maps.AppendAt
import Derived.OwnWalk
import Derived.Laws.BytesArg
import Derived.Laws.MakeOwn
import Derived.Laws.OwnMore
import Derived.Deep.OwnRows
import Derived.Tactics
import Derived.Lib.ConvBytes
import Derived.Laws.Slices
import Derived.WalkKit
import Derived.KernelRfl
import Derived.RowKit3
import Derived.Deep.LoopGhost
import Derived.Deep.QuietTactic
import Derived.BigQuiet
import Derived.WideLaws
import Derived.Deep.DeepCutAuto
import Derived.Deep.CutBlock
import Derived.Deep.RegionHeld3
import Derived.Laws.Rows
import Derived.Lib.AppendStr
import Derived.ArgAppend
import Derived.Laws.IdiomCopy
import Derived.OrdersHeld
import Derived.Laws.BitsLemmas
import Derived.RowKit
import Derived.Test.YtpkhcmholpljnacWWords
import Derived.Test.YtpkhcmholpljnacWLast
import Derived.Test.YtpkhcmholpljnacWTab
import Derived.Test.YtpkhcmholpljnacWFour
import Derived.Test.YtpkhcmholpljnacWQPut
import Derived.Test.YtpkhcmholpljnacWApart
import Derived.Test.YtpkhcmholpljnacWArr
import Derived.Test.YtpkhcmholpljnacWZeros
import Derived.Test.YtpkhcmholpljnacWFoot
import Derived.Test.YtpkhcmholpljnacWKept
import Derived.Test.YtpkhcmholpljnacWShare
import Derived.Test.YtpkhcmholpljnacWN
import Derived.Test.YtpkhcmholpljnacWFootNe
import Derived.Test.YtpkhcmholpljnacWAt
import Derived.Test.YtpkhcmholpljnacWEqStruct
import Derived.Test.YtpkhcmholpljnacWRepsOne
import Derived.Test.YtpkhcmholpljnacWInv
import Derived.Test.YtpkhcmholpljnacWInvWords
import Derived.Test.YtpkhcmholpljnacWGuard
import Derived.Test.YtpkhcmholpljnacWNEv
import Derived.Test.YtpkhcmholpljnacWMore
import Derived.RegionTactic
import Derived.ChangeAlike
import Derived.BigRegion
import Derived.Outline
import Derived.StillTailTactics
import Derived.Deep.RegionLaw
import Derived.WalkSpells
import Derived.Laws.EntriesVeiled
import Derived.Test.YtpkhcmholpljnacQueue10
import Derived.Test.YtpkhcmholpljnacPK1x
import Derived.Test.YtpkhcmholpljnacBest
import Derived.Test.YtpkhcmholpljnacAll1
namespace Go.Proofs.Ytpkhcmholpljnac.Q
open Go Go.RowKit Go.Proofs.Ytpkhcmholpljnac.Heap Go.Proofs.YtpkhcmholpljnacW.PrintWords Go.Proofs.YtpkhcmholpljnacW.PrintLast Go.Proofs.YtpkhcmholpljnacW.PrintMore Go.Proofs.Ytpkhcmholpljnac.PK1
set_option linter.unusedVariables false
set_option linter.unusedSimpArgs false
theorem R_lit0 {α : Type} (d : Kd α) (e : Nat) (W : World) (base : Nat) (ok : Nat → Prop) (hb : base ≤ W.heap.size) (hok : ok W.heap.size) : d.R e (W.alloc (.cells #[] e (0, 0))) base ok (.slice (some ⟨W.heap.size, 0, none⟩) 0 0) [] := by
  refine ⟨fun k hk => ?_, [], ?_, ?_⟩
  · have : W.heap.size = k := by simpa [Value.ownBlock] using hk
    exact this ▸ hok
  · have h := World.ownsRow_lit (base := base) (e := e) (size := d.sz) W #[] 0 hb (by simp [maxLen]) (by simp)
    simpa using h
  · exact ⟨by simp, fun j p h => by simp at h⟩
theorem info3'' : (Try.prog.info? 3).map (fun i => (i.zero, i.size, i.bytes)) = some (some (.int .i64 0), 1, 8) := by kernel_rfl
theorem info28 : (Try.prog.info? 28).map (fun i => (i.zero, i.size, i.bytes)) = some (some (.agg #[.int .i64 0, .int .i64 0, .int .i64 0]), 3, 24) := by kernel_rfl
theorem in_slice (W : World) (base : Nat) (v : Value) (picks : List Int) (h : Kd.R (Kd.int .i64) 3 W base (fun _ => True) v (picks ++ [99])) (hn : picks.length ≤ 20) : ∃ A c, v = .slice A (picks.length + 1) c ∧ (∀ W' : World, (Instr.slice 22 (.slice A (picks.length + 1) c) none (some (.int .i64 picks.length)) none).run Try.prog W' = .ok (.slice A picks.length c) W') ∧ Kd.R (Kd.int .i64) 3 W base (fun _ => True) (.slice A picks.length c) picks := by
  obtain ⟨A, c, rfl, hl, hC⟩ := Kd.R_reads h
  obtain ⟨i0, hi, hzz⟩ := Option.map_eq_some_iff.1 info3''
  simp only [Prod.mk.injEq] at hzz
  have ht := Kd.R_take h (m := picks.length) (by simp)
  rw [List.take_left] at ht
  have hl2 : (picks ++ [99]).length = picks.length + 1 := by simp
  have hs := (print_take_int (P := Try.prog) (k := .i64) 22 3 Try.underlying22 hi hzz.2.1 A c (picks ++ [99]) (picks.length : Int) (by omega) (by omega) hl).1
  rw [Int.toNat_natCast, List.take_left, hl2] at hs
  exact ⟨A, c, by rw [hl2], hs, ht⟩
theorem R_form {α : Type} {d : Kd α} {e : Nat} {W : World} {base : Nat} {ok : Nat → Prop} {v : Value} {xs : List α} (h : d.R e W base ok v xs) (n : Nat) (hn : xs.length = n) : ∃ A c, v = .slice A n c := by
  obtain ⟨A, c, he⟩ := Kd.R_slice h
  exact ⟨A, c, hn ▸ he⟩
theorem AI.len {w W : World} {F : Nat → Prop} {l k : Nat} {picks : List Int} {vi vm : Value} {ms : List S28} {ns : List Th} (h : AI w W F l k picks vi vm ms ns) (n : Int) (hn : (ns.length : Int) = n) :
    Calls Try.prog 12 #[.pointer (some ⟨l, 0, none⟩)] W fun e W' => e = .returned (.int .i64 n) ∧ W = W' := by
  subst hn
  exact len_ W _ l k F picks ns h.li
structure AJ (w W : World) (l k : Nat) (picks : List Int) (vi vm : Value) (ms : List S28) : Prop where
  ex : ∃ F, AI w W F l k picks vi vm ms (ms.map T)
  nd : (ms.map S28.f2).Nodup
  hi : ∀ a ∈ ms, a.f2 < (k : Int)
structure Hold (p : Prop) : Prop where
  out : p
theorem hold {p : Prop} (h : Hold p) : p := h.out
theorem aj_pushed {w W : World} {F : Nat → Prop} {l k : Nat} {picks : List Int} {vi vm : Value} {ms : List S28} (s key : Int) (hkey : key = keyOf picks k) (h : AI w W F l (k + 1) picks vi vm (ms ++ [⟨s, key, (k : Int)⟩]) (ms.map T ++ [(keyOf picks k, (k : Int), s)]))
    (hnd : (ms.map S28.f2).Nodup) (hhi : ∀ a ∈ ms, a.f2 < (k : Int)) : AJ w W l (k + 1) picks vi vm (ms ++ [⟨s, key, (k : Int)⟩]) := by
  subst hkey
  refine ⟨⟨F, by rw [List.map_append]; exact h⟩, ?_, fun a ha => ?_⟩
  · rw [List.map_append, List.nodup_append]
    refine ⟨hnd, by simp, fun a ha b hb => ?_⟩
    obtain ⟨x, hx, rfl⟩ := List.mem_map.1 ha
    have h1 := hhi x hx
    simp at hb
    subst hb
    omega
  · rcases List.mem_append.1 ha with q | q
    · have := hhi a q; omega
    · simp at q
      subst q
      show (k : Int) < _
      omega
theorem cuts28 (A : Option Addr) (c j : Nat) (xs : List S28) (hj : j < xs.length) (hc : xs.length ≤ c) : (∀ W : World, (Instr.slice 26 (.slice A xs.length c) none (some (.int .i64 (j : Int))) none).run Try.prog W = .ok (.slice A j c) W) ∧
    ∃ (A6 : Option Addr) (c6 : Nat), (∀ W : World, (Instr.slice 26 (.slice A xs.length c) (some (.int .i64 ((j : Int) + 1))) none none).run Try.prog W = .ok (.slice A6 (xs.length - (j + 1)) c6) W) ∧ (∀ w, Kd.C k28 w A xs.length xs → Kd.C k28 w A j (xs.take j) ∧ Kd.C k28 w A6 (xs.length - (j + 1)) (xs.drop (j + 1))) := by
  obtain ⟨i0, hi, hzz⟩ := Option.map_eq_some_iff.1 info28
  simp only [Prod.mk.injEq] at hzz
  have hsz := hzz.2.1
  have hel : Try.prog.elem 26 = 28 := by simp [Program.elem, Try.underlying26]
  have hu : Try.prog.underlying 26 = some (.slice (Try.prog.elem 26)) := by rw [hel]; exact Try.underlying26
  have ha : (A.map fun x => x.add 0) = A := by cases A <;> simp [Addr.add]
  refine ⟨fun W => ?_, if c = j + 1 then A else A.map (·.add ((j + 1) * 3)), c - (j + 1), fun W => ?_, fun w h => ⟨?_, ?_⟩⟩
  · rw [run_slice_h W 26 A xs.length c hu .i64 (j : Int) (by omega) (by omega), hel]
    simp [sizeOf, typeInfo, hi, hsz, sliced, Result.andThen, ha]
  · rw [run_slice_l W 26 A xs.length c hu .i64 ((j : Int) + 1) (by omega) (by omega), hel]
    have hn : ((j : Int) + 1).toNat = j + 1 := by omega
    simp [sizeOf, typeInfo, hi, hsz, sliced, Result.andThen, hn]
  · have q := Kd.C_take h (m := j) (by omega)
    rwa [List.length_take, Nat.min_eq_left (by omega)] at q
  · have q := Kd.C_drop h (m := j + 1) (by omega) hc
    rwa [List.length_drop] at q
theorem fresh_of {F : Nat → Prop} {w6 W : World} (hb : Below w6.heap.size w6 W) (lo : ∀ b, F b → b < w6.heap.size) : ∀ k, W.heap.size ≤ k → ¬ F k := fun k hk f => by have := lo k f; have := hb.size; omega
theorem lit_grown {W W1 w9 : World} (hb : Below W.heap.size W W1) (r : Option Nat) (hr : ∀ k, r = some k → W.heap.size ≤ k) (hg : W1.grownBy w9 r) : Below W.heap.size W w9 :=
  hb.trans (Chg.below (Chg.grown (F := fun k => r = some k) hg (fun _ e => e)) hb.size hr)
theorem own_ge {W W1 : World} (hb : Below W.heap.size W W1) {v : Value} (hat : v.ownBlock = some W.heap.size ∨ ∃ b, v.ownBlock = some b ∧ W1.heap.size ≤ b) : ∀ k, v.ownBlock = some k → W.heap.size ≤ k := by
  intro k hk
  have hs := hb.size
  rcases hat with e | ⟨b, e, hle⟩
  · rw [e] at hk; injection hk with hk; omega
  · rw [e] at hk; injection hk with hk; omega
theorem AI.swap {w W : World} {F : Nat → Prop} {l k : Nat} {picks : List Int} {vi vm v' : Value} {ms ms' : List S28} {ns : List Th} (h : AI w W F l k picks vi vm ms ns) (g : Kd.R k28 28 W w.heap.size (fun b => ¬ F b) v' ms') : AI w W F l k picks vi v' ms' ns := ⟨h.li, g, h.ri, h.lo, h.bel⟩
theorem ai_start (w w3 w4 : World) (l : Nat) (picks : List Int) (v : Value) (h : Kd.R (Kd.int .i64) 3 w3 w.heap.size (fun _ => True) v picks) (hb : Below w.heap.size w w3)
    (h1 : LI w4 w3.heap.size (fun k => w3.heap.size ≤ k ∧ k < w4.heap.size) l picks 0 []) (h2 : Below w3.heap.size w3 w4) : AI w w4 (fun k => w3.heap.size ≤ k ∧ k < w4.heap.size) l 0 picks v (.slice none 0 0) [] [] :=
  ⟨h1.lower hb.size, Kd.R_nil _ _ _ _ _, Kd.R_mono (Kd.R_below (Kd.R_bound h) h2) (fun k hk e => by have := hk.2.2.1; omega), fun b hf => ⟨by have := hb.size; omega, hf.2⟩, below_step hb h2⟩
set_option maxHeartbeats 8000000 in
set_option maxRecDepth 100000 in
theorem all_main (w : World) (A0 A1 : Option Addr) (c0 c1 : Nat) (picks steps : List Int) (hC : Kd.C (Kd.int .i64) w A0 picks.length picks) (hD : Kd.C (Kd.int .i64) w A1 steps.length steps) (h20 : picks.length ≤ 20) (h80 : steps.length ≤ 80) :
    Calls Try.prog 3 #[.slice A0 picks.length c0, .slice A1 steps.length c1] w fun e W' => e = .returned (.bool true) ∧ Below w.heap.size w W' := by
  have d1 : decide (20 < (picks.length : Int)) = false := decide_eq_false (by omega)
  have d2 : decide (20 < picks.length) = false := decide_eq_false (by omega)
  have d3 : decide (80 < (steps.length : Int)) = false := decide_eq_false (by omega)
  have d4 : decide (80 < steps.length) = false := decide_eq_false (by omega)
  have HC := Aside0.mk hC
  have HD := Aside0.mk hD
  have HN := Aside0.mk (And.intro h20 h80)
  clear hC hD
  go_enter Try.func3, Try.ntmps3
  go_wp2_with fail
  refine (begun w).mono ?_
  rintro e w1 ⟨rfl, hb⟩
  have HB1 := Aside0.mk hb
  clear hb
  go_wp2_with (first
    | ((with_reducible refine gate_builtin (b := .append) (xs := #[.tmp 25, .tmp 26]) rfl ?_); at_builtin; refine Kd.R_append_rows (Kd.int .i64) (w0 := w) w.heap.size rfl (.tmp 25) (.tmp 26) 22 3 (.int .i64 0) 8 rfl Try.underlying22 info3'' rfl (by decide) (by omega) (.slice (some ⟨w1.heap.size, 0, none⟩) 0 0) [] picks A0 picks.length c0 (fun _ => True) (fun _ => False) rfl rfl (R_lit0 _ _ _ _ _ HB1.out.size trivial) (Kd.C_below (Kd.C_below HC.out HB1.out) (below_alloc (Below.refl _ _) _)) (fun _ _ h => h) (fun _ hk => hk.elim) (fun _ _ => trivial) (below_alloc HB1.out _) (below_alloc HB1.out _).size (by simp; omega) ?_; intro v1 w2 ho2 hb2 _ _; rw [List.nil_append] at ho2; have HO2 := Aside0.mk (And.intro ho2 hb2); clear ho2 hb2)
    | ((with_reducible refine gate_builtin (b := .append) (xs := #[.tmp 27, .tmp 28]) rfl ?_); at_builtin; refine Kd.R_append (Kd.int .i64) (w0 := w) w.heap.size rfl (.tmp 27) (.tmp 28) 22 3 (.int .i64 0) 8 rfl Try.underlying22 info3'' rfl (by decide) (by omega) _ picks 99 [.int .i64 99] (fun _ => True) (fun _ => False) rfl rfl rfl (fun _ hk => hk.elim) (fun _ _ => trivial) HO2.out.1 HO2.out.2 HO2.out.2.size (by omega) ?_; intro v3 w3 ho3 hb3 _ _; obtain ⟨A3, c3, rfl, hsl, ho4⟩ := in_slice _ _ _ _ ho3 HN.out.1; have HI := Aside0.mk (And.intro ho4 hb3); clear ho3 hb3 ho4 HO2))
  clear hsl
  refine (new_ w3 A3 c3 picks (by obtain ⟨A, c, he, _, hC⟩ := Kd.R_reads HI.out.1; injection he with q1 q2 q3; subst q1; exact hC) (by omega)).mono ?_
  rintro e w4 ⟨l, rfl, h1, h2⟩
  have HA := Aside0.mk (AJ.mk ⟨_, ai_start w w3 w4 l picks _ HI.out.1 HI.out.2 h1 h2⟩ (by simp) (by simp) : AJ w w4 l 0 picks (.slice A3 picks.length c3) (.slice none 0 0) [])
  clear h1 h2 HI HB1
  go_wp2
  go_loopw [9, 8, 7] (fun v9 v8 v7 wr => ∃ (i k : Nat) (A7 : Option Addr) (c7 : Nat) (ms : List S28), i ≤ steps.length ∧ k ≤ i ∧ ms.length ≤ k ∧ v9 = .int .i64 i ∧ v8 = .int .i64 k ∧ v7 = .slice A7 ms.length c7 ∧ Aside0 (AJ w wr l k picks (.slice A3 picks.length c3) (.slice A7 ms.length c7) ms)) (fun v9 _ _ _ => steps.length - (intOf v9).toNat)
  case atStart => exact ⟨0, 0, none, 0, [], Nat.zero_le _, Nat.le_refl _, Nat.le_refl _, rfl, rfl, rfl, HA⟩
  case round =>
    clear HA
    obtain ⟨i, k, A7, c7, ms, hi, hk, hms, rfl, rfl, rfl, HR⟩ := hrel
    by_cases hlt : i < steps.length
    · have e1 : decide ((i : Int) < (steps.length : Int)) = true := decide_eq_true (by omega)
      have e2 : decide (i < steps.length) = true := decide_eq_true hlt
      obtain ⟨ad, rfl, hcell⟩ := Kd.at_int HD.out (i : Int) (by omega) (by omega)
      rw [Int.toNat_natCast] at hcell
      obtain ⟨⟨F, ai⟩, hnd, hhi⟩ := HR.out
      have hc1 := pw_cell_below ai.bel hcell
      have HCL := Aside0.mk hcell
      clear hcell
      have HAI := Aside0.mk ai
      have HND := Aside0.mk (And.intro hnd hhi)
      clear ai hnd hhi HR
      generalize rd steps (i : Int) = s at hc1 HCL ⊢
      by_cases hs : 0 ≤ s
      · have e3 : decide (0 ≤ s) = true := decide_eq_true hs
        by_cases hp0 : picks.length = 0
        · have d5 : decide (0 < (picks.length : Int)) = false := decide_eq_false (by omega)
          have d6 : decide (0 < picks.length) = false := decide_eq_false (by omega)
          have HP0 := Aside0.mk hp0
          clear hp0
          have HBA := Aside0.mk (below_alloc (Below.refl wr.heap.size wr) (.cells #[Value.int IntKind.i64 s, Value.int IntKind.i64 0, Value.int IntKind.i64 ↑k] 28 (0, 0)))
          go_wp2_with (first | ((with_reducible refine gate_builtin (b := .append) (xs := #[.tmp 65, .tmp 67]) rfl ?_); at_builtin; refine hold ?_))
          refine ⟨?_⟩
          refine Kd.R_append k28 (w0 := w) w.heap.size rfl (.tmp 65) (.tmp 67) 26 28 (.agg #[.int .i64 0, .int .i64 0, .int .i64 0]) 24 rfl Try.underlying26 info28 rfl (by decide) (by omega) (.slice A7 ms.length c7) ms ⟨s, 0, (k : Int)⟩ [.int .i64 s, .int .i64 0, .int .i64 k] (fun b => ¬ F b) (fun _ => False) rfl (by rw [World.size_alloc]; rfl) (k28_mkM _ _ _ ⟨s, 0, (k : Int)⟩) (fun _ hk => hk.elim) (fun b hb f => by have := (HAI.out.below HBA.out).lo b f; omega) (HAI.out.below HBA.out).rm (HAI.out.below HBA.out).bel (HAI.out.below HBA.out).bel.size (by omega) ?_
          intro v6 w6 ho6 hb6 hg6 _
          have HA2 := Aside0.mk ((HAI.out.below HBA.out).append ho6 hb6 hg6)
          obtain ⟨A8, c8, rfl⟩ := R_form ho6 (ms.length + 1) (by simp)
          clear ho6 hb6 hg6
          have hc4 := pw_cell_below HA2.out.bel HCL.out
          clear hc1
          go_wp2_with fail
          clear hc4
          refine (HA2.out.push s (by omega) (by rw [List.length_map]; omega) (by omega)).mono ?_
          rintro e w7 ⟨rfl, F2, h⟩
          have HA3 := Aside0.mk h
          clear h
          go_wp2_with fail
          refine (HA3.out.len ((ms.length : Int) + 1) (by simp)).mono ?_
          rintro e w8 ⟨rfl, rfl⟩
          have b1 : (((ms.length : Int) + 1) == ((ms.length : Int) + 1)) = true := beq_self_eq_true _
          go_wp2
          refine ⟨⟨i + 1, k + 1, A8, c8, ms ++ [⟨s, 0, (k : Int)⟩], by omega, by omega, by simp; omega, by go_num, by go_num, by simp, ⟨by have q := aj_pushed s 0 (by unfold keyOf; rw [if_pos HP0.out]) HA3.out HND.out.1 HND.out.2; simpa using q⟩⟩, ?_⟩
          simp [intOf]; omega
        · have d5 : decide (0 < (picks.length : Int)) = true := decide_eq_true (by omega)
          have d6 : decide (0 < picks.length) = true := decide_eq_true (by omega)
          have d7 : ((picks.length : Int) == 0) = false := by rw [beq_eq_false_iff_ne]; omega
          have hm : k % picks.length < picks.length := Nat.mod_lt _ (by omega)
          obtain ⟨ad2, rfl, hcell⟩ := Kd.at_int HC.out ((k % picks.length : Nat) : Int) (by omega) (by omega)
          rw [Int.toNat_natCast] at hcell
          have HKY : Aside0 (rd picks ((k % picks.length : Nat) : Int) = keyOf picks k) := ⟨by unfold keyOf; rw [if_neg hp0]⟩
          have hblk := World.block_lt_of_cell? _ _ hcell
          have hc2 := pw_cell_below HAI.out.bel hcell
          clear hcell
          have em : Int.tmod (k : Int) (picks.length : Int) = ((k % picks.length : Nat) : Int) := (Int.ofNat_tmod _ _).symm
          generalize rd picks ((k % picks.length : Nat) : Int) = key at *
          generalize k % picks.length = m at hm hc2 em
          have hc3 : (wr.alloc (.cells #[Value.int IntKind.i64 s, Value.int IntKind.i64 0, Value.int IntKind.i64 ↑k] 28 (0, 0))).cell? (ad2.add m) = some (.int .i64 key) := pw_cell_below (below_alloc (Below.refl wr.heap.size wr) _) hc2
          have hm3 : (m : Int) < (picks.length : Int) := by omega
          have HBA := Aside0.mk (below_alloc (Below.refl wr.heap.size wr) (.cells #[Value.int IntKind.i64 s, Value.int IntKind.i64 key, Value.int IntKind.i64 ↑k] 28 (0, 0)))
          go_wp2_with (first | ((with_reducible refine gate_builtin (b := .append) (xs := #[.tmp 65, .tmp 67]) rfl ?_); at_builtin; refine hold ?_))
          refine ⟨?_⟩
          refine Kd.R_append k28 (w0 := w) w.heap.size rfl (.tmp 65) (.tmp 67) 26 28 (.agg #[.int .i64 0, .int .i64 0, .int .i64 0]) 24 rfl Try.underlying26 info28 rfl (by decide) (by omega) (.slice A7 ms.length c7) ms ⟨s, key, (k : Int)⟩ [.int .i64 s, .int .i64 key, .int .i64 k] (fun b => ¬ F b) (fun _ => False) rfl (by rw [World.size_alloc]; rfl) (k28_mkM _ _ _ ⟨s, key, (k : Int)⟩) (fun _ hk => hk.elim) (fun b hb f => by have := (HAI.out.below HBA.out).lo b f; omega) (HAI.out.below HBA.out).rm (HAI.out.below HBA.out).bel (HAI.out.below HBA.out).bel.size (by omega) ?_
          intro v6 w6 ho6 hb6 hg6 _
          have HA2 := Aside0.mk ((HAI.out.below HBA.out).append ho6 hb6 hg6)
          obtain ⟨A8, c8, rfl⟩ := R_form ho6 (ms.length + 1) (by simp)
          clear ho6 hb6 hg6
          have hc4 := pw_cell_below HA2.out.bel HCL.out
          clear hc1
          go_wp2_with fail
          clear hc4
          refine (HA2.out.push s (by omega) (by rw [List.length_map]; omega) (by omega)).mono ?_
          rintro e w7 ⟨rfl, F2, h⟩
          have HA3 := Aside0.mk h
          clear h
          go_wp2_with fail
          refine (HA3.out.len ((ms.length : Int) + 1) (by simp)).mono ?_
          rintro e w8 ⟨rfl, rfl⟩
          have b1 : (((ms.length : Int) + 1) == ((ms.length : Int) + 1)) = true := beq_self_eq_true _
          go_wp2
          refine ⟨⟨i + 1, k + 1, A8, c8, ms ++ [⟨s, key, (k : Int)⟩], by omega, by omega, by simp; omega, by go_num, by go_num, by simp, ⟨by have q := aj_pushed s key HKY.out HA3.out HND.out.1 HND.out.2; simpa using q⟩⟩, ?_⟩
          simp [intOf]; omega
      · have e3 : decide (0 ≤ s) = false := decide_eq_false hs
        have hrm := Kd.R_reads HAI.out.rm
        obtain ⟨A', c', he, hl', hC'⟩ := hrm
        injection he with q1 q2 q3
        subst q1; subst q3
        have HMC := Aside0.mk (And.intro hC' hl')
        clear hC' hl'
        go_wp2_with fail
        refine (pop_best wr A7 c7 ms HMC.out.1 HMC.out.2 (by omega)).mono ?_
        rintro e w5 ⟨r, rfl, hbest, hdr⟩
        have HA2 := Aside0.mk (HAI.out.drawn hdr)
        clear hdr HAI HMC hc1
        rcases hbest with ⟨h0, rfl⟩ | ⟨j, rfl, hj, hb⟩
        · obtain rfl : ms = [] := List.eq_nil_of_length_eq_zero h0
          clear h0
          have HLI := Aside0.mk (show LI w5 w.heap.size F l picks k [] from HA2.out.li)
          rw [show ([] : List S28).length = 0 from rfl]
          go_wp2_with fail
          refine (pop_none w5 _ l k F picks HLI.out).mono ?_
          rintro e w6 ⟨rfl, rfl⟩
          go_wp2_with fail
          refine (HA2.out.len 0 (by simp)).mono ?_
          rintro e w7 ⟨rfl, rfl⟩
          go_wp2
          refine ⟨⟨i + 1, k, A7, c7, [], by omega, by omega, by omega, by go_num, rfl, rfl, ⟨⟨⟨F, HA2.out⟩, HND.out.1, HND.out.2⟩⟩⟩, ?_⟩
          simp [intOf]; omega
        · have HB := Aside0.mk hb
          clear hb
          go_wp2_with fail
          refine (HA2.out.pop _ _ _ _ (drop_perm ms j hj) (drop_lt ms j hj HND.out.1 HB.out) (by rw [List.length_map, List.length_append, List.length_take, List.length_drop]; omega)).mono ?_
          rintro e w6 ⟨rfl, h⟩
          have HA3 := Aside0.mk h
          clear h
          have hrm := Kd.R_reads HA3.out.rm
          obtain ⟨A', c', he, hl', hC'⟩ := hrm
          injection he with q1 q2 q3
          subst q1; subst q3
          have HMC := Aside0.mk (And.intro hC' hl')
          obtain ⟨ad5, rfl, hx0, hx1, hx2⟩ := at_T28 hC' (j : Int) (by omega) (by omega)
          rw [Int.toNat_natCast, rd28] at hx0
          clear hC' hl' hx1 hx2
          have b1 : ((ms.getD j z28).f0 == (ms.getD j z28).f0) = true := beq_self_eq_true _
          generalize (ms.getD j z28).f0 = x at hx0 b1 ⊢
          have e5 : decide (0 ≤ (j : Int)) = true := decide_eq_true (by omega)
          obtain ⟨hcl, A6, c6, hch, hcc⟩ := cuts28 (some ad5) c7 j ms hj HMC.out.2
          have HCC := Aside0.mk (hcc w6 HMC.out.1)
          clear hcc
          obtain ⟨m1, hm1⟩ : ∃ m1, ms.length = m1 + 1 := ⟨ms.length - 1, by omega⟩
          have HM1 := Aside0.mk hm1
          clear hm1
          go_wp2_with fail
          have hwj : IntKind.i64.wrap ((j : Int) + 1) = (j : Int) + 1 := by rw [i64_w]; unfold wrap64; omega
          have hwj2 : wrap64 ((j : Int) + 1) = (j : Int) + 1 := by unfold wrap64; omega
          have hj0 : 0 ≤ (j : Int) + 1 := by omega
          have hj1 : (j : Int) + 1 ≤ (ms.length : Int) := by omega
          go_region_law (first
            | (refine Kd.R_append_rows_step k28 (w0 := w) w.heap.size (by rfl) (.tmp 107) (.tmp 110) 26 28 (.agg #[.int .i64 0, .int .i64 0, .int .i64 0]) 24 rfl Try.underlying26 info28 rfl (by decide) (by omega) (.slice (some ⟨w6.heap.size, 0, none⟩) 0 0) [] (ms.take j) (some ad5) j c7 (fun b => ¬ F b) (fun _ => False) rfl rfl ?aO ?aR (fun _ _ h => h) (fun _ h => h.elim) ?aF ?aB ?aS ?aL ?_
               (case aR => exact Kd.C_below HCC.out.1 (by repeat (first | exact Below.refl _ _ | apply below_drew | apply below_alloc)))
               (case aB => exact below_step HA3.out.bel (by repeat (first | exact Below.refl _ _ | apply below_drew | apply below_alloc)))
               (case aF => exact fresh_of (by repeat (first | exact Below.refl _ _ | apply below_drew | apply below_alloc)) (fun b f => (HA3.out.lo b f).2))
               (case aO => first | exact Kd.R_drew (R_lit0 _ _ _ _ _ HA3.out.bel.size (fun f => Nat.lt_irrefl _ (HA3.out.lo _ f).2)) | exact R_lit0 _ _ _ _ _ HA3.out.bel.size (fun f => Nat.lt_irrefl _ (HA3.out.lo _ f).2))
               (case aS => exact Below.size (below_step HA3.out.bel (by repeat (first | exact Below.refl _ _ | apply below_drew | apply below_alloc))))
               (case aL => simp; omega)
               intro v9 w9 ho9 hb9 hg9 hat9
               rw [List.nil_append] at ho9
               have H9 := Aside0.mk (And.intro ho9 (And.intro (lit_grown (W := w6) (by repeat (first | exact Below.refl _ _ | apply below_drew | apply below_alloc)) (some w6.heap.size) (fun k e => by injection e with e; omega) hg9) (own_ge (W := w6) (by repeat (first | exact Below.refl _ _ | apply below_drew | apply below_alloc)) hat9)))
               clear ho9 hb9 hg9 hat9)
            | (refine Kd.R_append_rows_step k28 (w0 := w) w.heap.size (by rfl) (.tmp 111) (.tmp 115) 26 28 (.agg #[.int .i64 0, .int .i64 0, .int .i64 0]) 24 rfl Try.underlying26 info28 rfl (by decide) (by omega) _ (ms.take j) (ms.drop (j + 1)) A6 (ms.length - (j + 1)) c6 (fun b => ¬ F b) (fun _ => False) rfl rfl H9.out.1 (Kd.C_below HCC.out.2 H9.out.2.1) (fun _ _ h => h) (fun _ h => h.elim) (fresh_of H9.out.2.1 (fun b f => (HA3.out.lo b f).2)) (below_step HA3.out.bel H9.out.2.1) (below_step HA3.out.bel H9.out.2.1).size (by rw [List.length_take]; omega) ?_
               intro v10 w10 ho10 hb10 hg10 hat10
               have H10 := Aside0.mk ((HA3.out.below (lit_grown H9.out.2.1 _ H9.out.2.2 hg10)).swap ho10)
               obtain ⟨A10, c10, rfl⟩ := R_form ho10 m1 (by have := HM1.out; rw [List.length_append, List.length_take, List.length_drop]; omega)
               clear ho10 hb10 hg10 hat10))
          go_wp2_with fail
          clear hcl hch hwj hwj2 hj0 hj1 hx0
          refine (H10.out.len (m1 : Int) (by have := HM1.out; rw [List.length_map, List.length_append, List.length_take, List.length_drop]; omega)).mono ?_
          rintro e w11 ⟨rfl, rfl⟩
          have b2 : ((m1 : Int) == (m1 : Int)) = true := beq_self_eq_true _
          have HL1 : Aside0 ((ms.take j ++ ms.drop (j + 1)).length = m1) := ⟨by have := HM1.out; rw [List.length_append, List.length_take, List.length_drop]; omega⟩
          go_wp2
          refine ⟨⟨i + 1, k, A10, c10, ms.take j ++ ms.drop (j + 1), by omega, by omega, by have := HL1.out; have := HM1.out; omega, by go_num, rfl, by rw [HL1.out], ⟨⟨⟨F, by rw [HL1.out]; exact H10.out⟩, drop_nodup ms j HND.out.1, fun a ha => HND.out.2 a (by
            rcases List.mem_append.1 ha with q | q
            · exact List.mem_of_mem_take q
            · exact List.mem_of_mem_drop q)⟩⟩⟩, ?_⟩
          simp [intOf]; omega
    · obtain rfl : i = steps.length := by omega
      have e1 : decide ((steps.length : Int) < (steps.length : Int)) = false := decide_eq_false (by omega)
      have e2 : decide (steps.length < steps.length) = false := decide_eq_false hlt
      have HE := Aside0.mk (show Kd.C (Kd.int .i64) wr A3 picks.length picks ∧ Below w.heap.size w wr by
        obtain ⟨⟨F, ai⟩, _, _⟩ := HR.out
        obtain ⟨A, c, he, _, hC⟩ := Kd.R_reads ai.ri
        injection he with q1 q2 q3
        subst q1
        exact ⟨hC, ai.bel⟩)
      clear HR
      go_wp2
      go_loopw [14] (fun v14 wr => ∃ q : Nat, q ≤ picks.length ∧ v14 = .int .i64 q ∧ Aside0 (Kd.C (Kd.int .i64) wr A3 picks.length picks ∧ Below w.heap.size w wr)) (fun v14 _ => picks.length - (intOf v14).toNat)
      case atStart => exact ⟨0, Nat.zero_le _, rfl, HE⟩
      case round =>
        clear HE
        obtain ⟨q, hq, rfl, HR⟩ := hrel
        by_cases hlt2 : q < picks.length
        · have e3 : decide ((q : Int) < (picks.length : Int)) = true := decide_eq_true (by omega)
          have e4 : decide (q < picks.length) = true := decide_eq_true hlt2
          obtain ⟨ad, rfl, hcell⟩ := Kd.at_int HR.out.1 (q : Int) (by omega) (by omega)
          obtain ⟨ad2, rfl, hcell2⟩ := Kd.at_int HC.out (q : Int) (by omega) (by omega)
          rw [Int.toNat_natCast] at hcell hcell2
          have hc2 := pw_cell_below HR.out.2 hcell2
          clear hcell2
          have b1 : (rd picks (q : Int) == rd picks (q : Int)) = true := beq_self_eq_true _
          generalize rd picks (q : Int) = x at hcell hc2 b1 ⊢
          go_wp2
          repeat (go_quiet (fail); try go_wp2)
          refine ⟨⟨q + 1, by omega, by go_num, ⟨by first | exact HR.out.1 | exact Kd.C_drewN HR.out.1 _, by first | exact HR.out.2 | exact pw_below_drewN HR.out.2 _⟩⟩, ?_⟩
          simp [intOf]; omega
        · obtain rfl : q = picks.length := by omega
          have e3 : decide ((picks.length : Int) < (picks.length : Int)) = false := decide_eq_false (by omega)
          have e4 : decide (picks.length < picks.length) = false := decide_eq_false hlt2
          go_wp2
          go_ret
          exact ⟨rfl, HR.out.2⟩
set_option maxHeartbeats 8000000 in
set_option maxRecDepth 100000 in
theorem workAll (w : World) (A0 A1 : Option Addr) (c0 c1 : Nat) (picks steps : List Int) (hC : Kd.C (Kd.int .i64) w A0 picks.length picks) (hD : Kd.C (Kd.int .i64) w A1 steps.length steps) (hm : picks.length ≤ maxLen) (hn : steps.length ≤ maxLen) :
    Calls Try.prog 3 #[.slice A0 picks.length c0, .slice A1 steps.length c1] w fun e W' => e = .returned (.bool true) ∧ Below w.heap.size w W' := by
  simp only [maxLen] at hm hn
  by_cases h20 : 20 < picks.length
  · have d1 : decide (20 < (picks.length : Int)) = true := decide_eq_true (by omega)
    have d2 : decide (20 < picks.length) = true := decide_eq_true h20
    clear hC hD h20
    go_enter Try.func3, Try.ntmps3
    go_wp2_with (first | ((with_reducible refine (begun w).mono ?_); rintro e w1 ⟨rfl, hb⟩; have HB1 := Aside0.mk hb; clear hb))
    go_ret
    exact ⟨rfl, HB1.out⟩
  · by_cases h80 : 80 < steps.length
    · have d1 : decide (20 < (picks.length : Int)) = false := decide_eq_false (by omega)
      have d2 : decide (20 < picks.length) = false := decide_eq_false h20
      have d3 : decide (80 < (steps.length : Int)) = true := decide_eq_true (by omega)
      have d4 : decide (80 < steps.length) = true := decide_eq_true h80
      clear hC hD h20 h80
      go_enter Try.func3, Try.ntmps3
      go_wp2_with (first | ((with_reducible refine (begun w).mono ?_); rintro e w1 ⟨rfl, hb⟩; have HB1 := Aside0.mk hb; clear hb))
      go_ret
      exact ⟨rfl, HB1.out⟩
    · exact all_main w A0 A1 c0 c1 picks steps hC hD (by omega) (by omega)
end Go.Proofs.Ytpkhcmholpljnac.Q
