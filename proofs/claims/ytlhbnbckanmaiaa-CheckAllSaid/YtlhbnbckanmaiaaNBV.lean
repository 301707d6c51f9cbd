/- A text of a claim (ours): whether a program is more than a statement looks at; conditions: none of ours. -/
import Derived.Test.YtlhbnbckanmaiaaN9V
import Derived.Test.YtlhbnbckanmaiaaM6V
namespace Go.Proofs.Ytlhbnbckanmaiaa.K
open Go Go.RowKit Go.Proofs.YtlhbnbckanmaiaaW.PrintWords Go.Proofs.YtlhbnbckanmaiaaW.PrintLast Go.Proofs.YtlhbnbckanmaiaaW.PrintMore Go.Proofs.Ytlhbnbckanmaiaa.PC1
set_option linter.unusedVariables false
set_option linter.unusedSimpArgs false
theorem smEs_all : ∀ (l : List TExpr), (∀ y ∈ l, smE y) → smEs l
  | [], _ => by rw [smEs]; trivial
  | x :: xs, h => by rw [smEs]; exact ⟨h x (by simp), smEs_all xs (fun y hy => h y (by simp [hy]))⟩
theorem smCs_all : ∀ (l : List TCond), (∀ y ∈ l, smC y) → smCs l
  | [], _ => by rw [smCs]; trivial
  | x :: xs, h => by rw [smCs]; exact ⟨h x (by simp), smCs_all xs (fun y hy => h y (by simp [hy]))⟩
theorem dE_mono : ∀ (n m : Nat) (x : TExpr), n ≤ m → dE n x → dE m x
  | 0, m, x, _, h => h.elim
  | n + 1, m, x, hm, h => by
    obtain ⟨m, rfl⟩ : ∃ q, m = q + 1 := ⟨m - 1, by omega⟩
    exact fun k hk => dE_mono n m k (by omega) (h k hk)
def ESzOk (w0 : World) (N : Nat) : Prop :=
  ∀ (x : TExpr) (d : Nat), d + N = 14 → ∀ (W : World) (AK : Option Addr) (cK : Nat), Below w0.heap.size w0 W → Kd.C kExpr w0 AK x.f3.length x.f3 → x.f3.length ≤ cK →
    Calls Try.prog 39 #[.agg #[.int .i64 x.f0, .int .i64 x.f1, .string x.f2, .slice AK x.f3.length cK], .int .i64 (d : Int)] W fun r W' => ∃ n : Int, r = .returned (.int .i64 n) ∧ Below W.heap.size W W' ∧ 1 ≤ n ∧ n ≤ 301 + 300 * (N : Int) ∧ (n ≤ 300 → smE x ∧ dE N x)
set_option maxHeartbeats 8000000 in
set_option maxRecDepth 100000 in
theorem ESz_step (w0 : World) (N : Nat) (hN14 : N + 1 ≤ 14) (ih : ESzOk w0 N) : ESzOk w0 (N + 1) := by
  rintro ⟨op, vn, nm, kids⟩ d hd W AK cK hb hC hlk
  have HI := Aside0.mk ih
  have HA := Aside0.mk (And.intro hb (And.intro hC (And.intro hlk hd)))
  have hkm : kids.length ≤ 9223372036854775807 := hC.2.1
  have HKM := Aside0.mk hkm
  clear ih hb hC hlk
  show Calls Try.prog 39 #[.agg #[.int .i64 op, .int .i64 vn, .string nm, .slice AK kids.length cK], .int .i64 (d : Int)] W _
  go_enter Try.func39, Try.ntmps39
  have HX := Aside0.mk (blk_new W (.cells #[.int .i64 op, .int .i64 vn, .string nm, .slice AK kids.length cK] 57 (0, 0)))
  have HB := Aside0.mk (below_al (Below.refl W.heap.size W) (.cells #[.int .i64 op, .int .i64 vn, .string nm, .slice AK kids.length cK] 57 (0, 0)))
  go_upto_region 1 with fail
  generalize World.alloc W _ = w1 at HX HB ⊢
  have x2 := (blk_cell HX.out 2).trans rfl
  have x3 := (blk_cell HX.out 3).trans rfl
  clear hkm
  by_cases d0 : 12 < (d : Int)
  · have e0 : decide (12 < (d : Int)) = true := decide_eq_true d0
    have e0' : decide (12 < d) = true := decide_eq_true (by omega)
    clear d0 hd
    go_wp2
    go_ret
    exact ⟨301, rfl, HB.out, by decide, by omega, fun h => absurd h (by decide)⟩
  have e0 : decide (12 < (d : Int)) = false := decide_eq_false d0
  have e0' : decide (12 < d) = false := decide_eq_false (by omega)
  by_cases k0 : 20 < (kids.length : Int)
  · have e1 : decide (20 < (kids.length : Int)) = true := decide_eq_true k0
    have e1' : decide (20 < kids.length) = true := decide_eq_true (by omega)
    clear d0 hd k0
    go_wp2
    go_ret
    exact ⟨301, rfl, HB.out, by decide, by omega, fun h => absurd h (by decide)⟩
  have e1 : decide (20 < (kids.length : Int)) = false := decide_eq_false k0
  have e1' : decide (20 < kids.length) = false := decide_eq_false (by omega)
  by_cases m0 : 40 < (nm.size : Int)
  · have e2 : decide (40 < (nm.size : Int)) = true := decide_eq_true m0
    have e2' : decide (40 < nm.size) = true := decide_eq_true (by omega)
    clear d0 hd k0 m0
    go_wp2
    go_ret
    exact ⟨301, rfl, HB.out, by decide, by omega, fun h => absurd h (by decide)⟩
  have e2 : decide (40 < (nm.size : Int)) = false := decide_eq_false m0
  have e2' : decide (40 < nm.size) = false := decide_eq_false (by omega)
  have HL := Aside0.mk (show kids.length ≤ 20 ∧ nm.size ≤ 40 ∧ d ≤ 12 by omega)
  have hk20 : kids.length ≤ 20 := by omega
  have hd12 : d ≤ 12 := by omega
  clear d0 hd k0 m0
  go_wp2_with fail
  clear x2 x3 e0 e0' e1 e1' e2 e2'
  go_loopw [5, 6] (fun v5 v6 wr => ∃ (i : Nat) (n : Int), i ≤ kids.length ∧ v6 = .int .i64 i ∧ v5 = .int .i64 n ∧ Aside0 (Below W.heap.size W wr ∧ wr.heap[W.heap.size]? = some (.cells #[.int .i64 op, .int .i64 vn, .string nm, .slice AK kids.length cK] 57 (0, 0)) ∧ 1 ≤ n ∧ n ≤ 300 ∧ ∀ (j : Nat) (y : TExpr), j < i → kids[j]? = some y → smE y ∧ dE N y)) (fun _ v6 _ => kids.length - (intOf v6).toNat)
  case atStart => exact ⟨0, 1, Nat.zero_le _, rfl, rfl, ⟨HB.out, HX.out, by decide, by decide, fun j y hj _ => by omega⟩⟩
  case round =>
    obtain ⟨i, n0, hi, rfl, rfl, HS⟩ := hrel
    clear HX HB
    have x3 := (blk_cell HS.out.2.1 3).trans rfl
    by_cases hlt : i < kids.length
    · have e1 : decide ((i : Int) < (kids.length : Int)) = true := decide_eq_true (by omega)
      have e2 : decide (i < kids.length) = true := decide_eq_true hlt
      obtain ⟨ad, A4, c4, hA, h0, h1, h2, h3, hl4, hk4⟩ := at_T57 HA.out.2.1 (i : Int) (by omega) (by omega)
      rw [hA] at x3
      clear hA
      rw [Int.toNat_natCast] at h0 h1 h2 h3
      rw [rdE_eq kids i hlt] at h0 h1 h2 h3 hk4 hl4
      replace h0 := pw_cell_below (below_step HA.out.1 HS.out.1) h0
      replace h1 := pw_cell_below (below_step HA.out.1 HS.out.1) h1
      replace h2 := pw_cell_below (below_step HA.out.1 HS.out.1) h2
      replace h3 := pw_cell_below (below_step HA.out.1 HS.out.1) h3
      have hy : kids[i]? = some kids[i] := List.getElem?_eq_getElem hlt
      generalize kids[i] = y at h0 h1 h2 h3 hk4 hl4 hy
      have HK := Aside0.mk (And.intro hy (And.intro hk4 (And.intro hl4 hlt)))
      have hi0 : (0 : Int) ≤ (i : Int) := by omega
      have hi1 : (i : Int) < (kids.length : Int) := by omega
      have hwd : wrap64 ((d : Int) + 1) = ((d + 1 : Nat) : Int) := by unfold wrap64; omega
      clear hy hk4 hl4 hlt
      go_wp2_with fail
      first | rw [hwd] | rw [show (d : Int) + 1 = ((d + 1 : Nat) : Int) from rfl]
      refine (HI.out y (d + 1) (by have := HA.out.2.2.2; omega) wr A4 c4 (below_step HA.out.1 HS.out.1) HK.out.2.1 HK.out.2.2.1).mono ?_
      rintro e w5 ⟨nk, rfl, hb5, hn1, hn2, hn3⟩
      have HS5 := Aside0.mk (And.intro (below_step HS.out.1 hb5) (And.intro (blk_below HS.out.2.1 hb5) (And.intro hn1 (And.intro hn2 hn3))))
      have hw2 : wrap64 (n0 + nk) = n0 + nk := by have := HS.out.2.2; unfold wrap64; omega
      have HN := Aside0.mk (show 1 ≤ n0 + nk ∧ n0 + nk ≤ 301 + 300 * ((N + 1 : Nat) : Int) from by have := HS.out.2.2; omega)
      clear hb5 hn1 hn2 hn3 h0 h1 h2 h3 x3 hwd
      by_cases hq : 300 < n0 + nk
      · have q1 : decide (300 < n0 + nk) = true := decide_eq_true hq
        have HQ := Aside0.mk hq
        clear hq
        go_wp2
        go_ret
        refine ⟨n0 + nk, by simp only [hw2]; rfl, HS5.out.1, HN.out.1, HN.out.2, fun h => absurd HQ.out (by omega)⟩
      · have q1 : decide (300 < n0 + nk) = false := decide_eq_false hq
        have HZ := Aside0.mk (show Below W.heap.size W w5 ∧ w5.heap[W.heap.size]? = some (.cells #[.int .i64 op, .int .i64 vn, .string nm, .slice AK kids.length cK] 57 (0, 0)) ∧ 1 ≤ n0 + nk ∧ n0 + nk ≤ 300 ∧ ∀ (j : Nat) (z : TExpr), j < i + 1 → kids[j]? = some z → smE z ∧ dE N z from ⟨HS5.out.1, HS5.out.2.1, HN.out.1, by omega, fun j z hj hz => by
          by_cases hji : j = i
          · subst hji
            rw [HK.out.1] at hz
            obtain rfl := Option.some.inj hz
            exact HS5.out.2.2.2.2 (by have := HS.out.2.2; omega)
          · exact HS.out.2.2.2.2 j z (by omega) hz⟩)
        clear hq
        go_wp2
        go_roundw
        case rel => exact ⟨i + 1, n0 + nk, HK.out.2.2.2, by go_num, by first | rfl | rw [hw2], HZ⟩
        case measure => have := HK.out.2.2.2; simp [intOf]; omega
    · have e1 : decide ((i : Int) < (kids.length : Int)) = false := decide_eq_false (by omega)
      have e2 : decide (i < kids.length) = false := decide_eq_false hlt
      obtain rfl : i = kids.length := by omega
      have HZ := Aside0.mk (show smE ⟨op, vn, nm, kids⟩ ∧ dE (N + 1) ⟨op, vn, nm, kids⟩ from by
        have hall : ∀ y ∈ kids, smE y ∧ dE N y := fun y hy => by
          obtain ⟨j, hj, e⟩ := List.getElem_of_mem hy
          exact HS.out.2.2.2.2 j y hj (by rw [List.getElem?_eq_getElem hj, e])
        refine ⟨(smE_def _).2 ⟨Nat.le_trans HL.out.2.1 (by decide), Nat.le_trans HL.out.1 (by decide), smEs_all kids (fun y hy => (hall y hy).1)⟩, fun y hy => (hall y hy).2⟩)
      go_wp2
      go_ret
      exact ⟨n0, rfl, HS.out.1, HS.out.2.2.1, by have := HS.out.2.2; omega, fun _ => HZ.out⟩
theorem ESz_ok (w0 : World) : ∀ N, N ≤ 14 → ESzOk w0 N
  | 0, _ => by
    rintro ⟨op, vn, nm, kids⟩ d hd W AK cK hb hC hlk
    obtain rfl : d = 14 := by omega
    show Calls Try.prog 39 #[.agg #[.int .i64 op, .int .i64 vn, .string nm, .slice AK kids.length cK], .int .i64 14] W _
    go_enter Try.func39, Try.ntmps39
    have HB := Aside0.mk (below_al (Below.refl W.heap.size W) (.cells #[.int .i64 op, .int .i64 vn, .string nm, .slice AK kids.length cK] 57 (0, 0)))
    go_wp2
    go_ret
    exact ⟨301, rfl, HB.out, by decide, by decide, fun h => absurd h (by decide)⟩
  | N + 1, h => ESz_step w0 N h (ESz_ok w0 N (by omega))
theorem dC_mono : ∀ (n m : Nat) (x : TCond), n ≤ m → dC n x → dC m x
  | 0, m, x, _, h => h.elim
  | n + 1, m, x, hm, h => by
    obtain ⟨m, rfl⟩ : ∃ q, m = q + 1 := ⟨m - 1, by omega⟩
    exact fun k hk => dC_mono n m k (by omega) (h k hk)
def CSzOk (w0 : World) (N : Nat) : Prop :=
  ∀ (x : TCond) (d : Nat), d + N = 14 → ∀ (W : World) (AK : Option Addr) (cK : Nat), Below w0.heap.size w0 W → Kd.C kCond w0 AK x.f4.length x.f4 → x.f4.length ≤ cK →
    Calls Try.prog 22 #[.agg #[.int .i64 x.f0, .int .i64 x.f1, .string x.f2, .int .i64 x.f3, .slice AK x.f4.length cK], .int .i64 (d : Int)] W fun r W' => ∃ n : Int, r = .returned (.int .i64 n) ∧ Below W.heap.size W W' ∧ 1 ≤ n ∧ n ≤ 301 + 300 * (N : Int) ∧ (n ≤ 300 → smC x ∧ dC N x)
set_option maxHeartbeats 8000000 in
set_option maxRecDepth 100000 in
theorem CSz_step (w0 : World) (N : Nat) (hN14 : N + 1 ≤ 14) (ih : CSzOk w0 N) : CSzOk w0 (N + 1) := by
  rintro ⟨op, th, nm, vn, kids⟩ d hd W AK cK hb hC hlk
  have HI := Aside0.mk ih
  have HA := Aside0.mk (And.intro hb (And.intro hC (And.intro hlk hd)))
  have hkm : kids.length ≤ 9223372036854775807 := hC.2.1
  have HKM := Aside0.mk hkm
  clear ih hb hC hlk
  show Calls Try.prog 22 #[.agg #[.int .i64 op, .int .i64 th, .string nm, .int .i64 vn, .slice AK kids.length cK], .int .i64 (d : Int)] W _
  go_enter Try.func22, Try.ntmps22
  have HX := Aside0.mk (blk_new W (.cells #[.int .i64 op, .int .i64 th, .string nm, .int .i64 vn, .slice AK kids.length cK] 26 (0, 0)))
  have HB := Aside0.mk (below_al (Below.refl W.heap.size W) (.cells #[.int .i64 op, .int .i64 th, .string nm, .int .i64 vn, .slice AK kids.length cK] 26 (0, 0)))
  go_upto_region 1 with fail
  generalize World.alloc W _ = w1 at HX HB ⊢
  have x2 := (blk_cell HX.out 2).trans rfl
  have x4 := (blk_cell HX.out 4).trans rfl
  clear hkm
  by_cases d0 : 12 < (d : Int)
  · have e0 : decide (12 < (d : Int)) = true := decide_eq_true d0
    have e0' : decide (12 < d) = true := decide_eq_true (by omega)
    clear d0 hd
    go_wp2
    go_ret
    exact ⟨301, rfl, HB.out, by decide, by omega, fun h => absurd h (by decide)⟩
  have e0 : decide (12 < (d : Int)) = false := decide_eq_false d0
  have e0' : decide (12 < d) = false := decide_eq_false (by omega)
  by_cases k0 : 20 < (kids.length : Int)
  · have e1 : decide (20 < (kids.length : Int)) = true := decide_eq_true k0
    have e1' : decide (20 < kids.length) = true := decide_eq_true (by omega)
    clear d0 hd k0
    go_wp2
    go_ret
    exact ⟨301, rfl, HB.out, by decide, by omega, fun h => absurd h (by decide)⟩
  have e1 : decide (20 < (kids.length : Int)) = false := decide_eq_false k0
  have e1' : decide (20 < kids.length) = false := decide_eq_false (by omega)
  by_cases m0 : 40 < (nm.size : Int)
  · have e2 : decide (40 < (nm.size : Int)) = true := decide_eq_true m0
    have e2' : decide (40 < nm.size) = true := decide_eq_true (by omega)
    clear d0 hd k0 m0
    go_wp2
    go_ret
    exact ⟨301, rfl, HB.out, by decide, by omega, fun h => absurd h (by decide)⟩
  have e2 : decide (40 < (nm.size : Int)) = false := decide_eq_false m0
  have e2' : decide (40 < nm.size) = false := decide_eq_false (by omega)
  have HL := Aside0.mk (show kids.length ≤ 20 ∧ nm.size ≤ 40 ∧ d ≤ 12 by omega)
  have hk20 : kids.length ≤ 20 := by omega
  have hd12 : d ≤ 12 := by omega
  clear d0 hd k0 m0
  go_wp2_with fail
  clear x2 x4 e0 e0' e1 e1' e2 e2'
  go_loopw [5, 6] (fun v5 v6 wr => ∃ (i : Nat) (n : Int), i ≤ kids.length ∧ v6 = .int .i64 i ∧ v5 = .int .i64 n ∧ Aside0 (Below W.heap.size W wr ∧ wr.heap[W.heap.size]? = some (.cells #[.int .i64 op, .int .i64 th, .string nm, .int .i64 vn, .slice AK kids.length cK] 26 (0, 0)) ∧ 1 ≤ n ∧ n ≤ 300 ∧ ∀ (j : Nat) (y : TCond), j < i → kids[j]? = some y → smC y ∧ dC N y)) (fun _ v6 _ => kids.length - (intOf v6).toNat)
  case atStart => exact ⟨0, 1, Nat.zero_le _, rfl, rfl, ⟨HB.out, HX.out, by decide, by decide, fun j y hj _ => by omega⟩⟩
  case round =>
    obtain ⟨i, n0, hi, rfl, rfl, HS⟩ := hrel
    clear HX HB
    have x4 := (blk_cell HS.out.2.1 4).trans rfl
    by_cases hlt : i < kids.length
    · have e1 : decide ((i : Int) < (kids.length : Int)) = true := decide_eq_true (by omega)
      have e2 : decide (i < kids.length) = true := decide_eq_true hlt
      obtain ⟨ad, A4, c4, hA, h0, h1, h2, h3, h4, hl4, hk4⟩ := at_T26 HA.out.2.1 (i : Int) (by omega) (by omega)
      rw [hA] at x4
      clear hA
      rw [Int.toNat_natCast] at h0 h1 h2 h3 h4
      rw [rdC_eq kids i hlt] at h0 h1 h2 h3 h4 hk4 hl4
      replace h0 := pw_cell_below (below_step HA.out.1 HS.out.1) h0
      replace h1 := pw_cell_below (below_step HA.out.1 HS.out.1) h1
      replace h2 := pw_cell_below (below_step HA.out.1 HS.out.1) h2
      replace h3 := pw_cell_below (below_step HA.out.1 HS.out.1) h3
      replace h4 := pw_cell_below (below_step HA.out.1 HS.out.1) h4
      have hy : kids[i]? = some kids[i] := List.getElem?_eq_getElem hlt
      generalize kids[i] = y at h0 h1 h2 h3 h4 hk4 hl4 hy
      have HK := Aside0.mk (And.intro hy (And.intro hk4 (And.intro hl4 hlt)))
      have hi0 : (0 : Int) ≤ (i : Int) := by omega
      have hi1 : (i : Int) < (kids.length : Int) := by omega
      have hwd : wrap64 ((d : Int) + 1) = ((d + 1 : Nat) : Int) := by unfold wrap64; omega
      clear hy hk4 hl4 hlt
      go_wp2_with fail
      first | rw [hwd] | rw [show (d : Int) + 1 = ((d + 1 : Nat) : Int) from rfl]
      refine (HI.out y (d + 1) (by have := HA.out.2.2.2; omega) wr A4 c4 (below_step HA.out.1 HS.out.1) HK.out.2.1 HK.out.2.2.1).mono ?_
      rintro e w5 ⟨nk, rfl, hb5, hn1, hn2, hn3⟩
      have HS5 := Aside0.mk (And.intro (below_step HS.out.1 hb5) (And.intro (blk_below HS.out.2.1 hb5) (And.intro hn1 (And.intro hn2 hn3))))
      have hw2 : wrap64 (n0 + nk) = n0 + nk := by have := HS.out.2.2; unfold wrap64; omega
      have HN := Aside0.mk (show 1 ≤ n0 + nk ∧ n0 + nk ≤ 301 + 300 * ((N + 1 : Nat) : Int) from by have := HS.out.2.2; omega)
      clear hb5 hn1 hn2 hn3 h0 h1 h2 h3 h4 x4 hwd
      by_cases hq : 300 < n0 + nk
      · have q1 : decide (300 < n0 + nk) = true := decide_eq_true hq
        have HQ := Aside0.mk hq
        clear hq
        go_wp2
        go_ret
        refine ⟨n0 + nk, by simp only [hw2]; rfl, HS5.out.1, HN.out.1, HN.out.2, fun h => absurd HQ.out (by omega)⟩
      · have q1 : decide (300 < n0 + nk) = false := decide_eq_false hq
        have HZ := Aside0.mk (show Below W.heap.size W w5 ∧ w5.heap[W.heap.size]? = some (.cells #[.int .i64 op, .int .i64 th, .string nm, .int .i64 vn, .slice AK kids.length cK] 26 (0, 0)) ∧ 1 ≤ n0 + nk ∧ n0 + nk ≤ 300 ∧ ∀ (j : Nat) (z : TCond), j < i + 1 → kids[j]? = some z → smC z ∧ dC N z from ⟨HS5.out.1, HS5.out.2.1, HN.out.1, by omega, fun j z hj hz => by
          by_cases hji : j = i
          · subst hji
            rw [HK.out.1] at hz
            obtain rfl := Option.some.inj hz
            exact HS5.out.2.2.2.2 (by have := HS.out.2.2; omega)
          · exact HS.out.2.2.2.2 j z (by omega) hz⟩)
        clear hq
        go_wp2
        go_roundw
        case rel => exact ⟨i + 1, n0 + nk, HK.out.2.2.2, by go_num, by first | rfl | rw [hw2], HZ⟩
        case measure => have := HK.out.2.2.2; simp [intOf]; omega
    · have e1 : decide ((i : Int) < (kids.length : Int)) = false := decide_eq_false (by omega)
      have e2 : decide (i < kids.length) = false := decide_eq_false hlt
      obtain rfl : i = kids.length := by omega
      have HZ := Aside0.mk (show smC ⟨op, th, nm, vn, kids⟩ ∧ dC (N + 1) ⟨op, th, nm, vn, kids⟩ from by
        have hall : ∀ y ∈ kids, smC y ∧ dC N y := fun y hy => by
          obtain ⟨j, hj, e⟩ := List.getElem_of_mem hy
          exact HS.out.2.2.2.2 j y hj (by rw [List.getElem?_eq_getElem hj, e])
        refine ⟨(smC_def _).2 ⟨Nat.le_trans HL.out.2.1 (by decide), Nat.le_trans HL.out.1 (by decide), smCs_all kids (fun y hy => (hall y hy).1)⟩, fun y hy => (hall y hy).2⟩)
      go_wp2
      go_ret
      exact ⟨n0, rfl, HS.out.1, HS.out.2.2.1, by have := HS.out.2.2; omega, fun _ => HZ.out⟩
theorem CSz_ok (w0 : World) : ∀ N, N ≤ 14 → CSzOk w0 N
  | 0, _ => by
    rintro ⟨op, th, nm, vn, kids⟩ d hd W AK cK hb hC hlk
    obtain rfl : d = 14 := by omega
    show Calls Try.prog 22 #[.agg #[.int .i64 op, .int .i64 th, .string nm, .int .i64 vn, .slice AK kids.length cK], .int .i64 14] W _
    go_enter Try.func22, Try.ntmps22
    have HB := Aside0.mk (below_al (Below.refl W.heap.size W) (.cells #[.int .i64 op, .int .i64 th, .string nm, .int .i64 vn, .slice AK kids.length cK] 26 (0, 0)))
    go_wp2
    go_ret
    exact ⟨301, rfl, HB.out, by decide, by decide, fun h => absurd h (by decide)⟩
  | N + 1, h => CSz_step w0 N h (CSz_ok w0 N (by omega))
end Go.Proofs.Ytlhbnbckanmaiaa.K
namespace Go.Proofs.Ytlhbnbckanmaiaa.K
open Go Go.RowKit Go.Proofs.YtlhbnbckanmaiaaW.PrintWords Go.Proofs.YtlhbnbckanmaiaaW.PrintLast Go.Proofs.YtlhbnbckanmaiaaW.PrintMore Go.Proofs.Ytlhbnbckanmaiaa.PC1
set_option linter.unusedVariables false
set_option linter.unusedSimpArgs false
theorem smSs_all : ∀ (l : List TStmt), (∀ y ∈ l, smS y) → smSs l
  | [], _ => by rw [smSs]; trivial
  | x :: xs, h => by rw [smSs]; exact ⟨h x (by simp), smSs_all xs (fun y hy => h y (by simp [hy]))⟩
theorem hdL_all : ∀ (l : List TStmt), (∀ y ∈ l, hdS y) → hdL l
  | [], _ => by rw [hdL]; trivial
  | x :: xs, h => by rw [hdL]; exact ⟨h x (by simp), hdL_all xs (fun y hy => h y (by simp [hy]))⟩
def SSzOk (w0 : World) (N : Nat) : Prop :=
  ∀ (l : List TStmt) (d : Nat), d + N = 14 → ∀ (W : World) (A : Option Addr) (c : Nat), Below w0.heap.size w0 W → Kd.C kStmt w0 A l.length l →
    Calls Try.prog 23 #[.slice A l.length c, .int .i64 (d : Int)] W fun r W' => ∃ n : Int, r = .returned (.int .i64 n) ∧ Below W.heap.size W W' ∧ 0 ≤ n ∧ n ≤ 5000 * (N + 1 : Int) ∧ (n ≤ 300 → smSs l ∧ hdL l ∧ (cntL l : Int) ≤ n ∧ l.length ≤ 40)
abbrev sObj (x : TStmt) (A4 : Option Addr) (c4 : Nat) (A5 : Option Addr) (c5 : Nat) (A6 : Option Addr) (c6 : Nat) : Obj := .cells #[.int .i64 x.f0, .int .i64 x.f1, .string x.f2, .string x.f3, .slice A4 x.f4.length c4, .slice A5 x.f5.length c5, .slice A6 x.f6.length c6] 55 (0, 0)
set_option maxHeartbeats 8000000 in
set_option maxRecDepth 100000 in
theorem ssz_step (w0 : World) (N : Nat) (hN14 : N + 1 ≤ 14) (ih : SSzOk w0 N) : SSzOk w0 (N + 1) := by
  intro l d hd W A c hb hC
  have HI := Aside0.mk ih
  have HA := Aside0.mk (And.intro hb (And.intro hC hd))
  clear ih hb hC
  go_enter Try.func23, Try.ntmps23
  by_cases d0 : 12 < (d : Int)
  · have e0 : decide (12 < (d : Int)) = true := decide_eq_true d0
    have e0' : decide (12 < d) = true := decide_eq_true (by omega)
    clear d0 hd
    go_wp2
    go_ret
    exact ⟨301, rfl, Below.refl _ _, by decide, by omega, fun h => absurd h (by decide)⟩
  have e0 : decide (12 < (d : Int)) = false := decide_eq_false d0
  have e0' : decide (12 < d) = false := decide_eq_false (by omega)
  by_cases k0 : 40 < (l.length : Int)
  · have e1 : decide (40 < (l.length : Int)) = true := decide_eq_true k0
    have e1' : decide (40 < l.length) = true := decide_eq_true (by omega)
    clear d0 hd k0
    go_wp2
    go_ret
    exact ⟨301, rfl, Below.refl _ _, by decide, by omega, fun h => absurd h (by decide)⟩
  have e1 : decide (40 < (l.length : Int)) = false := decide_eq_false k0
  have e1' : decide (40 < l.length) = false := decide_eq_false (by omega)
  have hl40 : l.length ≤ 40 := by omega
  have hd12 : d ≤ 12 := by omega
  clear d0 hd k0
  go_wp2_with fail
  clear e0 e0' e1 e1'
  go_loopw [5, 6] (fun v5 v6 wr => ∃ (i : Nat) (n : Int), i ≤ l.length ∧ v6 = .int .i64 i ∧ v5 = .int .i64 n ∧ Aside0 (Below W.heap.size W wr ∧ 0 ≤ n ∧ n ≤ 300 ∧ (cntL (l.take i) : Int) ≤ n ∧ ∀ (j : Nat) (y : TStmt), j < i → l[j]? = some y → smS y ∧ hdS y)) (fun _ v6 _ => l.length - (intOf v6).toNat)
  case atStart => exact ⟨0, 0, Nat.zero_le _, rfl, rfl, ⟨Below.refl _ _, by decide, by decide, by rw [List.take_zero, cntL]; decide, fun j y hj _ => by omega⟩⟩
  case round =>
    obtain ⟨i, n0, hi, rfl, rfl, HS⟩ := hrel
    by_cases hlt : i < l.length
    · have e1 : decide ((i : Int) < (l.length : Int)) = true := decide_eq_true (by omega)
      have e2 : decide (i < l.length) = true := decide_eq_true hlt
      obtain ⟨ad, A4, c4, A5, c5, A6, c6, hA, h0, h1, h2, h3, h4, h5, h6, hl4, hk4, hl5, hk5, hl6, hk6⟩ := at_T55 HA.out.2.1 (i : Int) (by omega) (by omega)
      subst hA
      rw [Int.toNat_natCast] at h0 h1 h2 h3 h4 h5 h6
      rw [rdS_eq l i hlt] at h0 h1 h2 h3 h4 h5 h6 hl4 hk4 hl5 hk5 hl6 hk6
      have hb := below_step HA.out.1 HS.out.1
      replace h0 := pw_cell_below hb h0
      replace h1 := pw_cell_below hb h1
      replace h2 := pw_cell_below hb h2
      replace h3 := pw_cell_below hb h3
      replace h4 := pw_cell_below hb h4
      replace h5 := pw_cell_below hb h5
      replace h6 := pw_cell_below hb h6
      have hy : l[i]? = some l[i] := List.getElem?_eq_getElem hlt
      have hct := (cntL_take l i hlt).1
      generalize l[i] = x at h0 h1 h2 h3 h4 h5 h6 hl4 hk4 hl5 hk5 hl6 hk6 hy hct
      have hcs := cntS_def x
      have HK := Aside0.mk (And.intro hy (And.intro hct (And.intro hcs (And.intro hk4 (And.intro hl4 (And.intro hk5 (And.intro hk6 hlt)))))))
      have hi0 : (0 : Int) ≤ (i : Int) := by omega
      have hi1 : (i : Int) < (l.length : Int) := by omega
      have HX := Aside0.mk (blk_new wr (sObj x A4 c4 A5 c5 A6 c6))
      have HB := Aside0.mk (below_step HS.out.1 (below_al (Below.refl wr.heap.size wr) (sObj x A4 c4 A5 c5 A6 c6)))
      clear hy hct hcs hk4 hl4 hk5 hl5 hk6 hl6 hlt hb
      go_upto_region 8 with fail
      generalize World.alloc wr _ = w1 at HX HB ⊢
      generalize wr.heap.size = bx at HX HB ⊢
      clear h0 h1 h2 h3 h4 h5 h6
      have x2 := (blk_cell HX.out 2).trans rfl
      have x3 := (blk_cell HX.out 3).trans rfl
      have x4 := (blk_cell HX.out 4).trans rfl
      by_cases m0 : 40 < (x.f2.size : Int)
      · have q0 : decide (40 < (x.f2.size : Int)) = true := decide_eq_true m0
        have q0' : decide (40 < x.f2.size) = true := decide_eq_true (by omega)
        clear m0
        go_wp2
        go_ret
        exact ⟨301, rfl, HB.out, by decide, by omega, fun h => absurd h (by decide)⟩
      have q0 : decide (40 < (x.f2.size : Int)) = false := decide_eq_false m0
      have q0' : decide (40 < x.f2.size) = false := decide_eq_false (by omega)
      by_cases m1 : 40 < (x.f3.size : Int)
      · have q1 : decide (40 < (x.f3.size : Int)) = true := decide_eq_true m1
        have q1' : decide (40 < x.f3.size) = true := decide_eq_true (by omega)
        clear m0 m1
        go_wp2
        go_ret
        exact ⟨301, rfl, HB.out, by decide, by omega, fun h => absurd h (by decide)⟩
      have q1 : decide (40 < (x.f3.size : Int)) = false := decide_eq_false m1
      have q1' : decide (40 < x.f3.size) = false := decide_eq_false (by omega)
      by_cases m2 : 20 < (x.f4.length : Int)
      · have q2 : decide (20 < (x.f4.length : Int)) = true := decide_eq_true m2
        have q2' : decide (20 < x.f4.length) = true := decide_eq_true (by omega)
        clear m0 m1 m2
        go_wp2
        go_ret
        exact ⟨301, rfl, HB.out, by decide, by omega, fun h => absurd h (by decide)⟩
      have q2 : decide (20 < (x.f4.length : Int)) = false := decide_eq_false m2
      have q2' : decide (20 < x.f4.length) = false := decide_eq_false (by omega)
      have HL := Aside0.mk (show x.f2.size ≤ 40 ∧ x.f3.size ≤ 40 ∧ x.f4.length ≤ 20 by omega)
      have hx4 : x.f4.length ≤ 20 := by omega
      have hw0 : wrap64 (n0 + 1) = n0 + 1 := by have := HS.out.2; unfold wrap64; omega
      clear m0 m1 m2
      go_wp2_with fail
      clear q0 q0' q1 q1' q2 q2' x2 x3 x4
      go_loopw [5, 8] (fun v5 v8 wk => ∃ (k : Nat) (n : Int), k ≤ x.f4.length ∧ v8 = .int .i64 k ∧ v5 = .int .i64 n ∧ Aside0 (Below W.heap.size W wk ∧ wk.heap[bx]? = some (sObj x A4 c4 A5 c5 A6 c6) ∧ n0 + 1 ≤ n ∧ n ≤ 301 ∧ ∀ (j : Nat) (y : TExpr), j < k → x.f4[j]? = some y → smE y ∧ dE 14 y)) (fun _ v8 _ => x.f4.length - (intOf v8).toNat)
      case atStart => exact ⟨0, n0 + 1, Nat.zero_le _, rfl, by rw [hw0], ⟨HB.out, HX.out, Int.le_refl _, by have := HS.out.2; omega, fun j y hj _ => by omega⟩⟩
      case round =>
        obtain ⟨k, n1, hk, rfl, rfl, HT⟩ := hrel
        clear HX HB hw0
        have x4 := (blk_cell HT.out.2.1 4).trans rfl
        by_cases hkt : k < x.f4.length
        · have e3 : decide ((k : Int) < (x.f4.length : Int)) = true := decide_eq_true (by omega)
          have e4 : decide (k < x.f4.length) = true := decide_eq_true hkt
          obtain ⟨ad4, A7, c7, hA7, g0, g1, g2, g3, gl4, gk4⟩ := at_T57 HK.out.2.2.2.1 (k : Int) (by omega) (by omega)
          rw [hA7] at x4
          clear hA7
          rw [Int.toNat_natCast] at g0 g1 g2 g3
          rw [rdE_eq x.f4 k hkt] at g0 g1 g2 g3 gl4 gk4
          have hb := below_step HA.out.1 HT.out.1
          replace g0 := pw_cell_below hb g0
          replace g1 := pw_cell_below hb g1
          replace g2 := pw_cell_below hb g2
          replace g3 := pw_cell_below hb g3
          have hz : x.f4[k]? = some x.f4[k] := List.getElem?_eq_getElem hkt
          generalize x.f4[k] = z at g0 g1 g2 g3 gl4 gk4 hz
          have HZ := Aside0.mk (And.intro hz (And.intro gk4 (And.intro gl4 (And.intro hb hkt))))
          have hk0 : (0 : Int) ≤ (k : Int) := by omega
          have hk1 : (k : Int) < (x.f4.length : Int) := by omega
          clear hz gk4 gl4 hb hkt
          go_wp2_with fail
          refine (ESz_ok w0 14 (Nat.le_refl _) z 0 rfl _ A7 c7 HZ.out.2.2.2.1 HZ.out.2.1 HZ.out.2.2.1).mono ?_
          rintro e w5 ⟨nk, rfl, hb5, hn1, hn2, hn3⟩
          have HS5 := Aside0.mk (And.intro (below_step HT.out.1 hb5) (And.intro (blk_below HT.out.2.1 hb5) (And.intro hn1 (And.intro hn2 hn3))))
          have hw2 : wrap64 (n1 + nk) = n1 + nk := by have := HT.out.2.2; have := HS.out.2; unfold wrap64; omega
          clear hb5 hn1 hn2 hn3 g0 g1 g2 g3 x4
          by_cases hq : 300 < n1 + nk
          · have r1 : decide (300 < n1 + nk) = true := decide_eq_true hq
            have HQ := Aside0.mk hq
            clear hq
            go_wp2
            go_ret
            refine ⟨n1 + nk, by simp only [hw2]; rfl, HS5.out.1, by have := HT.out.2.2; have := HS5.out.2.2; have := HS.out.2; omega, by have := HT.out.2.2; have := HS5.out.2.2; omega, fun h => absurd HQ.out (by omega)⟩
          · have r1 : decide (300 < n1 + nk) = false := decide_eq_false hq
            have HZ2 := Aside0.mk (show Below W.heap.size W w5 ∧ w5.heap[bx]? = some (sObj x A4 c4 A5 c5 A6 c6) ∧ n0 + 1 ≤ n1 + nk ∧ n1 + nk ≤ 301 ∧ ∀ (j : Nat) (y : TExpr), j < k + 1 → x.f4[j]? = some y → smE y ∧ dE 14 y from ⟨HS5.out.1, HS5.out.2.1, by have := HT.out.2.2; have := HS5.out.2.2; omega, by omega, fun j y hj hy => by
              by_cases hjk : j = k
              · subst hjk
                rw [HZ.out.1] at hy
                obtain rfl := Option.some.inj hy
                exact HS5.out.2.2.2.2 (by have := HT.out.2.2; have := HS.out.2; omega)
              · exact HT.out.2.2.2.2 j y (by omega) hy⟩)
            clear hq
            go_wp2
            go_roundw
            case rel => exact ⟨k + 1, n1 + nk, HZ.out.2.2.2.2, by go_num, by first | rw [hw2] | rfl, HZ2⟩
            case measure => have := HZ.out.2.2.2.2; simp [intOf]; omega
        · have e3 : decide ((k : Int) < (x.f4.length : Int)) = false := decide_eq_false (by omega)
          have e4 : decide (k < x.f4.length) = false := decide_eq_false hkt
          obtain rfl : k = x.f4.length := by omega
          have x5 := (blk_cell HT.out.2.1 5).trans rfl
          have hwd : wrap64 ((d : Int) + 1) = ((d + 1 : Nat) : Int) := by unfold wrap64; omega
          go_wp2_with fail
          first | rw [hwd] | rw [show (d : Int) + 1 = ((d + 1 : Nat) : Int) from rfl]
          refine (HI.out x.f5 (d + 1) (by have := HA.out.2.2; omega) _ A5 c5 (below_step HA.out.1 HT.out.1) HK.out.2.2.2.2.2.1).mono ?_
          rintro e w5 ⟨nt, rfl, hb5, hn1, hn2, hn3⟩
          have HS5 := Aside0.mk (And.intro (below_step HT.out.1 hb5) (And.intro (blk_below HT.out.2.1 hb5) (And.intro hn1 (And.intro hn2 hn3))))
          have hw2 : wrap64 (n1 + nt) = n1 + nt := by have := HT.out.2.2; have := HS.out.2; unfold wrap64; omega
          clear hb5 hn1 hn2 hn3 x4 x5 hkt hk e3 e4
          by_cases hq : 300 < n1 + nt
          · have r1 : decide (300 < n1 + nt) = true := decide_eq_true hq
            have HQ := Aside0.mk hq
            clear hq
            go_wp2
            go_ret
            refine ⟨n1 + nt, by simp only [hw2]; rfl, HS5.out.1, by have := HT.out.2.2; have := HS5.out.2.2; have := HS.out.2; omega, by have := HT.out.2.2; have := HS5.out.2.2; omega, fun h => absurd HQ.out (by omega)⟩
          have r1 : decide (300 < n1 + nt) = false := decide_eq_false hq
          have HQ := Aside0.mk hq
          clear hq
          have x6 := (blk_cell HS5.out.2.1 6).trans rfl
          go_wp2_with fail
          first | rw [hw2] | skip
          first | rw [hwd] | rw [show (d : Int) + 1 = ((d + 1 : Nat) : Int) from rfl]
          refine (HI.out x.f6 (d + 1) (by have := HA.out.2.2; omega) w5 A6 c6 (below_step HA.out.1 HS5.out.1) HK.out.2.2.2.2.2.2.1).mono ?_
          rintro e w6 ⟨ne, rfl, hb6, hn1, hn2, hn3⟩
          have HS6 := Aside0.mk (And.intro (below_step HS5.out.1 hb6) (And.intro hn1 (And.intro hn2 hn3)))
          have hw3 : wrap64 (n1 + nt + ne) = n1 + nt + ne := by have := HT.out.2.2; have := HS5.out.2.2; have := HS.out.2; unfold wrap64; omega
          clear hb6 hn1 hn2 hn3 x6 r1
          by_cases hq : 300 < n1 + nt + ne
          · have r1 : decide (300 < n1 + nt + ne) = true := decide_eq_true hq
            have HQ2 := Aside0.mk hq
            clear hq
            go_wp2
            go_ret
            refine ⟨n1 + nt + ne, by simp only [hw3]; rfl, HS6.out.1, by have := HT.out.2.2; have := HS5.out.2.2; have := HS6.out.2; have := HS.out.2; omega, by have := HQ.out; have := HS6.out.2; omega, fun h => absurd HQ2.out (by omega)⟩
          have r1 : decide (300 < n1 + nt + ne) = false := decide_eq_false hq
          have HZ2 := Aside0.mk (show Below W.heap.size W w6 ∧ 0 ≤ n1 + nt + ne ∧ n1 + nt + ne ≤ 300 ∧ (cntL (l.take (i + 1)) : Int) ≤ n1 + nt + ne ∧ ∀ (j : Nat) (y : TStmt), j < i + 1 → l[j]? = some y → smS y ∧ hdS y from by
            have a1 := HS.out.2
            have a2 := HT.out.2.2
            have a3 := HS5.out.2.2
            have a4 := HS6.out.2
            have b5 := a3.2.2 (by omega)
            have b6 := a4.2.2 (by omega)
            have c1 := HK.out.2.1
            have c2 := HK.out.2.2.1
            refine ⟨HS6.out.1, by omega, by omega, by omega, fun j y hj hy => ?_⟩
            by_cases hji : j = i
            · subst hji
              rw [HK.out.1] at hy
              obtain rfl := Option.some.inj hy
              have hall : ∀ y ∈ x.f4, smE y ∧ dE 14 y := fun y hy => by
                obtain ⟨q, hq, e⟩ := List.getElem_of_mem hy
                exact HT.out.2.2.2.2 q y hq (by rw [List.getElem?_eq_getElem hq, e])
              exact ⟨(smS_def _).2 ⟨by have := HL.out; omega, by have := HL.out; omega, by have := HL.out; omega, smEs_all _ (fun y hy => (hall y hy).1), by omega, b5.1, by omega, b6.1⟩, (hdS_def _).2 ⟨fun y hy => dE_mono 14 20 y (by decide) (hall y hy).2, b5.2.1, b6.2.1⟩⟩
            · exact a1.2.2.2 j y (by omega) hy)
          clear hq hw2 hwd hx4
          go_wp2
          go_roundw
          case rel => exact ⟨i + 1, n1 + nt + ne, HK.out.2.2.2.2.2.2.2, by go_num, by first | rw [hw3] | rfl, HZ2⟩
          case measure => have := HK.out.2.2.2.2.2.2.2; simp [intOf]; omega
    · have e1 : decide ((i : Int) < (l.length : Int)) = false := decide_eq_false (by omega)
      have e2 : decide (i < l.length) = false := decide_eq_false hlt
      obtain rfl : i = l.length := by omega
      have HZ := Aside0.mk (show smSs l ∧ hdL l ∧ (cntL l : Int) ≤ n0 ∧ l.length ≤ 40 from by
        have hall : ∀ y ∈ l, smS y ∧ hdS y := fun y hy => by
          obtain ⟨j, hj, e⟩ := List.getElem_of_mem hy
          exact HS.out.2.2.2.2 j y hj (by rw [List.getElem?_eq_getElem hj, e])
        exact ⟨smSs_all l (fun y hy => (hall y hy).1), hdL_all l (fun y hy => (hall y hy).2), by have := HS.out.2.2.2.1; rwa [List.take_length] at this, hl40⟩)
      go_wp2
      go_ret
      exact ⟨n0, rfl, HS.out.1, HS.out.2.1, by have := HS.out.2; omega, fun _ => HZ.out⟩
theorem ssz_ok (w0 : World) : ∀ N, N ≤ 14 → SSzOk w0 N
  | 0, _ => by
    intro l d hd W A c hb hC
    obtain rfl : d = 14 := by omega
    go_enter Try.func23, Try.ntmps23
    go_wp2
    go_ret
    exact ⟨301, rfl, Below.refl _ _, by decide, by decide, fun h => absurd h (by decide)⟩
  | N + 1, h => ssz_step w0 N h (ssz_ok w0 N (by omega))
end Go.Proofs.Ytlhbnbckanmaiaa.K
namespace Go.Proofs.Ytlhbnbckanmaiaa.K
open Go Go.RowKit Go.Proofs.YtlhbnbckanmaiaaW.PrintWords Go.Proofs.YtlhbnbckanmaiaaW.PrintLast Go.Proofs.YtlhbnbckanmaiaaW.PrintMore Go.Proofs.Ytlhbnbckanmaiaa.PC1
set_option linter.unusedVariables false
set_option linter.unusedSimpArgs false
/-- A program that is light. -/
structure LightP (P : AP) : Prop where
  nm : P.nm.size ≤ 40
  ni : P.init.length ≤ 10
  nt : P.threads.length ≤ 10
  c : smC ⟨P.op, P.th, P.cn, P.n, P.kids⟩ ∧ dC 14 ⟨P.op, P.th, P.cn, P.n, P.kids⟩
  na : ∀ y ∈ P.init, y.f0.size ≤ 40
  t : ∀ l ∈ P.threads, smSs l ∧ hdL l ∧ (cntL l : Int) ≤ 300 ∧ l.length ≤ 40
structure RawP (P : AP) (w : World) : Prop where
  ci : Kd.C kCell w P.AI P.init.length P.init
  ct : Kd.C (Kd.slice 55 kStmt) w P.AT P.threads.length P.threads
  ck : Kd.C kCond w P.AK P.kids.length P.kids
  lk : P.kids.length ≤ P.cK
theorem thread_at2 {W : World} {P : AP} (hC : Kd.C (Kd.slice 55 kStmt) W P.AT P.threads.length P.threads) (i : Nat) (y : List TStmt) (hy : P.threads[i]? = some y) : ∃ ad A c, P.AT = some ad ∧ W.cell? (ad.add i) = some (.slice A y.length c) ∧ y.length ≤ c ∧ Kd.C kStmt W A y.length y := by
  have hi := (List.getElem?_eq_some_iff.1 hy).1
  obtain ⟨ad, c, e1, _, hK, hc0⟩ := Kd.C_get hC [] (i : Int) (by omega) (by omega)
  have hg : P.threads.getD (i : Int).toNat [] = y := by rw [Int.toNat_natCast, List.getD_eq_getElem?_getD, hy]; rfl
  rw [hg] at hK
  obtain ⟨A, cc, rfl, h1, h2⟩ := hK
  have := hc0 0 _ rfl
  rw [Int.toNat_natCast] at this
  have h3 : W.cell? (ad.add i) = some (.slice A y.length cc) := by simpa [Kd.slice] using this
  exact ⟨ad, A, cc, e1, h3, h1, h2⟩
set_option maxHeartbeats 8000000 in
set_option maxRecDepth 100000 in
theorem heavy_any (W : World) (P : AP) (hd : RawP P W) :
    Calls Try.prog 10 #[pAgg P] W fun r W' => ∃ b : Bool, r = .returned (.bool b) ∧ Below W.heap.size W W' ∧ (b = false → LightP P) := by
  have HA := Aside0.mk hd
  clear hd
  go_enter Try.func10, Try.ntmps10
  have HX := Aside0.mk (blk_new W (pObj P))
  have HB := Aside0.mk (below_al (Below.refl W.heap.size W) (pObj P))
  go_upto_region 1 with fail
  generalize World.alloc W _ = w1 at HX HB ⊢
  have x0 := (blk_cell HX.out 0).trans rfl
  have x2 := (blk_cell HX.out 2).trans rfl
  have x3 := (blk_cell HX.out 3).trans rfl
  have x5 := (blk_cell HX.out 5).trans rfl
  have x6 := (blk_cell HX.out 6).trans rfl
  have x7 := (blk_cell HX.out 7).trans rfl
  have x8 := (blk_cell HX.out 8).trans rfl
  have x9 := (blk_cell HX.out 9).trans rfl
  by_cases d0 : 40 < (P.nm.size : Int)
  · have e0 : decide (40 < (P.nm.size : Int)) = true := decide_eq_true d0
    have e0' : decide (40 < P.nm.size) = true := decide_eq_true (by omega)
    clear d0
    go_wp2
    go_ret
    exact ⟨true, rfl, HB.out, fun h => by cases h⟩
  have e0 : decide (40 < (P.nm.size : Int)) = false := decide_eq_false d0
  have e0' : decide (40 < P.nm.size) = false := decide_eq_false (by omega)
  by_cases d1 : 10 < (P.init.length : Int)
  · have e1 : decide (10 < (P.init.length : Int)) = true := decide_eq_true d1
    have e1' : decide (10 < P.init.length) = true := decide_eq_true (by omega)
    clear d0 d1
    go_wp2
    go_ret
    exact ⟨true, rfl, HB.out, fun h => by cases h⟩
  have e1 : decide (10 < (P.init.length : Int)) = false := decide_eq_false d1
  have e1' : decide (10 < P.init.length) = false := decide_eq_false (by omega)
  by_cases d2 : 10 < (P.threads.length : Int)
  · have e2 : decide (10 < (P.threads.length : Int)) = true := decide_eq_true d2
    have e2' : decide (10 < P.threads.length) = true := decide_eq_true (by omega)
    clear d0 d1 d2
    go_wp2
    go_ret
    exact ⟨true, rfl, HB.out, fun h => by cases h⟩
  have e2 : decide (10 < (P.threads.length : Int)) = false := decide_eq_false d2
  have e2' : decide (10 < P.threads.length) = false := decide_eq_false (by omega)
  have HL := Aside0.mk (show P.nm.size ≤ 40 ∧ P.init.length ≤ 10 ∧ P.threads.length ≤ 10 by omega)
  have hi10 : P.init.length ≤ 10 := by omega
  have ht10 : P.threads.length ≤ 10 := by omega
  clear d0 d1 d2
  go_wp2_with fail
  refine (CSz_ok W 14 (Nat.le_refl _) ⟨P.op, P.th, P.cn, P.n, P.kids⟩ 0 rfl _ P.AK P.cK HB.out HA.out.ck HA.out.lk).mono ?_
  rintro e w2 ⟨nc, rfl, hb2, hn1, hn2, hn3⟩
  have HC := Aside0.mk (And.intro hn1 (And.intro hn2 hn3))
  have HB2 := Aside0.mk (below_step HB.out hb2)
  have HX2 := Aside0.mk (blk_below HX.out hb2)
  clear hb2 hn1 hn2 hn3 x0 x2 x3 x5 x6 x7 x8 x9 e0 e0' e1 e1' e2 e2' HX HB
  go_wp2_with fail
  go_loopw [4] (fun v4 wr => ∃ i : Nat, i ≤ P.init.length ∧ v4 = .int .i64 i ∧ wr = w2 ∧ Aside0 (∀ (j : Nat) (y : TCell), j < i → P.init[j]? = some y → y.f0.size ≤ 40)) (fun v4 _ => P.init.length - (intOf v4).toNat)
  case atStart => exact ⟨0, Nat.zero_le _, rfl, rfl, ⟨fun j y hj _ => by omega⟩⟩
  case round =>
    obtain ⟨i, hi, rfl, rfl, HS⟩ := hrel
    have x2 := (blk_cell HX2.out 2).trans rfl
    by_cases hlt : i < P.init.length
    · have e1 : decide ((i : Int) < (P.init.length : Int)) = true := decide_eq_true (by omega)
      have e2 : decide (i < P.init.length) = true := decide_eq_true hlt
      obtain ⟨ad, hA, h0, h1⟩ := at_T51 HA.out.ci (i : Int) (by omega) (by omega)
      rw [hA] at x2
      clear hA
      rw [Int.toNat_natCast] at h0 h1
      replace h0 := pw_cell_below HB2.out h0
      change _ = some (Value.string (cellAt P i).f0) at h0
      have hc : P.init[i]? = some (cellAt P i) := by rw [cellAt_eq P i hlt, List.getElem?_eq_getElem hlt]
      generalize cellAt P i = z at h0 hc
      have HK := Aside0.mk (And.intro hc hlt)
      have hi0 : (0 : Int) ≤ (i : Int) := by omega
      have hi1 : (i : Int) < (P.init.length : Int) := by omega
      clear h1 hc hlt
      by_cases m0 : 40 < (z.f0.size : Int)
      · have q0 : decide (40 < (z.f0.size : Int)) = true := decide_eq_true m0
        have q0' : decide (40 < z.f0.size) = true := decide_eq_true (by omega)
        clear m0
        go_wp2
        go_ret
        exact ⟨true, rfl, HB2.out, fun h => by cases h⟩
      · have q0 : decide (40 < (z.f0.size : Int)) = false := decide_eq_false m0
        have q0' : decide (40 < z.f0.size) = false := decide_eq_false (by omega)
        have HZ := Aside0.mk (show ∀ (j : Nat) (y : TCell), j < i + 1 → P.init[j]? = some y → y.f0.size ≤ 40 from fun j y hj hy => by
          by_cases hji : j = i
          · subst hji
            rw [HK.out.1] at hy
            obtain rfl := Option.some.inj hy
            omega
          · exact HS.out j y (by omega) hy)
        clear m0
        go_wp2
        go_roundw
        case rel => exact ⟨i + 1, HK.out.2, by go_num, by first | trivial | rfl, HZ⟩
        case measure => have := HK.out.2; simp [intOf]; omega
    · have e1 : decide ((i : Int) < (P.init.length : Int)) = false := decide_eq_false (by omega)
      have e2 : decide (i < P.init.length) = false := decide_eq_false hlt
      obtain rfl : i = P.init.length := by omega
      have HIN := Aside0.mk (show ∀ y ∈ P.init, y.f0.size ≤ 40 from fun y hy => by
        obtain ⟨j, hj, e⟩ := List.getElem_of_mem hy
        exact HS.out j y hj (by rw [List.getElem?_eq_getElem hj, e]))
      clear hlt hi
      go_wp2_with fail
      clear x2 e1 e2
      go_loopw [3, 5] (fun v3 v5 wr => ∃ (i : Nat) (n : Int), i ≤ P.threads.length ∧ v5 = .int .i64 i ∧ v3 = .int .i64 n ∧ Aside0 (Below W.heap.size W wr ∧ wr.heap[W.heap.size]? = some (pObj P) ∧ 1 ≤ n ∧ n ≤ 100000 ∧ (n ≤ 300 → nc ≤ 300 ∧ ∀ (j : Nat) (y : List TStmt), j < i → P.threads[j]? = some y → smSs y ∧ hdL y ∧ (cntL y : Int) ≤ 300 ∧ y.length ≤ 40))) (fun _ v5 _ => P.threads.length - (intOf v5).toNat)
      case atStart => exact ⟨0, nc, Nat.zero_le _, rfl, rfl, ⟨HB2.out, HX2.out, HC.out.1, by have := HC.out; omega, fun h => ⟨h, fun j y hj _ => by omega⟩⟩⟩
      case round =>
        obtain ⟨i, n0, hi, rfl, rfl, HT⟩ := hrel
        have x3 := (blk_cell HT.out.2.1 3).trans rfl
        by_cases hq : n0 ≤ 300
        · have r1 : decide (n0 ≤ 300) = true := decide_eq_true hq
          by_cases hlt : i < P.threads.length
          · have e1 : decide ((i : Int) < (P.threads.length : Int)) = true := decide_eq_true (by omega)
            have e2 : decide (i < P.threads.length) = true := decide_eq_true hlt
            obtain ⟨y, hy⟩ : ∃ y, P.threads[i]? = some y := ⟨_, List.getElem?_eq_getElem hlt⟩
            obtain ⟨ad, A3, c3, hA, t0, hl3, hC3⟩ := thread_at2 HA.out.ct i y hy
            rw [hA] at x3
            clear hA
            replace t0 := pw_cell_below HT.out.1 t0
            have HK := Aside0.mk (And.intro hy (And.intro hC3 (And.intro hlt hq)))
            have hi0 : (0 : Int) ≤ (i : Int) := by omega
            have hi1 : (i : Int) < (P.threads.length : Int) := by omega
            clear hy hC3 hl3 hlt hq
            go_wp2_with fail
            refine (ssz_ok W 14 (Nat.le_refl _) y 0 rfl _ A3 c3 HT.out.1 HK.out.2.1).mono ?_
            rintro e w5 ⟨nk, rfl, hb5, hn1, hn2, hn3⟩
            have HS5 := Aside0.mk (And.intro (below_step HT.out.1 hb5) (And.intro (blk_below HT.out.2.1 hb5) (And.intro hn1 (And.intro hn2 hn3))))
            have hw2 : wrap64 (n0 + nk) = n0 + nk := by have := HT.out.2.2; unfold wrap64; omega
            have HZ := Aside0.mk (show Below W.heap.size W w5 ∧ w5.heap[W.heap.size]? = some (pObj P) ∧ 1 ≤ n0 + nk ∧ n0 + nk ≤ 100000 ∧ (n0 + nk ≤ 300 → nc ≤ 300 ∧ ∀ (j : Nat) (z : List TStmt), j < i + 1 → P.threads[j]? = some z → smSs z ∧ hdL z ∧ (cntL z : Int) ≤ 300 ∧ z.length ≤ 40) from by
              have a1 := HT.out.2.2
              have a2 := HS5.out.2.2
              have a3 := HK.out.2.2.2
              refine ⟨HS5.out.1, HS5.out.2.1, by omega, by omega, fun h => ⟨(a1.2.2 (by omega)).1, fun j z hj hz => ?_⟩⟩
              by_cases hji : j = i
              · subst hji
                rw [HK.out.1] at hz
                obtain rfl := Option.some.inj hz
                have := a2.2.2 (by omega)
                exact ⟨this.1, this.2.1, by omega, this.2.2.2⟩
              · exact (a1.2.2 (by omega)).2 j z (by omega) hz)
            clear hb5 hn1 hn2 hn3 t0 x3
            go_wp2
            go_roundw
            case rel => exact ⟨i + 1, n0 + nk, HK.out.2.2.1, by go_num, by first | rw [hw2] | rfl, HZ⟩
            case measure => have := HK.out.2.2.1; simp [intOf]; omega
          · have e1 : decide ((i : Int) < (P.threads.length : Int)) = false := decide_eq_false (by omega)
            have e2 : decide (i < P.threads.length) = false := decide_eq_false hlt
            obtain rfl : i = P.threads.length := by omega
            have r2 : decide (300 < n0) = false := decide_eq_false (by omega)
            have HF := Aside0.mk (show LightP P from by
              have a1 := HT.out.2.2.2.2 hq
              have a2 := HC.out.2.2 a1.1
              exact ⟨HL.out.1, HL.out.2.1, HL.out.2.2, a2, HIN.out, fun l hl => by
                obtain ⟨j, hj, e⟩ := List.getElem_of_mem hl
                exact a1.2 j l hj (by rw [List.getElem?_eq_getElem hj, e])⟩)
            clear hq
            go_wp2
            go_ret
            exact ⟨false, rfl, HT.out.1, fun _ => HF.out⟩
        · have r1 : decide (n0 ≤ 300) = false := decide_eq_false hq
          have r2 : decide (300 < n0) = true := decide_eq_true (by omega)
          clear hq
          by_cases hlt : i < P.threads.length
          · have e1 : decide ((i : Int) < (P.threads.length : Int)) = true := decide_eq_true (by omega)
            have e2 : decide (i < P.threads.length) = true := decide_eq_true hlt
            go_wp2
            go_ret
            exact ⟨true, rfl, HT.out.1, fun h => by cases h⟩
          · have e1 : decide ((i : Int) < (P.threads.length : Int)) = false := decide_eq_false (by omega)
            have e2 : decide (i < P.threads.length) = false := decide_eq_false hlt
            go_wp2
            go_ret
            exact ⟨true, rfl, HT.out.1, fun h => by cases h⟩
end Go.Proofs.Ytlhbnbckanmaiaa.K
