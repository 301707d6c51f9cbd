/- A text of a claim (ours): what is read at a type is a value of its kind; conditions: none of ours. -/
import Derived.Test.YtlhbnbckanmaiaaNAV
import Derived.Test.YtlhbnbckanmaiaaM6V
import Derived.Test.YtlhbnbckanmaiaaM5V
import Derived.Test.YtlhbnbckanmaiaaNBV
import Derived.Test.YtlhbnbckanmaiaaM3V
import Derived.Test.YtlhbnbckanmaiaaN9V
import Derived.ChangeArms
import Derived.DataReads
import Derived.DataElems
namespace Go.Proofs.Ytlhbnbckanmaiaa.K
open Go Go.RowKit Go.Proofs.YtlhbnbckanmaiaaW.PrintWords Go.Proofs.YtlhbnbckanmaiaaW.PrintLast Go.Proofs.YtlhbnbckanmaiaaW.PrintMore Go.Proofs.Ytlhbnbckanmaiaa.PC1
set_option linter.unusedVariables false
set_option linter.unusedSimpArgs false
/-- While a register is put behind a copy of a row: 0, 8 the small rows, 2, 9 the appends. -/
structure JR (wD : World) (xs : List ByteArray) (r : ByteArray) (A0 : Option Addr) (c0 : Nat) (f : Nat → Bool) (g : Nat → Value) (w : World) : Prop where
  b : Below wD.heap.size wD w
  z : f 10 = false → g 0 = .slice A0 xs.length c0
  v0 : f 0 = true → f 2 = false → ∃ b0, g 28 = .slice (some ⟨b0, 0, none⟩) 0 0 ∧ wD.heap.size ≤ b0 ∧ w.heap[b0]? = some (.cells #[] 9 (0, 0))
  v2 : f 2 = true → f 9 = false → w.ownsRow wD.heap.size 9 1 (g 30) xs.length (rowS xs)
  v8 : f 8 = true → f 9 = false → ∃ b1, g 36 = .slice (some ⟨b1, 0, none⟩) 1 1 ∧ w.heap[b1]? = some (.cells #[.string r] 9 (0, 0))
  v9 : f 9 = true → w.ownsRow wD.heap.size 9 1 (g 37) (xs ++ [r]).length (rowS (xs ++ [r]))
  v10 : f 10 = true → g 0 = g 37
theorem JR.other {wD w : World} {xs : List ByteArray} {r : ByteArray} {A0 : Option Addr} {c0 : Nat} {f : Nat → Bool} {a : Act} (h : JR wD xs r A0 c0 f (gt a) w) (k d : Nat) (v : Value)
    (h0 : 0 ≠ k) (h2 : 2 ≠ k) (h8 : 8 ≠ k) (h9 : 9 ≠ k) (h10 : 10 ≠ k) (g0 : d ≠ 0) (g1 : d ≠ 28) (g2 : d ≠ 30) (g3 : d ≠ 36) (g4 : d ≠ 37) : JR wD xs r A0 c0 (upd f k) (gt (a.put (some d) v)) w := by
  have e0 := gt_put_ne a (some d) v 0 (fun e => g0 (Option.some.inj e))
  have e1 := gt_put_ne a (some d) v 28 (fun e => g1 (Option.some.inj e))
  have e2 := gt_put_ne a (some d) v 30 (fun e => g2 (Option.some.inj e))
  have e3 := gt_put_ne a (some d) v 36 (fun e => g3 (Option.some.inj e))
  have e4 := gt_put_ne a (some d) v 37 (fun e => g4 (Option.some.inj e))
  exact ⟨h.b, by rw [upd_ne f h10, e0]; exact h.z, by rw [upd_ne f h0, upd_ne f h2, e1]; exact h.v0, by rw [upd_ne f h2, upd_ne f h9, e2]; exact h.v2, by rw [upd_ne f h8, upd_ne f h9, e3]; exact h.v8, by rw [upd_ne f h9, e4]; exact h.v9, by rw [upd_ne f h10, e0, e4]; exact h.v10⟩
/-- A row of names that a call gives back. -/
def RowBack (W : World) (xs : List ByteArray) (r : Ending) (W' : World) : Prop := ∃ A c, r = .returned (.slice A xs.length c) ∧ xs.length ≤ c ∧ Kd.C Kd.string W' A xs.length xs ∧ Below W.heap.size W W'
def RAddOk (w0 : World) (N : Nat) : Prop :=
  ∀ (l : List TStmt), SizeOf.sizeOf l < N → ∀ (W : World) (xs : List ByteArray) (A0 : Option Addr) (c0 : Nat) (A : Option Addr) (c : Nat), Below w0.heap.size w0 W → Kd.C kStmt w0 A l.length l → Kd.C Kd.string W A0 xs.length xs → xs.length ≤ c0 → smSs l → cntL l ≤ 1000 → xs.length + cntL l ≤ 1000 →
    Calls Try.prog 34 #[.slice A0 xs.length c0, .slice A l.length c] W (RowBack W (regsL xs l))
set_option maxHeartbeats 8000000 in
set_option maxRecDepth 100000 in
theorem radd_step (w0 : World) (N : Nat) (ih : RAddOk w0 N) : RAddOk w0 (N + 1) := by
  intro l hN W xs A0 c0 A c hb hC hC0 hl0 hsm hcn hxc
  have HI := Aside0.mk ih
  have HA := Aside0.mk (And.intro hb (And.intro hC (And.intro hsm (And.intro hcn (And.intro hN hxc)))))
  have H0 := Aside0.mk (And.intro hC0 hl0)
  have hl1 : l.length ≤ 1000 := Nat.le_trans (cntL_len l) hcn
  clear ih hb hC hsm hcn hN hC0 hl0 hxc
  go_enter Try.func34, Try.ntmps34
  go_wp2_with fail
  go_loopw [0, 5] (fun v0 v5 wr => ∃ (i : Nat) (ys : List ByteArray) (Ay : Option Addr) (cy : Nat), i ≤ l.length ∧ v5 = .int .i64 i ∧ v0 = .slice Ay ys.length cy ∧ Aside0 (ys = regsL xs (l.take i) ∧ ys.length ≤ cy ∧ Kd.C Kd.string wr Ay ys.length ys ∧ Below w0.heap.size w0 wr ∧ Below W.heap.size W wr)) (fun _ v5 _ => l.length - (intOf v5).toNat)
  case atStart => exact ⟨0, xs, A0, c0, Nat.zero_le _, rfl, rfl, ⟨by rw [List.take_zero, regsL], H0.out.2, H0.out.1, HA.out.1, Below.refl _ _⟩⟩
  case round =>
    obtain ⟨i, ys, Ay, cy, hi, rfl, rfl, HB⟩ := hrel
    by_cases hlt : i < l.length
    · have e1 : decide ((i : Int) < (l.length : Int)) = true := decide_eq_true (by omega)
      have e2 : decide (i < l.length) = true := decide_eq_true hlt
      obtain ⟨ad, A4, c4, A5, c5, A6, c6, hA, h0, h1, h2, h3, h4, h5, h6, hl4, hk4, hl5, hk5, hl6, hk6⟩ := at_T55 HA.out.2.1 (i : Int) (by omega) (by omega)
      subst hA
      rw [Int.toNat_natCast] at h0 h2 h5 h6
      rw [rdS_eq l i hlt] at h0 h2 h5 h6 hk5 hk6
      replace h0 := pw_cell_below HB.out.2.2.2.1 h0
      replace h2 := pw_cell_below HB.out.2.2.2.1 h2
      have hs := (smS_def _).1 (smSs_get l i hlt HA.out.2.2.1)
      have hct := cntL_take l i hlt
      have hcs := cntS_def l[i]
      have hz := sizeS l i hlt
      have hrt := regsL_take l xs i hlt
      rw [← HB.out.1, regsS_def] at hrt
      have hyl : ys.length + 1 + cntL l[i].f5 + cntL l[i].f6 ≤ 1000 := by have := regsL_len xs (l.take i); rw [← HB.out.1] at this; have := HA.out.2.2.2.2.2; omega
      have HK := Aside0.mk (show StK w0 N l i l[i] A5 A6 from ⟨hlt, by omega, by have := HA.out.2.2.2.1; omega, hk5, hk6, hs.2.2.2.2.2.1, hs.2.2.2.2.2.2.2, by have := HA.out.2.2.2.2.1; omega, by have := HA.out.2.2.2.2.1; omega⟩)
      generalize l[i] = x at h0 h2 h5 h6 HK hrt hyl
      have HRT := Aside0.mk (And.intro hrt hyl)
      have HC5 := Aside0.mk (And.intro h5 h6)
      have hi0 : (0 : Int) ≤ (i : Int) := by omega
      have hi1 : (i : Int) < (l.length : Int) := by omega
      have hi2 := hlt
      have hy1 : ys.length ≤ 1000 := by omega
      clear h1 h3 h4 h5 h6 hk4 hl4 hk5 hl5 hk6 hl6 hs hct hcs hz hlt hi hrt hyl
      go_upto_region 4 with fail
      go_cut [27] (fun v27 wx => v27 = .bool (regF x.f0 && !(hasB ys x.f2)) ∧ Aside0 (Below wr.heap.size wr wx))
      case first =>
        go_wp2_with fail
        refine (witheref9_sets.calls x.f0 (regF x.f0) _ (sets_eq x.f0)).mono ?_
        rintro e w3 ⟨rfl, hd3⟩
        have HD3 := Aside0.mk (drawn_below hd3)
        replace h2 := pw_cell_below HD3.out h2
        clear hd3
        cases hr : regF x.f0 with
        | false =>
          have HR := Aside0.mk hr
          clear hr h0
          go_wp2
          go_meet
          exact ⟨by rw [HR.out]; rfl, HD3⟩
        | true =>
          have HR := Aside0.mk hr
          clear hr h0
          go_wp2_with fail
          with_reducible refine (witheref9_In.calls 1002 Ay cy ys x.f2 (hasB ys x.f2) _ (Kd.C_below HB.out.2.2.1 HD3.out) HB.out.2.1 (in_str _ _ hy1)).mono ?_
          rintro e w4 ⟨rfl, hd4⟩
          have HD4 := Aside0.mk (below_step HD3.out (drawn_below hd4))
          clear hd4
          go_wp2
          go_meet
          exact ⟨by rw [HR.out]; simp, HD4⟩
      case rest =>
      obtain ⟨rfl, HWC⟩ := hcut
      clear h0
      replace h2 := pw_cell_below HWC.out h2
      have HBC := Aside0.mk (show ys.length ≤ cy ∧ Kd.C Kd.string wc Ay ys.length ys ∧ Below w0.heap.size w0 wc ∧ Below W.heap.size W wc from ⟨HB.out.2.1, Kd.C_below HB.out.2.2.1 HWC.out, below_step HB.out.2.2.2.1 HWC.out, below_step HB.out.2.2.2.2 HWC.out⟩)
      clear HB HWC
      go_upto_if 27 with fail
      go_cut [0] (fun v0 wx => ∃ (zs : List ByteArray) (Az : Option Addr) (cz : Nat), v0 = .slice Az zs.length cz ∧ Aside0 (zs = regs1 ys x.f0 x.f2 ∧ zs.length ≤ cz ∧ Kd.C Kd.string wx Az zs.length zs ∧ Below w0.heap.size w0 wx ∧ Below W.heap.size W wx))
      case first =>
        cases hr : (regF x.f0 && !(hasB ys x.f2)) with
        | false =>
          have HZ := Aside0.mk (show ys = regs1 ys x.f0 x.f2 from by unfold regs1; rw [hr]; rfl)
          clear hr h2
          go_wp2
          go_meet
          exact ⟨ys, Ay, cy, rfl, ⟨HZ.out, HBC.out⟩⟩
        | true =>
          have HZ := Aside0.mk (show ys ++ [x.f2] = regs1 ys x.f0 x.f2 from by unfold regs1; rw [hr]; rfl)
          clear hr
          go_upto_region 5 with fail
          refine wp_region_any (by kernel_rfl) ?_
          have HD := Aside0.mk (show ys.length ≤ cy ∧ Kd.C Kd.string wc.drew Ay ys.length ys ∧ Below w0.heap.size w0 wc.drew ∧ Below W.heap.size W wc.drew from ⟨HBC.out.1, Kd.C_below HBC.out.2.1 (below_drew (Below.refl _ _)), below_step HBC.out.2.2.1 (below_drew (Below.refl _ _)), below_step HBC.out.2.2.2 (below_drew (Below.refl _ _))⟩)
          have h2D := pw_cell_below (below_drew (Below.refl wc.heap.size wc)) h2
          change wpAny _ _ _ _ _ _ _ wc.drew
          generalize wc.drew = wD at HD h2D ⊢
          refine wpAny_flow3 rfl (by kernel_rfl) [some 28, some 29, some 30, some 31, some 32, some 33, some 34, some 35, some 36, some 37, some 0] rfl (by decide) [28, 29, 30, 31, 32, 33, 34, 35, 36, 37, 0] rfl 53 rfl (by decide) (fun k v w9 => match k with | 1 => v = Value.slice Ay ys.length cy | 3 => v = Value.slice (some ad) l.length c | 4 => v = Value.int .i64 (i : Int) | 5 => v = Value.pointer (some (ad.add (i * 7))) | 6 => v = Value.pointer (some (⟨(ad.add (i * 7)).block, (ad.add (i * 7)).off + 2, none⟩ : Addr)) | 7 => v = Value.string x.f2 | _ => True) (JR wD ys x.f2 Ay cy) ?_ ?_ ?_ _ _ (by simp) (by decide) (no_flag 11)
          · intro i9 o dd r9 f a w9 ho hp hr9 hI hsz9 hf hd K hK
            have hi9 : i9 < 11 := (Array.getElem?_eq_some_iff.1 ho).1
            match i9, hi9 with
            | 0, _ =>
              cases ho; cases hp; cases hr9
              have n2 : f 2 = false := hI.fi.nf2 (i := 0) (k := 2) hf (by kernel_rfl)
              have n9 : f 9 = false := hI.fi.nf2 (i := 2) (k := 9) n2 (by kernel_rfl)
              have n10 : f 10 = false := hI.fi.nf2 (i := 9) (k := 10) n9 (by kernel_rfl)
              refine want_yes rfl ?_
              have hbw := hI.j.b
              unfold Oper.wp; simp [execOp, go_sem]
              refine hK _ _ (fun _ _ => trivial) (fun _ _ _ _ h => h) ⟨below_alloc hbw _, fun q => (gt_put_ne a _ _ _ (by decide)).trans (hI.j.z ((upd_ne f (by decide)).symm.trans q)), fun _ _ => ⟨w9.heap.size, gt_put_eq a 28 _ (by omega), hbw.size, blk_new w9 _⟩, fun q => absurd (n2.symm.trans ((upd_ne f (by decide)).symm.trans q)) (by decide), fun q q2 => ?_, fun q => absurd (n9.symm.trans ((upd_ne f (by decide)).symm.trans q)) (by decide), fun q => absurd (n10.symm.trans ((upd_ne f (by decide)).symm.trans q)) (by decide)⟩
              obtain ⟨b1, k1, k2⟩ := hI.j.v8 ((upd_ne f (by decide)).symm.trans q) ((upd_ne f (by decide)).symm.trans q2)
              exact ⟨b1, (gt_put_ne a _ _ _ (by decide)).trans k1, blk_below k2 (below_alloc (Below.refl _ _) _)⟩
            | 1, _ =>
              cases ho; cases hp; cases hr9
              have n2 : f 2 = false := hI.fi.nf2 (i := 1) (k := 2) hf (by kernel_rfl)
              have n9 : f 9 = false := hI.fi.nf2 (i := 2) (k := 9) n2 (by kernel_rfl)
              have n10 : f 10 = false := hI.fi.nf2 (i := 9) (k := 10) n9 (by kernel_rfl)
              refine want_yes rfl ?_
              have e := hI.j.z n10
              unfold Oper.wp; simp [execOp, e, go_sem]; exact hK _ _ (fun _ _ => rfl) (fun _ _ _ _ h => h) (hI.j.other 1 29 _ (by decide) (by decide) (by decide) (by decide) (by decide) (by decide) (by decide) (by decide) (by decide) (by decide))
            | 2, _ =>
              cases ho; cases hp; cases hr9
              have n9 : f 9 = false := hI.fi.nf2 (i := 2) (k := 9) hf (by kernel_rfl)
              have n10 : f 10 = false := hI.fi.nf2 (i := 9) (k := 10) n9 (by kernel_rfl)
              have hbw := hI.j.b
              obtain ⟨b0, g1, g2, g4⟩ := hI.j.v0 (hd 0 (of_decide_eq_true (by kernel_rfl))) hf
              have e2 : gt a 29 = Value.slice Ay ys.length cy := hI.fi.v 1 29 rfl (hd 1 (of_decide_eq_true (by kernel_rfl)))
              have hR0 : Kd.R Kd.string 9 w9 wD.heap.size (fun _ => True) (.slice (some ⟨b0, 0, none⟩) 0 0) [] := Kd.R_of_own (h1 := fun _ => rfl) ⟨rfl, .inr ⟨b0, 0, #[], rfl, g2, g4, Nat.le_refl _, by decide, rfl, rfl⟩⟩ (fun _ _ => trivial)
              refine Kd.R_append_rows_step Kd.string (w0 := wD) (W := w9) wD.heap.size rfl (.tmp 28) (.tmp 29) 37 9 (.string ⟨#[]⟩) 16 rfl Try.underlying37 infoStr rfl (by decide) (by omega) (.slice (some ⟨b0, 0, none⟩) 0 0) [] ys Ay ys.length cy (fun _ => True) (fun _ => False) (by simp [Act.eval]; exact g1) (by simp [Act.eval]; exact e2) hR0 (Kd.C_below HD.out.2.1 hbw) (fun _ _ h => h) (fun _ h => h.elim) (fun _ _ => trivial) hbw hbw.size (by simp; omega) ?_
              intro v1 wa h1 h2' h3 h4
              refine hK _ _ (fun _ _ => trivial) (fun _ _ _ _ h => h) ⟨h2', fun q => (gt_put_ne a _ _ _ (by decide)).trans (hI.j.z ((upd_ne f (by decide)).symm.trans q)), fun _ q => absurd ((upd_eq f 2).symm.trans q) (by decide), fun _ _ => by rw [gt_put_eq a 30 v1 (by omega)]; exact Kd.own_of_R h1, fun q q2 => ?_, fun q => absurd (n9.symm.trans ((upd_ne f (by decide)).symm.trans q)) (by decide), fun q => absurd (n10.symm.trans ((upd_ne f (by decide)).symm.trans q)) (by decide)⟩
              obtain ⟨b1, k1, k2⟩ := hI.j.v8 ((upd_ne f (by decide)).symm.trans q) n9
              refine ⟨b1, (gt_put_ne a _ _ _ (by decide)).trans k1, blk_grown k2 h3 (fun e => ?_)⟩
              have e' : b1 = b0 := Option.some.inj e
              rw [e', g4] at k2
              exact absurd (Option.some.inj k2) (by simp)
            | 3, _ =>
              cases ho; cases hp; cases hr9; refine want_yes rfl ?_; have e := (hI.fi.sl 1 rfl).trans (rfl : _ = Value.slice (some ad) l.length c)
              unfold Oper.wp; simp [execOp, e, go_sem]; exact hK _ _ (fun _ _ => rfl) (fun _ _ _ _ h => h) (hI.j.other 3 31 _ (by decide) (by decide) (by decide) (by decide) (by decide) (by decide) (by decide) (by decide) (by decide) (by decide))
            | 4, _ =>
              cases ho; cases hp; cases hr9; refine want_yes rfl ?_; have e := (hI.fi.sl 5 rfl).trans (rfl : _ = Value.int .i64 (i : Int))
              unfold Oper.wp; simp [execOp, e, go_sem]; exact hK _ _ (fun _ _ => rfl) (fun _ _ _ _ h => h) (hI.j.other 4 32 _ (by decide) (by decide) (by decide) (by decide) (by decide) (by decide) (by decide) (by decide) (by decide) (by decide))
            | 5, _ =>
              cases ho; cases hp; cases hr9; refine want_yes rfl ?_; have e0 : gt a 31 = Value.slice (some ad) l.length c := hI.fi.v 3 31 rfl (hd 3 (of_decide_eq_true (by kernel_rfl)))
              have e1 : gt a 32 = Value.int .i64 (i : Int) := hI.fi.v 4 32 rfl (hd 4 (of_decide_eq_true (by kernel_rfl)))
              unfold Oper.wp; simp [execOp, e0, e1, hi0, hi1, hi2, go_sem]; exact hK _ _ (fun _ _ => rfl) (fun _ _ _ _ h => h) (hI.j.other 5 33 _ (by decide) (by decide) (by decide) (by decide) (by decide) (by decide) (by decide) (by decide) (by decide) (by decide))
            | 6, _ =>
              cases ho; cases hp; cases hr9; refine want_yes rfl ?_; have e0 : gt a 33 = Value.pointer (some (ad.add (i * 7))) := hI.fi.v 5 33 rfl (hd 5 (of_decide_eq_true (by kernel_rfl)))
              unfold Oper.wp; simp [execOp, e0, go_sem]; exact hK _ _ (fun _ _ => rfl) (fun _ _ _ _ h => h) (hI.j.other 6 34 _ (by decide) (by decide) (by decide) (by decide) (by decide) (by decide) (by decide) (by decide) (by decide) (by decide))
            | 7, _ =>
              cases ho; cases hp; cases hr9; refine want_yes rfl ?_; have e0 : gt a 34 = Value.pointer (some (⟨(ad.add (i * 7)).block, (ad.add (i * 7)).off + 2, none⟩ : Addr)) := hI.fi.v 6 34 rfl (hd 6 (of_decide_eq_true (by kernel_rfl)))
              have c := pw_cell_below hI.j.b h2D
              unfold Oper.wp; simp [execOp, e0, c, go_sem]; exact hK _ _ (fun _ _ => rfl) (fun _ _ _ _ h => h) (hI.j.other 7 35 _ (by decide) (by decide) (by decide) (by decide) (by decide) (by decide) (by decide) (by decide) (by decide) (by decide))
            | 8, _ =>
              cases ho; cases hp; cases hr9
              have n9 : f 9 = false := hI.fi.nf2 (i := 8) (k := 9) hf (by kernel_rfl)
              have n10 : f 10 = false := hI.fi.nf2 (i := 9) (k := 10) n9 (by kernel_rfl)
              refine want_yes rfl ?_
              have hbw := hI.j.b
              have e0 : gt a 35 = Value.string x.f2 := hI.fi.v 7 35 rfl (hd 7 (of_decide_eq_true (by kernel_rfl)))
              unfold Oper.wp; simp [execOp, e0, go_sem]
              refine hK _ _ (fun _ _ => trivial) (fun _ _ _ _ h => h) ⟨below_alloc hbw _, fun q => (gt_put_ne a _ _ _ (by decide)).trans (hI.j.z ((upd_ne f (by decide)).symm.trans q)), fun q q2 => ?_, fun q _ => by rw [gt_put_ne a _ _ _ (by decide)]; exact pw_own_below (hI.j.v2 ((upd_ne f (by decide)).symm.trans q) n9) (below_alloc (Below.refl _ _) _), fun _ _ => ⟨w9.heap.size, gt_put_eq a 36 _ (by omega), blk_new w9 _⟩, fun q => absurd (n9.symm.trans ((upd_ne f (by decide)).symm.trans q)) (by decide), fun q => absurd (n10.symm.trans ((upd_ne f (by decide)).symm.trans q)) (by decide)⟩
              obtain ⟨b0, k1, k2, k3⟩ := hI.j.v0 ((upd_ne f (by decide)).symm.trans q) ((upd_ne f (by decide)).symm.trans q2)
              exact ⟨b0, (gt_put_ne a _ _ _ (by decide)).trans k1, k2, blk_below k3 (below_alloc (Below.refl _ _) _)⟩
            | 9, _ =>
              cases ho; cases hp; cases hr9
              have n10 : f 10 = false := hI.fi.nf2 (i := 9) (k := 10) hf (by kernel_rfl)
              have hbw := hI.j.b
              have f2 := hd 2 (of_decide_eq_true (by kernel_rfl))
              have g4 := hI.j.v2 f2 hf
              obtain ⟨b1, g5, g6⟩ := hI.j.v8 (hd 8 (of_decide_eq_true (by kernel_rfl))) hf
              refine step_append_str rfl (.tmp 30) (.tmp 36) rfl wD.heap.size (gt a 30) ys x.f2 (by simp [Act.eval, gt]) g4 b1 (by simp [Act.eval]; exact g5) g6 (by omega) hbw.size ?_
              intro v' wa h1 h2' h3
              have hwa : Below wD.heap.size wD wa := hbw.trans (Chg.below (Chg.grown (F := fun k => some k = (gt a 30).ownBlock) h2' (fun k hk => hk.symm)) hbw.size (fun k hk => by have := (g4.lt k hk.symm).1; omega))
              exact hK _ _ (fun _ _ => trivial) (fun _ _ _ _ h => h) ⟨hwa, fun q => (gt_put_ne a _ _ _ (by decide)).trans (hI.j.z ((upd_ne f (by decide)).symm.trans q)), fun _ q => absurd (f2.symm.trans ((upd_ne f (by decide)).symm.trans q)) (by decide), fun _ q => absurd ((upd_eq f 9).symm.trans q) (by decide), fun _ q => absurd ((upd_eq f 9).symm.trans q) (by decide), fun _ => by rw [gt_put_eq a 37 v' (by omega)]; exact h1, fun q => absurd (n10.symm.trans ((upd_ne f (by decide)).symm.trans q)) (by decide)⟩
            | 10, _ =>
              cases ho; cases hp; cases hr9; refine want_yes rfl ?_
              have f9 := hd 9 (of_decide_eq_true (by kernel_rfl))
              have g9 := hI.j.v9 f9
              obtain ⟨v', hv'⟩ : ∃ v', gt a 37 = v' := ⟨_, rfl⟩
              unfold Oper.wp; simp [execOp, hv', go_sem]
              have f2 := hI.fi.cl 9 _ rfl f9 2 (of_decide_eq_true (by kernel_rfl))
              exact hK _ _ (fun _ _ => trivial) (fun _ _ _ _ h => h) ⟨hI.j.b, fun q => absurd ((upd_eq f 10).symm.trans q) (by decide), fun _ q => absurd (f2.symm.trans ((upd_ne f (by decide)).symm.trans q)) (by decide), fun _ q => absurd (f9.symm.trans ((upd_ne f (by decide)).symm.trans q)) (by decide), fun _ q => absurd (f9.symm.trans ((upd_ne f (by decide)).symm.trans q)) (by decide), fun _ => by rw [gt_put_ne a _ _ _ (by decide)]; exact g9, fun _ => by rw [gt_put_eq a 0 v' (by omega), gt_put_ne a _ _ _ (by decide), hv']⟩
          · intro f g w9 hall hj hphi
            have hown := hj.v9 (hall 9 (by decide))
            have h0' := hj.v10 (hall 10 (by decide))
            obtain ⟨Az, cz, hz, hz1, hz2⟩ := rowS_slice hown
            rw [hz] at h0'
            have HB9 := Aside0.mk (show (ys ++ [x.f2]) = regs1 ys x.f0 x.f2 ∧ (ys ++ [x.f2]).length ≤ cz ∧ Kd.C Kd.string w9 Az (ys ++ [x.f2]).length (ys ++ [x.f2]) ∧ Below w0.heap.size w0 w9 ∧ Below W.heap.size W w9 from ⟨HZ.out, hz1, hz2, below_step HD.out.2.2.1 hj.b, below_step HD.out.2.2.2 hj.b⟩)
            simp only [List.map_cons, List.map_nil, h0', hz]
            simp only [fill, List.setIfInBounds_toArray, List.set_cons_zero, List.set_cons_succ]
            clear hall hphi hj hown h0' hz hz1 hz2 h2D h2
            generalize ys ++ [x.f2] = zs at HB9 ⊢
            go_wp2
            go_meet
            exact ⟨zs, Az, cz, rfl, HB9⟩
          · intro f hf
            exact ⟨Below.refl _ _, fun _ => rfl, fun q => absurd ((hf 0).symm.trans q) (by decide), fun q => absurd ((hf 2).symm.trans q) (by decide), fun q => absurd ((hf 8).symm.trans q) (by decide), fun q => absurd ((hf 9).symm.trans q) (by decide), fun q => absurd ((hf 10).symm.trans q) (by decide)⟩
      case rest =>
      obtain ⟨zs, Az, cz, rfl, HB⟩ := hcut
      clear h2 HBC
      have h5 := pw_cell_below HB.out.2.2.2.1 HC5.out.1
      go_wp2_with fail
      refine (HI.out x.f5 HK.out.sz5 _ zs Az cz A5 c5 HB.out.2.2.2.1 HK.out.k5 HB.out.2.2.1 HB.out.2.1 HK.out.s5 (by have := HK.out.n; omega) (by have := HRT.out.2; have := regs1_len ys x.f0 x.f2; rw [← HB.out.1] at this; omega)).mono ?_
      rintro e w6 ⟨Az2, cz2, rfl, hz1, hz2, hz3⟩
      have HB6 := Aside0.mk (show regsL zs x.f5 = regsL (regs1 ys x.f0 x.f2) x.f5 ∧ (regsL zs x.f5).length ≤ cz2 ∧ Kd.C Kd.string w6 Az2 (regsL zs x.f5).length (regsL zs x.f5) ∧ Below w0.heap.size w0 w6 ∧ Below W.heap.size W w6 from ⟨by rw [HB.out.1], hz1, hz2, below_step HB.out.2.2.2.1 hz3, below_step HB.out.2.2.2.2 hz3⟩)
      have HL6 := Aside0.mk (show (regsL zs x.f5).length + cntL x.f6 ≤ 1000 from by have := regsL_len zs x.f5; have := HRT.out.2; have := regs1_len ys x.f0 x.f2; rw [← HB.out.1] at this; omega)
      clear h5 hz1 hz2 hz3 HB
      generalize regsL zs x.f5 = us at HB6 HL6 ⊢
      have h6 := pw_cell_below HB6.out.2.2.2.1 HC5.out.2
      go_wp2_with fail
      refine (HI.out x.f6 HK.out.sz6 _ us Az2 cz2 A6 c6 HB6.out.2.2.2.1 HK.out.k6 HB6.out.2.2.1 HB6.out.2.1 HK.out.s6 (by have := HK.out.n; omega) HL6.out).mono ?_
      rintro e w7 ⟨Az3, cz3, rfl, hz1, hz2, hz3⟩
      have HB7 := Aside0.mk (show regsL us x.f6 = regsL xs (l.take (i + 1)) ∧ (regsL us x.f6).length ≤ cz3 ∧ Kd.C Kd.string w7 Az3 (regsL us x.f6).length (regsL us x.f6) ∧ Below w0.heap.size w0 w7 ∧ Below W.heap.size W w7 from ⟨by rw [HRT.out.1, HB6.out.1], hz1, hz2, below_step HB6.out.2.2.2.1 hz3, below_step HB6.out.2.2.2.2 hz3⟩)
      clear h6 hz1 hz2 hz3 HB6 HL6
      generalize regsL us x.f6 = vs at HB7 ⊢
      go_wp2
      go_roundw
      case rel => exact ⟨i + 1, vs, Az3, cz3, HK.out.lt, by go_num, rfl, HB7⟩
      case measure => have := HK.out.lt; simp [intOf]; omega
    · have e1 : decide ((i : Int) < (l.length : Int)) = false := decide_eq_false (by omega)
      have e2 : decide (i < l.length) = false := decide_eq_false hlt
      obtain rfl : i = l.length := by omega
      have HZ := Aside0.mk (show ys = regsL xs l by have := HB.out.1; rwa [List.take_length] at this)
      clear hlt hi
      go_wp2
      go_ret
      rw [← HZ.out]
      exact ⟨Ay, cy, rfl, HB.out.2.1, HB.out.2.2.1, HB.out.2.2.2.2⟩
theorem radd_ok (w0 : World) : ∀ N, RAddOk w0 N
  | 0 => fun l hN => by omega
  | N + 1 => radd_step w0 N (radd_ok w0 N)
set_option maxHeartbeats 2000000 in
theorem rregs_call (W : World) (l : List TStmt) (A : Option Addr) (c : Nat) (hC : Kd.C kStmt W A l.length l) (hsm : smSs l) (hcn : cntL l ≤ 1000) :
    Calls Try.prog 17 #[.slice A l.length c] W (RowBack W (regsL [] l)) := by
  have HC := Aside0.mk (And.intro hC (And.intro hsm hcn))
  clear hC hsm hcn
  go_enter Try.func17, Try.ntmps17
  go_wp2_with fail
  refine (radd_ok W _ l (Nat.lt_succ_self _) W [] none 0 A c (Below.refl _ _) HC.out.1 (Kd.C_nil _ _) (Nat.le_refl _) HC.out.2.1 HC.out.2.2 (by have := HC.out.2.2; simpa using this)).mono ?_
  rintro e w1 ⟨A1, c1, rfl, h1, h2, h3⟩
  have HR := Aside0.mk (And.intro h1 (And.intro h2 h3))
  clear h1 h2 h3
  go_wp2
  go_ret
  exact ⟨A1, c1, rfl, HR.out.1, HR.out.2.1, HR.out.2.2⟩
theorem rcnt_call (W : World) (l : List TStmt) (A : Option Addr) (c : Nat) (hC : Kd.C kStmt W A l.length l) (hsm : smSs l) (hcn : cntL l ≤ 1000) :
    Calls Try.prog 14 #[.slice A l.length c] W fun r W' => r = .returned (.int .i64 (cntL l : Int)) ∧ Below W.heap.size W W' :=
  rcnt_ok W _ l (Nat.lt_succ_self _) W A c (Below.refl _ _) hC hsm hcn
end Go.Proofs.Ytlhbnbckanmaiaa.K
namespace Go.Proofs.Ytlhbnbckanmaiaa.K
open Go Go.RowKit Go.Proofs.YtlhbnbckanmaiaaW.PrintWords Go.Proofs.YtlhbnbckanmaiaaW.PrintLast Go.Proofs.YtlhbnbckanmaiaaW.PrintMore Go.Proofs.Ytlhbnbckanmaiaa.PC1
set_option linter.unusedVariables false
set_option linter.unusedSimpArgs false
theorem str_at {w : World} {A : Option Addr} {xs : List ByteArray} (h : Kd.C Kd.string w A xs.length xs) (i : Nat) (hi : i < xs.length) : ∃ ad, A = some ad ∧ w.cell? (ad.add i) = some (.string xs[i]) := by
  obtain ⟨ad, c, e, _, hK, hc⟩ := Kd.C_get h (⟨#[]⟩ : ByteArray) (i : Int) (by omega) (by omega)
  have hg : xs.getD (i : Int).toNat (⟨#[]⟩ : ByteArray) = xs[i] := by rw [Int.toNat_natCast, List.getD_eq_getElem?_getD, List.getElem?_eq_getElem hi]; rfl
  rw [hg] at hK
  cases hK
  have := hc 0 _ rfl
  rw [Int.toNat_natCast] at this
  exact ⟨ad, e, by simpa [Kd.string, Kd.scalar] using this⟩
set_option maxHeartbeats 8000000 in
set_option maxRecDepth 100000 in
theorem rnames_ok (W : World) (xs : List ByteArray) (A1 : Option Addr) (c1 : Nat) (A2 : Option Addr) (c2 : Nat) (h1 : Kd.C Kd.string W A1 xs.length xs) (h2 : Kd.C Kd.string W A2 xs.length xs) (hl : xs.length ≤ 1000) :
    Calls Try.prog 15 #[.slice A1 xs.length c1, .slice A2 xs.length c2] W fun r W' => r = .returned (.bool true) ∧ Below W.heap.size W W' := by
  have HA := Aside0.mk (And.intro h1 h2)
  clear h1 h2
  go_enter Try.func15, Try.ntmps15
  have e0 : ((xs.length : Int) != (xs.length : Int)) = false := by simp
  go_wp2_with fail
  go_loopw [5] (fun v5 wr => ∃ i : Nat, i ≤ xs.length ∧ v5 = .int .i64 i ∧ Aside0 (Below W.heap.size W wr)) (fun v5 _ => xs.length - (intOf v5).toNat)
  case atStart => exact ⟨0, Nat.zero_le _, rfl, ⟨Below.refl _ _⟩⟩
  case round =>
    obtain ⟨i, hi, rfl, HB⟩ := hrel
    by_cases hlt : i < xs.length
    · have e1 : decide ((i : Int) < (xs.length : Int)) = true := decide_eq_true (by omega)
      have e2 : decide (i < xs.length) = true := decide_eq_true hlt
      obtain ⟨a1, q1, g1⟩ := str_at HA.out.1 i hlt
      obtain ⟨a2, q2, g2⟩ := str_at HA.out.2 i hlt
      subst q1
      subst q2
      replace g1 := pw_cell_below HB.out g1
      replace g2 := pw_cell_below HB.out g2
      have HK := Aside0.mk hlt
      generalize xs[i] = z at g1 g2
      have hi0 : (0 : Int) ≤ (i : Int) := by omega
      have hi1 : (i : Int) < (xs.length : Int) := by omega
      have hi2 := hlt
      clear hlt hi
      go_upto_region 6 with fail
      go_cut [25] (fun v25 wx => v25 = .bool false ∧ Aside0 (Below W.heap.size W wx))
      case first =>
        go_quiet (fail)
        try go_wp2
        go_meet
        exact ⟨rfl, ⟨pw_below_drewN HB.out _⟩⟩
      case rest =>
      obtain ⟨rfl, HB2⟩ := hcut
      go_wp2
      go_roundw
      case rel => exact ⟨i + 1, HK.out, by go_num, HB2⟩
      case measure => have := HK.out; simp [intOf]; omega
    · have e1 : decide ((i : Int) < (xs.length : Int)) = false := decide_eq_false (by omega)
      have e2 : decide (i < xs.length) = false := decide_eq_false hlt
      go_wp2
      go_ret
      exact ⟨rfl, HB.out⟩
end Go.Proofs.Ytlhbnbckanmaiaa.K
namespace Go.Proofs.Ytlhbnbckanmaiaa.K
open Go Go.RowKit Go.Proofs.YtlhbnbckanmaiaaW.PrintWords Go.Proofs.YtlhbnbckanmaiaaW.PrintLast Go.Proofs.YtlhbnbckanmaiaaW.PrintMore Go.Proofs.Ytlhbnbckanmaiaa.PC1
set_option linter.unusedVariables false
set_option linter.unusedSimpArgs false
/-- What stands in the loop's slots. -/
def PhiA (pb : Nat) (AT : Option Addr) (nT cT : Nat) (i : Nat) (ad : Addr) (A : Option Addr) (y : List TStmt) (c : Nat) (k : Nat) (v : Value) (w : World) : Prop :=
  match k with
  | 0 | 6 | 14 | 20 => v = .pointer (some ⟨pb, 3, none⟩)
  | 1 | 7 | 15 | 21 => v = .slice (some ad) nT cT
  | 2 | 8 | 16 | 22 => v = .int .i64 (i : Int)
  | 3 | 9 | 17 | 23 => v = .pointer (some (ad.add i))
  | 4 | 10 | 18 | 24 => v = .slice A y.length c
  | 5 | 11 => v = .int .i64 (cntL y : Int)
  | 12 | 13 | 27 | 28 => v = .bool false
  | 19 | 25 => ∃ (Ar : Option Addr) (cr : Nat), v = .slice Ar (regsL [] y).length cr ∧ Kd.C Kd.string w Ar (regsL [] y).length (regsL [] y)
  | 26 => v = .bool true
  | _ => True
theorem PhiA.below {pb : Nat} {AT : Option Addr} {nT cT i : Nat} {ad : Addr} {A : Option Addr} {y : List TStmt} {c k : Nat} {v : Value} {w w' : World} (h : PhiA pb AT nT cT i ad A y c k v w) (hb : Below w.heap.size w w') : PhiA pb AT nT cT i ad A y c k v w' := by
  unfold PhiA at h ⊢
  split at h <;> first | exact h | (obtain ⟨Ar, cr, h1, h2⟩ := h; exact ⟨Ar, cr, h1, Kd.C_below h2 hb⟩)
theorem light_ap {P : AP} {W : World} (hd : RawP P W) (h : LightP P) (hli : P.init.length ≤ P.cI) (hlt : P.threads.length ≤ P.cT) : P.dat W ∧ P.sm ∧ P.cn.size ≤ 1000 ∧ (∀ l ∈ P.threads, hdL l) ∧ dC 20 ⟨P.op, P.th, P.cn, P.n, P.kids⟩ := by
  have hc := (smC_def _).1 h.c.1
  have h1 := h.ni
  have h2 := h.nt
  have h3 := h.nm
  exact ⟨⟨hd.ci, hli, hd.ct, hlt, hd.ck, hd.lk, by omega, by omega, by omega, fun x hx => by have := h.na x hx; omega⟩, ⟨fun l hl => by have := h.t l hl; exact ⟨this.1, by omega, by omega⟩, ⟨hc.2.2, hc.2.1⟩⟩, hc.1, fun l hl => (h.t l hl).2.1, dC_mono 14 20 _ (by decide) h.c.2⟩
set_option maxHeartbeats 8000000 in
set_option maxRecDepth 100000 in
theorem call_any (W : World) (P : AP) (hd : RawP P W) (hli : P.init.length ≤ P.cI) (hlt : P.threads.length ≤ P.cT) :
    Calls Try.prog 3 #[pAgg P] W fun r W' => r = .returned (.bool true) ∧ Below W.heap.size W W' := by
  have HA := Aside0.mk (And.intro hd (And.intro hli hlt))
  clear hd hli hlt
  go_enter Try.func3, Try.ntmps3
  have HX := Aside0.mk (blk_new W (pObj P))
  have HB := Aside0.mk (below_al (Below.refl W.heap.size W) (pObj P))
  go_upto_region 1 with fail
  generalize World.alloc W _ = w1 at HX HB ⊢
  go_wp2_with fail
  refine (begun_any _).mono ?_
  rintro e w2 ⟨rfl, hb2⟩
  have HB2 := Aside0.mk (below_step HB.out hb2)
  have HX2 := Aside0.mk (blk_below HX.out hb2)
  have HR2 := Aside0.mk (show RawP P w2 from ⟨Kd.C_below HA.out.1.ci HB2.out, Kd.C_below HA.out.1.ct HB2.out, Kd.C_below HA.out.1.ck HB2.out, HA.out.1.lk⟩)
  clear hb2 HX HB
  have c0 := (blk_cell HX2.out 0).trans rfl
  have c1 := (blk_cell HX2.out 1).trans rfl
  have c2 := (blk_cell HX2.out 2).trans rfl
  have c3 := (blk_cell HX2.out 3).trans rfl
  have c4 := (blk_cell HX2.out 4).trans rfl
  have c5 := (blk_cell HX2.out 5).trans rfl
  have c6 := (blk_cell HX2.out 6).trans rfl
  have c7 := (blk_cell HX2.out 7).trans rfl
  have c8 := (blk_cell HX2.out 8).trans rfl
  have c9 := (blk_cell HX2.out 9).trans rfl
  go_wp2_with fail
  refine (heavy_any _ P HR2.out).mono ?_
  rintro e w3 ⟨b, rfl, hb3, hl⟩
  have HB3 := Aside0.mk (below_step HB2.out hb3)
  have HX3 := Aside0.mk (blk_below HX2.out hb3)
  clear hb3 HR2 HB2 HX2 c0 c1 c2 c3 c4 c5 c6 c7 c8 c9
  cases b with
  | true =>
    clear hl
    go_wp2
    go_ret
    exact ⟨rfl, HB3.out⟩
  | false =>
  have HL := Aside0.mk (hl rfl)
  clear hl
  have HR3 := Aside0.mk (light_ap (W := w3) ⟨Kd.C_below HA.out.1.ci HB3.out, Kd.C_below HA.out.1.ct HB3.out, Kd.C_below HA.out.1.ck HB3.out, HA.out.1.lk⟩ HL.out HA.out.2.1 HA.out.2.2)
  have c0 := (blk_cell HX3.out 0).trans rfl
  have c1 := (blk_cell HX3.out 1).trans rfl
  have c2 := (blk_cell HX3.out 2).trans rfl
  have c3 := (blk_cell HX3.out 3).trans rfl
  have c4 := (blk_cell HX3.out 4).trans rfl
  have c5 := (blk_cell HX3.out 5).trans rfl
  have c6 := (blk_cell HX3.out 6).trans rfl
  have c7 := (blk_cell HX3.out 7).trans rfl
  have c8 := (blk_cell HX3.out 8).trans rfl
  have c9 := (blk_cell HX3.out 9).trans rfl
  go_wp2_with fail
  refine (may_any _ P HR3.out.1 HR3.out.2.1 HR3.out.2.2.1).mono ?_
  rintro e w4 ⟨rfl, hb4⟩
  have HB4 := Aside0.mk (below_step HB3.out hb4)
  have HX4 := Aside0.mk (blk_below HX3.out hb4)
  clear hb4 HR3 HB3 HX3 c0 c1 c2 c3 c4 c5 c6 c7 c8 c9
  have HR4 := Aside0.mk (light_ap (W := w4) ⟨Kd.C_below HA.out.1.ci HB4.out, Kd.C_below HA.out.1.ct HB4.out, Kd.C_below HA.out.1.ck HB4.out, HA.out.1.lk⟩ HL.out HA.out.2.1 HA.out.2.2)
  have c0 := (blk_cell HX4.out 0).trans rfl
  have c1 := (blk_cell HX4.out 1).trans rfl
  have c2 := (blk_cell HX4.out 2).trans rfl
  have c3 := (blk_cell HX4.out 3).trans rfl
  have c4 := (blk_cell HX4.out 4).trans rfl
  have c5 := (blk_cell HX4.out 5).trans rfl
  have c6 := (blk_cell HX4.out 6).trans rfl
  have c7 := (blk_cell HX4.out 7).trans rfl
  have c8 := (blk_cell HX4.out 8).trans rfl
  have c9 := (blk_cell HX4.out 9).trans rfl
  go_wp2_with fail
  refine (refMay_any _ P HR4.out.1 HR4.out.2.1 HR4.out.2.2.1 HR4.out.2.2.2.1 HR4.out.2.2.2.2).mono ?_
  rintro e w5 ⟨rfl, hb5⟩
  have HB5 := Aside0.mk (below_step HB4.out hb5)
  have HX5 := Aside0.mk (blk_below HX4.out hb5)
  clear hb5 HR4 HB4 HX4 c0 c1 c2 c3 c4 c5 c6 c7 c8 c9
  generalize mayE P = me
  generalize mayN P = mn
  have hme : (me != me) = false := by simp
  have hmn : (mn != mn) = false := by simp
  have ht10 : P.threads.length ≤ 10 := HL.out.nt
  go_wp2_with fail
  clear hme hmn
  go_loopw [7] (fun v7 wr => ∃ i : Nat, i ≤ P.threads.length ∧ v7 = .int .i64 i ∧ Aside0 (Below W.heap.size W wr ∧ wr.heap[W.heap.size]? = some (pObj P))) (fun v7 _ => P.threads.length - (intOf v7).toNat)
  case atStart => exact ⟨0, Nat.zero_le _, rfl, ⟨HB5.out, HX5.out⟩⟩
  case round =>
    clear HB5 HX5
    obtain ⟨i, hi, rfl, HT⟩ := hrel
    have c3 := (blk_cell HT.out.2 3).trans rfl
    by_cases hlt : i < P.threads.length
    · have e1 : decide ((i : Int) < (P.threads.length : Int)) = true := decide_eq_true (by omega)
      have e2 : decide (i < P.threads.length) = true := decide_eq_true hlt
      obtain ⟨y, hy⟩ : ∃ y, P.threads[i]? = some y := ⟨_, List.getElem?_eq_getElem hlt⟩
      obtain ⟨ad, A3, cc, hA, t0, hl3, hC3⟩ := thread_at2 HA.out.1.ct i y hy
      have hym := HL.out.t y (List.mem_of_getElem? hy)
      have HY := Aside0.mk (show smSs y ∧ y.length ≤ 1000 ∧ cntL y ≤ 1000 ∧ (regsL [] y).length ≤ 1000 ∧ i < P.threads.length from ⟨hym.1, by omega, by omega, by have := regsL_len [] y; simp at this; omega, hlt⟩)
      rw [hA] at c3
      clear hA hym hy
      replace t0 := pw_cell_below HT.out.1 t0
      have HC3 := Aside0.mk (Kd.C_below hC3 HT.out.1)
      have hi0 : (0 : Int) ≤ (i : Int) := by omega
      have hi1 : (i : Int) < (P.threads.length : Int) := by omega
      have hi2 := hlt
      clear hC3 hl3 hlt hi
      go_upto_region 12 with fail
      go_cut [65] (fun v65 wx => v65 = .bool false ∧ Aside0 (Below wr.heap.size wr wx))
      case first =>
        refine wp_region_any (by kernel_rfl) ?_
        have HWD := Aside0.mk (below_drew (Below.refl wr.heap.size wr))
        have HCD := Aside0.mk (Kd.C_below HC3.out HWD.out)
        replace c3 := pw_cell_below HWD.out c3
        replace t0 := pw_cell_below HWD.out t0
        change wpAny _ _ _ _ _ _ _ wr.drew
        generalize wr.drew = wD at HWD HCD c3 t0 ⊢
        refine wpAny_flow3 rfl (by kernel_rfl) [some 37, some 38, some 39, some 40, some 41, some 42, some 43, some 44, some 45, some 46, some 47, some 48, some 49, some 50, some 51, some 52, some 53, some 54, some 55, some 56, some 57, some 58, some 59, some 60, some 61, some 62, some 63, some 64, some 65] rfl (by decide) [37, 38, 39, 40, 41, 42, 43, 44, 45, 46, 47, 48, 49, 50, 51, 52, 53, 54, 55, 56, 57, 58, 59, 60, 61, 62, 63, 64, 65] rfl 66 rfl (by decide) (PhiA W.heap.size P.AT P.threads.length P.cT i ad A3 y cc) (fun _ _ w => Below wD.heap.size wD w) ?_ ?_ ?_ _ _ (by simp) (by decide) (no_flag 29)
        · intro i9 o dd r9 f a w9 ho hp hr9 hI hsz9 hf hd K hK
          have hi9 : i9 < 29 := (Array.getElem?_eq_some_iff.1 ho).1
          match i9, hi9 with
          | 0, _ =>
            cases ho; cases hp; cases hr9; refine want_yes rfl ?_; have e := (hI.fi.sl 1 rfl).trans (rfl : _ = Value.pointer (some (⟨W.heap.size, 0, none⟩ : Addr)))
            unfold Oper.wp; simp [execOp, e, go_sem]; exact hK _ _ (fun _ _ => rfl) (fun _ _ _ _ h => h) hI.j
          | 1, _ =>
            cases ho; cases hp; cases hr9; refine want_yes rfl ?_; have e : gt a 37 = Value.pointer (some (⟨W.heap.size, 3, none⟩ : Addr)) := hI.fi.v 0 37 rfl (hd 0 (of_decide_eq_true (by kernel_rfl)))
            have c := pw_cell_below hI.j c3
            unfold Oper.wp; simp [execOp, e, c, go_sem]; exact hK _ _ (fun _ _ => rfl) (fun _ _ _ _ h => h) hI.j
          | 2, _ =>
            cases ho; cases hp; cases hr9; refine want_yes rfl ?_; have e := (hI.fi.sl 7 rfl).trans (rfl : _ = Value.int .i64 (i : Int))
            unfold Oper.wp; simp [execOp, e, go_sem]; exact hK _ _ (fun _ _ => rfl) (fun _ _ _ _ h => h) hI.j
          | 3, _ =>
            cases ho; cases hp; cases hr9; refine want_yes rfl ?_; have e0 : gt a 38 = Value.slice (some ad) P.threads.length P.cT := hI.fi.v 1 38 rfl (hd 1 (of_decide_eq_true (by kernel_rfl)))
            have e1 : gt a 39 = Value.int .i64 (i : Int) := hI.fi.v 2 39 rfl (hd 2 (of_decide_eq_true (by kernel_rfl)))
            unfold Oper.wp; simp [execOp, e0, e1, hi0, hi1, hi2, go_sem]; exact hK _ _ (fun _ _ => rfl) (fun _ _ _ _ h => h) hI.j
          | 4, _ =>
            cases ho; cases hp; cases hr9; refine want_yes rfl ?_; have e : gt a 40 = Value.pointer (some (ad.add i)) := hI.fi.v 3 40 rfl (hd 3 (of_decide_eq_true (by kernel_rfl)))
            have c := pw_cell_below hI.j t0
            unfold Oper.wp; simp [execOp, e, c, go_sem]; exact hK _ _ (fun _ _ => rfl) (fun _ _ _ _ h => h) hI.j
          | 5, _ =>
            cases ho; cases hp; cases hr9; have e : gt a 41 = Value.slice A3 y.length cc := hI.fi.v 4 41 rfl (hd 4 (of_decide_eq_true (by kernel_rfl)))
            refine goes_ (N := some 42) Try.func13 (by kernel_rfl) rfl #[.slice A3 y.length cc] ?hw rfl rfl (by simp [Act.eval]; exact e) ?_
            case hw => simp [Region.wanted]
            refine (stmts_any w9 y A3 cc (Kd.C_below HCD.out hI.j) HY.out.1 HY.out.2.1 HY.out.2.2.1).mono ?_
            rintro _ w6 ⟨rfl, hb6⟩
            exact ⟨_, rfl, hK _ _ (fun _ _ => rfl) (fun _ _ _ _ h => h.below hb6) (below_step hI.j hb6)⟩
          | 6, _ =>
            cases ho; cases hp; cases hr9; refine want_yes rfl ?_; have e := (hI.fi.sl 1 rfl).trans (rfl : _ = Value.pointer (some (⟨W.heap.size, 0, none⟩ : Addr)))
            unfold Oper.wp; simp [execOp, e, go_sem]; exact hK _ _ (fun _ _ => rfl) (fun _ _ _ _ h => h) hI.j
          | 7, _ =>
            cases ho; cases hp; cases hr9; refine want_yes rfl ?_; have e : gt a 43 = Value.pointer (some (⟨W.heap.size, 3, none⟩ : Addr)) := hI.fi.v 6 43 rfl (hd 6 (of_decide_eq_true (by kernel_rfl)))
            have c := pw_cell_below hI.j c3
            unfold Oper.wp; simp [execOp, e, c, go_sem]; exact hK _ _ (fun _ _ => rfl) (fun _ _ _ _ h => h) hI.j
          | 8, _ =>
            cases ho; cases hp; cases hr9; refine want_yes rfl ?_; have e := (hI.fi.sl 7 rfl).trans (rfl : _ = Value.int .i64 (i : Int))
            unfold Oper.wp; simp [execOp, e, go_sem]; exact hK _ _ (fun _ _ => rfl) (fun _ _ _ _ h => h) hI.j
          | 9, _ =>
            cases ho; cases hp; cases hr9; refine want_yes rfl ?_; have e0 : gt a 44 = Value.slice (some ad) P.threads.length P.cT := hI.fi.v 7 44 rfl (hd 7 (of_decide_eq_true (by kernel_rfl)))
            have e1 : gt a 45 = Value.int .i64 (i : Int) := hI.fi.v 8 45 rfl (hd 8 (of_decide_eq_true (by kernel_rfl)))
            unfold Oper.wp; simp [execOp, e0, e1, hi0, hi1, hi2, go_sem]; exact hK _ _ (fun _ _ => rfl) (fun _ _ _ _ h => h) hI.j
          | 10, _ =>
            cases ho; cases hp; cases hr9; refine want_yes rfl ?_; have e : gt a 46 = Value.pointer (some (ad.add i)) := hI.fi.v 9 46 rfl (hd 9 (of_decide_eq_true (by kernel_rfl)))
            have c := pw_cell_below hI.j t0
            unfold Oper.wp; simp [execOp, e, c, go_sem]; exact hK _ _ (fun _ _ => rfl) (fun _ _ _ _ h => h) hI.j
          | 11, _ =>
            cases ho; cases hp; cases hr9; have e : gt a 47 = Value.slice A3 y.length cc := hI.fi.v 10 47 rfl (hd 10 (of_decide_eq_true (by kernel_rfl)))
            refine goes_ (N := some 48) Try.func14 (by kernel_rfl) rfl #[.slice A3 y.length cc] ?hw rfl rfl (by simp [Act.eval]; exact e) ?_
            case hw => simp [Region.wanted]
            refine (rcnt_call w9 y A3 cc (Kd.C_below HCD.out hI.j) HY.out.1 HY.out.2.2.1).mono ?_
            rintro _ w6 ⟨rfl, hb6⟩
            exact ⟨_, rfl, hK _ _ (fun _ _ => rfl) (fun _ _ _ _ h => h.below hb6) (below_step hI.j hb6)⟩
          | 12, _ =>
            cases ho; cases hp; cases hr9; refine want_yes rfl ?_; have e0 : gt a 42 = Value.int .i64 (cntL y : Int) := hI.fi.v 5 42 rfl (hd 5 (of_decide_eq_true (by kernel_rfl)))
            have e1 : gt a 48 = Value.int .i64 (cntL y : Int) := hI.fi.v 11 48 rfl (hd 11 (of_decide_eq_true (by kernel_rfl)))
            unfold Oper.wp; simp [execOp, e0, e1, go_sem]; exact hK _ _ (fun _ _ => rfl) (fun _ _ _ _ h => h) hI.j
          | 13, _ =>
            cases ho; cases hp; cases hr9; refine want_yes rfl ?_; have e0 : gt a 49 = Value.bool false := hI.fi.v 12 49 rfl (hd 12 (of_decide_eq_true (by kernel_rfl)))
            unfold Oper.wp; simp [execOp, e0, go_sem]; exact hK _ _ (fun _ _ => rfl) (fun _ _ _ _ h => h) hI.j
          | 14, _ =>
            cases ho; cases hp; cases hr9; refine wants_no rfl rfl rfl (hI.fi.v 13 50 rfl (hd 13 (of_decide_eq_true (by kernel_rfl))) : gt a 50 = Value.bool false) ?_; have e := (hI.fi.sl 1 rfl).trans (rfl : _ = Value.pointer (some (⟨W.heap.size, 0, none⟩ : Addr)))
            unfold Oper.wp; simp [execOp, e, go_sem]; exact hK _ _ (fun _ _ => rfl) (fun _ _ _ _ h => h) hI.j
          | 15, _ =>
            cases ho; cases hp; cases hr9; refine wants_no rfl rfl rfl (hI.fi.v 13 50 rfl (hd 13 (of_decide_eq_true (by kernel_rfl))) : gt a 50 = Value.bool false) ?_; have e : gt a 51 = Value.pointer (some (⟨W.heap.size, 3, none⟩ : Addr)) := hI.fi.v 14 51 rfl (hd 14 (of_decide_eq_true (by kernel_rfl)))
            have c := pw_cell_below hI.j c3
            unfold Oper.wp; simp [execOp, e, c, go_sem]; exact hK _ _ (fun _ _ => rfl) (fun _ _ _ _ h => h) hI.j
          | 16, _ =>
            cases ho; cases hp; cases hr9; refine wants_no rfl rfl rfl (hI.fi.v 13 50 rfl (hd 13 (of_decide_eq_true (by kernel_rfl))) : gt a 50 = Value.bool false) ?_; have e := (hI.fi.sl 7 rfl).trans (rfl : _ = Value.int .i64 (i : Int))
            unfold Oper.wp; simp [execOp, e, go_sem]; exact hK _ _ (fun _ _ => rfl) (fun _ _ _ _ h => h) hI.j
          | 17, _ =>
            cases ho; cases hp; cases hr9; refine wants_no rfl rfl rfl (hI.fi.v 13 50 rfl (hd 13 (of_decide_eq_true (by kernel_rfl))) : gt a 50 = Value.bool false) ?_; have e0 : gt a 52 = Value.slice (some ad) P.threads.length P.cT := hI.fi.v 15 52 rfl (hd 15 (of_decide_eq_true (by kernel_rfl)))
            have e1 : gt a 53 = Value.int .i64 (i : Int) := hI.fi.v 16 53 rfl (hd 16 (of_decide_eq_true (by kernel_rfl)))
            unfold Oper.wp; simp [execOp, e0, e1, hi0, hi1, hi2, go_sem]; exact hK _ _ (fun _ _ => rfl) (fun _ _ _ _ h => h) hI.j
          | 18, _ =>
            cases ho; cases hp; cases hr9; refine wants_no rfl rfl rfl (hI.fi.v 13 50 rfl (hd 13 (of_decide_eq_true (by kernel_rfl))) : gt a 50 = Value.bool false) ?_; have e : gt a 54 = Value.pointer (some (ad.add i)) := hI.fi.v 17 54 rfl (hd 17 (of_decide_eq_true (by kernel_rfl)))
            have c := pw_cell_below hI.j t0
            unfold Oper.wp; simp [execOp, e, c, go_sem]; exact hK _ _ (fun _ _ => rfl) (fun _ _ _ _ h => h) hI.j
          | 19, _ =>
            cases ho; cases hp; cases hr9; have e : gt a 55 = Value.slice A3 y.length cc := hI.fi.v 18 55 rfl (hd 18 (of_decide_eq_true (by kernel_rfl)))
            refine goes_ (N := some 56) Try.func16 (by kernel_rfl) rfl #[.slice A3 y.length cc] ?hw rfl rfl (by simp [Act.eval]; exact e) ?_
            case hw => exact wanted_no rfl rfl rfl (hI.fi.v 13 50 rfl (hd 13 (of_decide_eq_true (by kernel_rfl))) : gt a 50 = Value.bool false)
            refine (regs_any w9 y A3 cc (Kd.C_below HCD.out hI.j) HY.out.1 HY.out.2.1 HY.out.2.2.1).mono ?_
            rintro _ w6 ⟨Ar, cr, rfl, h1, h2, hb6⟩
            exact ⟨_, rfl, hK _ _ (fun _ _ => ⟨Ar, cr, rfl, h2⟩) (fun _ _ _ _ h => h.below hb6) (below_step hI.j hb6)⟩
          | 20, _ =>
            cases ho; cases hp; cases hr9; refine wants_no rfl rfl rfl (hI.fi.v 13 50 rfl (hd 13 (of_decide_eq_true (by kernel_rfl))) : gt a 50 = Value.bool false) ?_; have e := (hI.fi.sl 1 rfl).trans (rfl : _ = Value.pointer (some (⟨W.heap.size, 0, none⟩ : Addr)))
            unfold Oper.wp; simp [execOp, e, go_sem]; exact hK _ _ (fun _ _ => rfl) (fun _ _ _ _ h => h) hI.j
          | 21, _ =>
            cases ho; cases hp; cases hr9; refine wants_no rfl rfl rfl (hI.fi.v 13 50 rfl (hd 13 (of_decide_eq_true (by kernel_rfl))) : gt a 50 = Value.bool false) ?_; have e : gt a 57 = Value.pointer (some (⟨W.heap.size, 3, none⟩ : Addr)) := hI.fi.v 20 57 rfl (hd 20 (of_decide_eq_true (by kernel_rfl)))
            have c := pw_cell_below hI.j c3
            unfold Oper.wp; simp [execOp, e, c, go_sem]; exact hK _ _ (fun _ _ => rfl) (fun _ _ _ _ h => h) hI.j
          | 22, _ =>
            cases ho; cases hp; cases hr9; refine wants_no rfl rfl rfl (hI.fi.v 13 50 rfl (hd 13 (of_decide_eq_true (by kernel_rfl))) : gt a 50 = Value.bool false) ?_; have e := (hI.fi.sl 7 rfl).trans (rfl : _ = Value.int .i64 (i : Int))
            unfold Oper.wp; simp [execOp, e, go_sem]; exact hK _ _ (fun _ _ => rfl) (fun _ _ _ _ h => h) hI.j
          | 23, _ =>
            cases ho; cases hp; cases hr9; refine wants_no rfl rfl rfl (hI.fi.v 13 50 rfl (hd 13 (of_decide_eq_true (by kernel_rfl))) : gt a 50 = Value.bool false) ?_; have e0 : gt a 58 = Value.slice (some ad) P.threads.length P.cT := hI.fi.v 21 58 rfl (hd 21 (of_decide_eq_true (by kernel_rfl)))
            have e1 : gt a 59 = Value.int .i64 (i : Int) := hI.fi.v 22 59 rfl (hd 22 (of_decide_eq_true (by kernel_rfl)))
            unfold Oper.wp; simp [execOp, e0, e1, hi0, hi1, hi2, go_sem]; exact hK _ _ (fun _ _ => rfl) (fun _ _ _ _ h => h) hI.j
          | 24, _ =>
            cases ho; cases hp; cases hr9; refine wants_no rfl rfl rfl (hI.fi.v 13 50 rfl (hd 13 (of_decide_eq_true (by kernel_rfl))) : gt a 50 = Value.bool false) ?_; have e : gt a 60 = Value.pointer (some (ad.add i)) := hI.fi.v 23 60 rfl (hd 23 (of_decide_eq_true (by kernel_rfl)))
            have c := pw_cell_below hI.j t0
            unfold Oper.wp; simp [execOp, e, c, go_sem]; exact hK _ _ (fun _ _ => rfl) (fun _ _ _ _ h => h) hI.j
          | 25, _ =>
            cases ho; cases hp; cases hr9; have e : gt a 61 = Value.slice A3 y.length cc := hI.fi.v 24 61 rfl (hd 24 (of_decide_eq_true (by kernel_rfl)))
            refine goes_ (N := some 62) Try.func17 (by kernel_rfl) rfl #[.slice A3 y.length cc] ?hw rfl rfl (by simp [Act.eval]; exact e) ?_
            case hw => exact wanted_no rfl rfl rfl (hI.fi.v 13 50 rfl (hd 13 (of_decide_eq_true (by kernel_rfl))) : gt a 50 = Value.bool false)
            refine (rregs_call w9 y A3 cc (Kd.C_below HCD.out hI.j) HY.out.1 HY.out.2.2.1).mono ?_
            rintro _ w6 ⟨Ar, cr, rfl, h1, h2, hb6⟩
            exact ⟨_, rfl, hK _ _ (fun _ _ => ⟨Ar, cr, rfl, h2⟩) (fun _ _ _ _ h => h.below hb6) (below_step hI.j hb6)⟩
          | 26, _ =>
            cases ho; cases hp; cases hr9
            obtain ⟨A7, c7, e7, h7⟩ : ∃ (Ar : Option Addr) (cr : Nat), gt a 56 = .slice Ar (regsL [] y).length cr ∧ Kd.C Kd.string w9 Ar (regsL [] y).length (regsL [] y) := hI.fi.v 19 56 rfl (hd 19 (of_decide_eq_true (by kernel_rfl)))
            obtain ⟨A8, c8, e8, h8⟩ : ∃ (Ar : Option Addr) (cr : Nat), gt a 62 = .slice Ar (regsL [] y).length cr ∧ Kd.C Kd.string w9 Ar (regsL [] y).length (regsL [] y) := hI.fi.v 25 62 rfl (hd 25 (of_decide_eq_true (by kernel_rfl)))
            refine goes_ (N := some 63) Try.func15 (by kernel_rfl) rfl #[.slice A7 (regsL [] y).length c7, .slice A8 (regsL [] y).length c8] ?hw rfl rfl (by simp [Act.eval]; exact ⟨e7, e8⟩) ?_
            case hw => exact wanted_no rfl rfl rfl (hI.fi.v 13 50 rfl (hd 13 (of_decide_eq_true (by kernel_rfl))) : gt a 50 = Value.bool false)
            refine (rnames_ok w9 (regsL [] y) A7 c7 A8 c8 h7 h8 HY.out.2.2.2.1).mono ?_
            rintro _ w6 ⟨rfl, hb6⟩
            exact ⟨_, rfl, hK _ _ (fun _ _ => rfl) (fun _ _ _ _ h => h.below hb6) (below_step hI.j hb6)⟩
          | 27, _ =>
            cases ho; cases hp; cases hr9; refine wants_no rfl rfl rfl (hI.fi.v 13 50 rfl (hd 13 (of_decide_eq_true (by kernel_rfl))) : gt a 50 = Value.bool false) ?_; have e0 : gt a 63 = Value.bool true := hI.fi.v 26 63 rfl (hd 26 (of_decide_eq_true (by kernel_rfl)))
            unfold Oper.wp; simp [execOp, e0, go_sem]; exact hK _ _ (fun _ _ => rfl) (fun _ _ _ _ h => h) hI.j
          | 28, _ =>
            cases ho; cases hp; cases hr9; refine want_yes rfl ?_; have e0 : gt a 50 = Value.bool false := hI.fi.v 13 50 rfl (hd 13 (of_decide_eq_true (by kernel_rfl)))
            have e1 : gt a 64 = Value.bool false := hI.fi.v 27 64 rfl (hd 27 (of_decide_eq_true (by kernel_rfl)))
            unfold Oper.wp; simp [execOp, e0, e1, go_sem]; exact hK _ _ (fun _ _ => rfl) (fun _ _ _ _ h => h) hI.j
        · intro f g w9 hall hj hphi
          have h65 : g 65 = Value.bool false := hphi 28 65 rfl
          have HB9 := Aside0.mk (below_step HWD.out hj)
          simp only [List.map_cons, List.map_nil, h65]
          simp only [fill, List.setIfInBounds_toArray, List.set_cons_zero, List.set_cons_succ]
          clear hall hphi hj h65 c3 t0
          go_wp2
          go_meet
          exact ⟨rfl, HB9⟩
        · intro f hf
          exact Below.refl _ _
      case rest =>
      obtain ⟨rfl, HB9⟩ := hcut
      have HZ := Aside0.mk (show Below W.heap.size W wc ∧ wc.heap[W.heap.size]? = some (pObj P) from ⟨below_step HT.out.1 HB9.out, blk_below HT.out.2 HB9.out⟩)
      clear c3 t0
      go_wp2
      go_roundw
      case rel => exact ⟨i + 1, HY.out.2.2.2.2, by go_num, HZ⟩
      case measure => have := HY.out.2.2.2.2; simp [intOf]; omega
    · have e1 : decide ((i : Int) < (P.threads.length : Int)) = false := decide_eq_false (by omega)
      have e2 : decide (i < P.threads.length) = false := decide_eq_false hlt
      go_wp2
      go_ret
      exact ⟨rfl, HT.out.1⟩
end Go.Proofs.Ytlhbnbckanmaiaa.K
namespace Go.Proofs.Ytlhbnbckanmaiaa.K
open Go Go.RowKit Go.Proofs.YtlhbnbckanmaiaaW.PrintWords Go.Proofs.YtlhbnbckanmaiaaW.PrintLast Go.Proofs.YtlhbnbckanmaiaaW.PrintMore Go.Proofs.Ytlhbnbckanmaiaa.PC1
set_option linter.unusedVariables false
set_option linter.unusedSimpArgs false
/-! ### what is read at a type is a value of its kind -/
theorem list_choose {α : Type} {p : Nat → α → Prop} : ∀ n, (∀ i, i < n → ∃ y, p i y) → ∃ l : List α, l.length = n ∧ ∀ i y, l[i]? = some y → p i y
  | 0, _ => ⟨[], rfl, fun i y h => by simp at h⟩
  | n + 1, h => by
    obtain ⟨l, hl, hp⟩ := list_choose n (fun i hi => h i (by omega))
    obtain ⟨y, hy⟩ := h n (by omega)
    refine ⟨l ++ [y], by simp [hl], fun i z hz => ?_⟩
    by_cases hi : i < l.length
    · rw [List.getElem?_append_left hi] at hz
      exact hp i z hz
    · rw [List.getElem?_append_right (by omega)] at hz
      by_cases hi2 : i - l.length = 0
      · rw [hi2] at hz
        simp at hz
        subst hz
        have : i = n := by omega
        subst this
        exact hy
      · obtain ⟨m, hm⟩ : ∃ m, i - l.length = m + 1 := ⟨i - l.length - 1, by omega⟩
        rw [hm] at hz
        simp at hz
def OpensAt {α : Type} (P : Program) (W : World) (d : Kd α) (t : TypeId) (n : Nat) : Prop :=
  ∀ (H : Type) (enc : TypeId × Value → H) (cs : List Value) (x : DataW H × List MemPlace), DataW.trod enc P W 0 (fun _ => true) true n t cs = some x → ∃ a, d.K W a cs
theorem opens_int {P : Program} {W : World} {t : TypeId} {k : IntKind} (ht : P.underlying t = some (.int k)) (n : Nat) : OpensAt P W (Kd.int k) t n := by
  intro H enc cs x h
  obtain ⟨v, rfl, _, _⟩ := DataW.trod_int ht h
  exact ⟨v, rfl⟩
theorem opens_string {P : Program} {W : World} {t : TypeId} (ht : P.underlying t = some .string) (n : Nat) : OpensAt P W Kd.string t n := by
  intro H enc cs x h
  obtain ⟨v, rfl, _, _⟩ := DataW.trod_string ht h
  exact ⟨v, rfl⟩
theorem opens_slice {α : Type} {P : Program} {W : World} {d : Kd α} {t e : TypeId} (ht : P.underlying t = some (.slice e)) (hs : P.cellsOf e = d.sz) (n : Nat) (ih : ∀ m, m < n → OpensAt P W d e m) : OpensAt P W (Kd.slice e d) t n := by
  intro H enc cs x h
  rcases DataW.trod_slice ht h with ⟨rfl, _⟩ | ⟨a, len, cap, elems, rest, m, rfl, rfl, _, _, hl, hm, hlen, hel, _, _⟩
  · exact ⟨[], none, 0, rfl, Nat.le_refl _, rfl, by simp, fun h => absurd h (by simp)⟩
  · obtain ⟨l, hll, hp⟩ := list_choose (α := α) (p := fun i y => ∃ cs', W.cells? 0 (a.add (i * P.cellsOf e)) (P.cellsOf e) = some cs' ∧ d.K W y cs') len (fun i hi => by
      have h1 := hel i hi
      rw [List.getElem?_eq_getElem (by omega)] at h1
      obtain ⟨cs', h2, h3⟩ := Option.bind_eq_some_iff.1 h1
      obtain ⟨y, hy⟩ := ih m (by omega) H enc cs' _ h3
      exact ⟨y, cs', h2, hy⟩)
    refine ⟨l, some a, cap, by rw [hll], by omega, rfl, by rw [hll]; unfold maxLen at hm; omega, fun _ => ⟨a, rfl, fun j p hj => ?_⟩⟩
    obtain ⟨cs', h2, h3⟩ := hp j p hj
    obtain ⟨_, hcl, hcell⟩ := World.cells?_some h2
    refine ⟨cs', by omega, h3, fun i u hu => ?_⟩
    have hi : i < P.cellsOf e := by
      have := (List.getElem?_eq_some_iff.1 hu).1
      omega
    rw [← hs, ← hu, ← hcell i hi, Addr.add_add]
set_option maxRecDepth 100000 in
theorem opens_T51 {W : World} (n : Nat) : OpensAt Try.prog W k51 51 n := by
  induction n using Nat.strongRecOn with
  | _ n ih =>
  intro H enc cs x h
  obtain ⟨xs, m, rfl, _, hl, hx, hf⟩ := DataW.trod_struct Try.underlying51 h
  have hn : Try.prog.cellsOf 51 = 2 := by kernel_rfl
  rw [hn] at hl
  clear hn
  obtain ⟨c0, c1, rfl⟩ : ∃ c0 c1 : Value, cs = [c0, c1] := by
    match cs, hl with
    | [c0, c1], _ => exact ⟨c0, c1, rfl⟩
  have e0 := hf 0 _ rfl
  rw [List.getElem?_eq_getElem (by rw [hx]; decide)] at e0
  obtain ⟨b0, k0_⟩ := (opens_string Try.underlying9 m) H enc _ _ e0
  replace k0_ : Kd.K Kd.string W b0 [c0] := k0_
  clear e0
  have e1 := hf 1 _ rfl
  rw [List.getElem?_eq_getElem (by rw [hx]; decide)] at e1
  obtain ⟨b1, k1_⟩ := (opens_int Try.underlying3 m) H enc _ _ e1
  replace k1_ : Kd.K (Kd.int .i64) W b1 [c1] := k1_
  clear e1
  exact ⟨⟨b0, b1⟩, ⟨[c0], [c1], rfl, k0_, k1_⟩⟩
set_option maxRecDepth 100000 in
theorem opens_T57 {W : World} (n : Nat) : OpensAt Try.prog W k57 57 n := by
  induction n using Nat.strongRecOn with
  | _ n ih =>
  intro H enc cs x h
  obtain ⟨xs, m, rfl, _, hl, hx, hf⟩ := DataW.trod_struct Try.underlying57 h
  have hn : Try.prog.cellsOf 57 = 4 := by kernel_rfl
  rw [hn] at hl
  clear hn
  obtain ⟨c0, c1, c2, c3, rfl⟩ : ∃ c0 c1 c2 c3 : Value, cs = [c0, c1, c2, c3] := by
    match cs, hl with
    | [c0, c1, c2, c3], _ => exact ⟨c0, c1, c2, c3, rfl⟩
  have e0 := hf 0 _ rfl
  rw [List.getElem?_eq_getElem (by rw [hx]; decide)] at e0
  obtain ⟨b0, k0_⟩ := (opens_int Try.underlying3 m) H enc _ _ e0
  replace k0_ : Kd.K (Kd.int .i64) W b0 [c0] := k0_
  clear e0
  have e1 := hf 1 _ rfl
  rw [List.getElem?_eq_getElem (by rw [hx]; decide)] at e1
  obtain ⟨b1, k1_⟩ := (opens_int Try.underlying3 m) H enc _ _ e1
  replace k1_ : Kd.K (Kd.int .i64) W b1 [c1] := k1_
  clear e1
  have e2 := hf 2 _ rfl
  rw [List.getElem?_eq_getElem (by rw [hx]; decide)] at e2
  obtain ⟨b2, k2_⟩ := (opens_string Try.underlying9 m) H enc _ _ e2
  replace k2_ : Kd.K Kd.string W b2 [c2] := k2_
  clear e2
  have e3 := hf 3 _ rfl
  rw [List.getElem?_eq_getElem (by rw [hx]; decide)] at e3
  obtain ⟨b3, k3_⟩ := (opens_slice Try.underlying53 (by kernel_rfl) m (fun q0 hq0 => ih q0 (by omega))) H enc _ _ e3
  replace k3_ : Kd.K (Kd.slice 57 k57) W b3 [c3] := k3_
  clear e3
  obtain rfl := (List.cons.inj k0_).1
  obtain rfl := (List.cons.inj k1_).1
  obtain rfl := (List.cons.inj k2_).1
  obtain ⟨A3, d3, z3, l3, g3⟩ := k3_
  obtain rfl := (List.cons.inj z3).1
  exact ⟨⟨b0, b1, b2, b3⟩, k57_mk W ⟨b0, b1, b2, b3⟩ l3 g3⟩
set_option maxRecDepth 100000 in
theorem opens_T55 {W : World} (n : Nat) : OpensAt Try.prog W k55 55 n := by
  induction n using Nat.strongRecOn with
  | _ n ih =>
  intro H enc cs x h
  obtain ⟨xs, m, rfl, _, hl, hx, hf⟩ := DataW.trod_struct Try.underlying55 h
  have hn : Try.prog.cellsOf 55 = 7 := by kernel_rfl
  rw [hn] at hl
  clear hn
  obtain ⟨c0, c1, c2, c3, c4, c5, c6, rfl⟩ : ∃ c0 c1 c2 c3 c4 c5 c6 : Value, cs = [c0, c1, c2, c3, c4, c5, c6] := by
    match cs, hl with
    | [c0, c1, c2, c3, c4, c5, c6], _ => exact ⟨c0, c1, c2, c3, c4, c5, c6, rfl⟩
  have e0 := hf 0 _ rfl
  rw [List.getElem?_eq_getElem (by rw [hx]; decide)] at e0
  obtain ⟨b0, k0_⟩ := (opens_int Try.underlying3 m) H enc _ _ e0
  replace k0_ : Kd.K (Kd.int .i64) W b0 [c0] := k0_
  clear e0
  have e1 := hf 1 _ rfl
  rw [List.getElem?_eq_getElem (by rw [hx]; decide)] at e1
  obtain ⟨b1, k1_⟩ := (opens_int Try.underlying3 m) H enc _ _ e1
  replace k1_ : Kd.K (Kd.int .i64) W b1 [c1] := k1_
  clear e1
  have e2 := hf 2 _ rfl
  rw [List.getElem?_eq_getElem (by rw [hx]; decide)] at e2
  obtain ⟨b2, k2_⟩ := (opens_string Try.underlying9 m) H enc _ _ e2
  replace k2_ : Kd.K Kd.string W b2 [c2] := k2_
  clear e2
  have e3 := hf 3 _ rfl
  rw [List.getElem?_eq_getElem (by rw [hx]; decide)] at e3
  obtain ⟨b3, k3_⟩ := (opens_string Try.underlying9 m) H enc _ _ e3
  replace k3_ : Kd.K Kd.string W b3 [c3] := k3_
  clear e3
  have e4 := hf 4 _ rfl
  rw [List.getElem?_eq_getElem (by rw [hx]; decide)] at e4
  obtain ⟨b4, k4_⟩ := (opens_slice Try.underlying53 (by kernel_rfl) m (fun q0 hq0 => opens_T57 q0)) H enc _ _ e4
  replace k4_ : Kd.K (Kd.slice 57 k57) W b4 [c4] := k4_
  clear e4
  have e5 := hf 5 _ rfl
  rw [List.getElem?_eq_getElem (by rw [hx]; decide)] at e5
  obtain ⟨b5, k5_⟩ := (opens_slice Try.underlying35 (by kernel_rfl) m (fun q0 hq0 => ih q0 (by omega))) H enc _ _ e5
  replace k5_ : Kd.K (Kd.slice 55 k55) W b5 [c5] := k5_
  clear e5
  have e6 := hf 6 _ rfl
  rw [List.getElem?_eq_getElem (by rw [hx]; decide)] at e6
  obtain ⟨b6, k6_⟩ := (opens_slice Try.underlying35 (by kernel_rfl) m (fun q0 hq0 => ih q0 (by omega))) H enc _ _ e6
  replace k6_ : Kd.K (Kd.slice 55 k55) W b6 [c6] := k6_
  clear e6
  obtain rfl := (List.cons.inj k0_).1
  obtain rfl := (List.cons.inj k1_).1
  obtain rfl := (List.cons.inj k2_).1
  obtain rfl := (List.cons.inj k3_).1
  obtain ⟨A4, d4, z4, l4, g4⟩ := k4_
  obtain rfl := (List.cons.inj z4).1
  obtain ⟨A5, d5, z5, l5, g5⟩ := k5_
  obtain rfl := (List.cons.inj z5).1
  obtain ⟨A6, d6, z6, l6, g6⟩ := k6_
  obtain rfl := (List.cons.inj z6).1
  exact ⟨⟨b0, b1, b2, b3, b4, b5, b6⟩, k55_mk W ⟨b0, b1, b2, b3, b4, b5, b6⟩ l4 g4 l5 g5 l6 g6⟩
set_option maxRecDepth 100000 in
theorem opens_T26 {W : World} (n : Nat) : OpensAt Try.prog W k26 26 n := by
  induction n using Nat.strongRecOn with
  | _ n ih =>
  intro H enc cs x h
  obtain ⟨xs, m, rfl, _, hl, hx, hf⟩ := DataW.trod_struct Try.underlying26 h
  have hn : Try.prog.cellsOf 26 = 5 := by kernel_rfl
  rw [hn] at hl
  clear hn
  obtain ⟨c0, c1, c2, c3, c4, rfl⟩ : ∃ c0 c1 c2 c3 c4 : Value, cs = [c0, c1, c2, c3, c4] := by
    match cs, hl with
    | [c0, c1, c2, c3, c4], _ => exact ⟨c0, c1, c2, c3, c4, rfl⟩
  have e0 := hf 0 _ rfl
  rw [List.getElem?_eq_getElem (by rw [hx]; decide)] at e0
  obtain ⟨b0, k0_⟩ := (opens_int Try.underlying3 m) H enc _ _ e0
  replace k0_ : Kd.K (Kd.int .i64) W b0 [c0] := k0_
  clear e0
  have e1 := hf 1 _ rfl
  rw [List.getElem?_eq_getElem (by rw [hx]; decide)] at e1
  obtain ⟨b1, k1_⟩ := (opens_int Try.underlying3 m) H enc _ _ e1
  replace k1_ : Kd.K (Kd.int .i64) W b1 [c1] := k1_
  clear e1
  have e2 := hf 2 _ rfl
  rw [List.getElem?_eq_getElem (by rw [hx]; decide)] at e2
  obtain ⟨b2, k2_⟩ := (opens_string Try.underlying9 m) H enc _ _ e2
  replace k2_ : Kd.K Kd.string W b2 [c2] := k2_
  clear e2
  have e3 := hf 3 _ rfl
  rw [List.getElem?_eq_getElem (by rw [hx]; decide)] at e3
  obtain ⟨b3, k3_⟩ := (opens_int Try.underlying3 m) H enc _ _ e3
  replace k3_ : Kd.K (Kd.int .i64) W b3 [c3] := k3_
  clear e3
  have e4 := hf 4 _ rfl
  rw [List.getElem?_eq_getElem (by rw [hx]; decide)] at e4
  obtain ⟨b4, k4_⟩ := (opens_slice Try.underlying24 (by kernel_rfl) m (fun q0 hq0 => ih q0 (by omega))) H enc _ _ e4
  replace k4_ : Kd.K (Kd.slice 26 k26) W b4 [c4] := k4_
  clear e4
  obtain rfl := (List.cons.inj k0_).1
  obtain rfl := (List.cons.inj k1_).1
  obtain rfl := (List.cons.inj k2_).1
  obtain rfl := (List.cons.inj k3_).1
  obtain ⟨A4, d4, z4, l4, g4⟩ := k4_
  obtain rfl := (List.cons.inj z4).1
  exact ⟨⟨b0, b1, b2, b3, b4⟩, k26_mk W ⟨b0, b1, b2, b3, b4⟩ l4 g4⟩
set_option maxRecDepth 100000 in
theorem opens_T28 {W : World} (n : Nat) : OpensAt Try.prog W k28 28 n := by
  induction n using Nat.strongRecOn with
  | _ n ih =>
  intro H enc cs x h
  obtain ⟨xs, m, rfl, _, hl, hx, hf⟩ := DataW.trod_struct Try.underlying28 h
  have hn : Try.prog.cellsOf 28 = 10 := by kernel_rfl
  rw [hn] at hl
  clear hn
  obtain ⟨c0, c1, c2, c3, c4, c5, c6, c7, c8, c9, rfl⟩ : ∃ c0 c1 c2 c3 c4 c5 c6 c7 c8 c9 : Value, cs = [c0, c1, c2, c3, c4, c5, c6, c7, c8, c9] := by
    match cs, hl with
    | [c0, c1, c2, c3, c4, c5, c6, c7, c8, c9], _ => exact ⟨c0, c1, c2, c3, c4, c5, c6, c7, c8, c9, rfl⟩
  have e0 := hf 0 _ rfl
  rw [List.getElem?_eq_getElem (by rw [hx]; decide)] at e0
  obtain ⟨b0, k0_⟩ := (opens_string Try.underlying9 m) H enc _ _ e0
  replace k0_ : Kd.K Kd.string W b0 [c0] := k0_
  clear e0
  have e1 := hf 1 _ rfl
  rw [List.getElem?_eq_getElem (by rw [hx]; decide)] at e1
  obtain ⟨b1, k1_⟩ := (opens_int Try.underlying3 m) H enc _ _ e1
  replace k1_ : Kd.K (Kd.int .i64) W b1 [c1] := k1_
  clear e1
  have e2 := hf 2 _ rfl
  rw [List.getElem?_eq_getElem (by rw [hx]; decide)] at e2
  obtain ⟨b2, k2_⟩ := (opens_slice Try.underlying22 (by kernel_rfl) m (fun q0 hq0 => opens_T51 q0)) H enc _ _ e2
  replace k2_ : Kd.K (Kd.slice 51 k51) W b2 [c2] := k2_
  clear e2
  have e3 := hf 3 _ rfl
  rw [List.getElem?_eq_getElem (by rw [hx]; decide)] at e3
  obtain ⟨b3, k3_⟩ := (opens_slice Try.underlying23 (by kernel_rfl) m (fun q0 hq0 => opens_slice Try.underlying35 (by kernel_rfl) q0 (fun q1 hq1 => opens_T55 q1))) H enc _ _ e3
  replace k3_ : Kd.K (Kd.slice 35 (Kd.slice 55 k55)) W b3 [c3] := k3_
  clear e3
  have e4 := hf 4 _ rfl
  rw [List.getElem?_eq_getElem (by rw [hx]; decide)] at e4
  obtain ⟨b4, k4_⟩ := (opens_int Try.underlying3 m) H enc _ _ e4
  replace k4_ : Kd.K (Kd.int .i64) W b4 [c4] := k4_
  clear e4
  have e5 := hf 5 _ rfl
  rw [List.getElem?_eq_getElem (by rw [hx]; decide)] at e5
  obtain ⟨b5, k5_⟩ := (opens_T26 m) H enc _ _ e5
  replace k5_ : Kd.K k26 W b5 [c5, c6, c7, c8, c9] := k5_
  clear e5
  exact ⟨⟨b0, b1, b2, b3, b4, b5⟩, ⟨[c0], [c1, c2, c3, c4, c5, c6, c7, c8, c9], rfl, k0_, ⟨[c1], [c2, c3, c4, c5, c6, c7, c8, c9], rfl, k1_, ⟨[c2], [c3, c4, c5, c6, c7, c8, c9], rfl, k2_, ⟨[c3], [c4, c5, c6, c7, c8, c9], rfl, k3_, ⟨[c4], [c5, c6, c7, c8, c9], rfl, k4_, k5_⟩⟩⟩⟩⟩⟩
end Go.Proofs.Ytlhbnbckanmaiaa.K
