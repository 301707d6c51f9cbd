/- A text of a claim (ours): CheckStmts: the walk; conditions: none of ours. -/
import Derived.Test.YtlhbnbckanmaiaaMBT
import Derived.Test.YtlhbnbckanmaiaaM9T
namespace Go.Proofs.Ytlhbnbckanmaiaa.K
open Go Go.RowKit Go.Proofs.YtlhbnbckanmaiaaW.PrintWords Go.Proofs.YtlhbnbckanmaiaaW.PrintLast Go.Proofs.YtlhbnbckanmaiaaW.PrintMore Go.Proofs.Ytlhbnbckanmaiaa.PC1
set_option linter.unusedVariables false
set_option linter.unusedSimpArgs false
theorem thr_FK' {W : World} {S : Nat} {ok : Nat → Prop} {vo : Value} {l : List TStmt} (h : Kd.N kStmt 55 W S ok vo l) : Kd.FK kThr0 W ok l [vo] := by
  obtain ⟨A, c, rfl⟩ := Kd.N_slice h
  exact Kd.FK_slice_mk (Kd.N_reads' h).2.1 (Kd.N_F h)
/-- A thread of the program as it lies. -/
theorem MW.thr {W w : World} {pb g gT cI cT : Nat} {AK : Option Addr} {cK : Nat} {base : Nat} {vals : Int} {nl nt : Nat} {inits : List TCell} {ths : List (List TStmt)} {RS : List (List ByteArray)} {ask : Int} {x : TCond} (h : MW W w pb g cI (some ⟨gT, 0, none⟩) cT AK cK base vals nl nt inits ths RS ask x) (i : Nat) (y : List TStmt) (hy : ths[i]? = some y) :
    ∃ (A : Option Addr) (c : Nat), w.cell? ⟨gT, i, none⟩ = some (.slice A y.length c) ∧ w.frozen? ⟨gT, i, none⟩ = false ∧ y.length ≤ c ∧ Kd.F kStmt w (fun k => (base ≤ k ∧ k ≠ pb ∧ k ≠ g) ∧ k ≠ gT) A y.length y := by
  have hi : i < ths.length := (List.getElem?_eq_some_iff.1 hy).1
  obtain ⟨cs, hcl, hF, hcc, hfr⟩ := Kd.N_elem h.nT [] (i : Int) (by omega) (by omega)
  rw [show (i : Int).toNat = i from Int.toNat_natCast i, List.getD_eq_getElem?_getD, hy] at hF
  rw [show (i : Int).toNat = i from Int.toNat_natCast i] at hcc hfr
  obtain ⟨A, c, rfl, hl, hF'⟩ := Kd.FK_slice_open hF
  refine ⟨A, c, ?_, ?_, hl, hF'⟩
  · have := hcc 0 _ rfl
    rwa [show i * kThr0.sz + 0 = i from by show i * 1 + 0 = i; omega] at this
  · have := hfr 0
    rwa [show i * kThr0.sz + 0 = i from by show i * 1 + 0 = i; omega] at this
/-- A thread turns. -/
theorem MW.putT {W w : World} {pb g gT cI cT : Nat} {AK : Option Addr} {cK : Nat} {base : Nat} {vals : Int} {nl nt : Nat} {inits : List TCell} {ths : List (List TStmt)} {RS : List (List ByteArray)} {ask : Int} {x : TCond} (h : MW W w pb g cI (some ⟨gT, 0, none⟩) cT AK cK base vals nl nt inits ths RS ask x) (i : Nat) (hi : i < ths.length) {S : Nat} {v : Value} {l : List TStmt}
    (hN : Kd.N kStmt 55 w S (fun k => base ≤ k ∧ k ≠ pb ∧ k ≠ g ∧ k ≠ gT) v l) : MW W (w.setCell ⟨gT, i, none⟩ v) pb g cI (some ⟨gT, 0, none⟩) cT AK cK base vals nl nt inits (ths.set i l) RS ask x := by
  obtain ⟨cs, hcl, hF, hcc, hfr⟩ := Kd.N_elem h.nT [] (i : Int) (by omega) (by omega)
  obtain ⟨A, c, rfl, -, -⟩ := Kd.FK_slice_open hF
  have hs := Kd.N_seg h.nT (i : Int) (by omega) (by omega) (okp := fun k => base ≤ k ∧ k ≠ pb ∧ k ≠ g ∧ k ≠ gT) (seg := [v]) (j := 0) (x' := l) hcl hcc (show 0 + 1 ≤ 1 from Nat.le_refl 1) (thr_FK' hN) (fun k hk => ⟨⟨hk.1, hk.2.1, hk.2.2.1⟩, hk.2.2.2⟩)
  rw [show (i : Int).toNat = i from Int.toNat_natCast i, show i * kThr0.sz + 0 = i from by show i * 1 + 0 = i; omega] at hs
  have hg : w.grownBy (w.setCell ⟨gT, i, none⟩ v) (some gT) := hs.2
  have hb := Kd.N_base h.nT gT rfl
  have hlt := Kd.N_lt h.nT gT rfl
  have hty := Kd.N_typed h.nT
  have hne : ¬ some pb = some gT := by
    obtain ⟨cells, hc⟩ := hty gT rfl
    intro e
    injection e with e
    subst e
    rw [h.pbk] at hc
    injection hc with q1
    injection q1 with _ q2
    exact absurd q2 (by decide)
  have hc : Chg (fun k => some k = some gT) w (w.setCell ⟨gT, i, none⟩ v) := Chg.grown (F := fun k => some k = some gT) hg (fun k hk => hk.symm)
  have hw : Below W.heap.size w (w.setCell ⟨gT, i, none⟩ v) := ⟨hg.os, hg.tape, hg.output, hg.size, fun k hk => hg.block k (by have := h.bel.size; omega) (fun e => by injection e with e; have := h.wb; omega)⟩
  exact ⟨h.bel.trans hw, h.wb, h.hpb, by rw [List.length_set]; exact hc.heap h.pbk hne, Kd.R_over' h.rI hty (by decide) hg, by rw [List.length_set]; exact hs.1, Kd.F_step (by rw [List.length_set]; exact h.fK) (fun k hk hlt => hg.block k hlt (fun e => hk.2.2.2 e)), h.lk⟩
/-- What region 12 leaves: the statement that is wrong, in a box of its own. -/
structure BadAt (wa wx : World) (x : TStmt) (b : Nat) (cs : List Value) : Prop where
  bel : Below wa.heap.size wa wx
  hb : wa.heap.size ≤ b
  blk : wx.heap[b]? = some (.cells cs.toArray 55 (0, 0))
  fk : Kd.FK kStmt wx (fun k => wa.heap.size ≤ k) x cs
theorem stm7 {w : World} {ok : Nat → Prop} {x : TStmt} {cs : List Value} (h : Kd.FK kStmt w ok x cs) : cs.length = 7 := (Kd.FK_now h |> kStmt.K_len)
theorem nl_ne (e : Nat) {W w : World} {pb g cI : Nat} {AT : Option Addr} {cT : Nat} {AK : Option Addr} {cK : Nat} {base : Nat} {vals : Int} {nl nt : Nat} {inits : List TCell} {ths : List (List TStmt)} {RS : List (List ByteArray)} {ask : Int} {x : TCond} (h : MW W w pb g cI AT cT AK cK base vals nl nt inits ths RS ask x) (ht : 0 < ths.length) : ∃ gT, AT = some ⟨gT, 0, none⟩ := by
  obtain ⟨gT, cap, e, _⟩ := Kd.N_form h.nT ht
  injection e with e1 e2 e3
  exact ⟨gT, e1⟩
theorem bad_box {wr wz : World} (hb : Below wr.heap.size wr wz) {x : TStmt} {cs : List Value} (h : Kd.FK kStmt wz (fun k => wr.heap.size ≤ k) x cs) : BadAt wr (wz.alloc (.cells cs.toArray 55 (0, 0))) x wz.heap.size cs :=
  ⟨below_step hb (below_al (Below.refl _ _) _), hb.size, blk_new _ _, Kd.FK_below h (below_al (Below.refl _ _) _)⟩
theorem bad_plain (w : World) (ok : Nat → Prop) (k m : Int) (r l : ByteArray) : Kd.FK kStmt w ok ⟨k, m, r, l, [], [], []⟩ [.int .i64 k, .int .i64 m, .string r, .string l, .slice none 0 0, .slice none 0 0, .slice none 0 0] :=
  stm_FK (A := none) (c := 0) k m r l [] (Nat.le_refl 0) (Kd.F_nil _ _ _)
theorem bad_expr {w : World} {ok : Nat → Prop} {b : Nat} {op n : Int} {nm : ByteArray} (hb : w.heap[b]? = some (.cells #[.int .i64 op, .int .i64 n, .string nm, .slice none 0 0] 57 (0, 0))) (ho : ok b) (k m : Int) (r l : ByteArray) : Kd.FK kStmt w ok ⟨k, m, r, l, [⟨op, n, nm, []⟩], [], []⟩ [.int .i64 k, .int .i64 m, .string r, .string l, .slice (some ⟨b, 0, none⟩) 1 1, .slice none 0 0, .slice none 0 0] :=
  stm_FK (A := some ⟨b, 0, none⟩) (c := 1) k m r l [⟨op, n, nm, []⟩] (Nat.le_refl 1) (exs_one (x := ⟨op, n, nm, []⟩) (A := none) (c := 0) hb ho (Nat.le_refl 0) (Kd.F_nil _ _ _))
/-- While the last thread turns: 3 the empty row, 9 and 12 the appends, 11 the new statement's box, 14 the store. -/
structure JB (W wD : World) (pb g gT cI cT : Nat) (AK : Option Addr) (cK base : Nat) (vals : Int) (nl nt : Nat) (inits : List TCell) (ths : List (List TStmt)) (RS : List (List ByteArray)) (ask : Int) (x : TCond) (i : Nat) (y : List TStmt) (bad : TStmt) (cs : List Value) (f : Nat → Bool) (gv : Nat → Value) (w : World) : Prop where
  b : f 14 = false → Below wD.heap.size wD w
  r3 : f 3 = true → f 9 = false → Kd.N kStmt 55 w wD.heap.size (fun k => base ≤ k ∧ k ≠ pb ∧ k ≠ g ∧ k ≠ gT) (gv 73) []
  r9 : f 9 = true → f 12 = false → Kd.N kStmt 55 w wD.heap.size (fun k => base ≤ k ∧ k ≠ pb ∧ k ≠ g ∧ k ≠ gT) (gv 79) y
  r12 : f 12 = true → f 14 = false → Kd.N kStmt 55 w wD.heap.size (fun k => base ≤ k ∧ k ≠ pb ∧ k ≠ g ∧ k ≠ gT) (gv 82) (y ++ [bad])
  bx : f 11 = true → f 12 = false → ∃ c, gv 81 = .slice (some ⟨c, 0, none⟩) 1 1 ∧ wD.heap.size ≤ c ∧ w.heap[c]? = some (.cells cs.toArray 55 (0, 0)) ∧ (f 3 = true → f 9 = false → (gv 73).ownBlock ≠ some c) ∧ (f 9 = true → (gv 79).ownBlock ≠ some c)
  st : f 14 = true → MW W w pb g cI (some ⟨gT, 0, none⟩) cT AK cK base vals nl nt inits (ths.set i (y ++ [bad])) RS ask x
theorem JB.congr {W wD w : World} {pb g gT cI cT : Nat} {AK : Option Addr} {cK base : Nat} {vals : Int} {nl nt : Nat} {inits : List TCell} {ths : List (List TStmt)} {RS : List (List ByteArray)} {ask : Int} {x : TCond} {i : Nat} {y : List TStmt} {bad : TStmt} {cs : List Value} {f f' : Nat → Bool} {gv gv' : Nat → Value} (h : JB W wD pb g gT cI cT AK cK base vals nl nt inits ths RS ask x i y bad cs f gv w)
    (h3 : f' 3 = f 3) (h9 : f' 9 = f 9) (h11 : f' 11 = f 11) (h12 : f' 12 = f 12) (h14 : f' 14 = f 14) (g3 : gv' 73 = gv 73) (g9 : gv' 79 = gv 79) (g11 : gv' 81 = gv 81) (g12 : gv' 82 = gv 82) : JB W wD pb g gT cI cT AK cK base vals nl nt inits ths RS ask x i y bad cs f' gv' w :=
  ⟨by rw [h14]; exact h.b, by rw [h3, h9, g3]; exact h.r3, by rw [h9, h12, g9]; exact h.r9, by rw [h12, h14, g12]; exact h.r12, by rw [h3, h9, h11, h12, g3, g9, g11]; exact h.bx, by rw [h14]; exact h.st⟩
theorem JB.other {W wD w : World} {pb g gT cI cT : Nat} {AK : Option Addr} {cK base : Nat} {vals : Int} {nl nt : Nat} {inits : List TCell} {ths : List (List TStmt)} {RS : List (List ByteArray)} {ask : Int} {x : TCond} {i : Nat} {y : List TStmt} {bad : TStmt} {cs : List Value} {f : Nat → Bool} {a : Act} (h : JB W wD pb g gT cI cT AK cK base vals nl nt inits ths RS ask x i y bad cs f (gt a) w) (k d : Nat) (v : Value)
    (h3 : 3 ≠ k) (h9 : 9 ≠ k) (h11 : 11 ≠ k) (h12 : 12 ≠ k) (h14 : 14 ≠ k) (g3 : d ≠ 73) (g9 : d ≠ 79) (g11 : d ≠ 81) (g12 : d ≠ 82) : JB W wD pb g gT cI cT AK cK base vals nl nt inits ths RS ask x i y bad cs (upd f k) (gt (a.put (some d) v)) w :=
  h.congr (upd_ne f h3) (upd_ne f h9) (upd_ne f h11) (upd_ne f h12) (upd_ne f h14) (gt_put_ne a _ v _ (fun e => g3 (Option.some.inj e))) (gt_put_ne a _ v _ (fun e => g9 (Option.some.inj e))) (gt_put_ne a _ v _ (fun e => g11 (Option.some.inj e))) (gt_put_ne a _ v _ (fun e => g12 (Option.some.inj e)))
theorem smSs_snoc : ∀ (l : List TStmt) (x : TStmt), smSs l → smS x → smSs (l ++ [x])
  | [], x, _, hx => by rw [List.nil_append, smSs, smSs]; exact ⟨hx, trivial⟩
  | y :: ys, x, h, hx => by rw [smSs] at h; rw [List.cons_append, smSs]; exact ⟨h.1, smSs_snoc ys x h.2 hx⟩
theorem bad_sm (vals : Int) (k : Nat) (hk : k < 8) : smS ((badS vals).getD k ⟨0, 0, bzero, bzero, [], [], []⟩) ∧ cntS ((badS vals).getD k ⟨0, 0, bzero, bzero, [], [], []⟩) = 1 := by
  have hk' : k = 0 ∨ k = 1 ∨ k = 2 ∨ k = 3 ∨ k = 4 ∨ k = 5 ∨ k = 6 ∨ k = 7 := by omega
  rcases hk' with rfl | rfl | rfl | rfl | rfl | rfl | rfl | rfl <;> (refine ⟨?_, by kernel_rfl⟩; rw [smS_def]; refine ⟨?_, ?_, ?_, ?_, ?_, ?_, ?_, ?_⟩ <;> first | (exact Nat.le_of_ble_eq_true rfl) | (simp [badS, smEs, smE, smSs]; done) | (simp [badS, smEs, smE, smSs]; exact Nat.le_of_ble_eq_true rfl))
theorem MW.askT {W w : World} {pb g gT cI cT : Nat} {AK : Option Addr} {cK : Nat} {base : Nat} {vals : Int} {nl nt : Nat} {inits : List TCell} {ths : List (List TStmt)} {RS : List (List ByteArray)} {ask : Int} {x : TCond} {y : List TStmt} {r : Nat} {bad : TStmt} (h : MW W w pb g cI (some ⟨gT, 0, none⟩) cT AK cK base vals nl nt inits (ths.set (nt - 1) (y ++ [bad])) RS ask x) (hr : r < 8) (hbad : (badS vals).getD r ⟨0, 0, bzero, bzero, [], [], []⟩ = bad)
    (hG : ∀ AI cI', GdT ⟨madeB, vals, AI, cI', inits, some ⟨gT, 0, none⟩, cT, ths, ask, x.f0, x.f1, x.f2, x.f3, AK, cK, x.f4⟩ vals nl nt RS) (hy : ths[nt - 1]? = some y) (s : Int) (hs : s = 1 + (inits.length : Int) + sumC ths) :
    Calls Try.prog 11 #[.agg #[.string madeB, .int .i64 vals, .slice (some ⟨g, 0, none⟩) inits.length cI, .slice (some ⟨gT, 0, none⟩) ths.length cT, .int .i64 ask, .int .i64 x.f0, .int .i64 x.f1, .string x.f2, .int .i64 x.f3, .slice AK x.f4.length cK]] w
      fun r' w' => r' = .returned (.tuple #[.int .i64 (badC.getD r 0), .int .i64 s]) ∧ Below W.heap.size W w' := by
  have hg := hG (some ⟨g, 0, none⟩) cI
  have h5 : inits.length = nl := hg.il
  have h6 : ths.length = nt := hg.tl
  have hn1 := hg.n1
  have hn4 := hg.gd.n4
  obtain ⟨R, hRt, hb, hl4⟩ := hg.any (nt - 1) y hy
  have hsm := hg.sm
  have hbs := bad_sm vals r hr
  rw [hbad] at hbs
  have hc1 := cnt_1 _ _ _ hb
  have hsm' : (⟨madeB, vals, some ⟨g, 0, none⟩, cI, inits, some ⟨gT, 0, none⟩, cT, ths.set (nt - 1) (y ++ [bad]), ask, x.f0, x.f1, x.f2, x.f3, AK, cK, x.f4⟩ : AP).sm := ⟨fun l hl => by
    rcases List.mem_or_eq_of_mem_set hl with q | q
    · exact hsm.st l q
    · have hq := hsm.st y (List.mem_of_getElem? hy)
      subst q
      exact ⟨smSs_snoc y bad hq.1 hbs.1, by rw [List.length_append]; simp; omega, by rw [cntL_snoc]; omega⟩, hsm.kd⟩
  have hk := h.ask (by omega) (by rw [List.length_set]; omega) (fun z hz => by
    have : z.f0 ∈ loc4.take nl := by rw [← hg.gd.lo]; exact List.mem_map_of_mem hz
    exact loc_size _ nl this) hsm' hg.cn
  rw [List.length_set] at hk
  have hst := stop_at hg bad (badC.getD r 0) (by
    have hk' : r = 0 ∨ r = 1 ∨ r = 2 ∨ r = 3 ∨ r = 4 ∨ r = 5 ∨ r = 6 ∨ r = 7 := by omega
    rcases hk' with rfl | rfl | rfl | rfl | rfl | rfl | rfl | rfl <;> decide) y hy (fun st regs h1 h2 h3 => by rw [← hbad]; exact bad_E hg.gd r hr st regs h1 h2 h3)
  refine hk.mono ?_
  rintro r' w' ⟨rfl, hb'⟩
  have e1 : mayE ⟨madeB, vals, some ⟨g, 0, none⟩, cI, inits, some ⟨gT, 0, none⟩, cT, ths.set (nt - 1) (y ++ [bad]), ask, x.f0, x.f1, x.f2, x.f3, AK, cK, x.f4⟩ = badC.getD r 0 := hst.1
  have e2 : mayN ⟨madeB, vals, some ⟨g, 0, none⟩, cI, inits, some ⟨gT, 0, none⟩, cT, ths.set (nt - 1) (y ++ [bad]), ask, x.f0, x.f1, x.f2, x.f3, AK, cK, x.f4⟩ = s := by
    have q : mayN ⟨madeB, vals, some ⟨g, 0, none⟩, cI, inits, some ⟨gT, 0, none⟩, cT, ths.set (nt - 1) (y ++ [bad]), ask, x.f0, x.f1, x.f2, x.f3, AK, cK, x.f4⟩ = 1 + (nl : Int) + sumC ths := hst.2
    rw [q, hs, h5]
  rw [e1, e2]
  exact ⟨rfl, hb'⟩
theorem fresh_own {d : Kd TStmt} {e : Nat} {w : World} {base : Nat} {ok : Nat → Prop} {v : Value} {xs : List TStmt} (h : Kd.N d e w base ok v xs) {c : Nat} (hc : w.heap.size ≤ c) : v.ownBlock ≠ some c := fun q => by have := Kd.N_lt h c q; omega
set_option maxHeartbeats 8000000 in
set_option maxRecDepth 100000 in
theorem cstmts_any (W : World) (A : Option Addr) (c : Nat) (l : List Int) (hr : Kd.C (Kd.int .u8) W A l.length l) (hc : l.length ≤ c) (hu : ∀ x ∈ l, 0 ≤ x ∧ x < 256) (how : Int) (hh : 0 ≤ how ∧ how < 256) : Calls Try.prog 7 #[.slice A l.length c, .int .u8 how] W fun e W' => e = .returned (.bool true) ∧ Below W.heap.size W W' := by
  have HA := Aside0.mk (And.intro hr (And.intro hc (And.intro hu hh)))
  clear hr hc hu hh
  go_enter Try.func7, Try.ntmps7
  go_wp2_with fail
  refine (begun_any W).mono ?_
  rintro e w1 ⟨rfl, hb1⟩
  have HB1 := Aside0.mk hb1
  clear hb1
  by_cases h80 : (l.length : Int) > 80
  · have e1 : decide ((80 : Int) < (l.length : Int)) = true := decide_eq_true h80
    clear h80
    go_wp2
    go_ret
    exact ⟨rfl, HB1.out⟩
  · have e1 : decide ((80 : Int) < (l.length : Int)) = false := decide_eq_false h80
    have HL := Aside0.mk (show l.length ≤ 80 by omega)
    clear h80
    go_wp2_with fail
    refine (withemade_Made.calls A c l l 0 W w1 HB1.out HA.out.1 HA.out.2.1 rfl).mono ?_
    rintro e w2 ⟨g, rfl, hI, hb2, -, -⟩
    have HM := Aside0.mk (show MS W w2 g from ⟨hb2, l, 0, hI, by omega, by omega, by have := HL.out; omega, HA.out.2.2.1⟩)
    clear hI hb2 e1
    go_wp2_with fail
    refine (mprog_any W w2 g HM.out).mono ?_
    rintro e w3 ⟨wd, vals, nl, nt, hv2, hv4, hn1, hn4, ht1, ht4, hsz, hm3, hP, hc3⟩
    obtain ⟨vv, rfl⟩ : ∃ vv, e = Ending.returned vv := ⟨_, hP.choose_spec.choose_spec.choose_spec.choose_spec.choose_spec.choose_spec.choose_spec.choose_spec.choose_spec.1⟩
    obtain ⟨gI, cI, AT, cT, AK, cK, inits, ths, RS, ask, x, rfl, hMW, hG⟩ := MW.mk' hm3.1 (by have := HB1.out.size; have := HM.out.1.size; omega) hP ⟨hv2, hv4⟩ ⟨hn1, hn4⟩ ⟨ht1, ht4⟩
    have hil : inits.length = nl := (hG none 0).il
    have htl : ths.length = nt := (hG none 0).tl
    obtain ⟨gT, rfl⟩ := nl_ne 0 hMW (by omega)
    have HN := Aside0.mk (show (1 ≤ nl ∧ nl ≤ 4) ∧ 1 ≤ nt ∧ nt ≤ 4 from ⟨⟨hn1, hn4⟩, ht1, ht4⟩)
    have HG := Aside0.mk hG
    have HW := Aside0.mk hMW
    have HIL := Aside0.mk (And.intro hil htl)
    clear hP hm3 hc3 hsz hv2 hv4 ht1 ht4 hG hMW hn1 hn4 hil htl
    go_upto_region 6 with fail
    generalize World.alloc w3 _ = wa at HW ⊢
    generalize w3.heap.size = pb at HW ⊢
    have c2 := (blk_cell HW.out.pbk 2).trans rfl
    have hw1 : wrap64 (1 + (inits.length : Int)) = 1 + (inits.length : Int) := by have := HIL.out; have := HN.out; unfold wrap64; omega
    go_wp2_with fail
    go_loopw [6, 7] (fun v6 v7 wr => ∃ (i : Nat) (s : Int), i ≤ ths.length ∧ v6 = .int .i64 s ∧ v7 = .int .i64 i ∧ Aside0 (s = 1 + (inits.length : Int) + sumC (ths.take i) ∧ s ≤ 5 + 12 * i ∧ MW W wr pb gI cI (some ⟨gT, 0, none⟩) cT AK cK wd.heap.size vals nl nt inits ths RS ask x)) (fun _ v7 _ => 6 - (intOf v7).toNat)
    case atStart => exact ⟨0, 1 + (inits.length : Int), Nat.zero_le _, by rw [hw1], rfl, ⟨by simp [sumC], by have := HIL.out; have := HN.out; omega, HW.out⟩⟩
    case round =>
      clear c2 hw1
      obtain ⟨i, s, hi, rfl, rfl, HS⟩ := hrel
      have c3 := (blk_cell HS.out.2.2.pbk 3).trans rfl
      by_cases hlt : i < ths.length
      · have e1 : decide ((i : Int) < (ths.length : Int)) = true := decide_eq_true (by omega)
        obtain ⟨y, hy⟩ : ∃ y, ths[i]? = some y := ⟨_, List.getElem?_eq_getElem hlt⟩
        obtain ⟨Al, cl, t0, -, hlc, hF⟩ := HS.out.2.2.thr i y hy
        have hsm := (HG.out none 0).sm.st y (List.mem_of_getElem? hy)
        have i0 : (0 : Int) ≤ (i : Int) := by omega
        have i1 : (i : Int) < (ths.length : Int) := by omega
        have HC := Aside0.mk (And.intro (Kd.F_now hF) (And.intro hsm (And.intro hlt hy)))
        clear hF hsm hlc hlt hy
        go_wp2_with fail
        refine (stmts_any wr y Al cl HC.out.1 HC.out.2.1.1 HC.out.2.1.2.1 HC.out.2.1.2.2).mono ?_
        rintro e w5 ⟨rfl, hb5⟩
        have hcn : cntL y ≤ 12 := by
          obtain ⟨R, _, h1, h2⟩ := (HG.out none 0).any i y HC.out.2.2.2
          have := cnt_1 _ _ _ h1; omega
        have hs12 := HS.out.2.1
        have hs0 := HS.out.1
        have htl := HIL.out.2
        have hn4 := HN.out.2.2
        have hw2 : wrap64 (s + (cntL y : Int)) = s + (cntL y : Int) := by unfold wrap64; omega
        have hw3 : wrap64 ((i : Int) + 1) = ((i + 1 : Nat) : Int) := by unfold wrap64; omega
        have HS5 := Aside0.mk (show (s + (cntL y : Int) = 1 + (inits.length : Int) + sumC (ths.take (i + 1)) ∧ s + (cntL y : Int) ≤ 5 + 12 * ((i + 1 : Nat) : Int) ∧ MW W w5 pb gI cI (some ⟨gT, 0, none⟩) cT AK cK wd.heap.size vals nl nt inits ths RS ask x) from ⟨by rw [sumC_take _ i HC.out.2.2.1, show ths[i]'HC.out.2.2.1 = y from by have := HC.out.2.2.2; rw [List.getElem?_eq_getElem HC.out.2.2.1] at this; exact Option.some.inj this]; omega, by omega, HS.out.2.2.step hb5⟩)
        have HIT := Aside0.mk (show i + 1 ≤ ths.length from HC.out.2.2.1)
        clear hcn hs12 hs0 htl hn4 hb5 c3 t0
        go_wp2
        go_roundw
        case rel => exact ⟨i + 1, s + (cntL y : Int), HIT.out, by rw [hw2], by rw [hw3], HS5⟩
        case measure => have := HIT.out; have := HIL.out.2; have := HN.out.2.2; rw [hw3]; simp only [intOf, Int.toNat_natCast]; omega
      · have e1 : decide ((i : Int) < (ths.length : Int)) = false := decide_eq_false (by omega)
        have e2 : decide (i < ths.length) = false := decide_eq_false hlt
        have hit : i = ths.length := by omega
        have HS1 := Aside0.mk (show s = 1 + (inits.length : Int) + sumC ths from by have := HS.out.1; rw [hit, List.take_length] at this; exact this)
        have HW := Aside0.mk HS.out.2.2
        have hw4 : wrap64 ((ths.length : Int) - 1) = ((nt - 1 : Nat) : Int) := by have := HIL.out.2; have := HN.out.2; unfold wrap64; omega
        clear HS hit hlt hi
        have c1 := (blk_cell HW.out.pbk 1).trans rfl
        go_upto_region 12 with fail
        obtain ⟨r, hr, hr8⟩ : ∃ r : Nat, how.tmod 8 = (r : Int) ∧ r < 8 := by
          have q1 : 0 ≤ how.tmod 8 := Int.tmod_nonneg _ HA.out.2.2.2.1
          have q2 : how.tmod 8 < 8 := Int.tmod_lt_of_pos how (by decide)
          exact ⟨(how.tmod 8).toNat, by omega, by omega⟩
        have HRR := Aside0.mk (And.intro hr hr8)
        have hpl : pb < wr.heap.size := blk_lt HW.out.pbk
        go_cut [9] (fun v9 wx => ∃ (b : Nat) (cs : List Value), v9 = .pointer (some ⟨b, 0, none⟩) ∧ Aside0 (BadAt wr wx ((badS vals).getD r ⟨0, 0, bzero, bzero, [], [], []⟩) b cs))
        case first =>
          have hr7 : r = 0 ∨ r = 1 ∨ r = 2 ∨ r = 3 ∨ r = 4 ∨ r = 5 ∨ r = 6 ∨ r = 7 := by omega
          clear HRR hr8
          rcases hr7 with rfl | rfl | rfl | rfl | rfl | rfl | rfl | rfl
          · go_wp2
            go_meet
            exact ⟨_, _, by simp only [World.size_alloc], ⟨bad_box (below_al (below_al (below_al (below_al (Below.refl wr.heap.size wr) _) _) _) _) (bad_plain _ _ _ _ _ _)⟩⟩
          · go_wp2
            go_meet
            exact ⟨_, _, by simp only [World.size_alloc], ⟨bad_box (below_al (below_al (below_al (below_al (Below.refl wr.heap.size wr) _) _) _) _) (bad_expr (blk_alloc (blk_alloc (blk_alloc (blk_new _ _) _) _) _) (Nat.le_refl _) _ _ _ _)⟩⟩
          · go_wp2
            go_meet
            exact ⟨_, _, by simp only [World.size_alloc], ⟨bad_box (below_al (below_al (below_al (below_al (Below.refl wr.heap.size wr) _) _) _) _) (bad_plain _ _ _ _ _ _)⟩⟩
          · go_wp2
            go_meet
            exact ⟨_, _, by simp only [World.size_alloc], ⟨bad_box (below_al (below_al (below_al (below_al (Below.refl wr.heap.size wr) _) _) _) _) (bad_plain _ _ _ _ _ _)⟩⟩
          · go_wp2
            go_meet
            exact ⟨_, _, by simp only [World.size_alloc], ⟨bad_box (below_al (below_al (below_al (below_al (Below.refl wr.heap.size wr) _) _) _) _) (bad_plain _ _ _ _ _ _)⟩⟩
          · go_wp2
            go_meet
            exact ⟨_, _, by simp only [World.size_alloc], ⟨bad_box (below_al (below_al (below_al (below_al (Below.refl wr.heap.size wr) _) _) _) _) (bad_plain _ _ _ _ _ _)⟩⟩
          · go_wp2
            go_meet
            exact ⟨_, _, by simp only [World.size_alloc], ⟨bad_box (below_al (below_al (below_al (below_al (Below.refl wr.heap.size wr) _) _) _) _) (bad_expr (blk_alloc (blk_alloc (alloc_at _ _ _ (by simp only [World.size_alloc])) _) _) (by omega) _ _ _ _)⟩⟩
          · go_wp2
            go_meet
            exact ⟨_, _, by simp only [World.size_alloc], ⟨bad_box (below_al (below_al (below_al (below_al (Below.refl wr.heap.size wr) _) _) _) _) (bad_expr (blk_alloc (alloc_at _ _ _ (by simp only [World.size_alloc])) _) (by omega) _ _ _ _)⟩⟩
        case rest =>
        obtain ⟨b, cs, rfl, HBD⟩ := hcut
        rw [hw4]
        go_upto_region 13 with fail
        go_cut [10] (fun v10 wx => v10 = .int .i64 (badC.getD r 0) ∧ Aside0 (Below wc.heap.size wc wx))
        case first =>
          have hr7 : r = 0 ∨ r = 1 ∨ r = 2 ∨ r = 3 ∨ r = 4 ∨ r = 5 ∨ r = 6 ∨ r = 7 := by omega
          clear HRR hr8 HBD
          rcases hr7 with rfl | rfl | rfl | rfl | rfl | rfl | rfl | rfl
          all_goals (go_wp2; go_meet; exact ⟨rfl, ⟨below_al (Below.refl wc.heap.size wc) _⟩⟩)
        case rest =>
        obtain ⟨rfl, HBC⟩ := hcut
        generalize hbadx : (badS vals).getD r ⟨0, 0, bzero, bzero, [], [], []⟩ = bad at HBD
        have HBX := Aside0.mk hbadx
        have HB0 := Aside0.mk (below_step HBD.out.bel HBC.out)
        have HWE := Aside0.mk (HW.out.step HB0.out)
        have HBB := Aside0.mk (show _ ∧ _ ∧ _ from ⟨blk_below HBD.out.blk HBC.out, Kd.FK_below HBD.out.fk HBC.out, HBD.out.hb⟩)
        clear hbadx hr hr8 c1 c3 e1 e2 hw4 hpl
        go_upto_region 14 with fail
        refine wp_region_any (by kernel_rfl) ?_
        have hbD := below_drew (Below.refl wc.heap.size wc)
        change wpAny _ _ _ _ _ _ _ wc.drew
        generalize wc.drew = wD at hbD ⊢
        have HD := Aside0.mk (HWE.out.step hbD)
        have HDB := Aside0.mk (show _ ∧ _ from ⟨blk_below HBB.out.1 hbD, Kd.FK_below HBB.out.2.1 hbD⟩)
        have HDS := Aside0.mk (below_step HB0.out hbD).size
        clear hbD HWE
        obtain ⟨y, hy⟩ : ∃ y, ths[nt - 1]? = some y := ⟨_, List.getElem?_eq_getElem (by have := HIL.out.2; have := HN.out.2; omega)⟩
        have HY := Aside0.mk hy
        clear hy
        refine wpAny_flow3 rfl (by kernel_rfl) [some 70, some 71, some 72, some 73, some 74, some 75, some 76, some 77, some 78, some 79, some 80, some 81, some 82, some 83, none] rfl (by decide) [70, 71, 72, 73, 74, 75, 76, 77, 78, 79, 80, 81, 82, 83] rfl 97 rfl (by decide) (fun k v w9 => match k with | 0 => v = .pointer (some (⟨pb, 3, none⟩ : Addr)) | 1 => v = .slice (some (⟨gT, 0, none⟩ : Addr)) ths.length cT | 2 => v = .int .i64 ((nt - 1 : Nat) : Int) | 4 => v = .pointer (some (⟨pb, 3, none⟩ : Addr)) | 5 => v = .slice (some (⟨gT, 0, none⟩ : Addr)) ths.length cT | 6 => v = .int .i64 ((nt - 1 : Nat) : Int) | 7 => v = .pointer (some (⟨gT, nt - 1, none⟩ : Addr)) | 8 => (∃ (Al : Option Addr) (cl : Nat), v = .slice Al y.length cl ∧ y.length ≤ cl ∧ Kd.F kStmt wD (fun k => (wd.heap.size ≤ k ∧ k ≠ pb ∧ k ≠ gI) ∧ k ≠ gT) Al y.length y) | 10 => v = .agg cs.toArray | 13 => v = .pointer (some (⟨gT, nt - 1, none⟩ : Addr)) | _ => True) (JB W wD pb gI gT cI cT AK cK wd.heap.size vals nl nt inits ths RS ask x (nt - 1) y bad cs) ?_ ?_ ?_ _ _ (by simp) (by decide) (no_flag 15)
        · intro i9 o dd r9 f a w9 ho hp hr9 hI hsz9 hf hd K hK
          have hi9 : i9 < 15 := (Array.getElem?_eq_some_iff.1 ho).1
          match i9, hi9 with
          | 0, _ =>
            obtain rfl := Option.some.inj ho
            obtain rfl := Option.some.inj hp
            obtain rfl := Option.some.inj hr9
            have n1 : f 1 = false := hI.fi.nf2 (i := 0) (k := 1) hf (by kernel_rfl)
            have n14 : f 14 = false := hI.fi.nf2 (i := 1) (k := 14) n1 (by kernel_rfl)
            refine want_yes rfl ?_
            have e := (hI.fi.sl 5 rfl).trans (rfl : _ = (.pointer (some (⟨pb, 0, none⟩ : Addr)) : Value))
            unfold Oper.wp; simp [execOp, e, go_sem]; exact hK _ _ (fun _ _ => rfl) (fun _ _ _ _ h => h) (hI.j.other 0 70 _ (by decide) (by decide) (by decide) (by decide) (by decide) (by decide) (by decide) (by decide) (by decide))
          | 1, _ =>
            obtain rfl := Option.some.inj ho
            obtain rfl := Option.some.inj hp
            obtain rfl := Option.some.inj hr9
            have n13 : f 13 = false := hI.fi.nf2 (i := 1) (k := 13) hf (by kernel_rfl)
            have n14 : f 14 = false := hI.fi.nf2 (i := 13) (k := 14) n13 (by kernel_rfl)
            refine want_yes rfl ?_
            have e : gt a 70 = .pointer (some (⟨pb, 3, none⟩ : Addr)) := (show gt a 70 = .pointer (some (⟨pb, 3, none⟩ : Addr)) from hI.fi.v 0 70 rfl (hd 0 (of_decide_eq_true (by kernel_rfl))))
            have c := (blk_cell (HD.out.step (hI.j.b n14)).pbk 3).trans rfl
            unfold Oper.wp; simp [execOp, e, c, go_sem]; exact hK _ _ (fun _ _ => rfl) (fun _ _ _ _ h => h) (hI.j.other 1 71 _ (by decide) (by decide) (by decide) (by decide) (by decide) (by decide) (by decide) (by decide) (by decide))
          | 2, _ =>
            obtain rfl := Option.some.inj ho
            obtain rfl := Option.some.inj hp
            obtain rfl := Option.some.inj hr9
            have n13 : f 13 = false := hI.fi.nf2 (i := 2) (k := 13) hf (by kernel_rfl)
            have n14 : f 14 = false := hI.fi.nf2 (i := 13) (k := 14) n13 (by kernel_rfl)
            refine want_yes rfl ?_
            have e := (hI.fi.sl 8 rfl).trans (rfl : _ = (.int .i64 ((nt - 1 : Nat) : Int) : Value))
            unfold Oper.wp; simp [execOp, e, go_sem]; exact hK _ _ (fun _ _ => rfl) (fun _ _ _ _ h => h) (hI.j.other 2 72 _ (by decide) (by decide) (by decide) (by decide) (by decide) (by decide) (by decide) (by decide) (by decide))
          | 3, _ =>
            obtain rfl := Option.some.inj ho
            obtain rfl := Option.some.inj hp
            obtain rfl := Option.some.inj hr9
            have n9 : f 9 = false := hI.fi.nf2 (i := 3) (k := 9) hf (by kernel_rfl)
            have n12 : f 12 = false := hI.fi.nf2 (i := 9) (k := 12) n9 (by kernel_rfl)
            have n14 : f 14 = false := hI.fi.nf2 (i := 12) (k := 14) n12 (by kernel_rfl)
            have hbw := hI.j.b n14
            refine Kd.N_lit_step kStmt (w0 := w9) wD.heap.size 55 rfl rfl (xs := []) (inner := []) (ok := fun k => wd.heap.size ≤ k ∧ k ≠ pb ∧ k ≠ gI ∧ k ≠ gT) (okp := fun _ => False) (by simp [execOp, go_sem]) (Reps.none _ _) (fun _ h => h.elim) (by have := hbw.size; have := blk_lt HD.out.pbk; have := Kd.R_lt HD.out.rI gI rfl; have := Kd.N_lt HD.out.nT gT rfl; have := HD.out.hpb; exact ⟨by omega, by omega, by omega, by omega⟩) (Below.refl _ _) hbw.size (by decide) ?_
            intro v1 w1 hn1 hb1 hg1 hat1
            have hbe : Below w9.heap.size w9 w1 := ⟨hg1.os, hg1.tape, hg1.output, hg1.size, fun k hk => hg1.block k hk (by simp)⟩
            refine hK _ _ (fun _ _ => trivial) (fun _ _ _ _ h => h) ⟨fun _ => below_step hbw hbe, fun _ _ => by rw [gt_put_eq a 73 v1 (by omega)]; exact hn1, fun e => absurd (n9.symm.trans ((upd_ne f (by decide)).symm.trans e)) (by decide), fun e => absurd (n12.symm.trans ((upd_ne f (by decide)).symm.trans e)) (by decide), fun e1 e2 => ?_, fun e => absurd (n14.symm.trans ((upd_ne f (by decide)).symm.trans e)) (by decide)⟩
            obtain ⟨c, h1, h2, h3, h4, h5⟩ := hI.j.bx ((upd_ne f (by decide)).symm.trans e1) n12
            refine ⟨c, by rw [gt_put_ne a _ v1 _ (by decide)]; exact h1, h2, blk_below h3 hbe, fun _ _ => ?_, fun e => absurd (n9.symm.trans ((upd_ne f (by decide)).symm.trans e)) (by decide)⟩
            rw [gt_put_eq a 73 v1 (by omega)]
            obtain ⟨q, hq, hq2⟩ := hat1
            rw [hq]; intro e; injection e with e; have := blk_lt h3; omega
          | 4, _ =>
            obtain rfl := Option.some.inj ho
            obtain rfl := Option.some.inj hp
            obtain rfl := Option.some.inj hr9
            have n5 : f 5 = false := hI.fi.nf2 (i := 4) (k := 5) hf (by kernel_rfl)
            have n7 : f 7 = false := hI.fi.nf2 (i := 5) (k := 7) n5 (by kernel_rfl)
            have n8 : f 8 = false := hI.fi.nf2 (i := 7) (k := 8) n7 (by kernel_rfl)
            have n9 : f 9 = false := hI.fi.nf2 (i := 8) (k := 9) n8 (by kernel_rfl)
            have n12 : f 12 = false := hI.fi.nf2 (i := 9) (k := 12) n9 (by kernel_rfl)
            have n14 : f 14 = false := hI.fi.nf2 (i := 12) (k := 14) n12 (by kernel_rfl)
            refine want_yes rfl ?_
            have e := (hI.fi.sl 5 rfl).trans (rfl : _ = (.pointer (some (⟨pb, 0, none⟩ : Addr)) : Value))
            unfold Oper.wp; simp [execOp, e, go_sem]; exact hK _ _ (fun _ _ => rfl) (fun _ _ _ _ h => h) (hI.j.other 4 74 _ (by decide) (by decide) (by decide) (by decide) (by decide) (by decide) (by decide) (by decide) (by decide))
          | 5, _ =>
            obtain rfl := Option.some.inj ho
            obtain rfl := Option.some.inj hp
            obtain rfl := Option.some.inj hr9
            have n7 : f 7 = false := hI.fi.nf2 (i := 5) (k := 7) hf (by kernel_rfl)
            have n8 : f 8 = false := hI.fi.nf2 (i := 7) (k := 8) n7 (by kernel_rfl)
            have n9 : f 9 = false := hI.fi.nf2 (i := 8) (k := 9) n8 (by kernel_rfl)
            have n12 : f 12 = false := hI.fi.nf2 (i := 9) (k := 12) n9 (by kernel_rfl)
            have n14 : f 14 = false := hI.fi.nf2 (i := 12) (k := 14) n12 (by kernel_rfl)
            refine want_yes rfl ?_
            have e : gt a 74 = .pointer (some (⟨pb, 3, none⟩ : Addr)) := (show gt a 74 = .pointer (some (⟨pb, 3, none⟩ : Addr)) from hI.fi.v 4 74 rfl (hd 4 (of_decide_eq_true (by kernel_rfl))))
            have c := (blk_cell (HD.out.step (hI.j.b n14)).pbk 3).trans rfl
            unfold Oper.wp; simp [execOp, e, c, go_sem]; exact hK _ _ (fun _ _ => rfl) (fun _ _ _ _ h => h) (hI.j.other 5 75 _ (by decide) (by decide) (by decide) (by decide) (by decide) (by decide) (by decide) (by decide) (by decide))
          | 6, _ =>
            obtain rfl := Option.some.inj ho
            obtain rfl := Option.some.inj hp
            obtain rfl := Option.some.inj hr9
            have n7 : f 7 = false := hI.fi.nf2 (i := 6) (k := 7) hf (by kernel_rfl)
            have n8 : f 8 = false := hI.fi.nf2 (i := 7) (k := 8) n7 (by kernel_rfl)
            have n9 : f 9 = false := hI.fi.nf2 (i := 8) (k := 9) n8 (by kernel_rfl)
            have n12 : f 12 = false := hI.fi.nf2 (i := 9) (k := 12) n9 (by kernel_rfl)
            have n14 : f 14 = false := hI.fi.nf2 (i := 12) (k := 14) n12 (by kernel_rfl)
            refine want_yes rfl ?_
            have e := (hI.fi.sl 8 rfl).trans (rfl : _ = (.int .i64 ((nt - 1 : Nat) : Int) : Value))
            unfold Oper.wp; simp [execOp, e, go_sem]; exact hK _ _ (fun _ _ => rfl) (fun _ _ _ _ h => h) (hI.j.other 6 76 _ (by decide) (by decide) (by decide) (by decide) (by decide) (by decide) (by decide) (by decide) (by decide))
          | 7, _ =>
            obtain rfl := Option.some.inj ho
            obtain rfl := Option.some.inj hp
            obtain rfl := Option.some.inj hr9
            have n8 : f 8 = false := hI.fi.nf2 (i := 7) (k := 8) hf (by kernel_rfl)
            have n9 : f 9 = false := hI.fi.nf2 (i := 8) (k := 9) n8 (by kernel_rfl)
            have n12 : f 12 = false := hI.fi.nf2 (i := 9) (k := 12) n9 (by kernel_rfl)
            have n14 : f 14 = false := hI.fi.nf2 (i := 12) (k := 14) n12 (by kernel_rfl)
            refine want_yes rfl ?_
            have e0 : gt a 75 = .slice (some (⟨gT, 0, none⟩ : Addr)) ths.length cT := (show gt a 75 = .slice (some (⟨gT, 0, none⟩ : Addr)) ths.length cT from hI.fi.v 5 75 rfl (hd 5 (of_decide_eq_true (by kernel_rfl))))
            have e1 : gt a 76 = .int .i64 ((nt - 1 : Nat) : Int) := (show gt a 76 = .int .i64 ((nt - 1 : Nat) : Int) from hI.fi.v 6 76 rfl (hd 6 (of_decide_eq_true (by kernel_rfl))))
            have q0 : (0 : Int) ≤ ((nt - 1 : Nat) : Int) := by omega
            have q1 : ((nt - 1 : Nat) : Int) < (ths.length : Int) := by have := HIL.out.2; have := HN.out.2; omega
            unfold Oper.wp; simp [execOp, e0, e1, q0, q1, go_sem]; exact hK _ _ (fun _ _ => rfl) (fun _ _ _ _ h => h) (hI.j.other 7 77 _ (by decide) (by decide) (by decide) (by decide) (by decide) (by decide) (by decide) (by decide) (by decide))
          | 8, _ =>
            obtain rfl := Option.some.inj ho
            obtain rfl := Option.some.inj hp
            obtain rfl := Option.some.inj hr9
            have n9 : f 9 = false := hI.fi.nf2 (i := 8) (k := 9) hf (by kernel_rfl)
            have n12 : f 12 = false := hI.fi.nf2 (i := 9) (k := 12) n9 (by kernel_rfl)
            have n14 : f 14 = false := hI.fi.nf2 (i := 12) (k := 14) n12 (by kernel_rfl)
            refine want_yes rfl ?_
            have e : gt a 77 = .pointer (some (⟨gT, nt - 1, none⟩ : Addr)) := (show gt a 77 = .pointer (some (⟨gT, nt - 1, none⟩ : Addr)) from hI.fi.v 7 77 rfl (hd 7 (of_decide_eq_true (by kernel_rfl))))
            obtain ⟨Al, cl, t0, -, hlc, hF⟩ := HD.out.thr (nt - 1) y HY.out
            have t1 := pw_cell_below (hI.j.b n14) t0
            unfold Oper.wp; simp [execOp, e, t1, go_sem]; exact hK _ _ (fun _ _ => ⟨Al, cl, rfl, hlc, hF⟩) (fun _ _ _ _ h => h) (hI.j.other 8 78 _ (by decide) (by decide) (by decide) (by decide) (by decide) (by decide) (by decide) (by decide) (by decide))
          | 9, _ =>
            obtain rfl := Option.some.inj ho
            obtain rfl := Option.some.inj hp
            obtain rfl := Option.some.inj hr9
            have n12 : f 12 = false := hI.fi.nf2 (i := 9) (k := 12) hf (by kernel_rfl)
            have n14 : f 14 = false := hI.fi.nf2 (i := 12) (k := 14) n12 (by kernel_rfl)
            have hbw := hI.j.b n14
            have hd3 : f 3 = true := hd 3 (of_decide_eq_true (by kernel_rfl))
            have hN0 := hI.j.r3 hd3 hf
            obtain ⟨Al, cl, e8, hlc, hF⟩ := (show ∃ (Al : Option Addr) (cl : Nat), gt a 78 = .slice Al y.length cl ∧ y.length ≤ cl ∧ Kd.F kStmt wD (fun k => (wd.heap.size ≤ k ∧ k ≠ pb ∧ k ≠ gI) ∧ k ≠ gT) Al y.length y from hI.fi.v 8 78 rfl (hd 8 (of_decide_eq_true (by kernel_rfl))))
            have hF9 := Kd.F_old hF hbw
            have hy4 : y.length ≤ 4 := by obtain ⟨R, _, _, h⟩ := (HG.out none 0).any (nt - 1) y HY.out; exact h
            refine Kd.N_append_rows_step kStmt (w0 := w9) wD.heap.size rfl (.tmp 73) (.tmp 78) 35 55 _ 120 rfl Try.underlying35 infoStm2 rfl (by decide) (by decide) (gt a 73) [] y Al y.length cl (fun k => wd.heap.size ≤ k ∧ k ≠ pb ∧ k ≠ gI ∧ k ≠ gT) (fun k => ((wd.heap.size ≤ k ∧ k ≠ pb ∧ k ≠ gI) ∧ k ≠ gT) ∧ k < wD.heap.size) (by simp [Act.eval]) (by simp [Act.eval]; exact e8) hN0 hF9 (fun k hk => ⟨⟨hk.1.1.1, hk.1.1.2.1, hk.1.1.2.2, hk.1.2⟩, fun e => by have := Kd.N_base hN0 k e.symm; omega⟩) (fun k hk => by have := hbw.size; have := blk_lt HD.out.pbk; have := Kd.R_lt HD.out.rI gI rfl; have := Kd.N_lt HD.out.nT gT rfl; have := HD.out.hpb; exact ⟨by omega, by omega, by omega, by omega⟩) (Below.refl _ _) hbw.size (by simp; omega) ?_
            intro v1 w1 hn1 hb1 hg1 hat1
            rw [List.nil_append] at hn1
            have hbe : Below wD.heap.size wD w1 := hbw.trans ⟨hg1.os, hg1.tape, hg1.output, hg1.size, fun k hk => hg1.block k (by have := hbw.size; omega) (fun e => by have := Kd.N_base hN0 k e.symm; omega)⟩
            refine hK _ _ (fun _ _ => trivial) (fun _ _ _ _ h => h) ⟨fun _ => hbe, fun _ e => absurd ((upd_eq f 9).symm.trans e) (by decide), fun _ _ => by rw [gt_put_eq a 79 v1 (by omega)]; exact hn1, fun e => absurd (n12.symm.trans ((upd_ne f (by decide)).symm.trans e)) (by decide), fun e1 e2 => ?_, fun e => absurd (n14.symm.trans ((upd_ne f (by decide)).symm.trans e)) (by decide)⟩
            obtain ⟨c, h1, h2, h3, h4, h5⟩ := hI.j.bx ((upd_ne f (by decide)).symm.trans e1) n12
            refine ⟨c, by rw [gt_put_ne a _ v1 _ (by decide)]; exact h1, h2, (hg1.block c (blk_lt h3) (fun e => h4 hd3 hf e.symm)).trans h3, fun _ e => absurd ((upd_eq f 9).symm.trans e) (by decide), fun _ => ?_⟩
            rw [gt_put_eq a 79 v1 (by omega)]
            rcases hat1 with hq | ⟨q, hq, hq2⟩
            · rw [hq]; exact h4 hd3 hf
            · rw [hq]; intro e; injection e with e; have := blk_lt h3; omega
          | 10, _ =>
            obtain rfl := Option.some.inj ho
            obtain rfl := Option.some.inj hp
            obtain rfl := Option.some.inj hr9
            have n11 : f 11 = false := hI.fi.nf2 (i := 10) (k := 11) hf (by kernel_rfl)
            have n12 : f 12 = false := hI.fi.nf2 (i := 11) (k := 12) n11 (by kernel_rfl)
            have n14 : f 14 = false := hI.fi.nf2 (i := 12) (k := 14) n12 (by kernel_rfl)
            refine want_yes rfl ?_
            have e := (hI.fi.sl 9 rfl).trans (rfl : _ = (.pointer (some (⟨b, 0, none⟩ : Addr)) : Value))
            have hbk := blk_below HDB.out.1 (hI.j.b n14)
            have hl7 : cs.length = 7 := stm7 HDB.out.2
            obtain ⟨s0, s1, s2, s3, s4, s5, s6, rfl⟩ : ∃ s0 s1 s2 s3 s4 s5 s6, cs = [s0, s1, s2, s3, s4, s5, s6] := by match cs, hl7 with | [s0, s1, s2, s3, s4, s5, s6], _ => exact ⟨_, _, _, _, _, _, _, rfl⟩
            have c0 := (blk_cell hbk 0).trans rfl
            have c1 := (blk_cell hbk 1).trans rfl
            have c2 := (blk_cell hbk 2).trans rfl
            have c3 := (blk_cell hbk 3).trans rfl
            have c4 := (blk_cell hbk 4).trans rfl
            have c5 := (blk_cell hbk 5).trans rfl
            have c6 := (blk_cell hbk 6).trans rfl
            unfold Oper.wp; simp [execOp, e, c0, c1, c2, c3, c4, c5, c6, go_sem]; exact hK _ _ (fun _ _ => rfl) (fun _ _ _ _ h => h) (hI.j.other 10 80 _ (by decide) (by decide) (by decide) (by decide) (by decide) (by decide) (by decide) (by decide) (by decide))
          | 11, _ =>
            obtain rfl := Option.some.inj ho
            obtain rfl := Option.some.inj hp
            obtain rfl := Option.some.inj hr9
            have n12 : f 12 = false := hI.fi.nf2 (i := 11) (k := 12) hf (by kernel_rfl)
            have n14 : f 14 = false := hI.fi.nf2 (i := 12) (k := 14) n12 (by kernel_rfl)
            have hbw := hI.j.b n14
            refine want_yes rfl ?_
            have e0 : gt a 80 = .agg cs.toArray := (show gt a 80 = .agg cs.toArray from hI.fi.v 10 80 rfl (hd 10 (of_decide_eq_true (by kernel_rfl))))
            have hb := below_al (Below.refl w9.heap.size w9) (.cells cs.toArray 55 (0, 0))
            have hl7 : cs.length = 7 := stm7 HDB.out.2
            obtain ⟨s0, s1, s2, s3, s4, s5, s6, rfl⟩ : ∃ s0 s1 s2 s3 s4 s5 s6, cs = [s0, s1, s2, s3, s4, s5, s6] := by match cs, hl7 with | [s0, s1, s2, s3, s4, s5, s6], _ => exact ⟨_, _, _, _, _, _, _, rfl⟩
            unfold Oper.wp; simp [execOp, e0, go_sem]
            refine hK _ _ (fun _ _ => trivial) (fun _ _ _ _ h => h) ⟨fun _ => below_step hbw hb, fun e1 e2 => by rw [gt_put_ne a _ _ _ (by decide)]; exact Kd.N_below (hI.j.r3 ((upd_ne f (by decide)).symm.trans e1) ((upd_ne f (by decide)).symm.trans e2)) hb, fun e1 e2 => by rw [gt_put_ne a _ _ _ (by decide)]; exact Kd.N_below (hI.j.r9 ((upd_ne f (by decide)).symm.trans e1) ((upd_ne f (by decide)).symm.trans e2)) hb, fun e => absurd (n12.symm.trans ((upd_ne f (by decide)).symm.trans e)) (by decide), fun _ _ => ⟨w9.heap.size, gt_put_eq a 81 _ (by omega), hbw.size, blk_new _ _, fun e1 e2 => by rw [gt_put_ne a _ _ _ (by decide)]; exact fresh_own (hI.j.r3 ((upd_ne f (by decide)).symm.trans e1) ((upd_ne f (by decide)).symm.trans e2)) (Nat.le_refl _), fun e1 => by rw [gt_put_ne a _ _ _ (by decide)]; exact fresh_own (hI.j.r9 ((upd_ne f (by decide)).symm.trans e1) n12) (Nat.le_refl _)⟩, fun e => absurd (n14.symm.trans ((upd_ne f (by decide)).symm.trans e)) (by decide)⟩
          | 12, _ =>
            obtain rfl := Option.some.inj ho
            obtain rfl := Option.some.inj hp
            obtain rfl := Option.some.inj hr9
            have n14 : f 14 = false := hI.fi.nf2 (i := 12) (k := 14) hf (by kernel_rfl)
            have hbw := hI.j.b n14
            have hd9 : f 9 = true := hd 9 (of_decide_eq_true (by kernel_rfl))
            have hd11 : f 11 = true := hd 11 (of_decide_eq_true (by kernel_rfl))
            have hN9 := hI.j.r9 hd9 hf
            obtain ⟨c, h1, h2, h3, h4, h5⟩ := hI.j.bx hd11 hf
            have hFb : Kd.F kStmt w9 (fun k => k = c ∨ wr.heap.size ≤ k ∧ k < wD.heap.size) (some ⟨c, 0, none⟩) 1 [bad] := fun W' hW => C_one ((hW c (.inl rfl) (blk_lt h3)).trans h3) (Kd.FK_now (Kd.FK_step (Kd.FK_mono (Kd.FK_bound (Kd.FK_below (Kd.FK_bound HDB.out.2) hbw)) (ok' := fun k => wr.heap.size ≤ k ∧ k < wD.heap.size) (fun k hk => ⟨hk.1.1, hk.1.2⟩)) (fun k hk hlt => hW k (.inr hk) hlt)))
            have hy4 : y.length ≤ 4 := by obtain ⟨R, _, _, h⟩ := (HG.out none 0).any (nt - 1) y HY.out; exact h
            refine Kd.N_append_rows_step kStmt (w0 := w9) wD.heap.size rfl (.tmp 79) (.tmp 81) 35 55 _ 120 rfl Try.underlying35 infoStm2 rfl (by decide) (by decide) (gt a 79) y [bad] (some ⟨c, 0, none⟩) 1 1 (fun k => wd.heap.size ≤ k ∧ k ≠ pb ∧ k ≠ gI ∧ k ≠ gT) (fun k => k = c ∨ wr.heap.size ≤ k ∧ k < wD.heap.size) (by simp [Act.eval]) (by simp [Act.eval]; exact h1) hN9 hFb (fun k hk => ?_) (fun k hk => by have := hbw.size; have := blk_lt HD.out.pbk; have := Kd.R_lt HD.out.rI gI rfl; have := Kd.N_lt HD.out.nT gT rfl; have := HD.out.hpb; exact ⟨by omega, by omega, by omega, by omega⟩) (Below.refl _ _) hbw.size (by omega) ?_
            · have q1 := blk_lt HW.out.pbk
              have q2 := Kd.R_lt HW.out.rI gI rfl
              have q3 := Kd.N_lt HW.out.nT gT rfl
              have q4 := HW.out.hpb
              have q5 := HDS.out
              rcases hk with rfl | hk
              · exact ⟨⟨by omega, by omega, by omega, by omega⟩, fun e => h5 hd9 e.symm⟩
              · exact ⟨⟨by omega, by omega, by omega, by omega⟩, fun e => by have := Kd.N_base hN9 k e.symm; omega⟩
            intro v1 w1 hn1 hb1 hg1 hat1
            have hbe : Below wD.heap.size wD w1 := hbw.trans ⟨hg1.os, hg1.tape, hg1.output, hg1.size, fun k hk => hg1.block k (by have := hbw.size; omega) (fun e => by have := Kd.N_base hN9 k e.symm; omega)⟩
            exact hK _ _ (fun _ _ => trivial) (fun _ _ _ _ h => h) ⟨fun _ => hbe, fun _ e => absurd (hd9.symm.trans ((upd_ne f (by decide)).symm.trans e)) (by decide), fun _ e => absurd ((upd_eq f 12).symm.trans e) (by decide), fun _ _ => by rw [gt_put_eq a 82 v1 (by omega)]; exact hn1, fun _ e => absurd ((upd_eq f 12).symm.trans e) (by decide), fun e => absurd (n14.symm.trans ((upd_ne f (by decide)).symm.trans e)) (by decide)⟩
          | 13, _ =>
            obtain rfl := Option.some.inj ho
            obtain rfl := Option.some.inj hp
            obtain rfl := Option.some.inj hr9
            have n14 : f 14 = false := hI.fi.nf2 (i := 13) (k := 14) hf (by kernel_rfl)
            refine want_yes rfl ?_
            have e0 : gt a 71 = .slice (some (⟨gT, 0, none⟩ : Addr)) ths.length cT := (show gt a 71 = .slice (some (⟨gT, 0, none⟩ : Addr)) ths.length cT from hI.fi.v 1 71 rfl (hd 1 (of_decide_eq_true (by kernel_rfl))))
            have e1 : gt a 72 = .int .i64 ((nt - 1 : Nat) : Int) := (show gt a 72 = .int .i64 ((nt - 1 : Nat) : Int) from hI.fi.v 2 72 rfl (hd 2 (of_decide_eq_true (by kernel_rfl))))
            have q0 : (0 : Int) ≤ ((nt - 1 : Nat) : Int) := by omega
            have q1 : ((nt - 1 : Nat) : Int) < (ths.length : Int) := by have := HIL.out.2; have := HN.out.2; omega
            unfold Oper.wp; simp [execOp, e0, e1, q0, q1, go_sem]; exact hK _ _ (fun _ _ => rfl) (fun _ _ _ _ h => h) (hI.j.other 13 83 _ (by decide) (by decide) (by decide) (by decide) (by decide) (by decide) (by decide) (by decide) (by decide))
          | 14, _ =>
            obtain rfl := Option.some.inj ho
            obtain rfl := Option.some.inj hp
            obtain rfl := Option.some.inj hr9
            refine want_yes rfl ?_
            have e0 : gt a 83 = .pointer (some (⟨gT, nt - 1, none⟩ : Addr)) := (show gt a 83 = .pointer (some (⟨gT, nt - 1, none⟩ : Addr)) from hI.fi.v 13 83 rfl (hd 13 (of_decide_eq_true (by kernel_rfl))))
            have hd12 : f 12 = true := hd 12 (of_decide_eq_true (by kernel_rfl))
            have hN := hI.j.r12 hd12 hf
            obtain ⟨A1, c1, h1⟩ := Kd.N_slice hN
            rw [h1] at hN
            have hW9 := HD.out.step (hI.j.b hf)
            obtain ⟨Al, cl, t0, z0, -, -⟩ := hW9.thr (nt - 1) y HY.out
            have hp := hW9.putT (nt - 1) (by have := HIL.out.2; have := HN.out.2; omega) hN
            unfold Oper.wp; simp [execOp, e0, h1, t0, z0, go_sem]
            refine hK undef _ (fun d h => by cases h) (fun _ _ _ _ h => h) ⟨fun e => absurd ((upd_eq f 14).symm.trans e) (by decide), fun _ e => absurd ((hd 9 (of_decide_eq_true (by kernel_rfl))).symm.trans ((upd_ne f (by decide)).symm.trans e)) (by decide), fun _ e => absurd (hd12.symm.trans ((upd_ne f (by decide)).symm.trans e)) (by decide), fun _ e => absurd ((upd_eq f 14).symm.trans e) (by decide), fun _ e => absurd (hd12.symm.trans ((upd_ne f (by decide)).symm.trans e)) (by decide), fun _ => ?_⟩
            simpa using hp
        · intro f g9 w9 hall hJ hg
          have HZ := Aside0.mk (hJ.st (hall 14 (by decide)))
          clear hJ hg hall
          simp only [List.map_cons, List.map_nil, fill, List.setIfInBounds_toArray, List.set_cons_zero, List.set_cons_succ]
          have e0 := (blk_cell HZ.out.pbk 0).trans rfl
          have e1 := (blk_cell HZ.out.pbk 1).trans rfl
          have e2 := (blk_cell HZ.out.pbk 2).trans rfl
          have e3 := (blk_cell HZ.out.pbk 3).trans rfl
          have e4 := (blk_cell HZ.out.pbk 4).trans rfl
          have e5 := (blk_cell HZ.out.pbk 5).trans rfl
          have e6 := (blk_cell HZ.out.pbk 6).trans rfl
          have e7 := (blk_cell HZ.out.pbk 7).trans rfl
          have e8 := (blk_cell HZ.out.pbk 8).trans rfl
          have e9 := (blk_cell HZ.out.pbk 9).trans rfl
          have hcc : (badC.getD r 0 == badC.getD r 0) = true := beq_self_eq_true _
          have hss : (s == s) = true := beq_self_eq_true _
          have hcd : decide (badC.getD r 0 = badC.getD r 0) = true := decide_eq_true rfl
          have hsd : decide (s = s) = true := decide_eq_true rfl
          have HASK := Aside0.mk (HZ.out.askT HRR.out.2 HBX.out HG.out HY.out s HS1.out)
          generalize badC.getD r 0 = want at HASK hcc hcd ⊢
          go_wp2_with fail
          with_reducible refine HASK.out.mono ?_
          rintro e5 w5 ⟨rfl, hb5⟩
          have HB5 := Aside0.mk hb5
          clear hb5
          go_wp2
          go_ret
          exact ⟨rfl, HB5.out⟩
        · intro f hf
          exact ⟨fun _ => Below.refl _ _, fun e => absurd ((hf 3).symm.trans e) (by decide), fun e => absurd ((hf 9).symm.trans e) (by decide), fun e => absurd ((hf 12).symm.trans e) (by decide), fun e => absurd ((hf 11).symm.trans e) (by decide), fun e => absurd ((hf 14).symm.trans e) (by decide)⟩
end Go.Proofs.Ytlhbnbckanmaiaa.K
