/- A text of a claim (ours): the asker's blocks; conditions: none of ours. -/
import Derived.Test.YtlhbnbckanmaiaaM3V
import Derived.Test.YtlhbnbckanmaiaaM4V
namespace Go.Proofs.Ytlhbnbckanmaiaa.K
open Go Go.RowKit Go.Proofs.YtlhbnbckanmaiaaW.PrintWords Go.Proofs.YtlhbnbckanmaiaaW.PrintLast Go.Proofs.YtlhbnbckanmaiaaW.PrintMore Go.Proofs.Ytlhbnbckanmaiaa.PC1
set_option linter.unusedVariables false
set_option linter.unusedSimpArgs false
structure SB (w0 W wx : World) (q : Nat) (P : AP) (part e st : Int) (vR : Value) (regs : List ByteArray) (o : Obj) : Prop where
  a : AS w0 wx q P part e st vR
  c : Chg (fun k => k = q) W wx
  x : wx.heap[W.heap.size]? = some o
  r : RegsAt q wx vR regs
theorem SB.quiet {w0 W wx wy : World} {q : Nat} {P : AP} {part e st : Int} {vR : Value} {regs : List ByteArray} {o : Obj} (h : SB w0 W wx q P part e st vR regs o) (hb : Below wx.heap.size wx wy) : SB w0 W wy q P part e st vR regs o :=
  ⟨h.a.step hb, h.c.step (Chg.of_below hb), blk_below h.x hb, h.r.step (Chg.of_below hb)⟩
theorem SB.asked {w0 W wx wy : World} {q : Nat} {P : AP} {part e e' st : Int} {vR : Value} {regs : List ByteArray} {o : Obj} {r : Ending} (h : SB w0 W wx q P part e st vR regs o) (hq : q < W.heap.size) (hA : Asked w0 wx q P part e' st vR r wy) : SB w0 W wy q P part e' st vR regs o :=
  ⟨hA.stt, h.c.step hA.chg, hA.chg.heap h.x (by omega), h.r.step hA.chg⟩
theorem SB.to {w0 W wx : World} {q : Nat} {P : AP} {part e e' st : Int} {vR : Value} {regs : List ByteArray} {o : Obj} (h : SB w0 W wx q P part e st vR regs o) (he : e = e') : SB w0 W wx q P part e' st vR regs o := he ▸ h
/-- .. and what there is of its kind. -/
structure SC (w0 W wx : World) (q : Nat) (P : AP) (part e st : Int) (vR : Value) (regs : List ByteArray) (o : Obj) (b : Nat) (s : Obj) : Prop where
  sb : SB w0 W wx q P part e st vR regs o
  y : wx.heap[b]? = some s
theorem SC.quiet {w0 W wx wy : World} {q : Nat} {P : AP} {part e st : Int} {vR : Value} {regs : List ByteArray} {o : Obj} {b : Nat} {s : Obj} (h : SC w0 W wx q P part e st vR regs o b s) (hb : Below wx.heap.size wx wy) : SC w0 W wy q P part e st vR regs o b s :=
  ⟨h.sb.quiet hb, blk_below h.y hb⟩
theorem SC.asked {w0 W wx wy : World} {q : Nat} {P : AP} {part e e' st : Int} {vR : Value} {regs : List ByteArray} {o : Obj} {b : Nat} {s : Obj} {r : Ending} (h : SC w0 W wx q P part e st vR regs o b s) (hq : q < W.heap.size) (hb : W.heap.size ≤ b) (hA : Asked w0 wx q P part e' st vR r wy) : SC w0 W wy q P part e' st vR regs o b s :=
  ⟨h.sb.asked hq hA, hA.chg.heap h.y (by omega)⟩
theorem SC.to {w0 W wx : World} {q : Nat} {P : AP} {part e e' st : Int} {vR : Value} {regs : List ByteArray} {o : Obj} {b : Nat} {s : Obj} (h : SC w0 W wx q P part e st vR regs o b s) (he : e = e') : SC w0 W wx q P part e' st vR regs o b s := he ▸ h
theorem stm_add {w0 W wd wx wa : World} {q base : Nat} {P : AP} {part e st : Int} {vR v v' : Value} {regs : List ByteArray} {r : ByteArray} {o : Obj} {b : Nat} {s : Obj} (h : SC w0 W wd q P part e st vR regs o b s) (hq : q < W.heap.size) (hqb : W.heap.size ≤ b) (hb : Below wd.heap.size wd wx) (hbase : wd.heap.size ≤ base)
    (hv : wx.ownsRow base 9 1 v regs.length (rowS regs)) (h1 : wa.ownsRow base 9 1 v' (regs ++ [r]).length (rowS (regs ++ [r]))) (h2 : wx.grownBy wa v.ownBlock) : SC w0 W (wa.setCell ⟨q, 13, none⟩ v') q P part e st v' (regs ++ [r]) o b s := by
  have hwa : Below wd.heap.size wd wa := hb.trans (Chg.below (Chg.grown (F := fun k => some k = v.ownBlock) h2 (fun k hk => hk.symm)) hb.size (fun k hk => by have := (hv.lt k hk.symm).1; omega))
  have g := h.quiet hwa
  have hne := own_ne h1 g.sb.a.blk (by decide)
  have hc := chg_set wa q 13 v'
  have hqd : q < wd.heap.size := h.sb.a.lt
  exact ⟨⟨g.sb.a.set 13 rfl, g.sb.c.step hc, hc.heap g.sb.x (by omega), RegsAt.of_own (own_setCell h1 hne v') (by omega)⟩, hc.heap g.y (by omega)⟩
theorem setR_size (n : Nat) (lo : Nat) (g : Nat → Value) : ∀ (t : Array Value), ((List.range n).foldl (fun acc i => acc.setIfInBounds (lo + i) (g (lo + i))) t).size = t.size := by
  induction n with
  | zero => intro t; rfl
  | succ n ih => intro t; rw [List.range_succ, List.foldl_append]; simp [ih]
theorem setR_get (n : Nat) (lo : Nat) (g : Nat → Value) : ∀ (t : Array Value) (j : Nat), j < t.size → ((List.range n).foldl (fun acc i => acc.setIfInBounds (lo + i) (g (lo + i))) t)[j]?.getD undef = if lo ≤ j ∧ j < lo + n then g j else t[j]?.getD undef := by
  induction n with
  | zero => intro t j hj; rw [if_neg (by omega)]; rfl
  | succ n ih =>
    intro t j hj
    rw [List.range_succ, List.foldl_append]
    simp only [List.foldl_cons, List.foldl_nil]
    by_cases e : lo + n = j
    · subst e
      rw [if_pos ⟨by omega, by omega⟩]
      simp [setR_size, hj]
    · rw [Array.getElem?_setIfInBounds, if_neg e, ih t j hj]
      by_cases h : lo ≤ j ∧ j < lo + n
      · rw [if_pos h, if_pos ⟨h.1, by omega⟩]
      · rw [if_neg h, if_neg (by omega)]
theorem act_range (a a0 : Act) (lo n : Nat) (hsz : a.tmps.size = a0.tmps.size) (h : ∀ j, j < lo ∨ lo + n ≤ j → gt a j = gt a0 j) : a.tmps = (List.range n).foldl (fun acc i => acc.setIfInBounds (lo + i) (gt a (lo + i))) a0.tmps := by
  have hz := setR_size n lo (gt a) a0.tmps
  apply Array.ext
  · rw [hz]; exact hsz
  · intro j h1 h2
    have q := setR_get n lo (gt a) a0.tmps j (by omega)
    rw [Array.getElem?_eq_getElem h2, Option.getD_some] at q
    rw [q]
    have e : a.tmps[j] = gt a j := by unfold gt; rw [Array.getElem?_eq_getElem h1]; rfl
    rw [e]
    by_cases hj : lo ≤ j ∧ j < lo + n
    · rw [if_pos hj]
    · rw [if_neg hj]; exact h j (by omega)
structure RA (w0 W wd : World) (q : Nat) (P : AP) (part e st : Int) (vR : Value) (regs : List ByteArray) (r : ByteArray) (o : Obj) (b : Nat) (s : Obj) (f : Nat → Bool) (a : Act) (w : World) (a0 : Act) : Prop where
  sz : a.tmps.size = a0.tmps.size
  z0 : a0.tmps.size = 149
  df : a.defers = a0.defers
  sl : ∀ j, j < 91 ∨ 105 ≤ j → gt a j = gt a0 j
  v0 : f 0 = true → gt a 91 = .pointer (some ⟨q, 0, none⟩)
  v1 : f 1 = true → gt a 92 = .pointer (some ⟨q, 0, none⟩)
  v2 : f 2 = true → gt a 93 = .pointer (some ⟨q, 0, none⟩)
  v3 : f 3 = true → gt a 94 = .pointer (some ⟨q, 12, none⟩)
  v4 : f 4 = true → gt a 95 = .pointer (some ⟨q, 13, none⟩)
  v5 : f 5 = true → gt a 96 = vR
  v7 : f 7 = true → gt a 98 = .pointer (some ⟨W.heap.size, 2, none⟩)
  v8 : f 8 = true → gt a 99 = .string r
  v11 : f 11 = true → gt a 102 = .pointer (some ⟨q, 0, none⟩)
  v12 : f 12 = true → gt a 103 = .pointer (some ⟨q, 12, none⟩)
  v13 : f 13 = true → gt a 104 = .pointer (some ⟨q, 13, none⟩)
  c14_10 : f 14 = true → f 10 = true
  c10_6 : f 10 = true → f 6 = true
  c10_9 : f 10 = true → f 9 = true
  c6_5 : f 6 = true → f 5 = true
  c9_8 : f 9 = true → f 8 = true
  hb : f 14 = false → Below wd.heap.size wd w
  v6 : f 6 = true → ∃ v base, gt a 97 = v ∧ wd.heap.size ≤ base ∧ base ≤ w.heap.size ∧ (f 10 = false → w.ownsRow base 9 1 v regs.length (rowS regs))
  v9 : f 9 = true → ∃ b1, gt a 100 = .slice (some ⟨b1, 0, none⟩) 1 1 ∧ (f 10 = false → w.heap[b1]? = some (.cells #[.string r] 9 (0, 0)))
  v10 : f 10 = true → ∃ v', gt a 101 = v' ∧ (f 14 = false → SC w0 W (w.setCell ⟨q, 13, none⟩ v') q P part e st v' (regs ++ [r]) o b s ∧ w.cell? ⟨q, 13, none⟩ = some vR ∧ w.frozen? ⟨q, 13, none⟩ = false)
  v14 : f 14 = true → ∃ v', SC w0 W w q P part e st v' (regs ++ [r]) o b s
set_option maxHeartbeats 1000000 in
theorem ra_0 {w0 W wd w : World} {q : Nat} {P : AP} {part e st : Int} {vR : Value} {regs : List ByteArray} {r : ByteArray} {o : Obj} {b : Nat} {s : Obj} {f : Nat → Bool} {a a0 : Act} {K : Act → World → Prop} {Q : Exit → Act → World → Prop} (o' : Oper) (hop : o'.op = .move (.tmp 0)) (hd : o'.dst = some 91) (h : RA w0 W wd q P part e st vR regs r o b s f a w a0) (h0 : gt a0 0 = .pointer (some ⟨q, 0, none⟩)) (h4 : gt a0 4 = .pointer (some ⟨W.heap.size, 0, none⟩)) (HS : SC w0 W wd q P part e st vR regs o b s) (hx : ∃ c0 c1 c3 c4 c5 c6 t, o = .cells #[c0, c1, .string r, c3, c4, c5, c6] t (0, 0)) (hq : q < W.heap.size) (hqb : W.heap.size ≤ b) (hrl : regs.length ≤ 1000) (hf : f 0 = false)
    (hK : ∀ a' w', RA w0 W wd q P part e st vR regs r o b s (upd f 0) a' w' a0 → K a' w') : o'.wp Try.prog a w K Q := by
  have e := (h.sl 0 (by decide)).trans h0
  unfold Oper.wp
  simp [execOp, hop, hd, e, go_sem]
  refine hK _ _ ?_
  exact {
      sz := by rw [Array.size_setIfInBounds]; exact h.sz
      z0 := h.z0
      df := h.df
      sl := fun j hj => (gt_ne _ _ _ _ _ (by omega)).trans (h.sl j hj)
      v0 := fun _ => gt_eq _ _ _ _ (by rw [h.sz, h.z0]; decide)
      v1 := fun q => (gt_ne _ _ _ _ _ (by decide)).trans (h.v1 ((upd_ne f (by decide)).symm.trans q))
      v2 := fun q => (gt_ne _ _ _ _ _ (by decide)).trans (h.v2 ((upd_ne f (by decide)).symm.trans q))
      v3 := fun q => (gt_ne _ _ _ _ _ (by decide)).trans (h.v3 ((upd_ne f (by decide)).symm.trans q))
      v4 := fun q => (gt_ne _ _ _ _ _ (by decide)).trans (h.v4 ((upd_ne f (by decide)).symm.trans q))
      v5 := fun q => (gt_ne _ _ _ _ _ (by decide)).trans (h.v5 ((upd_ne f (by decide)).symm.trans q))
      v7 := fun q => (gt_ne _ _ _ _ _ (by decide)).trans (h.v7 ((upd_ne f (by decide)).symm.trans q))
      v8 := fun q => (gt_ne _ _ _ _ _ (by decide)).trans (h.v8 ((upd_ne f (by decide)).symm.trans q))
      v11 := fun q => (gt_ne _ _ _ _ _ (by decide)).trans (h.v11 ((upd_ne f (by decide)).symm.trans q))
      v12 := fun q => (gt_ne _ _ _ _ _ (by decide)).trans (h.v12 ((upd_ne f (by decide)).symm.trans q))
      v13 := fun q => (gt_ne _ _ _ _ _ (by decide)).trans (h.v13 ((upd_ne f (by decide)).symm.trans q))
      c14_10 := fun q => (upd_ne f (by decide)).trans (h.c14_10 ((upd_ne f (by decide)).symm.trans q))
      c10_6 := fun q => (upd_ne f (by decide)).trans (h.c10_6 ((upd_ne f (by decide)).symm.trans q))
      c10_9 := fun q => (upd_ne f (by decide)).trans (h.c10_9 ((upd_ne f (by decide)).symm.trans q))
      c6_5 := fun q => (upd_ne f (by decide)).trans (h.c6_5 ((upd_ne f (by decide)).symm.trans q))
      c9_8 := fun q => (upd_ne f (by decide)).trans (h.c9_8 ((upd_ne f (by decide)).symm.trans q))
      hb := fun q => h.hb ((upd_ne f (by decide)).symm.trans q)
      v6 := fun q => by
        obtain ⟨v, base, g1, g2, g3, g4⟩ := h.v6 ((upd_ne f (by decide)).symm.trans q)
        exact ⟨v, base, (gt_ne _ _ _ _ _ (by decide)).trans g1, g2, g3, fun q => g4 ((upd_ne f (by decide)).symm.trans q)⟩
      v9 := fun q => by
        obtain ⟨b1, g1, g2⟩ := h.v9 ((upd_ne f (by decide)).symm.trans q)
        exact ⟨b1, (gt_ne _ _ _ _ _ (by decide)).trans g1, fun q => g2 ((upd_ne f (by decide)).symm.trans q)⟩
      v10 := fun q => by
        obtain ⟨v', g1, g2⟩ := h.v10 ((upd_ne f (by decide)).symm.trans q)
        exact ⟨v', (gt_ne _ _ _ _ _ (by decide)).trans g1, fun q => g2 ((upd_ne f (by decide)).symm.trans q)⟩
      v14 := fun q => h.v14 ((upd_ne f (by decide)).symm.trans q) }
set_option maxHeartbeats 1000000 in
theorem ra_1 {w0 W wd w : World} {q : Nat} {P : AP} {part e st : Int} {vR : Value} {regs : List ByteArray} {r : ByteArray} {o : Obj} {b : Nat} {s : Obj} {f : Nat → Bool} {a a0 : Act} {K : Act → World → Prop} {Q : Exit → Act → World → Prop} (o' : Oper) (hop : o'.op = .move (.tmp 0)) (hd : o'.dst = some 92) (h : RA w0 W wd q P part e st vR regs r o b s f a w a0) (h0 : gt a0 0 = .pointer (some ⟨q, 0, none⟩)) (h4 : gt a0 4 = .pointer (some ⟨W.heap.size, 0, none⟩)) (HS : SC w0 W wd q P part e st vR regs o b s) (hx : ∃ c0 c1 c3 c4 c5 c6 t, o = .cells #[c0, c1, .string r, c3, c4, c5, c6] t (0, 0)) (hq : q < W.heap.size) (hqb : W.heap.size ≤ b) (hrl : regs.length ≤ 1000) (hf : f 1 = false)
    (hK : ∀ a' w', RA w0 W wd q P part e st vR regs r o b s (upd f 1) a' w' a0 → K a' w') : o'.wp Try.prog a w K Q := by
  have e := (h.sl 0 (by decide)).trans h0
  unfold Oper.wp
  simp [execOp, hop, hd, e, go_sem]
  refine hK _ _ ?_
  exact {
      sz := by rw [Array.size_setIfInBounds]; exact h.sz
      z0 := h.z0
      df := h.df
      sl := fun j hj => (gt_ne _ _ _ _ _ (by omega)).trans (h.sl j hj)
      v0 := fun q => (gt_ne _ _ _ _ _ (by decide)).trans (h.v0 ((upd_ne f (by decide)).symm.trans q))
      v1 := fun _ => gt_eq _ _ _ _ (by rw [h.sz, h.z0]; decide)
      v2 := fun q => (gt_ne _ _ _ _ _ (by decide)).trans (h.v2 ((upd_ne f (by decide)).symm.trans q))
      v3 := fun q => (gt_ne _ _ _ _ _ (by decide)).trans (h.v3 ((upd_ne f (by decide)).symm.trans q))
      v4 := fun q => (gt_ne _ _ _ _ _ (by decide)).trans (h.v4 ((upd_ne f (by decide)).symm.trans q))
      v5 := fun q => (gt_ne _ _ _ _ _ (by decide)).trans (h.v5 ((upd_ne f (by decide)).symm.trans q))
      v7 := fun q => (gt_ne _ _ _ _ _ (by decide)).trans (h.v7 ((upd_ne f (by decide)).symm.trans q))
      v8 := fun q => (gt_ne _ _ _ _ _ (by decide)).trans (h.v8 ((upd_ne f (by decide)).symm.trans q))
      v11 := fun q => (gt_ne _ _ _ _ _ (by decide)).trans (h.v11 ((upd_ne f (by decide)).symm.trans q))
      v12 := fun q => (gt_ne _ _ _ _ _ (by decide)).trans (h.v12 ((upd_ne f (by decide)).symm.trans q))
      v13 := fun q => (gt_ne _ _ _ _ _ (by decide)).trans (h.v13 ((upd_ne f (by decide)).symm.trans q))
      c14_10 := fun q => (upd_ne f (by decide)).trans (h.c14_10 ((upd_ne f (by decide)).symm.trans q))
      c10_6 := fun q => (upd_ne f (by decide)).trans (h.c10_6 ((upd_ne f (by decide)).symm.trans q))
      c10_9 := fun q => (upd_ne f (by decide)).trans (h.c10_9 ((upd_ne f (by decide)).symm.trans q))
      c6_5 := fun q => (upd_ne f (by decide)).trans (h.c6_5 ((upd_ne f (by decide)).symm.trans q))
      c9_8 := fun q => (upd_ne f (by decide)).trans (h.c9_8 ((upd_ne f (by decide)).symm.trans q))
      hb := fun q => h.hb ((upd_ne f (by decide)).symm.trans q)
      v6 := fun q => by
        obtain ⟨v, base, g1, g2, g3, g4⟩ := h.v6 ((upd_ne f (by decide)).symm.trans q)
        exact ⟨v, base, (gt_ne _ _ _ _ _ (by decide)).trans g1, g2, g3, fun q => g4 ((upd_ne f (by decide)).symm.trans q)⟩
      v9 := fun q => by
        obtain ⟨b1, g1, g2⟩ := h.v9 ((upd_ne f (by decide)).symm.trans q)
        exact ⟨b1, (gt_ne _ _ _ _ _ (by decide)).trans g1, fun q => g2 ((upd_ne f (by decide)).symm.trans q)⟩
      v10 := fun q => by
        obtain ⟨v', g1, g2⟩ := h.v10 ((upd_ne f (by decide)).symm.trans q)
        exact ⟨v', (gt_ne _ _ _ _ _ (by decide)).trans g1, fun q => g2 ((upd_ne f (by decide)).symm.trans q)⟩
      v14 := fun q => h.v14 ((upd_ne f (by decide)).symm.trans q) }
set_option maxHeartbeats 1000000 in
theorem ra_2 {w0 W wd w : World} {q : Nat} {P : AP} {part e st : Int} {vR : Value} {regs : List ByteArray} {r : ByteArray} {o : Obj} {b : Nat} {s : Obj} {f : Nat → Bool} {a a0 : Act} {K : Act → World → Prop} {Q : Exit → Act → World → Prop} (o' : Oper) (hop : o'.op = .nilCheck (.tmp 92)) (hd : o'.dst = some 93) (h : RA w0 W wd q P part e st vR regs r o b s f a w a0) (h0 : gt a0 0 = .pointer (some ⟨q, 0, none⟩)) (h4 : gt a0 4 = .pointer (some ⟨W.heap.size, 0, none⟩)) (HS : SC w0 W wd q P part e st vR regs o b s) (hx : ∃ c0 c1 c3 c4 c5 c6 t, o = .cells #[c0, c1, .string r, c3, c4, c5, c6] t (0, 0)) (hq : q < W.heap.size) (hqb : W.heap.size ≤ b) (hrl : regs.length ≤ 1000) (hf : f 2 = false) (d1 : f 1 = true)
    (hK : ∀ a' w', RA w0 W wd q P part e st vR regs r o b s (upd f 2) a' w' a0 → K a' w') : o'.wp Try.prog a w K Q := by
  have e := h.v1 d1
  unfold Oper.wp
  simp [execOp, hop, hd, e, go_sem]
  refine hK _ _ ?_
  exact {
      sz := by rw [Array.size_setIfInBounds]; exact h.sz
      z0 := h.z0
      df := h.df
      sl := fun j hj => (gt_ne _ _ _ _ _ (by omega)).trans (h.sl j hj)
      v0 := fun q => (gt_ne _ _ _ _ _ (by decide)).trans (h.v0 ((upd_ne f (by decide)).symm.trans q))
      v1 := fun q => (gt_ne _ _ _ _ _ (by decide)).trans (h.v1 ((upd_ne f (by decide)).symm.trans q))
      v2 := fun _ => gt_eq _ _ _ _ (by rw [h.sz, h.z0]; decide)
      v3 := fun q => (gt_ne _ _ _ _ _ (by decide)).trans (h.v3 ((upd_ne f (by decide)).symm.trans q))
      v4 := fun q => (gt_ne _ _ _ _ _ (by decide)).trans (h.v4 ((upd_ne f (by decide)).symm.trans q))
      v5 := fun q => (gt_ne _ _ _ _ _ (by decide)).trans (h.v5 ((upd_ne f (by decide)).symm.trans q))
      v7 := fun q => (gt_ne _ _ _ _ _ (by decide)).trans (h.v7 ((upd_ne f (by decide)).symm.trans q))
      v8 := fun q => (gt_ne _ _ _ _ _ (by decide)).trans (h.v8 ((upd_ne f (by decide)).symm.trans q))
      v11 := fun q => (gt_ne _ _ _ _ _ (by decide)).trans (h.v11 ((upd_ne f (by decide)).symm.trans q))
      v12 := fun q => (gt_ne _ _ _ _ _ (by decide)).trans (h.v12 ((upd_ne f (by decide)).symm.trans q))
      v13 := fun q => (gt_ne _ _ _ _ _ (by decide)).trans (h.v13 ((upd_ne f (by decide)).symm.trans q))
      c14_10 := fun q => (upd_ne f (by decide)).trans (h.c14_10 ((upd_ne f (by decide)).symm.trans q))
      c10_6 := fun q => (upd_ne f (by decide)).trans (h.c10_6 ((upd_ne f (by decide)).symm.trans q))
      c10_9 := fun q => (upd_ne f (by decide)).trans (h.c10_9 ((upd_ne f (by decide)).symm.trans q))
      c6_5 := fun q => (upd_ne f (by decide)).trans (h.c6_5 ((upd_ne f (by decide)).symm.trans q))
      c9_8 := fun q => (upd_ne f (by decide)).trans (h.c9_8 ((upd_ne f (by decide)).symm.trans q))
      hb := fun q => h.hb ((upd_ne f (by decide)).symm.trans q)
      v6 := fun q => by
        obtain ⟨v, base, g1, g2, g3, g4⟩ := h.v6 ((upd_ne f (by decide)).symm.trans q)
        exact ⟨v, base, (gt_ne _ _ _ _ _ (by decide)).trans g1, g2, g3, fun q => g4 ((upd_ne f (by decide)).symm.trans q)⟩
      v9 := fun q => by
        obtain ⟨b1, g1, g2⟩ := h.v9 ((upd_ne f (by decide)).symm.trans q)
        exact ⟨b1, (gt_ne _ _ _ _ _ (by decide)).trans g1, fun q => g2 ((upd_ne f (by decide)).symm.trans q)⟩
      v10 := fun q => by
        obtain ⟨v', g1, g2⟩ := h.v10 ((upd_ne f (by decide)).symm.trans q)
        exact ⟨v', (gt_ne _ _ _ _ _ (by decide)).trans g1, fun q => g2 ((upd_ne f (by decide)).symm.trans q)⟩
      v14 := fun q => h.v14 ((upd_ne f (by decide)).symm.trans q) }
set_option maxHeartbeats 1000000 in
theorem ra_3 {w0 W wd w : World} {q : Nat} {P : AP} {part e st : Int} {vR : Value} {regs : List ByteArray} {r : ByteArray} {o : Obj} {b : Nat} {s : Obj} {f : Nat → Bool} {a a0 : Act} {K : Act → World → Prop} {Q : Exit → Act → World → Prop} (o' : Oper) (hop : o'.op = .fieldAddr 68 (.tmp 93) 3) (hd : o'.dst = some 94) (h : RA w0 W wd q P part e st vR regs r o b s f a w a0) (h0 : gt a0 0 = .pointer (some ⟨q, 0, none⟩)) (h4 : gt a0 4 = .pointer (some ⟨W.heap.size, 0, none⟩)) (HS : SC w0 W wd q P part e st vR regs o b s) (hx : ∃ c0 c1 c3 c4 c5 c6 t, o = .cells #[c0, c1, .string r, c3, c4, c5, c6] t (0, 0)) (hq : q < W.heap.size) (hqb : W.heap.size ≤ b) (hrl : regs.length ≤ 1000) (hf : f 3 = false) (d2 : f 2 = true)
    (hK : ∀ a' w', RA w0 W wd q P part e st vR regs r o b s (upd f 3) a' w' a0 → K a' w') : o'.wp Try.prog a w K Q := by
  have e := h.v2 d2
  unfold Oper.wp
  simp [execOp, hop, hd, e, go_sem]
  refine hK _ _ ?_
  exact {
      sz := by rw [Array.size_setIfInBounds]; exact h.sz
      z0 := h.z0
      df := h.df
      sl := fun j hj => (gt_ne _ _ _ _ _ (by omega)).trans (h.sl j hj)
      v0 := fun q => (gt_ne _ _ _ _ _ (by decide)).trans (h.v0 ((upd_ne f (by decide)).symm.trans q))
      v1 := fun q => (gt_ne _ _ _ _ _ (by decide)).trans (h.v1 ((upd_ne f (by decide)).symm.trans q))
      v2 := fun q => (gt_ne _ _ _ _ _ (by decide)).trans (h.v2 ((upd_ne f (by decide)).symm.trans q))
      v3 := fun _ => gt_eq _ _ _ _ (by rw [h.sz, h.z0]; decide)
      v4 := fun q => (gt_ne _ _ _ _ _ (by decide)).trans (h.v4 ((upd_ne f (by decide)).symm.trans q))
      v5 := fun q => (gt_ne _ _ _ _ _ (by decide)).trans (h.v5 ((upd_ne f (by decide)).symm.trans q))
      v7 := fun q => (gt_ne _ _ _ _ _ (by decide)).trans (h.v7 ((upd_ne f (by decide)).symm.trans q))
      v8 := fun q => (gt_ne _ _ _ _ _ (by decide)).trans (h.v8 ((upd_ne f (by decide)).symm.trans q))
      v11 := fun q => (gt_ne _ _ _ _ _ (by decide)).trans (h.v11 ((upd_ne f (by decide)).symm.trans q))
      v12 := fun q => (gt_ne _ _ _ _ _ (by decide)).trans (h.v12 ((upd_ne f (by decide)).symm.trans q))
      v13 := fun q => (gt_ne _ _ _ _ _ (by decide)).trans (h.v13 ((upd_ne f (by decide)).symm.trans q))
      c14_10 := fun q => (upd_ne f (by decide)).trans (h.c14_10 ((upd_ne f (by decide)).symm.trans q))
      c10_6 := fun q => (upd_ne f (by decide)).trans (h.c10_6 ((upd_ne f (by decide)).symm.trans q))
      c10_9 := fun q => (upd_ne f (by decide)).trans (h.c10_9 ((upd_ne f (by decide)).symm.trans q))
      c6_5 := fun q => (upd_ne f (by decide)).trans (h.c6_5 ((upd_ne f (by decide)).symm.trans q))
      c9_8 := fun q => (upd_ne f (by decide)).trans (h.c9_8 ((upd_ne f (by decide)).symm.trans q))
      hb := fun q => h.hb ((upd_ne f (by decide)).symm.trans q)
      v6 := fun q => by
        obtain ⟨v, base, g1, g2, g3, g4⟩ := h.v6 ((upd_ne f (by decide)).symm.trans q)
        exact ⟨v, base, (gt_ne _ _ _ _ _ (by decide)).trans g1, g2, g3, fun q => g4 ((upd_ne f (by decide)).symm.trans q)⟩
      v9 := fun q => by
        obtain ⟨b1, g1, g2⟩ := h.v9 ((upd_ne f (by decide)).symm.trans q)
        exact ⟨b1, (gt_ne _ _ _ _ _ (by decide)).trans g1, fun q => g2 ((upd_ne f (by decide)).symm.trans q)⟩
      v10 := fun q => by
        obtain ⟨v', g1, g2⟩ := h.v10 ((upd_ne f (by decide)).symm.trans q)
        exact ⟨v', (gt_ne _ _ _ _ _ (by decide)).trans g1, fun q => g2 ((upd_ne f (by decide)).symm.trans q)⟩
      v14 := fun q => h.v14 ((upd_ne f (by decide)).symm.trans q) }
set_option maxHeartbeats 1000000 in
theorem ra_4 {w0 W wd w : World} {q : Nat} {P : AP} {part e st : Int} {vR : Value} {regs : List ByteArray} {r : ByteArray} {o : Obj} {b : Nat} {s : Obj} {f : Nat → Bool} {a a0 : Act} {K : Act → World → Prop} {Q : Exit → Act → World → Prop} (o' : Oper) (hop : o'.op = .fieldAddr 66 (.tmp 94) 1) (hd : o'.dst = some 95) (h : RA w0 W wd q P part e st vR regs r o b s f a w a0) (h0 : gt a0 0 = .pointer (some ⟨q, 0, none⟩)) (h4 : gt a0 4 = .pointer (some ⟨W.heap.size, 0, none⟩)) (HS : SC w0 W wd q P part e st vR regs o b s) (hx : ∃ c0 c1 c3 c4 c5 c6 t, o = .cells #[c0, c1, .string r, c3, c4, c5, c6] t (0, 0)) (hq : q < W.heap.size) (hqb : W.heap.size ≤ b) (hrl : regs.length ≤ 1000) (hf : f 4 = false) (d3 : f 3 = true)
    (hK : ∀ a' w', RA w0 W wd q P part e st vR regs r o b s (upd f 4) a' w' a0 → K a' w') : o'.wp Try.prog a w K Q := by
  have e := h.v3 d3
  unfold Oper.wp
  simp [execOp, hop, hd, e, go_sem]
  refine hK _ _ ?_
  exact {
      sz := by rw [Array.size_setIfInBounds]; exact h.sz
      z0 := h.z0
      df := h.df
      sl := fun j hj => (gt_ne _ _ _ _ _ (by omega)).trans (h.sl j hj)
      v0 := fun q => (gt_ne _ _ _ _ _ (by decide)).trans (h.v0 ((upd_ne f (by decide)).symm.trans q))
      v1 := fun q => (gt_ne _ _ _ _ _ (by decide)).trans (h.v1 ((upd_ne f (by decide)).symm.trans q))
      v2 := fun q => (gt_ne _ _ _ _ _ (by decide)).trans (h.v2 ((upd_ne f (by decide)).symm.trans q))
      v3 := fun q => (gt_ne _ _ _ _ _ (by decide)).trans (h.v3 ((upd_ne f (by decide)).symm.trans q))
      v4 := fun _ => gt_eq _ _ _ _ (by rw [h.sz, h.z0]; decide)
      v5 := fun q => (gt_ne _ _ _ _ _ (by decide)).trans (h.v5 ((upd_ne f (by decide)).symm.trans q))
      v7 := fun q => (gt_ne _ _ _ _ _ (by decide)).trans (h.v7 ((upd_ne f (by decide)).symm.trans q))
      v8 := fun q => (gt_ne _ _ _ _ _ (by decide)).trans (h.v8 ((upd_ne f (by decide)).symm.trans q))
      v11 := fun q => (gt_ne _ _ _ _ _ (by decide)).trans (h.v11 ((upd_ne f (by decide)).symm.trans q))
      v12 := fun q => (gt_ne _ _ _ _ _ (by decide)).trans (h.v12 ((upd_ne f (by decide)).symm.trans q))
      v13 := fun q => (gt_ne _ _ _ _ _ (by decide)).trans (h.v13 ((upd_ne f (by decide)).symm.trans q))
      c14_10 := fun q => (upd_ne f (by decide)).trans (h.c14_10 ((upd_ne f (by decide)).symm.trans q))
      c10_6 := fun q => (upd_ne f (by decide)).trans (h.c10_6 ((upd_ne f (by decide)).symm.trans q))
      c10_9 := fun q => (upd_ne f (by decide)).trans (h.c10_9 ((upd_ne f (by decide)).symm.trans q))
      c6_5 := fun q => (upd_ne f (by decide)).trans (h.c6_5 ((upd_ne f (by decide)).symm.trans q))
      c9_8 := fun q => (upd_ne f (by decide)).trans (h.c9_8 ((upd_ne f (by decide)).symm.trans q))
      hb := fun q => h.hb ((upd_ne f (by decide)).symm.trans q)
      v6 := fun q => by
        obtain ⟨v, base, g1, g2, g3, g4⟩ := h.v6 ((upd_ne f (by decide)).symm.trans q)
        exact ⟨v, base, (gt_ne _ _ _ _ _ (by decide)).trans g1, g2, g3, fun q => g4 ((upd_ne f (by decide)).symm.trans q)⟩
      v9 := fun q => by
        obtain ⟨b1, g1, g2⟩ := h.v9 ((upd_ne f (by decide)).symm.trans q)
        exact ⟨b1, (gt_ne _ _ _ _ _ (by decide)).trans g1, fun q => g2 ((upd_ne f (by decide)).symm.trans q)⟩
      v10 := fun q => by
        obtain ⟨v', g1, g2⟩ := h.v10 ((upd_ne f (by decide)).symm.trans q)
        exact ⟨v', (gt_ne _ _ _ _ _ (by decide)).trans g1, fun q => g2 ((upd_ne f (by decide)).symm.trans q)⟩
      v14 := fun q => h.v14 ((upd_ne f (by decide)).symm.trans q) }
set_option maxHeartbeats 1000000 in
theorem ra_5 {w0 W wd w : World} {q : Nat} {P : AP} {part e st : Int} {vR : Value} {regs : List ByteArray} {r : ByteArray} {o : Obj} {b : Nat} {s : Obj} {f : Nat → Bool} {a a0 : Act} {K : Act → World → Prop} {Q : Exit → Act → World → Prop} (o' : Oper) (hop : o'.op = .load 37 (.tmp 95)) (hd : o'.dst = some 96) (h : RA w0 W wd q P part e st vR regs r o b s f a w a0) (h0 : gt a0 0 = .pointer (some ⟨q, 0, none⟩)) (h4 : gt a0 4 = .pointer (some ⟨W.heap.size, 0, none⟩)) (HS : SC w0 W wd q P part e st vR regs o b s) (hx : ∃ c0 c1 c3 c4 c5 c6 t, o = .cells #[c0, c1, .string r, c3, c4, c5, c6] t (0, 0)) (hq : q < W.heap.size) (hqb : W.heap.size ≤ b) (hrl : regs.length ≤ 1000) (hf : f 5 = false) (d4 : f 4 = true)
    (hK : ∀ a' w', RA w0 W wd q P part e st vR regs r o b s (upd f 5) a' w' a0 → K a' w') : o'.wp Try.prog a w K Q := by
  have e := h.v4 d4
  have n14 : f 14 = false := by
    by_cases e : f 14 = true
    · exact absurd (h.c6_5 (h.c10_6 (h.c14_10 e))) (by rw [hf]; decide)
    · simpa using e
  have hbw := h.hb n14
  have hc := pw_cell_below hbw (HS.sb.a.cells.2.2.2.2.2.2.2.2.2.2.2.2.2)
  have hl := World.block_lt_of_cell? _ _ hc
  dsimp only at hl
  unfold Oper.wp
  simp [execOp, hop, hd, e, hc, hl, go_sem]
  refine hK _ _ ?_
  exact {
      sz := by rw [Array.size_setIfInBounds]; exact h.sz
      z0 := h.z0
      df := h.df
      sl := fun j hj => (gt_ne _ _ _ _ _ (by omega)).trans (h.sl j hj)
      v0 := fun q => (gt_ne _ _ _ _ _ (by decide)).trans (h.v0 ((upd_ne f (by decide)).symm.trans q))
      v1 := fun q => (gt_ne _ _ _ _ _ (by decide)).trans (h.v1 ((upd_ne f (by decide)).symm.trans q))
      v2 := fun q => (gt_ne _ _ _ _ _ (by decide)).trans (h.v2 ((upd_ne f (by decide)).symm.trans q))
      v3 := fun q => (gt_ne _ _ _ _ _ (by decide)).trans (h.v3 ((upd_ne f (by decide)).symm.trans q))
      v4 := fun q => (gt_ne _ _ _ _ _ (by decide)).trans (h.v4 ((upd_ne f (by decide)).symm.trans q))
      v5 := fun _ => gt_eq _ _ _ _ (by rw [h.sz, h.z0]; decide)
      v7 := fun q => (gt_ne _ _ _ _ _ (by decide)).trans (h.v7 ((upd_ne f (by decide)).symm.trans q))
      v8 := fun q => (gt_ne _ _ _ _ _ (by decide)).trans (h.v8 ((upd_ne f (by decide)).symm.trans q))
      v11 := fun q => (gt_ne _ _ _ _ _ (by decide)).trans (h.v11 ((upd_ne f (by decide)).symm.trans q))
      v12 := fun q => (gt_ne _ _ _ _ _ (by decide)).trans (h.v12 ((upd_ne f (by decide)).symm.trans q))
      v13 := fun q => (gt_ne _ _ _ _ _ (by decide)).trans (h.v13 ((upd_ne f (by decide)).symm.trans q))
      c14_10 := fun q => (upd_ne f (by decide)).trans (h.c14_10 ((upd_ne f (by decide)).symm.trans q))
      c10_6 := fun q => (upd_ne f (by decide)).trans (h.c10_6 ((upd_ne f (by decide)).symm.trans q))
      c10_9 := fun q => (upd_ne f (by decide)).trans (h.c10_9 ((upd_ne f (by decide)).symm.trans q))
      c6_5 := fun _ => upd_eq f 5
      c9_8 := fun q => (upd_ne f (by decide)).trans (h.c9_8 ((upd_ne f (by decide)).symm.trans q))
      hb := fun q => h.hb ((upd_ne f (by decide)).symm.trans q)
      v6 := fun q => by
        obtain ⟨v, base, g1, g2, g3, g4⟩ := h.v6 ((upd_ne f (by decide)).symm.trans q)
        exact ⟨v, base, (gt_ne _ _ _ _ _ (by decide)).trans g1, g2, g3, fun q => g4 ((upd_ne f (by decide)).symm.trans q)⟩
      v9 := fun q => by
        obtain ⟨b1, g1, g2⟩ := h.v9 ((upd_ne f (by decide)).symm.trans q)
        exact ⟨b1, (gt_ne _ _ _ _ _ (by decide)).trans g1, fun q => g2 ((upd_ne f (by decide)).symm.trans q)⟩
      v10 := fun q => by
        obtain ⟨v', g1, g2⟩ := h.v10 ((upd_ne f (by decide)).symm.trans q)
        exact ⟨v', (gt_ne _ _ _ _ _ (by decide)).trans g1, fun q => g2 ((upd_ne f (by decide)).symm.trans q)⟩
      v14 := fun q => h.v14 ((upd_ne f (by decide)).symm.trans q) }
set_option maxHeartbeats 1000000 in
theorem ra_6 {w0 W wd w : World} {q : Nat} {P : AP} {part e st : Int} {vR : Value} {regs : List ByteArray} {r : ByteArray} {o : Obj} {b : Nat} {s : Obj} {f : Nat → Bool} {a a0 : Act} {K : Act → World → Prop} {Q : Exit → Act → World → Prop} (o' : Oper) (hop : o'.op = .call { callee := .value (.func 96), args := #[.tmp 96], argTypes := #[37] }) (hd : o'.dst = some 97) (h : RA w0 W wd q P part e st vR regs r o b s f a w a0) (h0 : gt a0 0 = .pointer (some ⟨q, 0, none⟩)) (h4 : gt a0 4 = .pointer (some ⟨W.heap.size, 0, none⟩)) (HS : SC w0 W wd q P part e st vR regs o b s) (hx : ∃ c0 c1 c3 c4 c5 c6 t, o = .cells #[c0, c1, .string r, c3, c4, c5, c6] t (0, 0)) (hq : q < W.heap.size) (hqb : W.heap.size ≤ b) (hrl : regs.length ≤ 1000) (hf : f 6 = false) (d5 : f 5 = true)
    (hK : ∀ a' w', RA w0 W wd q P part e st vR regs r o b s (upd f 6) a' w' a0 → K a' w') : o'.wp Try.prog a w K Q := by
  have e := h.v5 d5
  have n10 : f 10 = false := by
    by_cases e : f 10 = true
    · exact absurd (h.c10_6 e) (by rw [hf]; decide)
    · simpa using e
  have n14 : f 14 = false := by
    by_cases e : f 14 = true
    · exact absurd (h.c14_10 e) (by rw [n10]; decide)
    · simpa using e
  obtain ⟨Ar, cr, rfl, hcr, hfar⟩ := HS.sb.r
  have hbw := h.hb n14
  unfold Oper.wp
  simp [execOp, hop, hd, e, go_sem]
  refine (cloneS _ Ar cr regs (hfar _ (Chg.of_below hbw)) hrl).mono ?_
  rintro r9 wv ⟨vv, rfl, hv1, hv2⟩
  refine hK _ _ ?_
  exact {
      sz := by rw [Array.size_setIfInBounds]; exact h.sz
      z0 := h.z0
      df := h.df
      sl := fun j hj => (gt_ne _ _ _ _ _ (by omega)).trans (h.sl j hj)
      v0 := fun q => (gt_ne _ _ _ _ _ (by decide)).trans (h.v0 ((upd_ne f (by decide)).symm.trans q))
      v1 := fun q => (gt_ne _ _ _ _ _ (by decide)).trans (h.v1 ((upd_ne f (by decide)).symm.trans q))
      v2 := fun q => (gt_ne _ _ _ _ _ (by decide)).trans (h.v2 ((upd_ne f (by decide)).symm.trans q))
      v3 := fun q => (gt_ne _ _ _ _ _ (by decide)).trans (h.v3 ((upd_ne f (by decide)).symm.trans q))
      v4 := fun q => (gt_ne _ _ _ _ _ (by decide)).trans (h.v4 ((upd_ne f (by decide)).symm.trans q))
      v5 := fun q => (gt_ne _ _ _ _ _ (by decide)).trans (h.v5 ((upd_ne f (by decide)).symm.trans q))
      v7 := fun q => (gt_ne _ _ _ _ _ (by decide)).trans (h.v7 ((upd_ne f (by decide)).symm.trans q))
      v8 := fun q => (gt_ne _ _ _ _ _ (by decide)).trans (h.v8 ((upd_ne f (by decide)).symm.trans q))
      v11 := fun q => (gt_ne _ _ _ _ _ (by decide)).trans (h.v11 ((upd_ne f (by decide)).symm.trans q))
      v12 := fun q => (gt_ne _ _ _ _ _ (by decide)).trans (h.v12 ((upd_ne f (by decide)).symm.trans q))
      v13 := fun q => (gt_ne _ _ _ _ _ (by decide)).trans (h.v13 ((upd_ne f (by decide)).symm.trans q))
      c14_10 := fun q => (upd_ne f (by decide)).trans (h.c14_10 ((upd_ne f (by decide)).symm.trans q))
      c10_6 := fun _ => upd_eq f 6
      c10_9 := fun q => (upd_ne f (by decide)).trans (h.c10_9 ((upd_ne f (by decide)).symm.trans q))
      c6_5 := fun _ => (upd_ne f (by decide)).trans d5
      c9_8 := fun q => (upd_ne f (by decide)).trans (h.c9_8 ((upd_ne f (by decide)).symm.trans q))
      hb := fun q => below_step hbw hv2
      v6 := fun q => ⟨vv, w.heap.size, gt_eq _ _ _ _ (by rw [h.sz, h.z0]; decide), hbw.size, hv2.size, fun _ => hv1⟩
      v9 := fun q => by
        obtain ⟨b1, g1, g2⟩ := h.v9 ((upd_ne f (by decide)).symm.trans q)
        exact ⟨b1, (gt_ne _ _ _ _ _ (by decide)).trans g1, fun q => blk_below (g2 ((upd_ne f (by decide)).symm.trans q)) hv2⟩
      v10 := fun q => absurd ((upd_ne f (by decide)).symm.trans q) (by rw [n10]; decide)
      v14 := fun q => absurd ((upd_ne f (by decide)).symm.trans q) (by rw [n14]; decide) }
set_option maxHeartbeats 1000000 in
theorem ra_7 {w0 W wd w : World} {q : Nat} {P : AP} {part e st : Int} {vR : Value} {regs : List ByteArray} {r : ByteArray} {o : Obj} {b : Nat} {s : Obj} {f : Nat → Bool} {a a0 : Act} {K : Act → World → Prop} {Q : Exit → Act → World → Prop} (o' : Oper) (hop : o'.op = .fieldAddr 55 (.tmp 4) 2) (hd : o'.dst = some 98) (h : RA w0 W wd q P part e st vR regs r o b s f a w a0) (h0 : gt a0 0 = .pointer (some ⟨q, 0, none⟩)) (h4 : gt a0 4 = .pointer (some ⟨W.heap.size, 0, none⟩)) (HS : SC w0 W wd q P part e st vR regs o b s) (hx : ∃ c0 c1 c3 c4 c5 c6 t, o = .cells #[c0, c1, .string r, c3, c4, c5, c6] t (0, 0)) (hq : q < W.heap.size) (hqb : W.heap.size ≤ b) (hrl : regs.length ≤ 1000) (hf : f 7 = false)
    (hK : ∀ a' w', RA w0 W wd q P part e st vR regs r o b s (upd f 7) a' w' a0 → K a' w') : o'.wp Try.prog a w K Q := by
  have e := (h.sl 4 (by decide)).trans h4
  unfold Oper.wp
  simp [execOp, hop, hd, e, go_sem]
  refine hK _ _ ?_
  exact {
      sz := by rw [Array.size_setIfInBounds]; exact h.sz
      z0 := h.z0
      df := h.df
      sl := fun j hj => (gt_ne _ _ _ _ _ (by omega)).trans (h.sl j hj)
      v0 := fun q => (gt_ne _ _ _ _ _ (by decide)).trans (h.v0 ((upd_ne f (by decide)).symm.trans q))
      v1 := fun q => (gt_ne _ _ _ _ _ (by decide)).trans (h.v1 ((upd_ne f (by decide)).symm.trans q))
      v2 := fun q => (gt_ne _ _ _ _ _ (by decide)).trans (h.v2 ((upd_ne f (by decide)).symm.trans q))
      v3 := fun q => (gt_ne _ _ _ _ _ (by decide)).trans (h.v3 ((upd_ne f (by decide)).symm.trans q))
      v4 := fun q => (gt_ne _ _ _ _ _ (by decide)).trans (h.v4 ((upd_ne f (by decide)).symm.trans q))
      v5 := fun q => (gt_ne _ _ _ _ _ (by decide)).trans (h.v5 ((upd_ne f (by decide)).symm.trans q))
      v7 := fun _ => gt_eq _ _ _ _ (by rw [h.sz, h.z0]; decide)
      v8 := fun q => (gt_ne _ _ _ _ _ (by decide)).trans (h.v8 ((upd_ne f (by decide)).symm.trans q))
      v11 := fun q => (gt_ne _ _ _ _ _ (by decide)).trans (h.v11 ((upd_ne f (by decide)).symm.trans q))
      v12 := fun q => (gt_ne _ _ _ _ _ (by decide)).trans (h.v12 ((upd_ne f (by decide)).symm.trans q))
      v13 := fun q => (gt_ne _ _ _ _ _ (by decide)).trans (h.v13 ((upd_ne f (by decide)).symm.trans q))
      c14_10 := fun q => (upd_ne f (by decide)).trans (h.c14_10 ((upd_ne f (by decide)).symm.trans q))
      c10_6 := fun q => (upd_ne f (by decide)).trans (h.c10_6 ((upd_ne f (by decide)).symm.trans q))
      c10_9 := fun q => (upd_ne f (by decide)).trans (h.c10_9 ((upd_ne f (by decide)).symm.trans q))
      c6_5 := fun q => (upd_ne f (by decide)).trans (h.c6_5 ((upd_ne f (by decide)).symm.trans q))
      c9_8 := fun q => (upd_ne f (by decide)).trans (h.c9_8 ((upd_ne f (by decide)).symm.trans q))
      hb := fun q => h.hb ((upd_ne f (by decide)).symm.trans q)
      v6 := fun q => by
        obtain ⟨v, base, g1, g2, g3, g4⟩ := h.v6 ((upd_ne f (by decide)).symm.trans q)
        exact ⟨v, base, (gt_ne _ _ _ _ _ (by decide)).trans g1, g2, g3, fun q => g4 ((upd_ne f (by decide)).symm.trans q)⟩
      v9 := fun q => by
        obtain ⟨b1, g1, g2⟩ := h.v9 ((upd_ne f (by decide)).symm.trans q)
        exact ⟨b1, (gt_ne _ _ _ _ _ (by decide)).trans g1, fun q => g2 ((upd_ne f (by decide)).symm.trans q)⟩
      v10 := fun q => by
        obtain ⟨v', g1, g2⟩ := h.v10 ((upd_ne f (by decide)).symm.trans q)
        exact ⟨v', (gt_ne _ _ _ _ _ (by decide)).trans g1, fun q => g2 ((upd_ne f (by decide)).symm.trans q)⟩
      v14 := fun q => h.v14 ((upd_ne f (by decide)).symm.trans q) }
set_option maxHeartbeats 1000000 in
theorem ra_8 {w0 W wd w : World} {q : Nat} {P : AP} {part e st : Int} {vR : Value} {regs : List ByteArray} {r : ByteArray} {o : Obj} {b : Nat} {s : Obj} {f : Nat → Bool} {a a0 : Act} {K : Act → World → Prop} {Q : Exit → Act → World → Prop} (o' : Oper) (hop : o'.op = .load 9 (.tmp 98)) (hd : o'.dst = some 99) (h : RA w0 W wd q P part e st vR regs r o b s f a w a0) (h0 : gt a0 0 = .pointer (some ⟨q, 0, none⟩)) (h4 : gt a0 4 = .pointer (some ⟨W.heap.size, 0, none⟩)) (HS : SC w0 W wd q P part e st vR regs o b s) (hx : ∃ c0 c1 c3 c4 c5 c6 t, o = .cells #[c0, c1, .string r, c3, c4, c5, c6] t (0, 0)) (hq : q < W.heap.size) (hqb : W.heap.size ≤ b) (hrl : regs.length ≤ 1000) (hf : f 8 = false) (d7 : f 7 = true)
    (hK : ∀ a' w', RA w0 W wd q P part e st vR regs r o b s (upd f 8) a' w' a0 → K a' w') : o'.wp Try.prog a w K Q := by
  have e := h.v7 d7
  have n14 : f 14 = false := by
    by_cases e : f 14 = true
    · exact absurd (h.c9_8 (h.c10_9 (h.c14_10 e))) (by rw [hf]; decide)
    · simpa using e
  have hbw := h.hb n14
  obtain ⟨k0, k1, k3, k4, k5, k6, t, rfl⟩ := hx
  have hc := pw_cell_below hbw ((blk_cell HS.sb.x 2).trans rfl)
  have hl := World.block_lt_of_cell? _ _ hc
  dsimp only at hl
  unfold Oper.wp
  simp [execOp, hop, hd, e, hc, hl, go_sem]
  refine hK _ _ ?_
  exact {
      sz := by rw [Array.size_setIfInBounds]; exact h.sz
      z0 := h.z0
      df := h.df
      sl := fun j hj => (gt_ne _ _ _ _ _ (by omega)).trans (h.sl j hj)
      v0 := fun q => (gt_ne _ _ _ _ _ (by decide)).trans (h.v0 ((upd_ne f (by decide)).symm.trans q))
      v1 := fun q => (gt_ne _ _ _ _ _ (by decide)).trans (h.v1 ((upd_ne f (by decide)).symm.trans q))
      v2 := fun q => (gt_ne _ _ _ _ _ (by decide)).trans (h.v2 ((upd_ne f (by decide)).symm.trans q))
      v3 := fun q => (gt_ne _ _ _ _ _ (by decide)).trans (h.v3 ((upd_ne f (by decide)).symm.trans q))
      v4 := fun q => (gt_ne _ _ _ _ _ (by decide)).trans (h.v4 ((upd_ne f (by decide)).symm.trans q))
      v5 := fun q => (gt_ne _ _ _ _ _ (by decide)).trans (h.v5 ((upd_ne f (by decide)).symm.trans q))
      v7 := fun q => (gt_ne _ _ _ _ _ (by decide)).trans (h.v7 ((upd_ne f (by decide)).symm.trans q))
      v8 := fun _ => gt_eq _ _ _ _ (by rw [h.sz, h.z0]; decide)
      v11 := fun q => (gt_ne _ _ _ _ _ (by decide)).trans (h.v11 ((upd_ne f (by decide)).symm.trans q))
      v12 := fun q => (gt_ne _ _ _ _ _ (by decide)).trans (h.v12 ((upd_ne f (by decide)).symm.trans q))
      v13 := fun q => (gt_ne _ _ _ _ _ (by decide)).trans (h.v13 ((upd_ne f (by decide)).symm.trans q))
      c14_10 := fun q => (upd_ne f (by decide)).trans (h.c14_10 ((upd_ne f (by decide)).symm.trans q))
      c10_6 := fun q => (upd_ne f (by decide)).trans (h.c10_6 ((upd_ne f (by decide)).symm.trans q))
      c10_9 := fun q => (upd_ne f (by decide)).trans (h.c10_9 ((upd_ne f (by decide)).symm.trans q))
      c6_5 := fun q => (upd_ne f (by decide)).trans (h.c6_5 ((upd_ne f (by decide)).symm.trans q))
      c9_8 := fun _ => upd_eq f 8
      hb := fun q => h.hb ((upd_ne f (by decide)).symm.trans q)
      v6 := fun q => by
        obtain ⟨v, base, g1, g2, g3, g4⟩ := h.v6 ((upd_ne f (by decide)).symm.trans q)
        exact ⟨v, base, (gt_ne _ _ _ _ _ (by decide)).trans g1, g2, g3, fun q => g4 ((upd_ne f (by decide)).symm.trans q)⟩
      v9 := fun q => by
        obtain ⟨b1, g1, g2⟩ := h.v9 ((upd_ne f (by decide)).symm.trans q)
        exact ⟨b1, (gt_ne _ _ _ _ _ (by decide)).trans g1, fun q => g2 ((upd_ne f (by decide)).symm.trans q)⟩
      v10 := fun q => by
        obtain ⟨v', g1, g2⟩ := h.v10 ((upd_ne f (by decide)).symm.trans q)
        exact ⟨v', (gt_ne _ _ _ _ _ (by decide)).trans g1, fun q => g2 ((upd_ne f (by decide)).symm.trans q)⟩
      v14 := fun q => h.v14 ((upd_ne f (by decide)).symm.trans q) }
set_option maxHeartbeats 1000000 in
theorem ra_9 {w0 W wd w : World} {q : Nat} {P : AP} {part e st : Int} {vR : Value} {regs : List ByteArray} {r : ByteArray} {o : Obj} {b : Nat} {s : Obj} {f : Nat → Bool} {a a0 : Act} {K : Act → World → Prop} {Q : Exit → Act → World → Prop} (o' : Oper) (hop : o'.op = .buildSlice 37 1 #[(0, .tmp 99)]) (hd : o'.dst = some 100) (h : RA w0 W wd q P part e st vR regs r o b s f a w a0) (h0 : gt a0 0 = .pointer (some ⟨q, 0, none⟩)) (h4 : gt a0 4 = .pointer (some ⟨W.heap.size, 0, none⟩)) (HS : SC w0 W wd q P part e st vR regs o b s) (hx : ∃ c0 c1 c3 c4 c5 c6 t, o = .cells #[c0, c1, .string r, c3, c4, c5, c6] t (0, 0)) (hq : q < W.heap.size) (hqb : W.heap.size ≤ b) (hrl : regs.length ≤ 1000) (hf : f 9 = false) (d8 : f 8 = true)
    (hK : ∀ a' w', RA w0 W wd q P part e st vR regs r o b s (upd f 9) a' w' a0 → K a' w') : o'.wp Try.prog a w K Q := by
  have e := h.v8 d8
  have n10 : f 10 = false := by
    by_cases e : f 10 = true
    · exact absurd (h.c10_9 e) (by rw [hf]; decide)
    · simpa using e
  have n14 : f 14 = false := by
    by_cases e : f 14 = true
    · exact absurd (h.c14_10 e) (by rw [n10]; decide)
    · simpa using e
  unfold Oper.wp
  simp [execOp, hop, hd, e, go_sem]
  refine hK _ _ ?_
  exact {
      sz := by rw [Array.size_setIfInBounds]; exact h.sz
      z0 := h.z0
      df := h.df
      sl := fun j hj => (gt_ne _ _ _ _ _ (by omega)).trans (h.sl j hj)
      v0 := fun q => (gt_ne _ _ _ _ _ (by decide)).trans (h.v0 ((upd_ne f (by decide)).symm.trans q))
      v1 := fun q => (gt_ne _ _ _ _ _ (by decide)).trans (h.v1 ((upd_ne f (by decide)).symm.trans q))
      v2 := fun q => (gt_ne _ _ _ _ _ (by decide)).trans (h.v2 ((upd_ne f (by decide)).symm.trans q))
      v3 := fun q => (gt_ne _ _ _ _ _ (by decide)).trans (h.v3 ((upd_ne f (by decide)).symm.trans q))
      v4 := fun q => (gt_ne _ _ _ _ _ (by decide)).trans (h.v4 ((upd_ne f (by decide)).symm.trans q))
      v5 := fun q => (gt_ne _ _ _ _ _ (by decide)).trans (h.v5 ((upd_ne f (by decide)).symm.trans q))
      v7 := fun q => (gt_ne _ _ _ _ _ (by decide)).trans (h.v7 ((upd_ne f (by decide)).symm.trans q))
      v8 := fun q => (gt_ne _ _ _ _ _ (by decide)).trans (h.v8 ((upd_ne f (by decide)).symm.trans q))
      v11 := fun q => (gt_ne _ _ _ _ _ (by decide)).trans (h.v11 ((upd_ne f (by decide)).symm.trans q))
      v12 := fun q => (gt_ne _ _ _ _ _ (by decide)).trans (h.v12 ((upd_ne f (by decide)).symm.trans q))
      v13 := fun q => (gt_ne _ _ _ _ _ (by decide)).trans (h.v13 ((upd_ne f (by decide)).symm.trans q))
      c14_10 := fun q => (upd_ne f (by decide)).trans (h.c14_10 ((upd_ne f (by decide)).symm.trans q))
      c10_6 := fun q => (upd_ne f (by decide)).trans (h.c10_6 ((upd_ne f (by decide)).symm.trans q))
      c10_9 := fun _ => upd_eq f 9
      c6_5 := fun q => (upd_ne f (by decide)).trans (h.c6_5 ((upd_ne f (by decide)).symm.trans q))
      c9_8 := fun _ => (upd_ne f (by decide)).trans d8
      hb := fun q => below_alloc (h.hb n14) _
      v6 := fun q => by
        obtain ⟨v, base, g1, g2, g3, g4⟩ := h.v6 ((upd_ne f (by decide)).symm.trans q)
        exact ⟨v, base, (gt_ne _ _ _ _ _ (by decide)).trans g1, g2, by rw [World.size_alloc]; omega, fun q => pw_own_below (g4 ((upd_ne f (by decide)).symm.trans q)) (below_alloc (Below.refl _ _) _)⟩
      v9 := fun _ => ⟨w.heap.size, gt_eq _ _ _ _ (by rw [h.sz, h.z0]; decide), fun _ => blk_new w _⟩
      v10 := fun q => absurd ((upd_ne f (by decide)).symm.trans q) (by rw [n10]; decide)
      v14 := fun q => absurd ((upd_ne f (by decide)).symm.trans q) (by rw [n14]; decide) }
set_option maxHeartbeats 1000000 in
theorem ra_10 {w0 W wd w : World} {q : Nat} {P : AP} {part e st : Int} {vR : Value} {regs : List ByteArray} {r : ByteArray} {o : Obj} {b : Nat} {s : Obj} {f : Nat → Bool} {a a0 : Act} {K : Act → World → Prop} {Q : Exit → Act → World → Prop} (o' : Oper) (hop : o'.op = .call { callee := .builtin .append, args := #[.tmp 97, .tmp 100], argTypes := #[37, 37] }) (hd : o'.dst = some 101) (h : RA w0 W wd q P part e st vR regs r o b s f a w a0) (h0 : gt a0 0 = .pointer (some ⟨q, 0, none⟩)) (h4 : gt a0 4 = .pointer (some ⟨W.heap.size, 0, none⟩)) (HS : SC w0 W wd q P part e st vR regs o b s) (hx : ∃ c0 c1 c3 c4 c5 c6 t, o = .cells #[c0, c1, .string r, c3, c4, c5, c6] t (0, 0)) (hq : q < W.heap.size) (hqb : W.heap.size ≤ b) (hrl : regs.length ≤ 1000) (hf : f 10 = false) (d6 : f 6 = true) (d9 : f 9 = true)
    (hK : ∀ a' w', RA w0 W wd q P part e st vR regs r o b s (upd f 10) a' w' a0 → K a' w') : o'.wp Try.prog a w K Q := by
  have n14 : f 14 = false := by
    by_cases e : f 14 = true
    · exact absurd (h.c14_10 e) (by rw [hf]; decide)
    · simpa using e
  obtain ⟨v, base, g1, g2, g3, g4⟩ := h.v6 d6
  obtain ⟨b1, g5, g6⟩ := h.v9 d9
  have hbw := h.hb n14
  have hstep := step_append_str (ops := #[]) (o := { o' with guard := none }) (a := a) (w := w) (K := K) (Q := Q) (E := True) rfl (.tmp 97) (.tmp 100) hop base v regs r (by simpa [Act.eval] using g1) (g4 hf) b1 (by simpa [Act.eval] using g5) (g6 hf) (by omega) g3 ?_
  · have hw : Region.wanted { o' with guard := none } (yielded #[] a.tmps) = true := by simp [Region.wanted]
    rw [if_pos hw] at hstep
    exact hstep
  intro v' wa h1 h2 h3
  show K (a.put o'.dst v') wa
  rw [hd]
  have hsc := stm_add HS hq hqb hbw g2 (g4 hf) h1 h2
  have hqo : some q ≠ v.ownBlock := own_ne (g4 hf) (blk_below HS.sb.a.blk hbw) (by decide)
  have hqb2 := blk_grown (blk_below HS.sb.a.blk hbw) h2 hqo
  have hc13 := (blk_cell hqb2 13).trans rfl
  have hf13 := blk_frozen hqb2 13
  simp only [Act.put]
  refine hK _ _ ?_
  have hwa : Below wd.heap.size wd wa := hbw.trans (Chg.below (Chg.grown (F := fun k => some k = v.ownBlock) h2 (fun k hk => hk.symm)) hbw.size (fun k hk => by have := ((g4 hf).lt k hk.symm).1; omega))
  exact {
      sz := by rw [Array.size_setIfInBounds]; exact h.sz
      z0 := h.z0
      df := h.df
      sl := fun j hj => (gt_ne _ _ _ _ _ (by omega)).trans (h.sl j hj)
      v0 := fun q => (gt_ne _ _ _ _ _ (by decide)).trans (h.v0 ((upd_ne f (by decide)).symm.trans q))
      v1 := fun q => (gt_ne _ _ _ _ _ (by decide)).trans (h.v1 ((upd_ne f (by decide)).symm.trans q))
      v2 := fun q => (gt_ne _ _ _ _ _ (by decide)).trans (h.v2 ((upd_ne f (by decide)).symm.trans q))
      v3 := fun q => (gt_ne _ _ _ _ _ (by decide)).trans (h.v3 ((upd_ne f (by decide)).symm.trans q))
      v4 := fun q => (gt_ne _ _ _ _ _ (by decide)).trans (h.v4 ((upd_ne f (by decide)).symm.trans q))
      v5 := fun q => (gt_ne _ _ _ _ _ (by decide)).trans (h.v5 ((upd_ne f (by decide)).symm.trans q))
      v7 := fun q => (gt_ne _ _ _ _ _ (by decide)).trans (h.v7 ((upd_ne f (by decide)).symm.trans q))
      v8 := fun q => (gt_ne _ _ _ _ _ (by decide)).trans (h.v8 ((upd_ne f (by decide)).symm.trans q))
      v11 := fun q => (gt_ne _ _ _ _ _ (by decide)).trans (h.v11 ((upd_ne f (by decide)).symm.trans q))
      v12 := fun q => (gt_ne _ _ _ _ _ (by decide)).trans (h.v12 ((upd_ne f (by decide)).symm.trans q))
      v13 := fun q => (gt_ne _ _ _ _ _ (by decide)).trans (h.v13 ((upd_ne f (by decide)).symm.trans q))
      c14_10 := fun _ => upd_eq f 10
      c10_6 := fun _ => (upd_ne f (by decide)).trans d6
      c10_9 := fun _ => (upd_ne f (by decide)).trans d9
      c6_5 := fun q => (upd_ne f (by decide)).trans (h.c6_5 ((upd_ne f (by decide)).symm.trans q))
      c9_8 := fun q => (upd_ne f (by decide)).trans (h.c9_8 ((upd_ne f (by decide)).symm.trans q))
      hb := fun q => hwa
      v6 := fun q => ⟨v, base, (gt_ne _ _ _ _ _ (by decide)).trans g1, g2, by have := h2.size; omega, fun q => absurd ((upd_eq f 10).symm.trans q) (by decide)⟩
      v9 := fun q => ⟨b1, (gt_ne _ _ _ _ _ (by decide)).trans g5, fun q => absurd ((upd_eq f 10).symm.trans q) (by decide)⟩
      v10 := fun q => ⟨v', gt_eq _ _ _ _ (by rw [h.sz, h.z0]; decide), fun _ => ⟨hsc, hc13, hf13⟩⟩
      v14 := fun q => absurd ((upd_ne f (by decide)).symm.trans q) (by rw [n14]; decide) }
set_option maxHeartbeats 1000000 in
theorem ra_11 {w0 W wd w : World} {q : Nat} {P : AP} {part e st : Int} {vR : Value} {regs : List ByteArray} {r : ByteArray} {o : Obj} {b : Nat} {s : Obj} {f : Nat → Bool} {a a0 : Act} {K : Act → World → Prop} {Q : Exit → Act → World → Prop} (o' : Oper) (hop : o'.op = .nilCheck (.tmp 91)) (hd : o'.dst = some 102) (h : RA w0 W wd q P part e st vR regs r o b s f a w a0) (h0 : gt a0 0 = .pointer (some ⟨q, 0, none⟩)) (h4 : gt a0 4 = .pointer (some ⟨W.heap.size, 0, none⟩)) (HS : SC w0 W wd q P part e st vR regs o b s) (hx : ∃ c0 c1 c3 c4 c5 c6 t, o = .cells #[c0, c1, .string r, c3, c4, c5, c6] t (0, 0)) (hq : q < W.heap.size) (hqb : W.heap.size ≤ b) (hrl : regs.length ≤ 1000) (hf : f 11 = false) (d0 : f 0 = true)
    (hK : ∀ a' w', RA w0 W wd q P part e st vR regs r o b s (upd f 11) a' w' a0 → K a' w') : o'.wp Try.prog a w K Q := by
  have e := h.v0 d0
  unfold Oper.wp
  simp [execOp, hop, hd, e, go_sem]
  refine hK _ _ ?_
  exact {
      sz := by rw [Array.size_setIfInBounds]; exact h.sz
      z0 := h.z0
      df := h.df
      sl := fun j hj => (gt_ne _ _ _ _ _ (by omega)).trans (h.sl j hj)
      v0 := fun q => (gt_ne _ _ _ _ _ (by decide)).trans (h.v0 ((upd_ne f (by decide)).symm.trans q))
      v1 := fun q => (gt_ne _ _ _ _ _ (by decide)).trans (h.v1 ((upd_ne f (by decide)).symm.trans q))
      v2 := fun q => (gt_ne _ _ _ _ _ (by decide)).trans (h.v2 ((upd_ne f (by decide)).symm.trans q))
      v3 := fun q => (gt_ne _ _ _ _ _ (by decide)).trans (h.v3 ((upd_ne f (by decide)).symm.trans q))
      v4 := fun q => (gt_ne _ _ _ _ _ (by decide)).trans (h.v4 ((upd_ne f (by decide)).symm.trans q))
      v5 := fun q => (gt_ne _ _ _ _ _ (by decide)).trans (h.v5 ((upd_ne f (by decide)).symm.trans q))
      v7 := fun q => (gt_ne _ _ _ _ _ (by decide)).trans (h.v7 ((upd_ne f (by decide)).symm.trans q))
      v8 := fun q => (gt_ne _ _ _ _ _ (by decide)).trans (h.v8 ((upd_ne f (by decide)).symm.trans q))
      v11 := fun _ => gt_eq _ _ _ _ (by rw [h.sz, h.z0]; decide)
      v12 := fun q => (gt_ne _ _ _ _ _ (by decide)).trans (h.v12 ((upd_ne f (by decide)).symm.trans q))
      v13 := fun q => (gt_ne _ _ _ _ _ (by decide)).trans (h.v13 ((upd_ne f (by decide)).symm.trans q))
      c14_10 := fun q => (upd_ne f (by decide)).trans (h.c14_10 ((upd_ne f (by decide)).symm.trans q))
      c10_6 := fun q => (upd_ne f (by decide)).trans (h.c10_6 ((upd_ne f (by decide)).symm.trans q))
      c10_9 := fun q => (upd_ne f (by decide)).trans (h.c10_9 ((upd_ne f (by decide)).symm.trans q))
      c6_5 := fun q => (upd_ne f (by decide)).trans (h.c6_5 ((upd_ne f (by decide)).symm.trans q))
      c9_8 := fun q => (upd_ne f (by decide)).trans (h.c9_8 ((upd_ne f (by decide)).symm.trans q))
      hb := fun q => h.hb ((upd_ne f (by decide)).symm.trans q)
      v6 := fun q => by
        obtain ⟨v, base, g1, g2, g3, g4⟩ := h.v6 ((upd_ne f (by decide)).symm.trans q)
        exact ⟨v, base, (gt_ne _ _ _ _ _ (by decide)).trans g1, g2, g3, fun q => g4 ((upd_ne f (by decide)).symm.trans q)⟩
      v9 := fun q => by
        obtain ⟨b1, g1, g2⟩ := h.v9 ((upd_ne f (by decide)).symm.trans q)
        exact ⟨b1, (gt_ne _ _ _ _ _ (by decide)).trans g1, fun q => g2 ((upd_ne f (by decide)).symm.trans q)⟩
      v10 := fun q => by
        obtain ⟨v', g1, g2⟩ := h.v10 ((upd_ne f (by decide)).symm.trans q)
        exact ⟨v', (gt_ne _ _ _ _ _ (by decide)).trans g1, fun q => g2 ((upd_ne f (by decide)).symm.trans q)⟩
      v14 := fun q => h.v14 ((upd_ne f (by decide)).symm.trans q) }
set_option maxHeartbeats 1000000 in
theorem ra_12 {w0 W wd w : World} {q : Nat} {P : AP} {part e st : Int} {vR : Value} {regs : List ByteArray} {r : ByteArray} {o : Obj} {b : Nat} {s : Obj} {f : Nat → Bool} {a a0 : Act} {K : Act → World → Prop} {Q : Exit → Act → World → Prop} (o' : Oper) (hop : o'.op = .fieldAddr 68 (.tmp 102) 3) (hd : o'.dst = some 103) (h : RA w0 W wd q P part e st vR regs r o b s f a w a0) (h0 : gt a0 0 = .pointer (some ⟨q, 0, none⟩)) (h4 : gt a0 4 = .pointer (some ⟨W.heap.size, 0, none⟩)) (HS : SC w0 W wd q P part e st vR regs o b s) (hx : ∃ c0 c1 c3 c4 c5 c6 t, o = .cells #[c0, c1, .string r, c3, c4, c5, c6] t (0, 0)) (hq : q < W.heap.size) (hqb : W.heap.size ≤ b) (hrl : regs.length ≤ 1000) (hf : f 12 = false) (d11 : f 11 = true)
    (hK : ∀ a' w', RA w0 W wd q P part e st vR regs r o b s (upd f 12) a' w' a0 → K a' w') : o'.wp Try.prog a w K Q := by
  have e := h.v11 d11
  unfold Oper.wp
  simp [execOp, hop, hd, e, go_sem]
  refine hK _ _ ?_
  exact {
      sz := by rw [Array.size_setIfInBounds]; exact h.sz
      z0 := h.z0
      df := h.df
      sl := fun j hj => (gt_ne _ _ _ _ _ (by omega)).trans (h.sl j hj)
      v0 := fun q => (gt_ne _ _ _ _ _ (by decide)).trans (h.v0 ((upd_ne f (by decide)).symm.trans q))
      v1 := fun q => (gt_ne _ _ _ _ _ (by decide)).trans (h.v1 ((upd_ne f (by decide)).symm.trans q))
      v2 := fun q => (gt_ne _ _ _ _ _ (by decide)).trans (h.v2 ((upd_ne f (by decide)).symm.trans q))
      v3 := fun q => (gt_ne _ _ _ _ _ (by decide)).trans (h.v3 ((upd_ne f (by decide)).symm.trans q))
      v4 := fun q => (gt_ne _ _ _ _ _ (by decide)).trans (h.v4 ((upd_ne f (by decide)).symm.trans q))
      v5 := fun q => (gt_ne _ _ _ _ _ (by decide)).trans (h.v5 ((upd_ne f (by decide)).symm.trans q))
      v7 := fun q => (gt_ne _ _ _ _ _ (by decide)).trans (h.v7 ((upd_ne f (by decide)).symm.trans q))
      v8 := fun q => (gt_ne _ _ _ _ _ (by decide)).trans (h.v8 ((upd_ne f (by decide)).symm.trans q))
      v11 := fun q => (gt_ne _ _ _ _ _ (by decide)).trans (h.v11 ((upd_ne f (by decide)).symm.trans q))
      v12 := fun _ => gt_eq _ _ _ _ (by rw [h.sz, h.z0]; decide)
      v13 := fun q => (gt_ne _ _ _ _ _ (by decide)).trans (h.v13 ((upd_ne f (by decide)).symm.trans q))
      c14_10 := fun q => (upd_ne f (by decide)).trans (h.c14_10 ((upd_ne f (by decide)).symm.trans q))
      c10_6 := fun q => (upd_ne f (by decide)).trans (h.c10_6 ((upd_ne f (by decide)).symm.trans q))
      c10_9 := fun q => (upd_ne f (by decide)).trans (h.c10_9 ((upd_ne f (by decide)).symm.trans q))
      c6_5 := fun q => (upd_ne f (by decide)).trans (h.c6_5 ((upd_ne f (by decide)).symm.trans q))
      c9_8 := fun q => (upd_ne f (by decide)).trans (h.c9_8 ((upd_ne f (by decide)).symm.trans q))
      hb := fun q => h.hb ((upd_ne f (by decide)).symm.trans q)
      v6 := fun q => by
        obtain ⟨v, base, g1, g2, g3, g4⟩ := h.v6 ((upd_ne f (by decide)).symm.trans q)
        exact ⟨v, base, (gt_ne _ _ _ _ _ (by decide)).trans g1, g2, g3, fun q => g4 ((upd_ne f (by decide)).symm.trans q)⟩
      v9 := fun q => by
        obtain ⟨b1, g1, g2⟩ := h.v9 ((upd_ne f (by decide)).symm.trans q)
        exact ⟨b1, (gt_ne _ _ _ _ _ (by decide)).trans g1, fun q => g2 ((upd_ne f (by decide)).symm.trans q)⟩
      v10 := fun q => by
        obtain ⟨v', g1, g2⟩ := h.v10 ((upd_ne f (by decide)).symm.trans q)
        exact ⟨v', (gt_ne _ _ _ _ _ (by decide)).trans g1, fun q => g2 ((upd_ne f (by decide)).symm.trans q)⟩
      v14 := fun q => h.v14 ((upd_ne f (by decide)).symm.trans q) }
set_option maxHeartbeats 1000000 in
theorem ra_13 {w0 W wd w : World} {q : Nat} {P : AP} {part e st : Int} {vR : Value} {regs : List ByteArray} {r : ByteArray} {o : Obj} {b : Nat} {s : Obj} {f : Nat → Bool} {a a0 : Act} {K : Act → World → Prop} {Q : Exit → Act → World → Prop} (o' : Oper) (hop : o'.op = .fieldAddr 66 (.tmp 103) 1) (hd : o'.dst = some 104) (h : RA w0 W wd q P part e st vR regs r o b s f a w a0) (h0 : gt a0 0 = .pointer (some ⟨q, 0, none⟩)) (h4 : gt a0 4 = .pointer (some ⟨W.heap.size, 0, none⟩)) (HS : SC w0 W wd q P part e st vR regs o b s) (hx : ∃ c0 c1 c3 c4 c5 c6 t, o = .cells #[c0, c1, .string r, c3, c4, c5, c6] t (0, 0)) (hq : q < W.heap.size) (hqb : W.heap.size ≤ b) (hrl : regs.length ≤ 1000) (hf : f 13 = false) (d12 : f 12 = true)
    (hK : ∀ a' w', RA w0 W wd q P part e st vR regs r o b s (upd f 13) a' w' a0 → K a' w') : o'.wp Try.prog a w K Q := by
  have e := h.v12 d12
  unfold Oper.wp
  simp [execOp, hop, hd, e, go_sem]
  refine hK _ _ ?_
  exact {
      sz := by rw [Array.size_setIfInBounds]; exact h.sz
      z0 := h.z0
      df := h.df
      sl := fun j hj => (gt_ne _ _ _ _ _ (by omega)).trans (h.sl j hj)
      v0 := fun q => (gt_ne _ _ _ _ _ (by decide)).trans (h.v0 ((upd_ne f (by decide)).symm.trans q))
      v1 := fun q => (gt_ne _ _ _ _ _ (by decide)).trans (h.v1 ((upd_ne f (by decide)).symm.trans q))
      v2 := fun q => (gt_ne _ _ _ _ _ (by decide)).trans (h.v2 ((upd_ne f (by decide)).symm.trans q))
      v3 := fun q => (gt_ne _ _ _ _ _ (by decide)).trans (h.v3 ((upd_ne f (by decide)).symm.trans q))
      v4 := fun q => (gt_ne _ _ _ _ _ (by decide)).trans (h.v4 ((upd_ne f (by decide)).symm.trans q))
      v5 := fun q => (gt_ne _ _ _ _ _ (by decide)).trans (h.v5 ((upd_ne f (by decide)).symm.trans q))
      v7 := fun q => (gt_ne _ _ _ _ _ (by decide)).trans (h.v7 ((upd_ne f (by decide)).symm.trans q))
      v8 := fun q => (gt_ne _ _ _ _ _ (by decide)).trans (h.v8 ((upd_ne f (by decide)).symm.trans q))
      v11 := fun q => (gt_ne _ _ _ _ _ (by decide)).trans (h.v11 ((upd_ne f (by decide)).symm.trans q))
      v12 := fun q => (gt_ne _ _ _ _ _ (by decide)).trans (h.v12 ((upd_ne f (by decide)).symm.trans q))
      v13 := fun _ => gt_eq _ _ _ _ (by rw [h.sz, h.z0]; decide)
      c14_10 := fun q => (upd_ne f (by decide)).trans (h.c14_10 ((upd_ne f (by decide)).symm.trans q))
      c10_6 := fun q => (upd_ne f (by decide)).trans (h.c10_6 ((upd_ne f (by decide)).symm.trans q))
      c10_9 := fun q => (upd_ne f (by decide)).trans (h.c10_9 ((upd_ne f (by decide)).symm.trans q))
      c6_5 := fun q => (upd_ne f (by decide)).trans (h.c6_5 ((upd_ne f (by decide)).symm.trans q))
      c9_8 := fun q => (upd_ne f (by decide)).trans (h.c9_8 ((upd_ne f (by decide)).symm.trans q))
      hb := fun q => h.hb ((upd_ne f (by decide)).symm.trans q)
      v6 := fun q => by
        obtain ⟨v, base, g1, g2, g3, g4⟩ := h.v6 ((upd_ne f (by decide)).symm.trans q)
        exact ⟨v, base, (gt_ne _ _ _ _ _ (by decide)).trans g1, g2, g3, fun q => g4 ((upd_ne f (by decide)).symm.trans q)⟩
      v9 := fun q => by
        obtain ⟨b1, g1, g2⟩ := h.v9 ((upd_ne f (by decide)).symm.trans q)
        exact ⟨b1, (gt_ne _ _ _ _ _ (by decide)).trans g1, fun q => g2 ((upd_ne f (by decide)).symm.trans q)⟩
      v10 := fun q => by
        obtain ⟨v', g1, g2⟩ := h.v10 ((upd_ne f (by decide)).symm.trans q)
        exact ⟨v', (gt_ne _ _ _ _ _ (by decide)).trans g1, fun q => g2 ((upd_ne f (by decide)).symm.trans q)⟩
      v14 := fun q => h.v14 ((upd_ne f (by decide)).symm.trans q) }
set_option maxHeartbeats 1000000 in
theorem ra_14 {w0 W wd w : World} {q : Nat} {P : AP} {part e st : Int} {vR : Value} {regs : List ByteArray} {r : ByteArray} {o : Obj} {b : Nat} {s : Obj} {f : Nat → Bool} {a a0 : Act} {K : Act → World → Prop} {Q : Exit → Act → World → Prop} (o' : Oper) (hop : o'.op = .store 37 (.tmp 104) (.tmp 101)) (hd : o'.dst = none) (h : RA w0 W wd q P part e st vR regs r o b s f a w a0) (h0 : gt a0 0 = .pointer (some ⟨q, 0, none⟩)) (h4 : gt a0 4 = .pointer (some ⟨W.heap.size, 0, none⟩)) (HS : SC w0 W wd q P part e st vR regs o b s) (hx : ∃ c0 c1 c3 c4 c5 c6 t, o = .cells #[c0, c1, .string r, c3, c4, c5, c6] t (0, 0)) (hq : q < W.heap.size) (hqb : W.heap.size ≤ b) (hrl : regs.length ≤ 1000) (hf : f 14 = false) (d13 : f 13 = true) (d10 : f 10 = true)
    (hK : ∀ a' w', RA w0 W wd q P part e st vR regs r o b s (upd f 14) a' w' a0 → K a' w') : o'.wp Try.prog a w K Q := by
  have e := h.v13 d13
  obtain ⟨v', e2, g⟩ := h.v10 d10
  obtain ⟨g1, g2, g3⟩ := g hf
  have hl := World.block_lt_of_cell? _ _ g2
  dsimp only at hl
  obtain ⟨A1, c1, hv, -, -⟩ := g1.sb.r
  subst hv
  unfold Oper.wp
  simp [execOp, hop, hd, e, e2, g2, g3, hl, go_sem]
  simp only [List.length_append, List.length_cons, List.length_nil, Nat.zero_add] at g1
  refine hK _ _ ?_
  exact {
      sz := h.sz
      z0 := h.z0
      df := h.df
      sl := h.sl
      v0 := fun q => h.v0 ((upd_ne f (by decide)).symm.trans q)
      v1 := fun q => h.v1 ((upd_ne f (by decide)).symm.trans q)
      v2 := fun q => h.v2 ((upd_ne f (by decide)).symm.trans q)
      v3 := fun q => h.v3 ((upd_ne f (by decide)).symm.trans q)
      v4 := fun q => h.v4 ((upd_ne f (by decide)).symm.trans q)
      v5 := fun q => h.v5 ((upd_ne f (by decide)).symm.trans q)
      v7 := fun q => h.v7 ((upd_ne f (by decide)).symm.trans q)
      v8 := fun q => h.v8 ((upd_ne f (by decide)).symm.trans q)
      v11 := fun q => h.v11 ((upd_ne f (by decide)).symm.trans q)
      v12 := fun q => h.v12 ((upd_ne f (by decide)).symm.trans q)
      v13 := fun q => h.v13 ((upd_ne f (by decide)).symm.trans q)
      c14_10 := fun _ => (upd_ne f (by decide)).trans d10
      c10_6 := fun q => (upd_ne f (by decide)).trans (h.c10_6 ((upd_ne f (by decide)).symm.trans q))
      c10_9 := fun q => (upd_ne f (by decide)).trans (h.c10_9 ((upd_ne f (by decide)).symm.trans q))
      c6_5 := fun q => (upd_ne f (by decide)).trans (h.c6_5 ((upd_ne f (by decide)).symm.trans q))
      c9_8 := fun q => (upd_ne f (by decide)).trans (h.c9_8 ((upd_ne f (by decide)).symm.trans q))
      hb := fun q => absurd ((upd_eq f 14).symm.trans q) (by decide)
      v6 := fun q => by
        obtain ⟨v, base, k1, k2, k3, k4⟩ := h.v6 ((upd_ne f (by decide)).symm.trans q)
        exact ⟨v, base, k1, k2, by rw [World.size_setCell]; exact k3, fun q => absurd ((upd_ne f (show 10 ≠ 14 by decide)).symm.trans q) (by rw [d10]; decide)⟩
      v9 := fun q => by
        obtain ⟨b1, k1, k2⟩ := h.v9 ((upd_ne f (by decide)).symm.trans q)
        exact ⟨b1, k1, fun q => absurd ((upd_ne f (show 10 ≠ 14 by decide)).symm.trans q) (by rw [d10]; decide)⟩
      v10 := fun q => ⟨_, e2, fun q => absurd ((upd_eq f 14).symm.trans q) (by decide)⟩
      v14 := fun _ => ⟨_, g1⟩ }
end Go.Proofs.Ytlhbnbckanmaiaa.K
namespace Go.Proofs.Ytlhbnbckanmaiaa.K
open Go Go.RowKit Go.Proofs.YtlhbnbckanmaiaaW.PrintWords Go.Proofs.YtlhbnbckanmaiaaW.PrintLast Go.Proofs.YtlhbnbckanmaiaaW.PrintMore Go.Proofs.Ytlhbnbckanmaiaa.PC1
set_option linter.unusedVariables false
set_option linter.unusedSimpArgs false
theorem SC.ex {w0 W wx : World} {q : Nat} {P : AP} {part e st : Int} {vR : Value} {regs : List ByteArray} {o : Obj} {b : Nat} {s : Obj} (h : SC w0 W wx q P part e st vR regs o b s) : ∃ e', Aside0 (SC w0 W wx q P part e' st vR regs o b s) ∧ e' = e := ⟨e, ⟨h⟩, rfl⟩
theorem modes_len (k : Int) : (modesF k).length ≤ 1000 := by
  unfold modesF
  (repeat' split) <;> decide
/-- What a statement leaves. -/
def Stmted (w0 W : World) (q : Nat) (P : AP) (part e st : Int) (regs : List ByteArray) (r : Ending) (W' : World) : Prop := ∃ vR, Asked w0 W q P part e st vR r W' ∧ RegsAt q W' vR regs
set_option maxHeartbeats 8000000 in
set_option maxRecDepth 100000 in
theorem stmt_walk (w0 W : World) (q : Nat) (P : AP) (part e st : Int) (vR : Value) (regs : List ByteArray) (h : AS w0 W q P part e st vR) (hR : RegsAt q W vR regs) (hrl : regs.length ≤ 1000) (k m : Int) (r l : ByteArray) (args : List TExpr) (A4 A5 A6 : Option Addr) (c4 c5 c6 tl el : Nat) (deep : Int)
    (hC : Kd.C kExpr w0 A4 args.length args) (hr : r.size ≤ 1000) (hl : l.size ≤ 1000) (hal : args.length ≤ 1000) (hsa : smEs args) :
    Calls Try.prog 72 #[.pointer (some ⟨q, 0, none⟩), .agg #[.int .i64 k, .int .i64 m, .string r, .string l, .slice A4 args.length c4, .slice A5 tl c5, .slice A6 el c6], .int .i64 deep] W (Stmted w0 W q P part (argsE P.vals regs (st5 P k l (st4 P k regs r (st3 k tl el (st2 k m args.length (st1 st deep e))))) args) st (regsOf k regs r)) := by
  obtain ⟨Ar, cr, rfl, hcr, hfr⟩ := hR
  have hR : RegsAt q W (.slice Ar regs.length cr) regs := ⟨Ar, cr, rfl, hcr, hfr⟩
  have HFR := Aside0.mk hfr
  clear hfr
  have HCR := Aside0.mk hcr
  clear hcr
  have HF := Aside0.mk (And.intro hC (And.intro hr (And.intro hl (And.intro hal (And.intro hsa hrl)))))
  have hb := below_alloc (Below.refl W.heap.size W) (.cells #[.int .i64 k, .int .i64 m, .string r, .string l, .slice A4 args.length c4, .slice A5 tl c5, .slice A6 el c6] 55 (0, 0))
  have HS := Aside0.mk (SB.quiet (wx := W.alloc (.cells #[.int .i64 k, .int .i64 m, .string r, .string l, .slice A4 args.length c4, .slice A5 tl c5, .slice A6 el c6] 55 (0, 0))) ⟨h.step hb, Chg.of_below hb, blk_new W _, hR.step (Chg.of_below hb)⟩ (Below.refl _ _))
  have hq := h.lt
  have c12 := h.cells.2.2.2.2.2.2.2.2.2.2.2.2.1
  clear hC hr hl hal hsa hrl hb h hR
  go_enter Try.func72, Try.ntmps72
  go_upto_region 1 with fail
  go_cut [] (fun wx => Aside0 (SB w0 W wx q P part (st1 st deep e) st (.slice Ar regs.length cr) regs (.cells #[.int .i64 k, .int .i64 m, .string r, .string l, .slice A4 args.length c4, .slice A5 tl c5, .slice A6 el c6] 55 (0, 0))))
  case first =>
    by_cases d1 : st ≤ 16
    · have e1 : decide (st ≤ 16) = true := decide_eq_true d1
      go_wp2_with fail
      refine (need w0 _ q P _ _ _ _ HS.out.a _ _).mono ?_
      rintro r w1 hA
      obtain rfl := hA.ret
      have HT := Aside0.mk (HS.out.asked hq hA)
      clear hA
      go_wp2
      go_meet
      exact ⟨HT.out.to (by unfold st1; rw [e1]; simp)⟩
    · have e1 : decide (st ≤ 16) = false := decide_eq_false d1
      go_wp2_with fail
      refine (need w0 _ q P _ _ _ _ HS.out.a _ _).mono ?_
      rintro r w1 hA
      obtain rfl := hA.ret
      have HT := Aside0.mk (HS.out.asked hq hA)
      clear hA
      go_wp2
      go_meet
      exact ⟨HT.out.to (by unfold st1; rw [e1]; simp)⟩
  case rest =>
    have HS1 := hcut
    clear hcut HS c12
    have x0 := (blk_cell HS1.out.x 0).trans rfl
    go_wp2_with fail
    refine (shape_any _ k).mono ?_
    rintro e2 w2 ⟨Am, cm, rfl, hmC, hml, hb⟩
    have HS2 := Aside0.mk (HS1.out.quiet hb)
    have HMM := Aside0.mk (And.intro hmC hml)
    have hqw : q < w2.heap.size := HS2.out.a.lt
    have hWw : W.heap.size ≤ w2.heap.size := by have := HS2.out.c.size; omega
    clear x0 hb hmC hml HS1
    obtain ⟨ok, hok⟩ : ∃ x, okF k = x := ⟨_, rfl⟩
    obtain ⟨rg, hrg⟩ : ∃ x, regF k = x := ⟨_, rfl⟩
    obtain ⟨lc, hlc⟩ : ∃ x, locF k = x := ⟨_, rfl⟩
    obtain ⟨bd, hbd⟩ : ∃ x, bodyF k = x := ⟨_, rfl⟩
    rw [hok, hrg, hlc, hbd]
    have HK := Aside0.mk (And.intro hok (And.intro hrg (And.intro hlc hbd)))
    clear hok hrg hlc hbd
    go_upto_region 3 with fail
    have HS3 := Aside0.mk (SC.mk (HS2.out.quiet (below_alloc (Below.refl _ _) (.cells #[.slice Am (modesF k).length cm, .int .i64 (argsF k), .bool rg, .bool lc, .bool bd] 104 (0, 0)))) (blk_new w2 (.cells #[.slice Am (modesF k).length cm, .int .i64 (argsF k), .bool rg, .bool lc, .bool bd] 104 (0, 0))))
    have x1 := (blk_cell HS3.out.sb.x 1).trans rfl
    have x4 := (blk_cell HS3.out.sb.x 4).trans rfl
    have y0 := (blk_cell HS3.out.y 0).trans rfl
    have y1 := (blk_cell HS3.out.y 1).trans rfl
    have hmC := Aside0.mk (Kd.C_alloc HMM.out.1 (.cells #[.slice Am (modesF k).length cm, .int .i64 (argsF k), .bool rg, .bool lc, .bool bd] 104 (0, 0)))
    have hml : (modesF k).length ≤ 1000 := modes_len k
    have HW := Aside0.mk hWw
    generalize w2.heap.size = b6 at hqw hWw HW HS3 y0 y1 ⊢
    clear hqw HS2
    go_cut [] (fun wx => Aside0 (SC w0 W wx q P part (st2 k m args.length (st1 st deep e)) st (.slice Ar regs.length cr) regs (.cells #[.int .i64 k, .int .i64 m, .string r, .string l, .slice A4 args.length c4, .slice A5 tl c5, .slice A6 el c6] 55 (0, 0)) b6 (.cells #[.slice Am (modesF k).length cm, .int .i64 (argsF k), .bool rg, .bool lc, .bool bd] 104 (0, 0))))
    case first =>
      cases ok with
      | true =>
        by_cases d2 : hasI (modesF k) m = true
        · have e2 := d2
          have D := Aside0.mk (And.intro HK.out.1 d2)
          clear d2
          go_wp2_with fail
          refine (hasI_any (modesF k) Am cm m _ hmC.out HMM.out.2 hml).mono ?_
          rintro r9 w4 ⟨rfl, hb⟩
          have HS4 := Aside0.mk (HS3.out.quiet hb)
          clear x1 x4 y0 y1 hb
          have x4 := (blk_cell HS4.out.sb.x 4).trans rfl
          have y1 := (blk_cell HS4.out.y 1).trans rfl
          rw [e2]
          clear e2
          go_wp2_with fail
          refine (need w0 _ q P _ _ _ _ HS4.out.sb.a _ _).mono ?_
          rintro r9 w3 hA
          obtain rfl := hA.ret
          have HT := Aside0.mk (HS4.out.asked hq (by omega) hA)
          clear hA
          go_wp2
          go_meet
          exact ⟨HT.out.to (by unfold st2; rw [D.out.1, D.out.2]; simp)⟩
        · have e2 := Bool.eq_false_iff.mpr d2
          have D := Aside0.mk (And.intro HK.out.1 e2)
          clear d2
          go_wp2_with fail
          refine (hasI_any (modesF k) Am cm m _ hmC.out HMM.out.2 hml).mono ?_
          rintro r9 w4 ⟨rfl, hb⟩
          have HS4 := Aside0.mk (HS3.out.quiet hb)
          clear x1 x4 y0 y1 hb
          rw [e2]
          clear e2
          go_wp2_with fail
          refine (need w0 _ q P _ _ _ _ HS4.out.sb.a _ _).mono ?_
          rintro r9 w3 hA
          obtain rfl := hA.ret
          have HT := Aside0.mk (HS4.out.asked hq (by omega) hA)
          clear hA
          go_wp2
          go_meet
          exact ⟨HT.out.to (by unfold st2; rw [D.out.1, D.out.2]; simp)⟩
      | false =>
        have D := Aside0.mk HK.out.1
        go_wp2_with fail
        refine (need w0 _ q P _ _ _ _ HS3.out.sb.a _ _).mono ?_
        rintro r9 w3 hA
        obtain rfl := hA.ret
        have HT := Aside0.mk (HS3.out.asked hq (by omega) hA)
        clear hA
        go_wp2
        go_meet
        exact ⟨HT.out.to (by unfold st2; rw [D.out]; simp)⟩
    case rest =>
      have HS5 := hcut
      clear hcut HS3 x1 x4 y0 y1 HMM hmC hml
      go_upto_region 4 with fail
      have x5 := (blk_cell HS5.out.sb.x 5).trans rfl
      have x6 := (blk_cell HS5.out.sb.x 6).trans rfl
      have y4 := (blk_cell HS5.out.y 4).trans rfl
      go_cut [] (fun wx => Aside0 (SC w0 W wx q P part (st3 k tl el (st2 k m args.length (st1 st deep e))) st (.slice Ar regs.length cr) regs (.cells #[.int .i64 k, .int .i64 m, .string r, .string l, .slice A4 args.length c4, .slice A5 tl c5, .slice A6 el c6] 55 (0, 0)) b6 (.cells #[.slice Am (modesF k).length cm, .int .i64 (argsF k), .bool rg, .bool lc, .bool bd] 104 (0, 0))))
      case first =>
        cases bd with
        | true =>
          go_wp2_with fail
          refine (need w0 _ q P _ _ _ _ HS5.out.sb.a _ _).mono ?_
          rintro r9 w3 hA
          obtain rfl := hA.ret
          have HT := Aside0.mk (HS5.out.asked hq (by omega) hA)
          clear hA
          go_wp2
          go_meet
          exact ⟨HT.out.to (by unfold st3; rw [HK.out.2.2.2]; simp)⟩
        | false =>
          by_cases d1 : tl = 0
          · have e1 : (tl == 0) = true := beq_iff_eq.2 d1
            have e2 : ((tl : Int) == 0) = true := by simpa using d1
            have D := Aside0.mk d1
            clear d1
            go_wp2_with fail
            refine (need w0 _ q P _ _ _ _ HS5.out.sb.a _ _).mono ?_
            rintro r9 w3 hA
            obtain rfl := hA.ret
            have HT := Aside0.mk (HS5.out.asked hq (by omega) hA)
            clear hA
            go_wp2
            go_meet
            exact ⟨HT.out.to (by unfold st3; rw [HK.out.2.2.2]; simp [D.out])⟩
          · have e1 : (tl == 0) = false := beq_eq_false_iff_ne.2 d1
            have e2 : ((tl : Int) == 0) = false := by simpa using d1
            have D := Aside0.mk d1
            clear d1
            go_wp2_with fail
            refine (need w0 _ q P _ _ _ _ HS5.out.sb.a _ _).mono ?_
            rintro r9 w3 hA
            obtain rfl := hA.ret
            have HT := Aside0.mk (HS5.out.asked hq (by omega) hA)
            clear hA
            go_wp2
            go_meet
            exact ⟨HT.out.to (by unfold st3; rw [HK.out.2.2.2]; simp [D.out])⟩
      case rest =>
        have HS5 := hcut
        clear hcut x5 x6 y4
        have c13 := HS5.out.sb.a.cells.2.2.2.2.2.2.2.2.2.2.2.2.2
        have y2 := (blk_cell HS5.out.y 2).trans rfl
        go_upto_if 69 with fail
        go_cut [] (fun wx => ∃ vR, Aside0 (SC w0 W wx q P part (st4 P k regs r (st3 k tl el (st2 k m args.length (st1 st deep e)))) st vR (regsOf k regs r) (.cells #[.int .i64 k, .int .i64 m, .string r, .string l, .slice A4 args.length c4, .slice A5 tl c5, .slice A6 el c6] 55 (0, 0)) b6 (.cells #[.slice Am (modesF k).length cm, .int .i64 (argsF k), .bool rg, .bool lc, .bool bd] 104 (0, 0))))
        case first =>
          cases rg with
          | false =>
            have x2 := (blk_cell HS5.out.sb.x 2).trans rfl
            go_wp2_with fail
            refine (need w0 _ q P _ _ _ _ HS5.out.sb.a _ _).mono ?_
            rintro r9 w8 hA
            obtain rfl := hA.ret
            have HT := Aside0.mk (HS5.out.asked hq (by omega) hA)
            clear hA
            go_wp2
            go_meet
            have hro : regsOf k regs r = regs := by unfold regsOf; rw [HK.out.2.1]; simp
            exact ⟨_, ⟨by rw [hro]; exact HT.out.to (by unfold st4; rw [HK.out.2.1]; simp)⟩⟩
          | true =>
            have x2 := (blk_cell HS5.out.sb.x 2).trans rfl
            clear c13
            go_wp2_with fail
            refine (name_any r HF.out.2.1 _).mono ?_
            rintro r9 w5 ⟨rfl, hb⟩
            replace HS5 := Aside0.mk (HS5.out.quiet hb)
            clear x2 hb y2
            have x2 := (blk_cell HS5.out.sb.x 2).trans rfl
            cases hn : nameB r with
            | false =>
              have HN := Aside0.mk hn
              clear hn
              go_wp2_with fail
              refine (need w0 _ q P _ _ _ _ HS5.out.sb.a _ _).mono ?_
              rintro r9 w6 hA
              obtain rfl := hA.ret
              have HS6 := Aside0.mk (HS5.out.asked hq (by omega) hA)
              clear hA
              obtain ⟨Aq, cq, hv, hcq, hfar⟩ := HS6.out.sb.r
              have hC1 := hfar.now
              injection hv with hv1 hv2 hv3
              subst hv1 hv3
              clear hfar
              have c13 := HS6.out.sb.a.cells.2.2.2.2.2.2.2.2.2.2.2.2.2
              have x2 := (blk_cell HS6.out.sb.x 2).trans rfl
              have hcon : ∀ m, Calls Try.prog 52 #[.slice Ar regs.length cr, .string r] (w6.drewN m) fun e w' => e = .returned (.bool (hasB regs r)) ∧ ∃ n, w' = (w6.drewN m).drewN n := fun m =>
                (slices_Contains_string_string.calls 1002 Ar cr regs r _ _ (Kd.C_drewN hC1 _) hcq (by rw [contains_str regs r HF.out.2.2.2.2.2])).mono fun _ _ ⟨h1, ⟨n, h2⟩⟩ => ⟨h1, n, h2⟩
              have HC1 := Aside0.mk (And.intro hC1 hcon)
              clear hC1 hcon hcq
              have hx1 := World.block_lt_of_cell? _ _ c13
              have hx2 := World.block_lt_of_cell? _ _ x2
              dsimp only at hx1 hx2
              go_wp2
              go_quiet ((go_at_call 52; exact Calls.quiet_of (HC1.out.2 _)))
              cases hh : hasB regs r with
              | true =>
                have HH := Aside0.mk hh
                clear hh
                have HS7 := Aside0.mk (HS6.out.quiet (pw_below_drewN (Below.refl _ _) nq))
                clear c13 x2 hx1 hx2
                have c13 := HS7.out.sb.a.cells.2.2.2.2.2.2.2.2.2.2.2.2.2
                go_wp2_with fail
                refine (need w0 _ q P _ _ _ _ HS7.out.sb.a _ _).mono ?_
                rintro r9 w8 hA
                obtain rfl := hA.ret
                have HT := Aside0.mk (HS7.out.asked hq (by omega) hA)
                clear hA
                go_wp2
                go_meet
                have hro : regsOf k regs r = regs := by unfold regsOf addR; rw [HK.out.2.1, HH.out]; simp
                have hra : addR regs r = regs := by unfold addR; rw [HH.out]; simp
                exact ⟨_, ⟨by rw [hro]; exact HT.out.to (by unfold st4; rw [HK.out.2.1, hra, HN.out]; simp)⟩⟩
              | false =>
                have HH := Aside0.mk hh
                clear hh
                have HS7 := Aside0.mk (HS6.out.quiet (pw_below_drewN (Below.refl _ _) nq))
                clear c13 x2 hx1 hx2
                go_wp2_with fail
                have hb7 := HS7.out
                generalize w6.drewN nq = wd at HS7 hb7 ⊢
                clear hb7
                obtain ⟨e7, HS8, he7⟩ := SC.ex (HS7.out.quiet (below_drew (Below.refl _ _)))
                have HE7 := Aside0.mk he7
                clear he7 HS7
                refine wp_region_any (by kernel_rfl) ?_
                refine wpAny_inv3 rfl (by kernel_rfl) (fun a0 f a w => RA w0 W wd.drew q P part e7 st (.slice Ar regs.length cr) regs r (.cells #[.int .i64 k, .int .i64 m, .string r, .string l, .slice A4 args.length c4, .slice A5 tl c5, .slice A6 el c6] 55 (0, 0)) b6 (.cells #[.slice Am (modesF k).length cm, .int .i64 (argsF k), .bool true, .bool lc, .bool bd] 104 (0, 0)) f a w a0) ?_ ?_ _ _ (by simp) (by decide) ?_
                · rintro f a w i o r9 hI ho hr9 hf hd K hK
                  have hi : i < 15 := (Array.getElem?_eq_some_iff.1 ho).1
                  have hr2 := rtab_some (md := .any) ho
                  rw [hr9] at hr2
                  obtain rfl := Option.some.inj hr2
                  clear hr9 hr2
                  have hxx : ∃ c0 c1 c3 c4' c5' c6' t, ((.cells #[.int .i64 k, .int .i64 m, .string r, .string l, .slice A4 args.length c4, .slice A5 tl c5, .slice A6 el c6] 55 (0, 0)) : Obj) = .cells #[c0, c1, .string r, c3, c4', c5', c6'] t (0, 0) := ⟨_, _, _, _, _, _, _, rfl⟩
                  match i, hi with
                  | 0, _ =>
                    obtain rfl := Option.some.inj ho
                    exact want_yes rfl (ra_0 _ rfl rfl hI rfl rfl HS8.out hxx hq (by omega) HF.out.2.2.2.2.2 hf  hK)
                  | 1, _ =>
                    obtain rfl := Option.some.inj ho
                    exact want_yes rfl (ra_1 _ rfl rfl hI rfl rfl HS8.out hxx hq (by omega) HF.out.2.2.2.2.2 hf  hK)
                  | 2, _ =>
                    obtain rfl := Option.some.inj ho
                    have d1 : f 1 = true := List.all_eq_true.1 hd 1 (of_decide_eq_true (by kernel_rfl))
                    exact want_yes rfl (ra_2 _ rfl rfl hI rfl rfl HS8.out hxx hq (by omega) HF.out.2.2.2.2.2 hf d1 hK)
                  | 3, _ =>
                    obtain rfl := Option.some.inj ho
                    have d2 : f 2 = true := List.all_eq_true.1 hd 2 (of_decide_eq_true (by kernel_rfl))
                    exact want_yes rfl (ra_3 _ rfl rfl hI rfl rfl HS8.out hxx hq (by omega) HF.out.2.2.2.2.2 hf d2 hK)
                  | 4, _ =>
                    obtain rfl := Option.some.inj ho
                    have d3 : f 3 = true := List.all_eq_true.1 hd 3 (of_decide_eq_true (by kernel_rfl))
                    exact want_yes rfl (ra_4 _ rfl rfl hI rfl rfl HS8.out hxx hq (by omega) HF.out.2.2.2.2.2 hf d3 hK)
                  | 5, _ =>
                    obtain rfl := Option.some.inj ho
                    have d4 : f 4 = true := List.all_eq_true.1 hd 4 (of_decide_eq_true (by kernel_rfl))
                    exact want_yes rfl (ra_5 _ rfl rfl hI rfl rfl HS8.out hxx hq (by omega) HF.out.2.2.2.2.2 hf d4 hK)
                  | 6, _ =>
                    obtain rfl := Option.some.inj ho
                    have d5 : f 5 = true := List.all_eq_true.1 hd 5 (of_decide_eq_true (by kernel_rfl))
                    exact want_yes rfl (ra_6 _ rfl rfl hI rfl rfl HS8.out hxx hq (by omega) HF.out.2.2.2.2.2 hf d5 hK)
                  | 7, _ =>
                    obtain rfl := Option.some.inj ho
                    exact want_yes rfl (ra_7 _ rfl rfl hI rfl rfl HS8.out hxx hq (by omega) HF.out.2.2.2.2.2 hf  hK)
                  | 8, _ =>
                    obtain rfl := Option.some.inj ho
                    have d7 : f 7 = true := List.all_eq_true.1 hd 7 (of_decide_eq_true (by kernel_rfl))
                    exact want_yes rfl (ra_8 _ rfl rfl hI rfl rfl HS8.out hxx hq (by omega) HF.out.2.2.2.2.2 hf d7 hK)
                  | 9, _ =>
                    obtain rfl := Option.some.inj ho
                    have d8 : f 8 = true := List.all_eq_true.1 hd 8 (of_decide_eq_true (by kernel_rfl))
                    exact want_yes rfl (ra_9 _ rfl rfl hI rfl rfl HS8.out hxx hq (by omega) HF.out.2.2.2.2.2 hf d8 hK)
                  | 10, _ =>
                    obtain rfl := Option.some.inj ho
                    have d6 : f 6 = true := List.all_eq_true.1 hd 6 (of_decide_eq_true (by kernel_rfl))
                    have d9 : f 9 = true := List.all_eq_true.1 hd 9 (of_decide_eq_true (by kernel_rfl))
                    exact want_yes rfl (ra_10 _ rfl rfl hI rfl rfl HS8.out hxx hq (by omega) HF.out.2.2.2.2.2 hf d6 d9 hK)
                  | 11, _ =>
                    obtain rfl := Option.some.inj ho
                    have d0 : f 0 = true := List.all_eq_true.1 hd 0 (of_decide_eq_true (by kernel_rfl))
                    exact want_yes rfl (ra_11 _ rfl rfl hI rfl rfl HS8.out hxx hq (by omega) HF.out.2.2.2.2.2 hf d0 hK)
                  | 12, _ =>
                    obtain rfl := Option.some.inj ho
                    have d11 : f 11 = true := List.all_eq_true.1 hd 11 (of_decide_eq_true (by kernel_rfl))
                    exact want_yes rfl (ra_12 _ rfl rfl hI rfl rfl HS8.out hxx hq (by omega) HF.out.2.2.2.2.2 hf d11 hK)
                  | 13, _ =>
                    obtain rfl := Option.some.inj ho
                    have d12 : f 12 = true := List.all_eq_true.1 hd 12 (of_decide_eq_true (by kernel_rfl))
                    exact want_yes rfl (ra_13 _ rfl rfl hI rfl rfl HS8.out hxx hq (by omega) HF.out.2.2.2.2.2 hf d12 hK)
                  | 14, _ =>
                    obtain rfl := Option.some.inj ho
                    have d13 : f 13 = true := List.all_eq_true.1 hd 13 (of_decide_eq_true (by kernel_rfl))
                    have d10 : f 10 = true := List.all_eq_true.1 hd 10 (of_decide_eq_true (by kernel_rfl))
                    exact want_yes rfl (ra_14 _ rfl rfl hI rfl rfl HS8.out hxx hq (by omega) HF.out.2.2.2.2.2 hf d13 d10 hK)
                · rintro f a w hI hall
                  obtain ⟨v', g⟩ := hI.v14 (hall 14 (by decide))
                  have ha := act_range a _ 91 14 hI.sz hI.sl
                  have hdf := hI.df
                  obtain ⟨t, ds⟩ := a
                  simp only at ha hdf
                  subst hdf
                  rw [ha]
                  have HS9 := Aside0.mk g
                  clear hI hall g ha HS8
                  generalize gt _ 91 = z91
                  simp only [List.range, List.range.loop, List.foldl_cons, List.foldl_nil, List.setIfInBounds_toArray, List.set_cons_zero, List.set_cons_succ, Nat.reduceAdd]
                  obtain ⟨A1, c1, hv, -, -⟩ := HS9.out.sb.r
                  subst hv
                  have c13 := HS9.out.sb.a.cells.2.2.2.2.2.2.2.2.2.2.2.2.2
                  go_wp2_with fail
                  refine (need w0 _ q P _ _ _ _ HS9.out.sb.a _ _).mono ?_
                  rintro r9 w8 hA
                  obtain rfl := hA.ret
                  have HT := Aside0.mk (HS9.out.asked hq (by omega) hA)
                  clear hA
                  go_wp2
                  go_meet
                  have hra : addR regs r = regs ++ [r] := by unfold addR; rw [HH.out]; simp
                  have hro : regsOf k regs r = regs ++ [r] := by unfold regsOf; rw [HK.out.2.1, hra]; simp
                  exact ⟨_, ⟨by rw [hro]; exact HT.out.to (by unfold st4; rw [HK.out.2.1, hra, HE7.out, HN.out]; simp)⟩⟩
                · have hno : ∀ j, flag (Array.replicate 15 false) j = false := fun j => by
                    unfold flag
                    by_cases hj : j < 15 <;> simp [hj]
                  exact { sz := rfl, z0 := rfl, df := rfl, sl := fun j _ => rfl, hb := fun _ => Below.refl _ _, v0 := fun q => absurd (q.symm.trans (hno _)) (by decide), v1 := fun q => absurd (q.symm.trans (hno _)) (by decide), v2 := fun q => absurd (q.symm.trans (hno _)) (by decide), v3 := fun q => absurd (q.symm.trans (hno _)) (by decide), v4 := fun q => absurd (q.symm.trans (hno _)) (by decide), v5 := fun q => absurd (q.symm.trans (hno _)) (by decide), v7 := fun q => absurd (q.symm.trans (hno _)) (by decide), v8 := fun q => absurd (q.symm.trans (hno _)) (by decide), v11 := fun q => absurd (q.symm.trans (hno _)) (by decide), v12 := fun q => absurd (q.symm.trans (hno _)) (by decide), v13 := fun q => absurd (q.symm.trans (hno _)) (by decide), v6 := fun q => absurd (q.symm.trans (hno _)) (by decide), v9 := fun q => absurd (q.symm.trans (hno _)) (by decide), v10 := fun q => absurd (q.symm.trans (hno _)) (by decide), v14 := fun q => absurd (q.symm.trans (hno _)) (by decide), c14_10 := fun q => absurd (q.symm.trans (hno _)) (by decide), c10_6 := fun q => absurd (q.symm.trans (hno _)) (by decide), c10_9 := fun q => absurd (q.symm.trans (hno _)) (by decide), c6_5 := fun q => absurd (q.symm.trans (hno _)) (by decide), c9_8 := fun q => absurd (q.symm.trans (hno _)) (by decide) }
            | true =>
              have HN := Aside0.mk hn
              clear hn
              go_wp2_with fail
              refine (loc w0 _ q P _ _ _ _ HS5.out.sb.a r).mono ?_
              rintro r9 w6a ⟨rfl, hb⟩
              replace HS5 := Aside0.mk (HS5.out.quiet hb)
              clear x2 hb
              go_wp2_with fail
              refine (need w0 _ q P _ _ _ _ HS5.out.sb.a _ _).mono ?_
              rintro r9 w6 hA
              obtain rfl := hA.ret
              have HS6 := Aside0.mk (HS5.out.asked hq (by omega) hA)
              clear hA
              obtain ⟨Aq, cq, hv, hcq, hfar⟩ := HS6.out.sb.r
              have hC1 := hfar.now
              injection hv with hv1 hv2 hv3
              subst hv1 hv3
              clear hfar
              have c13 := HS6.out.sb.a.cells.2.2.2.2.2.2.2.2.2.2.2.2.2
              have x2 := (blk_cell HS6.out.sb.x 2).trans rfl
              have hcon : ∀ m, Calls Try.prog 52 #[.slice Ar regs.length cr, .string r] (w6.drewN m) fun e w' => e = .returned (.bool (hasB regs r)) ∧ ∃ n, w' = (w6.drewN m).drewN n := fun m =>
                (slices_Contains_string_string.calls 1002 Ar cr regs r _ _ (Kd.C_drewN hC1 _) hcq (by rw [contains_str regs r HF.out.2.2.2.2.2])).mono fun _ _ ⟨h1, ⟨n, h2⟩⟩ => ⟨h1, n, h2⟩
              have HC1 := Aside0.mk (And.intro hC1 hcon)
              clear hC1 hcon hcq
              have hx1 := World.block_lt_of_cell? _ _ c13
              have hx2 := World.block_lt_of_cell? _ _ x2
              dsimp only at hx1 hx2
              go_wp2
              go_quiet ((go_at_call 52; exact Calls.quiet_of (HC1.out.2 _)))
              cases hh : hasB regs r with
              | true =>
                have HH := Aside0.mk hh
                clear hh
                have HS7 := Aside0.mk (HS6.out.quiet (pw_below_drewN (Below.refl _ _) nq))
                clear c13 x2 hx1 hx2
                have c13 := HS7.out.sb.a.cells.2.2.2.2.2.2.2.2.2.2.2.2.2
                go_wp2_with fail
                refine (need w0 _ q P _ _ _ _ HS7.out.sb.a _ _).mono ?_
                rintro r9 w8 hA
                obtain rfl := hA.ret
                have HT := Aside0.mk (HS7.out.asked hq (by omega) hA)
                clear hA
                go_wp2
                go_meet
                have hro : regsOf k regs r = regs := by unfold regsOf addR; rw [HK.out.2.1, HH.out]; simp
                have hra : addR regs r = regs := by unfold addR; rw [HH.out]; simp
                exact ⟨_, ⟨by rw [hro]; exact HT.out.to (by unfold st4; rw [HK.out.2.1, hra, HN.out]; simp)⟩⟩
              | false =>
                have HH := Aside0.mk hh
                clear hh
                have HS7 := Aside0.mk (HS6.out.quiet (pw_below_drewN (Below.refl _ _) nq))
                clear c13 x2 hx1 hx2
                go_wp2_with fail
                have hb7 := HS7.out
                generalize w6.drewN nq = wd at HS7 hb7 ⊢
                clear hb7
                obtain ⟨e7, HS8, he7⟩ := SC.ex (HS7.out.quiet (below_drew (Below.refl _ _)))
                have HE7 := Aside0.mk he7
                clear he7 HS7
                refine wp_region_any (by kernel_rfl) ?_
                refine wpAny_inv3 rfl (by kernel_rfl) (fun a0 f a w => RA w0 W wd.drew q P part e7 st (.slice Ar regs.length cr) regs r (.cells #[.int .i64 k, .int .i64 m, .string r, .string l, .slice A4 args.length c4, .slice A5 tl c5, .slice A6 el c6] 55 (0, 0)) b6 (.cells #[.slice Am (modesF k).length cm, .int .i64 (argsF k), .bool true, .bool lc, .bool bd] 104 (0, 0)) f a w a0) ?_ ?_ _ _ (by simp) (by decide) ?_
                · rintro f a w i o r9 hI ho hr9 hf hd K hK
                  have hi : i < 15 := (Array.getElem?_eq_some_iff.1 ho).1
                  have hr2 := rtab_some (md := .any) ho
                  rw [hr9] at hr2
                  obtain rfl := Option.some.inj hr2
                  clear hr9 hr2
                  have hxx : ∃ c0 c1 c3 c4' c5' c6' t, ((.cells #[.int .i64 k, .int .i64 m, .string r, .string l, .slice A4 args.length c4, .slice A5 tl c5, .slice A6 el c6] 55 (0, 0)) : Obj) = .cells #[c0, c1, .string r, c3, c4', c5', c6'] t (0, 0) := ⟨_, _, _, _, _, _, _, rfl⟩
                  match i, hi with
                  | 0, _ =>
                    obtain rfl := Option.some.inj ho
                    exact want_yes rfl (ra_0 _ rfl rfl hI rfl rfl HS8.out hxx hq (by omega) HF.out.2.2.2.2.2 hf  hK)
                  | 1, _ =>
                    obtain rfl := Option.some.inj ho
                    exact want_yes rfl (ra_1 _ rfl rfl hI rfl rfl HS8.out hxx hq (by omega) HF.out.2.2.2.2.2 hf  hK)
                  | 2, _ =>
                    obtain rfl := Option.some.inj ho
                    have d1 : f 1 = true := List.all_eq_true.1 hd 1 (of_decide_eq_true (by kernel_rfl))
                    exact want_yes rfl (ra_2 _ rfl rfl hI rfl rfl HS8.out hxx hq (by omega) HF.out.2.2.2.2.2 hf d1 hK)
                  | 3, _ =>
                    obtain rfl := Option.some.inj ho
                    have d2 : f 2 = true := List.all_eq_true.1 hd 2 (of_decide_eq_true (by kernel_rfl))
                    exact want_yes rfl (ra_3 _ rfl rfl hI rfl rfl HS8.out hxx hq (by omega) HF.out.2.2.2.2.2 hf d2 hK)
                  | 4, _ =>
                    obtain rfl := Option.some.inj ho
                    have d3 : f 3 = true := List.all_eq_true.1 hd 3 (of_decide_eq_true (by kernel_rfl))
                    exact want_yes rfl (ra_4 _ rfl rfl hI rfl rfl HS8.out hxx hq (by omega) HF.out.2.2.2.2.2 hf d3 hK)
                  | 5, _ =>
                    obtain rfl := Option.some.inj ho
                    have d4 : f 4 = true := List.all_eq_true.1 hd 4 (of_decide_eq_true (by kernel_rfl))
                    exact want_yes rfl (ra_5 _ rfl rfl hI rfl rfl HS8.out hxx hq (by omega) HF.out.2.2.2.2.2 hf d4 hK)
                  | 6, _ =>
                    obtain rfl := Option.some.inj ho
                    have d5 : f 5 = true := List.all_eq_true.1 hd 5 (of_decide_eq_true (by kernel_rfl))
                    exact want_yes rfl (ra_6 _ rfl rfl hI rfl rfl HS8.out hxx hq (by omega) HF.out.2.2.2.2.2 hf d5 hK)
                  | 7, _ =>
                    obtain rfl := Option.some.inj ho
                    exact want_yes rfl (ra_7 _ rfl rfl hI rfl rfl HS8.out hxx hq (by omega) HF.out.2.2.2.2.2 hf  hK)
                  | 8, _ =>
                    obtain rfl := Option.some.inj ho
                    have d7 : f 7 = true := List.all_eq_true.1 hd 7 (of_decide_eq_true (by kernel_rfl))
                    exact want_yes rfl (ra_8 _ rfl rfl hI rfl rfl HS8.out hxx hq (by omega) HF.out.2.2.2.2.2 hf d7 hK)
                  | 9, _ =>
                    obtain rfl := Option.some.inj ho
                    have d8 : f 8 = true := List.all_eq_true.1 hd 8 (of_decide_eq_true (by kernel_rfl))
                    exact want_yes rfl (ra_9 _ rfl rfl hI rfl rfl HS8.out hxx hq (by omega) HF.out.2.2.2.2.2 hf d8 hK)
                  | 10, _ =>
                    obtain rfl := Option.some.inj ho
                    have d6 : f 6 = true := List.all_eq_true.1 hd 6 (of_decide_eq_true (by kernel_rfl))
                    have d9 : f 9 = true := List.all_eq_true.1 hd 9 (of_decide_eq_true (by kernel_rfl))
                    exact want_yes rfl (ra_10 _ rfl rfl hI rfl rfl HS8.out hxx hq (by omega) HF.out.2.2.2.2.2 hf d6 d9 hK)
                  | 11, _ =>
                    obtain rfl := Option.some.inj ho
                    have d0 : f 0 = true := List.all_eq_true.1 hd 0 (of_decide_eq_true (by kernel_rfl))
                    exact want_yes rfl (ra_11 _ rfl rfl hI rfl rfl HS8.out hxx hq (by omega) HF.out.2.2.2.2.2 hf d0 hK)
                  | 12, _ =>
                    obtain rfl := Option.some.inj ho
                    have d11 : f 11 = true := List.all_eq_true.1 hd 11 (of_decide_eq_true (by kernel_rfl))
                    exact want_yes rfl (ra_12 _ rfl rfl hI rfl rfl HS8.out hxx hq (by omega) HF.out.2.2.2.2.2 hf d11 hK)
                  | 13, _ =>
                    obtain rfl := Option.some.inj ho
                    have d12 : f 12 = true := List.all_eq_true.1 hd 12 (of_decide_eq_true (by kernel_rfl))
                    exact want_yes rfl (ra_13 _ rfl rfl hI rfl rfl HS8.out hxx hq (by omega) HF.out.2.2.2.2.2 hf d12 hK)
                  | 14, _ =>
                    obtain rfl := Option.some.inj ho
                    have d13 : f 13 = true := List.all_eq_true.1 hd 13 (of_decide_eq_true (by kernel_rfl))
                    have d10 : f 10 = true := List.all_eq_true.1 hd 10 (of_decide_eq_true (by kernel_rfl))
                    exact want_yes rfl (ra_14 _ rfl rfl hI rfl rfl HS8.out hxx hq (by omega) HF.out.2.2.2.2.2 hf d13 d10 hK)
                · rintro f a w hI hall
                  obtain ⟨v', g⟩ := hI.v14 (hall 14 (by decide))
                  have ha := act_range a _ 91 14 hI.sz hI.sl
                  have hdf := hI.df
                  obtain ⟨t, ds⟩ := a
                  simp only at ha hdf
                  subst hdf
                  rw [ha]
                  have HS9 := Aside0.mk g
                  clear hI hall g ha HS8
                  generalize gt _ 91 = z91
                  simp only [List.range, List.range.loop, List.foldl_cons, List.foldl_nil, List.setIfInBounds_toArray, List.set_cons_zero, List.set_cons_succ, Nat.reduceAdd]
                  obtain ⟨A1, c1, hv, -, -⟩ := HS9.out.sb.r
                  subst hv
                  have c13 := HS9.out.sb.a.cells.2.2.2.2.2.2.2.2.2.2.2.2.2
                  go_wp2_with fail
                  refine (need w0 _ q P _ _ _ _ HS9.out.sb.a _ _).mono ?_
                  rintro r9 w8 hA
                  obtain rfl := hA.ret
                  have HT := Aside0.mk (HS9.out.asked hq (by omega) hA)
                  clear hA
                  go_wp2
                  go_meet
                  have hra : addR regs r = regs ++ [r] := by unfold addR; rw [HH.out]; simp
                  have hro : regsOf k regs r = regs ++ [r] := by unfold regsOf; rw [HK.out.2.1, hra]; simp
                  exact ⟨_, ⟨by rw [hro]; exact HT.out.to (by unfold st4; rw [HK.out.2.1, hra, HE7.out, HN.out]; simp)⟩⟩
                · have hno : ∀ j, flag (Array.replicate 15 false) j = false := fun j => by
                    unfold flag
                    by_cases hj : j < 15 <;> simp [hj]
                  exact { sz := rfl, z0 := rfl, df := rfl, sl := fun j _ => rfl, hb := fun _ => Below.refl _ _, v0 := fun q => absurd (q.symm.trans (hno _)) (by decide), v1 := fun q => absurd (q.symm.trans (hno _)) (by decide), v2 := fun q => absurd (q.symm.trans (hno _)) (by decide), v3 := fun q => absurd (q.symm.trans (hno _)) (by decide), v4 := fun q => absurd (q.symm.trans (hno _)) (by decide), v5 := fun q => absurd (q.symm.trans (hno _)) (by decide), v7 := fun q => absurd (q.symm.trans (hno _)) (by decide), v8 := fun q => absurd (q.symm.trans (hno _)) (by decide), v11 := fun q => absurd (q.symm.trans (hno _)) (by decide), v12 := fun q => absurd (q.symm.trans (hno _)) (by decide), v13 := fun q => absurd (q.symm.trans (hno _)) (by decide), v6 := fun q => absurd (q.symm.trans (hno _)) (by decide), v9 := fun q => absurd (q.symm.trans (hno _)) (by decide), v10 := fun q => absurd (q.symm.trans (hno _)) (by decide), v14 := fun q => absurd (q.symm.trans (hno _)) (by decide), c14_10 := fun q => absurd (q.symm.trans (hno _)) (by decide), c10_6 := fun q => absurd (q.symm.trans (hno _)) (by decide), c10_9 := fun q => absurd (q.symm.trans (hno _)) (by decide), c6_5 := fun q => absurd (q.symm.trans (hno _)) (by decide), c9_8 := fun q => absurd (q.symm.trans (hno _)) (by decide) }
        case rest =>
          obtain ⟨vR, HS6⟩ := hcut
          clear HS5 c13 y2
          have y3 := (blk_cell HS6.out.y 3).trans rfl
          go_upto_if 120 with fail
          go_cut [] (fun wx => Aside0 (SC w0 W wx q P part (st5 P k l (st4 P k regs r (st3 k tl el (st2 k m args.length (st1 st deep e))))) st vR (regsOf k regs r) (.cells #[.int .i64 k, .int .i64 m, .string r, .string l, .slice A4 args.length c4, .slice A5 tl c5, .slice A6 el c6] 55 (0, 0)) b6 (.cells #[.slice Am (modesF k).length cm, .int .i64 (argsF k), .bool rg, .bool lc, .bool bd] 104 (0, 0))))
          case first =>
            have x3 := (blk_cell HS6.out.sb.x 3).trans rfl
            clear y3
            cases lc with
            | true =>
              go_wp2_with fail
              refine (loc w0 _ q P _ _ _ _ HS6.out.sb.a l).mono ?_
              rintro r9 w6a ⟨rfl, hb⟩
              replace HS6 := Aside0.mk (HS6.out.quiet hb)
              clear x3 hb
              go_wp2_with fail
              refine (need w0 _ q P _ _ _ _ HS6.out.sb.a _ _).mono ?_
              rintro r9 w3 hA
              obtain rfl := hA.ret
              have HT := Aside0.mk (HS6.out.asked hq (by omega) hA)
              clear hA
              go_wp2
              go_meet
              exact ⟨HT.out.to (by unfold st5; rw [HK.out.2.2.1]; simp)⟩
            | false =>
              go_wp2_with fail
              refine (need w0 _ q P _ _ _ _ HS6.out.sb.a _ _).mono ?_
              rintro r9 w3 hA
              obtain rfl := hA.ret
              have HT := Aside0.mk (HS6.out.asked hq (by omega) hA)
              clear hA
              go_wp2
              go_meet
              exact ⟨HT.out.to (by unfold st5; rw [HK.out.2.2.1]; simp)⟩
          case rest =>
            have HS7 := Aside0.mk (And.intro hcut.out.sb.a (And.intro hcut.out.sb.c hcut.out.sb.r))
            have x4 := (blk_cell hcut.out.sb.x 4).trans rfl
            clear hcut HS6 y3
            have hal : args.length ≤ 1000 := HF.out.2.2.2.1
            obtain ⟨e5, he5⟩ : ∃ e5, e5 = st5 P k l (st4 P k regs r (st3 k tl el (st2 k m args.length (st1 st deep e)))) := ⟨_, rfl⟩
            rw [← he5] at HS7
            have HE5 := Aside0.mk he5
            clear he5
            go_wp2
            go_loopw [135] (fun v135 wr => ∃ i : Nat, i ≤ args.length ∧ v135 = .int .i64 i ∧ Aside0 (AS w0 wr q P part (argsE P.vals regs e5 (args.take i)) st vR ∧ Chg (fun k => k = q) W wr ∧ RegsAt q wr vR (regsOf k regs r))) (fun v135 _ => args.length - (intOf v135).toNat)
            case atStart => exact ⟨0, Nat.zero_le _, rfl, HS7⟩
            case round =>
              clear HS7 x4
              obtain ⟨i, hi, rfl, HS⟩ := hrel
              by_cases hlt : i < args.length
              · have e1' : decide ((i : Int) < (args.length : Int)) = true := decide_eq_true (by omega)
                have e2' : decide (i < args.length) = true := decide_eq_true hlt
                obtain ⟨ad, A3, c3, hA, h0, h1, h2, h3, hl, hk⟩ := at_T57 HF.out.1 (i : Int) (by omega) (by omega)
                have HG := Aside0.mk (And.intro hl (And.intro hk (And.intro (rdE_eq args i hlt) (smEs_get args i hlt HF.out.2.2.2.2.1))))
                clear hl hk
                subst hA
                rw [Int.toNat_natCast] at h0 h1 h2 h3
                replace h0 := pw_cell_below HS.out.1.bel h0
                replace h1 := pw_cell_below HS.out.1.bel h1
                replace h2 := pw_cell_below HS.out.1.bel h2
                replace h3 := pw_cell_below HS.out.1.bel h3
                rw [HG.out.2.2.1] at h0 h1 h2 h3
                have HC3 := Aside0.mk (show Kd.C kExpr w0 A3 args[i].f3.length args[i].f3 ∧ args[i].f3.length ≤ c3 from by have q1 := HG.out.1; have q2 := HG.out.2.1; rw [HG.out.2.2.1] at q1 q2; exact ⟨q2, q1⟩)
                have HSZ := Aside0.mk HG.out.2.2.2
                have HE := Aside0.mk (argsE_take P.vals regs args e5 i hlt)
                have hnq : wr.heap.size ≠ q := by have := HS.out.1.lt; omega
                generalize args[i] = xa at h0 h1 h2 h3 HC3 HSZ HE
                clear HG
                have HX := Aside0.mk (blk_new wr (.cells #[.int .i64 xa.f0, .int .i64 xa.f1, .string xa.f2, .slice A3 xa.f3.length c3] 57 (0, 0)))
                go_wp2_with fail
                refine (depthE 7 (by decide) xa _ A3 c3 (Kd.C_below HC3.out.1 (HS.out.1.step (below_alloc (Below.refl _ _) _)).bel) HC3.out.2 HSZ.out).mono ?_
                rintro r9 w9 ⟨rfl, hb⟩
                have HX9 := Aside0.mk (blk_below HX.out hb)
                have HS9 := Aside0.mk (And.intro (HS.out.1.step (below_step (below_alloc (Below.refl _ _) _) hb)) (And.intro (HS.out.2.1.step (Chg.of_below (below_step (below_alloc (Below.refl _ _) _) hb))) (HS.out.2.2.step (Chg.of_below (below_step (below_alloc (Below.refl _ _) _) hb)))))
                clear h0 h1 h2 h3 hb HX
                go_wp2_with fail
                refine (need w0 _ q P _ _ _ _ HS9.out.1 _ _).mono ?_
                rintro r9 w10 hA
                obtain rfl := hA.ret
                have HX10 := Aside0.mk (hA.chg.heap HX9.out (fun e => hnq e))
                have HS10 := Aside0.mk (And.intro hA.stt (And.intro (HS9.out.2.1.step hA.chg) (HS9.out.2.2.step hA.chg)))
                clear hA HX9
                have z0 := (blk_cell HX10.out 0).trans rfl
                have z1 := (blk_cell HX10.out 1).trans rfl
                have z2 := (blk_cell HX10.out 2).trans rfl
                have z3 := (blk_cell HX10.out 3).trans rfl
                go_wp2_with fail
                refine (expr_any w0 q P part st vR regs (SizeOf.sizeOf xa + 1) xa (Nat.lt_succ_self _) _ _ A3 c3 Ar cr HS10.out.1 HC3.out.1 HSZ.out (HFR.out.step HS10.out.2.1) HCR.out HF.out.2.2.2.2.2).mono ?_
                rintro r9 w11 hA
                obtain rfl := hA.ret
                have HS11 := Aside0.mk (And.intro hA.stt (And.intro (HS10.out.2.1.step hA.chg) (HS10.out.2.2.step hA.chg)))
                clear hA z0 z1 z2 z3
                go_wp2
                go_roundw
                case rel => exact ⟨i + 1, by omega, by go_num, ⟨And.intro (HS11.out.1.to (by rw [HE.out])) HS11.out.2⟩⟩
                case measure => simp [intOf]; omega
              · have e1' : decide ((i : Int) < (args.length : Int)) = false := decide_eq_false (by omega)
                have e2' : decide (i < args.length) = false := decide_eq_false hlt
                obtain rfl : i = args.length := by omega
                go_wp2
                go_end0
                exact ⟨vR, ⟨rfl, HS.out.1.to (by rw [List.take_length, HE5.out]), HS.out.2.1⟩, HS.out.2.2⟩
end Go.Proofs.Ytlhbnbckanmaiaa.K
namespace Go.Proofs.Ytlhbnbckanmaiaa.K
open Go Go.RowKit Go.Proofs.YtlhbnbckanmaiaaW.PrintWords Go.Proofs.YtlhbnbckanmaiaaW.PrintLast Go.Proofs.YtlhbnbckanmaiaaW.PrintMore Go.Proofs.Ytlhbnbckanmaiaa.PC1
set_option linter.unusedVariables false
set_option linter.unusedSimpArgs false
/-- What the asker knows: the part, what is wrong, how many statements of the thread, its registers. -/
structure BS where
  part : Int
  e : Int
  st : Int
  regs : List ByteArray
def stmtS (P : AP) (deep : Int) (s : BS) (x : TStmt) : BS := ⟨s.part + 1, stmtE P (s.st + 1) deep s.regs x s.e, s.st + 1, regsOf x.f0 s.regs x.f2⟩
mutual
def blockS (P : AP) (deep : Int) (s : BS) : TStmt → BS
  | ⟨a, b, c, d, e, t, f⟩ => if s.e ≠ 0 then s else if (stmtS P deep s ⟨a, b, c, d, e, t, f⟩).e ≠ 0 then stmtS P deep s ⟨a, b, c, d, e, t, f⟩ else blockL P (deep + 1) (blockL P (deep + 1) (stmtS P deep s ⟨a, b, c, d, e, t, f⟩) t) f
def blockL (P : AP) (deep : Int) (s : BS) : List TStmt → BS
  | [] => s
  | x :: xs => blockL P deep (blockS P deep s x) xs
end
theorem blockS_def (P : AP) (deep : Int) (s : BS) (x : TStmt) : blockS P deep s x = if s.e ≠ 0 then s else if (stmtS P deep s x).e ≠ 0 then stmtS P deep s x else blockL P (deep + 1) (blockL P (deep + 1) (stmtS P deep s x) x.f5) x.f6 := by
  cases x; rw [blockS]
theorem blockS_err (P : AP) (deep : Int) (s : BS) (x : TStmt) (h : s.e ≠ 0) : blockS P deep s x = s := by rw [blockS_def, if_pos h]
theorem blockL_err (P : AP) (deep : Int) (s : BS) (h : s.e ≠ 0) : ∀ l, blockL P deep s l = s
  | [] => by rw [blockL]
  | x :: xs => by rw [blockL, blockS_err P deep s x h, blockL_err P deep s h xs]
theorem blockL_app (P : AP) (deep : Int) : ∀ (l m : List TStmt) (s : BS), blockL P deep s (l ++ m) = blockL P deep (blockL P deep s l) m
  | [], m, s => by rw [List.nil_append, blockL]
  | y :: ys, m, s => by rw [List.cons_append, blockL, blockL, blockL_app]
theorem blockL_take (P : AP) (deep : Int) (l : List TStmt) (s : BS) (i : Nat) (hi : i < l.length) : blockL P deep s (l.take (i + 1)) = blockS P deep (blockL P deep s (l.take i)) l[i] := by
  rw [List.take_succ_eq_append_getElem hi, blockL_app, blockL, blockL]
theorem blockL_stop (P : AP) (deep : Int) (l : List TStmt) (s : BS) (i : Nat) (h : (blockL P deep s (l.take i)).e ≠ 0) : blockL P deep s l = blockL P deep s (l.take i) := by
  have := blockL_app P deep (l.take i) (l.drop i) s
  rw [List.take_append_drop, blockL_err P deep _ h] at this
  exact this
theorem regsOf_len (k : Int) (regs : List ByteArray) (r : ByteArray) : (regsOf k regs r).length ≤ regs.length + 1 := by
  unfold regsOf addR
  split
  · split <;> simp
  · omega
/-- How far a state has come. -/
structure Far2 (s s' : BS) (n : Nat) : Prop where
  p : s.part ≤ s'.part ∧ s'.part ≤ s.part + n
  t : s.st ≤ s'.st ∧ s'.st ≤ s.st + n
  r : s'.regs.length ≤ s.regs.length + n
theorem stmtS_far (P : AP) (deep : Int) (s : BS) (x : TStmt) : Far2 s (stmtS P deep s x) 1 :=
  ⟨⟨by simp only [stmtS]; omega, by simp only [stmtS]; omega⟩, ⟨by simp only [stmtS]; omega, by simp only [stmtS]; omega⟩, regsOf_len _ _ _⟩
theorem Far2.trans {a b c : BS} {n m : Nat} (h : Far2 a b n) (k : Far2 b c m) : Far2 a c (n + m) :=
  ⟨⟨by have := h.p; have := k.p; omega, by have := h.p; have := k.p; omega⟩, ⟨by have := h.t; have := k.t; omega, by have := h.t; have := k.t; omega⟩, by have := h.r; have := k.r; omega⟩
theorem Far2.refl (a : BS) : Far2 a a 0 := ⟨⟨by omega, by omega⟩, ⟨by omega, by omega⟩, by omega⟩
theorem Far2.le {a b : BS} {n m : Nat} (h : Far2 a b n) (hm : n ≤ m) : Far2 a b m :=
  ⟨⟨h.p.1, by have := h.p; omega⟩, ⟨h.t.1, by have := h.t; omega⟩, by have := h.r; omega⟩
mutual
theorem blockS_far (P : AP) : ∀ (deep : Int) (s : BS) (x : TStmt), Far2 s (blockS P deep s x) (cntS x)
  | deep, s, ⟨a, b, c, d, e, t, f⟩ => by
    have h1 := blockL_far P (deep + 1) (stmtS P deep s ⟨a, b, c, d, e, t, f⟩) t
    have h2 := blockL_far P (deep + 1) (blockL P (deep + 1) (stmtS P deep s ⟨a, b, c, d, e, t, f⟩) t) f
    have h0 := stmtS_far P deep s ⟨a, b, c, d, e, t, f⟩
    rw [blockS, cntS]
    split
    · exact (Far2.refl _).le (by omega)
    · split
      · exact h0.le (by omega)
      · exact ((h0.trans h1).trans h2).le (by omega)
theorem blockL_far (P : AP) : ∀ (deep : Int) (s : BS) (l : List TStmt), Far2 s (blockL P deep s l) (cntL l)
  | deep, s, [] => by rw [blockL, cntL]; exact Far2.refl _
  | deep, s, x :: xs => by
    have h1 := blockS_far P deep s x
    have h2 := blockL_far P deep (blockS P deep s x) xs
    rw [blockL, cntL]
    exact h1.trans h2
end
def Blocked (w0 W : World) (q : Nat) (P : AP) (s : BS) (r : Ending) (W' : World) : Prop := ∃ vR, Asked w0 W q P s.part s.e s.st vR r W' ∧ RegsAt q W' vR s.regs
theorem stmt_any (w0 W : World) (q : Nat) (P : AP) (s : BS) (vR : Value) (h : AS w0 W q P (s.part + 1) s.e (s.st + 1) vR) (hR : RegsAt q W vR s.regs) (hrl : s.regs.length ≤ 1000) (x : TStmt) (A4 A5 A6 : Option Addr) (c4 c5 c6 : Nat) (deep : Int)
    (hC : Kd.C kExpr w0 A4 x.f4.length x.f4) (hx : smS x) :
    Calls Try.prog 72 #[.pointer (some ⟨q, 0, none⟩), .agg #[.int .i64 x.f0, .int .i64 x.f1, .string x.f2, .string x.f3, .slice A4 x.f4.length c4, .slice A5 x.f5.length c5, .slice A6 x.f6.length c6], .int .i64 deep] W (Blocked w0 W q P (stmtS P deep s x)) :=
  have hm := (smS_def x).1 hx
  stmt_walk w0 W q P (s.part + 1) s.e (s.st + 1) vR s.regs h hR hrl x.f0 x.f1 x.f2 x.f3 x.f4 A4 A5 A6 c4 c5 c6 x.f5.length x.f6.length deep hC hm.1 hm.2.1 hm.2.2.1 hm.2.2.2.1
theorem blk_new2 (W : World) (q : Nat) (u v : Value) (o : Obj) : (((W.setCell ⟨q, 10, none⟩ u).setCell ⟨q, 12, none⟩ v).alloc o).heap[W.heap.size]? = some o := by
  have h := blk_new ((W.setCell ⟨q, 10, none⟩ u).setCell ⟨q, 12, none⟩ v) o
  rw [World.size_setCell, World.size_setCell] at h
  exact h
def BlockOk (w0 : World) (q : Nat) (P : AP) (N : Nat) : Prop := ∀ (l : List TStmt), SizeOf.sizeOf l < N → ∀ (W : World) (s : BS) (vR : Value) (A : Option Addr) (c : Nat) (deep : Int), AS w0 W q P s.part s.e s.st vR → RegsAt q W vR s.regs → Kd.C kStmt w0 A l.length l → smSs l → l.length ≤ 1000 →
    0 ≤ s.part → 0 ≤ s.st → 0 ≤ deep → s.part + cntL l ≤ 100000000 → s.st + cntL l ≤ 100000000 → deep + cntL l ≤ 100000000 → s.regs.length + cntL l ≤ 1000 →
    Calls Try.prog 44 #[.pointer (some ⟨q, 0, none⟩), .slice A l.length c, .int .i64 deep] W (Blocked w0 W q P (blockL P deep s l))
set_option maxHeartbeats 8000000 in
set_option maxRecDepth 100000000 in
theorem block_step (w0 : World) (q : Nat) (P : AP) (N : Nat) (ih : BlockOk w0 q P N) : BlockOk w0 q P (N + 1) := by
  intro l hN W s vR A c deep h hR hC hsm hlen p0 t0 d0 pc tc dc rc
  have HI := Aside0.mk ih
  have HS0 := Aside0.mk (And.intro h hR)
  have HC := Aside0.mk (And.intro hC (And.intro hsm (And.intro hN (And.intro (And.intro p0 (And.intro t0 d0)) (And.intro pc (And.intro tc (And.intro dc rc)))))))
  have hq := h.lt
  have dd : deep ≤ 100000000 := by omega
  clear ih h hR hC hsm hN p0 t0 pc tc dc rc
  go_enter Try.func44, Try.ntmps44
  go_wp2
  go_loopw [10] (fun v10 wr => ∃ (i : Nat) (vR' : Value), i ≤ l.length ∧ v10 = .int .i64 i ∧ Aside0 (AS w0 wr q P (blockL P deep s (l.take i)).part (blockL P deep s (l.take i)).e (blockL P deep s (l.take i)).st vR' ∧ Chg (fun k => k = q) W wr ∧ RegsAt q wr vR' (blockL P deep s (l.take i)).regs)) (fun v10 _ => l.length - (intOf v10).toNat)
  case atStart => exact ⟨0, vR, Nat.zero_le _, rfl, ⟨by rw [List.take_zero, blockL]; exact ⟨HS0.out.1, Chg.refl _ _, HS0.out.2⟩⟩⟩
  case round =>
    obtain ⟨i, vR', hi, rfl, HS⟩ := hrel
    clear HS0
    have HFR := Aside0.mk (blockL_far P deep s (l.take i))
    by_cases hlt : i < l.length
    · have HT := Aside0.mk (blockL_take P deep l s i hlt)
      have HST := Aside0.mk (blockL_stop P deep l s i)
      have HST2 := Aside0.mk (blockL_stop P deep l s (i + 1))
      have HCN := Aside0.mk (cntL_take l i hlt)
      have HQN := Aside0.mk (show ¬ wr.heap.size = q from by have := HS.out.1.lt; omega)
      obtain ⟨si, hsi⟩ : ∃ si, si = blockL P deep s (l.take i) := ⟨_, rfl⟩
      rw [← hsi] at HS HFR HT HST
      clear hsi
      have e1 : decide ((i : Int) < (l.length : Int)) = true := decide_eq_true (by omega)
      have e2 : decide (i < l.length) = true := decide_eq_true hlt
      obtain ⟨ad, A4, c4, A5, c5, A6, c6, hA, h0, h1, h2, h3, h4, h5, h6, hl4, hk4, hl5, hk5, hl6, hk6⟩ := at_T55 HC.out.1 (i : Int) (by omega) (by omega)
      have HG := Aside0.mk (And.intro hk4 (And.intro hk5 (And.intro hk6 (rdS_eq l i hlt))))
      have HM := Aside0.mk (smSs_get l i hlt HC.out.2.1)
      have HZ := Aside0.mk (sizeS l i hlt)
      clear hl4 hk4 hl5 hk5 hl6 hk6
      subst hA
      rw [Int.toNat_natCast] at h0 h1 h2 h3 h4 h5 h6
      replace h0 := pw_cell_below HS.out.1.bel h0
      replace h1 := pw_cell_below HS.out.1.bel h1
      replace h2 := pw_cell_below HS.out.1.bel h2
      replace h3 := pw_cell_below HS.out.1.bel h3
      replace h4 := pw_cell_below HS.out.1.bel h4
      replace h5 := pw_cell_below HS.out.1.bel h5
      replace h6 := pw_cell_below HS.out.1.bel h6
      rw [HG.out.2.2.2] at h0 h1 h2 h3 h4 h5 h6
      have HK := Aside0.mk (show Kd.C kExpr w0 A4 l[i].f4.length l[i].f4 ∧ Kd.C kStmt w0 A5 l[i].f5.length l[i].f5 ∧ Kd.C kStmt w0 A6 l[i].f6.length l[i].f6 from by
        have q1 := HG.out.1; have q2 := HG.out.2.1; have q3 := HG.out.2.2.1; rw [HG.out.2.2.2] at q1 q2 q3; exact ⟨q1, q2, q3⟩)
      have HCS := Aside0.mk (cntS_def l[i])
      generalize l[i] = x at h0 h1 h2 h3 h4 h5 h6 HK HM HZ HT HCN HCS
      clear HG
      have HX := Aside0.mk (blk_new wr (.cells #[.int .i64 x.f0, .int .i64 x.f1, .string x.f2, .string x.f3, .slice A4 x.f4.length c4, .slice A5 x.f5.length c5, .slice A6 x.f6.length c6] 55 (0, 0)))
      have hb := below_alloc (Below.refl wr.heap.size wr) (.cells #[.int .i64 x.f0, .int .i64 x.f1, .string x.f2, .string x.f3, .slice A4 x.f4.length c4, .slice A5 x.f5.length c5, .slice A6 x.f6.length c6] 55 (0, 0))
      have HS1 := Aside0.mk (And.intro (HS.out.1.step hb) (And.intro (HS.out.2.1.step (Chg.of_below hb)) (HS.out.2.2.step (Chg.of_below hb))))
      clear hb
      have hqr := HS.out.1.lt
      have c11 := HS.out.1.cells.2.2.2.2.2.2.2.2.2.2.2.1
      have c10 := HS.out.1.cells.2.2.2.2.2.2.2.2.2.2.1
      have c12 := HS.out.1.cells.2.2.2.2.2.2.2.2.2.2.2.2.1
      have hfz := HS.out.1.froz
      have pb : 0 ≤ si.part ∧ si.part + cntS x ≤ 100000000 := by have := HFR.out.p; have := HC.out.2.2.2.1; have := HC.out.2.2.2.2.1; have := HCN.out; omega
      have tb : 0 ≤ si.st ∧ si.st + cntS x ≤ 100000000 := by have := HFR.out.t; have := HC.out.2.2.2.1; have := HC.out.2.2.2.2.2.1; have := HCN.out; omega
      obtain ⟨pb0, pb1⟩ := pb
      obtain ⟨tb0, tb1⟩ := tb
      have hc1 : 1 ≤ cntS x := by have := HCS.out; omega
      by_cases he : si.e = 0
      · have g1 : (si.e == 0) = true := beq_iff_eq.2 he
        have g2 : (si.e != 0) = false := by simpa using he
        have HE := Aside0.mk he
        rw [he] at c11
        clear he g1 g2
        go_wp2_with fail
        have hS2 := (((HS.out.1.set (part' := si.part + 1) (e' := si.e) (st' := si.st) (vR' := vR') 10 (v := .int .i64 (si.part + 1)) rfl).set (part' := si.part + 1) (e' := si.e) (st' := si.st + 1) (vR' := vR') 12 (v := .int .i64 (si.st + 1)) rfl).step (below_alloc (Below.refl _ _) (.cells #[.int .i64 x.f0, .int .i64 x.f1, .string x.f2, .string x.f3, .slice A4 x.f4.length c4, .slice A5 x.f5.length c5, .slice A6 x.f6.length c6] 55 (0, 0))))
        have hC2 := ((chg_set wr q 10 (.int .i64 (si.part + 1))).step (chg_set _ q 12 (.int .i64 (si.st + 1)))).step (Chg.of_below (F := fun k => k = q) (below_alloc (Below.refl _ _) (.cells #[.int .i64 x.f0, .int .i64 x.f1, .string x.f2, .string x.f3, .slice A4 x.f4.length c4, .slice A5 x.f5.length c5, .slice A6 x.f6.length c6] 55 (0, 0))))
        have HX2 := Aside0.mk (blk_new2 wr q (.int .i64 (si.part + 1)) (.int .i64 (si.st + 1)) (.cells #[.int .i64 x.f0, .int .i64 x.f1, .string x.f2, .string x.f3, .slice A4 x.f4.length c4, .slice A5 x.f5.length c5, .slice A6 x.f6.length c6] 55 (0, 0)))
        have HS2 := Aside0.mk (And.intro hS2 (And.intro (HS.out.2.1.step hC2) (HS.out.2.2.step hC2)))
        clear hS2 hC2
        refine (stmt_any w0 _ q P si vR' HS2.out.1 HS2.out.2.2 (by have := HFR.out.r; have := HC.out.2.2.2.2.2.2.2; have := HCN.out; omega) x A4 A5 A6 c4 c5 c6 deep HK.out.1 HM.out).mono ?_
        rintro r9 w3 ⟨v1, hA, hR1⟩
        obtain rfl := hA.ret
        have HX3 := Aside0.mk (hA.chg.heap HX2.out HQN.out)
        have HS3 := Aside0.mk (And.intro hA.stt (And.intro (HS2.out.2.1.step hA.chg) hR1))
        have HF1 := Aside0.mk (stmtS_far P deep si x)
        have HB1 := Aside0.mk (blockS_def P deep si x)
        clear hA hR1 HX2 HS2 HX h0 h1 h2 h3 h4 h5 h6 c10 c11 c12
        generalize stmtS P deep si x = s1 at HS3 HF1 HB1
        have c11 := HS3.out.1.cells.2.2.2.2.2.2.2.2.2.2.2.1
        have hq3 := HS3.out.1.lt
        have hf3 := HS3.out.1.froz
        by_cases he1 : s1.e = 0
        · rw [he1] at c11
          have HE1 := Aside0.mk (show blockS P deep si x = blockL P (deep + 1) (blockL P (deep + 1) s1 x.f5) x.f6 from by rw [HB1.out, if_neg (by rw [HE.out]; decide), if_neg (by rw [he1]; decide)])
          clear he1
          have x5 := (blk_cell HX3.out 5).trans rfl
          have hm := Aside0.mk ((smS_def x).1 HM.out)
          go_wp2_with fail
          refine (HI.out x.f5 (by have := HZ.out; have := HC.out.2.2.1; omega) _ s1 v1 A5 c5 (deep + 1) HS3.out.1 HS3.out.2.2 HK.out.2.1 hm.out.2.2.2.2.2.1 hm.out.2.2.2.2.1 (by have := HF1.out.p; omega) (by have := HF1.out.t; omega) (by omega) (by have := HF1.out.p; have := HCS.out; omega) (by have := HF1.out.t; have := HCS.out; omega) (by have := HC.out.2.2.2.2.2.2.1; have := HCS.out; have := HCN.out; omega) (by have := HF1.out.r; have := HFR.out.r; have := HC.out.2.2.2.2.2.2.2; have := HCS.out; have := HCN.out; omega)).mono ?_
          rintro r9 w4 ⟨v2, hA, hR1⟩
          obtain rfl := hA.ret
          have HX4 := Aside0.mk (hA.chg.heap HX3.out HQN.out)
          have HS4 := Aside0.mk (And.intro hA.stt (And.intro (HS3.out.2.1.step hA.chg) hR1))
          have HF2 := Aside0.mk (blockL_far P (deep + 1) s1 x.f5)
          clear hA hR1 x5 c11 hq3 hf3
          have x6 := (blk_cell HX4.out 6).trans rfl
          generalize blockL P (deep + 1) s1 x.f5 = s2 at HS4 HF2 HE1
          go_wp2_with fail
          refine (HI.out x.f6 (by have := HZ.out; have := HC.out.2.2.1; omega) _ s2 v2 A6 c6 (deep + 1) HS4.out.1 HS4.out.2.2 HK.out.2.2 hm.out.2.2.2.2.2.2.2 hm.out.2.2.2.2.2.2.1 (by have := HF1.out.p; have := HF2.out.p; omega) (by have := HF1.out.t; have := HF2.out.t; omega) (by omega) (by have := HF1.out.p; have := HF2.out.p; have := HCS.out; omega) (by have := HF1.out.t; have := HF2.out.t; have := HCS.out; omega) (by have := HC.out.2.2.2.2.2.2.1; have := HCS.out; have := HCN.out; omega) (by have := HF1.out.r; have := HF2.out.r; have := HFR.out.r; have := HC.out.2.2.2.2.2.2.2; have := HCS.out; have := HCN.out; omega)).mono ?_
          rintro r9 w5 ⟨v3, hA, hR1⟩
          obtain rfl := hA.ret
          have HS5 := Aside0.mk (show AS w0 w5 q P (blockL P deep s (l.take (i + 1))).part (blockL P deep s (l.take (i + 1))).e (blockL P deep s (l.take (i + 1))).st v3 ∧ Chg (fun k => k = q) W w5 ∧ RegsAt q w5 v3 (blockL P deep s (l.take (i + 1))).regs from by
            rw [HT.out, HE1.out]; exact ⟨hA.stt, HS4.out.2.1.step hA.chg, hR1⟩)
          clear hA hR1 x6
          go_wp2
          go_roundw
          case rel => exact ⟨i + 1, v3, by omega, by go_num, HS5⟩
          case measure => simp [intOf]; omega
        · have g1 : (s1.e == 0) = false := beq_eq_false_iff_ne.2 he1
          have g2 : (s1.e != 0) = true := by simpa using he1
          have HE1 := Aside0.mk (show blockL P deep s l = s1 from by
            have hb : blockS P deep si x = s1 := by rw [HB1.out, if_neg (by rw [HE.out]; decide), if_pos he1]
            have q1 := HT.out
            rw [hb] at q1
            rw [HST2.out (by rw [q1]; exact he1), q1])
          clear he1
          go_wp2
          go_end0
          exact ⟨v1, ⟨rfl, by rw [HE1.out]; exact HS3.out.1, HS3.out.2.1⟩, by rw [HE1.out]; exact HS3.out.2.2⟩
      · have g1 : (si.e == 0) = false := beq_eq_false_iff_ne.2 he
        have g2 : (si.e != 0) = true := by simpa using he
        have HE := Aside0.mk (HST.out he)
        clear he
        go_wp2
        go_end0
        exact ⟨vR', ⟨rfl, by rw [HE.out]; exact HS1.out.1, HS1.out.2.1⟩, by rw [HE.out]; exact HS1.out.2.2⟩
    · have e1 : decide ((i : Int) < (l.length : Int)) = false := decide_eq_false (by omega)
      have e2 : decide (i < l.length) = false := decide_eq_false hlt
      obtain rfl : i = l.length := by omega
      go_wp2
      go_end0
      exact ⟨vR', ⟨rfl, by have := HS.out.1; rw [List.take_length] at this; exact this, HS.out.2.1⟩, by have := HS.out.2.2; rw [List.take_length] at this; exact this⟩
end Go.Proofs.Ytlhbnbckanmaiaa.K
