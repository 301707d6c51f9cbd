/- A text of a claim (ours): the maker of programs: the threads of a program under way; conditions: none of ours. -/
import Derived.Test.YtlhbnbckanmaiaaM7I
import Derived.Test.YtlhbnbckanmaiaaM6I
import Derived.Test.YtlhbnbckanmaiaaM8I
namespace Go.Proofs.Ytlhbnbckanmaiaa.K
open Go Go.RowKit Go.Proofs.YtlhbnbckanmaiaaW.PrintWords Go.Proofs.YtlhbnbckanmaiaaW.PrintLast Go.Proofs.YtlhbnbckanmaiaaW.PrintMore Go.Proofs.Ytlhbnbckanmaiaa.PC1
set_option linter.unusedVariables false
set_option linter.unusedSimpArgs false
abbrev kRegs : Kd (List ByteArray) := Kd.slice 9 Kd.string
/-- A condition over locations and registers. -/
def gdC (vals : Int) (nl : Nat) (RS : List (List ByteArray)) : Nat → TCond → Prop
  | d, ⟨op, th, nm, n, kids⟩ => (op = 1 ∧ th = 0 ∧ nm ∈ loc4.take nl ∧ 0 ≤ n ∧ n < vals ∧ kids = []) ∨ (op = 2 ∧ (∃ t : Nat, th = t ∧ ∃ R, RS[t]? = some R ∧ nm ∈ R) ∧ 0 ≤ n ∧ n < vals ∧ kids = []) ∨ (match d with
    | 0 => False
    | d + 1 => th = 0 ∧ nm = ⟨#[]⟩ ∧ n = 0 ∧ ((op = 3 ∧ ∃ a, kids = [a] ∧ gdC vals nl RS d a) ∨ ((op = 4 ∨ op = 5) ∧ ∃ a b, kids = [a, b] ∧ gdC vals nl RS d a ∧ gdC vals nl RS d b)))
/-- A condition's value, and that what it leads to lies in ok. -/
def CV (vals : Int) (nl : Nat) (RS : List (List ByteArray)) (d : Nat) (w : World) (ok : Nat → Prop) (v : Value) : Prop :=
  ∃ (x : TCond) (A : Option Addr) (c : Nat), v = .agg #[.int .i64 x.f0, .int .i64 x.f1, .string x.f2, .int .i64 x.f3, .slice A x.f4.length c] ∧ x.f4.length ≤ c ∧ gdC vals nl RS d x ∧ Kd.F kCond w ok A x.f4.length x.f4
theorem CV.move {vals : Int} {nl : Nat} {RS : List (List ByteArray)} {d : Nat} {w w' : World} {ok : Nat → Prop} {v : Value} (h : CV vals nl RS d w ok v) (hm : ∀ j, ok j → j < w.heap.size → w'.heap[j]? = w.heap[j]?) : CV vals nl RS d w' ok v := by
  obtain ⟨x, A, c, h1, h2, h3, h4⟩ := h
  exact ⟨x, A, c, h1, h2, h3, Kd.F_step h4 hm⟩
inductive TagC where
  | fix (v : Value)
  | pure (P : Value → Prop)
  | cnd
  | cnds (n : Nat)
  | top
  | any
def PhiC (vals : Int) (nl : Nat) (RS : List (List ByteArray)) (d : Nat) (s : Nat) (tags : List TagC) (k : Nat) (v : Value) (w : World) : Prop :=
  match tags[k]? with
  | some (.fix u) => v = u
  | some (.pure P) => P v
  | some .cnd => CV vals nl RS d w (fun k => s < k) v
  | some (.cnds n) => ∃ (b : Nat) (xs : List TCond), v = .slice (some ⟨b, 0, none⟩) n n ∧ xs.length = n ∧ (∀ x ∈ xs, gdC vals nl RS d x) ∧ Kd.F kCond w (fun k => s < k) (some ⟨b, 0, none⟩) n xs
  | some .top => CV vals nl RS (d + 1) w (fun k => s < k) v
  | _ => True
theorem PhiC.move {vals : Int} {nl : Nat} {RS : List (List ByteArray)} {d : Nat} {s : Nat} {w w' : World} {tags : List TagC} {k : Nat} {v : Value} (h : PhiC vals nl RS d s tags k v w) (hm : ∀ j, s < j → j < w.heap.size → w'.heap[j]? = w.heap[j]?) : PhiC vals nl RS d s tags k v w' := by
  unfold PhiC at h ⊢
  cases e : tags[k]? with
  | none => trivial
  | some t =>
    rw [e] at h
    cases t with
    | fix u => exact h
    | pure P => exact h
    | cnd => exact CV.move h hm
    | cnds n =>
      obtain ⟨b, xs, h1, h2, h3, h4⟩ := h
      exact ⟨b, xs, h1, h2, h3, Kd.F_step h4 hm⟩
    | top => exact CV.move h hm
    | any => trivial
theorem PhiC.chg {vals : Int} {nl : Nat} {RS : List (List ByteArray)} {d : Nat} {s : Nat} {w w' : World} {tags : List TagC} {k : Nat} {v : Value} {F : Nat → Prop} (h : PhiC vals nl RS d s tags k v w) (hc : Chg F w w') (hF : ∀ j, F j → j ≤ s) : PhiC vals nl RS d s tags k v w' :=
  h.move (fun j h1 h2 => hc.block j h2 (fun e => by have := hF j e; omega))
abbrev zCnd : Obj := .cells #[.int .i64 0, .int .i64 0, .string ⟨#[]⟩, .int .i64 0, .slice none 0 0] 26 (0, 0)
/-- Where the world stands while a condition is made: m the maker, s the result's place, z the store. -/
structure JC (w0 wd : World) (m s : Nat) (vals : Int) (nl : Nat) (RS : List (List ByteArray)) (d : Nat) (z : Nat) (f : Nat → Bool) (w : World) : Prop where
  ms : MS w0 w m
  chg : Chg (fun k => k = m ∨ k = s) wd w
  zb : f z = false → w.heap[s]? = some zCnd
  st : f z = true → ∃ (x : TCond) (A : Option Addr) (c : Nat), w.heap[s]? = some (.cells #[.int .i64 x.f0, .int .i64 x.f1, .string x.f2, .int .i64 x.f3, .slice A x.f4.length c] 26 (0, 0)) ∧ x.f4.length ≤ c ∧ gdC vals nl RS d x ∧ Kd.F kCond w (fun k => s < k) A x.f4.length x.f4
theorem JC.other {w0 wd w : World} {m s : Nat} {vals : Int} {nl : Nat} {RS : List (List ByteArray)} {d : Nat} {z : Nat} {f : Nat → Bool} (h : JC w0 wd m s vals nl RS d z f w) {i : Nat} (hi : z ≠ i) : JC w0 wd m s vals nl RS d z (upd f i) w :=
  ⟨h.ms, h.chg, fun e => h.zb ((upd_ne f hi).symm.trans e), fun e => h.st ((upd_ne f hi).symm.trans e)⟩
theorem JC.call {w0 wd w w' : World} {m s : Nat} {vals : Int} {nl : Nat} {RS : List (List ByteArray)} {d : Nat} {z : Nat} {f : Nat → Bool} (h : JC w0 wd m s vals nl RS d z f w) (hz : f z = false) (hm : MS w0 w' m) (hc : Chg (fun k => k = m) w w') (hne : m ≠ s) : JC w0 wd m s vals nl RS d z f w' :=
  ⟨hm, h.chg.step (hc.mono (fun _ e => .inl e)), fun e => hc.heap (h.zb e) (fun q => hne q.symm), fun e => absurd (hz.symm.trans e) (by decide)⟩
theorem JC.below {w0 wd w w' : World} {m s : Nat} {vals : Int} {nl : Nat} {RS : List (List ByteArray)} {d : Nat} {z : Nat} {f : Nat → Bool} (h : JC w0 wd m s vals nl RS d z f w) (hz : f z = false) (hb : Below w.heap.size w w') : JC w0 wd m s vals nl RS d z f w' :=
  ⟨h.ms.step hb, h.chg.step (Chg.of_below hb), fun e => blk_below (h.zb e) hb, fun e => absurd (hz.symm.trans e) (by decide)⟩
theorem put5 {W : World} {s : Nat} {t : TypeId} {a0 a1 a2 a3 a4 : Value} (h : W.heap[s]? = some (.cells #[a0, a1, a2, a3, a4] t (0, 0))) (b0 b1 b2 b3 b4 : Value) :
    (((((W.setCell ⟨s, 0, none⟩ b0).setCell ⟨s, 1, none⟩ b1).setCell ⟨s, 2, none⟩ b2).setCell ⟨s, 3, none⟩ b3).setCell ⟨s, 4, none⟩ b4).heap[s]? = some (.cells #[b0, b1, b2, b3, b4] t (0, 0))
    ∧ Chg (fun k => k = s) W (((((W.setCell ⟨s, 0, none⟩ b0).setCell ⟨s, 1, none⟩ b1).setCell ⟨s, 2, none⟩ b2).setCell ⟨s, 3, none⟩ b3).setCell ⟨s, 4, none⟩ b4) := by
  have h1 := blk_put h 0 b0 (show Array.setIfInBounds #[a0, a1, a2, a3, a4] 0 b0 = #[b0, a1, a2, a3, a4] from rfl)
  have h2 := blk_put h1 1 b1 (show Array.setIfInBounds #[b0, a1, a2, a3, a4] 1 b1 = #[b0, b1, a2, a3, a4] from rfl)
  have h3 := blk_put h2 2 b2 (show Array.setIfInBounds #[b0, b1, a2, a3, a4] 2 b2 = #[b0, b1, b2, a3, a4] from rfl)
  have h4 := blk_put h3 3 b3 (show Array.setIfInBounds #[b0, b1, b2, a3, a4] 3 b3 = #[b0, b1, b2, b3, a4] from rfl)
  have h5 := blk_put h4 4 b4 (show Array.setIfInBounds #[b0, b1, b2, b3, a4] 4 b4 = #[b0, b1, b2, b3, b4] from rfl)
  exact ⟨h5, (((chg_set _ _ _ _).step (chg_set _ _ _ _)).step (chg_set _ _ _ _)).step (chg_set _ _ _ _) |>.step (chg_set _ _ _ _)⟩
theorem cnds_one {w : World} {ok : Nat → Prop} {b : Nat} {x : TCond} {A : Option Addr} {c : Nat} (hb : w.heap[b]? = some (.cells #[.int .i64 x.f0, .int .i64 x.f1, .string x.f2, .int .i64 x.f3, .slice A x.f4.length c] 26 (0, 0))) (ho : ok b) (hl : x.f4.length ≤ c) (hF : Kd.F kCond w ok A x.f4.length x.f4) : Kd.F kCond w ok (some ⟨b, 0, none⟩) 1 [x] :=
  fun W' hW => C_one ((hW b ho (blk_lt hb)).trans hb) (k26_mk W' x hl (hF W' hW))
theorem cnds_two {w : World} {ok : Nat → Prop} {b : Nat} {x y : TCond} {A A' : Option Addr} {c c' : Nat} (hb : w.heap[b]? = some (.cells #[.int .i64 x.f0, .int .i64 x.f1, .string x.f2, .int .i64 x.f3, .slice A x.f4.length c, .int .i64 y.f0, .int .i64 y.f1, .string y.f2, .int .i64 y.f3, .slice A' y.f4.length c'] 26 (0, 0))) (ho : ok b) (hl : x.f4.length ≤ c) (hF : Kd.F kCond w ok A x.f4.length x.f4) (hl' : y.f4.length ≤ c') (hF' : Kd.F kCond w ok A' y.f4.length y.f4) : Kd.F kCond w ok (some ⟨b, 0, none⟩) 2 [x, y] :=
  fun W' hW => C_two ((hW b ho (blk_lt hb)).trans hb) (k26_mk W' x hl (hF W' hW)) (k26_mk W' y hl' (hF' W' hW)) rfl
theorem cell_chg {F : Nat → Prop} {w w' : World} (hc : Chg F w w') {a : Addr} {v : Value} (h : w.cell? a = some v) (hn : ¬ F a.block) : w'.cell? a = some v := by
  have hb := hc.block _ (World.block_lt_of_cell? _ _ h) hn
  simpa [World.cell?, hb] using h
theorem gdC_mem {vals : Int} {nl : Nat} {RS : List (List ByteArray)} {d : Nat} {s : ByteArray} {q : Int} (hs : s ∈ loc4.take nl) (h0 : 0 ≤ q) (h1 : q < vals) : gdC vals nl RS d ⟨1, 0, s, q, []⟩ := by
  cases d <;> exact .inl ⟨rfl, rfl, hs, h0, h1, rfl⟩
theorem gdC_reg {vals : Int} {nl : Nat} {RS : List (List ByteArray)} {d t : Nat} {R : List ByteArray} {s : ByteArray} {q : Int} (ht : RS[t]? = some R) (hs : s ∈ R) (h0 : 0 ≤ q) (h1 : q < vals) : gdC vals nl RS d ⟨2, (t : Int), s, q, []⟩ := by
  cases d <;> exact .inr (.inl ⟨rfl, ⟨t, rfl, R, ht, hs⟩, h0, h1, rfl⟩)
theorem gdC_two {vals : Int} {nl : Nat} {RS : List (List ByteArray)} {d : Nat} (op : Int) (xs : List TCond) (ho : op = 4 ∨ op = 5) (hl : xs.length = 2) (hg : ∀ x ∈ xs, gdC vals nl RS d x) : gdC vals nl RS (d + 1) ⟨op, 0, ⟨#[]⟩, 0, xs⟩ := by
  match xs, hl with
  | [a, b], _ => exact .inr (.inr ⟨rfl, rfl, rfl, .inr ⟨ho, a, b, rfl, hg a (by simp), hg b (by simp)⟩⟩)
theorem gdC_not {vals : Int} {nl : Nat} {RS : List (List ByteArray)} {d : Nat} (x : TCond) (hg : gdC vals nl RS d x) : gdC vals nl RS (d + 1) ⟨3, 0, ⟨#[]⟩, 0, [x]⟩ := .inr (.inr ⟨rfl, rfl, rfl, .inl ⟨rfl, x, rfl, hg⟩⟩)
/-- The walk of a condition so far: nothing but the maker turned, of what was there. -/
structure SMC (w0 w wx : World) (m : Nat) (vals : Int) (nl : Nat) : Prop where
  ms : MS w0 wx m
  hbk : wx.heap[w.heap.size]? = some (.cells #[.int .i64 vals, .int .i64 nl, .bool false, .bool false] 94 (0, 0))
  rb : wx.heap[w.heap.size + 1]? = some zCnd
  chg : Chg (fun k => k = m) w wx
theorem SMC.step {w0 w wx w1 : World} {m : Nat} {vals : Int} {nl : Nat} (h : SMC w0 w wx m vals nl) (hb : Below wx.heap.size wx w1) : SMC w0 w w1 m vals nl := ⟨h.ms.step hb, blk_below h.hbk hb, blk_below h.rb hb, h.chg.step (Chg.of_below hb)⟩
theorem SMC.call {w0 w wx w1 : World} {m : Nat} {vals : Int} {nl : Nat} (h : SMC w0 w wx m vals nl) (hm : MS w0 w1 m) (hc : Chg (fun k => k = m) wx w1) (hmw : m < w.heap.size) : SMC w0 w w1 m vals nl :=
  ⟨hm, hc.heap h.hbk (fun e => by omega), hc.heap h.rb (fun e => by omega), h.chg.step hc⟩
def MCondPost (w0 w : World) (m : Nat) (vals : Int) (nl : Nat) (RS : List (List ByteArray)) (d : Nat) (e : Ending) (w' : World) : Prop :=
  ∃ (x : TCond) (A : Option Addr) (c : Nat), e = .returned (.agg #[.int .i64 x.f0, .int .i64 x.f1, .string x.f2, .int .i64 x.f3, .slice A x.f4.length c]) ∧ x.f4.length ≤ c ∧ gdC vals nl RS d x ∧ Kd.F kCond w' (fun k => w.heap.size ≤ k) A x.f4.length x.f4 ∧ MS w0 w' m ∧ Chg (fun k => k = m) w w'
def MCondOk (d : Nat) : Prop := ∀ (w0 w : World) (m : Nat), MS w0 w m → ∀ (vals : Int) (nl : Nat) (A : Option Addr) (cR : Nat) (RS : List (List ByteArray)), 2 ≤ vals → 1 ≤ nl → nl ≤ 4 → 1 ≤ RS.length → RS.length ≤ 4 → (∀ R ∈ RS, R.length ≤ 1000) → Kd.F kRegs w (fun k => k ≠ m ∧ k < w.heap.size) A RS.length RS →
  Calls Try.prog 66 #[.pointer (some ⟨m, 0, none⟩), .agg #[.int .i64 vals, .int .i64 nl, .bool false, .bool false], .slice A RS.length cR, .int .i64 d] w (MCondPost w0 w m vals nl RS d)
end Go.Proofs.Ytlhbnbckanmaiaa.K
namespace Go.Proofs.Ytlhbnbckanmaiaa.K
open Go Go.RowKit Go.Proofs.YtlhbnbckanmaiaaW.PrintWords Go.Proofs.YtlhbnbckanmaiaaW.PrintLast Go.Proofs.YtlhbnbckanmaiaaW.PrintMore Go.Proofs.Ytlhbnbckanmaiaa.PC1
set_option linter.unusedVariables false
set_option linter.unusedSimpArgs false
set_option maxHeartbeats 8000000 in
set_option maxRecDepth 100000 in
theorem cond_step (d : Nat) (hd9 : d ≤ 100) (ih : ∀ d', d = d' + 1 → MCondOk d') : MCondOk d := by
  intro w0 w m hM vals nl A cR RS hv2 hn1 hn4 hr1 hr4 hrl hR
  obtain ⟨ad, -, rfl, -⟩ := Kd.F_get hR ([] : List ByteArray) 0 (by decide) (by omega)
  have HF := Aside0.mk (And.intro hM (And.intro hv2 (And.intro hn1 hn4)))
  have HR := Aside0.mk (And.intro hR hrl)
  have hmw := hM.lt
  have hs0 : w0.heap.size ≤ w.heap.size + 1 := by have := hM.1.size; omega
  have hbm : ¬ w.heap.size = m := by omega
  have hbs : ¬ w.heap.size = w.heap.size + 1 := by omega
  have hms2 : m ≠ w.heap.size + 1 := by omega
  clear hM hR hrl
  go_enter Try.func66, Try.ntmps66
  go_wp2_with fail
  have hb1 : Below w.heap.size w ((w.alloc (.cells #[.int .i64 vals, .int .i64 nl, .bool false, .bool false] 94 (0, 0))).alloc zCnd) := below_al (below_al (Below.refl _ _) _) _
  have HA1 := Aside0.mk (show SMC w0 w ((w.alloc (.cells #[.int .i64 vals, .int .i64 nl, .bool false, .bool false] 94 (0, 0))).alloc zCnd) m vals nl from ⟨HF.out.1.step hb1, blk_alloc (blk_new _ _) _, alloc_at _ _ _ (by simp), Chg.of_below hb1⟩)
  clear hb1
  refine (pick_any w0 _ m HA1.out.ms 6).mono ?_
  rintro e w6 ⟨k, rfl, hk0, hk1, hm2, hc2⟩
  have HA := Aside0.mk (HA1.out.call hm2 hc2 hmw)
  clear hm2 hc2 HA1
  by_cases hdk : 0 < d ∧ 3 < k
  · obtain ⟨hd0, hk3⟩ := hdk
    obtain ⟨d', hdd⟩ : ∃ d', d = d' + 1 := ⟨d - 1, by omega⟩
    have HIH0 := Aside0.mk (show ∀ w9, MS w0 w9 m → Chg (fun k => k = m) w w9 → Calls Try.prog 66 #[.pointer (some ⟨m, 0, none⟩), .agg #[.int .i64 vals, .int .i64 nl, .bool false, .bool false], .slice (some ad) RS.length cR, .int .i64 d'] w9 (MCondPost w0 w9 m vals nl RS d') from fun w9 hm9 hc9 =>
      ih d' hdd w0 w9 m hm9 vals nl (some ad) cR RS HF.out.2.1 HF.out.2.2.1 HF.out.2.2.2 hr1 hr4 HR.out.2 (Kd.F_mono (Kd.F_step HR.out.1 (fun j h1 h2 => hc9.block j h2 h1.1)) (fun k hk => ⟨hk.1, Nat.lt_of_lt_of_le hk.2 hc9.size⟩)))
    have hd1w : wrap64 ((d : Int) - 1) = (d' : Int) := by unfold wrap64; omega
    have hd1 : (d : Int) - 1 = (d' : Int) := by omega
    have dd : decide (0 < (d : Int)) = true := decide_eq_true (by omega)
    have dd2 : decide (0 < d) = true := decide_eq_true hd0
    have HDD := Aside0.mk hdd
    clear hdd
    by_cases c4 : k = 4
    · subst c4
      clear hd0 hk3 hk0 hk1
      have g0 := (blk_cell HA.out.hbk 0).trans rfl
      have g1 := (blk_cell HA.out.hbk 1).trans rfl
      have g2 := (blk_cell HA.out.hbk 2).trans rfl
      have g3 := (blk_cell HA.out.hbk 3).trans rfl
      go_wp2_with fail
      refine (HIH0.out w6 HA.out.ms HA.out.chg).mono ?_
      rintro e w7 ⟨x, A4, c4, rfl, hl4, hg4, hF4, hm7, hc7⟩
      have HA7 := Aside0.mk (HA.out.call hm7 hc7 hmw)
      have hw6 := HA.out.chg.size
      have hrl6 := blk_lt HA.out.rb
      obtain ⟨hp, hch⟩ := put5 HA7.out.rb (.int .i64 3) (.int .i64 0) (.string ⟨#[]⟩) (.int .i64 0) (.slice (some ⟨w7.heap.size, 0, none⟩) 1 1)
      obtain ⟨W1, hW1⟩ : ∃ W1, W1 = (((((w7.setCell ⟨w.heap.size + 1, 0, none⟩ (.int .i64 3)).setCell ⟨w.heap.size + 1, 1, none⟩ (.int .i64 0)).setCell ⟨w.heap.size + 1, 2, none⟩ (.string ⟨#[]⟩)).setCell ⟨w.heap.size + 1, 3, none⟩ (.int .i64 0)).setCell ⟨w.heap.size + 1, 4, none⟩ (.slice (some ⟨w7.heap.size, 0, none⟩) 1 1)).alloc (.cells #[.int .i64 x.f0, .int .i64 x.f1, .string x.f2, .int .i64 x.f3, .slice A4 x.f4.length c4] 26 (0, 0)) := ⟨_, rfl⟩
      have hrb1 : W1.heap[w.heap.size + 1]? = some (.cells #[.int .i64 3, .int .i64 0, .string ⟨#[]⟩, .int .i64 0, .slice (some ⟨w7.heap.size, 0, none⟩) 1 1] 26 (0, 0)) := by rw [hW1]; exact blk_alloc hp _
      have HX := Aside0.mk (show MCondPost w0 w m vals nl RS d (.returned (.agg #[.int .i64 3, .int .i64 0, .string ⟨#[]⟩, .int .i64 0, .slice (some ⟨w7.heap.size, 0, none⟩) 1 1])) W1 from by
        refine ⟨⟨3, 0, ⟨#[]⟩, 0, [x]⟩, _, 1, rfl, Nat.le_refl 1, ?_, ?_, ?_, ?_⟩
        · rw [HDD.out]; exact gdC_not x hg4
        · rw [hW1]; exact cnds_one (alloc_at _ _ _ (by simp only [World.size_setCell])) (by have := hc7.size; omega) hl4 (Kd.F_mono (Kd.F_alloc (Kd.F_step hF4 (fun j h1 h2 => hch.block j h2 (fun e => by omega))) _) (fun k hk => show w.heap.size ≤ k by omega))
        · rw [hW1]; exact (hm7.chg hch hms2 (fun _ e => e ▸ hs0)).step (below_al (Below.refl _ _) _)
        · rw [hW1]; exact (HA7.out.chg.trans hch (fun k hk e => by omega)).alloc _)
      have z0 := (blk_cell HA7.out.rb 0).trans rfl
      have z1 := (blk_cell HA7.out.rb 1).trans rfl
      have z2 := (blk_cell HA7.out.rb 2).trans rfl
      have z3 := (blk_cell HA7.out.rb 3).trans rfl
      have z4 := (blk_cell HA7.out.rb 4).trans rfl
      have zf := blk_frozen HA7.out.rb
      have zl := blk_lt HA7.out.rb
      have HRB := Aside0.mk hrb1
      clear hp hch hrb1 hl4 hg4 hF4 hm7 hc7 g0 g1 g2 g3
      go_wp2
      rw [← hW1]
      refine bodyPost_ret (results_cell_row rfl _ _ (w.heap.size + 1) 26 #[.int .i64 3, .int .i64 0, .string ⟨#[]⟩, .int .i64 0, .slice (some ⟨w7.heap.size, 0, none⟩) 1 1] (0, 0) _ rfl HRB.out Try.underlying26 rfl (by kernel_rfl)) rfl ?_
      exact HX.out
    · obtain rfl : k = 5 := by omega
      clear hd0 hk3 hk0 hk1 c4
      go_wp2_with fail
      refine (pick_any w0 _ m HA.out.ms 2).mono ?_
      rintro e w7 ⟨r, rfl, hr0, hr1', hm7, hc7⟩
      have HA7 := Aside0.mk (HA.out.call hm7 hc7 hmw)
      have hopv : 4 + r = 4 ∨ 4 + r = 5 := by omega
      have HOPV := Aside0.mk hopv
      have HWD := Aside0.mk (show wrap64 (d' : Int) = (d' : Int) from by unfold wrap64; omega)
      clear hm7 hc7 HA hopv
      have hb7 := HA7.out.hbk
      have g0 := (blk_cell hb7 0).trans rfl
      have g1 := (blk_cell hb7 1).trans rfl
      have g2 := (blk_cell hb7 2).trans rfl
      have g3 := (blk_cell hb7 3).trans rfl
      clear hb7
      go_wp2_with fail
      refine (HIH0.out w7 HA7.out.ms HA7.out.chg).mono ?_
      rintro e w8 ⟨xc, Ax, cx, rfl, hlx, hgx, hFx, hm8, hc8⟩
      have HA8 := Aside0.mk (HA7.out.call hm8 hc8 hmw)
      have hrl8 := blk_lt HA8.out.rb
      have hrl7 := blk_lt HA7.out.rb
      have hbx := below_al (Below.refl w8.heap.size w8) (.cells #[.int .i64 xc.f0, .int .i64 xc.f1, .string xc.f2, .int .i64 xc.f3, .slice Ax xc.f4.length cx] 26 (0, 0))
      have HXG := Aside0.mk (And.intro hgx hlx)
      obtain ⟨xb, hxb⟩ : ∃ xb, w8.heap.size = xb := ⟨_, rfl⟩
      have HX6 := Aside0.mk (And.intro (show (w8.alloc (.cells #[.int .i64 xc.f0, .int .i64 xc.f1, .string xc.f2, .int .i64 xc.f3, .slice Ax xc.f4.length cx] 26 (0, 0))).heap[xb]? = some (.cells #[.int .i64 xc.f0, .int .i64 xc.f1, .string xc.f2, .int .i64 xc.f3, .slice Ax xc.f4.length cx] 26 (0, 0)) from hxb ▸ blk_new _ _) (Kd.F_mono (Kd.F_alloc hFx (.cells #[.int .i64 xc.f0, .int .i64 xc.f1, .string xc.f2, .int .i64 xc.f3, .slice Ax xc.f4.length cx] 26 (0, 0))) (fun k hk => show w.heap.size + 1 < k by omega)))
      have HA := Aside0.mk (HA8.out.step hbx)
      have hxm : ¬ xb = m := by omega
      have hxs : ¬ xb = w.heap.size + 1 := by omega
      have HXB0 := Aside0.mk hxb
      clear hlx hgx hFx hm8 hc8 hbx hxb g0 g1 g2 g3
      go_upto_region 7 with fail
      rw [HXB0.out]
      generalize w8.alloc _ = wx at HX6 HA ⊢
      refine wp_region_any (by kernel_rfl) ?_
      obtain ⟨wd, hwd⟩ : ∃ wd, wd = wx.drew := ⟨_, rfl⟩
      change wpAny _ _ _ _ _ _ _ wx.drew
      rw [← hwd]
      have hbd : Below wx.heap.size wx wd := by rw [hwd]; exact below_drew (Below.refl _ _)
      clear hwd
      have HD := Aside0.mk (HA.out.step hbd)
      have HBD := Aside0.mk HD.out.hbk
      have hmd : m < wd.heap.size := HD.out.ms.lt
      have hsd : w.heap.size + 1 < wd.heap.size := blk_lt HD.out.rb
      have HXB := Aside0.mk (blk_below HX6.out.1 hbd)
      have HXF := Aside0.mk (show ∀ w9, Chg (fun k => k = m ∨ k = w.heap.size + 1) wd w9 → Kd.F kCond w9 (fun k => w.heap.size + 1 < k) Ax xc.f4.length xc.f4 from fun w9 hc9 => Kd.F_step (Kd.F_below HX6.out.2 hbd) (fun j h1 h2 => hc9.block j h2 (fun e => by omega)))
      have HIH := Aside0.mk (show ∀ w9, MS w0 w9 m → Chg (fun k => k = m ∨ k = w.heap.size + 1) wd w9 → Calls Try.prog 66 #[.pointer (some ⟨m, 0, none⟩), .agg #[.int .i64 vals, .int .i64 nl, .bool false, .bool false], .slice (some ad) RS.length cR, .int .i64 d'] w9 (MCondPost w0 w9 m vals nl RS d') from fun w9 hm9 hc9 => HIH0.out w9 hm9 (HD.out.chg.trans hc9 (fun k hk e => by omega)))
      clear hbd
      refine wpAny_flow2 rfl (by kernel_rfl) [some 40, some 41, some 42, some 43, some 44, some 45, some 46, some 47, some 48, some 49, none] rfl (by decide) [40, 41, 42, 43, 44, 45, 46, 47, 48, 49] rfl 93 rfl (by decide) (PhiC vals nl RS d' (w.heap.size + 1) [TagC.fix (.int .i64 (4 + r)), TagC.fix (.agg #[.int .i64 xc.f0, .int .i64 xc.f1, .string xc.f2, .int .i64 xc.f3, .slice Ax xc.f4.length cx]), TagC.fix (.pointer (some (⟨m, 0, none⟩ : Addr))), TagC.fix (.agg #[.int .i64 vals, .int .i64 (nl : Int), .bool false, .bool false]), TagC.fix (.slice (some ad) RS.length cR), TagC.fix (.int .i64 d), TagC.fix (.int .i64 d'), TagC.cnd, TagC.cnds 2, TagC.top, TagC.any]) (JC w0 wd m (w.heap.size + 1) vals nl RS (d' + 1) 10) ?_ ?_ ?_ _ _ (by simp) (by decide) (no_flag 11)
      · intro i9 o dd r9 f a w9 ho hp hr9 hI hf hd K hK
        have hi9 : i9 < 11 := (Array.getElem?_eq_some_iff.1 ho).1
        match i9, hi9 with
        | 0, _ =>
          obtain rfl := Option.some.inj ho
          obtain rfl := Option.some.inj hp
          obtain rfl := Option.some.inj hr9
          refine want_yes rfl ?_
          have e := (hI.sl 10 rfl).trans (rfl : _ = (.int .i64 (4 + r) : Value))
          unfold Oper.wp; simp [execOp, e, go_sem]; exact hK _ _ (fun _ _ => rfl) (fun _ _ _ _ h => h) (hI.j.other (by decide))
        | 1, _ =>
          obtain rfl := Option.some.inj ho
          obtain rfl := Option.some.inj hp
          obtain rfl := Option.some.inj hr9
          refine want_yes rfl ?_
          have e := (hI.sl 11 rfl).trans (rfl : _ = (.pointer (some (⟨xb, 0, none⟩ : Addr)) : Value))
          have hk := hI.j.chg.heap HXB.out (fun e => e.elim hxm hxs)
          have c0 := (blk_cell hk 0).trans rfl
          have c1 := (blk_cell hk 1).trans rfl
          have c2 := (blk_cell hk 2).trans rfl
          have c3 := (blk_cell hk 3).trans rfl
          have c4 := (blk_cell hk 4).trans rfl
          unfold Oper.wp; simp [execOp, e, c0, c1, c2, c3, c4, go_sem]; exact hK _ _ (fun _ _ => rfl) (fun _ _ _ _ h => h) (hI.j.other (by decide))
        | 2, _ =>
          obtain rfl := Option.some.inj ho
          obtain rfl := Option.some.inj hp
          obtain rfl := Option.some.inj hr9
          refine want_yes rfl ?_
          have e := (hI.sl 0 rfl).trans (rfl : _ = (.pointer (some (⟨m, 0, none⟩ : Addr)) : Value))
          unfold Oper.wp; simp [execOp, e, go_sem]; exact hK _ _ (fun _ _ => rfl) (fun _ _ _ _ h => h) (hI.j.other (by decide))
        | 3, _ =>
          obtain rfl := Option.some.inj ho
          obtain rfl := Option.some.inj hp
          obtain rfl := Option.some.inj hr9
          refine want_yes rfl ?_
          have e := (hI.sl 5 rfl).trans (rfl : _ = (.pointer (some (⟨w.heap.size, 0, none⟩ : Addr)) : Value))
          have hk := hI.j.chg.heap HBD.out (fun e => e.elim hbm hbs)
          have c0 := (blk_cell hk 0).trans rfl
          have c1 := (blk_cell hk 1).trans rfl
          have c2 := (blk_cell hk 2).trans rfl
          have c3 := (blk_cell hk 3).trans rfl
          unfold Oper.wp; simp [execOp, e, c0, c1, c2, c3, go_sem]; exact hK _ _ (fun _ _ => rfl) (fun _ _ _ _ h => h) (hI.j.other (by decide))
        | 4, _ =>
          obtain rfl := Option.some.inj ho
          obtain rfl := Option.some.inj hp
          obtain rfl := Option.some.inj hr9
          refine want_yes rfl ?_
          have e := (hI.sl 2 rfl).trans (rfl : _ = (.slice (some ad) RS.length cR : Value))
          unfold Oper.wp; simp [execOp, e, go_sem]; exact hK _ _ (fun _ _ => rfl) (fun _ _ _ _ h => h) (hI.j.other (by decide))
        | 5, _ =>
          obtain rfl := Option.some.inj ho
          obtain rfl := Option.some.inj hp
          obtain rfl := Option.some.inj hr9
          refine want_yes rfl ?_
          have e := (hI.sl 3 rfl).trans (rfl : _ = (.int .i64 d : Value))
          unfold Oper.wp; simp [execOp, e, go_sem]; exact hK _ _ (fun _ _ => rfl) (fun _ _ _ _ h => h) (hI.j.other (by decide))
        | 6, _ =>
          obtain rfl := Option.some.inj ho
          obtain rfl := Option.some.inj hp
          obtain rfl := Option.some.inj hr9
          refine want_yes rfl ?_
          have e0 : gt a 45 = .int .i64 d := hI.v 5 45 rfl (hd 5 (of_decide_eq_true (by kernel_rfl)))
          unfold Oper.wp; simp [execOp, e0, hd1w, hd1, i64_w, HWD.out, go_sem]; exact hK _ _ (fun _ _ => rfl) (fun _ _ _ _ h => h) (hI.j.other (by decide))
        | 7, _ =>
          obtain rfl := Option.some.inj ho
          obtain rfl := Option.some.inj hp
          obtain rfl := Option.some.inj hr9
          have e0 : gt a 42 = .pointer (some (⟨m, 0, none⟩ : Addr)) := hI.v 2 42 rfl (hd 2 (of_decide_eq_true (by kernel_rfl)))
          have e1 : gt a 43 = .agg #[.int .i64 vals, .int .i64 (nl : Int), .bool false, .bool false] := hI.v 3 43 rfl (hd 3 (of_decide_eq_true (by kernel_rfl)))
          have e2 : gt a 44 = .slice (some ad) RS.length cR := hI.v 4 44 rfl (hd 4 (of_decide_eq_true (by kernel_rfl)))
          have e3 : gt a 46 = .int .i64 d' := hI.v 6 46 rfl (hd 6 (of_decide_eq_true (by kernel_rfl)))
          have n8 : f 8 = false := hI.nf2 (i := 7) (k := 8) hf (by kernel_rfl)
          have n9 : f 9 = false := hI.nf2 (i := 8) (k := 9) n8 (by kernel_rfl)
          have n10 : f 10 = false := hI.nf2 (i := 9) (k := 10) n9 (by kernel_rfl)
          refine goes_ (N := some 47) Try.func66 (by kernel_rfl) rfl #[.pointer (some (⟨m, 0, none⟩ : Addr)), .agg #[.int .i64 vals, .int .i64 (nl : Int), .bool false, .bool false], .slice (some ad) RS.length cR, .int .i64 d'] (by simp [Region.wanted]) rfl rfl (by simp [Act.eval]; exact ⟨e0, e1, e2, e3⟩) ?_
          refine Calls.mono (HIH.out w9 hI.j.ms hI.j.chg) ?_
          rintro _ w5 ⟨x, A4, c4, rfl, hl4, hg4, hF4, hm5, hc5⟩
          exact ⟨_, rfl, hK _ _ (fun _ _ => ⟨x, A4, c4, rfl, hl4, hg4, Kd.F_mono hF4 (fun k hk => by have := hI.j.chg.size; omega)⟩) (fun _ _ _ _ h => h.chg hc5 (fun j e => by subst e; omega)) ((hI.j.call n10 hm5 hc5 hms2).other (by decide))⟩
        | 8, _ =>
          obtain rfl := Option.some.inj ho
          obtain rfl := Option.some.inj hp
          obtain rfl := Option.some.inj hr9
          refine want_yes rfl ?_
          have e0 : gt a 41 = .agg #[.int .i64 xc.f0, .int .i64 xc.f1, .string xc.f2, .int .i64 xc.f3, .slice Ax xc.f4.length cx] := hI.v 1 41 rfl (hd 1 (of_decide_eq_true (by kernel_rfl)))
          obtain ⟨y, A4, c4, e1, hl4, hg4, hF4⟩ := (show CV vals nl RS d' w9 (fun k => w.heap.size + 1 < k) (gt a 47) from hI.v 7 47 rfl (hd 7 (of_decide_eq_true (by kernel_rfl))))
          have n9 : f 9 = false := hI.nf2 (i := 8) (k := 9) hf (by kernel_rfl)
          have n10 : f 10 = false := hI.nf2 (i := 9) (k := 10) n9 (by kernel_rfl)
          have hb := below_al (Below.refl w9.heap.size w9) (.cells #[.int .i64 xc.f0, .int .i64 xc.f1, .string xc.f2, .int .i64 xc.f3, .slice Ax xc.f4.length cx, .int .i64 y.f0, .int .i64 y.f1, .string y.f2, .int .i64 y.f3, .slice A4 y.f4.length c4] 26 (0, 0))
          have hFx := HXF.out w9 hI.j.chg
          unfold Oper.wp; simp [execOp, e0, e1, go_sem]
          exact hK _ _ (fun _ _ => ⟨w9.heap.size, [xc, y], rfl, rfl, (fun q hq => by rcases List.mem_cons.1 hq with rfl | hq; exact HXG.out.1; obtain rfl := List.mem_singleton.1 hq; exact hg4), cnds_two (blk_new _ _) (by have := hI.j.chg.size; omega) HXG.out.2 (Kd.F_alloc hFx _) hl4 (Kd.F_alloc hF4 _)⟩) (fun _ _ _ _ h => h.move (fun j _ h2 => hb.block j h2)) ((hI.j.below n10 hb).other (by decide))
        | 9, _ =>
          obtain rfl := Option.some.inj ho
          obtain rfl := Option.some.inj hp
          obtain rfl := Option.some.inj hr9
          refine want_yes rfl ?_
          have e0 : gt a 40 = .int .i64 (4 + r) := hI.v 0 40 rfl (hd 0 (of_decide_eq_true (by kernel_rfl)))
          obtain ⟨b, xs, e1, hlen, hgs, hF⟩ := (show ∃ (b : Nat) (xs : List TCond), gt a 48 = .slice (some ⟨b, 0, none⟩) 2 2 ∧ xs.length = 2 ∧ (∀ x ∈ xs, gdC vals nl RS d' x) ∧ Kd.F kCond w9 (fun k => w.heap.size + 1 < k) (some ⟨b, 0, none⟩) 2 xs from hI.v 8 48 rfl (hd 8 (of_decide_eq_true (by kernel_rfl))))
          unfold Oper.wp; simp [execOp, e0, e1, go_sem]
          exact hK _ _ (fun _ _ => ⟨⟨4 + r, 0, ⟨#[]⟩, 0, xs⟩, some ⟨b, 0, none⟩, 2, by rw [hlen], by rw [hlen]; exact Nat.le_refl 2, gdC_two (4 + r) xs HOPV.out hlen hgs, by rw [hlen]; exact hF⟩) (fun _ _ _ _ h => h) (hI.j.other (by decide))
        | 10, _ =>
          obtain rfl := Option.some.inj ho
          obtain rfl := Option.some.inj hp
          obtain rfl := Option.some.inj hr9
          refine want_yes rfl ?_
          have e := (hI.sl 8 rfl).trans (rfl : _ = (.pointer (some (⟨w.heap.size + 1, 0, none⟩ : Addr)) : Value))
          obtain ⟨x, A4, c4, e1, hl4, hg4, hF4⟩ := (show CV vals nl RS (d' + 1) w9 (fun k => w.heap.size + 1 < k) (gt a 49) from hI.v 9 49 rfl (hd 9 (of_decide_eq_true (by kernel_rfl))))
          have hz := hI.j.zb hf
          have c0' := (blk_cell hz 0).trans rfl
          have c1' := (blk_cell hz 1).trans rfl
          have c2' := (blk_cell hz 2).trans rfl
          have c3' := (blk_cell hz 3).trans rfl
          have c4' := (blk_cell hz 4).trans rfl
          have fz := blk_frozen hz
          obtain ⟨hp5, hch5⟩ := put5 hz (.int .i64 x.f0) (.int .i64 x.f1) (.string x.f2) (.int .i64 x.f3) (.slice A4 x.f4.length c4)
          unfold Oper.wp; simp [execOp, e, e1, c0', c1', c2', c3', c4', fz, go_sem]
          exact hK undef _ (fun d h => by cases h) (fun _ _ _ _ h => h.chg hch5 (fun j e => by subst e; omega)) ⟨hI.j.ms.chg hch5 hms2 (fun _ e => e ▸ hs0), hI.j.chg.step (hch5.mono (fun _ e => .inr e)), fun e => absurd ((upd_eq f 10).symm.trans e) (by decide), fun _ => ⟨x, A4, c4, hp5, hl4, hg4, Kd.F_step hF4 (fun j h1 h2 => hch5.block j h2 (fun e => by omega))⟩⟩
      · intro f g w9 hall hJ hg
        obtain ⟨x, A4, c4, h1, h2, h3, h4⟩ := hJ.st (hall 10 (by decide))
        have HX := Aside0.mk (And.intro h2 (And.intro h3 (And.intro (Kd.F_mono h4 (fun k hk => show w.heap.size ≤ k by omega)) (And.intro hJ.ms (HD.out.chg.trans hJ.chg (fun k hk e => by omega))))))
        have HRB := Aside0.mk h1
        clear hJ hg h1 h2 h3 h4
        simp only [List.map_cons, List.map_nil, fill, List.setIfInBounds_toArray, List.set_cons_zero, List.set_cons_succ]
        go_wp2
        refine bodyPost_ret (results_cell_row rfl _ _ (w.heap.size + 1) 26 #[.int .i64 x.f0, .int .i64 x.f1, .string x.f2, .int .i64 x.f3, .slice A4 x.f4.length c4] (0, 0) _ rfl HRB.out Try.underlying26 rfl (by kernel_rfl)) rfl ?_
        exact ⟨x, A4, c4, rfl, HX.out.1, (by rw [HDD.out]; exact HX.out.2.1), HX.out.2.2.1, HX.out.2.2.2.1, HX.out.2.2.2.2⟩
      · intro f hf
        exact ⟨HD.out.ms, Chg.refl _ _, fun _ => HD.out.rb, fun e => absurd ((hf 10).symm.trans e) (by decide)⟩
  · go_upto_region 2 with fail
    go_cut [20] (fun v20 wx => v20 = .bool false ∧ wx = w6)
    case first =>
      by_cases hd0 : 0 < d
      · have dd : decide (0 < (d : Int)) = true := decide_eq_true (by omega)
        have dd2 : decide (0 < d) = true := decide_eq_true hd0
        have d3 : decide (3 < k) = false := decide_eq_false (by omega)
        clear hdk hd0
        go_wp2
        go_meet
        exact ⟨rfl, rfl⟩
      · have dd : decide (0 < (d : Int)) = false := decide_eq_false (by omega)
        have dd2 : decide (0 < d) = false := decide_eq_false hd0
        clear hdk hd0
        go_wp2
        go_meet
        exact ⟨rfl, rfl⟩
    case rest =>
    obtain ⟨rfl, rfl⟩ := hcut
    clear hdk
    go_wp2_with fail
    refine (pick_any w0 _ m HA.out.ms (RS.length : Int)).mono ?_
    rintro e w7 ⟨r, rfl, hr0, hr1', hm7, hc7⟩
    have HA7 := Aside0.mk (HA.out.call hm7 hc7 hmw)
    obtain ⟨t, rfl⟩ : ∃ t : Nat, r = t := ⟨r.toNat, by omega⟩
    have htl : t < RS.length := by omega
    obtain ⟨ad', cc, he, hcl, hFK, hcc, hok⟩ := Kd.F_get HR.out.1 ([] : List ByteArray) (t : Int) (by omega) (by omega)
    injection he with he
    subst he
    obtain ⟨A2, c2, rfl, hl2, hF2⟩ := Kd.FK_slice_open hFK
    have hgd : RS.getD (t : Int).toNat [] = RS[t] := by rw [Int.toNat_natCast, List.getD_eq_getElem?_getD, List.getElem?_eq_getElem htl]; rfl
    have hrow : w.cell? (ad.add t) = some (.slice A2 (RS.getD (t : Int).toNat []).length c2) := by have := hcc 0 _ rfl; simpa [kRegs, Kd.slice] using this
    rw [hgd] at hrow hl2 hF2
    have HRTH := Aside0.mk (show RS[t]? = some RS[t] from List.getElem?_eq_getElem htl)
    have HRL := Aside0.mk (HR.out.2 _ (List.getElem_mem htl))
    generalize RS[t] = RT at hrow hl2 hF2 HRTH HRL
    have hadm : ¬ (ad.add t).block = m := by rw [add_block]; exact (hok (by decide)).1
    have hads : (ad.add t).block < w.heap.size := by rw [add_block]; exact (hok (by decide)).2
    have crow := cell_chg HA7.out.chg hrow hadm
    have t0 : decide ((0 : Int) ≤ (t : Int)) = true := decide_eq_true (by omega)
    have t1 : decide ((t : Int) < (RS.length : Int)) = true := decide_eq_true (by omega)
    have t2 : decide (t < RS.length) = true := decide_eq_true htl
    have t3 : t < RS.length := htl
    have HROW := Aside0.mk hrow
    clear hrow hFK hcc hcl hok hgd hm7 hc7 HA
    have HA := HA7
    by_cases hkl : 0 < k ∧ 0 < RT.length
    · obtain ⟨hk0', hRT⟩ := hkl
      obtain ⟨ad2, -, rfl, -⟩ := Kd.F_get hF2 (⟨#[]⟩ : ByteArray) 0 (by decide) (by omega)
      have hok2 := Kd.F_get hF2 (⟨#[]⟩ : ByteArray) 0 (by decide) (by omega)
      obtain ⟨ad3, c3, he3, -, -, -, hok3⟩ := hok2
      injection he3 with he3
      subst he3
      have HR10 := Aside0.mk (And.intro HROW.out (And.intro hadm (And.intro hads (And.intro (show ∀ rn (hrn : rn < RT.length), w.cell? (ad2.add rn) = some (.string RT[rn]) from fun rn hrn => by
        obtain ⟨ad4, c4, he4, -, hK4, hcc4, -⟩ := Kd.F_get hF2 (⟨#[]⟩ : ByteArray) (rn : Int) (by omega) (by omega)
        injection he4 with he4
        subst he4
        have hg4 : RT.getD (rn : Int).toNat ⟨#[]⟩ = RT[rn] := by rw [Int.toNat_natCast, List.getD_eq_getElem?_getD, List.getElem?_eq_getElem hrn]; rfl
        rw [hg4] at hK4
        have hK5 : c4 = [.string RT[rn]] := Kd.FK_now hK4
        subst hK5
        have := hcc4 0 _ rfl
        simpa [Kd.string, Kd.scalar] using this) (And.intro (show ¬ ad2.block = m from (hok3 (by decide)).1) (show ad2.block < w.heap.size from (hok3 (by decide)).2))))))
      have HF2 := Aside0.mk hF2
      have k1 : decide (0 < k) = true := decide_eq_true hk0'
      have k2 : decide ((0 : Int) < (RT.length : Int)) = true := decide_eq_true (by omega)
      have k3 : decide (0 < RT.length) = true := decide_eq_true hRT
      clear hF2 hok3 hl2
      go_upto_region 10 with fail
      clear crow k1 k2 k3 hk0'
      refine wp_region_any (by kernel_rfl) ?_
      obtain ⟨wd, hwd⟩ : ∃ wd, wd = w7.drew := ⟨_, rfl⟩
      change wpAny _ _ _ _ _ _ _ w7.drew
      rw [← hwd]
      have hbd : Below w7.heap.size w7 wd := by rw [hwd]; exact below_drew (Below.refl _ _)
      clear hwd
      have HD := Aside0.mk (HA.out.step hbd)
      have HBD := Aside0.mk HD.out.hbk
      have hmd : m < wd.heap.size := HD.out.ms.lt
      have hsd : w.heap.size + 1 < wd.heap.size := blk_lt HD.out.rb
      have HRT := Aside0.mk (And.intro (cell_chg HD.out.chg HR10.out.1 HR10.out.2.1) (And.intro HR10.out.2.1 (And.intro (show ¬ (ad.add t).block = w.heap.size + 1 from fun e => by have := HR10.out.2.2.1; omega) (And.intro (show ∀ rn (hrn : rn < RT.length), wd.cell? (ad2.add rn) = some (.string RT[rn]) from fun rn hrn => cell_chg HD.out.chg (HR10.out.2.2.2.1 rn hrn) (by rw [add_block]; exact HR10.out.2.2.2.2.1)) (And.intro HR10.out.2.2.2.2.1 (show ¬ ad2.block = w.heap.size + 1 from fun e => by have := HR10.out.2.2.2.2.2; omega))))))
      clear hbd
      refine wpAny_flow2 rfl (by kernel_rfl) [some 64, some 65, some 66, some 67, some 68, some 69, some 70, some 71, some 72, some 73, some 74, some 75, some 76, some 77, some 78, some 79, some 80, some 81, some 82, none] rfl (by decide) [64, 65, 66, 67, 68, 69, 70, 71, 72, 73, 74, 75, 76, 77, 78, 79, 80, 81, 82] rfl 93 rfl (by decide) (PhiC vals nl RS d (w.heap.size + 1) [TagC.fix (.int .i64 (t : Int)), TagC.fix (.slice (some ad) RS.length cR), TagC.fix (.int .i64 (t : Int)), TagC.fix (.pointer (some (ad.add t))), TagC.fix (.slice (some ad2) RT.length c2), TagC.fix (.pointer (some (⟨m, 0, none⟩ : Addr))), TagC.fix (.slice (some ad) RS.length cR), TagC.fix (.int .i64 (t : Int)), TagC.fix (.pointer (some (ad.add t))), TagC.fix (.slice (some ad2) RT.length c2), TagC.fix (.int .i64 (RT.length : Int)), TagC.pure (fun v => ∃ r, v = .int .i64 r ∧ 0 ≤ r ∧ r < (RT.length : Int)), TagC.pure (fun v => ∃ rn : Nat, v = .pointer (some (ad2.add rn)) ∧ rn < RT.length), TagC.pure (fun v => ∃ s, v = .string s ∧ s ∈ RT), TagC.fix (.pointer (some (⟨m, 0, none⟩ : Addr))), TagC.fix (.pointer (some (⟨w.heap.size, 0, none⟩ : Addr))), TagC.fix (.int .i64 vals), TagC.pure (fun v => ∃ r, v = .int .i64 r ∧ 0 ≤ r ∧ r < vals), TagC.cnd, TagC.any]) (JC w0 wd m (w.heap.size + 1) vals nl RS d 19) ?_ ?_ ?_ _ _ (by simp) (by decide) (no_flag 20)
      · intro i9 o dd r9 f a w9 ho hp hr9 hI hf hd K hK
        have hi9 : i9 < 20 := (Array.getElem?_eq_some_iff.1 ho).1
        match i9, hi9 with
        | 0, _ =>
          obtain rfl := Option.some.inj ho
          obtain rfl := Option.some.inj hp
          obtain rfl := Option.some.inj hr9
          refine want_yes rfl ?_
          have e := (hI.sl 12 rfl).trans (rfl : _ = (.int .i64 (t : Int) : Value))
          unfold Oper.wp; simp [execOp, e, go_sem]; exact hK _ _ (fun _ _ => rfl) (fun _ _ _ _ h => h) (hI.j.other (by decide))
        | 1, _ =>
          obtain rfl := Option.some.inj ho
          obtain rfl := Option.some.inj hp
          obtain rfl := Option.some.inj hr9
          refine want_yes rfl ?_
          have e := (hI.sl 2 rfl).trans (rfl : _ = (.slice (some ad) RS.length cR : Value))
          unfold Oper.wp; simp [execOp, e, go_sem]; exact hK _ _ (fun _ _ => rfl) (fun _ _ _ _ h => h) (hI.j.other (by decide))
        | 2, _ =>
          obtain rfl := Option.some.inj ho
          obtain rfl := Option.some.inj hp
          obtain rfl := Option.some.inj hr9
          refine want_yes rfl ?_
          have e := (hI.sl 12 rfl).trans (rfl : _ = (.int .i64 (t : Int) : Value))
          unfold Oper.wp; simp [execOp, e, go_sem]; exact hK _ _ (fun _ _ => rfl) (fun _ _ _ _ h => h) (hI.j.other (by decide))
        | 3, _ =>
          obtain rfl := Option.some.inj ho
          obtain rfl := Option.some.inj hp
          obtain rfl := Option.some.inj hr9
          refine want_yes rfl ?_
          have e0 : gt a 65 = .slice (some ad) RS.length cR := hI.v 1 65 rfl (hd 1 (of_decide_eq_true (by kernel_rfl)))
          have e1 : gt a 66 = .int .i64 (t : Int) := hI.v 2 66 rfl (hd 2 (of_decide_eq_true (by kernel_rfl)))
          unfold Oper.wp; simp [execOp, e0, e1, t0, t1, t2, t3, go_sem]; exact hK _ _ (fun _ _ => rfl) (fun _ _ _ _ h => h) (hI.j.other (by decide))
        | 4, _ =>
          obtain rfl := Option.some.inj ho
          obtain rfl := Option.some.inj hp
          obtain rfl := Option.some.inj hr9
          refine want_yes rfl ?_
          have e : gt a 67 = .pointer (some (ad.add t)) := hI.v 3 67 rfl (hd 3 (of_decide_eq_true (by kernel_rfl)))
          have c := cell_chg hI.j.chg HRT.out.1 (fun q => q.elim HRT.out.2.1 HRT.out.2.2.1)
          unfold Oper.wp; simp [execOp, e, c, go_sem]; exact hK _ _ (fun _ _ => rfl) (fun _ _ _ _ h => h) (hI.j.other (by decide))
        | 5, _ =>
          obtain rfl := Option.some.inj ho
          obtain rfl := Option.some.inj hp
          obtain rfl := Option.some.inj hr9
          refine want_yes rfl ?_
          have e := (hI.sl 0 rfl).trans (rfl : _ = (.pointer (some (⟨m, 0, none⟩ : Addr)) : Value))
          unfold Oper.wp; simp [execOp, e, go_sem]; exact hK _ _ (fun _ _ => rfl) (fun _ _ _ _ h => h) (hI.j.other (by decide))
        | 6, _ =>
          obtain rfl := Option.some.inj ho
          obtain rfl := Option.some.inj hp
          obtain rfl := Option.some.inj hr9
          refine want_yes rfl ?_
          have e := (hI.sl 2 rfl).trans (rfl : _ = (.slice (some ad) RS.length cR : Value))
          unfold Oper.wp; simp [execOp, e, go_sem]; exact hK _ _ (fun _ _ => rfl) (fun _ _ _ _ h => h) (hI.j.other (by decide))
        | 7, _ =>
          obtain rfl := Option.some.inj ho
          obtain rfl := Option.some.inj hp
          obtain rfl := Option.some.inj hr9
          refine want_yes rfl ?_
          have e := (hI.sl 12 rfl).trans (rfl : _ = (.int .i64 (t : Int) : Value))
          unfold Oper.wp; simp [execOp, e, go_sem]; exact hK _ _ (fun _ _ => rfl) (fun _ _ _ _ h => h) (hI.j.other (by decide))
        | 8, _ =>
          obtain rfl := Option.some.inj ho
          obtain rfl := Option.some.inj hp
          obtain rfl := Option.some.inj hr9
          refine want_yes rfl ?_
          have e0 : gt a 70 = .slice (some ad) RS.length cR := hI.v 6 70 rfl (hd 6 (of_decide_eq_true (by kernel_rfl)))
          have e1 : gt a 71 = .int .i64 (t : Int) := hI.v 7 71 rfl (hd 7 (of_decide_eq_true (by kernel_rfl)))
          unfold Oper.wp; simp [execOp, e0, e1, t0, t1, t2, t3, go_sem]; exact hK _ _ (fun _ _ => rfl) (fun _ _ _ _ h => h) (hI.j.other (by decide))
        | 9, _ =>
          obtain rfl := Option.some.inj ho
          obtain rfl := Option.some.inj hp
          obtain rfl := Option.some.inj hr9
          refine want_yes rfl ?_
          have e : gt a 72 = .pointer (some (ad.add t)) := hI.v 8 72 rfl (hd 8 (of_decide_eq_true (by kernel_rfl)))
          have c := cell_chg hI.j.chg HRT.out.1 (fun q => q.elim HRT.out.2.1 HRT.out.2.2.1)
          unfold Oper.wp; simp [execOp, e, c, go_sem]; exact hK _ _ (fun _ _ => rfl) (fun _ _ _ _ h => h) (hI.j.other (by decide))
        | 10, _ =>
          obtain rfl := Option.some.inj ho
          obtain rfl := Option.some.inj hp
          obtain rfl := Option.some.inj hr9
          refine want_yes rfl ?_
          have e0 : gt a 73 = .slice (some ad2) RT.length c2 := hI.v 9 73 rfl (hd 9 (of_decide_eq_true (by kernel_rfl)))
          unfold Oper.wp; simp [execOp, e0, go_sem]; exact hK _ _ (fun _ _ => rfl) (fun _ _ _ _ h => h) (hI.j.other (by decide))
        | 11, _ =>
          obtain rfl := Option.some.inj ho
          obtain rfl := Option.some.inj hp
          obtain rfl := Option.some.inj hr9
          have e0 : gt a 69 = .pointer (some (⟨m, 0, none⟩ : Addr)) := hI.v 5 69 rfl (hd 5 (of_decide_eq_true (by kernel_rfl)))
          have e1 : gt a 74 = .int .i64 (RT.length : Int) := hI.v 10 74 rfl (hd 10 (of_decide_eq_true (by kernel_rfl)))
          have n12 : f 12 = false := hI.nf2 (i := 11) (k := 12) hf (by kernel_rfl)
          have n13 : f 13 = false := hI.nf2 (i := 12) (k := 13) n12 (by kernel_rfl)
          have n18 : f 18 = false := hI.nf2 (i := 13) (k := 18) n13 (by kernel_rfl)
          have n19 : f 19 = false := hI.nf2 (i := 18) (k := 19) n18 (by kernel_rfl)
          refine goes_ (N := some 75) Try.func37 (by kernel_rfl) rfl #[.pointer (some (⟨m, 0, none⟩ : Addr)), .int .i64 (RT.length : Int)] (by simp [Region.wanted]) rfl rfl (by simp [Act.eval]; exact ⟨e0, e1⟩) ?_
          refine Calls.mono (pick_any w0 w9 m hI.j.ms (RT.length : Int)) ?_
          rintro _ w5 ⟨r, rfl, hr0, hr1, hm5, hc5⟩
          exact ⟨_, rfl, hK _ _ (fun _ _ => ⟨r, rfl, hr0, by omega⟩) (fun _ _ _ _ h => h.chg hc5 (fun j e => by subst e; omega)) ((hI.j.call n19 hm5 hc5 hms2).other (by decide))⟩
        | 12, _ =>
          obtain rfl := Option.some.inj ho
          obtain rfl := Option.some.inj hp
          obtain rfl := Option.some.inj hr9
          refine want_yes rfl ?_
          have e0 : gt a 68 = .slice (some ad2) RT.length c2 := hI.v 4 68 rfl (hd 4 (of_decide_eq_true (by kernel_rfl)))
          obtain ⟨r, e1, hr0, hr1⟩ := (show ∃ r, gt a 75 = .int .i64 r ∧ 0 ≤ r ∧ r < (RT.length : Int) from hI.v 11 75 rfl (hd 11 (of_decide_eq_true (by kernel_rfl))))
          obtain ⟨rn, rfl⟩ : ∃ rn : Nat, r = rn := ⟨r.toNat, by omega⟩
          have j0 : decide ((0 : Int) ≤ (rn : Int)) = true := decide_eq_true (by omega)
          have j1 : decide ((rn : Int) < (RT.length : Int)) = true := decide_eq_true hr1
          have j2 : rn < RT.length := by omega
          unfold Oper.wp; simp [execOp, e0, e1, j0, j1, j2, go_sem]; exact hK _ _ (fun _ _ => ⟨rn, rfl, j2⟩) (fun _ _ _ _ h => h) (hI.j.other (by decide))
        | 13, _ =>
          obtain rfl := Option.some.inj ho
          obtain rfl := Option.some.inj hp
          obtain rfl := Option.some.inj hr9
          refine want_yes rfl ?_
          obtain ⟨rn, e, hrn⟩ := (show ∃ rn : Nat, gt a 76 = .pointer (some (ad2.add rn)) ∧ rn < RT.length from hI.v 12 76 rfl (hd 12 (of_decide_eq_true (by kernel_rfl))))
          have c := cell_chg hI.j.chg (HRT.out.2.2.2.1 rn hrn) (by rw [add_block]; exact fun q => q.elim HRT.out.2.2.2.2.1 HRT.out.2.2.2.2.2)
          unfold Oper.wp; simp [execOp, e, c, go_sem]; exact hK _ _ (fun _ _ => ⟨_, rfl, List.getElem_mem hrn⟩) (fun _ _ _ _ h => h) (hI.j.other (by decide))
        | 14, _ =>
          obtain rfl := Option.some.inj ho
          obtain rfl := Option.some.inj hp
          obtain rfl := Option.some.inj hr9
          refine want_yes rfl ?_
          have e := (hI.sl 0 rfl).trans (rfl : _ = (.pointer (some (⟨m, 0, none⟩ : Addr)) : Value))
          unfold Oper.wp; simp [execOp, e, go_sem]; exact hK _ _ (fun _ _ => rfl) (fun _ _ _ _ h => h) (hI.j.other (by decide))
        | 15, _ =>
          obtain rfl := Option.some.inj ho
          obtain rfl := Option.some.inj hp
          obtain rfl := Option.some.inj hr9
          refine want_yes rfl ?_
          have e := (hI.sl 5 rfl).trans (rfl : _ = (.pointer (some (⟨w.heap.size, 0, none⟩ : Addr)) : Value))
          unfold Oper.wp; simp [execOp, e, go_sem]; exact hK _ _ (fun _ _ => rfl) (fun _ _ _ _ h => h) (hI.j.other (by decide))
        | 16, _ =>
          obtain rfl := Option.some.inj ho
          obtain rfl := Option.some.inj hp
          obtain rfl := Option.some.inj hr9
          refine want_yes rfl ?_
          have e : gt a 79 = .pointer (some (⟨w.heap.size, 0, none⟩ : Addr)) := hI.v 15 79 rfl (hd 15 (of_decide_eq_true (by kernel_rfl)))
          have hk := hI.j.chg.heap HBD.out (fun e => e.elim hbm hbs)
          have c := (blk_cell hk 0).trans rfl
          unfold Oper.wp; simp [execOp, e, c, go_sem]; exact hK _ _ (fun _ _ => rfl) (fun _ _ _ _ h => h) (hI.j.other (by decide))
        | 17, _ =>
          obtain rfl := Option.some.inj ho
          obtain rfl := Option.some.inj hp
          obtain rfl := Option.some.inj hr9
          have e0 : gt a 78 = .pointer (some (⟨m, 0, none⟩ : Addr)) := hI.v 14 78 rfl (hd 14 (of_decide_eq_true (by kernel_rfl)))
          have e1 : gt a 80 = .int .i64 vals := hI.v 16 80 rfl (hd 16 (of_decide_eq_true (by kernel_rfl)))
          have n18 : f 18 = false := hI.nf2 (i := 17) (k := 18) hf (by kernel_rfl)
          have n19 : f 19 = false := hI.nf2 (i := 18) (k := 19) n18 (by kernel_rfl)
          refine goes_ (N := some 81) Try.func37 (by kernel_rfl) rfl #[.pointer (some (⟨m, 0, none⟩ : Addr)), .int .i64 vals] (by simp [Region.wanted]) rfl rfl (by simp [Act.eval]; exact ⟨e0, e1⟩) ?_
          refine Calls.mono (pick_any w0 w9 m hI.j.ms vals) ?_
          rintro _ w5 ⟨r, rfl, hr0, hr1, hm5, hc5⟩
          exact ⟨_, rfl, hK _ _ (fun _ _ => ⟨r, rfl, hr0, by omega⟩) (fun _ _ _ _ h => h.chg hc5 (fun j e => by subst e; omega)) ((hI.j.call n19 hm5 hc5 hms2).other (by decide))⟩
        | 18, _ =>
          obtain rfl := Option.some.inj ho
          obtain rfl := Option.some.inj hp
          obtain rfl := Option.some.inj hr9
          refine want_yes rfl ?_
          have e0 : gt a 64 = .int .i64 (t : Int) := hI.v 0 64 rfl (hd 0 (of_decide_eq_true (by kernel_rfl)))
          obtain ⟨s, e1, hs⟩ := (show ∃ s, gt a 77 = .string s ∧ s ∈ RT from hI.v 13 77 rfl (hd 13 (of_decide_eq_true (by kernel_rfl))))
          obtain ⟨q, e2, hq0, hq1⟩ := (show ∃ r, gt a 81 = .int .i64 r ∧ 0 ≤ r ∧ r < vals from hI.v 17 81 rfl (hd 17 (of_decide_eq_true (by kernel_rfl))))
          unfold Oper.wp; simp [execOp, e0, e1, e2, go_sem]
          exact hK _ _ (fun _ _ => ⟨⟨2, (t : Int), s, q, []⟩, none, 0, rfl, Nat.le_refl 0, gdC_reg (t := t) HRTH.out hs hq0 hq1, Kd.F_nil _ _ _⟩) (fun _ _ _ _ h => h) (hI.j.other (by decide))
        | 19, _ =>
          obtain rfl := Option.some.inj ho
          obtain rfl := Option.some.inj hp
          obtain rfl := Option.some.inj hr9
          refine want_yes rfl ?_
          have e := (hI.sl 8 rfl).trans (rfl : _ = (.pointer (some (⟨w.heap.size + 1, 0, none⟩ : Addr)) : Value))
          obtain ⟨x, A4, c4, e1, hl4, hg4, hF4⟩ := (show CV vals nl RS d w9 (fun k => w.heap.size + 1 < k) (gt a 82) from hI.v 18 82 rfl (hd 18 (of_decide_eq_true (by kernel_rfl))))
          have hz := hI.j.zb hf
          have c0' := (blk_cell hz 0).trans rfl
          have c1' := (blk_cell hz 1).trans rfl
          have c2' := (blk_cell hz 2).trans rfl
          have c3' := (blk_cell hz 3).trans rfl
          have c4' := (blk_cell hz 4).trans rfl
          have fz := blk_frozen hz
          obtain ⟨hp5, hch5⟩ := put5 hz (.int .i64 x.f0) (.int .i64 x.f1) (.string x.f2) (.int .i64 x.f3) (.slice A4 x.f4.length c4)
          unfold Oper.wp; simp [execOp, e, e1, c0', c1', c2', c3', c4', fz, go_sem]
          exact hK undef _ (fun d h => by cases h) (fun _ _ _ _ h => h.chg hch5 (fun j e => by subst e; omega)) ⟨hI.j.ms.chg hch5 hms2 (fun _ e => e ▸ hs0), hI.j.chg.step (hch5.mono (fun _ e => .inr e)), fun e => absurd ((upd_eq f 19).symm.trans e) (by decide), fun _ => ⟨x, A4, c4, hp5, hl4, hg4, Kd.F_step hF4 (fun j h1 h2 => hch5.block j h2 (fun e => by omega))⟩⟩
      · intro f g w9 hall hJ hg
        obtain ⟨x, A4, c4, h1, h2, h3, h4⟩ := hJ.st (hall 19 (by decide))
        have HX := Aside0.mk (And.intro h2 (And.intro h3 (And.intro (Kd.F_mono h4 (fun k hk => show w.heap.size ≤ k by omega)) (And.intro hJ.ms (HD.out.chg.trans hJ.chg (fun k hk e => by omega))))))
        have HRB := Aside0.mk h1
        clear hJ hg h1 h2 h3 h4
        simp only [List.map_cons, List.map_nil, fill, List.setIfInBounds_toArray, List.set_cons_zero, List.set_cons_succ]
        go_wp2
        refine bodyPost_ret (results_cell_row rfl _ _ (w.heap.size + 1) 26 #[.int .i64 x.f0, .int .i64 x.f1, .string x.f2, .int .i64 x.f3, .slice A4 x.f4.length c4] (0, 0) _ rfl HRB.out Try.underlying26 rfl (by kernel_rfl)) rfl ?_
        exact ⟨x, A4, c4, rfl, HX.out.1, HX.out.2.1, HX.out.2.2.1, HX.out.2.2.2.1, HX.out.2.2.2.2⟩
      · intro f hf
        exact ⟨HD.out.ms, Chg.refl _ _, fun _ => HD.out.rb, fun e => absurd ((hf 19).symm.trans e) (by decide)⟩
    · have HF2 := Aside0.mk hF2
      clear hF2 hl2
      go_upto_region 9 with fail
      go_cut [63] (fun v63 wx => v63 = .bool false ∧ wx = w7)
      case first =>
        by_cases hk0' : 0 < k
        · have k1 : decide (0 < k) = true := decide_eq_true hk0'
          have k2 : decide ((0 : Int) < (RT.length : Int)) = false := decide_eq_false (by omega)
          have k3 : decide (0 < RT.length) = false := decide_eq_false (by omega)
          clear hkl
          go_wp2
          go_meet
          exact ⟨rfl, rfl⟩
        · have k1 : decide (0 < k) = false := decide_eq_false hk0'
          clear hkl
          go_wp2
          go_meet
          exact ⟨rfl, rfl⟩
      case rest =>
      obtain ⟨rfl, rfl⟩ := hcut
      clear hkl crow
      go_upto_region 11 with fail
      refine wp_region_any (by kernel_rfl) ?_
      obtain ⟨wd, hwd⟩ : ∃ wd, wd = wc.drew := ⟨_, rfl⟩
      change wpAny _ _ _ _ _ _ _ wc.drew
      rw [← hwd]
      have hbd : Below wc.heap.size wc wd := by rw [hwd]; exact below_drew (Below.refl _ _)
      clear hwd
      have HD := Aside0.mk (HA.out.step hbd)
      have HBD := Aside0.mk HD.out.hbk
      have hmd : m < wd.heap.size := HD.out.ms.lt
      have hsd : w.heap.size + 1 < wd.heap.size := blk_lt HD.out.rb
      clear hbd
      refine wpAny_flow2 rfl (by kernel_rfl) [some 83, some 84, some 85, some 86, some 87, some 88, some 89, some 90, some 91, some 92, none] rfl (by decide) [83, 84, 85, 86, 87, 88, 89, 90, 91, 92] rfl 93 rfl (by decide) (PhiC vals nl RS d (w.heap.size + 1) [TagC.fix (.pointer (some (⟨m, 0, none⟩ : Addr))), TagC.fix (.pointer (some (⟨w.heap.size, 1, none⟩ : Addr))), TagC.fix (.int .i64 (nl : Int)), TagC.pure (fun v => ∃ r, v = .int .i64 r ∧ 0 ≤ r ∧ r < (nl : Int)), TagC.pure (fun v => ∃ s, v = .string s ∧ s ∈ loc4.take nl), TagC.fix (.pointer (some (⟨m, 0, none⟩ : Addr))), TagC.fix (.pointer (some (⟨w.heap.size, 0, none⟩ : Addr))), TagC.fix (.int .i64 vals), TagC.pure (fun v => ∃ r, v = .int .i64 r ∧ 0 ≤ r ∧ r < vals), TagC.cnd, TagC.any]) (JC w0 wd m (w.heap.size + 1) vals nl RS d 10) ?_ ?_ ?_ _ _ (by simp) (by decide) (no_flag 11)
      · intro i9 o dd r9 f a w9 ho hp hr9 hI hf hd K hK
        have hi9 : i9 < 11 := (Array.getElem?_eq_some_iff.1 ho).1
        match i9, hi9 with
        | 0, _ =>
          obtain rfl := Option.some.inj ho
          obtain rfl := Option.some.inj hp
          obtain rfl := Option.some.inj hr9
          refine want_yes rfl ?_
          have e := (hI.sl 0 rfl).trans (rfl : _ = (.pointer (some (⟨m, 0, none⟩ : Addr)) : Value))
          unfold Oper.wp; simp [execOp, e, go_sem]; exact hK _ _ (fun _ _ => rfl) (fun _ _ _ _ h => h) (hI.j.other (by decide))
        | 1, _ =>
          obtain rfl := Option.some.inj ho
          obtain rfl := Option.some.inj hp
          obtain rfl := Option.some.inj hr9
          refine want_yes rfl ?_
          have e := (hI.sl 5 rfl).trans (rfl : _ = (.pointer (some (⟨w.heap.size, 0, none⟩ : Addr)) : Value))
          unfold Oper.wp; simp [execOp, e, go_sem]; exact hK _ _ (fun _ _ => rfl) (fun _ _ _ _ h => h) (hI.j.other (by decide))
        | 2, _ =>
          obtain rfl := Option.some.inj ho
          obtain rfl := Option.some.inj hp
          obtain rfl := Option.some.inj hr9
          refine want_yes rfl ?_
          have e : gt a 84 = .pointer (some (⟨w.heap.size, 1, none⟩ : Addr)) := hI.v 1 84 rfl (hd 1 (of_decide_eq_true (by kernel_rfl)))
          have hk := hI.j.chg.heap HBD.out (fun e => e.elim hbm hbs)
          have c := (blk_cell hk 1).trans rfl
          unfold Oper.wp; simp [execOp, e, c, go_sem]; exact hK _ _ (fun _ _ => rfl) (fun _ _ _ _ h => h) (hI.j.other (by decide))
        | 3, _ =>
          obtain rfl := Option.some.inj ho
          obtain rfl := Option.some.inj hp
          obtain rfl := Option.some.inj hr9
          have e0 : gt a 83 = .pointer (some (⟨m, 0, none⟩ : Addr)) := hI.v 0 83 rfl (hd 0 (of_decide_eq_true (by kernel_rfl)))
          have e1 : gt a 85 = .int .i64 (nl : Int) := hI.v 2 85 rfl (hd 2 (of_decide_eq_true (by kernel_rfl)))
          have n4 : f 4 = false := hI.nf2 (i := 3) (k := 4) hf (by kernel_rfl)
          have n9 : f 9 = false := hI.nf2 (i := 4) (k := 9) n4 (by kernel_rfl)
          have n10 : f 10 = false := hI.nf2 (i := 9) (k := 10) n9 (by kernel_rfl)
          refine goes_ (N := some 86) Try.func37 (by kernel_rfl) rfl #[.pointer (some (⟨m, 0, none⟩ : Addr)), .int .i64 (nl : Int)] (by simp [Region.wanted]) rfl rfl (by simp [Act.eval]; exact ⟨e0, e1⟩) ?_
          refine Calls.mono (pick_any w0 w9 m hI.j.ms (nl : Int)) ?_
          rintro _ w5 ⟨r, rfl, hr0, hr1, hm5, hc5⟩
          exact ⟨_, rfl, hK _ _ (fun _ _ => ⟨r, rfl, hr0, by omega⟩) (fun _ _ _ _ h => h.chg hc5 (fun j e => by subst e; omega)) ((hI.j.call n10 hm5 hc5 hms2).other (by decide))⟩
        | 4, _ =>
          obtain rfl := Option.some.inj ho
          obtain rfl := Option.some.inj hp
          obtain rfl := Option.some.inj hr9
          obtain ⟨r, e, hr0, hr1⟩ := (show ∃ r, gt a 86 = .int .i64 r ∧ 0 ≤ r ∧ r < (nl : Int) from hI.v 3 86 rfl (hd 3 (of_decide_eq_true (by kernel_rfl))))
          have n9 : f 9 = false := hI.nf2 (i := 4) (k := 9) hf (by kernel_rfl)
          have n10 : f 10 = false := hI.nf2 (i := 9) (k := 10) n9 (by kernel_rfl)
          refine goes_ (N := some 87) Try.func64 (by kernel_rfl) rfl #[.int .i64 r] (by simp [Region.wanted]) rfl rfl (by simp [Act.eval]; exact e) ?_
          refine Calls.mono (mloc_any w9 r nl hr0 hr1 HF.out.2.2.2) ?_
          rintro _ w5 ⟨rfl, hd5⟩
          have hb := drawn_below' hd5
          exact ⟨_, rfl, hK _ _ (fun _ _ => ⟨_, rfl, loc_mem r nl hr0 hr1 HF.out.2.2.2⟩) (fun _ _ _ _ h => h.move (fun j _ h2 => hb.block j h2)) ((hI.j.below n10 hb).other (by decide))⟩
        | 5, _ =>
          obtain rfl := Option.some.inj ho
          obtain rfl := Option.some.inj hp
          obtain rfl := Option.some.inj hr9
          refine want_yes rfl ?_
          have e := (hI.sl 0 rfl).trans (rfl : _ = (.pointer (some (⟨m, 0, none⟩ : Addr)) : Value))
          unfold Oper.wp; simp [execOp, e, go_sem]; exact hK _ _ (fun _ _ => rfl) (fun _ _ _ _ h => h) (hI.j.other (by decide))
        | 6, _ =>
          obtain rfl := Option.some.inj ho
          obtain rfl := Option.some.inj hp
          obtain rfl := Option.some.inj hr9
          refine want_yes rfl ?_
          have e := (hI.sl 5 rfl).trans (rfl : _ = (.pointer (some (⟨w.heap.size, 0, none⟩ : Addr)) : Value))
          unfold Oper.wp; simp [execOp, e, go_sem]; exact hK _ _ (fun _ _ => rfl) (fun _ _ _ _ h => h) (hI.j.other (by decide))
        | 7, _ =>
          obtain rfl := Option.some.inj ho
          obtain rfl := Option.some.inj hp
          obtain rfl := Option.some.inj hr9
          refine want_yes rfl ?_
          have e : gt a 89 = .pointer (some (⟨w.heap.size, 0, none⟩ : Addr)) := hI.v 6 89 rfl (hd 6 (of_decide_eq_true (by kernel_rfl)))
          have hk := hI.j.chg.heap HBD.out (fun e => e.elim hbm hbs)
          have c := (blk_cell hk 0).trans rfl
          unfold Oper.wp; simp [execOp, e, c, go_sem]; exact hK _ _ (fun _ _ => rfl) (fun _ _ _ _ h => h) (hI.j.other (by decide))
        | 8, _ =>
          obtain rfl := Option.some.inj ho
          obtain rfl := Option.some.inj hp
          obtain rfl := Option.some.inj hr9
          have e0 : gt a 88 = .pointer (some (⟨m, 0, none⟩ : Addr)) := hI.v 5 88 rfl (hd 5 (of_decide_eq_true (by kernel_rfl)))
          have e1 : gt a 90 = .int .i64 vals := hI.v 7 90 rfl (hd 7 (of_decide_eq_true (by kernel_rfl)))
          have n9 : f 9 = false := hI.nf2 (i := 8) (k := 9) hf (by kernel_rfl)
          have n10 : f 10 = false := hI.nf2 (i := 9) (k := 10) n9 (by kernel_rfl)
          refine goes_ (N := some 91) Try.func37 (by kernel_rfl) rfl #[.pointer (some (⟨m, 0, none⟩ : Addr)), .int .i64 vals] (by simp [Region.wanted]) rfl rfl (by simp [Act.eval]; exact ⟨e0, e1⟩) ?_
          refine Calls.mono (pick_any w0 w9 m hI.j.ms vals) ?_
          rintro _ w5 ⟨r, rfl, hr0, hr1, hm5, hc5⟩
          exact ⟨_, rfl, hK _ _ (fun _ _ => ⟨r, rfl, hr0, by omega⟩) (fun _ _ _ _ h => h.chg hc5 (fun j e => by subst e; omega)) ((hI.j.call n10 hm5 hc5 hms2).other (by decide))⟩
        | 9, _ =>
          obtain rfl := Option.some.inj ho
          obtain rfl := Option.some.inj hp
          obtain rfl := Option.some.inj hr9
          refine want_yes rfl ?_
          obtain ⟨s, e1, hs⟩ := (show ∃ s, gt a 87 = .string s ∧ s ∈ loc4.take nl from hI.v 4 87 rfl (hd 4 (of_decide_eq_true (by kernel_rfl))))
          obtain ⟨q, e2, hq0, hq1⟩ := (show ∃ r, gt a 91 = .int .i64 r ∧ 0 ≤ r ∧ r < vals from hI.v 8 91 rfl (hd 8 (of_decide_eq_true (by kernel_rfl))))
          unfold Oper.wp; simp [execOp, e1, e2, go_sem]
          exact hK _ _ (fun _ _ => ⟨⟨1, 0, s, q, []⟩, none, 0, rfl, Nat.le_refl 0, gdC_mem hs hq0 hq1, Kd.F_nil _ _ _⟩) (fun _ _ _ _ h => h) (hI.j.other (by decide))
        | 10, _ =>
          obtain rfl := Option.some.inj ho
          obtain rfl := Option.some.inj hp
          obtain rfl := Option.some.inj hr9
          refine want_yes rfl ?_
          have e := (hI.sl 8 rfl).trans (rfl : _ = (.pointer (some (⟨w.heap.size + 1, 0, none⟩ : Addr)) : Value))
          obtain ⟨x, A4, c4, e1, hl4, hg4, hF4⟩ := (show CV vals nl RS d w9 (fun k => w.heap.size + 1 < k) (gt a 92) from hI.v 9 92 rfl (hd 9 (of_decide_eq_true (by kernel_rfl))))
          have hz := hI.j.zb hf
          have c0' := (blk_cell hz 0).trans rfl
          have c1' := (blk_cell hz 1).trans rfl
          have c2' := (blk_cell hz 2).trans rfl
          have c3' := (blk_cell hz 3).trans rfl
          have c4' := (blk_cell hz 4).trans rfl
          have fz := blk_frozen hz
          obtain ⟨hp5, hch5⟩ := put5 hz (.int .i64 x.f0) (.int .i64 x.f1) (.string x.f2) (.int .i64 x.f3) (.slice A4 x.f4.length c4)
          unfold Oper.wp; simp [execOp, e, e1, c0', c1', c2', c3', c4', fz, go_sem]
          exact hK undef _ (fun d h => by cases h) (fun _ _ _ _ h => h.chg hch5 (fun j e => by subst e; omega)) ⟨hI.j.ms.chg hch5 hms2 (fun _ e => e ▸ hs0), hI.j.chg.step (hch5.mono (fun _ e => .inr e)), fun e => absurd ((upd_eq f 10).symm.trans e) (by decide), fun _ => ⟨x, A4, c4, hp5, hl4, hg4, Kd.F_step hF4 (fun j h1 h2 => hch5.block j h2 (fun e => by omega))⟩⟩
      · intro f g w9 hall hJ hg
        obtain ⟨x, A4, c4, h1, h2, h3, h4⟩ := hJ.st (hall 10 (by decide))
        have HX := Aside0.mk (And.intro h2 (And.intro h3 (And.intro (Kd.F_mono h4 (fun k hk => show w.heap.size ≤ k by omega)) (And.intro hJ.ms (HD.out.chg.trans hJ.chg (fun k hk e => by omega))))))
        have HRB := Aside0.mk h1
        clear hJ hg h1 h2 h3 h4
        simp only [List.map_cons, List.map_nil, fill, List.setIfInBounds_toArray, List.set_cons_zero, List.set_cons_succ]
        go_wp2
        refine bodyPost_ret (results_cell_row rfl _ _ (w.heap.size + 1) 26 #[.int .i64 x.f0, .int .i64 x.f1, .string x.f2, .int .i64 x.f3, .slice A4 x.f4.length c4] (0, 0) _ rfl HRB.out Try.underlying26 rfl (by kernel_rfl)) rfl ?_
        exact ⟨x, A4, c4, rfl, HX.out.1, HX.out.2.1, HX.out.2.2.1, HX.out.2.2.2.1, HX.out.2.2.2.2⟩
      · intro f hf
        exact ⟨HD.out.ms, Chg.refl _ _, fun _ => HD.out.rb, fun e => absurd ((hf 10).symm.trans e) (by decide)⟩
theorem mcond_any : ∀ d, d ≤ 100 → MCondOk d
  | 0, h => cond_step 0 h (fun d' e => by omega)
  | d + 1, h => cond_step (d + 1) h (fun d' e => by
    obtain rfl : d' = d := by omega
    exact mcond_any d' (by omega))
end Go.Proofs.Ytlhbnbckanmaiaa.K
namespace Go.Proofs.Ytlhbnbckanmaiaa.K
open Go Go.RowKit Go.Proofs.YtlhbnbckanmaiaaW.PrintWords Go.Proofs.YtlhbnbckanmaiaaW.PrintLast Go.Proofs.YtlhbnbckanmaiaaW.PrintMore Go.Proofs.Ytlhbnbckanmaiaa.PC1
set_option linter.unusedVariables false
set_option linter.unusedSimpArgs false
structure FJ (Tl : List (List Nat × List Nat)) (D : List (Option Nat)) (Φ : Nat → Value → World → Prop) (J : (Nat → Bool) → (Nat → Value) → World → Prop) (a0 : Act) (f : Nat → Bool) (a : Act) (w : World) : Prop where
  fi : FI Tl D Φ (fun _ _ => True) a0 f a w
  j : J f (gt a) w
theorem gt_put_eq (a : Act) (d : Nat) (v : Value) (h : d < a.tmps.size) : gt (a.put (some d) v) d = v := gt_eq _ _ _ _ h
theorem wpAny_flow3 {ops : Array Oper} {Q : Exit → Act → World → Prop} {T : Bool × List (List Nat × List Nat)} {a1 : Act} {w1 : World} (hT : rtab .any ops = T)
    (hup : (List.range T.2.length).all (fun i => match T.2[i]? with | some r => r.1.all (fun j => decide (j < i)) | none => false) = true)
    (D : List (Option Nat)) (hD : ops.toList.map (fun o => o.dst) = D) (hn : apart D = true) (E : List Nat) (hE : D.filterMap id = E) (N : Nat) (hN : a1.tmps.size = N) (hs : D.all (fun d => match d with | some d => decide (d < N) | none => true) = true)
    (Φ : Nat → Value → World → Prop) (J : (Nat → Bool) → (Nat → Value) → World → Prop)
    (step : ∀ (i : Nat) (o : Oper) (dd : Option Nat) (r : List Nat × List Nat) (f : Nat → Bool) (a : Act) (w : World), ops[i]? = some o → D[i]? = some dd → T.2[i]? = some r → FJ T.2 D Φ J a1 f a w → a.tmps.size = N → f i = false → (∀ k ∈ r.1, f k = true) → ∀ K : Act → World → Prop,
      (∀ v w', (∀ d, dd = some d → Φ i v w') → (∀ k d, D[k]? = some (some d) → f k = true → Φ k (gt a d) w → Φ k (gt a d) w') → J (upd f i) (gt (a.put dd v)) w' → K (a.put dd v) w') → if Region.wanted o (yielded ops a.tmps) = true then o.wp Try.prog a w K Q else K (a.put o.dst undef) w)
    (fin : ∀ f (g : Nat → Value) w, (∀ i, i < ops.size → f i = true) → J f g w → (∀ i d, D[i]? = some (some d) → Φ i (g d) w) → Q .normal ⟨fill (E.map (fun d => (d, g d))) a1.tmps, a1.defers⟩ w) (hJ0 : ∀ f, (∀ j, f j = false) → J f (gt a1) w1) (fuel : Nat) (l : Array Bool) (hl : l.size = ops.size) (hu : unl l ≤ fuel) (hno : ∀ j, flag l j = false) : wpAny Try.prog .any ops Q fuel l a1 w1 := by
  subst hN
  refine wpAny_inv3 hT hup (fun a0 f a w => FJ T.2 D Φ J a0 f a w) ?_ ?_ fuel l hl hu ?_
  · intro f a w i o r hI ho hr hf hd K hK
    have hi := (Array.getElem?_eq_some_iff.1 ho).1
    have hdd : D[i]? = some o.dst := by rw [← hD, List.getElem?_map, Array.getElem?_toList, ho]; rfl
    refine step i o o.dst r f a w ho hdd hr hI hI.fi.sz hf (fun k hk => List.all_eq_true.1 hd k hk) K (fun v w' hv hper hJ => ?_)
    exact hK _ _ ⟨hI.fi.put hn hs i _ r hdd hr (fun k hk => List.all_eq_true.1 hd k hk) v hv hper trivial, hJ⟩
  · intro f a w hI hall
    rw [hI.fi.shape E hE]
    refine fin f (gt a) w hall hI.j (fun i d hd => hI.fi.v i d hd (hall i ?_))
    have h1 := (List.getElem?_eq_some_iff.1 hd).1
    rw [← hD, List.length_map, Array.length_toList] at h1
    exact h1
  · exact ⟨{ sz := rfl, df := rfl, sl := fun _ _ => rfl, v := fun i d _ hf => absurd (hf.symm.trans (hno i)) (by decide), cl := fun i r _ hf => absurd (hf.symm.trans (hno i)) (by decide), j := trivial }, hJ0 _ hno⟩
end Go.Proofs.Ytlhbnbckanmaiaa.K
namespace Go.Proofs.Ytlhbnbckanmaiaa.K
open Go Go.RowKit Go.Proofs.YtlhbnbckanmaiaaW.PrintWords Go.Proofs.YtlhbnbckanmaiaaW.PrintLast Go.Proofs.YtlhbnbckanmaiaaW.PrintMore Go.Proofs.Ytlhbnbckanmaiaa.PC1
set_option linter.unusedVariables false
set_option linter.unusedSimpArgs false
abbrev limBlk (a : Nat) (T : Value) : Obj := .cells #[.string ⟨#[97]⟩, .int .i64 2, .slice (some ⟨a, 0, none⟩) 1 1, T, .int .i64 1, .int .i64 1, .int .i64 0, .string ⟨#[120]⟩, .int .i64 0, .slice none 0 0] 28 (0, 0)
/-- The program of the statement, whatever its threads are. -/
structure LW (W w : World) (a pb base : Nat) (T : Value) : Prop where
  bel : Below W.heap.size W w
  ha : W.heap.size ≤ a
  ab : a < base
  hp : W.heap.size ≤ pb
  pbb : pb < base
  ne : a ≠ pb
  sz : base ≤ w.heap.size
  ia : w.heap[a]? = some (.cells #[.string ⟨#[120]⟩, .int .i64 0] 51 (0, 0))
  ip : w.heap[pb]? = some (limBlk a T)
theorem LW.put {W w : World} {a pb base : Nat} {T : Value} (h : LW W w a pb base T) (T' : Value) : LW W (w.setCell ⟨pb, 3, none⟩ T') a pb base T' :=
  ⟨below_set h.bel h.hp, h.ha, h.ab, h.hp, h.pbb, h.ne, by rw [World.size_setCell]; exact h.sz, (Below.heap_setCell w ⟨pb, 3, none⟩ T' a h.ne).trans h.ia, blk_put h.ip 3 T' rfl⟩
theorem LW.up {W w : World} {a pb base base' : Nat} {T : Value} (h : LW W w a pb base T) (h1 : base ≤ base') (h2 : base' ≤ w.heap.size) : LW W w a pb base' T :=
  ⟨h.bel, h.ha, Nat.lt_of_lt_of_le h.ab h1, h.hp, Nat.lt_of_lt_of_le h.pbb h1, h.ne, h2, h.ia, h.ip⟩
theorem infoThr : (Try.prog.info? 35).map (fun i => (i.zero, i.size, i.bytes)) = some (some (.slice none 0 0), 1, 24) := by kernel_rfl
/-! ### how many threads -/
/-! ### how many statements -/
/-! ### how many registers -/
/-! ### how deep -/
/-- The statements of the one thread, as they lie. -/
structure LS (W w : World) (a pb tb base : Nat) (vR : Value) (ss : List TStmt) : Prop where
  lw : LW W w a pb base (.slice (some ⟨tb, 0, none⟩) 1 1)
  tbb : tb < base
  tw : W.heap.size ≤ tb
  np : tb ≠ pb
  na : tb ≠ a
  it : w.heap[tb]? = some (.cells #[vR] 35 (0, 0))
  r : Kd.R kStmt 55 w base (fun _ => True) vR ss
/-- .. while one more is laid: the row has grown, the thread's cell has not turned yet. -/
structure LG (W w : World) (a pb tb base : Nat) (v' vR : Value) (ss : List TStmt) : Prop where
  lw : LW W w a pb base (.slice (some ⟨tb, 0, none⟩) 1 1)
  tbb : tb < base
  tw : W.heap.size ≤ tb
  np : tb ≠ pb
  na : tb ≠ a
  it : w.heap[tb]? = some (.cells #[vR] 35 (0, 0))
  r : Kd.R kStmt 55 w base (fun _ => True) v' ss
theorem LG.put {W w : World} {a pb tb base : Nat} {vR v' : Value} {ss : List TStmt} (h : LG W w a pb tb base v' vR ss) : LS W (w.setCell ⟨tb, 0, none⟩ v') a pb tb base v' ss :=
  ⟨⟨below_set h.lw.bel h.tw, h.lw.ha, h.lw.ab, h.lw.hp, h.lw.pbb, h.lw.ne, by rw [World.size_setCell]; exact h.lw.sz, (Below.heap_setCell w ⟨tb, 0, none⟩ v' a (fun e => h.na e.symm)).trans h.lw.ia, (Below.heap_setCell w ⟨tb, 0, none⟩ v' pb (fun e => h.np e.symm)).trans h.lw.ip⟩, h.tbb, h.tw, h.np, h.na, blk_put h.it 0 v' rfl, Kd.R_set h.r h.it (by decide) 0 v'⟩
end Go.Proofs.Ytlhbnbckanmaiaa.K
namespace Go.Proofs.Ytlhbnbckanmaiaa.K
open Go Go.RowKit Go.Proofs.YtlhbnbckanmaiaaW.PrintWords Go.Proofs.YtlhbnbckanmaiaaW.PrintLast Go.Proofs.YtlhbnbckanmaiaaW.PrintMore Go.Proofs.Ytlhbnbckanmaiaa.PC1
set_option linter.unusedVariables false
set_option linter.unusedSimpArgs false
theorem reads_new {α : Type} {d : Kd α} {w : World} {b : Nat} {cs : List Value} {t : TypeId} {x : α} {base : Nat} {okp : Nat → Prop} (h : w.heap[b]? = some (.cells cs.toArray t (0, 0))) (hl : cs.length = d.sz) : ReadsRow (fun y c => y = x ∧ c = cs) d.sz w (some ⟨b, 0, none⟩) 1 [x] := by
  refine ⟨rfl, by omega, fun _ => ⟨_, rfl, ?_⟩⟩
  intro j p hp
  match j, hp with
  | 0, hp =>
    obtain rfl : x = p := by simpa using hp
    refine ⟨cs, hl, ⟨rfl, rfl⟩, fun i u hu => ?_⟩
    have := blk_cell h i
    have e : (Addr.add ⟨b, 0, none⟩ (0 * d.sz + i)) = ⟨b, i, none⟩ := by simp [Addr.add]; omega
    rw [e, this]
    simpa using hu
  | j + 1, hp => simp at hp
end Go.Proofs.Ytlhbnbckanmaiaa.K
namespace Go.Proofs.Ytlhbnbckanmaiaa.K
open Go Go.RowKit Go.Proofs.YtlhbnbckanmaiaaW.PrintWords Go.Proofs.YtlhbnbckanmaiaaW.PrintLast Go.Proofs.YtlhbnbckanmaiaaW.PrintMore Go.Proofs.Ytlhbnbckanmaiaa.PC1
set_option linter.unusedVariables false
set_option linter.unusedSimpArgs false
abbrev kThr0 : Kd (List TStmt) := Kd.slice 55 kStmt
abbrev pBlk (nm : ByteArray) (vals : Int) (vI vT : Value) (ask op th : Int) (cn : ByteArray) (n : Int) (vK : Value) : Obj := .cells #[.string nm, .int .i64 vals, vI, vT, .int .i64 ask, .int .i64 op, .int .i64 th, .string cn, .int .i64 n, vK] 28 (0, 0)
abbrev zPrg : Obj := pBlk ⟨#[]⟩ 0 (.slice none 0 0) (.slice none 0 0) 0 0 0 ⟨#[]⟩ 0 (.slice none 0 0)
abbrev madeB : ByteArray := ⟨#[109, 97, 100, 101]⟩
abbrev nPrg (vals q : Int) : Obj := pBlk madeB vals (.slice none 0 0) (.slice none 0 0) q 0 0 ⟨#[]⟩ 0 (.slice none 0 0)
theorem put10 {W : World} {s : Nat} {t : TypeId} {a0 a1 a2 a3 a4 a5 a6 a7 a8 a9 : Value} (h : W.heap[s]? = some (.cells #[a0, a1, a2, a3, a4, a5, a6, a7, a8, a9] t (0, 0))) (b0 b1 b2 b3 b4 b5 b6 b7 b8 b9 : Value) :
    ((((((((((W.setCell ⟨s, 0, none⟩ b0).setCell ⟨s, 1, none⟩ b1).setCell ⟨s, 2, none⟩ b2).setCell ⟨s, 3, none⟩ b3).setCell ⟨s, 4, none⟩ b4).setCell ⟨s, 5, none⟩ b5).setCell ⟨s, 6, none⟩ b6).setCell ⟨s, 7, none⟩ b7).setCell ⟨s, 8, none⟩ b8).setCell ⟨s, 9, none⟩ b9).heap[s]? = some (.cells #[b0, b1, b2, b3, b4, b5, b6, b7, b8, b9] t (0, 0))
    ∧ Chg (fun k => k = s) W ((((((((((W.setCell ⟨s, 0, none⟩ b0).setCell ⟨s, 1, none⟩ b1).setCell ⟨s, 2, none⟩ b2).setCell ⟨s, 3, none⟩ b3).setCell ⟨s, 4, none⟩ b4).setCell ⟨s, 5, none⟩ b5).setCell ⟨s, 6, none⟩ b6).setCell ⟨s, 7, none⟩ b7).setCell ⟨s, 8, none⟩ b8).setCell ⟨s, 9, none⟩ b9) := by
  have h1 := blk_put h 0 b0 (show Array.setIfInBounds #[a0, a1, a2, a3, a4, a5, a6, a7, a8, a9] 0 b0 = #[b0, a1, a2, a3, a4, a5, a6, a7, a8, a9] from rfl)
  have h2 := blk_put h1 1 b1 (show Array.setIfInBounds #[b0, a1, a2, a3, a4, a5, a6, a7, a8, a9] 1 b1 = #[b0, b1, a2, a3, a4, a5, a6, a7, a8, a9] from rfl)
  have h3 := blk_put h2 2 b2 (show Array.setIfInBounds #[b0, b1, a2, a3, a4, a5, a6, a7, a8, a9] 2 b2 = #[b0, b1, b2, a3, a4, a5, a6, a7, a8, a9] from rfl)
  have h4 := blk_put h3 3 b3 (show Array.setIfInBounds #[b0, b1, b2, a3, a4, a5, a6, a7, a8, a9] 3 b3 = #[b0, b1, b2, b3, a4, a5, a6, a7, a8, a9] from rfl)
  have h5 := blk_put h4 4 b4 (show Array.setIfInBounds #[b0, b1, b2, b3, a4, a5, a6, a7, a8, a9] 4 b4 = #[b0, b1, b2, b3, b4, a5, a6, a7, a8, a9] from rfl)
  have h6 := blk_put h5 5 b5 (show Array.setIfInBounds #[b0, b1, b2, b3, b4, a5, a6, a7, a8, a9] 5 b5 = #[b0, b1, b2, b3, b4, b5, a6, a7, a8, a9] from rfl)
  have h7 := blk_put h6 6 b6 (show Array.setIfInBounds #[b0, b1, b2, b3, b4, b5, a6, a7, a8, a9] 6 b6 = #[b0, b1, b2, b3, b4, b5, b6, a7, a8, a9] from rfl)
  have h8 := blk_put h7 7 b7 (show Array.setIfInBounds #[b0, b1, b2, b3, b4, b5, b6, a7, a8, a9] 7 b7 = #[b0, b1, b2, b3, b4, b5, b6, b7, a8, a9] from rfl)
  have h9 := blk_put h8 8 b8 (show Array.setIfInBounds #[b0, b1, b2, b3, b4, b5, b6, b7, a8, a9] 8 b8 = #[b0, b1, b2, b3, b4, b5, b6, b7, b8, a9] from rfl)
  have h10 := blk_put h9 9 b9 (show Array.setIfInBounds #[b0, b1, b2, b3, b4, b5, b6, b7, b8, a9] 9 b9 = #[b0, b1, b2, b3, b4, b5, b6, b7, b8, b9] from rfl)
  exact ⟨h10, ((((((((((chg_set _ _ _ _).step (chg_set _ _ _ _)).step (chg_set _ _ _ _)).step (chg_set _ _ _ _)).step (chg_set _ _ _ _)).step (chg_set _ _ _ _)).step (chg_set _ _ _ _)).step (chg_set _ _ _ _)).step (chg_set _ _ _ _)).step (chg_set _ _ _ _))⟩
/-- Where the world stands while p is begun: its block is the slot's. -/
structure JP (w0 wd : World) (m : Nat) (vals : Int) (q z : Nat) (f : Nat → Bool) (g : Nat → Value) (w : World) : Prop where
  ms : MS w0 w m
  chg : Chg (fun k => k = m) wd w
  al : f q = true → f z = false → ∃ b, g 11 = .pointer (some ⟨b, 0, none⟩) ∧ wd.heap.size ≤ b ∧ w.heap[b]? = some zPrg
  st : f z = true → ∃ b ask, g 11 = .pointer (some ⟨b, 0, none⟩) ∧ wd.heap.size ≤ b ∧ (ask = 1 ∨ ask = 2) ∧ w.heap[b]? = some (nPrg vals ask)
theorem JP.other {w0 wd w : World} {m : Nat} {vals : Int} {q z : Nat} {f : Nat → Bool} {a : Act} (h : JP w0 wd m vals q z f (gt a) w) {i : Nat} (h1 : q ≠ i) (h2 : z ≠ i) (dd : Option Nat) (v : Value) (hd : dd ≠ some 11) : JP w0 wd m vals q z (upd f i) (gt (a.put dd v)) w :=
  ⟨h.ms, h.chg, fun e1 e2 => by rw [gt_put_ne a dd v 11 hd]; exact h.al ((upd_ne f h1).symm.trans e1) ((upd_ne f h2).symm.trans e2), fun e => by rw [gt_put_ne a dd v 11 hd]; exact h.st ((upd_ne f h2).symm.trans e)⟩
theorem JP.call {w0 wd w w' : World} {m : Nat} {vals : Int} {q z : Nat} {f : Nat → Bool} {g : Nat → Value} (h : JP w0 wd m vals q z f g w) (hmd : m < wd.heap.size) (hm : MS w0 w' m) (hc : Chg (fun k => k = m) w w') : JP w0 wd m vals q z f g w' :=
  ⟨hm, h.chg.step hc, fun e1 e2 => by obtain ⟨b, h1, h2, h3⟩ := h.al e1 e2; exact ⟨b, h1, h2, hc.heap h3 (fun e => by omega)⟩, fun e => by obtain ⟨b, ask, h1, h2, h4, h3⟩ := h.st e; exact ⟨b, ask, h1, h2, h4, hc.heap h3 (fun e => by omega)⟩⟩
end Go.Proofs.Ytlhbnbckanmaiaa.K
namespace Go.Proofs.Ytlhbnbckanmaiaa.K
open Go Go.RowKit Go.Proofs.YtlhbnbckanmaiaaW.PrintWords Go.Proofs.YtlhbnbckanmaiaaW.PrintLast Go.Proofs.YtlhbnbckanmaiaaW.PrintMore Go.Proofs.Ytlhbnbckanmaiaa.PC1
set_option linter.unusedVariables false
set_option linter.unusedSimpArgs false
/-- p under way: m the maker, pb its block. -/
structure SPg (w0 w wr : World) (m pb : Nat) (vals : Int) (nl : Nat) (ask : Int) (vI vT : Value) : Prop where
  ms : MS w0 wr m
  hbk : wr.heap[w.heap.size]? = some (.cells #[.int .i64 vals, .int .i64 nl, .bool false, .bool false] 94 (0, 0))
  rb : wr.heap[w.heap.size + 1]? = some zPrg
  chg : Chg (fun k => k = m) w wr
  pbk : wr.heap[pb]? = some (pBlk madeB vals vI vT ask 0 0 ⟨#[]⟩ 0 (.slice none 0 0))
structure SP (w0 w wr : World) (m pb : Nat) (vals : Int) (nl : Nat) (ask : Int) (vI vT : Value) (inits : List TCell) : Prop where
  g : SPg w0 w wr m pb vals nl ask vI vT
  rI : Kd.R kCell 51 wr w.heap.size (fun k => w.heap.size ≤ k) vI inits
theorem SPg.call {w0 w wr w1 : World} {m pb : Nat} {vals : Int} {nl : Nat} {ask : Int} {vI vT : Value} (h : SPg w0 w wr m pb vals nl ask vI vT) (hmw : m < w.heap.size) (hpb : w.heap.size ≤ pb) (hm : MS w0 w1 m) (hc : Chg (fun k => k = m) wr w1) : SPg w0 w w1 m pb vals nl ask vI vT :=
  ⟨hm, hc.heap h.hbk (fun e => by omega), hc.heap h.rb (fun e => by omega), h.chg.step hc, hc.heap h.pbk (fun e => by omega)⟩
theorem SPg.below {w0 w wr w1 : World} {m pb : Nat} {vals : Int} {nl : Nat} {ask : Int} {vI vT : Value} (h : SPg w0 w wr m pb vals nl ask vI vT) (hb : Below wr.heap.size wr w1) : SPg w0 w w1 m pb vals nl ask vI vT :=
  ⟨h.ms.step hb, blk_below h.hbk hb, blk_below h.rb hb, h.chg.step (Chg.of_below hb), blk_below h.pbk hb⟩
theorem rI_call {w wr w1 : World} {m : Nat} {v : Value} {l : List TCell} (h : Kd.R kCell 51 wr w.heap.size (fun k => w.heap.size ≤ k) v l) (hmw : m < w.heap.size) (hc : Chg (fun k => k = m) wr w1) : Kd.R kCell 51 w1 w.heap.size (fun k => w.heap.size ≤ k) v l :=
  Kd.R_step h (fun k hk hlt => hc.block k hlt (fun e => by omega))
/-- A row grows that is none of p's, the shape's, the maker's blocks: told by its type. -/
theorem SPg.grown {w0 w wr w1 : World} {m pb : Nat} {vals : Int} {nl : Nat} {ask : Int} {vI vT v : Value} (h : SPg w0 w wr m pb vals nl ask vI vT) (hmw : m < w.heap.size) (hg : wr.grownBy w1 v.ownBlock) (hb : ∀ k, v.ownBlock = some k → w.heap.size ≤ k) {t : TypeId} (ht : ∀ k, v.ownBlock = some k → ∃ cells, wr.heap[k]? = some (.cells cells t (0, 0))) (h1 : t ≠ 94) (h2 : t ≠ 28) : SPg w0 w w1 m pb vals nl ask vI vT := by
  have hc : Chg (fun k => some k = v.ownBlock) wr w1 := Chg.grown (F := fun k => some k = v.ownBlock) hg (fun k hk => hk.symm)
  have hne : ∀ {g : Nat} {cs : Array Value} {t' : TypeId}, wr.heap[g]? = some (.cells cs t' (0, 0)) → t ≠ t' → ¬ some g = v.ownBlock := by
    intro g cs t' hx hne e
    obtain ⟨cells, hcx⟩ := ht g e.symm
    rw [hx] at hcx
    injection hcx with q1
    injection q1 with _ q2
    exact hne q2.symm
  exact ⟨h.ms.chg hc (fun e => by have := hb m e.symm; omega) (fun k e => Nat.le_trans (Nat.le_trans h.ms.ge (Nat.le_of_lt hmw)) (hb k e.symm)), hc.heap h.hbk (hne h.hbk h1), hc.heap h.rb (hne h.rb h2), h.chg.trans hc (fun k hk e => by have := hb k e.symm; omega), hc.heap h.pbk (hne h.pbk h2)⟩
theorem SPg.setI {w0 w wr : World} {m pb : Nat} {vals : Int} {nl : Nat} {ask : Int} {vI vT : Value} (h : SPg w0 w wr m pb vals nl ask vI vT) (hmw : m < w.heap.size) (hw0 : w0.heap.size ≤ w.heap.size) (hpb : w.heap.size + 1 < pb) (v' : Value) : SPg w0 w (wr.setCell ⟨pb, 2, none⟩ v') m pb vals nl ask v' vT := by
  have hc := chg_set wr pb 2 v'
  exact ⟨h.ms.chg hc (fun e => by omega) (fun k e => by omega), hc.heap h.hbk (fun e => by omega), hc.heap h.rb (fun e => by omega), h.chg.trans hc (fun k hk e => by omega), blk_put h.pbk 2 v' rfl⟩
theorem SPg.setT {w0 w wr : World} {m pb : Nat} {vals : Int} {nl : Nat} {ask : Int} {vI vT : Value} (h : SPg w0 w wr m pb vals nl ask vI vT) (hmw : m < w.heap.size) (hw0 : w0.heap.size ≤ w.heap.size) (hpb : w.heap.size + 1 < pb) (v' : Value) : SPg w0 w (wr.setCell ⟨pb, 3, none⟩ v') m pb vals nl ask vI v' := by
  have hc := chg_set wr pb 3 v'
  exact ⟨h.ms.chg hc (fun e => by omega) (fun k e => by omega), hc.heap h.hbk (fun e => by omega), hc.heap h.rb (fun e => by omega), h.chg.trans hc (fun k hk e => by omega), blk_put h.pbk 3 v' rfl⟩
theorem SP.setI {w0 w wr : World} {m pb : Nat} {vals : Int} {nl : Nat} {ask : Int} {vI vT v' : Value} {l : List TCell} (h : SPg w0 w wr m pb vals nl ask vI vT) (hmw : m < w.heap.size) (hw0 : w0.heap.size ≤ w.heap.size) (hpb : w.heap.size + 1 < pb) (hR : Kd.R kCell 51 wr w.heap.size (fun k => w.heap.size ≤ k) v' l) : SP w0 w (wr.setCell ⟨pb, 2, none⟩ v') m pb vals nl ask v' vT l :=
  ⟨h.setI hmw hw0 hpb v', Kd.R_set hR h.pbk (by decide) 2 v'⟩
/-- What each operation of the append to p.Init leaves: 13 the new cell's box, 14 the grown row. -/
def PhiI (P : Nat → Value → Prop) (w wd : World) (vals : Int) (l0 : ByteArray) (inits : List TCell) (k : Nat) (v : Value) (w9 : World) : Prop :=
  cond (k == 13) (∃ (b : Nat) (y : Int), v = .slice (some ⟨b, 0, none⟩) 1 1 ∧ wd.heap.size ≤ b ∧ 0 ≤ y ∧ y < vals ∧ w9.heap[b]? = some (.cells #[.string l0, .int .i64 y] 51 (0, 0)))
    (cond (k == 14) (∃ y : Int, 0 ≤ y ∧ y < vals ∧ Kd.R kCell 51 w9 w.heap.size (fun k => w.heap.size ≤ k) v (inits ++ [⟨l0, y⟩])) (P k v))
theorem PhiI.move {P : Nat → Value → Prop} {w wd w9 w' : World} {vals : Int} {l0 : ByteArray} {inits : List TCell} {k : Nat} {v : Value} (h : PhiI P w wd vals l0 inits k v w9) (h1 : k = 13 → ∀ b o, wd.heap.size ≤ b → w9.heap[b]? = some o → w'.heap[b]? = some o) (h2 : k = 14 → ∀ l, Kd.R kCell 51 w9 w.heap.size (fun k => w.heap.size ≤ k) v l → Kd.R kCell 51 w' w.heap.size (fun k => w.heap.size ≤ k) v l) : PhiI P w wd vals l0 inits k v w' := by
  unfold PhiI at h ⊢
  cases e1 : k == 13 with
  | true => rw [e1] at h; obtain ⟨b, y, h3, h4, h5, h6, h7⟩ := h; exact ⟨b, y, h3, h4, h5, h6, h1 (beq_iff_eq.1 e1) b _ h4 h7⟩
  | false =>
    rw [e1] at h
    cases e2 : k == 14 with
    | true => rw [e2] at h; obtain ⟨y, h3, h4, h5⟩ := h; exact ⟨y, h3, h4, h2 (beq_iff_eq.1 e2) _ h5⟩
    | false => rw [e2] at h; exact h
structure JI (w0 w wd : World) (m pb : Nat) (vals : Int) (nl : Nat) (ask : Int) (vI vT : Value) (l0 : ByteArray) (inits : List TCell) (f : Nat → Bool) (w9 : World) : Prop where
  ms : MS w0 w9 m
  cb : f 14 = false → Chg (fun k => k = m) wd w9
  sz : wd.heap.size ≤ w9.heap.size
  g : f 16 = false → SPg w0 w w9 m pb vals nl ask vI vT
  s : f 16 = true → ∃ v' y, 0 ≤ y ∧ y < vals ∧ SP w0 w w9 m pb vals nl ask v' vT (inits ++ [⟨l0, y⟩])
theorem JI.other {w0 w wd w9 : World} {m pb : Nat} {vals : Int} {nl : Nat} {ask : Int} {vI vT : Value} {l0 : ByteArray} {inits : List TCell} {f : Nat → Bool} (h : JI w0 w wd m pb vals nl ask vI vT l0 inits f w9) {i : Nat} (h1 : 14 ≠ i) (h2 : 16 ≠ i) : JI w0 w wd m pb vals nl ask vI vT l0 inits (upd f i) w9 :=
  ⟨h.ms, fun e => h.cb ((upd_ne f h1).symm.trans e), h.sz, fun e => h.g ((upd_ne f h2).symm.trans e), fun e => h.s ((upd_ne f h2).symm.trans e)⟩
theorem JI.call {w0 w wd w9 w' : World} {m pb : Nat} {vals : Int} {nl : Nat} {ask : Int} {vI vT : Value} {l0 : ByteArray} {inits : List TCell} {f : Nat → Bool} (h : JI w0 w wd m pb vals nl ask vI vT l0 inits f w9) (hz : f 16 = false) (hmw : m < w.heap.size) (hpb : w.heap.size ≤ pb) (hm : MS w0 w' m) (hc : Chg (fun k => k = m) w9 w') : JI w0 w wd m pb vals nl ask vI vT l0 inits f w' :=
  ⟨hm, fun e => (h.cb e).step hc, Nat.le_trans h.sz hc.size, fun e => (h.g e).call hmw hpb hm hc, fun e => absurd (hz.symm.trans e) (by decide)⟩
theorem JI.below {w0 w wd w9 w' : World} {m pb : Nat} {vals : Int} {nl : Nat} {ask : Int} {vI vT : Value} {l0 : ByteArray} {inits : List TCell} {f : Nat → Bool} (h : JI w0 w wd m pb vals nl ask vI vT l0 inits f w9) (hz : f 16 = false) (hb : Below w9.heap.size w9 w') : JI w0 w wd m pb vals nl ask vI vT l0 inits f w' :=
  ⟨h.ms.step hb, fun e => (h.cb e).step (Chg.of_below hb), Nat.le_trans h.sz hb.size, fun e => (h.g e).below hb, fun e => absurd (hz.symm.trans e) (by decide)⟩
theorem tmod_small (r q vals : Int) (h0 : 0 ≤ r) (h1 : r < vals) (hq : q = 1 ∨ q = 2) (hv : 2 ≤ vals) : 0 ≤ Int.tmod r q ∧ Int.tmod r q < vals := by
  have h2 : 0 ≤ Int.tmod r q := Int.tmod_nonneg q h0
  have h3 : Int.tmod r q < q := Int.tmod_lt_of_pos r (by omega)
  exact ⟨h2, by omega⟩
end Go.Proofs.Ytlhbnbckanmaiaa.K
namespace Go.Proofs.Ytlhbnbckanmaiaa.K
open Go Go.RowKit Go.Proofs.YtlhbnbckanmaiaaW.PrintWords Go.Proofs.YtlhbnbckanmaiaaW.PrintLast Go.Proofs.YtlhbnbckanmaiaaW.PrintMore Go.Proofs.Ytlhbnbckanmaiaa.PC1
set_option linter.unusedVariables false
set_option linter.unusedSimpArgs false
/-- p with its threads, and the names of their registers. -/
structure SQ (w0 w wr : World) (m pb : Nat) (vals : Int) (nl : Nat) (ask : Int) (vI : Value) (inits : List TCell) (vT vR : Value) (ths : List (List TStmt)) (RS : List (List ByteArray)) : Prop where
  g : SPg w0 w wr m pb vals nl ask vI vT
  rI : Kd.R kCell 51 wr w.heap.size (fun k => w.heap.size ≤ k) vI inits
  nT : Kd.N kThr0 35 wr w.heap.size (fun k => w.heap.size + 1 < k ∧ k ≠ pb ∧ some k ≠ vR.ownBlock ∧ some k ≠ vI.ownBlock) vT ths
  nR : Kd.N kRegs 37 wr w.heap.size (fun k => k ≠ m ∧ k ≠ pb ∧ some k ≠ vT.ownBlock) vR RS
theorem SQ.call {w0 w wr w1 : World} {m pb : Nat} {vals : Int} {nl : Nat} {ask : Int} {vI vT vR : Value} {inits : List TCell} {ths : List (List TStmt)} {RS : List (List ByteArray)} (h : SQ w0 w wr m pb vals nl ask vI inits vT vR ths RS) (hmw : m < w.heap.size) (hpb : w.heap.size ≤ pb) (hm : MS w0 w1 m) (hc : Chg (fun k => k = m) wr w1) : SQ w0 w w1 m pb vals nl ask vI inits vT vR ths RS :=
  ⟨h.g.call hmw hpb hm hc, rI_call h.rI hmw hc, Kd.N_step h.nT (fun k hk hlt => hc.block k hlt (fun e => by omega)), Kd.N_step h.nR (fun k hk hlt => hc.block k hlt hk.1)⟩
theorem SQ.below {w0 w wr w1 : World} {m pb : Nat} {vals : Int} {nl : Nat} {ask : Int} {vI vT vR : Value} {inits : List TCell} {ths : List (List TStmt)} {RS : List (List ByteArray)} (h : SQ w0 w wr m pb vals nl ask vI inits vT vR ths RS) (hb : Below wr.heap.size wr w1) : SQ w0 w w1 m pb vals nl ask vI inits vT vR ths RS :=
  ⟨h.g.below hb, Kd.R_below h.rI hb, Kd.N_below h.nT hb, Kd.N_below h.nR hb⟩
theorem own_move2 {W : World} {v v1 : Value} (hat : v1.ownBlock = v.ownBlock ∨ ∃ b, v1.ownBlock = some b ∧ W.heap.size ≤ b) {k : Nat} (h1 : some k ≠ v.ownBlock) (h2 : k < W.heap.size) : some k ≠ v1.ownBlock := by
  rcases hat with e | ⟨b, e, hb⟩
  · rw [e]; exact h1
  · rw [e]; intro q; injection q with q; omega
/-- A thread is laid behind the others: the row grows, then p's cell turns. -/
theorem SQ.appT {w0 w wr w1 : World} {m pb : Nat} {vals : Int} {nl : Nat} {ask : Int} {vI vT vR v1 : Value} {inits : List TCell} {ths ths1 : List (List TStmt)} {RS : List (List ByteArray)} (h : SQ w0 w wr m pb vals nl ask vI inits vT vR ths RS) (hmw : m < w.heap.size) (hw0 : w0.heap.size ≤ w.heap.size) (hpb : w.heap.size + 1 < pb)
    (hn : Kd.N kThr0 35 w1 w.heap.size (fun k => w.heap.size + 1 < k ∧ k ≠ pb ∧ some k ≠ vR.ownBlock ∧ some k ≠ vI.ownBlock) v1 ths1) (hg : wr.grownBy w1 vT.ownBlock) (hat : v1.ownBlock = vT.ownBlock ∨ ∃ b, v1.ownBlock = some b ∧ wr.heap.size ≤ b) : SQ w0 w (w1.setCell ⟨pb, 3, none⟩ v1) m pb vals nl ask vI inits v1 vR ths1 RS := by
  have hG := h.g.grown hmw hg (Kd.N_base h.nT) (Kd.N_typed h.nT) (by decide) (by decide)
  have hR1 := Kd.R_over' h.rI (Kd.N_typed h.nT) (by decide) hg
  have hN1 : Kd.N kRegs 37 w1 w.heap.size (fun k => k ≠ m ∧ k ≠ pb ∧ some k ≠ v1.ownBlock) vR RS :=
    Kd.N_mono (Kd.N_grown (Kd.N_bound h.nR) hg (fun k hk => hk.1.2.2)) (fun k hk => ⟨hk.1.1, hk.1.2.1, own_move2 hat hk.1.2.2 hk.2⟩)
  exact ⟨hG.setT hmw hw0 hpb v1, Kd.R_set hR1 hG.pbk (by decide) 3 v1, Kd.N_far hn (fun k hk => hk.2.1) v1, Kd.N_far hN1 (fun k hk => hk.2.1) v1⟩
/-- The names of a thread's registers are laid behind the others. -/
theorem SQ.appR {w0 w wr w1 : World} {m pb : Nat} {vals : Int} {nl : Nat} {ask : Int} {vI vT vR v1 : Value} {inits : List TCell} {ths : List (List TStmt)} {RS RS1 : List (List ByteArray)} (h : SQ w0 w wr m pb vals nl ask vI inits vT vR ths RS) (hmw : m < w.heap.size)
    (hn : Kd.N kRegs 37 w1 w.heap.size (fun k => k ≠ m ∧ k ≠ pb ∧ some k ≠ vT.ownBlock) v1 RS1) (hg : wr.grownBy w1 vR.ownBlock) (hat : v1.ownBlock = vR.ownBlock ∨ ∃ b, v1.ownBlock = some b ∧ wr.heap.size ≤ b) : SQ w0 w w1 m pb vals nl ask vI inits vT v1 ths RS1 :=
  ⟨h.g.grown hmw hg (Kd.N_base h.nR) (Kd.N_typed h.nR) (by decide) (by decide), Kd.R_over' h.rI (Kd.N_typed h.nR) (by decide) hg,
   Kd.N_mono (Kd.N_grown (Kd.N_bound h.nT) hg (fun k hk => hk.1.2.2.1)) (fun k hk => ⟨hk.1.1, hk.1.2.1, own_move2 hat hk.1.2.2.1 hk.2, hk.1.2.2.2⟩), hn⟩
/-- What a thread's statements leave, as an element of the row of threads. -/
theorem thr_FK {W : World} {S : Nat} {vo : Value} {l : List TStmt} (h : Kd.N kStmt 55 W S (fun k => S ≤ k) vo l) : Kd.FK kThr0 W (fun k => S ≤ k) l [vo] := by
  obtain ⟨A, c, rfl⟩ := Kd.N_slice h
  exact Kd.FK_slice_mk (Kd.N_reads' h).2.1 (Kd.N_F h)
theorem regs_FK {w0 W : World} {vr : Value} {R : List ByteArray} (h : RG w0 W vr R) : Kd.FK kRegs W (fun k => some k = vr.ownBlock) R [vr] := by
  obtain ⟨A, c, e, hl, -⟩ := h.reads
  subst e
  exact Kd.FK_slice_mk hl (Kd.R_F h)
theorem regs_ok {w0 w wr : World} {m pb : Nat} {vals : Int} {nl : Nat} {ask : Int} {vI vT vR vr : Value} {inits : List TCell} {ths : List (List TStmt)} {RS : List (List ByteArray)} {R : List ByteArray} (h : SQ w0 w wr m pb vals nl ask vI inits vT vR ths RS) (hr : RG w0 wr vr R) (k : Nat) (hk : some k = vr.ownBlock) : (k ≠ m ∧ k ≠ pb ∧ some k ≠ vT.ownBlock) ∧ some k ≠ vR.ownBlock := by
  obtain ⟨cells, hc⟩ := Kd.R_typed hr k hk.symm
  have ne : ∀ {t : TypeId} {cs : Array Value}, wr.heap[k]? = some (.cells cs t (0, 0)) → t = 9 := by
    intro t cs hx
    rw [hc] at hx
    injection hx with q1
    injection q1 with _ q2
    exact q2.symm
  refine ⟨⟨fun e => ?_, fun e => ?_, fun e => ?_⟩, fun e => ?_⟩
  · obtain ⟨cs, hcs⟩ := h.g.ms.typ
    exact absurd (ne (e ▸ hcs)) (by decide)
  · exact absurd (ne (e ▸ h.g.pbk)) (by decide)
  · obtain ⟨cs, hcs⟩ := Kd.N_typed h.nT k e.symm
    exact absurd (ne hcs) (by decide)
  · obtain ⟨cs, hcs⟩ := Kd.N_typed h.nR k e.symm
    exact absurd (ne hcs) (by decide)
theorem infoRg : (Try.prog.info? 37).map (fun i => (i.zero, i.size, i.bytes)) = some (some (.slice none 0 0), 1, 24) := by kernel_rfl
theorem RG.grown {w0 w w1 : World} {v u : Value} {R : List ByteArray} (h : RG w0 w v R) {t : TypeId} (hg : w.grownBy w1 u.ownBlock) (ht : ∀ k, u.ownBlock = some k → ∃ cells, w.heap[k]? = some (.cells cells t (0, 0))) (hne : t ≠ 9) : RG w0 w1 v R :=
  h.chg (Chg.grown (F := fun k => some k = u.ownBlock) hg (fun k hk => hk.symm)) (fun k hk _ => by obtain ⟨cs, hcs⟩ := ht k hk.symm; exact ⟨cs, t, hcs, hne⟩)
theorem RG.set {w0 w : World} {v : Value} {R : List ByteArray} (h : RG w0 w v R) {g t : Nat} {cs : Array Value} (hb : w.heap[g]? = some (.cells cs t (0, 0))) (hne : t ≠ 9) (j : Nat) (u : Value) : RG w0 (w.setCell ⟨g, j, none⟩ u) v R :=
  h.chg (chg_set w g j u) (fun k hk _ => by subst hk; exact ⟨cs, t, hb, hne⟩)
theorem put59 {W : World} {s : Nat} {t : TypeId} {a0 a1 a2 a3 a4 a5 a6 a7 a8 a9 : Value} (h : W.heap[s]? = some (.cells #[a0, a1, a2, a3, a4, a5, a6, a7, a8, a9] t (0, 0))) (b5 b6 b7 b8 b9 : Value) :
    (((((W.setCell ⟨s, 5, none⟩ b5).setCell ⟨s, 6, none⟩ b6).setCell ⟨s, 7, none⟩ b7).setCell ⟨s, 8, none⟩ b8).setCell ⟨s, 9, none⟩ b9).heap[s]? = some (.cells #[a0, a1, a2, a3, a4, b5, b6, b7, b8, b9] t (0, 0))
    ∧ Chg (fun k => k = s) W (((((W.setCell ⟨s, 5, none⟩ b5).setCell ⟨s, 6, none⟩ b6).setCell ⟨s, 7, none⟩ b7).setCell ⟨s, 8, none⟩ b8).setCell ⟨s, 9, none⟩ b9) := by
  have h5 := blk_put h 5 b5 (show Array.setIfInBounds #[a0, a1, a2, a3, a4, a5, a6, a7, a8, a9] 5 b5 = #[a0, a1, a2, a3, a4, b5, a6, a7, a8, a9] from rfl)
  have h6 := blk_put h5 6 b6 (show Array.setIfInBounds #[a0, a1, a2, a3, a4, b5, a6, a7, a8, a9] 6 b6 = #[a0, a1, a2, a3, a4, b5, b6, a7, a8, a9] from rfl)
  have h7 := blk_put h6 7 b7 (show Array.setIfInBounds #[a0, a1, a2, a3, a4, b5, b6, a7, a8, a9] 7 b7 = #[a0, a1, a2, a3, a4, b5, b6, b7, a8, a9] from rfl)
  have h8 := blk_put h7 8 b8 (show Array.setIfInBounds #[a0, a1, a2, a3, a4, b5, b6, b7, a8, a9] 8 b8 = #[a0, a1, a2, a3, a4, b5, b6, b7, b8, a9] from rfl)
  have h9 := blk_put h8 9 b9 (show Array.setIfInBounds #[a0, a1, a2, a3, a4, b5, b6, b7, b8, a9] 9 b9 = #[a0, a1, a2, a3, a4, b5, b6, b7, b8, b9] from rfl)
  exact ⟨h9, (((((chg_set _ _ _ _).step (chg_set _ _ _ _)).step (chg_set _ _ _ _)).step (chg_set _ _ _ _)).step (chg_set _ _ _ _))⟩
theorem withF_len (R : List ByteArray) (r : ByteArray) : (withF R r).length ≤ R.length + 1 := by
  unfold withF; split
  · omega
  · simp
theorem gdL_len (S : List ByteArray → TStmt → Prop) : ∀ (l : List TStmt) (R R' : List ByteArray), gdL S R l R' → R'.length ≤ R.length + l.length
  | [], R, R', h => by
    have e : R' = R := h
    subst e; simp
  | x :: l, R, R', h => by
    have h1 := gdL_len S l _ R' h.2
    have h2 : (nextR R x.f2).length ≤ R.length + 1 := by unfold nextR; split; omega; exact withF_len R x.f2
    simp only [List.length_cons]; omega
theorem gdB_len (vals : Int) (nl D : Nat) (l : List TStmt) (R R' : List ByteArray) (h : gdB vals nl D R l R') : R'.length ≤ R.length + l.length := by
  rw [gdB_eq] at h; exact gdL_len _ l R R' h
/-- While a thread is made: 7 the call, behind it moves alone. -/
structure JT (w0 w wd : World) (m pb : Nat) (vals : Int) (nl : Nat) (ask : Int) (vI : Value) (inits : List TCell) (vT vR : Value) (ths : List (List TStmt)) (RS : List (List ByteArray)) (f : Nat → Bool) (g : Nat → Value) (w9 : World) : Prop where
  sq : SQ w0 w w9 m pb vals nl ask vI inits vT vR ths RS
  sz : wd.heap.size ≤ w9.heap.size
  tp : f 7 = true → ∃ (vo vr : Value) (l : List TStmt) (R' : List ByteArray) (S : Nat), wd.heap.size ≤ S ∧ g 58 = .tuple #[vo, vr] ∧ Kd.N kStmt 55 w9 S (fun k => S ≤ k) vo l ∧ RG w0 w9 vr R' ∧ gdB vals nl 1 [] l R' ∧ l.length ≤ 4 ∧ (f 8 = true → g 50 = .tuple #[vo, vr]) ∧ (f 9 = true → g 59 = vo) ∧ (f 10 = true → g 60 = vr) ∧ (f 11 = true → g 15 = vo) ∧ (f 12 = true → g 16 = vr)
theorem JT.pre {w0 w wd w9 w' : World} {m pb : Nat} {vals : Int} {nl : Nat} {ask : Int} {vI vT vR : Value} {inits : List TCell} {ths : List (List TStmt)} {RS : List (List ByteArray)} {f : Nat → Bool} {g g' : Nat → Value} (h : JT w0 w wd m pb vals nl ask vI inits vT vR ths RS f g w9) (h7 : f 7 = false) {i : Nat} (hi : 7 ≠ i) (hq : SQ w0 w w' m pb vals nl ask vI inits vT vR ths RS) (hz : w9.heap.size ≤ w'.heap.size) : JT w0 w wd m pb vals nl ask vI inits vT vR ths RS (upd f i) g' w' :=
  ⟨hq, Nat.le_trans h.sz hz, fun e => absurd (h7.symm.trans ((upd_ne f hi).symm.trans e)) (by decide)⟩
end Go.Proofs.Ytlhbnbckanmaiaa.K
