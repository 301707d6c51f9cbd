/- A text of a claim (ours), plain law: the count of ones by bytes. -/
import Derived.Lib.BitFns
namespace Go.Proofs.YtpkhcmholpljnabDoor.Pop
/-- A number by its bytes, the least first. -/
def val : List Nat → Nat
  | [] => 0
  | d :: t => 256 * val t + d
theorem and256 (a b c d : Nat) (hb : b < 256) (hd : d < 256) : (256 * a + b) &&& (256 * c + d) = 256 * (a &&& c) + (b &&& d) := by
  have hbd : b &&& d < 256 := Nat.lt_of_le_of_lt Nat.and_le_left hb
  apply Nat.eq_of_testBit_eq
  intro i
  rw [Nat.testBit_and, show 256 * a + b = 2 ^ 8 * a + b from rfl, show 256 * c + d = 2 ^ 8 * c + d from rfl, show 256 * (a &&& c) + (b &&& d) = 2 ^ 8 * (a &&& c) + (b &&& d) from rfl]
  rw [Nat.testBit_two_pow_mul_add a hb i, Nat.testBit_two_pow_mul_add c hd i, Nat.testBit_two_pow_mul_add _ hbd i]
  split <;> simp [Nat.testBit_and]
theorem and_rep (m : Nat) (hm : m < 256) : ∀ ds : List Nat, (∀ d ∈ ds, d < 256) → val ds &&& val (List.replicate ds.length m) = val (ds.map fun d => d &&& m)
  | [], _ => by simp [val]
  | d :: t, h => by
    simp only [List.length_cons, List.replicate_succ, val, List.map_cons]
    rw [and256 _ _ _ _ (h d (by simp)) hm, and_rep m hm t (fun x hx => h x (by simp [hx]))]
theorem shift1 : ∀ ds : List Nat, (∀ d ∈ ds, d < 256) → (val ds / 2) &&& val (List.replicate ds.length 85) = val (ds.map fun d => (d / 2) &&& 85)
  | [], _ => by simp [val]
  | d :: t, h => by
    have hd := h d (by simp)
    have e : (256 * val t + d) / 2 = 256 * (val t / 2) + (128 * (val t % 2) + d / 2) := by omega
    have hr : val t % 2 < 2 := Nat.mod_lt _ (by omega)
    have key : ∀ (r : Fin 2) (d : Fin 256), (128 * r.1 + d.1 / 2) &&& 85 = (d.1 / 2) &&& 85 := by decide +kernel
    simp only [List.length_cons, List.replicate_succ, val, List.map_cons]
    rw [e, and256 _ _ _ _ (by omega) (by omega), shift1 t (fun x hx => h x (by simp [hx])), key ⟨_, hr⟩ ⟨d, hd⟩]
theorem shift2 : ∀ ds : List Nat, (∀ d ∈ ds, d < 256) → (val ds / 4) &&& val (List.replicate ds.length 51) = val (ds.map fun d => (d / 4) &&& 51)
  | [], _ => by simp [val]
  | d :: t, h => by
    have hd := h d (by simp)
    have e : (256 * val t + d) / 4 = 256 * (val t / 4) + (64 * (val t % 4) + d / 4) := by omega
    have hr : val t % 4 < 4 := Nat.mod_lt _ (by omega)
    have key : ∀ (r : Fin 4) (d : Fin 256), (64 * r.1 + d.1 / 4) &&& 51 = (d.1 / 4) &&& 51 := by decide +kernel
    simp only [List.length_cons, List.replicate_succ, val, List.map_cons]
    rw [e, and256 _ _ _ _ (by omega) (by omega), shift2 t (fun x hx => h x (by simp [hx])), key ⟨_, hr⟩ ⟨d, hd⟩]
theorem shift4 : ∀ ds : List Nat, (∀ d ∈ ds, d < 256) → (val ds / 16) &&& val (List.replicate ds.length 15) = val (ds.map fun d => (d / 16) &&& 15)
  | [], _ => by simp [val]
  | d :: t, h => by
    have hd := h d (by simp)
    have e : (256 * val t + d) / 16 = 256 * (val t / 16) + (16 * (val t % 16) + d / 16) := by omega
    have hr : val t % 16 < 16 := Nat.mod_lt _ (by omega)
    have key : ∀ (r : Fin 16) (d : Fin 256), (16 * r.1 + d.1 / 16) &&& 15 = (d.1 / 16) &&& 15 := by decide +kernel
    simp only [List.length_cons, List.replicate_succ, val, List.map_cons]
    rw [e, and256 _ _ _ _ (by omega) (by omega), shift4 t (fun x hx => h x (by simp [hx])), key ⟨_, hr⟩ ⟨d, hd⟩]
theorem val_add (f g : Nat → Nat) : ∀ ds : List Nat, val (ds.map f) + val (ds.map g) = val (ds.map fun d => f d + g d)
  | [] => rfl
  | d :: t => by
    have := val_add f g t
    simp only [List.map_cons, val]
    omega
theorem val_lt : ∀ ds : List Nat, (∀ d ∈ ds, d < 256) → val ds < 256 ^ ds.length
  | [], _ => by simp [val]
  | d :: t, h => by
    have h1 := val_lt t (fun x hx => h x (by simp [hx]))
    have h2 := h d (by simp)
    simp only [val, List.length_cons, Nat.pow_succ]
    omega
theorem and_rep' (f : Nat → Nat) (m : Nat) (hm : m < 256) (ds : List Nat) (h : ∀ d ∈ ds, f d < 256) : val (ds.map f) &&& val (List.replicate ds.length m) = val (ds.map fun d => f d &&& m) := by
  have := and_rep m hm (ds.map f) (by simpa using h)
  simpa [Function.comp_def] using this
def c1 (d : Nat) : Nat := ((d / 2) &&& 85) + (d &&& 85)
def c2 (d : Nat) : Nat := ((d / 4) &&& 51) + (d &&& 51)
def c3 (d : Nat) : Nat := (d / 16 + d) &&& 15
theorem c1_lt : ∀ d : Fin 256, c1 d.1 < 256 := by decide +kernel
theorem c2_le : ∀ d : Fin 256, c2 (c1 d.1) ≤ 68 ∧ c2 (c1 d.1) % 16 ≤ 4 := by decide +kernel
theorem c3_le : ∀ d : Fin 256, c3 (c2 (c1 d.1)) ≤ 8 := by decide +kernel
theorem c3_eq : ∀ d : Fin 256, c3 (c2 (c1 d.1)) = Lib.popAux 8 d.1 := by decide +kernel
theorem step3 : ∀ ds : List Nat, (∀ d ∈ ds, d ≤ 68 ∧ d % 16 ≤ 4) → (val ds / 16 + val ds) &&& val (List.replicate ds.length 15) = val (ds.map c3)
  | [], _ => by simp [val]
  | d :: t, h => by
    have hd := h d (by simp)
    have hr : val t % 16 < 5 := by
      cases t with
      | nil => simp [val]
      | cons e u => have := h e (by simp); simp only [val]; omega
    have e : (256 * val t + d) / 16 + (256 * val t + d) = 256 * (val t / 16 + val t) + (16 * (val t % 16) + d / 16 + d) := by omega
    have key : ∀ (r : Fin 5) (d : Fin 69), (16 * r.1 + d.1 / 16 + d.1) &&& 15 = (d.1 / 16 + d.1) &&& 15 := by decide +kernel
    simp only [List.length_cons, List.replicate_succ, val, List.map_cons, c3]
    rw [e, and256 _ _ _ _ (by omega) (by omega), step3 t (fun x hx => h x (by simp [hx])), key ⟨_, hr⟩ ⟨d, by omega⟩]
theorem popAux_split (n q d : Nat) (hd : d < 256) : Lib.popAux (n + 8) (256 * q + d) = Lib.popAux 8 d + Lib.popAux n q := by
  simp only [Lib.popAux, Nat.div_div_eq_div_mul]
  have e : (256 * q + d) / (2 * 2 * 2 * 2 * 2 * 2 * 2 * 2) = q := by omega
  rw [e]
  have e1 : (256 * q + d) % 2 = d % 2 := by omega
  have e2 : (256 * q + d) / 2 % 2 = d / 2 % 2 := by omega
  have e3 : (256 * q + d) / (2 * 2) % 2 = d / (2 * 2) % 2 := by omega
  have e4 : (256 * q + d) / (2 * 2 * 2) % 2 = d / (2 * 2 * 2) % 2 := by omega
  have e5 : (256 * q + d) / (2 * 2 * 2 * 2) % 2 = d / (2 * 2 * 2 * 2) % 2 := by omega
  have e6 : (256 * q + d) / (2 * 2 * 2 * 2 * 2) % 2 = d / (2 * 2 * 2 * 2 * 2) % 2 := by omega
  have e7 : (256 * q + d) / (2 * 2 * 2 * 2 * 2 * 2) % 2 = d / (2 * 2 * 2 * 2 * 2 * 2) % 2 := by omega
  have e8 : (256 * q + d) / (2 * 2 * 2 * 2 * 2 * 2 * 2) % 2 = d / (2 * 2 * 2 * 2 * 2 * 2 * 2) % 2 := by omega
  rw [e1, e2, e3, e4, e5, e6, e7, e8]
  simp only [Nat.add_assoc, Nat.zero_add]
theorem pop_val : ∀ ds : List Nat, (∀ d ∈ ds, d < 256) → Lib.popAux (8 * ds.length) (val ds) = (ds.map (Lib.popAux 8)).sum
  | [], _ => rfl
  | d :: t, h => by
    have e : 8 * (d :: t).length = 8 * t.length + 8 := by simp only [List.length_cons]; omega
    rw [e]
    simp only [val, List.map_cons, List.sum_cons]
    rw [popAux_split _ _ _ (h d (by simp)), pop_val t (fun x hx => h x (by simp [hx]))]
def bytes : Nat → Nat → List Nat
  | 0, _ => []
  | k + 1, n => n % 256 :: bytes k (n / 256)
theorem bytes_len : ∀ k n, (bytes k n).length = k
  | 0, _ => rfl
  | k + 1, n => by simp [bytes, bytes_len k]
theorem bytes_lt : ∀ k n, ∀ d ∈ bytes k n, d < 256
  | 0, _ => by simp [bytes]
  | k + 1, n => by
    intro d hd
    simp only [bytes, List.mem_cons] at hd
    rcases hd with rfl | hd
    · omega
    · exact bytes_lt k _ d hd
theorem val_bytes : ∀ k n, n < 256 ^ k → val (bytes k n) = n
  | 0, n, h => by simp at h; simp [bytes, val, h]
  | k + 1, n, h => by
    have h1 : n / 256 < 256 ^ k := by rw [Nat.pow_succ] at h; omega
    simp only [bytes, val]
    rw [val_bytes k _ h1]
    omega
theorem last8 (a0 a1 a2 a3 a4 a5 a6 a7 : Nat) (h0 : a0 ≤ 8) (h1 : a1 ≤ 8) (h2 : a2 ≤ 8) (h3 : a3 ≤ 8) (h4 : a4 ≤ 8) (h5 : a5 ≤ 8) (h6 : a6 ≤ 8) (h7 : a7 ≤ 8) :
    ∃ y z1 z2 z3, y = val [a0, a1, a2, a3, a4, a5, a6, a7] ∧ z1 = y + y / 256 ∧ z2 = z1 + z1 / 65536 ∧ z3 = z2 + z2 / 4294967296 ∧ y < 9223372036854775808 ∧ z1 < 9223372036854775808 ∧ z2 < 9223372036854775808 ∧ z3 < 9223372036854775808 ∧ z3 % 128 = a0 + (a1 + (a2 + (a3 + (a4 + (a5 + (a6 + (a7 + 0))))))) := by
  refine ⟨_, _, _, _, rfl, rfl, rfl, rfl, ?_⟩
  have y : val [a0, a1, a2, a3, a4, a5, a6, a7] = 256 * val [a1, a2, a3, a4, a5, a6, a7] + a0 := rfl
  have d1 : val [a0, a1, a2, a3, a4, a5, a6, a7] / 256 = val [a1, a2, a3, a4, a5, a6, a7] := by omega
  have z1 : val [a0, a1, a2, a3, a4, a5, a6, a7] + val [a0, a1, a2, a3, a4, a5, a6, a7] / 256 = val [a0 + a1, a1 + a2, a2 + a3, a3 + a4, a4 + a5, a5 + a6, a6 + a7, a7] := by
    rw [d1]; simp only [val]; omega
  rw [z1]
  have d2 : val [a0 + a1, a1 + a2, a2 + a3, a3 + a4, a4 + a5, a5 + a6, a6 + a7, a7] / 65536 = val [a2 + a3, a3 + a4, a4 + a5, a5 + a6, a6 + a7, a7] := by
    simp only [val]; omega
  have z2 : val [a0 + a1, a1 + a2, a2 + a3, a3 + a4, a4 + a5, a5 + a6, a6 + a7, a7] + val [a0 + a1, a1 + a2, a2 + a3, a3 + a4, a4 + a5, a5 + a6, a6 + a7, a7] / 65536
      = val [a0 + a1 + a2 + a3, a1 + a2 + a3 + a4, a2 + a3 + a4 + a5, a3 + a4 + a5 + a6, a4 + a5 + a6 + a7, a5 + a6 + a7, a6 + a7, a7] := by
    rw [d2]; simp only [val]; omega
  rw [z2]
  have d3 : val [a0 + a1 + a2 + a3, a1 + a2 + a3 + a4, a2 + a3 + a4 + a5, a3 + a4 + a5 + a6, a4 + a5 + a6 + a7, a5 + a6 + a7, a6 + a7, a7] / 4294967296 = val [a4 + a5 + a6 + a7, a5 + a6 + a7, a6 + a7, a7] := by
    simp only [val]; omega
  rw [d3]
  refine ⟨?_, ?_, ?_, ?_, ?_⟩ <;> simp only [val] <;> omega
theorem m85 : val (List.replicate 8 85) = 6148914691236517205 := by decide
theorem m51 : val (List.replicate 8 51) = 3689348814741910323 := by decide
theorem m15 : val (List.replicate 8 15) = 1085102592571150095 := by decide
/-- The count by halves is the count. -/
theorem swar (n : Nat) (hn : n < 18446744073709551616) :
    ∃ y1 y2 y3 z1 z2 z3, y1 = ((n / 2) &&& 6148914691236517205) + (n &&& 6148914691236517205) ∧ y1 < 18446744073709551616 ∧ y2 = ((y1 / 4) &&& 3689348814741910323) + (y1 &&& 3689348814741910323) ∧ y2 < 18446744073709551616
      ∧ y2 / 16 + y2 < 18446744073709551616 ∧ y3 = (y2 / 16 + y2) &&& 1085102592571150095 ∧ z1 = y3 + y3 / 256 ∧ z2 = z1 + z1 / 65536 ∧ z3 = z2 + z2 / 4294967296
      ∧ y3 < 9223372036854775808 ∧ z1 < 9223372036854775808 ∧ z2 < 9223372036854775808 ∧ z3 < 9223372036854775808 ∧ z3 % 128 = Lib.onesCount n := by
  have hb : n = val (bytes 8 n) := (val_bytes 8 n hn).symm
  have hlt := bytes_lt 8 n
  have hlen := bytes_len 8 n
  generalize bytes 8 n = ds at hb hlt hlen
  have E1 : ((n / 2) &&& 6148914691236517205) + (n &&& 6148914691236517205) = val (ds.map c1) := by
    have s1 := shift1 ds hlt
    have s2 := and_rep 85 (by omega) ds hlt
    rw [hlen, m85] at s1 s2
    rw [hb, s1, s2, val_add]; rfl
  have hc1 : ∀ d ∈ ds, c1 d < 256 := fun d hd => c1_lt ⟨d, hlt d hd⟩
  have E2 : ((val (ds.map c1) / 4) &&& 3689348814741910323) + (val (ds.map c1) &&& 3689348814741910323) = val (ds.map fun d => c2 (c1 d)) := by
    have s1 := shift2 (ds.map c1) (by simpa using hc1)
    have s2 := and_rep 51 (by omega) (ds.map c1) (by simpa using hc1)
    rw [List.length_map, hlen, m51, List.map_map] at s1 s2
    rw [s1, s2, val_add]; rfl
  have hc2 : ∀ d ∈ ds, c2 (c1 d) ≤ 68 ∧ c2 (c1 d) % 16 ≤ 4 := fun d hd => c2_le ⟨d, hlt d hd⟩
  have E3 : (val (ds.map fun d => c2 (c1 d)) / 16 + val (ds.map fun d => c2 (c1 d))) &&& 1085102592571150095 = val (ds.map fun d => c3 (c2 (c1 d))) := by
    have s1 := step3 (ds.map fun d => c2 (c1 d)) (by simpa using hc2)
    rw [List.length_map, hlen, m15, List.map_map] at s1
    rw [s1]; rfl
  have hc3 : ∀ d ∈ ds, c3 (c2 (c1 d)) ≤ 8 := fun d hd => c3_le ⟨d, hlt d hd⟩
  have L1 : val (ds.map c1) < 18446744073709551616 := by
    have := val_lt (ds.map c1) (by simpa using hc1)
    rw [List.length_map, hlen] at this; exact this
  have L2 : val (ds.map fun d => c2 (c1 d)) / 16 + val (ds.map fun d => c2 (c1 d)) < 18446744073709551616 ∧ val (ds.map fun d => c2 (c1 d)) < 18446744073709551616 := by
    match ds, hlen, hc2 with
    | [d0, d1, d2, d3, d4, d5, d6, d7], _, h =>
      have h0 := (h d0 (by simp)).1; have h1 := (h d1 (by simp)).1; have h2 := (h d2 (by simp)).1; have h3 := (h d3 (by simp)).1
      have h4 := (h d4 (by simp)).1; have h5 := (h d5 (by simp)).1; have h6 := (h d6 (by simp)).1; have h7 := (h d7 (by simp)).1
      simp only [List.map_cons, List.map_nil, val]
      omega
  have LAST : ∃ y z1 z2 z3, y = val (ds.map fun d => c3 (c2 (c1 d))) ∧ z1 = y + y / 256 ∧ z2 = z1 + z1 / 65536 ∧ z3 = z2 + z2 / 4294967296 ∧ y < 9223372036854775808 ∧ z1 < 9223372036854775808 ∧ z2 < 9223372036854775808 ∧ z3 < 9223372036854775808 ∧ z3 % 128 = (ds.map (Lib.popAux 8)).sum := by
    have hq : ∀ d ∈ ds, c3 (c2 (c1 d)) = Lib.popAux 8 d := fun d hd => c3_eq ⟨d, hlt d hd⟩
    have hm : (ds.map fun d => c3 (c2 (c1 d))) = ds.map (Lib.popAux 8) := List.map_congr_left hq
    rw [hm]
    have h8 : ∀ d ∈ ds, Lib.popAux 8 d ≤ 8 := fun d hd => (hq d hd) ▸ hc3 d hd
    match ds, hlen, h8 with
    | [d0, d1, d2, d3, d4, d5, d6, d7], _, h =>
      exact last8 _ _ _ _ _ _ _ _ (h d0 (by simp)) (h d1 (by simp)) (h d2 (by simp)) (h d3 (by simp)) (h d4 (by simp)) (h d5 (by simp)) (h d6 (by simp)) (h d7 (by simp))
  obtain ⟨y, z1, z2, z3, ey, e1, e2, e3, l0, l1, l2, l3, l4⟩ := LAST
  refine ⟨_, _, y, z1, z2, z3, rfl, ?_, rfl, ?_, ?_, ?_, e1, e2, e3, l0, l1, l2, l3, ?_⟩
  · rw [E1]; exact L1
  · rw [E1, E2]; exact L2.2
  · rw [E1, E2]; exact L2.1
  · rw [E1, E2, E3]; exact ey
  · rw [l4]
    have := pop_val ds hlt
    rw [hlen, ← hb] at this
    exact this.symm
end Go.Proofs.YtpkhcmholpljnabDoor.Pop
