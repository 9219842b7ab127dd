/- Vh: a part of the proof: contracts of functions, or plain laws. Conditions: none. -/
import Derived.Test.YtbjlbcihhleclaaVg
import Derived.WideShapes4
namespace Go.Proofs.Ytbjlbcihhleclaa.Ah
open Go Go.WideShapes
set_option maxHeartbeats 4000000
set_option linter.unusedSimpArgs false
set_option linter.unusedVariables false
/-! How many bits are 1. -/
def tl2 : SC → SC | .seq _ b => b | s => s
def u64 (n : Int) : Nat := (IntKind.u64.wrap n).toNat
theorem u64_cast (n : Int) : IntKind.u64.wrap n = ((u64 n : Nat) : Int) := by
  have h := (wrap_within .u64 n).1
  have e : IntKind.u64.min = 0 := by decide
  unfold u64
  omega
theorem u64_lt (n : Int) : u64 n < 18446744073709551616 := by
  have h := (wrap_within .u64 n)
  have e : IntKind.u64.min = 0 := by decide
  have e2 : IntKind.u64.max = 18446744073709551615 := by decide
  have := u64_cast n
  omega
theorem u64_mod (n : Int) : ((u64 n : Nat) : Int) = n % 18446744073709551616 := by
  rw [← u64_cast]
  unfold IntKind.wrap
  simp [IntKind.signed, IntKind.bits]
def D : List Nat → Nat
  | [] => 0
  | b :: r => b + 256 * D r
theorem and_split (a c b d : Nat) (hb : b < 256) (hd : d < 256) : (b + 256 * a) &&& (d + 256 * c) = (b &&& d) + 256 * (a &&& c) := by
  have e1 : b + 256 * a = 2 ^ 8 * a + b := by omega
  have e2 : d + 256 * c = 2 ^ 8 * c + d := by omega
  have hbd : b &&& d < 2 ^ 8 := Nat.and_lt_two_pow _ (by omega)
  have e3 : (b &&& d) + 256 * (a &&& c) = 2 ^ 8 * (a &&& c) + (b &&& d) := by omega
  rw [e1, e2, e3]
  apply Nat.eq_of_testBit_eq
  intro i
  rw [Nat.testBit_and, Nat.testBit_two_pow_mul_add _ (by omega : b < 2 ^ 8), Nat.testBit_two_pow_mul_add _ (by omega : d < 2 ^ 8), Nat.testBit_two_pow_mul_add _ hbd]
  split
  · rw [Nat.testBit_and]
  · rw [Nat.testBit_and]
def pop8 (b : Nat) : Nat := b % 2 + b / 2 % 2 + b / 4 % 2 + b / 8 % 2 + b / 16 % 2 + b / 32 % 2 + b / 64 % 2 + b / 128 % 2
def g1 (b : Nat) : Nat := (b / 2 &&& 85) + (b &&& 85)
def g2 (b : Nat) : Nat := (b / 4 &&& 51) + (b &&& 51)
set_option maxRecDepth 100000 in
theorem g_all : ∀ b, b < 256 → g1 b < 256 ∧ g2 (g1 b) < 256 ∧ (g2 (g1 b) / 16 ≤ 4 ∧ g2 (g1 b) % 16 ≤ 4) ∧ g2 (g1 b) / 16 + g2 (g1 b) % 16 = pop8 b ∧ pop8 b ≤ 8 := by decide +kernel
set_option maxRecDepth 100000 in
theorem half1 : ∀ b, b < 256 → ∀ t, t < 2 → ((b / 2 + 128 * t) &&& 85) = (b / 2 &&& 85) := by decide +kernel
set_option maxRecDepth 100000 in
theorem half2 : ∀ b, b < 256 → ∀ t, t < 4 → ((b / 4 + 64 * t) &&& 51) = (b / 4 &&& 51) := by decide +kernel
set_option maxRecDepth 100000 in
theorem half3 : ∀ b, b < 256 → (b &&& 15) = b % 16 := by decide +kernel
def M (m : Nat) : Nat → Nat
  | 0 => 0
  | k + 1 => m + 256 * M m k
def Bs (l : List Nat) : Prop := ∀ x ∈ l, x < 256
theorem D1 : ∀ (l : List Nat), Bs l → (D l / 2 &&& M 85 l.length) + (D l &&& M 85 l.length) = D (l.map g1)
  | [], _ => rfl
  | b :: r, h => by
    have hb : b < 256 := h b (by simp)
    have ih := D1 r (fun x hx => h x (by simp [hx]))
    have e : D (b :: r) / 2 = (b / 2 + 128 * (D r % 2)) + 256 * (D r / 2) := by rw [show D (b :: r) = b + 256 * D r from rfl]; omega
    rw [e, List.length_cons, M, and_split _ _ _ _ (by omega) (by omega), half1 b hb _ (by omega)]
    rw [D, and_split _ _ _ _ hb (by omega), List.map_cons, D, ← ih, g1]
    omega
theorem D2 : ∀ (l : List Nat), Bs l → (D l / 4 &&& M 51 l.length) + (D l &&& M 51 l.length) = D (l.map g2)
  | [], _ => rfl
  | b :: r, h => by
    have hb : b < 256 := h b (by simp)
    have ih := D2 r (fun x hx => h x (by simp [hx]))
    have e : D (b :: r) / 4 = (b / 4 + 64 * (D r % 4)) + 256 * (D r / 4) := by rw [show D (b :: r) = b + 256 * D r from rfl]; omega
    rw [e, List.length_cons, M, and_split _ _ _ _ (by omega) (by omega), half2 b hb _ (by omega)]
    rw [D, and_split _ _ _ _ hb (by omega), List.map_cons, D, ← ih, g2]
    omega
theorem D3 : ∀ (l : List Nat), (∀ x ∈ l, x / 16 ≤ 4 ∧ x % 16 ≤ 4) → (D l / 16 + D l) &&& M 15 l.length = D (l.map fun x => x / 16 + x % 16)
  | [], _ => rfl
  | b :: r, h => by
    have hb := h b (by simp)
    have ih := D3 r (fun x hx => h x (by simp [hx]))
    have hr : D r % 16 ≤ 4 := by
      cases r with
      | nil => exact Nat.zero_le _
      | cons c r => have := (h c (by simp)).2; unfold D; omega
    have e : D (b :: r) / 16 + D (b :: r) = (b / 16 + 16 * (D r % 16) + b) + 256 * (D r / 16 + D r) := by rw [show D (b :: r) = b + 256 * D r from rfl]; omega
    rw [e, List.length_cons, M, and_split _ _ _ _ (by omega) (by omega), half3 _ (by omega), ih, List.map_cons, D]
    omega
def dig (x : Nat) : Nat → List Nat
  | 0 => []
  | k + 1 => x % 256 :: dig (x / 256) k
theorem dig_D : ∀ (k x : Nat), x < 256 ^ k → D (dig x k) = x
  | 0, x, h => by simp at h; subst h; rfl
  | k + 1, x, h => by
    rw [dig, D, dig_D k (x / 256) (by rw [Nat.pow_succ] at h; omega)]
    omega
theorem dig_len : ∀ (k x : Nat), (dig x k).length = k
  | 0, _ => rfl
  | k + 1, x => by rw [dig, List.length_cons, dig_len]
theorem dig_Bs : ∀ (k x : Nat), Bs (dig x k)
  | 0, _ => by intro y hy; cases hy
  | k + 1, x => by
    intro y hy
    rw [dig] at hy
    rcases List.mem_cons.1 hy with rfl | h
    · omega
    · exact dig_Bs k _ y h
def pop (x : Nat) : Nat := ((dig x 8).map pop8).sum
def cnt64 (x : Nat) : Nat :=
  let y1 := (x / 2 &&& 6148914691236517205) + (x &&& 6148914691236517205)
  let y2 := (y1 / 4 &&& 3689348814741910323) + (y1 &&& 3689348814741910323)
  let y3 := (y2 / 16 + y2) &&& 1085102592571150095
  let y4 := y3 + y3 / 256
  let y5 := y4 + y4 / 65536
  let y6 := y5 + y5 / 4294967296
  y6 % 128
theorem cnt64_all {x : Nat} (hx : x < 18446744073709551616) : cnt64 x = pop x ∧ (x / 2 &&& 6148914691236517205) + (x &&& 6148914691236517205) < 18446744073709551616 := by
  have hD := dig_D 8 x (by omega)
  have hl := dig_len 8 x
  have hB := dig_Bs 8 x
  unfold pop
  generalize dig x 8 = l at *
  have s1 := D1 l hB
  have hB1 : Bs (l.map g1) := by intro y hy; obtain ⟨b, hb, rfl⟩ := List.mem_map.1 hy; exact (g_all b (hB b hb)).1
  have s2 := D2 (l.map g1) hB1
  have s3 := D3 ((l.map g1).map g2) (by intro y hy; simp only [List.map_map, List.mem_map, Function.comp_apply] at hy; obtain ⟨b, hb, rfl⟩ := hy; exact (g_all b (hB b hb)).2.2.1)
  have e4 : ((l.map g1).map g2).map (fun x => x / 16 + x % 16) = l.map pop8 := by
    rw [List.map_map, List.map_map]
    apply List.map_congr_left
    intro b hb
    exact (g_all b (hB b hb)).2.2.2.1
  rw [e4] at s3
  simp only [List.length_map, hl] at s1 s2 s3
  have m1 : M 85 8 = 6148914691236517205 := by decide
  have m2 : M 51 8 = 3689348814741910323 := by decide
  have m3 : M 15 8 = 1085102592571150095 := by decide
  rw [m1] at s1
  rw [m2] at s2
  rw [m3] at s3
  rw [hD] at s1
  have hp8 : ∀ y ∈ l.map pop8, y ≤ 8 := by intro y hy; obtain ⟨b, hb, rfl⟩ := List.mem_map.1 hy; exact (g_all b (hB b hb)).2.2.2.2
  have hl8 : (l.map pop8).length = 8 := by simp [hl]
  have hl1 : (l.map g1).length = 8 := by simp [hl]
  refine ⟨?_, ?_⟩
  · unfold cnt64
    simp only [s1, s2, s3]
    generalize l.map pop8 = p at *
    match p, hl8 with
    | [p0, p1, p2, p3, p4, p5, p6, p7], _ =>
      have h0 := hp8 p0 (by simp)
      have h1 := hp8 p1 (by simp)
      have h2 := hp8 p2 (by simp)
      have h3 := hp8 p3 (by simp)
      have h4 := hp8 p4 (by simp)
      have h5 := hp8 p5 (by simp)
      have h6 := hp8 p6 (by simp)
      have h7 := hp8 p7 (by simp)
      simp only [D, List.sum_cons, List.sum_nil]
      simp only [Nat.mul_zero, Nat.add_zero]
      have q0 : p0 + 256 * (p1 + 256 * (p2 + 256 * (p3 + 256 * (p4 + 256 * (p5 + 256 * (p6 + 256 * p7)))))) + (p0 + 256 * (p1 + 256 * (p2 + 256 * (p3 + 256 * (p4 + 256 * (p5 + 256 * (p6 + 256 * p7))))))) / 256 = (p0 + p1) + 256 * ((p1 + p2) + 256 * ((p2 + p3) + 256 * ((p3 + p4) + 256 * ((p4 + p5) + 256 * ((p5 + p6) + 256 * ((p6 + p7) + 256 * p7)))))) := by omega
      rw [q0]
      clear q0
      have q1 : (p0 + p1) + 256 * ((p1 + p2) + 256 * ((p2 + p3) + 256 * ((p3 + p4) + 256 * ((p4 + p5) + 256 * ((p5 + p6) + 256 * ((p6 + p7) + 256 * p7)))))) + ((p0 + p1) + 256 * ((p1 + p2) + 256 * ((p2 + p3) + 256 * ((p3 + p4) + 256 * ((p4 + p5) + 256 * ((p5 + p6) + 256 * ((p6 + p7) + 256 * p7))))))) / 65536 = (p0 + p1 + p2 + p3) + 256 * ((p1 + p2 + p3 + p4) + 256 * ((p2 + p3 + p4 + p5) + 256 * ((p3 + p4 + p5 + p6) + 256 * ((p4 + p5 + p6 + p7) + 256 * ((p5 + p6 + p7) + 256 * ((p6 + p7) + 256 * p7)))))) := by omega
      rw [q1]
      clear q1
      have q2 : ((p0 + p1 + p2 + p3) + 256 * ((p1 + p2 + p3 + p4) + 256 * ((p2 + p3 + p4 + p5) + 256 * ((p3 + p4 + p5 + p6) + 256 * ((p4 + p5 + p6 + p7) + 256 * ((p5 + p6 + p7) + 256 * ((p6 + p7) + 256 * p7))))))) / 4294967296 = (p4 + p5 + p6 + p7) + 256 * ((p5 + p6 + p7) + 256 * ((p6 + p7) + 256 * p7)) := by omega
      rw [q2]
      clear q2
      omega
  · rw [s1]
    generalize l.map g1 = p at *
    match p, hl1 with
    | [p0, p1, p2, p3, p4, p5, p6, p7], _ =>
      have h0 := hB1 p0 (by simp)
      have h1 := hB1 p1 (by simp)
      have h2 := hB1 p2 (by simp)
      have h3 := hB1 p3 (by simp)
      have h4 := hB1 p4 (by simp)
      have h5 := hB1 p5 (by simp)
      have h6 := hB1 p6 (by simp)
      have h7 := hB1 p7 (by simp)
      simp only [D]
      omega
end Go.Proofs.Ytbjlbcihhleclaa.Ah
