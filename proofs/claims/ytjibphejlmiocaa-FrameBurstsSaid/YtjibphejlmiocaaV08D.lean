/- V08D: a part of the proof: contracts of functions, or plain laws. Conditions: none. -/
import Derived.Test.YtjibphejlmiocaaV08C
namespace Go.Proofs.Ytjibphejlmiocaa.Ah
open Go
set_option linter.unusedVariables false
/-! Plain laws of sums: bursts. -/
theorem st1_zero {c : Nat} (h : c < 4294967296) (h0 : st1 c = 0) : c = 0 := by
  unfold st1 at h0
  split at h0
  · have h1 := congrArg (fun x => x ^^^ 3988292384) h0
    simp only [Nat.xor_assoc, Nat.xor_self, Nat.xor_zero, Nat.zero_xor] at h1
    omega
  · omega
theorem stn_zero : ∀ {k c : Nat}, c < 4294967296 → stn k c = 0 → c = 0
  | 0, _, _, h => h
  | k + 1, _, h, h0 => st1_zero h (stn_zero (k := k) (st1_lt h) h0)
theorem stn_nil : ∀ (k : Nat), stn k 0 = 0
  | 0 => rfl
  | k + 1 => by rw [stn, show st1 0 = 0 by decide, stn_nil k]
theorem stn_add : ∀ (j k c : Nat), stn (j + k) c = stn k (stn j c)
  | 0, k, c => by rw [Nat.zero_add]; rfl
  | j + 1, k, c => by rw [show j + 1 + k = (j + k) + 1 by omega, stn, stn, stn_add j k]
theorem mor_shift : ∀ (r : List Nat) (c d : Nat), mor (c ^^^ d) r = mor c r ^^^ stn (8 * r.length) d
  | [], c, d => rfl
  | x :: r, c, d => by
    rw [mor_cons, mor_cons, Nat.xor_assoc, Nat.xor_comm d x, ← Nat.xor_assoc, stn_xor, mor_shift r, List.length_cons, show 8 * (r.length + 1) = 8 + 8 * r.length by omega, stn_add]
theorem mor_setx : ∀ (s : List Nat) (a b c x : Nat), s[a]? = some x → mor c (s.set a (x ^^^ b)) = mor c s ^^^ stn (8 * (s.length - a)) b
  | [], a, b, c, x, h => by simp at h
  | y :: r, 0, b, c, x, h => by
    simp at h
    subst h
    rw [List.set_cons_zero, mor_cons, mor_cons, ← Nat.xor_assoc, stn_xor, mor_shift, List.length_cons, show 8 * (r.length + 1 - 0) = 8 + 8 * r.length by omega, stn_add]
  | y :: r, a + 1, b, c, x, h => by
    rw [List.set_cons_succ, mor_cons, mor_cons, mor_setx r a b _ x (by simpa using h), List.length_cons, show r.length + 1 - (a + 1) = r.length - a by omega]
theorem stn8_256 (a b : Nat) : stn 8 (a ^^^ 256 * b) = stn 8 a ^^^ b := by
  rw [stn_xor]
  have := stn_shift 8 b
  rw [show (2 : Nat) ^ 8 = 256 by rfl] at this
  rw [this]
def pk4 (a b c d : Nat) : Nat := a ^^^ 256 * (b ^^^ 256 * (c ^^^ 256 * d))
theorem mor4 (x a b c d : Nat) : mor x [a, b, c, d] = stn 32 (x ^^^ pk4 a b c d) := by
  rw [mor_cons, mor_cons, mor_cons, mor_cons, mor]
  rw [show (32 : Nat) = 8 + (8 + (8 + 8)) by rfl, stn_add, stn_add, stn_add]
  unfold pk4
  rw [← Nat.xor_assoc, stn8_256, ← Nat.xor_assoc, stn8_256, ← Nat.xor_assoc, stn8_256]
theorem add_xor (a b : Nat) (h : a < 256) : a ^^^ 256 * b = a + 256 * b := by
  have := split_xor (a + 256 * b)
  rw [show (a + 256 * b) / 256 = b by omega, show (a + 256 * b) % 256 = a by omega, Nat.xor_comm] at this
  exact this.symm
theorem pk4_eq {a b c d : Nat} (ha : a < 256) (hb : b < 256) (hc : c < 256) : pk4 a b c d = a + 256 * b + 65536 * c + 16777216 * d := by
  unfold pk4
  rw [add_xor c d hc, add_xor b _ hb, add_xor a _ ha]
  omega
theorem xor_eq_iff (a b c : Nat) : a ^^^ b = c ↔ a = c ^^^ b := by
  constructor
  · rintro rfl
    rw [Nat.xor_assoc, Nat.xor_self, Nat.xor_zero]
  · rintro rfl
    rw [Nat.xor_assoc, Nat.xor_self, Nat.xor_zero]
theorem stn_inj {k a b : Nat} (ha : a < 4294967296) (hb : b < 4294967296) (h : stn k a = stn k b) : a = b := by
  have h1 : stn k (a ^^^ b) = 0 := by rw [stn_xor, h, Nat.xor_self]
  have h2 := stn_zero (Nat.xor_lt_two_pow (n := 32) (show a < 2 ^ 32 by omega) (show b < 2 ^ 32 by omega)) h1
  have h3 := (xor_eq_iff a b 0).1 h2
  rwa [Nat.zero_xor] at h3
def whole' (zs : List Nat) (m : Nat) : Bool := decide (tail4 (zs.take m) = zs.drop m)
theorem residue {s : List Nat} {m : Nat} (hb : By s) (hl : s.length = m + 4) : whole' s m = true ↔ mor 4294967295 s = stn 32 4294967295 := by
  obtain ⟨t0, t1, t2, t3, ht⟩ : ∃ a b c d, s.drop m = [a, b, c, d] := by
    have : (s.drop m).length = 4 := by rw [List.length_drop]; omega
    match s.drop m, this with
    | [a, b, c, d], _ => exact ⟨a, b, c, d, rfl⟩
  have hmem : ∀ x ∈ [t0, t1, t2, t3], x < 256 := fun x hx => hb x (List.mem_of_mem_drop (by rw [ht]; exact hx))
  have b0 := hmem t0 (by simp)
  have b1 := hmem t1 (by simp)
  have b2 := hmem t2 (by simp)
  have b3 := hmem t3 (by simp)
  have hz : By (s.take m) := fun x hx => hb x (List.mem_of_mem_take hx)
  have hx := mor_lt (s.take m) 4294967295 (by omega) hz
  have e1 : mor 4294967295 s = stn 32 (mor 4294967295 (s.take m) ^^^ pk4 t0 t1 t2 t3) := by
    conv => lhs; rw [← List.take_append_drop m s, ht]
    have ap : ∀ (a b : List Nat) (c : Nat), mor c (a ++ b) = mor (mor c a) b := by
      intro a
      induction a with
      | nil => intro b c; rfl
      | cons x a ih => intro b c; rw [List.cons_append, mor, mor, ih]
    rw [ap, mor4]
  have e2 := pk4_eq (d := t3) b0 b1 b2
  have e3 := sof_xor hz
  have hs := sof_lt (b := s.take m)
  unfold whole' tail4
  rw [decide_eq_true_eq, ht, e1]
  simp only [List.cons.injEq, and_true]
  generalize mor 4294967295 (s.take m) = x at *
  generalize sof (s.take m) = S at *
  constructor
  · intro h
    have : S = pk4 t0 t1 t2 t3 := by rw [e2]; omega
    rw [← this, e3, Nat.xor_comm, Nat.xor_assoc, Nat.xor_self, Nat.xor_zero]
  · intro h
    have hp : pk4 t0 t1 t2 t3 < 4294967296 := by rw [e2]; omega
    have h2 := stn_inj (Nat.xor_lt_two_pow (n := 32) (show x < 2 ^ 32 by omega) (show pk4 t0 t1 t2 t3 < 2 ^ 32 by omega)) (by omega) h
    have h3 : S = pk4 t0 t1 t2 t3 := by
      rw [e3, ← h2, Nat.xor_comm, ← Nat.xor_assoc, Nat.xor_self, Nat.zero_xor]
    rw [e2] at h3
    omega
end Go.Proofs.Ytjibphejlmiocaa.Ah
