/- V03r: a part of the proof: contracts of functions, or plain laws. Conditions: none. -/
import Derived.Test.YtmlklopopokjoaaV03q
namespace Go.Proofs.Ytmlklopopokjoaa.Ah
open Go Go.WideShapes
set_option maxHeartbeats 4000000
set_option linter.unusedSimpArgs false
set_option linter.unusedVariables false
/-! Plain products. -/
theorem mu_comm (a b : Int) : mu a b = mu b a := by
  unfold mu
  rw [Nat.mul_comm a.natAbs b.natAbs]
  congr 1
  cases decide (a < 0) <;> cases decide (b < 0) <;> rfl
theorem mu_zero (a : Int) : mu a 0 = (0, false) := by
  unfold mu
  rw [show (0 : Int).natAbs = 0 from rfl, Nat.mul_zero]
  generalize (!decide (decide (a < 0) = decide ((0 : Int) < 0))) = t
  cases t <;> decide +kernel
theorem mu_one {a : Int} (h : InB a) : mu a 16777216 = (a, false) := by
  have hn : a.natAbs ≤ 70368744177664 := by obtain ⟨h1, h2⟩ := h; omega
  unfold mu
  rw [show (16777216 : Int).natAbs = 16777216 from rfl]
  have e1 : a.natAbs * 16777216 / 309485009821345068724781056 = 0 := by omega
  have e2 : rl (a.natAbs * 16777216) = a.natAbs := by
    unfold rl
    have h1 : a.natAbs * 16777216 % 16777216 = 0 := by omega
    have h2 : a.natAbs * 16777216 / 16777216 = a.natAbs := by omega
    rw [h1, h2, if_neg (by omega)]
    omega
  have e3 : sn (!decide (decide (a < 0) = decide ((16777216 : Int) < 0))) (a.natAbs : Int) = a := by
    have : decide ((16777216 : Int) < 0) = false := by decide
    rw [this]
    by_cases h0 : a < 0
    · rw [decide_eq_true h0]
      show (0 : Int) - (a.natAbs : Int) = a
      omega
    · rw [decide_eq_false h0]
      show (a.natAbs : Int) = a
      omega
  rw [e1, e2]
  unfold sg
  rw [if_pos ⟨rfl, hn⟩, e3, cl_id h, ov_no h]
theorem dot_congr {f g f' g' : Nat → Int} : ∀ {c : Nat}, (∀ j, j < c → f j = f' j ∧ g j = g' j) → dot f g c = dot f' g' c
  | 0, _ => rfl
  | c + 1, h => by
    obtain ⟨h1, h2⟩ := h c (by omega)
    unfold dot
    rw [dot_congr (c := c) fun j hj => h j (by omega), h1, h2]
theorem dot_comm (f g : Nat → Int) : ∀ c, dot f g c = dot g f c
  | 0 => rfl
  | c + 1 => by
    unfold dot
    rw [dot_comm f g c, mu_comm]
theorem dot_eye {f : Nat → Int} {k : Nat} (hf : ∀ j, InB (f j)) : ∀ c, dot f (fun j => if j = k then 16777216 else 0) c = (if k < c then f k else 0, false)
  | 0 => rfl
  | c + 1 => by
    unfold dot
    rw [dot_eye hf c]
    by_cases h : c = k
    · subst h
      simp only [Nat.lt_irrefl, if_false, if_true, Nat.lt_succ_self, mu_one (hf c), Int.zero_add]
      rw [cl_id (hf c), ov_no (hf c)]
      rfl
    · simp only [h, if_false, mu_zero, Int.add_zero]
      by_cases h2 : k < c
      · rw [if_pos h2, if_pos (by omega), cl_id (hf k), ov_no (hf k)]
        rfl
      · rw [if_neg h2, if_neg (by omega)]
        rfl
theorem matO_iff {b : Nat → Nat → Bool} {c : Nat} {r : Nat} : matO b r c = true ↔ ∃ i, i < r ∧ ∃ k, k < c ∧ b i k = true := by
  unfold matO rowO
  simp only [List.any_eq_true, List.mem_range]
theorem matO_tr {b : Nat → Nat → Bool} {c : Nat} {r : Nat} : matO (fun i k => b k i) c r = matO b r c := by
  rw [Bool.eq_iff_iff, matO_iff, matO_iff]
  constructor
  · rintro ⟨i, hi, k, hk, h⟩
    exact ⟨k, hk, i, hi, h⟩
  · rintro ⟨i, hi, k, hk, h⟩
    exact ⟨k, hk, i, hi, h⟩
theorem mul_eye {m : Mx} {H : Heap} (h : m.ok H) {p off : Nat} {kk : Option Nat} : mulL m ⟨m.c, m.c, eyL m.c, p, off, kk⟩ = m.l ∧ mulO m ⟨m.c, m.c, eyL m.c, p, off, kk⟩ = false := by
  have key : ∀ i k, i < m.r → k < m.c → dot (fun j => m.at i j) (fun j => Mx.at ⟨m.c, m.c, eyL m.c, p, off, kk⟩ j k) m.c = (m.at i k, false) := by
    intro i k hi hk
    have e : dot (fun j => m.at i j) (fun j => Mx.at ⟨m.c, m.c, eyL m.c, p, off, kk⟩ j k) m.c = dot (fun j => if j < m.c then m.at i j else 0) (fun j => if j = k then 16777216 else 0) m.c := by
      refine dot_congr fun j hj => ⟨by show m.at i j = _; rw [if_pos hj], ?_⟩
      show Mx.at ⟨m.c, m.c, eyL m.c, p, off, kk⟩ j k = _
      unfold eyL
      rw [matL_at' hj hk]
    rw [e, dot_eye (fun j => by show InB (if j < m.c then m.at i j else 0); split; exact Mx.at_in h hi ‹_›; exact ⟨by decide, by decide⟩), if_pos hk, if_pos hk]
  constructor
  · unfold mulL
    rw [matL_congr (q' := m.at) fun i k hi hk => by rw [key i k hi hk]]
    exact matL_at h.hl h.hc.1
  · exact matO_no fun i k hi hk => by rw [key i k hi hk]
def trL (m : Mx) : List Int := matL (fun i k => m.at k i) m.c m.r
theorem tr_at {m : Mx} {p off i k : Nat} {kk : Option Nat} (hi : i < m.c) (hk : k < m.r) : Mx.at ⟨m.c, m.r, trL m, p, off, kk⟩ i k = m.at k i := matL_at' hi hk
theorem tr_tr {m : Mx} {H : Heap} (h : m.ok H) {p off : Nat} {kk : Option Nat} : trL ⟨m.c, m.r, trL m, p, off, kk⟩ = m.l := by
  have : trL ⟨m.c, m.r, trL m, p, off, kk⟩ = matL m.at m.r m.c := matL_congr fun i k hi hk => tr_at hk hi
  rw [this]
  exact matL_at h.hl h.hc.1
theorem mul_tr {m n : Mx} (hc : m.c = n.r) {p1 o1 p2 o2 p3 o3 : Nat} {k1 k2 k3 : Option Nat} :
    trL ⟨m.r, n.c, mulL m n, p3, o3, k3⟩ = mulL ⟨n.c, n.r, trL n, p1, o1, k1⟩ ⟨m.c, m.r, trL m, p2, o2, k2⟩ ∧ mulO ⟨n.c, n.r, trL n, p1, o1, k1⟩ ⟨m.c, m.r, trL m, p2, o2, k2⟩ = mulO m n := by
  have key : ∀ i k, i < n.c → k < m.r → dot (fun j => Mx.at ⟨n.c, n.r, trL n, p1, o1, k1⟩ i j) (fun j => Mx.at ⟨m.c, m.r, trL m, p2, o2, k2⟩ j k) n.r = dot (fun j => m.at k j) (fun j => n.at j i) m.c := by
    intro i k hi hk
    rw [dot_comm, hc]
    exact dot_congr fun j hj => ⟨tr_at (p := p2) (off := o2) (kk := k2) (by omega) hk, tr_at (p := p1) (off := o1) (kk := k1) hi hj⟩
  constructor
  · refine matL_congr fun i k hi hk => ?_
    rw [show dot (fun j => Mx.at ⟨n.c, n.r, trL n, p1, o1, k1⟩ i j) (fun j => Mx.at ⟨m.c, m.r, trL m, p2, o2, k2⟩ j k) (Mx.mk n.c n.r (trL n) p1 o1 k1).c = dot (fun j => m.at k j) (fun j => n.at j i) m.c from key i k hi hk]
    exact matL_at' hk hi
  · have : mulO ⟨n.c, n.r, trL n, p1, o1, k1⟩ ⟨m.c, m.r, trL m, p2, o2, k2⟩ = matO (fun i k => (dot (fun j => m.at k j) (fun j => n.at j i) m.c).2) n.c m.r := matO_congr fun i k hi hk => by
      rw [show dot (fun j => Mx.at ⟨n.c, n.r, trL n, p1, o1, k1⟩ i j) (fun j => Mx.at ⟨m.c, m.r, trL m, p2, o2, k2⟩ j k) (Mx.mk n.c n.r (trL n) p1 o1 k1).c = dot (fun j => m.at k j) (fun j => n.at j i) m.c from key i k hi hk]
    rw [this]
    exact matO_tr (b := fun i k => (dot (fun j => m.at i j) (fun j => n.at j k) m.c).2)
theorem mul_ok {m n : Mx} {H H' : Heap} (hm : m.ok H) (hn : n.ok H) {p off : Nat} {kk : Option Nat} (hs : Sl i64 H' p off (mulL m n)) : Mx.ok ⟨m.r, n.c, mulL m n, p, off, kk⟩ H' :=
  ⟨hm.hr, hn.hc, matL_len _ _ _, matL_in fun i k _ _ => dot_in _ _ _, hs⟩
theorem ey_ok {n : Nat} {H : Heap} (hn : 0 < n ∧ n ≤ 8) {p off : Nat} {kk : Option Nat} (hs : Sl i64 H p off (eyL n)) : Mx.ok ⟨n, n, eyL n, p, off, kk⟩ H :=
  ⟨hn, hn, matL_len _ _ _, matL_in fun i k _ _ => by split <;> exact ⟨by decide, by decide⟩, hs⟩
end Go.Proofs.Ytmlklopopokjoaa.Ah
