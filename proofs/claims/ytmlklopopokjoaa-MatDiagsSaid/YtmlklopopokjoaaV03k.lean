/- V03k: a part of the proof: contracts of functions, or plain laws. Conditions: none. -/
import Derived.Test.YtmlklopopokjoaaV03j
namespace Go.Proofs.Ytmlklopopokjoaa.Ah
open Go Go.WideShapes
set_option maxHeartbeats 4000000
set_option linter.unusedSimpArgs false
set_option linter.unusedVariables false
/-! Plain matrices; the law MatSums. -/
theorem matL_get {q : Nat → Nat → Int} {c : Nat} : ∀ {r i k : Nat}, i < r → k < c → (matL q r c)[i * c + k]? = some (q i k)
  | 0, i, k, hi, hk => by omega
  | r + 1, i, k, hi, hk => by
    rw [matL_succ]
    by_cases h : i < r
    · rw [List.getElem?_append_left (by rw [matL_len]; exact ix_lt h hk)]
      exact matL_get h hk
    · obtain rfl : i = r := by omega
      rw [List.getElem?_append_right (by rw [matL_len]; omega), matL_len, Nat.add_sub_cancel_left]
      unfold rowL
      rw [List.getElem?_map, List.getElem?_range hk]
      rfl
theorem matL_congr {q q' : Nat → Nat → Int} {c : Nat} : ∀ {r : Nat}, (∀ i k, i < r → k < c → q i k = q' i k) → matL q r c = matL q' r c
  | 0, _ => rfl
  | r + 1, h => by
    rw [matL_succ, matL_succ, matL_congr (r := r) fun i k hi hk => h i k (by omega) hk]
    congr 1
    unfold rowL
    exact List.map_congr_left fun k hk => h r k (by omega) (List.mem_range.1 hk)
theorem matO_no {b : Nat → Nat → Bool} {c : Nat} : ∀ {r : Nat}, (∀ i k, i < r → k < c → b i k = false) → matO b r c = false
  | 0, _ => rfl
  | r + 1, h => by
    rw [matO_succ, matO_no (r := r) fun i k hi hk => h i k (by omega) hk, Bool.false_or]
    unfold rowO
    rw [List.any_eq_false]
    intro k hk
    rw [h r k (by omega) (List.mem_range.1 hk)]
    simp
theorem matO_congr {b b' : Nat → Nat → Bool} {c : Nat} : ∀ {r : Nat}, (∀ i k, i < r → k < c → b i k = b' i k) → matO b r c = matO b' r c
  | 0, _ => rfl
  | r + 1, h => by
    rw [matO_succ, matO_succ, matO_congr (r := r) fun i k hi hk => h i k (by omega) hk]
    congr 1
    unfold rowO
    rw [Bool.eq_iff_iff, List.any_eq_true, List.any_eq_true]
    constructor
    · rintro ⟨k, hk, e⟩
      exact ⟨k, hk, by rw [← h r k (by omega) (List.mem_range.1 hk)]; exact e⟩
    · rintro ⟨k, hk, e⟩
      exact ⟨k, hk, by rw [h r k (by omega) (List.mem_range.1 hk)]; exact e⟩
theorem matL_at {l : List Int} {r c : Nat} (hl : l.length = r * c) (hc : 0 < c) : matL (fun i k => l.getD (i * c + k) 0) r c = l := by
  apply List.ext_getElem?
  intro j
  rcases Nat.lt_or_ge j l.length with h | h
  · have hj : j = j / c * c + j % c := by rw [Nat.mul_comm]; exact (Nat.div_add_mod j c).symm
    have h1 : j / c < r := Nat.div_lt_of_lt_mul (by rw [Nat.mul_comm, ← hl]; exact h)
    have := matL_get (q := fun i k => l.getD (i * c + k) 0) h1 (Nat.mod_lt j hc)
    rw [← hj] at this
    rw [this, List.getD_eq_getElem?_getD, List.getElem?_eq_getElem h]
    rfl
  · rw [List.getElem?_eq_none h, List.getElem?_eq_none (by rw [matL_len, ← hl]; exact h)]
theorem matL_at' {q : Nat → Nat → Int} {r c i k p off : Nat} {kk : Option Nat} (hi : i < r) (hk : k < c) : Mx.at ⟨r, c, matL q r c, p, off, kk⟩ i k = q i k := by
  unfold Mx.at
  rw [List.getD_eq_getElem?_getD, matL_get hi hk]
  rfl
theorem right_mx {R C : Int} {l : List Int} {p off : Nat} {k : Option Nat} {H : Heap} (h : rightB R C l = true) (hs : Sl i64 H p off l) : ∃ m : Mx, R = m.r ∧ C = m.c ∧ m.l = l ∧ m.p = p ∧ m.off = off ∧ m.k = k ∧ m.ok H := by
  unfold rightB at h
  rw [Bool.and_eq_true] at h
  obtain ⟨h1, h2⟩ := h
  obtain ⟨g1, g2, g3, g4, g5⟩ := of_decide_eq_true h1
  refine ⟨⟨R.toNat, C.toNat, l, p, off, k⟩, by show R = (R.toNat : Int); omega, by show C = (C.toNat : Int); omega, rfl, rfl, rfl, rfl, ⟨?_, ?_, ?_, ?_, hs⟩⟩
  · show 0 < R.toNat ∧ R.toNat ≤ 8; omega
  · show 0 < C.toNat ∧ C.toNat ≤ 8; omega
  · show l.length = R.toNat * C.toNat
    have : (l.length : Int) = ((R.toNat * C.toNat : Nat) : Int) := by
      rw [g5, Int.natCast_mul]
      congr 1 <;> omega
    omega
  · intro x hx
    rw [List.all_eq_true] at h2
    exact inb_iff.1 (h2 x hx)
theorem sumL_comm {m n : Mx} (hr : m.r = n.r) (hc : m.c = n.c) : sumL n m = sumL m n ∧ sumO n m = sumO m n := by
  unfold sumL sumO
  rw [hr, hc]
  exact ⟨matL_congr fun i k _ _ => by rw [Int.add_comm], matO_congr fun i k _ _ => by rw [Int.add_comm]⟩
theorem subL_self (m : Mx) : (∀ x ∈ subL m m, x = 0) ∧ subO m m = false := by
  constructor
  · intro x hx
    unfold subL matL rowL at hx
    simp only [List.mem_flatMap, List.mem_range, List.mem_map] at hx
    obtain ⟨i, hi, k, hk, rfl⟩ := hx
    rw [Int.sub_self]
    rfl
  · exact matO_no fun i k _ _ => by rw [Int.sub_self]; rfl
theorem sum_zero {m : Mx} {H : Heap} (h : m.ok H) {p off : Nat} {kk : Option Nat} : sumL m ⟨m.r, m.c, subL m m, p, off, kk⟩ = m.l ∧ sumO m ⟨m.r, m.c, subL m m, p, off, kk⟩ = false := by
  have key : ∀ i k, i < m.r → k < m.c → m.at i k + Mx.at ⟨m.r, m.c, subL m m, p, off, kk⟩ i k = m.at i k := by
    intro i k hi hk
    unfold subL
    rw [matL_at' hi hk, Int.sub_self]
    exact Int.add_zero _
  constructor
  · unfold sumL
    rw [matL_congr (q' := m.at) fun i k hi hk => by rw [key i k hi hk, cl_id (Mx.at_in h hi hk)]]
    exact matL_at h.hl h.hc.1
  · exact matO_no fun i k hi hk => by rw [key i k hi hk]; exact ov_no (Mx.at_in h hi hk)
theorem sub_ok {m n : Mx} {H : Heap} (h : m.ok H) {p off : Nat} {kk : Option Nat} {H' : Heap} (hs : Sl i64 H' p off (subL m n)) : Mx.ok ⟨m.r, m.c, subL m n, p, off, kk⟩ H' :=
  ⟨h.hr, h.hc, matL_len _ _ _, matL_in fun _ _ _ _ => cl_in _, hs⟩
theorem same_self (R C : Int) (l : List Int) : sameB R C l R C l = true := by unfold sameB; simp
end Go.Proofs.Ytmlklopopokjoaa.Ah
