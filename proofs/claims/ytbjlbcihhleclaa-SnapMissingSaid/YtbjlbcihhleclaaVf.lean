/- Vf: a part of the proof: contracts of functions, or plain laws. Conditions: none. -/
import Derived.Test.YtbjlbcihhleclaaVe
namespace Go.Proofs.Ytbjlbcihhleclaa.Ah
open Go Go.WideShapes
set_option maxHeartbeats 4000000
set_option linter.unusedSimpArgs false
set_option linter.unusedVariables false
/-! Contracts: a row's parts. -/
/-- The words of the first k parts. -/
def pc (l : List Int) (k : Nat) : List Int := (List.range (8 * k)).map fun i => l.getD i 0
def row8 (l : List Int) (k : Nat) : List Int := (List.range 8).map fun j => l.getD (8 * k + j) 0
theorem pc_succ (l : List Int) (k : Nat) : pc l (k + 1) = pc l k ++ row8 l k := by
  unfold pc row8
  rw [show 8 * (k + 1) = 8 * k + 8 by omega, List.range_add, List.map_append, List.map_map]
  rfl
theorem pc_len (l : List Int) (k : Nat) : (pc l k).length = 8 * k := by simp [pc]
theorem pc_get (l : List Int) {k i : Nat} (h : i < 8 * k) : (pc l k)[i]? = some (l.getD i 0) := by simp [pc, h]
theorem row8_set (l : List Int) (k : Nat) : setCells (List.replicate 8 (AV.int .i64 0)) 0 (((l.drop (8 * k)).take 8).map (AV.int .i64)) = (row8 l k).map (AV.int .i64) := by
  unfold setCells row8
  apply List.ext_getElem?
  intro i
  by_cases hi : i < 8
  · by_cases h : 8 * k + i < l.length
    · simp [List.getElem?_append, List.getElem?_drop, List.getElem?_take, hi]
      have : i < min 8 (l.length - 8 * k) := by omega
      simp [this, List.getElem?_eq_getElem h]
    · have : ¬ i < min 8 (l.length - 8 * k) := by omega
      simp [List.getElem?_append, List.getElem?_drop, List.getElem?_take, hi, this]
      have h2 : l[8 * k + i]? = none := by simp; omega
      simp [h2, List.getElem?_replicate]
      rw [show min 8 (l.length - 8 * k) + (i - min 8 (l.length - 8 * k)) = i by omega]
      exact List.getElem?_replicate_of_lt (n := 8) hi
  · simp [List.getElem?_append, List.getElem?_drop, List.getElem?_take, hi]
    omega
/-- What stands on the way. -/
structure PI (H : Heap) (S L : AV) (l : List Int) (k : Nat) (X : Heap) : Prop where
  ext : Ext H X
  b0 : ∃ w, blkAt X H.length = some ⟨[w], true⟩ ∧ (k = 0 ∧ w = .nils ∨ ∃ q, (0 < k ∧ H.length + 3 < q) ∧ w = .sl q 0 k 8 none ∧ blkAt X q = some ⟨(pc l k).map (AV.int .i64), true⟩)
  b1 : blkAt X (H.length + 1) = some ⟨[S], true⟩
  b2 : blkAt X (H.length + 2) = some ⟨[.int .i64 8], true⟩
  b3 : blkAt X (H.length + 3) = some ⟨[L], true⟩
theorem PI.turn {H : Heap} {S L L2 : AV} {l : List Int} {k : Nat} {X : Heap} (d : PI H S L l k X) : PI H S L2 l k (X.set (H.length + 3) (some ⟨[L2], true⟩)) := by
  obtain ⟨w, h1, h2⟩ := d.b0
  refine ⟨d.ext.set (by omega) _, ⟨w, ?_, ?_⟩, ?_, ?_, blkAt_set_self (blkAt_lt d.b3) _⟩
  · rw [blkAt_set_ne (by omega)]; exact h1
  · rcases h2 with h2 | ⟨q, h3, h4, h5⟩
    · exact .inl h2
    · exact .inr ⟨q, h3, h4, by rw [blkAt_set_ne (by omega)]; exact h5⟩
  · rw [blkAt_set_ne (by omega)]; exact d.b1
  · rw [blkAt_set_ne (by omega)]; exact d.b2
theorem PI.next {H : Heap} {S L : AV} {l : List Int} {k : Nat} {X Y : Heap} (d : PI H S L l k X) (he : Ext H Y) (hs : ∀ i, i ≤ 3 → i ≠ 0 → blkAt Y (H.length + i) = blkAt X (H.length + i)) {q : Nat} (hq : H.length + 3 < q)
    (h2 : blkAt Y H.length = some ⟨[.sl q 0 (k + 1) 8 none], true⟩) (h5 : blkAt Y q = some ⟨(pc l (k + 1)).map (AV.int .i64), true⟩) : PI H S L l (k + 1) Y :=
  ⟨he, ⟨_, h2, .inr ⟨q, ⟨by omega, hq⟩, rfl, h5⟩⟩, by rw [← d.b1]; exact hs 1 (by omega) (by omega), by rw [← d.b2]; exact hs 2 (by omega) (by omega), by rw [← d.b3]; exact hs 3 (by omega) (by omega)⟩
end Go.Proofs.Ytbjlbcihhleclaa.Ah
