/- Ah1: a part of the proof: values, heaps and what a call keeps. Conditions: none. -/
/- Abstract values and abstract heaps: what a value of the machine reads as, when blocks of memory are told by numbers of one's own; what is kept when memory is made, read, written, or drawn from. -/
import Derived.Says
import Derived.Laws.World
import Derived.Laws.Sem
import Derived.Laws.Cells
import Derived.Laws.Rows
import Derived.Tactics
namespace Go.Proofs.Ytlohehkagaabfaa.Ah
open Go

inductive AV where
  | bool (b : Bool)
  | int (k : IntKind) (n : Int)
  | str (s : ByteArray)
  | nilp
  | ptr (b off : Nat)
  | nils
  | sl (b off len sz : Nat) (cap : Option Nat)
  | nilf
  | fn (f : Fn) (first captured : List AV)
  | nilm
  | agg (cs : List AV)
  | tup (vs : List AV)
  | any
  deriving Inhabited

structure Loc where
  blk : Nat
  off : Nat
  size : Nat

abbrev Val := Nat → Option Loc

mutual
def VR (M : Val) : AV → Value → Prop
  | .bool b, x => x = .bool b
  | .int k n, x => x = .int k n
  | .str s, x => x = .string s
  | .nilp, x => x = .pointer none
  | .ptr b off, x => ∃ l, M b = some l ∧ x = .pointer (some ⟨l.blk, l.off + off, none⟩)
  | .nils, x => x = .slice none 0 0
  | .sl b off n sz c, x => ∃ l, M b = some l ∧ ((∃ a cap, x = .slice (some a) n cap ∧ n ≤ cap ∧ (0 < cap → a = ⟨l.blk, l.off + off, none⟩ ∧ l.off + off + cap * sz ≤ l.size) ∧ (∀ k, c = some k → cap = k)) ∨
    (n = 0 ∧ c = none ∧ x = .slice none 0 0))
  | .nilf, x => x = .nilFunc
  | .fn f xs ys, x => ∃ us vs : List Value, x = .func f us.toArray vs.toArray ∧ VRs M xs us ∧ VRs M ys vs
  | .nilm, x => x = .map none
  | .agg cs, x => ∃ us : List Value, x = .agg us.toArray ∧ VRs M cs us
  | .tup cs, x => ∃ us : List Value, x = .tuple us.toArray ∧ VRs M cs us
  | .any, _ => True
def VRs (M : Val) : List AV → List Value → Prop
  | [], us => us = []
  | v :: vs, us => ∃ x xs, us = x :: xs ∧ VR M v x ∧ VRs M vs xs
end

def Val.le (M M' : Val) : Prop := ∀ i l, M i = some l → M' i = some l
theorem Val.le_refl (M : Val) : M.le M := fun _ _ h => h
theorem Val.le_trans {M M' M'' : Val} (h : M.le M') (h' : M'.le M'') : M.le M'' := fun i l e => h' i l (h i l e)

mutual
theorem VR.mono {M M' : Val} (h : M.le M') : ∀ (v : AV) (x : Value), VR M v x → VR M' v x
  | .bool _, _, e => by simpa [VR] using e
  | .int _ _, _, e => by simpa [VR] using e
  | .str _, _, e => by simpa [VR] using e
  | .nilp, _, e => by simpa [VR] using e
  | .ptr _ _, _, e => by
    simp only [VR] at e ⊢
    obtain ⟨l, e1, e2⟩ := e
    exact ⟨l, h _ _ e1, e2⟩
  | .nils, _, e => by simpa [VR] using e
  | .sl _ _ _ _ _, _, e => by
    simp only [VR] at e ⊢
    obtain ⟨l, e1, e2⟩ := e
    exact ⟨l, h _ _ e1, e2⟩
  | .nilf, _, e => by simpa [VR] using e
  | .fn _ xs ys, _, e => by
    simp only [VR] at e ⊢
    obtain ⟨us, vs, e1, e2, e3⟩ := e
    exact ⟨us, vs, e1, VRs.mono h xs us e2, VRs.mono h ys vs e3⟩
  | .nilm, _, e => by simpa [VR] using e
  | .agg cs, _, e => by
    simp only [VR] at e ⊢
    obtain ⟨us, e1, e2⟩ := e
    exact ⟨us, e1, VRs.mono h cs us e2⟩
  | .tup cs, _, e => by
    simp only [VR] at e ⊢
    obtain ⟨us, e1, e2⟩ := e
    exact ⟨us, e1, VRs.mono h cs us e2⟩
  | .any, _, _ => by simp [VR]
theorem VRs.mono {M M' : Val} (h : M.le M') : ∀ (vs : List AV) (us : List Value), VRs M vs us → VRs M' vs us
  | [], _, e => by simpa [VRs] using e
  | v :: vs, _, e => by
    simp only [VRs] at e ⊢
    obtain ⟨x, xs, e1, e2, e3⟩ := e
    exact ⟨x, xs, e1, VR.mono h v x e2, VRs.mono h vs xs e3⟩
end

theorem VRs.length {M : Val} : ∀ {vs : List AV} {us : List Value}, VRs M vs us → us.length = vs.length
  | [], _, e => by simp only [VRs] at e; simp [e]
  | v :: vs, _, e => by
    simp only [VRs] at e
    obtain ⟨x, xs, rfl, _, e3⟩ := e
    simp [e3.length]

theorem VRs.get {M : Val} : ∀ {vs : List AV} {us : List Value}, VRs M vs us → ∀ (j : Nat) (v : AV), vs[j]? = some v → ∃ x, us[j]? = some x ∧ VR M v x
  | [], _, _, j, v, h => by simp at h
  | w :: vs, _, e, j, v, h => by
    simp only [VRs] at e
    obtain ⟨x, xs, rfl, e2, e3⟩ := e
    cases j with
    | zero => simp at h; subst h; exact ⟨x, rfl, e2⟩
    | succ j => simpa using e3.get j v (by simpa using h)

theorem VRs.mk {M : Val} : ∀ {vs : List AV} {us : List Value}, us.length = vs.length → (∀ (j : Nat) (v : AV), vs[j]? = some v → ∃ x, us[j]? = some x ∧ VR M v x) → VRs M vs us
  | [], us, hl, _ => by simp at hl; simp [VRs, hl]
  | v :: vs, [], hl, _ => by simp at hl
  | v :: vs, x :: xs, hl, h => by
    simp only [VRs]
    refine ⟨x, xs, rfl, ?_, ?_⟩
    · obtain ⟨y, hy, hv⟩ := h 0 v rfl
      simp at hy
      subst hy
      exact hv
    · refine VRs.mk (by simpa using hl) fun j u hu => ?_
      simpa using h (j + 1) u (by simpa using hu)

theorem VRs.append {M : Val} {vs vs' : List AV} {us us' : List Value} (h : VRs M vs us) (h' : VRs M vs' us') : VRs M (vs ++ vs') (us ++ us') := by
  have hl := h.length
  have hl' := h'.length
  refine VRs.mk (by simp [hl, hl']) fun j v hv => ?_
  by_cases hj : j < vs.length
  · rw [List.getElem?_append_left hj] at hv
    rw [List.getElem?_append_left (by omega)]
    exact h.get j v hv
  · rw [List.getElem?_append_right (by omega)] at hv
    rw [List.getElem?_append_right (by omega), hl]
    exact h'.get _ v hv

/-- A value of one cell. -/
def AV.cell : AV → Bool
  | .agg _ | .tup _ | .any => false
  | _ => true

theorem VR.oneCell {M : Val} {v : AV} {x : Value} (h : VR M v x) (hc : v.cell = true) : x.oneCell' = true := by
  cases v <;> simp [AV.cell] at hc <;> simp only [VR] at h
  case ptr => obtain ⟨l, _, rfl⟩ := h; rfl
  case sl => rcases h with ⟨l, _, ⟨a, cap, rfl, _⟩ | ⟨_, _, rfl⟩⟩ <;> rfl
  case fn => obtain ⟨us, vs, rfl, _⟩ := h; rfl
  all_goals (subst h; rfl)

/-- The cells of a value. -/
def AV.cells : AV → List AV
  | .agg cs => cs
  | v => [v]

theorem VR.cells {M : Val} {v : AV} {x : Value} (h : VR M v x) (hc : v ≠ .any) : VRs M v.cells x.cells.toList := by
  have one : ∀ y : Value, y.cells = #[y] → VR M v y → v.cells = [v] → VRs M v.cells y.cells.toList := by
    intro y hy hv hcs
    rw [hcs, hy]
    simp only [VRs]
    exact ⟨y, [], rfl, hv, rfl⟩
  cases v with
  | any => exact absurd rfl hc
  | agg cs =>
    simp only [VR] at h
    obtain ⟨us, rfl, h⟩ := h
    simpa [AV.cells, Value.cells] using h
  | tup cs =>
    have h' := h
    simp only [VR] at h'
    obtain ⟨us, rfl, _⟩ := h'
    exact one _ rfl h rfl
  | ptr b o =>
    have h' := h
    simp only [VR] at h'
    obtain ⟨l, _, rfl⟩ := h'
    exact one _ rfl h rfl
  | sl b o n sz c =>
    have h' := h
    simp only [VR] at h'
    rcases h' with ⟨l, _, ⟨a, cap, rfl, _⟩ | ⟨_, _, rfl⟩⟩
    · exact one _ rfl h rfl
    · exact one _ rfl h rfl
  | fn f xs ys =>
    have h' := h
    simp only [VR] at h'
    obtain ⟨us, vs, rfl, _⟩ := h'
    exact one _ rfl h rfl
  | _ => have h' := h; simp only [VR] at h'; subst h'; exact one _ rfl h rfl

/-! ### Heaps -/

structure Blk where
  cells : List AV
  own : Bool
  deriving Inhabited

abbrev Heap := List (Option Blk)

def BRel (M : Val) (b : Blk) (l : Loc) (w : World) : Prop :=
  ∃ arr elem fr, w.heap[l.blk]? = some (.cells arr elem fr) ∧ arr.size = l.size ∧
    (∀ j v, b.cells[j]? = some v → ∃ x, arr[l.off + j]? = some x ∧ VR M v x) ∧ (b.own = true → fr.1 = fr.2 ∨ arr.size ≤ fr.1)

/-- A block that tells something: that has cells, or is one's own. -/
def Blk.tells (b : Blk) : Prop := b.cells ≠ [] ∨ b.own = true

structure HRel (M : Val) (H : Heap) (w : World) : Prop where
  dom : ∀ i, H.length ≤ i → M i = none
  row : ∀ i b, H[i]? = some (some b) → ∃ l, M i = some l ∧ (b.tells → BRel M b l w)
  sep : ∀ i j b c l l', H[i]? = some (some b) → b.own = true → H[j]? = some (some c) → c.tells → i ≠ j → M i = some l → M j = some l' → l.blk ≠ l'.blk

theorem HRel.blk {M : Val} {H : Heap} {w : World} (h : HRel M H w) (i : Nat) (b : Blk) (hb : H[i]? = some (some b)) (hn : b.tells) : ∃ l, M i = some l ∧ BRel M b l w :=
  let ⟨l, h1, h2⟩ := h.row i b hb
  ⟨l, h1, h2 hn⟩

/-- Where an activation began. -/
structure Cx where
  w : World
  M : Val
  H : Heap

def Cx.owned (X : Cx) (n : Nat) : Prop := ∃ i b l, X.H[i]? = some (some b) ∧ b.own = true ∧ X.M i = some l ∧ l.blk = n

structure Kept (X : Cx) (M : Val) (H : Heap) (w : World) : Prop where
  os : w.os = X.w.os
  tape : w.tape = X.w.tape
  output : w.output = X.w.output
  size : X.w.heap.size ≤ w.heap.size
  block : ∀ n, n < X.w.heap.size → ¬ X.owned n → w.heap[n]? = X.w.heap[n]?
  own : ∀ i b l, H[i]? = some (some b) → b.own = true → M i = some l → X.w.heap.size ≤ l.blk ∨ X.owned l.blk
  ext : ∀ i, i < X.H.length → M i = X.M i
  len : X.H.length ≤ H.length

theorem Kept.refl (M : Val) (H : Heap) (w : World) : Kept ⟨w, M, H⟩ M H w :=
  ⟨rfl, rfl, rfl, Nat.le_refl _, fun _ _ _ => rfl, fun i b l h1 h2 h3 => .inr ⟨i, b, l, h1, h2, h3, rfl⟩, fun _ _ => rfl, Nat.le_refl _⟩

/-- What a callee keeps, the caller keeps. -/
theorem Kept.trans {X : Cx} {M M' : Val} {H H' : Heap} {w w' : World} (h : Kept X M H w) (h' : Kept ⟨w, M, H⟩ M' H' w') : Kept X M' H' w' where
  os := h'.os.trans h.os
  tape := h'.tape.trans h.tape
  output := h'.output.trans h.output
  size := Nat.le_trans h.size h'.size
  block := fun n hn ho => by
    refine (h'.block n (Nat.lt_of_lt_of_le hn h.size) ?_).trans (h.block n hn ho)
    rintro ⟨i, b, l, h1, h2, h3, rfl⟩
    rcases h.own i b l h1 h2 h3 with h4 | h4
    · omega
    · exact ho h4
  own := fun i b l h1 h2 h3 => by
    rcases h'.own i b l h1 h2 h3 with h4 | ⟨i0, b0, l0, g1, g2, g3, g4⟩
    · exact .inl (Nat.le_trans h.size h4)
    · rw [← g4]
      exact h.own i0 b0 l0 g1 g2 g3
  ext := fun i hi => (h'.ext i (Nat.lt_of_lt_of_le hi h.len)).trans (h.ext i hi)
  len := Nat.le_trans h.len h'.len

theorem HRel.le {M M' : Val} {H H' : Heap} {w w' : World} (h : HRel M H w) (hk : Kept ⟨w, M, H⟩ M' H' w') : M.le M' := by
  intro i l e
  by_cases hi : i < H.length
  · rw [hk.ext i hi]; exact e
  · rw [h.dom i (by omega)] at e; cases e

/-! ### Reading -/

theorem HRel.cell {M : Val} {H : Heap} {w : World} (h : HRel M H w) {i : Nat} {b : Blk} (hb : H[i]? = some (some b)) {j : Nat} {v : AV} (hv : b.cells[j]? = some v) :
    ∃ l x, M i = some l ∧ w.cell? ⟨l.blk, l.off + j, none⟩ = some x ∧ VR M v x := by
  obtain ⟨l, hM, arr, elem, fr, h1, h2, h3, h4⟩ := h.blk i b hb (.inl fun e => by rw [e] at hv; simp at hv)
  obtain ⟨x, hx, hvx⟩ := h3 j v hv
  exact ⟨l, x, hM, by rw [cell_of_row w _ _ arr elem fr h1]; exact hx, hvx⟩

/-! ### Making memory -/

def Val.put (M : Val) (i : Nat) (l : Loc) : Val := fun j => if j = i then some l else M j

theorem Val.le_put {M : Val} {i : Nat} {l : Loc} (h : M i = none) : M.le (M.put i l) := by
  intro j l' e
  unfold Val.put
  split
  · rename_i hj; subst hj; rw [h] at e; cases e
  · exact e

theorem BRel.of_block {M : Val} {b : Blk} {l : Loc} {w w' : World} (h : BRel M b l w) (hw : w'.heap[l.blk]? = w.heap[l.blk]?) : BRel M b l w' := by
  obtain ⟨arr, elem, fr, h1, h2⟩ := h
  exact ⟨arr, elem, fr, by rw [hw, h1], h2⟩

theorem BRel.mono {M M' : Val} {b : Blk} {l : Loc} {w : World} (h : BRel M b l w) (hM : M.le M') : BRel M' b l w := by
  obtain ⟨arr, elem, fr, h1, h2, h3, h4⟩ := h
  refine ⟨arr, elem, fr, h1, h2, fun j v hv => ?_, h4⟩
  obtain ⟨x, hx, hvx⟩ := h3 j v hv
  exact ⟨x, hx, hvx.mono hM⟩

theorem BRel.lt {M : Val} {b : Blk} {l : Loc} {w : World} (h : BRel M b l w) : l.blk < w.heap.size := by
  obtain ⟨arr, elem, fr, h1, _⟩ := h
  exact (Array.getElem?_eq_some_iff.1 h1).1

theorem HRel.alloc {M : Val} {H : Heap} {w : World} (h : HRel M H w) {cs : List AV} {xs : List Value} (e : TypeId) (hcs : VRs M cs xs) :
    HRel (M.put H.length ⟨w.heap.size, 0, xs.length⟩) (H ++ [some ⟨cs, true⟩]) (w.alloc (.cells xs.toArray e)) := by
  have hle : M.le (M.put H.length ⟨w.heap.size, 0, xs.length⟩) := Val.le_put (h.dom _ (Nat.le_refl _))
  have hold : ∀ i b, H[i]? = some (some b) → ∃ l, M i = some l ∧ (M.put H.length ⟨w.heap.size, 0, xs.length⟩) i = some l ∧ (b.tells → l.blk < w.heap.size ∧ BRel (M.put H.length ⟨w.heap.size, 0, xs.length⟩) b l (w.alloc (.cells xs.toArray e))) := by
    intro i b hb
    obtain ⟨l, hM, hB⟩ := h.row i b hb
    exact ⟨l, hM, hle _ _ hM, fun ht => ⟨(hB ht).lt, ((hB ht).of_block (heap_alloc_old w _ _ (hB ht).lt)).mono hle⟩⟩
  refine ⟨fun i hi => ?_, fun i b hb => ?_, fun i j b c l l' hb ho hc hct hij hl hl' => ?_⟩
  · simp at hi
    unfold Val.put
    rw [if_neg (by omega)]
    exact h.dom i (by omega)
  · by_cases hi : i < H.length
    · rw [List.getElem?_append_left hi] at hb
      obtain ⟨l, _, h2, h3⟩ := hold i b hb
      exact ⟨l, h2, fun ht => (h3 ht).2⟩
    · rw [List.getElem?_append_right (by omega)] at hb
      have hi' : i = H.length := by
        by_cases h0 : i - H.length = 0
        · omega
        · rw [List.getElem?_eq_none (by simp; omega)] at hb; cases hb
      subst hi'
      simp at hb
      subst hb
      refine ⟨⟨w.heap.size, 0, xs.length⟩, by simp [Val.put], fun _ => ⟨xs.toArray, e, (0, 0), heap_alloc_new w _, by simp, fun j v hv => ?_, fun _ => .inl rfl⟩⟩
      obtain ⟨x, hx, hvx⟩ := hcs.get j v hv
      exact ⟨x, by simpa using hx, hvx.mono hle⟩
  · have key : ∀ i b l, (H ++ [some ⟨cs, true⟩])[i]? = some (some b) → (M.put H.length ⟨w.heap.size, 0, xs.length⟩) i = some l → b.tells → (i < H.length ∧ H[i]? = some (some b) ∧ M i = some l ∧ l.blk < w.heap.size) ∨ (i = H.length ∧ l.blk = w.heap.size) := by
      intro i b l hb hl ht
      by_cases hi : i < H.length
      · rw [List.getElem?_append_left hi] at hb
        obtain ⟨l2, h1, h2, h3⟩ := hold i b hb
        rw [h2] at hl
        cases hl
        exact .inl ⟨hi, hb, h1, (h3 ht).1⟩
      · rw [List.getElem?_append_right (by omega)] at hb
        have hi' : i = H.length := by
          by_cases h0 : i - H.length = 0
          · omega
          · rw [List.getElem?_eq_none (by simp; omega)] at hb; cases hb
        subst hi'
        simp [Val.put] at hl
        subst hl
        exact .inr ⟨rfl, rfl⟩
    rcases key i b l hb hl (.inr ho) with ⟨_, h1, h2, h3⟩ | ⟨h1, h2⟩ <;> rcases key j c l' hc hl' hct with ⟨_, g1, g2, g3⟩ | ⟨g1, g2⟩
    · exact h.sep i j b c l l' h1 ho g1 hct hij h2 g2
    · omega
    · omega
    · omega

theorem Kept.alloc {X : Cx} {M : Val} {H : Heap} {w : World} (hk : Kept X M H w) (n : Nat) (cs : List AV) (o : Obj) :
    Kept X (M.put H.length ⟨w.heap.size, 0, n⟩) (H ++ [some ⟨cs, true⟩]) (w.alloc o) where
  os := hk.os
  tape := hk.tape
  output := hk.output
  size := by have := hk.size; simp; omega
  block := fun n hn ho => (heap_alloc_old w _ _ (Nat.lt_of_lt_of_le hn hk.size)).trans (hk.block n hn ho)
  own := fun i b l hb ho hl => by
    by_cases hi : i < H.length
    · rw [List.getElem?_append_left hi] at hb
      refine hk.own i b l hb ho ?_
      unfold Val.put at hl
      rwa [if_neg (by omega)] at hl
    · have hi' : i = H.length := by
        rw [List.getElem?_append_right (by omega)] at hb
        by_cases h0 : i - H.length = 0
        · omega
        · rw [List.getElem?_eq_none (by simp; omega)] at hb; cases hb
      subst hi'
      simp [Val.put] at hl
      subst hl
      exact .inl hk.size
  ext := fun i hi => by
    have := hk.len
    unfold Val.put
    rw [if_neg (by omega)]
    exact hk.ext i hi
  len := by have := hk.len; simp; omega

/-! ### Writing -/

theorem setCell_heap_same (w : World) (a : Addr) (v : Value) {arr : Array Value} {elem : TypeId} {fr : Nat × Nat} (h : w.heap[a.block]? = some (.cells arr elem fr)) (hs : a.spot = none) :
    (w.setCell a v).heap[a.block]? = some (.cells (arr.setIfInBounds a.off v) elem fr) := by
  unfold World.setCell
  simp only [Array.getElem?_modify, if_true, h, Option.map_some, hs, Option.isSome_none, Bool.false_eq_true, if_false]

theorem HRel.store {M : Val} {H : Heap} {w : World} (h : HRel M H w) {i : Nat} {b : Blk} {l : Loc} (hb : H[i]? = some (some b)) (ho : b.own = true) (hl : M i = some l)
    (j : Nat) {v : AV} {x : Value} (hv : VR M v x) :
    HRel M (H.set i (some ⟨b.cells.set j v, true⟩)) (w.setCell ⟨l.blk, l.off + j, none⟩ x) := by
  have hi : i < H.length := by
    rcases Nat.lt_or_ge i H.length with h | h
    · exact h
    · rw [List.getElem?_eq_none h] at hb; cases hb
  have get : ∀ k c, (H.set i (some ⟨b.cells.set j v, true⟩))[k]? = some (some c) → (k = i ∧ c = ⟨b.cells.set j v, true⟩) ∨ (k ≠ i ∧ H[k]? = some (some c)) := by
    intro k c hc
    by_cases hk : k = i
    · subst hk
      rw [List.getElem?_set_self hi] at hc
      exact .inl ⟨rfl, by simpa using hc.symm⟩
    · rw [List.getElem?_set_ne (by omega)] at hc
      exact .inr ⟨hk, hc⟩
  refine ⟨fun k hk => h.dom k (by simpa using hk), fun k c hc => ?_, fun i1 i2 b1 b2 l1 l2 h1 ho1 h2 ht2 hne hl1 hl2 => ?_⟩
  · rcases get k c hc with ⟨rfl, rfl⟩ | ⟨hk, hc⟩
    · obtain ⟨l', hl', arr, elem, fr, e1, e2, e3, e4⟩ := h.blk k b hb (.inr ho)
      rw [hl] at hl'
      cases hl'
      refine ⟨l, hl, fun _ => ⟨_, elem, fr, setCell_heap_same w ⟨l.blk, l.off + j, none⟩ x e1 rfl, by simpa using e2, fun p u hu => ?_, fun _ => by simpa using e4 ho⟩⟩
      by_cases hp : p = j
      · subst hp
        rw [List.getElem?_set] at hu
        simp only [if_true] at hu
        split at hu
        · rename_i hlt
          cases hu
          obtain ⟨y, hy, _⟩ := e3 p (b.cells[p]) (by simp [hlt])
          have hlt' : l.off + p < arr.size := (Array.getElem?_eq_some_iff.1 hy).1
          exact ⟨x, by simp [hlt'], hv⟩
        · cases hu
      · rw [List.getElem?_set_ne (by omega)] at hu
        obtain ⟨y, hy, hvy⟩ := e3 p u hu
        exact ⟨y, by rw [Array.getElem?_setIfInBounds_ne (by simp; omega)]; exact hy, hvy⟩
    · obtain ⟨l', hl', hB⟩ := h.row k c hc
      refine ⟨l', hl', fun ht => (hB ht).of_block ?_⟩
      exact heap_setCell_other w _ _ _ (fun e => h.sep i k b c l l' hb ho hc ht (fun e => hk e.symm) hl hl' (by simpa using e.symm))
  · have own2 : ∀ (k : Nat) (c : Blk), (H.set i (some ⟨b.cells.set j v, true⟩))[k]? = some (some c) → ∃ c' : Blk, H[k]? = some (some c') ∧ (c.own = true → c'.own = true) ∧ (c.tells → c'.tells) := by
      intro k c hc
      rcases get k c hc with ⟨rfl, rfl⟩ | ⟨_, hc⟩
      · exact ⟨b, hb, fun _ => ho, fun _ => .inr ho⟩
      · exact ⟨c, hc, id, id⟩
    obtain ⟨c1, g1, g2, _⟩ := own2 i1 b1 h1
    obtain ⟨c2, g3, _, g4⟩ := own2 i2 b2 h2
    exact h.sep i1 i2 c1 c2 l1 l2 g1 (g2 ho1) g3 (g4 ht2) hne hl1 hl2

theorem Kept.store {X : Cx} {M : Val} {H : Heap} {w : World} (hk : Kept X M H w) {i : Nat} {b : Blk} {l : Loc} (hb : H[i]? = some (some b)) (ho : b.own = true) (hl : M i = some l)
    (j : Nat) (v : AV) (x : Value) : Kept X M (H.set i (some ⟨b.cells.set j v, true⟩)) (w.setCell ⟨l.blk, l.off + j, none⟩ x) where
  os := hk.os
  tape := hk.tape
  output := hk.output
  size := by have := hk.size; simpa using this
  block := fun n hn hno => by
    refine (heap_setCell_other w _ _ _ ?_).trans (hk.block n hn hno)
    intro e
    simp at e
    subst e
    rcases hk.own i b l hb ho hl with h1 | h1
    · omega
    · exact hno h1
  own := fun k c l' hc hco hl' => by
    by_cases hki : k = i
    · subst hki
      rw [hl] at hl'
      cases hl'
      exact hk.own k b l hb ho hl
    · rw [List.getElem?_set_ne (by omega)] at hc
      exact hk.own k c l' hc hco hl'
  ext := hk.ext
  len := by have := hk.len; simpa using this

/-! ### Forgetting a block; drawing -/

theorem HRel.kill {M : Val} {H : Heap} {w : World} (h : HRel M H w) (i : Nat) : HRel M (H.set i none) w := by
  have get : ∀ (k : Nat) (c : Blk), (H.set i (none : Option Blk))[k]? = some (some c) → H[k]? = some (some c) := by
    intro k c hc
    by_cases hk : k = i
    · subst hk
      rw [List.getElem?_set] at hc
      simp at hc
    · rwa [List.getElem?_set_ne (by omega)] at hc
  exact ⟨fun k hk => h.dom k (by simpa using hk), fun k c hc => h.row k c (get k c hc), fun i1 i2 b1 b2 l1 l2 h1 ho h2 => h.sep i1 i2 b1 b2 l1 l2 (get _ _ h1) ho (get _ _ h2)⟩

theorem Kept.kill {X : Cx} {M : Val} {H : Heap} {w : World} (hk : Kept X M H w) (i : Nat) : Kept X M (H.set i none) w where
  os := hk.os
  tape := hk.tape
  output := hk.output
  size := hk.size
  block := hk.block
  own := fun k c l hc => by
    refine hk.own k c l ?_
    by_cases hki : k = i
    · subst hki
      rw [List.getElem?_set] at hc
      simp at hc
    · rwa [List.getElem?_set_ne (by omega)] at hc
  ext := hk.ext
  len := by have := hk.len; simpa using this

theorem HRel.of_heap {M : Val} {H : Heap} {w w' : World} (h : HRel M H w) (hw : w'.heap = w.heap) : HRel M H w' :=
  ⟨h.dom, fun i b hb => let ⟨l, hl, hB⟩ := h.row i b hb; ⟨l, hl, fun ht => (hB ht).of_block (by rw [hw])⟩, h.sep⟩

theorem Kept.draw {X : Cx} {M : Val} {H : Heap} {w : World} (hk : Kept X M H w) : Kept X M H w.drew :=
  ⟨hk.os, hk.tape, hk.output, hk.size, hk.block, hk.own, hk.ext, hk.len⟩

end Go.Proofs.Ytlohehkagaabfaa.Ah
