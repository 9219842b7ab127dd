/- Steps over abstract values and heaps, and what a call keeps. Conditions: none. -/
import Derived.Says
import Derived.Laws.World
import Derived.Laws.Sem
import Derived.Laws.Cells
import Derived.Laws.Rows
import Derived.Tactics
import Derived.CallsIn
import Derived.Laws.Append
import Derived.Laws.CopyRow
import Derived.Laws.StructEq
import Derived.IntWalk
import Derived.Laws.BytesString
import Derived.Laws.BytesArg
import Derived.MapKept
import Derived.WideKeyRuns
namespace Go.Proofs.Ytaiboicipbhmhaa.Ah
open Go
inductive AV where
  | bool (b : Bool)
  | int (k : IntKind) (n : Int)
  | str (s : ByteArray)
  | nilp
  | ptr (b off : Nat)
  | nils
  | sl (b off len sz : Nat) (cap : Option Nat)
  | nilf
  | fn (f : Fn) (first captured : List AV)
  | nilm
  | agg (cs : List AV)
  | tup (vs : List AV)
  | any
  | mapp (b : Nat)
  | yld (b : Nat)
  | mapo (ks vs : List AV)
  | loopo (rdy : Bool) (R : Array Tmp → Code → Code → Prop) (vs : List AV)
instance : Inhabited AV := ⟨.any⟩
structure Loc where
  blk : Nat
  off : Nat
  size : Nat
  obj : Bool
abbrev Val := Nat → Option Loc
def Val.at (M : Val) (b : Nat) : Option Loc := match M b with | some l => if l.obj = true then none else some l | none => none
def Val.ob (M : Val) (b : Nat) : Option Loc := match M b with | some l => if l.obj = true then some l else none | none => none
theorem Val.at_out {M : Val} {b : Nat} {l : Loc} (h : M.at b = some l) : M b = some l ∧ l.obj = false := by
  unfold Val.at at h
  cases hm : M b with
  | none => rw [hm] at h; cases h
  | some l' =>
    rw [hm] at h
    simp only at h
    by_cases ho : l'.obj = true
    · rw [if_pos ho] at h; cases h
    · rw [if_neg ho] at h; cases h; exact ⟨rfl, by simpa using ho⟩
theorem Val.at_in {M : Val} {b : Nat} {l : Loc} (h : M b = some l) (ho : l.obj = false) : M.at b = some l := by
  unfold Val.at
  rw [h]
  simp [ho]
theorem Val.ob_out {M : Val} {b : Nat} {l : Loc} (h : M.ob b = some l) : M b = some l ∧ l.obj = true := by
  unfold Val.ob at h
  cases hm : M b with
  | none => rw [hm] at h; cases h
  | some l' =>
    rw [hm] at h
    simp only at h
    by_cases ho : l'.obj = true
    · rw [if_pos ho] at h; cases h; exact ⟨rfl, ho⟩
    · rw [if_neg ho] at h; cases h
theorem Val.ob_in {M : Val} {b : Nat} {l : Loc} (h : M b = some l) (ho : l.obj = true) : M.ob b = some l := by
  unfold Val.ob
  rw [h]
  simp [ho]
mutual
def VR (M : Val) : AV → Value → Prop
  | .bool b, x => x = .bool b
  | .int k n, x => x = .int k n
  | .str s, x => x = .string s
  | .nilp, x => x = .pointer none
  | .ptr b off, x => ∃ l, M.at b = some l ∧ x = .pointer (some ⟨l.blk, l.off + off, none⟩)
  | .nils, x => x = .slice none 0 0
  | .sl b off n sz c, x => ∃ l, M.at b = some l ∧ ((∃ a cap, x = .slice (some a) n cap ∧ n ≤ cap ∧ (0 < cap → a = ⟨l.blk, l.off + off, none⟩ ∧ l.off + off + cap * sz ≤ l.size) ∧ (∀ k, c = some k → cap = k)) ∨
    (n = 0 ∧ c = none ∧ x = .slice none 0 0))
  | .nilf, x => x = .nilFunc
  | .fn f xs ys, x => ∃ us vs : List Value, x = .func f us.toArray vs.toArray ∧ VRs M xs us ∧ VRs M ys vs
  | .nilm, x => x = .map none
  | .agg cs, x => ∃ us : List Value, x = .agg us.toArray ∧ VRs M cs us
  | .tup cs, x => ∃ us : List Value, x = .tuple us.toArray ∧ VRs M cs us
  | .any, _ => True
  | .mapp b, x => ∃ l, M.ob b = some l ∧ x = .map (some l.blk)
  | .yld b, x => ∃ l, M.ob b = some l ∧ x = .func (.yield l.blk) #[] #[]
  | .mapo _ _, _ => False
  | .loopo _ _ _, _ => False
def VRs (M : Val) : List AV → List Value → Prop
  | [], us => us = []
  | v :: vs, us => ∃ x xs, us = x :: xs ∧ VR M v x ∧ VRs M vs xs
end
def Val.le (M M' : Val) : Prop := ∀ i l, M i = some l → M' i = some l
theorem Val.le.at {M M' : Val} (h : M.le M') {b : Nat} {l : Loc} (e : M.at b = some l) : M'.at b = some l :=
  Val.at_in (h _ _ (Val.at_out e).1) (Val.at_out e).2
theorem Val.le.ob {M M' : Val} (h : M.le M') {b : Nat} {l : Loc} (e : M.ob b = some l) : M'.ob b = some l :=
  Val.ob_in (h _ _ (Val.ob_out e).1) (Val.ob_out e).2
theorem Val.le_refl (M : Val) : M.le M := fun _ _ h => h
theorem Val.le_trans {M M' M'' : Val} (h : M.le M') (h' : M'.le M'') : M.le M'' := fun i l e => h' i l (h i l e)
mutual
theorem VR.mono {M M' : Val} (h : M.le M') : ∀ (v : AV) (x : Value), VR M v x → VR M' v x
  | .bool _, _, e => by simpa [VR] using e
  | .int _ _, _, e => by simpa [VR] using e
  | .str _, _, e => by simpa [VR] using e
  | .nilp, _, e => by simpa [VR] using e
  | .ptr _ _, _, e => by
    simp only [VR] at e ⊢
    obtain ⟨l, e1, e2⟩ := e
    exact ⟨l, h.at e1, e2⟩
  | .nils, _, e => by simpa [VR] using e
  | .sl _ _ _ _ _, _, e => by
    simp only [VR] at e ⊢
    obtain ⟨l, e1, e2⟩ := e
    exact ⟨l, h.at e1, e2⟩
  | .nilf, _, e => by simpa [VR] using e
  | .fn _ xs ys, _, e => by
    simp only [VR] at e ⊢
    obtain ⟨us, vs, e1, e2, e3⟩ := e
    exact ⟨us, vs, e1, VRs.mono h xs us e2, VRs.mono h ys vs e3⟩
  | .nilm, _, e => by simpa [VR] using e
  | .agg cs, _, e => by
    simp only [VR] at e ⊢
    obtain ⟨us, e1, e2⟩ := e
    exact ⟨us, e1, VRs.mono h cs us e2⟩
  | .tup cs, _, e => by
    simp only [VR] at e ⊢
    obtain ⟨us, e1, e2⟩ := e
    exact ⟨us, e1, VRs.mono h cs us e2⟩
  | .any, _, _ => by simp [VR]
  | .mapp _, _, e => by
    simp only [VR] at e ⊢
    obtain ⟨l, e1, e2⟩ := e
    exact ⟨l, h.ob e1, e2⟩
  | .yld _, _, e => by
    simp only [VR] at e ⊢
    obtain ⟨l, e1, e2⟩ := e
    exact ⟨l, h.ob e1, e2⟩
  | .mapo _ _, _, e => by simp [VR] at e
  | .loopo _ _ _, _, e => by simp [VR] at e
theorem VRs.mono {M M' : Val} (h : M.le M') : ∀ (vs : List AV) (us : List Value), VRs M vs us → VRs M' vs us
  | [], _, e => by simpa [VRs] using e
  | v :: vs, _, e => by
    simp only [VRs] at e ⊢
    obtain ⟨x, xs, e1, e2, e3⟩ := e
    exact ⟨x, xs, e1, VR.mono h v x e2, VRs.mono h vs xs e3⟩
end
theorem VRs.length {M : Val} : ∀ {vs : List AV} {us : List Value}, VRs M vs us → us.length = vs.length
  | [], _, e => by simp only [VRs] at e; simp [e]
  | v :: vs, _, e => by
    simp only [VRs] at e
    obtain ⟨x, xs, rfl, _, e3⟩ := e
    simp [e3.length]
theorem VRs.get {M : Val} : ∀ {vs : List AV} {us : List Value}, VRs M vs us → ∀ (j : Nat) (v : AV), vs[j]? = some v → ∃ x, us[j]? = some x ∧ VR M v x
  | [], _, _, j, v, h => by simp at h
  | w :: vs, _, e, j, v, h => by
    simp only [VRs] at e
    obtain ⟨x, xs, rfl, e2, e3⟩ := e
    cases j with
    | zero => simp at h; subst h; exact ⟨x, rfl, e2⟩
    | succ j => simpa using e3.get j v (by simpa using h)
theorem VRs.mk {M : Val} : ∀ {vs : List AV} {us : List Value}, us.length = vs.length → (∀ (j : Nat) (v : AV), vs[j]? = some v → ∃ x, us[j]? = some x ∧ VR M v x) → VRs M vs us
  | [], us, hl, _ => by simp at hl; simp [VRs, hl]
  | v :: vs, [], hl, _ => by simp at hl
  | v :: vs, x :: xs, hl, h => by
    simp only [VRs]
    refine ⟨x, xs, rfl, ?_, ?_⟩
    · obtain ⟨y, hy, hv⟩ := h 0 v rfl
      simp at hy
      subst hy
      exact hv
    · refine VRs.mk (by simpa using hl) fun j u hu => ?_
      simpa using h (j + 1) u (by simpa using hu)
theorem VRs.append {M : Val} {vs vs' : List AV} {us us' : List Value} (h : VRs M vs us) (h' : VRs M vs' us') : VRs M (vs ++ vs') (us ++ us') := by
  have hl := h.length
  have hl' := h'.length
  refine VRs.mk (by simp [hl, hl']) fun j v hv => ?_
  by_cases hj : j < vs.length
  · rw [List.getElem?_append_left hj] at hv
    rw [List.getElem?_append_left (by omega)]
    exact h.get j v hv
  · rw [List.getElem?_append_right (by omega)] at hv
    rw [List.getElem?_append_right (by omega), hl]
    exact h'.get _ v hv
def AV.cell : AV → Bool
  | .agg _ | .tup _ | .any | .mapo _ _ | .loopo _ _ _ => false
  | _ => true
theorem VR.oneCell {M : Val} {v : AV} {x : Value} (h : VR M v x) (hc : v.cell = true) : x.oneCell' = true := by
  cases v <;> simp [AV.cell] at hc <;> simp only [VR] at h
  case ptr => obtain ⟨l, _, rfl⟩ := h; rfl
  case sl => rcases h with ⟨l, _, ⟨a, cap, rfl, _⟩ | ⟨_, _, rfl⟩⟩ <;> rfl
  case fn => obtain ⟨us, vs, rfl, _⟩ := h; rfl
  case mapp => obtain ⟨l, _, rfl⟩ := h; rfl
  case yld => obtain ⟨l, _, rfl⟩ := h; rfl
  all_goals (subst h; rfl)
def AV.cells : AV → List AV
  | .agg cs => cs
  | v => [v]
theorem VR.cells {M : Val} {v : AV} {x : Value} (h : VR M v x) (hc : v ≠ .any) : VRs M v.cells x.cells.toList := by
  have one : ∀ y : Value, y.cells = #[y] → VR M v y → v.cells = [v] → VRs M v.cells y.cells.toList := by
    intro y hy hv hcs
    rw [hcs, hy]
    simp only [VRs]
    exact ⟨y, [], rfl, hv, rfl⟩
  cases v with
  | any => exact absurd rfl hc
  | agg cs =>
    simp only [VR] at h
    obtain ⟨us, rfl, h⟩ := h
    simpa [AV.cells, Value.cells] using h
  | tup cs =>
    have h' := h
    simp only [VR] at h'
    obtain ⟨us, rfl, _⟩ := h'
    exact one _ rfl h rfl
  | ptr b o =>
    have h' := h
    simp only [VR] at h'
    obtain ⟨l, _, rfl⟩ := h'
    exact one _ rfl h rfl
  | sl b o n sz c =>
    have h' := h
    simp only [VR] at h'
    rcases h' with ⟨l, _, ⟨a, cap, rfl, _⟩ | ⟨_, _, rfl⟩⟩
    · exact one _ rfl h rfl
    · exact one _ rfl h rfl
  | fn f xs ys =>
    have h' := h
    simp only [VR] at h'
    obtain ⟨us, vs, rfl, _⟩ := h'
    exact one _ rfl h rfl
  | mapp b =>
    have h' := h
    simp only [VR] at h'
    obtain ⟨l, _, rfl⟩ := h'
    exact one _ rfl h rfl
  | yld b =>
    have h' := h
    simp only [VR] at h'
    obtain ⟨l, _, rfl⟩ := h'
    exact one _ rfl h rfl
  | mapo _ _ => simp [VR] at h
  | loopo _ _ => simp [VR] at h
  | _ => have h' := h; simp only [VR] at h'; subst h'; exact one _ rfl h rfl

structure Blk where
  cells : List AV
  own : Bool
  deriving Inhabited
abbrev Heap := List (Option Blk)
def RowR (M : Val) (b : Blk) (l : Loc) (w : World) : Prop :=
  ∃ arr elem fr, w.heap[l.blk]? = some (.cells arr elem fr) ∧ arr.size = l.size ∧
    (∀ j v, b.cells[j]? = some v → ∃ x, arr[l.off + j]? = some x ∧ VR M v x) ∧ (b.own = true → fr.1 = fr.2 ∨ arr.size ≤ fr.1)
def isDef : Obj → Bool
  | .deferred _ => true
  | _ => false
def ObjR (M : Val) (b : Blk) (l : Loc) (w : World) : Prop :=
  match b.cells with
  | [.mapo ks vs] => ∃ es clock, w.heap[l.blk]? = some (.map es clock) ∧ VRs M ks (es.toList.map (·.key)) ∧ VRs M vs (es.toList.map (·.val))
  | [.loopo rdy R vs] => ∃ d fn tmps params assign body, w.heap[l.blk]? = some (.loop { state := if rdy then .ready else .busy, pending := none, fn := fn, tmps := List.toArray tmps, params := params, assign := assign, body := body, defers := d }) ∧ R params assign body ∧ VRs M vs tmps
  | [] => ∃ o, w.heap[l.blk]? = some o ∧ isDef o = false
  | _ => False
def BRel (M : Val) (b : Blk) (l : Loc) (w : World) : Prop := if l.obj = true then ObjR M b l w else RowR M b l w
theorem BRel.row {M : Val} {b : Blk} {l : Loc} {w : World} (h : BRel M b l w) (ho : l.obj = false) : RowR M b l w := by
  unfold BRel at h
  rwa [if_neg (by rw [ho]; decide)] at h
theorem BRel.ofRow {M : Val} {b : Blk} {l : Loc} {w : World} (h : RowR M b l w) (ho : l.obj = false) : BRel M b l w := by
  unfold BRel
  rwa [if_neg (by rw [ho]; decide)]
theorem BRel.ob {M : Val} {b : Blk} {l : Loc} {w : World} (h : BRel M b l w) (ho : l.obj = true) : ObjR M b l w := by
  unfold BRel at h
  rwa [if_pos ho] at h
theorem BRel.ofOb {M : Val} {b : Blk} {l : Loc} {w : World} (h : ObjR M b l w) (ho : l.obj = true) : BRel M b l w := by
  unfold BRel
  rwa [if_pos ho]
def Blk.tells (b : Blk) : Prop := b.cells ≠ [] ∨ b.own = true
structure HRel (M : Val) (H : Heap) (w : World) : Prop where
  dom : ∀ i, H.length ≤ i → M i = none
  row : ∀ i b, H[i]? = some (some b) → ∃ l, M i = some l ∧ (b.tells → BRel M b l w)
  sep : ∀ i j b c l l', H[i]? = some (some b) → b.own = true → H[j]? = some (some c) → c.tells → i ≠ j → M i = some l → M j = some l' → l.blk ≠ l'.blk
theorem HRel.blk {M : Val} {H : Heap} {w : World} (h : HRel M H w) (i : Nat) (b : Blk) (hb : H[i]? = some (some b)) (hn : b.tells) (ha : (M.at i).isSome = true) : ∃ l, M.at i = some l ∧ RowR M b l w := by
  obtain ⟨l, h1, h2⟩ := h.row i b hb
  obtain ⟨l', h3⟩ := Option.isSome_iff_exists.1 ha
  have h4 := Val.at_out h3
  rw [h1] at h4
  obtain ⟨h5, h6⟩ := h4
  cases h5
  exact ⟨l, h3, (h2 hn).row h6⟩
theorem HRel.obj {M : Val} {H : Heap} {w : World} (h : HRel M H w) {i : Nat} {b : Blk} (hb : H[i]? = some (some b)) (hn : b.tells) {l : Loc} (ha : M.ob i = some l) : ObjR M b l w := by
  obtain ⟨l', h1, h2⟩ := h.row i b hb
  obtain ⟨h3, h4⟩ := Val.ob_out ha
  rw [h1] at h3
  cases h3
  exact (h2 hn).ob h4
structure Cx where
  w : World
  M : Val
  H : Heap
def Cx.owned (X : Cx) (n : Nat) : Prop := ∃ i b l, X.H[i]? = some (some b) ∧ b.own = true ∧ X.M i = some l ∧ l.blk = n
structure Kept (X : Cx) (M : Val) (H : Heap) (w : World) : Prop where
  os : w.os = X.w.os
  tape : w.tape = X.w.tape
  output : w.output = X.w.output
  size : X.w.heap.size ≤ w.heap.size
  block : ∀ n, n < X.w.heap.size → ¬ X.owned n → w.heap[n]? = X.w.heap[n]?
  own : ∀ i b l, H[i]? = some (some b) → b.own = true → M i = some l → X.w.heap.size ≤ l.blk ∨ X.owned l.blk
  ext : ∀ i, i < X.H.length → M i = X.M i
  len : X.H.length ≤ H.length
  loc : ∀ i b l, H[i]? = some (some b) → b.tells → M i = some l → X.w.heap.size ≤ l.blk ∨ ∃ j c l', X.H[j]? = some (some c) ∧ c.tells ∧ X.M j = some l' ∧ l'.blk = l.blk
theorem Kept.refl (M : Val) (H : Heap) (w : World) : Kept ⟨w, M, H⟩ M H w :=
  ⟨rfl, rfl, rfl, Nat.le_refl _, fun _ _ _ => rfl, fun i b l h1 h2 h3 => .inr ⟨i, b, l, h1, h2, h3, rfl⟩, fun _ _ => rfl, Nat.le_refl _, fun i b l h1 h2 h3 => .inr ⟨i, b, l, h1, h2, h3, rfl⟩⟩
theorem Kept.trans {X : Cx} {M M' : Val} {H H' : Heap} {w w' : World} (h : Kept X M H w) (h' : Kept ⟨w, M, H⟩ M' H' w') : Kept X M' H' w' where
  os := h'.os.trans h.os
  tape := h'.tape.trans h.tape
  output := h'.output.trans h.output
  size := Nat.le_trans h.size h'.size
  block := fun n hn ho => by
    refine (h'.block n (Nat.lt_of_lt_of_le hn h.size) ?_).trans (h.block n hn ho)
    rintro ⟨i, b, l, h1, h2, h3, rfl⟩
    rcases h.own i b l h1 h2 h3 with h4 | h4
    · omega
    · exact ho h4
  own := fun i b l h1 h2 h3 => by
    rcases h'.own i b l h1 h2 h3 with h4 | ⟨i0, b0, l0, g1, g2, g3, g4⟩
    · exact .inl (Nat.le_trans h.size h4)
    · rw [← g4]
      exact h.own i0 b0 l0 g1 g2 g3
  ext := fun i hi => (h'.ext i (Nat.lt_of_lt_of_le hi h.len)).trans (h.ext i hi)
  len := Nat.le_trans h.len h'.len
  loc := fun i b l h1 h2 h3 => by
    rcases h'.loc i b l h1 h2 h3 with h4 | ⟨j, c, l', g1, g2, g3, g4⟩
    · exact .inl (Nat.le_trans h.size h4)
    · rw [← g4]
      exact h.loc j c l' g1 g2 g3
theorem HRel.le {M M' : Val} {H H' : Heap} {w w' : World} (h : HRel M H w) (hk : Kept ⟨w, M, H⟩ M' H' w') : M.le M' := by
  intro i l e
  by_cases hi : i < H.length
  · rw [hk.ext i hi]; exact e
  · rw [h.dom i (by omega)] at e; cases e

theorem HRel.cell {M : Val} {H : Heap} {w : World} (h : HRel M H w) {i : Nat} {b : Blk} (hb : H[i]? = some (some b)) {j : Nat} {v : AV} (hv : b.cells[j]? = some v) (ha : (M.at i).isSome = true) :
    ∃ l x, M.at i = some l ∧ w.cell? ⟨l.blk, l.off + j, none⟩ = some x ∧ VR M v x := by
  obtain ⟨l, hM, arr, elem, fr, h1, h2, h3, h4⟩ := h.blk i b hb (.inl fun e => by rw [e] at hv; simp at hv) ha
  obtain ⟨x, hx, hvx⟩ := h3 j v hv
  exact ⟨l, x, hM, by rw [cell_of_row w _ _ arr elem fr h1]; exact hx, hvx⟩

def Val.put (M : Val) (i : Nat) (l : Loc) : Val := fun j => if j = i then some l else M j
theorem Val.le_put {M : Val} {i : Nat} {l : Loc} (h : M i = none) : M.le (M.put i l) := by
  intro j l' e
  unfold Val.put
  split
  · rename_i hj; subst hj; rw [h] at e; cases e
  · exact e
theorem BRel.of_block {M : Val} {b : Blk} {l : Loc} {w w' : World} (h : BRel M b l w) (hw : w'.heap[l.blk]? = w.heap[l.blk]?) : BRel M b l w' := by
  by_cases ho : l.obj = true
  · refine BRel.ofOb ?_ ho
    have h := h.ob ho
    unfold ObjR at h ⊢
    split at h
    · obtain ⟨es, c, h1, h2⟩ := h
      exact ⟨es, c, by rw [hw, h1], h2⟩
    · obtain ⟨d, fn, tmps, params, assign, body, h1, h2⟩ := h
      exact ⟨d, fn, tmps, params, assign, body, by rw [hw, h1], h2⟩
    · obtain ⟨o, h, h'⟩ := h
      exact ⟨o, by rw [hw, h], h'⟩
    · exact h.elim
  have ho : l.obj = false := by simpa using ho
  obtain ⟨arr, elem, fr, h1, h2⟩ := h.row ho
  exact .ofRow ⟨arr, elem, fr, by rw [hw, h1], h2⟩ ho
theorem BRel.mono {M M' : Val} {b : Blk} {l : Loc} {w : World} (h : BRel M b l w) (hM : M.le M') : BRel M' b l w := by
  by_cases ho : l.obj = true
  · refine BRel.ofOb ?_ ho
    have h := h.ob ho
    unfold ObjR at h ⊢
    split at h
    · obtain ⟨es, c, h1, h2, h3⟩ := h
      exact ⟨es, c, h1, VRs.mono hM _ _ h2, VRs.mono hM _ _ h3⟩
    · obtain ⟨d, fn, tmps, params, assign, body, h1, h2, h3⟩ := h
      exact ⟨d, fn, tmps, params, assign, body, h1, h2, VRs.mono hM _ _ h3⟩
    · exact h
    · exact h.elim
  have ho : l.obj = false := by simpa using ho
  obtain ⟨arr, elem, fr, h1, h2, h3, h4⟩ := h.row ho
  refine .ofRow ⟨arr, elem, fr, h1, h2, fun j v hv => ?_, h4⟩ ho
  obtain ⟨x, hx, hvx⟩ := h3 j v hv
  exact ⟨x, hx, hvx.mono hM⟩
theorem BRel.lt {M : Val} {b : Blk} {l : Loc} {w : World} (h : BRel M b l w) : l.blk < w.heap.size := by
  by_cases ho : l.obj = true
  · have h := h.ob ho
    unfold ObjR at h
    split at h
    · obtain ⟨es, c, h1, h2⟩ := h
      exact (Array.getElem?_eq_some_iff.1 h1).1
    · obtain ⟨d, fn, tmps, params, assign, body, h1, h2⟩ := h
      exact (Array.getElem?_eq_some_iff.1 h1).1
    · obtain ⟨o, h, _⟩ := h
      exact (Array.getElem?_eq_some_iff.1 h).1
    · exact h.elim
  have ho : l.obj = false := by simpa using ho
  obtain ⟨arr, elem, fr, h1, _⟩ := h.row ho
  exact (Array.getElem?_eq_some_iff.1 h1).1
theorem HRel.alloc {M : Val} {H : Heap} {w : World} (h : HRel M H w) {cs : List AV} {xs : List Value} (e : TypeId) (hcs : VRs M cs xs) :
    HRel (M.put H.length ⟨w.heap.size, 0, xs.length, false⟩) (H ++ [some ⟨cs, true⟩]) (w.alloc (.cells xs.toArray e)) := by
  have hle : M.le (M.put H.length ⟨w.heap.size, 0, xs.length, false⟩) := Val.le_put (h.dom _ (Nat.le_refl _))
  have hold : ∀ i b, H[i]? = some (some b) → ∃ l, M i = some l ∧ (M.put H.length ⟨w.heap.size, 0, xs.length, false⟩) i = some l ∧ (b.tells → l.blk < w.heap.size ∧ BRel (M.put H.length ⟨w.heap.size, 0, xs.length, false⟩) b l (w.alloc (.cells xs.toArray e))) := by
    intro i b hb
    obtain ⟨l, hM, hB⟩ := h.row i b hb
    exact ⟨l, hM, hle _ _ hM, fun ht => ⟨(hB ht).lt, ((hB ht).of_block (heap_alloc_old w _ _ (hB ht).lt)).mono hle⟩⟩
  refine ⟨fun i hi => ?_, fun i b hb => ?_, fun i j b c l l' hb ho hc hct hij hl hl' => ?_⟩
  · simp at hi
    unfold Val.put
    rw [if_neg (by omega)]
    exact h.dom i (by omega)
  · by_cases hi : i < H.length
    · rw [List.getElem?_append_left hi] at hb
      obtain ⟨l, _, h2, h3⟩ := hold i b hb
      exact ⟨l, h2, fun ht => (h3 ht).2⟩
    · rw [List.getElem?_append_right (by omega)] at hb
      have hi' : i = H.length := by
        by_cases h0 : i - H.length = 0
        · omega
        · rw [List.getElem?_eq_none (by simp; omega)] at hb; cases hb
      subst hi'
      simp at hb
      subst hb
      refine ⟨⟨w.heap.size, 0, xs.length, false⟩, by simp [Val.put], fun _ => .ofRow ⟨xs.toArray, e, (0, 0), heap_alloc_new w _, by simp, fun j v hv => ?_, fun _ => .inl rfl⟩ rfl⟩
      obtain ⟨x, hx, hvx⟩ := hcs.get j v hv
      exact ⟨x, by simpa using hx, hvx.mono hle⟩
  · have key : ∀ i b l, (H ++ [some ⟨cs, true⟩])[i]? = some (some b) → (M.put H.length ⟨w.heap.size, 0, xs.length, false⟩) i = some l → b.tells → (i < H.length ∧ H[i]? = some (some b) ∧ M i = some l ∧ l.blk < w.heap.size) ∨ (i = H.length ∧ l.blk = w.heap.size) := by
      intro i b l hb hl ht
      by_cases hi : i < H.length
      · rw [List.getElem?_append_left hi] at hb
        obtain ⟨l2, h1, h2, h3⟩ := hold i b hb
        rw [h2] at hl
        cases hl
        exact .inl ⟨hi, hb, h1, (h3 ht).1⟩
      · rw [List.getElem?_append_right (by omega)] at hb
        have hi' : i = H.length := by
          by_cases h0 : i - H.length = 0
          · omega
          · rw [List.getElem?_eq_none (by simp; omega)] at hb; cases hb
        subst hi'
        simp [Val.put] at hl
        subst hl
        exact .inr ⟨rfl, rfl⟩
    rcases key i b l hb hl (.inr ho) with ⟨_, h1, h2, h3⟩ | ⟨h1, h2⟩ <;> rcases key j c l' hc hl' hct with ⟨_, g1, g2, g3⟩ | ⟨g1, g2⟩
    · exact h.sep i j b c l l' h1 ho g1 hct hij h2 g2
    · omega
    · omega
    · omega
theorem Kept.alloc {X : Cx} {M : Val} {H : Heap} {w : World} (hk : Kept X M H w) (n : Nat) (cs : List AV) (o : Obj) (q : Bool := false) :
    Kept X (M.put H.length ⟨w.heap.size, 0, n, q⟩) (H ++ [some ⟨cs, true⟩]) (w.alloc o) where
  os := hk.os
  tape := hk.tape
  output := hk.output
  size := by have := hk.size; simp; omega
  block := fun n hn ho => (heap_alloc_old w _ _ (Nat.lt_of_lt_of_le hn hk.size)).trans (hk.block n hn ho)
  own := fun i b l hb ho hl => by
    by_cases hi : i < H.length
    · rw [List.getElem?_append_left hi] at hb
      refine hk.own i b l hb ho ?_
      unfold Val.put at hl
      rwa [if_neg (by omega)] at hl
    · have hi' : i = H.length := by
        rw [List.getElem?_append_right (by omega)] at hb
        by_cases h0 : i - H.length = 0
        · omega
        · rw [List.getElem?_eq_none (by simp; omega)] at hb; cases hb
      subst hi'
      simp [Val.put] at hl
      subst hl
      exact .inl hk.size
  ext := fun i hi => by
    have := hk.len
    unfold Val.put
    rw [if_neg (by omega)]
    exact hk.ext i hi
  len := by have := hk.len; simp; omega
  loc := fun i b l hb ht hl => by
    by_cases hi : i < H.length
    · rw [List.getElem?_append_left hi] at hb
      refine hk.loc i b l hb ht ?_
      unfold Val.put at hl
      rwa [if_neg (by omega)] at hl
    · have hi' : i = H.length := by
        rw [List.getElem?_append_right (by omega)] at hb
        by_cases h0 : i - H.length = 0
        · omega
        · rw [List.getElem?_eq_none (by simp; omega)] at hb; cases hb
      subst hi'
      simp [Val.put] at hl
      subst hl
      exact .inl hk.size

theorem setCell_heap_same (w : World) (a : Addr) (v : Value) {arr : Array Value} {elem : TypeId} {fr : Nat × Nat} (h : w.heap[a.block]? = some (.cells arr elem fr)) (hs : a.spot = none) :
    (w.setCell a v).heap[a.block]? = some (.cells (arr.setIfInBounds a.off v) elem fr) := by
  unfold World.setCell
  simp only [Array.getElem?_modify, if_true, h, Option.map_some, hs, Option.isSome_none, Bool.false_eq_true, if_false]
theorem HRel.store {M : Val} {H : Heap} {w : World} (h : HRel M H w) {i : Nat} {b : Blk} {l : Loc} (hb : H[i]? = some (some b)) (ho : b.own = true) (hla : M.at i = some l)
    (j : Nat) {v : AV} {x : Value} (hv : VR M v x) :
    HRel M (H.set i (some ⟨b.cells.set j v, true⟩)) (w.setCell ⟨l.blk, l.off + j, none⟩ x) := by
  obtain ⟨hl, hlo⟩ := Val.at_out hla
  have hi : i < H.length := by
    rcases Nat.lt_or_ge i H.length with h | h
    · exact h
    · rw [List.getElem?_eq_none h] at hb; cases hb
  have get : ∀ k c, (H.set i (some ⟨b.cells.set j v, true⟩))[k]? = some (some c) → (k = i ∧ c = ⟨b.cells.set j v, true⟩) ∨ (k ≠ i ∧ H[k]? = some (some c)) := by
    intro k c hc
    by_cases hk : k = i
    · subst hk
      rw [List.getElem?_set_self hi] at hc
      exact .inl ⟨rfl, by simpa using hc.symm⟩
    · rw [List.getElem?_set_ne (by omega)] at hc
      exact .inr ⟨hk, hc⟩
  refine ⟨fun k hk => h.dom k (by simpa using hk), fun k c hc => ?_, fun i1 i2 b1 b2 l1 l2 h1 ho1 h2 ht2 hne hl1 hl2 => ?_⟩
  · rcases get k c hc with ⟨rfl, rfl⟩ | ⟨hk, hc⟩
    · obtain ⟨l', hl', arr, elem, fr, e1, e2, e3, e4⟩ := h.blk k b hb (.inr ho) (by rw [hla]; rfl)
      rw [hla] at hl'
      cases hl'
      refine ⟨l, hl, fun _ => .ofRow ⟨_, elem, fr, setCell_heap_same w ⟨l.blk, l.off + j, none⟩ x e1 rfl, by simpa using e2, fun p u hu => ?_, fun _ => by simpa using e4 ho⟩ hlo⟩
      by_cases hp : p = j
      · subst hp
        rw [List.getElem?_set] at hu
        simp only [if_true] at hu
        split at hu
        · rename_i hlt
          cases hu
          obtain ⟨y, hy, _⟩ := e3 p (b.cells[p]) (by simp [hlt])
          have hlt' : l.off + p < arr.size := (Array.getElem?_eq_some_iff.1 hy).1
          exact ⟨x, by simp [hlt'], hv⟩
        · cases hu
      · rw [List.getElem?_set_ne (by omega)] at hu
        obtain ⟨y, hy, hvy⟩ := e3 p u hu
        exact ⟨y, by rw [Array.getElem?_setIfInBounds_ne (by simp; omega)]; exact hy, hvy⟩
    · obtain ⟨l', hl', hB⟩ := h.row k c hc
      refine ⟨l', hl', fun ht => (hB ht).of_block ?_⟩
      exact heap_setCell_other w _ _ _ (fun e => h.sep i k b c l l' hb ho hc ht (fun e => hk e.symm) hl hl' (by simpa using e.symm))
  · have own2 : ∀ (k : Nat) (c : Blk), (H.set i (some ⟨b.cells.set j v, true⟩))[k]? = some (some c) → ∃ c' : Blk, H[k]? = some (some c') ∧ (c.own = true → c'.own = true) ∧ (c.tells → c'.tells) := by
      intro k c hc
      rcases get k c hc with ⟨rfl, rfl⟩ | ⟨_, hc⟩
      · exact ⟨b, hb, fun _ => ho, fun _ => .inr ho⟩
      · exact ⟨c, hc, id, id⟩
    obtain ⟨c1, g1, g2, _⟩ := own2 i1 b1 h1
    obtain ⟨c2, g3, _, g4⟩ := own2 i2 b2 h2
    exact h.sep i1 i2 c1 c2 l1 l2 g1 (g2 ho1) g3 (g4 ht2) hne hl1 hl2
theorem Kept.store {X : Cx} {M : Val} {H : Heap} {w : World} (hk : Kept X M H w) {i : Nat} {b : Blk} {l : Loc} (hb : H[i]? = some (some b)) (ho : b.own = true) (hl : M i = some l)
    (j : Nat) (v : AV) (x : Value) : Kept X M (H.set i (some ⟨b.cells.set j v, true⟩)) (w.setCell ⟨l.blk, l.off + j, none⟩ x) where
  os := hk.os
  tape := hk.tape
  output := hk.output
  size := by have := hk.size; simpa using this
  block := fun n hn hno => by
    refine (heap_setCell_other w _ _ _ ?_).trans (hk.block n hn hno)
    intro e
    simp at e
    subst e
    rcases hk.own i b l hb ho hl with h1 | h1
    · omega
    · exact hno h1
  own := fun k c l' hc hco hl' => by
    by_cases hki : k = i
    · subst hki
      rw [hl] at hl'
      cases hl'
      exact hk.own k b l hb ho hl
    · rw [List.getElem?_set_ne (by omega)] at hc
      exact hk.own k c l' hc hco hl'
  ext := hk.ext
  len := by have := hk.len; simpa using this
  loc := fun k c l' hc ht hl' => by
    by_cases hki : k = i
    · subst hki
      rw [hl] at hl'
      cases hl'
      exact hk.loc k b l hb (.inr ho) hl
    · rw [List.getElem?_set_ne (by omega)] at hc
      exact hk.loc k c l' hc ht hl'

theorem BRel.nodef {M : Val} {b : Blk} {l : Loc} {w : World} (h : BRel M b l w) : ∃ o, w.heap[l.blk]? = some o ∧ isDef o = false := by
  by_cases ho : l.obj = true
  · have h := h.ob ho
    unfold ObjR at h
    split at h
    · obtain ⟨es, c, h1, h2⟩ := h
      exact ⟨_, h1, rfl⟩
    · obtain ⟨d, fn, tmps, params, assign, body, h1, h2⟩ := h
      exact ⟨_, h1, rfl⟩
    · exact h
    · exact h.elim
  have ho : l.obj = false := by simpa using ho
  obtain ⟨arr, elem, fr, h1, _⟩ := h.row ho
  exact ⟨_, h1, rfl⟩
def markOf (r : Nat) : Deferred := { target := .collected r, args := #[] }
def Marks (base : Nat) (w : World) (ds : List Deferred) : Prop :=
  ∃ rs : List Nat, ds = rs.map markOf ∧ rs.Nodup ∧ ∀ r ∈ rs, base ≤ r ∧ w.heap[r]? = some (Obj.deferred (some []))
theorem Marks.nil (base : Nat) (w : World) : Marks base w [] := ⟨[], rfl, by simp, by simp⟩
theorem Marks.of_heap {base : Nat} {w w' : World} {ds : List Deferred} (h : Marks base w ds) (hw : ∀ r : Nat, w.heap[r]? = some (Obj.deferred (some [])) → w'.heap[r]? = some (Obj.deferred (some []))) : Marks base w' ds := by
  obtain ⟨rs, h1, h2, h3⟩ := h
  exact ⟨rs, h1, h2, fun r hr => ⟨(h3 r hr).1, hw r (h3 r hr).2⟩⟩
theorem Marks.keep {base : Nat} {w w' : World} {M M' : Val} {H H' : Heap} {ds : List Deferred} (h : Marks base w ds) (hH : HRel M H w) (hk : Kept ⟨w, M, H⟩ M' H' w') : Marks base w' ds := by
  refine h.of_heap fun r hr => ?_
  rw [hk.block r (Array.getElem?_eq_some_iff.1 hr).1 ?_]
  · exact hr
  · rintro ⟨i, b, l, h1, h2, h3, h4⟩
    obtain ⟨l', g1, g2⟩ := hH.row i b h1
    have h3' : M i = some l := h3
    rw [h3'] at g1
    cases g1
    obtain ⟨o, k1, k2⟩ := (g2 (.inr h2)).nodef
    rw [h4] at k1
    have hr' : w.heap[r]? = some (Obj.deferred (some [])) := hr
    rw [hr'] at k1
    cases k1
    cases k2
theorem Marks.alloc {base : Nat} {w : World} {ds : List Deferred} (h : Marks base w ds) (o : Obj) : Marks base (w.alloc o) ds :=
  h.of_heap fun _ hr => (heap_alloc_old w _ _ (Array.getElem?_eq_some_iff.1 hr).1).trans hr
theorem HRel.other {M : Val} {H : Heap} {w w' : World} (h : HRel M H w) {r : Nat} (hr : ∃ o, w.heap[r]? = some o ∧ isDef o = true) (hw : ∀ i, i ≠ r → w'.heap[i]? = w.heap[i]?) : HRel M H w' := by
  refine ⟨h.dom, fun i b hb => ?_, h.sep⟩
  obtain ⟨l, h1, h2⟩ := h.row i b hb
  refine ⟨l, h1, fun ht => (h2 ht).of_block (hw _ fun e => ?_)⟩
  obtain ⟨o, k1, k2⟩ := (h2 ht).nodef
  obtain ⟨o', g1, g2⟩ := hr
  rw [e, g1] at k1
  cases k1
  rw [g2] at k2
  cases k2
theorem Kept.other {X : Cx} {M : Val} {H : Heap} {w w' : World} (hk : Kept X M H w) {r : Nat} (hr : X.w.heap.size ≤ r) (hw : ∀ i, i ≠ r → w'.heap[i]? = w.heap[i]?) (hs : w.heap.size ≤ w'.heap.size) (h1 : w'.os = w.os) (h2 : w'.tape = w.tape) (h3 : w'.output = w.output) : Kept X M H w' :=
  ⟨h1.trans hk.os, h2.trans hk.tape, h3.trans hk.output, Nat.le_trans hk.size hs, fun n hn hno => (hw n (by omega)).trans (hk.block n hn hno), hk.own, hk.ext, hk.len, hk.loc⟩
theorem HRel.turnO {M : Val} {H : Heap} {w w' : World} (h : HRel M H w) {i : Nat} {b : Blk} {l : Loc} (hb : H[i]? = some (some b)) (ho : b.own = true) (hl : M.ob i = some l) (hw : ∀ k, k ≠ l.blk → w'.heap[k]? = w.heap[k]?) (L : AV) (hL : ObjR M ⟨[L], true⟩ l w') :
    HRel M (H.set i (some ⟨[L], true⟩)) w' := by
  obtain ⟨hl, hob⟩ := Val.ob_out hl
  have hi : i < H.length := (List.getElem?_eq_some_iff.1 hb).1
  have get : ∀ (k : Nat) (c : Blk), (H.set i (some ⟨[L], true⟩))[k]? = some (some c) → (k = i ∧ c = ⟨[L], true⟩) ∨ (k ≠ i ∧ H[k]? = some (some c)) := by
    intro k c hc
    by_cases hk : k = i
    · subst hk
      rw [List.getElem?_set_self hi] at hc
      exact .inl ⟨rfl, by simpa using hc.symm⟩
    · rw [List.getElem?_set_ne (by omega)] at hc
      exact .inr ⟨hk, hc⟩
  refine ⟨fun k hk => h.dom k (by simpa using hk), fun k c hc => ?_, fun i1 i2 b1 b2 l1 l2 h1 ho1 h2 ht2 hne hl1 hl2 => ?_⟩
  · rcases get k c hc with ⟨rfl, rfl⟩ | ⟨k1, k2⟩
    · exact ⟨l, hl, fun _ => .ofOb hL hob⟩
    · obtain ⟨l', g1, g2⟩ := h.row k c k2
      refine ⟨l', g1, fun ht => (g2 ht).of_block (hw _ fun e => ?_)⟩
      exact h.sep i k b c l l' hb ho k2 ht (fun e => k1 e.symm) hl g1 e.symm
  · have own2 : ∀ (k : Nat) (c : Blk), (H.set i (some ⟨[L], true⟩))[k]? = some (some c) → ∃ c' : Blk, H[k]? = some (some c') ∧ (c.own = true → c'.own = true) ∧ (c.tells → c'.tells) := by
      intro k c hc
      rcases get k c hc with ⟨rfl, rfl⟩ | ⟨_, hc⟩
      · exact ⟨b, hb, fun _ => ho, fun _ => .inr ho⟩
      · exact ⟨c, hc, id, id⟩
    obtain ⟨c1, g1, g2, _⟩ := own2 i1 b1 h1
    obtain ⟨c2, g3, _, g4⟩ := own2 i2 b2 h2
    exact h.sep i1 i2 c1 c2 l1 l2 g1 (g2 ho1) g3 (g4 ht2) hne hl1 hl2
theorem Kept.turnO {X : Cx} {M : Val} {H : Heap} {w w' : World} (hk : Kept X M H w) {i : Nat} {b : Blk} {l : Loc} (hb : H[i]? = some (some b)) (ho : b.own = true) (hl : M.ob i = some l) (hw : ∀ k, k ≠ l.blk → w'.heap[k]? = w.heap[k]?) (hs : w.heap.size ≤ w'.heap.size) (h1 : w'.os = w.os) (h2 : w'.tape = w.tape) (h3 : w'.output = w.output) (L : AV) :
    Kept X M (H.set i (some ⟨[L], true⟩)) w' := by
  obtain ⟨hl, hob⟩ := Val.ob_out hl
  have hi : i < H.length := (List.getElem?_eq_some_iff.1 hb).1
  refine ⟨h1.trans hk.os, h2.trans hk.tape, h3.trans hk.output, Nat.le_trans hk.size hs, fun n hn hno => (hw n fun e => ?_).trans (hk.block n hn hno), fun k c l' hc hco hl' => ?_, hk.ext, by simpa using hk.len, fun k c l' hc ht hl' => ?_⟩
  · subst e
    rcases hk.own i b l hb ho hl with h4 | h4
    · omega
    · exact hno h4
  · by_cases hki : k = i
    · subst hki
      rw [hl] at hl'
      cases hl'
      exact hk.own k b l hb ho hl
    · rw [List.getElem?_set_ne (by omega)] at hc
      exact hk.own k c l' hc hco hl'
  · by_cases hki : k = i
    · subst hki
      rw [hl] at hl'
      cases hl'
      exact hk.loc k b l hb (.inr ho) hl
    · rw [List.getElem?_set_ne (by omega)] at hc
      exact hk.loc k c l' hc ht hl'

theorem HRel.kill {M : Val} {H : Heap} {w : World} (h : HRel M H w) (i : Nat) : HRel M (H.set i none) w := by
  have get : ∀ (k : Nat) (c : Blk), (H.set i (none : Option Blk))[k]? = some (some c) → H[k]? = some (some c) := by
    intro k c hc
    by_cases hk : k = i
    · subst hk
      rw [List.getElem?_set] at hc
      simp at hc
    · rwa [List.getElem?_set_ne (by omega)] at hc
  exact ⟨fun k hk => h.dom k (by simpa using hk), fun k c hc => h.row k c (get k c hc), fun i1 i2 b1 b2 l1 l2 h1 ho h2 => h.sep i1 i2 b1 b2 l1 l2 (get _ _ h1) ho (get _ _ h2)⟩
theorem Kept.kill {X : Cx} {M : Val} {H : Heap} {w : World} (hk : Kept X M H w) (i : Nat) : Kept X M (H.set i none) w where
  os := hk.os
  tape := hk.tape
  output := hk.output
  size := hk.size
  block := hk.block
  own := fun k c l hc => by
    refine hk.own k c l ?_
    by_cases hki : k = i
    · subst hki
      rw [List.getElem?_set] at hc
      simp at hc
    · rwa [List.getElem?_set_ne (by omega)] at hc
  ext := hk.ext
  len := by have := hk.len; simpa using this
  loc := fun k c l hc => by
    refine hk.loc k c l ?_
    by_cases hki : k = i
    · subst hki
      rw [List.getElem?_set] at hc
      simp at hc
    · rwa [List.getElem?_set_ne (by omega)] at hc
theorem HRel.of_heap {M : Val} {H : Heap} {w w' : World} (h : HRel M H w) (hw : w'.heap = w.heap) : HRel M H w' :=
  ⟨h.dom, fun i b hb => let ⟨l, hl, hB⟩ := h.row i b hb; ⟨l, hl, fun ht => (hB ht).of_block (by rw [hw])⟩, h.sep⟩
theorem Kept.draw {X : Cx} {M : Val} {H : Heap} {w : World} (hk : Kept X M H w) : Kept X M H w.drew :=
  ⟨hk.os, hk.tape, hk.output, hk.size, hk.block, hk.own, hk.ext, hk.len, hk.loc⟩
end Go.Proofs.Ytaiboicipbhmhaa.Ah
namespace Go.Proofs.Ytaiboicipbhmhaa.Ah
open Go
inductive SO where
  | r (i : Nat)
  | c (v : AV)
inductive LK where
  | int | bool | str
  deriving DecidableEq
inductive MOp where
  | mk
  | upd (ks : List LK) (agg : Bool)
  | lkp (ks : List LK) (agg : Bool) (zero : List AV) (zagg ok : Bool)
  | isnil (neg : Bool)
  | len
inductive SOp where
  | mv | pick
  | alloc (zero : List AV)
  | box
  | build (zero : List AV) (places : List (Nat × Nat))
  | bslice (sz len : Nat) (zero : List AV) (places : List (Nat × Nat))
  | ld1 | ldn (n : Nat) | st (n : Nat)
  | nilchk
  | bin (op : BinOp)
  | eqv (neg : Bool) (ks : List LK)
  | eqb (neg : Bool) | eqs (neg : Bool) | eqnil (neg : Bool)
  | un (op : UnOp)
  | conv (k : IntKind)
  | strOf | bytesOf
  | mkfn (f : Fn) (nfirst : Nat)
  | mksl (sz bytes : Nat) (zero : List AV)
  | slice (sz : Nat) (lo hi mx : Bool)
  | aslice (sz n : Nat) (lo hi mx : Bool)
  | faddr (off : Nat) | fld (off n : Nat) (agg : Bool)
  | iaddrS (sz : Nat) | iaddrA (sz n : Nat)
  | idxA (sz n : Nat) (agg : Bool)
  | ext (i : Nat)
  | len | lenA (n : Nat) | cap | app (sz bytes : Nat) | appZ (sz bytes : Nat) (zero : List AV) | copy (sz : Nat) | mn | mx
  | call (f : Nat) | callv
  | mp (m : MOp)
  | dead
def ACall (P : Program) (f : FuncId) (args : List AV) (H : Heap) (v : AV) (H' : Heap) : Prop :=
  ∀ M w xs, HRel M H w → VRs M args xs → Calls P f xs.toArray w fun e w' =>
    ∃ x M', e = .returned x ∧ HRel M' H' w' ∧ Kept ⟨w, M, H⟩ M' H' w' ∧ VR M' v x
def AYield (P : Program) (b : Nat) (args : List AV) (H : Heap) (v : AV) (H' : Heap) : Prop :=
  ∀ M w xs l, HRel M H w → VRs M args xs → M.ob b = some l → ∃ fn tmps assign body, (Instr.yield l.blk xs.toArray).run P w = .ok (.round l.blk fn tmps assign body) w ∧
    RoundIn Fence.wide 0 P l.blk fn tmps assign body w fun e w' => ∃ x M', e = .returned x ∧ HRel M' H' w' ∧ Kept ⟨w, M, H⟩ M' H' w' ∧ VR M' v x
def hasBody (P : Program) (f : FuncId) : Bool :=
  match P.funcs[f]? with
  | some fn => fn.name != "runtime.NumGoroutine" && fn.body.isSome
  | none => false
def blkAt (H : Heap) (b : Nat) : Option Blk := (H[b]?).join
def rd (H : Heap) (b off n : Nat) : Option (List AV) :=
  match blkAt H b with
  | some k => if off + n ≤ k.cells.length then some ((k.cells.drop off).take n) else none
  | none => none
def rdS (H : Heap) : AV → Option (List AV × Nat)
  | .nils => some ([], 0)
  | .sl b off n sz _ => (rd H b off (n * sz)).map fun cs => (cs, n)
  | _ => none
def strC : List AV → Option (List UInt8)
  | [] => some []
  | .int .u8 n :: r => (strC r).map (UInt8.ofNat n.toNat :: ·)
  | _ => none
def lay (zero : List AV) : List (Nat × Nat) → List AV → Option (List AV)
  | [], [] => some zero
  | (off, n) :: ps, v :: vs => if v.cells.length = n ∧ off + n ≤ zero.length then lay (zero.take off ++ v.cells ++ zero.drop (off + n)) ps vs else none
  | _, _ => none
def setCells (cs : List AV) (off : Nat) (vs : List AV) : List AV := cs.take off ++ vs ++ cs.drop (off + vs.length)
def AV.full (v : AV) : Bool := v.cells.all AV.cell
def eqCells : List LK → List AV → List AV → Option Bool
  | [], [], [] => some true
  | .int :: ks, .int k a :: r, .int k' b :: r' => if k = k' then (eqCells ks r r').map fun t => decide (a = b) && t else none
  | .bool :: ks, .bool a :: r, .bool b :: r' => (eqCells ks r r').map fun t => decide (a = b) && t
  | .str :: ks, .str a :: r, .str b :: r' => (eqCells ks r r').map fun t => decide (a = b) && t
  | _, _, _ => none
def AV.isAgg : AV → Bool
  | .agg _ => true
  | _ => false
def mfind (ks : List LK) (agg : Bool) (k : List AV) : List AV → Nat → Option (Option Nat)
  | [], _ => some none
  | x :: xs, i => if x.isAgg = agg then (match eqCells ks k x.cells with
    | some true => some (some i)
    | some false => mfind ks agg k xs (i + 1)
    | none => none) else none
def keyed (ks : List LK) (agg : Bool) (k : AV) : Bool := k.isAgg == agg && (eqCells ks k.cells k.cells).isSome
def mget (H : Heap) : AV → Option (List AV × List AV)
  | .nilm => some ([], [])
  | .mapp b => match blkAt H b with
    | some ⟨[.mapo ks vs], _⟩ => some (ks, vs)
    | _ => none
  | _ => none
def mput (keys vals : List AV) (k v : AV) : Option Nat → AV
  | none => .mapo (keys ++ [k]) (vals ++ [v])
  | some i => .mapo (keys.set i k) (vals.set i v)
def mres (zero : List AV) (zagg ok : Bool) (vals : List AV) : Option Nat → Option AV
  | none => let z := if zagg then .agg zero else zero.headD .any; some (if ok then .tup [z, .bool false] else z)
  | some i => (vals[i]?).map fun v => if ok then .tup [v, .bool true] else v
def mop (m : MOp) (vs : List AV) (H : Heap) : Option (AV × Heap) :=
  match m with
  | .mk => match vs with
    | [] => some (.mapp H.length, H ++ [some ⟨[.mapo [] []], true⟩])
    | _ => none
  | .upd ks agg => match vs with
    | [.mapp b, k, v] => match blkAt H b with
      | some ⟨[.mapo keys vals], true⟩ => if keyed ks agg k = true then (mfind ks agg k.cells keys 0).map fun r => (.tup [], H.set b (some ⟨[mput keys vals k v r], true⟩)) else none
      | _ => none
    | _ => none
  | .lkp ks agg z zagg ok => match vs with
    | [m, k] => if keyed ks agg k = true then (mget H m).bind fun p => (mfind ks agg k.cells p.1 0).bind fun r => (mres z zagg ok p.2 r).map fun v => (v, H) else none
    | _ => none
  | .isnil neg => match vs with
    | [.nilm] => some (.bool (if neg then !true else true), H)
    | [.mapp _] => some (.bool (if neg then !false else false), H)
    | _ => none
  | .len => match vs with
    | [m] => (mget H m).map fun p => (.int .i64 p.1.length, H)
    | _ => none
def szOk (sz : Nat) : AV → Prop
  | .sl _ _ _ s _ => s = sz
  | _ => True
def a0 (vs : List AV) (K : Prop) : Prop := match vs with | [] => K | _ => False
def a1 (vs : List AV) (K : AV → Prop) : Prop := match vs with | [x] => K x | _ => False
def a2 (vs : List AV) (K : AV → AV → Prop) : Prop := match vs with | [x, y] => K x y | _ => False
def a3 (vs : List AV) (K : AV → AV → AV → Prop) : Prop := match vs with | [x, y, z] => K x y z | _ => False
def aC (vs : List AV) (K : AV → List AV → Prop) : Prop := match vs with | x :: r => K x r | _ => False
def isB (v : AV) (K : Bool → Prop) : Prop := match v with | .bool b => K b | _ => False
def isI (v : AV) (K : IntKind → Int → Prop) : Prop := match v with | .int k n => K k n | _ => False
def isP (v : AV) (K : Nat → Nat → Prop) : Prop := match v with | .ptr b o => K b o | _ => False
def isA (v : AV) (K : List AV → Prop) : Prop := match v with | .agg cs => K cs | _ => False
def isT (v : AV) (K : List AV → Prop) : Prop := match v with | .tup cs => K cs | _ => False
def isS (v : AV) (K : ByteArray → Prop) : Prop := match v with | .str s => K s | _ => False
def isF (v : AV) (K : FuncId → List AV → List AV → Prop) (Y : Nat → Prop) : Prop := match v with | .fn (.func f) xs ys => K f xs ys | .yld b => Y b | _ => False
def isSl (v : AV) (N : Prop) (K : Nat → Nat → Nat → Nat → Option Nat → Prop) : Prop := match v with | .nils => N | .sl b off n sz c => K b off n sz c | _ => False
def sm {α : Type} (o : Option α) (K : α → Prop) : Prop := match o with | some x => K x | none => False
theorem a0_out {vs : List AV} {K : Prop} (h : a0 vs K) : vs = [] ∧ K := by unfold a0 at h; split at h <;> first | exact ⟨rfl, h⟩ | exact h.elim
theorem a1_out {vs : List AV} {K : AV → Prop} (h : a1 vs K) : ∃ x, vs = [x] ∧ K x := by unfold a1 at h; split at h <;> first | exact ⟨_, rfl, h⟩ | exact h.elim
theorem a2_out {vs : List AV} {K : AV → AV → Prop} (h : a2 vs K) : ∃ x y, vs = [x, y] ∧ K x y := by unfold a2 at h; split at h <;> first | exact ⟨_, _, rfl, h⟩ | exact h.elim
theorem a3_out {vs : List AV} {K : AV → AV → AV → Prop} (h : a3 vs K) : ∃ x y z, vs = [x, y, z] ∧ K x y z := by unfold a3 at h; split at h <;> first | exact ⟨_, _, _, rfl, h⟩ | exact h.elim
theorem aC_out {vs : List AV} {K : AV → List AV → Prop} (h : aC vs K) : ∃ x r, vs = x :: r ∧ K x r := by unfold aC at h; split at h <;> first | exact ⟨_, _, rfl, h⟩ | exact h.elim
theorem isB_out {v : AV} {K : Bool → Prop} (h : isB v K) : ∃ b, v = .bool b ∧ K b := by unfold isB at h; split at h <;> first | exact ⟨_, rfl, h⟩ | exact h.elim
theorem isI_out {v : AV} {K : IntKind → Int → Prop} (h : isI v K) : ∃ k n, v = .int k n ∧ K k n := by unfold isI at h; split at h <;> first | exact ⟨_, _, rfl, h⟩ | exact h.elim
theorem isP_out {v : AV} {K : Nat → Nat → Prop} (h : isP v K) : ∃ b o, v = .ptr b o ∧ K b o := by unfold isP at h; split at h <;> first | exact ⟨_, _, rfl, h⟩ | exact h.elim
theorem isA_out {v : AV} {K : List AV → Prop} (h : isA v K) : ∃ cs, v = .agg cs ∧ K cs := by unfold isA at h; split at h <;> first | exact ⟨_, rfl, h⟩ | exact h.elim
theorem isT_out {v : AV} {K : List AV → Prop} (h : isT v K) : ∃ cs, v = .tup cs ∧ K cs := by unfold isT at h; split at h <;> first | exact ⟨_, rfl, h⟩ | exact h.elim
theorem isS_out {v : AV} {K : ByteArray → Prop} (h : isS v K) : ∃ s, v = .str s ∧ K s := by unfold isS at h; split at h <;> first | exact ⟨_, rfl, h⟩ | exact h.elim
theorem isF_out {v : AV} {K : FuncId → List AV → List AV → Prop} {Y : Nat → Prop} (h : isF v K Y) : (∃ f xs ys, v = .fn (.func f) xs ys ∧ K f xs ys) ∨ ∃ b, v = .yld b ∧ Y b := by unfold isF at h; split at h <;> first | exact .inl ⟨_, _, _, rfl, h⟩ | exact .inr ⟨_, rfl, h⟩ | exact h.elim
theorem isSl_out {v : AV} {N : Prop} {K : Nat → Nat → Nat → Nat → Option Nat → Prop} (h : isSl v N K) : (v = .nils ∧ N) ∨ ∃ b off n sz c, v = .sl b off n sz c ∧ K b off n sz c := by
  unfold isSl at h; split at h <;> first | exact .inl ⟨rfl, h⟩ | exact .inr ⟨_, _, _, _, _, rfl, h⟩ | exact h.elim
theorem sm_out {α : Type} {o : Option α} {K : α → Prop} (h : sm o K) : ∃ x, o = some x ∧ K x := by unfold sm at h; split at h <;> first | exact ⟨_, rfl, h⟩ | exact h.elim
def cut (n : Nat) (c : Option Nat) (lo hi mx : Bool) (vs : List AV) (K : Nat → Nat → Option Nat → Prop) : Prop :=
  match lo, hi, mx with
  | false, false, false => a0 vs (K 0 n c)
  | true, false, false => a1 vs fun x => isI x fun _ l => 0 ≤ l ∧ l ≤ n ∧ K l.toNat n (c.map (· - l.toNat))
  | false, true, false => a1 vs fun x => isI x fun _ h => 0 ≤ h ∧ h ≤ n ∧ K 0 h.toNat c
  | true, true, false => a2 vs fun x y => isI x fun _ l => isI y fun _ h => 0 ≤ l ∧ l ≤ h ∧ h ≤ n ∧ K l.toNat h.toNat (c.map (· - l.toNat))
  | false, true, true => a2 vs fun y z => isI y fun _ h => isI z fun _ m => 0 ≤ h ∧ h ≤ m ∧ m ≤ n ∧ K 0 h.toNat (some m.toNat)
  | true, true, true => a3 vs fun x y z => isI x fun _ l => isI y fun _ h => isI z fun _ m => 0 ≤ l ∧ l ≤ h ∧ h ≤ m ∧ m ≤ n ∧ K l.toNat h.toNat (some (m.toNat - l.toNat))
  | _, _, _ => False
def bin (op : BinOp) (k : IntKind) (a : Int) (k' : IntKind) (b : Int) (K : AV → Prop) : Prop :=
  match op with
  | .add => k = k' ∧ K (.int k (k.wrap (a + b)))
  | .sub => k = k' ∧ K (.int k (k.wrap (a - b)))
  | .mul => k = k' ∧ K (.int k (k.wrap (a * b)))
  | .quo => k = k' ∧ b ≠ 0 ∧ K (.int k (k.wrap (a.tdiv b)))
  | .rem => k = k' ∧ b ≠ 0 ∧ K (.int k (a.tmod b))
  | .and => k = k' ∧ K (.int k (k.wrap (BitVec.ofInt k.bits a &&& BitVec.ofInt k.bits b).toNat))
  | .or => k = k' ∧ K (.int k (k.wrap (BitVec.ofInt k.bits a ||| BitVec.ofInt k.bits b).toNat))
  | .xor => k = k' ∧ K (.int k (k.wrap (BitVec.ofInt k.bits a ^^^ BitVec.ofInt k.bits b).toNat))
  | .andNot => k = k' ∧ K (.int k (k.wrap (BitVec.ofInt k.bits a &&& ~~~ BitVec.ofInt k.bits b).toNat))
  | .shl => 0 ≤ b ∧ K (.int k (k.wrap (a * 2 ^ (min b.toNat k.bits))))
  | .shr => 0 ≤ b ∧ K (.int k (a.fdiv (2 ^ (min b.toNat k.bits))))
  | .eql => k = k' ∧ K (.bool (decide (a = b)))
  | .neq => k = k' ∧ K (.bool (!decide (a = b)))
  | .lss => k = k' ∧ K (.bool (decide (a < b)))
  | .leq => k = k' ∧ K (.bool (decide (a ≤ b)))
  | .gtr => k = k' ∧ K (.bool (decide (b < a)))
  | .geq => k = k' ∧ K (.bool (decide (b ≤ a)))
def un (op : UnOp) (v : AV) (K : AV → Prop) : Prop :=
  match op with
  | .not => isB v fun b => K (.bool (!b))
  | .neg => isI v fun k n => K (.int k (k.wrap (0 - n)))
  | .xor => isI v fun k n => K (.int k (k.wrap (BitVec.ofInt k.bits (if k.signed then -1 else k.max) ^^^ BitVec.ofInt k.bits n).toNat))
  | .plus => False
def app (sz bytes : Nat) (s x : AV) (H : Heap) (K : AV → Heap → Prop) : Prop :=
  szOk sz s ∧ szOk sz x ∧ sm (rdS H x) fun p => isSl s
    ((p.2 = 0 → K .nils H) ∧ (p.2 ≠ 0 → p.2 * bytes ≤ 140737488355328 ∧ K (.sl H.length 0 p.2 sz none) (H ++ [some ⟨p.1, true⟩])))
    fun b off n _ c => (p.2 = 0 → K s H) ∧ (p.2 ≠ 0 → (n + p.2) * bytes ≤ 140737488355328 ∧ sm (rd H b off (n * sz)) fun old =>
      if (∃ k, c = some k ∧ k < n + p.2) then K (.sl H.length 0 (n + p.2) sz none) (H ++ [some ⟨old ++ p.1, true⟩])
      else ((blkAt H b).any (·.own) = true ∧ p.1.all AV.cell = true ∧ K (.sl H.length 0 (n + p.2) sz none) (H.set b none ++ [some ⟨old ++ p.1, true⟩])))
def callK (P : Program) (f : FuncId) (vs : List AV) (H : Heap) (K : AV → Heap → Prop) : Prop := ∃ v H', ACall P f vs H v H' ∧ K v H'
def ycallK (P : Program) (b : Nat) (vs : List AV) (H : Heap) (K : AV → Heap → Prop) : Prop := ∃ v H', AYield P b vs H v H' ∧ K v H'
def so (P : Program) (s : SOp) (vs : List AV) (H : Heap) (K : AV → Heap → Prop) : Prop :=
  match s with
  | .mv => a1 vs fun x => K x H
  | .pick => a3 vs fun c a b => isB c fun c => (c = true → K a H) ∧ (c = false → K b H)
  | .alloc z => a0 vs (K (.ptr H.length 0) (H ++ [some ⟨z, true⟩]))
  | .box => a1 vs fun x => x.full = true ∧ K (.ptr H.length 0) (H ++ [some ⟨x.cells, true⟩])
  | .build z ps => vs.all AV.full = true ∧ sm (lay z ps vs) fun cs => K (.agg cs) H
  | .bslice sz n z ps => vs.all AV.full = true ∧ sm (lay z ps vs) fun cs => K (.sl H.length 0 n sz (some n)) (H ++ [some ⟨cs, true⟩])
  | .ld1 => a1 vs fun p => isP p fun b off => sm (blkAt H b) fun k => sm k.cells[off]? fun v => K v H
  | .ldn n => a1 vs fun p => isP p fun b off => sm (rd H b off n) fun cs => K (.agg cs) H
  | .st n => a2 vs fun p v => isP p fun b off => sm (blkAt H b) fun k =>
    k.own = true ∧ v.full = true ∧ v.cells.length = n ∧ off + n ≤ k.cells.length ∧ K (.tup []) (H.set b (some ⟨setCells k.cells off v.cells, true⟩))
  | .nilchk => a1 vs fun p => isP p fun b off => K (.ptr b off) H
  | .bin op => a2 vs fun x y => isI x fun k a => isI y fun k' b => bin op k a k' b fun v => K v H
  | .eqv neg ks => a2 vs fun x y => isA x fun a => isA y fun b => sm (eqCells ks a b) fun t => K (.bool (if neg then !t else t)) H
  | .eqb neg => a2 vs fun x y => isB x fun a => isB y fun b => K (.bool (if neg then !decide (a = b) else decide (a = b))) H
  | .eqs neg => a2 vs fun x y => isS x fun a => isS y fun b => K (.bool (if neg then !decide (a = b) else decide (a = b))) H
  | .eqnil neg => a1 vs fun x => isSl x (K (.bool (if neg then !true else true)) H) fun _ _ n _ c => (0 < n ∨ c.isSome = true) ∧ K (.bool (if neg then !false else false)) H
  | .un op => a1 vs fun x => un op x fun v => K v H
  | .conv k => a1 vs fun x => isI x fun _ n => K (.int k (k.wrap n)) H
  | .strOf => a1 vs fun x => sm (rdS H x) fun p => szOk 1 x ∧ sm (strC p.1) fun s => K (.str ⟨s.toArray⟩) H
  | .bytesOf => a1 vs fun x => isSl x False fun b off n sz c => sz = 1 ∧ (blkAt H b).any (·.own) = true ∧ sm c fun k => 0 < k ∧ K (.sl b off n sz (some k)) H
  | .mkfn f n => K (.fn f (vs.take n) (vs.drop n)) H
  | .mksl sz bytes z => a2 vs fun x y => isI x fun _ l => isI y fun _ c => 0 ≤ l ∧ l ≤ c ∧ bytes * c ≤ 281474976710656 ∧ K (.sl H.length 0 l.toNat sz (some c.toNat)) (H ++ [some ⟨(List.replicate c.toNat z).flatten, true⟩])
  | .slice sz lo hi mx => aC vs fun x r => isSl x (cut 0 (some 0) lo hi mx r fun _ _ _ => K .nils H) fun b off n sz' c => sz' = sz ∧ cut n c lo hi mx r fun l h c' => K (.sl b (off + l * sz') (h - l) sz' (if n = 0 ∧ c = none then none else c')) H
  | .aslice sz n lo hi mx => aC vs fun x r => isP x fun b off => cut n (some n) lo hi mx r fun l h c' => off + n * sz ≤ ((blkAt H b).map (·.cells.length)).getD 0 ∧ (blkAt H b).isSome = true ∧ K (.sl b (off + l * sz) (h - l) sz c') H
  | .faddr o => a1 vs fun p => isP p fun b off => K (.ptr b (off + o)) H
  | .fld o n agg => a1 vs fun x => isA x fun cs => if agg then K (.agg ((cs.drop o).take n)) H else sm cs[o]? fun v => K v H
  | .iaddrS sz => a2 vs fun x i => isSl x False fun b off n sz' _ => isI i fun _ i => sz' = sz ∧ 0 ≤ i ∧ i < n ∧ K (.ptr b (off + i.toNat * sz')) H
  | .iaddrA sz n => a2 vs fun p i => isP p fun b off => isI i fun _ i => 0 ≤ i ∧ i < n ∧ K (.ptr b (off + i.toNat * sz)) H
  | .idxA sz n agg => a2 vs fun x i => isA x fun cs => isI i fun _ i => 0 ≤ i ∧ i < n ∧ if agg then K (.agg ((cs.drop (i.toNat * sz)).take sz)) H else sm cs[i.toNat]? fun v => K v H
  | .ext i => a1 vs fun x => isT x fun l => sm l[i]? fun v => K v H
  | .len => a1 vs fun x => isSl x (K (.int .i64 0) H) fun _ _ n _ _ => K (.int .i64 n) H
  | .lenA n => a1 vs fun _ => K (.int .i64 n) H
  | .cap => a1 vs fun x => isSl x (K (.int .i64 0) H) fun _ _ _ _ c => sm c fun k => K (.int .i64 k) H
  | .mn => a2 vs fun x y => isI x fun k a => isI y fun k' b => k = k' ∧ K (.int k (if b < a then b else a)) H
  | .mx => a2 vs fun x y => isI x fun k a => isI y fun k' b => k = k' ∧ K (.int k (if b > a then b else a)) H
  | .call f => callK P f vs H K
  | .callv => aC vs fun g r => isF g (fun f xs ys => hasBody P f = true ∧ callK P f (xs ++ r ++ ys) H K) fun b => ycallK P b r H K
  | .app sz bytes => a2 vs fun s x => app sz bytes s x H K
  | .appZ sz bytes z => a2 vs fun s x => isSl s (isI x fun _ n => 0 < n ∧ n * bytes ≤ 140737488355328 ∧ K (.sl H.length 0 n.toNat sz none) (H ++ [some ⟨(List.replicate n.toNat z).flatten, true⟩])) fun _ _ _ _ _ => False
  | .copy sz => a2 vs fun d x => isSl d False fun b off n sz' _ => sz' = sz ∧ isSl x (K (.int .i64 0) H) fun b' off' m _ _ => sm (rd H b' off' (min m n * sz)) fun cs => sm (blkAt H b) fun k =>
    k.own = true ∧ cs.all AV.cell = true ∧ off + min m n * sz ≤ k.cells.length ∧ K (.int .i64 (min m n : Nat)) (H.set b (some ⟨setCells k.cells off cs, true⟩))
  | .mp m => sm (mop m vs H) fun p => K p.1 p.2
  | .dead => False
end Go.Proofs.Ytaiboicipbhmhaa.Ah

namespace Go.Proofs.Ytaiboicipbhmhaa.Ah
open Go
def Wd (r : Option Nat) : Fence := { Fence.wide with round := r }
theorem callsIn_wd {r : Option Nat} {n : Nat} {P : Program} {f : FuncId} {args : Array Value} {w : World} {R : Ending → World → Prop} (h : Calls P f args w R) : CallsIn (Wd r) n P f args w R := by
  have h' : CallsIn Fence.wide n P f args w R := callsIn_wide.2 h
  exact h'
theorem roundIn_wd {r : Option Nat} {n m l : Nat} {P : Program} {f : FuncId} {tmps : Array Value} {assign body : Code} {w : World} {R : Ending → World → Prop} (h : RoundIn Fence.wide m P l f tmps assign body w R) : RoundIn (Wd r) n P l f tmps assign body w R :=
  ⟨trivial, fun c cs _ => h.2 c cs (room_wide _)⟩
def SStep (P : Program) (o : Oper) (opds : List Operand) (vals : List AV) (H : Heap) (v : AV) (H' : Heap) : Prop :=
  (∀ c, o.op ≠ .defer c) → ∀ M w (a : Act), HRel M H w → VRs M vals (opds.map a.eval) → ∀ rd next Q, (∀ x M' w', HRel M' H' w' → Kept ⟨w, M, H⟩ M' H' w' → VR M' v x → next (a.put o.dst x) w') → o.wpIn (Wd rd) 0 P a w next Q
def ends (nx : Next) (x : Value) : Prop := nx = .value x ∨ (nx = .skip ∧ x = undef)
theorem SStep.of_run {P : Program} {o : Oper} {opds : List Operand} {vals : List AV} {H : Heap} {v : AV} {H' : Heap}
    (h : ∀ M w (a : Act), HRel M H w → VRs M vals (opds.map a.eval) → ∃ nx x w' M', (execOp a.eval o).run P w = .ok nx w' ∧ ends nx x ∧ HRel M' H' w' ∧ Kept ⟨w, M, H⟩ M' H' w' ∧ VR M' v x) :
    SStep P o opds vals H v H' := by
  intro hnd M w a hH hv rd next Q hn
  obtain ⟨nx, x, w', M', hr, he, h1, h2, h3⟩ := h M w a hH hv
  refine ⟨fun _ _ => trivial, ?_⟩
  rw [Oper.semAt_eq _ _ _ hnd, hr]
  rcases he with rfl | ⟨rfl, rfl⟩
  · exact hn x M' w' h1 h2 h3
  · exact hn undef M' w' h1 h2 h3
theorem SStep.of_pure {P : Program} {o : Oper} {opds : List Operand} {vals : List AV} {H : Heap} {v : AV}
    (h : ∀ M w (a : Act), HRel M H w → VRs M vals (opds.map a.eval) → ∃ x, (execOp a.eval o).run P w = .ok (.value x) w ∧ VR M v x) : SStep P o opds vals H v H :=
  .of_run fun M w a hH hv => let ⟨x, h1, h2⟩ := h M w a hH hv; ⟨.value x, x, w, M, h1, .inl rfl, hH, Kept.refl M H w, h2⟩
theorem VRs.one {M : Val} {v : AV} {us : List Value} (h : VRs M [v] us) : ∃ x, us = [x] ∧ VR M v x := by
  simp only [VRs] at h
  obtain ⟨x, xs, rfl, h1, rfl⟩ := h
  exact ⟨x, rfl, h1⟩
theorem VRs.two {M : Val} {v v' : AV} {us : List Value} (h : VRs M [v, v'] us) : ∃ x y, us = [x, y] ∧ VR M v x ∧ VR M v' y := by
  simp only [VRs] at h
  obtain ⟨x, xs, rfl, h1, y, ys, rfl, h2, rfl⟩ := h
  exact ⟨x, y, rfl, h1, h2⟩
theorem VRs.three {M : Val} {v v' v'' : AV} {us : List Value} (h : VRs M [v, v', v''] us) : ∃ x y z, us = [x, y, z] ∧ VR M v x ∧ VR M v' y ∧ VR M v'' z := by
  simp only [VRs] at h
  obtain ⟨x, xs, rfl, h1, y, ys, rfl, h2, z, zs, rfl, h3, rfl⟩ := h
  exact ⟨x, y, z, rfl, h1, h2, h3⟩
theorem map1 {α β : Type} {f : α → β} {x : α} {y : β} (h : [x].map f = [y]) : f x = y := by simpa using h
theorem map2 {α β : Type} {f : α → β} {x x' : α} {y y' : β} (h : [x, x'].map f = [y, y']) : f x = y ∧ f x' = y' := by simpa using h
theorem map3 {α β : Type} {f : α → β} {x x' x'' : α} {y y' y'' : β} (h : [x, x', x''].map f = [y, y', y'']) : f x = y ∧ f x' = y' ∧ f x'' = y'' := by simpa using h
section
variable {P : Program} {o : Oper}
theorem s_mv {x : Operand} (ho : o.op = .move x ∨ o.op = .assign x) (v : AV) (H : Heap) : SStep P o [x] [v] H v H :=
  .of_pure fun M w a hH hv => by
    obtain ⟨y, hy, h1⟩ := hv.one
    have := map1 hy
    rcases ho with ho | ho <;> exact ⟨y, by simp [execOp, ho, this], h1⟩
theorem s_pick {c x y : Operand} (ho : o.op = .pick c x y) (b : Bool) (v v' : AV) (H : Heap) : SStep P o [c, x, y] [.bool b, v, v'] H (if b then v else v') H :=
  .of_pure fun M w a hH hv => by
    obtain ⟨c', x', y', hy, h1, h2, h3⟩ := hv.three
    obtain ⟨e1, e2, e3⟩ := map3 hy
    simp only [VR] at h1
    refine ⟨if b then x' else y', ?_, by cases b <;> simpa⟩
    cases b <;> simp [execOp, ho, e1, e2, e3, h1, asBool]
theorem s_bin {x y : Operand} {op : BinOp} {t u : TypeId} (ho : o.op = .binOp op t x y u) {k : IntKind} (p q : Int) (v : AV) (H : Heap)
    (hg : eqGuard op t x y (.int k p) (.int k q) = Pure.pure ())
    (z : Value) (hz : ∀ w, (binOp op t (.int k p) (.int k q)).run P w = .ok z w) (hv : ∀ M, VR M v z) : SStep P o [x, y] [.int k p, .int k q] H v H :=
  .of_pure fun M w a hH hv' => by
    obtain ⟨x', y', hy, h1, h2⟩ := hv'.two
    obtain ⟨e1, e2⟩ := map2 hy
    simp only [VR] at h1 h2
    subst h1; subst h2
    exact ⟨z, by simp [execOp, ho, e1, e2, hg, hz], hv M⟩
theorem s_shift {x y : Operand} {op : BinOp} {t u : TypeId} (ho : o.op = .binOp op t x y u) {k k' : IntKind} (p q : Int) (v : AV) (H : Heap)
    (hg : eqGuard op t x y (.int k p) (.int k' q) = Pure.pure ())
    (z : Value) (hz : ∀ w, (binOp op t (.int k p) (.int k' q)).run P w = .ok z w) (hv : ∀ M, VR M v z) : SStep P o [x, y] [.int k p, .int k' q] H v H :=
  .of_pure fun M w a hH hv' => by
    obtain ⟨x', y', hy, h1, h2⟩ := hv'.two
    obtain ⟨e1, e2⟩ := map2 hy
    simp only [VR] at h1 h2
    subst h1; subst h2
    exact ⟨z, by simp [execOp, ho, e1, e2, hg, hz], hv M⟩
theorem s_int {x y : Operand} {op : BinOp} {t u : TypeId} (ho : o.op = .binOp op t x y u) {k k' : IntKind} (p q : Int) (H : Heap) {K : AV → Prop}
    (h : bin op k p k' q K) : ∃ v, K v ∧ SStep P o [x, y] [.int k p, .int k' q] H v H := by
  have hg : eqGuard op t x y (.int k p) (.int k' q) = Pure.pure () := by unfold eqGuard; cases op <;> rfl
  cases op
  case shl =>
    simp only [bin] at h
    refine ⟨_, h.2, s_shift ho p q _ H hg _ (fun w => ?_) (fun M => rfl)⟩
    simp [binOp, Op.shift, show ¬ q < 0 by omega]
  case shr =>
    simp only [bin] at h
    refine ⟨_, h.2, s_shift ho p q _ H hg _ (fun w => ?_) (fun M => rfl)⟩
    simp [binOp, Op.shift, show ¬ q < 0 by omega]
  case quo =>
    simp only [bin] at h
    obtain ⟨rfl, h1, h2⟩ := h
    refine ⟨_, h2, s_bin ho p q _ H hg _ (fun w => ?_) (fun M => rfl)⟩
    simp [binOp, Op.intDiv, h1]
  case rem =>
    simp only [bin] at h
    obtain ⟨rfl, h1, h2⟩ := h
    refine ⟨_, h2, s_bin ho p q _ H hg _ (fun w => ?_) (fun M => rfl)⟩
    simp [binOp, Op.intDiv, h1]
  all_goals
    simp only [bin] at h
    obtain ⟨rfl, h2⟩ := h
    refine ⟨_, h2, s_bin ho p q _ H hg _ (fun w => ?_) (fun M => rfl)⟩
    simp [binOp, Op.intArith, Op.intBits, Op.intCmp]
  all_goals first | rfl | (simp [bne]; done) | skip
end
end Go.Proofs.Ytaiboicipbhmhaa.Ah
namespace Go.Proofs.Ytaiboicipbhmhaa.Ah
open Go
section
variable {P : Program}
theorem plain_add (g o j : Nat) : (⟨g, o, none⟩ : Addr).add j = ⟨g, o + j, none⟩ := by
  unfold Addr.add
  split <;> simp_all
theorem rd_some {H : Heap} {b off n : Nat} {cs : List AV} (h : rd H b off n = some cs) : ∃ k, H[b]? = some (some k) ∧ off + n ≤ k.cells.length ∧ cs = (k.cells.drop off).take n ∧ cs.length = n := by
  unfold rd blkAt at h
  cases hb : H[b]? with
  | none => simp [hb] at h
  | some o =>
    cases o with
    | none => simp [hb] at h
    | some k =>
      simp only [hb, Option.join_some] at h
      by_cases hl : off + n ≤ k.cells.length
      · rw [if_pos hl] at h
        cases h
        exact ⟨k, rfl, hl, rfl, by simp; omega⟩
      · rw [if_neg hl] at h
        cases h
theorem blkAt_some {H : Heap} {b : Nat} {k : Blk} (h : blkAt H b = some k) : H[b]? = some (some k) := by
  unfold blkAt at h
  cases hb : H[b]? with
  | none => simp [hb] at h
  | some o => cases o with
    | none => simp [hb] at h
    | some k' => simp [hb] at h; subst h; rfl
theorem run_rd {M : Val} {H : Heap} {w : World} (h : HRel M H w) {b off n : Nat} {cs : List AV} (hr : rd H b off n = some cs) (ha : (M.at b).isSome = true) :
    ∃ l xs, M.at b = some l ∧ (∀ wd : World, wd.heap = w.heap → (loadCells ⟨l.blk, l.off + off, none⟩ n).run P wd = .ok (List.toArray xs) wd) ∧ VRs M cs xs ∧ xs.length = n := by
  obtain ⟨k, hb, hl, rfl, hn⟩ := rd_some hr
  by_cases hn0 : n = 0
  · subst hn0
    obtain ⟨l, hM⟩ := Option.isSome_iff_exists.1 ha
    exact ⟨l, [], hM, fun wd _ => by simp [loadCells, loadCellsFrom], by simp [VRs], rfl⟩
  obtain ⟨l, hM, arr, elem, fr, h1, h2, h3, h4⟩ := h.blk b k hb (.inl fun e => by rw [e] at hl; simp at hl; omega) ha
  have hget : ∀ j, j < n → ∃ x, arr[l.off + off + j]? = some x ∧ VR M ((k.cells.drop off).take n)[j]! x := by
    intro j hj
    have hlt : off + j < k.cells.length := by omega
    obtain ⟨x, hx, hvx⟩ := h3 (off + j) k.cells[off + j] (by simp [hlt])
    refine ⟨x, by rw [Nat.add_assoc]; exact hx, ?_⟩
    have : ((k.cells.drop off).take n)[j]! = k.cells[off + j] := by
      rw [getElem!_pos _ _ (by rw [hn]; exact hj)]
      simp
    rw [this]
    exact hvx
  refine ⟨l, (List.range n).map fun j => arr[l.off + off + j]?.getD undef, hM, ?_, ?_, by simp⟩
  · intro wd hwd
    have := run_loadCells (P := P) (w := wd) ⟨l.blk, l.off + off, none⟩ n (fun j => arr[l.off + off + j]?.getD undef) (fun j hj => by
      obtain ⟨x, hx, _⟩ := hget j hj
      rw [plain_add, cell_of_row wd _ _ arr elem fr (by rw [hwd]; exact h1), hx]
      rfl)
    rw [this]
    try congr 1
    try (apply Array.ext'; simp)
  · refine VRs.mk (by simp [hn]) fun j v hv => ?_
    have hj : j < n := by
      rcases Nat.lt_or_ge j n with h | h
      · exact h
      · rw [List.getElem?_eq_none (by rw [hn]; exact h)] at hv; cases hv
    obtain ⟨x, hx, hvx⟩ := hget j hj
    refine ⟨x, by simp [hj, hx], ?_⟩
    have : ((k.cells.drop off).take n)[j]! = v := by
      rw [getElem!_pos _ _ (by rw [hn]; exact hj)]
      have := List.getElem?_eq_some_iff.1 hv
      exact this.2
    rw [this] at hvx
    exact hvx
theorem run_ld {M : Val} {H : Heap} {w : World} (h : HRel M H w) {b off : Nat} {k : Blk} (hb : blkAt H b = some k) {v : AV} (hv : k.cells[off]? = some v) (ha : (M.at b).isSome = true) :
    ∃ l x, M.at b = some l ∧ w.cell? ⟨l.blk, l.off + off, none⟩ = some x ∧ VR M v x := h.cell (blkAt_some hb) hv ha
theorem setCells_cons {cs : List AV} {off : Nat} {v : AV} {vs : List AV} (h : off + (vs.length + 1) ≤ cs.length) :
    setCells (cs.set off v) (off + 1) vs = setCells cs off (v :: vs) := by
  have h1 : (cs.set off v).take (off + 1) = cs.take off ++ [v] := by
    rw [List.take_succ_eq_append_getElem (by simp; omega)]
    simp [List.take_set_of_le]
  have h2 : (cs.set off v).drop (off + 1 + vs.length) = cs.drop (off + (vs.length + 1)) := by
    rw [List.drop_set_of_lt (by omega)]
    congr 1
    omega
  unfold setCells
  rw [h1, h2]
  simp
theorem run_st {X : Cx} {M : Val} : ∀ (vs : List AV) (xs : List Value) (H : Heap) (w : World) (b : Nat) (k : Blk) (l : Loc) (off : Nat), HRel M H w → Kept X M H w → H[b]? = some (some k) → k.own = true → M.at b = some l →
    off + vs.length ≤ k.cells.length → vs.all AV.cell = true → VRs M vs xs → ∀ i base, l.off + off = base + i →
    ∃ w', (storeCells ⟨l.blk, base, none⟩ xs i).run P w = .ok () w' ∧ HRel M (H.set b (some ⟨setCells k.cells off vs, true⟩)) w' ∧ Kept X M (H.set b (some ⟨setCells k.cells off vs, true⟩)) w'
  | [], xs, H, w, b, k, l, off, h, hk, hb, ho, hM, hl, hc, hv, i, base, hi => by
    simp only [VRs] at hv
    subst hv
    have he : setCells k.cells off [] = k.cells := by simp [setCells]
    have hs : H.set b (some ⟨setCells k.cells off [], true⟩) = H := by
      rw [he]
      apply List.ext_getElem?
      intro j
      by_cases hj : j = b
      · subst hj
        rw [List.getElem?_set_self (by
          rcases Nat.lt_or_ge j H.length with h | h
          · exact h
          · rw [List.getElem?_eq_none h] at hb; cases hb), hb]
        cases k; simp at ho; subst ho; rfl
      · rw [List.getElem?_set_ne (by omega)]
    rw [hs]
    exact ⟨w, rfl, h, hk⟩
  | v :: vs, xs, H, w, b, k, l, off, h, hk, hb, ho, hM, hl, hc, hv, i, base, hi => by
    simp only [VRs] at hv
    obtain ⟨x, xs, rfl, h1, h2⟩ := hv
    simp only [List.all_cons, Bool.and_eq_true] at hc
    simp only [List.length_cons] at hl
    have hlt : b < H.length := by
      rcases Nat.lt_or_ge b H.length with h | h
      · exact h
      · rw [List.getElem?_eq_none h] at hb; cases hb
    obtain ⟨w1, e1, e2, e3⟩ : ∃ w1, (store ((⟨l.blk, base, none⟩ : Addr).add i) x).run P w = .ok () w1 ∧ HRel M (H.set b (some ⟨k.cells.set off v, true⟩)) w1 ∧ Kept X M (H.set b (some ⟨k.cells.set off v, true⟩)) w1 := by
      refine ⟨w.setCell ⟨l.blk, l.off + off, none⟩ x, ?_, h.store hb ho hM off h1, hk.store hb ho (Val.at_out hM).1 off v x⟩
      obtain ⟨l', x', hM', hcell, _⟩ := h.cell hb (j := off) (v := k.cells[off]'(by omega)) (by simp [show off < k.cells.length by omega]) (by rw [hM]; rfl)
      rw [hM] at hM'
      cases hM'
      rw [plain_add, ← hi, run_store P w _ x _ (h1.oneCell hc.1), hcell]
      have hfz : w.frozen? ⟨l.blk, l.off + off, none⟩ = false := by
        obtain ⟨l', hM', arr, elem, fr, g1, g2, g3, g4⟩ := h.blk b k hb (.inr ho) (by rw [hM]; rfl)
        rw [hM] at hM'
        cases hM'
        rw [cell_of_row w _ _ arr elem fr g1] at hcell
        have hlt := (Array.getElem?_eq_some_iff.1 hcell).1
        have := g4 ho
        simp only [World.frozen?, g1]
        simp
        omega
      simp [hfz]
    obtain ⟨w2, g1, g2, g3⟩ := run_st vs xs (H.set b (some ⟨k.cells.set off v, true⟩)) w1 b ⟨k.cells.set off v, true⟩ l (off + 1) e2 e3 (List.getElem?_set_self hlt) rfl hM (by simpa using (by omega : off + 1 + vs.length ≤ k.cells.length)) hc.2 h2 (i + 1) base (by omega)
    refine ⟨w2, ?_, ?_, ?_⟩
    · simp only [storeCells, Sem.run_bind, e1, Result.andThen_ok, g1]
    · rw [List.set_set, setCells_cons hl] at g2
      exact g2
    · rw [List.set_set, setCells_cons hl] at g3
      exact g3
theorem HRel.move {M : Val} {H : Heap} {w : World} (h : HRel M H w) {b : Nat} {k : Blk} {l : Loc} (hb : H[b]? = some (some k)) (ho : k.own = true) (hMa : M.at b = some l) {off n m : Nat} (hn : off + n ≤ k.cells.length)
    (hm : l.off + off + (n + m) ≤ l.size) :
    HRel (M.put H.length ⟨l.blk, l.off + off, l.size, false⟩) (H.set b none ++ [some ⟨(k.cells.drop off).take n ++ List.replicate m .any, true⟩]) w := by
  obtain ⟨hM, hMo⟩ := Val.at_out hMa
  have hlt : b < H.length := by
    rcases Nat.lt_or_ge b H.length with h | h
    · exact h
    · rw [List.getElem?_eq_none h] at hb; cases hb
  have hle : M.le (M.put H.length ⟨l.blk, l.off + off, l.size, false⟩) := Val.le_put (h.dom _ (Nat.le_refl _))
  have key : ∀ (i : Nat) (c : Blk), (H.set b (none : Option Blk) ++ [some ⟨(k.cells.drop off).take n ++ List.replicate m .any, true⟩])[i]? = some (some c) → (i < H.length ∧ i ≠ b ∧ H[i]? = some (some c)) ∨ (i = H.length ∧ c = ⟨(k.cells.drop off).take n ++ List.replicate m .any, true⟩) := by
    intro i c hc
    by_cases hi : i < H.length
    · rw [List.getElem?_append_left (by simpa using hi)] at hc
      by_cases hib : i = b
      · subst hib
        rw [List.getElem?_set_self hi] at hc
        cases hc
      · rw [List.getElem?_set_ne (by omega)] at hc
        exact .inl ⟨hi, hib, hc⟩
    · rw [List.getElem?_append_right (by simpa using (by omega : H.length ≤ i))] at hc
      have hi' : i = H.length := by
        by_cases h0 : i - H.length = 0
        · omega
        · rw [List.getElem?_eq_none (by simp; omega)] at hc; cases hc
      subst hi'
      simp at hc
      exact .inr ⟨rfl, hc.symm⟩
  refine ⟨fun i hi => ?_, fun i c hc => ?_, fun i j c1 c2 l1 l2 h1 ho1 h2 ht2 hij hl1 hl2 => ?_⟩
  · simp at hi
    unfold Val.put
    rw [if_neg (by omega)]
    exact h.dom i (by omega)
  · rcases key i c hc with ⟨h1, _, h3⟩ | ⟨rfl, rfl⟩
    · obtain ⟨l', hl', hB⟩ := h.row i c h3
      exact ⟨l', hle _ _ hl', fun ht => (hB ht).mono hle⟩
    · obtain ⟨l', hl', arr, elem, fr, e1, e2, e3, e4⟩ := h.blk b k hb (.inr ho) (by rw [hMa]; rfl)
      rw [hMa] at hl'
      cases hl'
      refine ⟨⟨l.blk, l.off + off, l.size, false⟩, by simp [Val.put], fun _ => .ofRow ⟨arr, elem, fr, e1, e2, fun j v hv => ?_, fun _ => e4 ho⟩ rfl⟩
      dsimp only at hv ⊢
      by_cases hj : j < n
      · rw [List.getElem?_append_left (by simp; omega)] at hv
        rw [List.getElem?_take, if_pos hj, List.getElem?_drop] at hv
        obtain ⟨x, hx, hvx⟩ := e3 (off + j) v hv
        exact ⟨x, by rw [Nat.add_assoc]; exact hx, hvx.mono hle⟩
      · rw [List.getElem?_append_right (by simp; omega)] at hv
        have hv' := List.getElem?_eq_some_iff.1 hv
        obtain ⟨g1, g2⟩ := hv'
        simp at g1
        rw [List.getElem_replicate] at g2
        subst g2
        have hj2 : j < n + m := by omega
        exact ⟨arr[l.off + off + j]'(by omega), by simp, trivial⟩
  · have hM' : ∀ i l', i < H.length → (M.put H.length ⟨l.blk, l.off + off, l.size, false⟩) i = some l' → M i = some l' := by
      intro i l' hi e
      unfold Val.put at e
      rwa [if_neg (by omega)] at e
    have hnew : ∀ l', (M.put H.length ⟨l.blk, l.off + off, l.size, false⟩) H.length = some l' → l'.blk = l.blk := by
      intro l' e
      simp [Val.put] at e
      subst e
      rfl
    rcases key i c1 h1 with ⟨g1, g2, g3⟩ | ⟨rfl, rfl⟩ <;> rcases key j c2 h2 with ⟨k1, k2, k3⟩ | ⟨rfl, rfl⟩
    · exact h.sep i j c1 c2 l1 l2 g3 ho1 k3 ht2 hij (hM' _ _ g1 hl1) (hM' _ _ k1 hl2)
    · rw [hnew _ hl2]
      exact fun e => h.sep b i k c1 l l1 hb ho g3 (.inr ho1) (fun e' => g2 e'.symm) hM (hM' _ _ g1 hl1) e.symm
    · rw [hnew _ hl1]
      exact h.sep b j k c2 l l2 hb ho k3 ht2 (fun e' => k2 e'.symm) hM (hM' _ _ k1 hl2)
    · exact absurd rfl hij
theorem Kept.move {X : Cx} {M : Val} {H : Heap} {w : World} (hk : Kept X M H w) {b : Nat} {k : Blk} {l : Loc} (hb : H[b]? = some (some k)) (ho : k.own = true) (hM : M b = some l) (o s : Nat) (cs : List AV) :
    Kept X (M.put H.length ⟨l.blk, o, s, false⟩) (H.set b none ++ [some ⟨cs, true⟩]) w where
  os := hk.os
  tape := hk.tape
  output := hk.output
  size := hk.size
  block := hk.block
  own := fun i c l' hc hco hl' => by
    by_cases hi : i < H.length
    · rw [List.getElem?_append_left (by simpa using hi)] at hc
      unfold Val.put at hl'
      rw [if_neg (by omega)] at hl'
      exact (hk.kill b).own i c l' hc hco hl'
    · have hi' : i = H.length := by
        rw [List.getElem?_append_right (by simpa using (by omega : H.length ≤ i))] at hc
        by_cases h0 : i - H.length = 0
        · omega
        · rw [List.getElem?_eq_none (by simp; omega)] at hc; cases hc
      subst hi'
      simp [Val.put] at hl'
      subst hl'
      exact hk.own b k l hb ho hM
  ext := fun i hi => by
    have := hk.len
    unfold Val.put
    rw [if_neg (by omega)]
    exact hk.ext i hi
  len := by have := hk.len; simp; omega
  loc := fun i c l' hc hct hl' => by
    by_cases hi : i < H.length
    · rw [List.getElem?_append_left (by simpa using hi)] at hc
      unfold Val.put at hl'
      rw [if_neg (by omega)] at hl'
      exact (hk.kill b).loc i c l' hc hct hl'
    · have hi' : i = H.length := by
        rw [List.getElem?_append_right (by simpa using (by omega : H.length ≤ i))] at hc
        by_cases h0 : i - H.length = 0
        · omega
        · rw [List.getElem?_eq_none (by simp; omega)] at hc; cases hc
      subst hi'
      simp [Val.put] at hl'
      subst hl'
      exact hk.loc b k l hb (.inr ho) hM
end
end Go.Proofs.Ytaiboicipbhmhaa.Ah
namespace Go.Proofs.Ytaiboicipbhmhaa.Ah
open Go
section
variable {P : Program} {o : Oper}
theorem run_info {t : TypeId} {i : TypeInfo} (h : P.info? t = some i) (w : World) : (typeInfo t).run P w = .ok i w := by simp [typeInfo, h]
theorem run_size {t : TypeId} {n : Nat} (h : (P.info? t).map (·.size) = some n) (w : World) : (sizeOf t).run P w = .ok n w := by
  obtain ⟨i, h1, rfl⟩ := Option.map_eq_some_iff.1 h
  simp [sizeOf, run_info h1]
theorem run_zero {t : TypeId} {z : Value} (h : (P.info? t).bind (·.zero) = some z) (w : World) : (zeroValue t).run P w = .ok z w := by
  obtain ⟨i, h1, h2⟩ := Option.bind_eq_some_iff.1 h
  simp [zeroValue, run_info h1, h2]
def aggB : Option TypeDesc → Bool
  | some (.struct _) | some (.array _ _) => true
  | _ => false
theorem run_isAgg {t : TypeId} {d : TypeDesc} (h : P.underlying t = some d) (w : World) : (isAgg t).run P w = .ok (aggB (some d)) w := by
  simp [isAgg, run_underlying h]
  cases d <;> rfl
theorem s_ld1 {t : TypeId} {x : Operand} (ho : o.op = .load t x) {d : TypeDesc} (hd : P.underlying t = some d) (ha : aggB (some d) = false) {b off : Nat} {k : Blk} {v : AV} {H : Heap} (hb : blkAt H b = some k) (hv : k.cells[off]? = some v) :
    SStep P o [x] [.ptr b off] H v H :=
  .of_pure fun M w a hH hv' => by
    obtain ⟨y, hy, h1⟩ := hv'.one
    have e := map1 hy
    simp only [VR] at h1
    obtain ⟨l, hM, rfl⟩ := h1
    obtain ⟨l', z, hM', hr, hz⟩ := run_ld hH hb hv (by rw [hM]; rfl)
    rw [hM] at hM'
    cases hM'
    exact ⟨z, by simp [execOp, ho, e, Instr.loadAt, Instr.sureAddr, loadVar, run_isAgg hd, ha, hr], hz⟩
theorem s_ldn {t : TypeId} {x : Operand} (ho : o.op = .load t x) {d : TypeDesc} (hd : P.underlying t = some d) (ha : aggB (some d) = true) {n : Nat} (hn : (P.info? t).map (·.size) = some n) {b off : Nat} {cs : List AV} {H : Heap} (hr : rd H b off n = some cs) :
    SStep P o [x] [.ptr b off] H (.agg cs) H :=
  .of_pure fun M w a hH hv' => by
    obtain ⟨y, hy, h1⟩ := hv'.one
    have e := map1 hy
    simp only [VR] at h1
    obtain ⟨l, hM, rfl⟩ := h1
    obtain ⟨l', zs, hM', hr', hz, _⟩ := run_rd (P := P) hH hr (by rw [hM]; rfl)
    rw [hM] at hM'
    cases hM'
    exact ⟨.agg zs.toArray, by simp [execOp, ho, e, Instr.loadAt, Instr.sureAddr, loadVar, run_isAgg hd, ha, run_size hn, hr' w rfl], by simp only [VR]; exact ⟨zs, rfl, hz⟩⟩
theorem step_new {H : Heap} {cs : List AV} {v : AV} {opds : List Operand} {vals : List AV}
    (h : ∀ M w (a : Act), HRel M H w → VRs M vals (opds.map a.eval) → ∃ x xs e, (execOp a.eval o).run P w = .ok (.value x) (w.alloc (.cells (List.toArray xs) e)) ∧ VRs M cs xs ∧ VR (M.put H.length ⟨w.heap.size, 0, xs.length, false⟩) v x) :
    SStep P o opds vals H v (H ++ [some ⟨cs, true⟩]) :=
  .of_run fun M w a hH hv => by
    obtain ⟨x, xs, e, h1, h2, h3⟩ := h M w a hH hv
    exact ⟨.value x, x, _, _, h1, .inl rfl, hH.alloc e h2, (Kept.refl M H w).alloc _ cs _, h3⟩
theorem s_alloc {t : TypeId} (ho : o.op = .alloc t) {z : Value} (hz : (P.info? t).bind (·.zero) = some z) {cs : List AV} (hc : ∀ M, VRs M cs z.cells.toList) (H : Heap) :
    SStep P o [] [] H (.ptr H.length 0) (H ++ [some ⟨cs, true⟩]) :=
  step_new fun M w a hH _ => by
    refine ⟨.pointer (some ⟨w.heap.size, 0, none⟩), z.cells.toList, t, ?_, hc M, ?_⟩
    · simp [execOp, ho, Instr.alloc, run_zero hz, newVar, newRow]
    · simp only [VR]
      exact ⟨_, Val.at_in (if_pos rfl) rfl, rfl⟩
theorem AV.full_ne {v : AV} (h : v.full = true) : v ≠ .any := by
  rintro rfl
  simp [AV.full, AV.cells, AV.cell] at h
theorem s_box {t : TypeId} {x : Operand} (ho : o.op = .box t x) {v : AV} (hv : v.full = true) (H : Heap) : SStep P o [x] [v] H (.ptr H.length 0) (H ++ [some ⟨v.cells, true⟩]) :=
  step_new fun M w a hH hv' => by
    obtain ⟨y, hy, h1⟩ := hv'.one
    have e := map1 hy
    refine ⟨.pointer (some ⟨w.heap.size, 0, none⟩), y.cells.toList, t, ?_, h1.cells (AV.full_ne hv), ?_⟩
    · simp [execOp, ho, e, Instr.box, newVar, newRow]
    · simp only [VR]
      exact ⟨_, Val.at_in (if_pos rfl) rfl, rfl⟩
theorem foldl_set (off : Nat) : ∀ (vs : List Value) (i : Nat) (cs : Array Value), off + i + vs.length ≤ cs.size →
    ((vs.zipIdx i).foldl (fun cs (c, j) => cs.setIfInBounds (off + j) c) cs).toList = cs.toList.take (off + i) ++ vs ++ cs.toList.drop (off + i + vs.length)
  | [], i, cs, _ => by simp
  | v :: vs, i, cs, h => by
    simp only [List.length_cons] at h
    simp only [List.zipIdx_cons, List.foldl_cons]
    rw [foldl_set off vs (i + 1) _ (by simp; omega)]
    have hlt : off + i < cs.size := by omega
    have h1 : (cs.setIfInBounds (off + i) v).toList.take (off + (i + 1)) = cs.toList.take (off + i) ++ [v] := by
      rw [Array.toList_setIfInBounds, show off + (i + 1) = off + i + 1 by omega, List.take_succ_eq_append_getElem (by simpa using hlt)]
      simp [List.take_set_of_le]
    have h2 : (cs.setIfInBounds (off + i) v).toList.drop (off + (i + 1) + vs.length) = cs.toList.drop (off + i + (vs.length + 1)) := by
      rw [Array.toList_setIfInBounds, List.drop_set_of_lt (by omega)]
      congr 1
      omega
    rw [h1, h2]
    simp
theorem VRs.take {M : Val} {vs : List AV} {us : List Value} (h : VRs M vs us) (n : Nat) : VRs M (vs.take n) (us.take n) := by
  have hl := h.length
  refine VRs.mk (by simp [hl]) fun j v hv => ?_
  rw [List.getElem?_take] at hv
  split at hv
  · rename_i hj
    obtain ⟨x, h1, h2⟩ := h.get j v hv
    exact ⟨x, by rw [List.getElem?_take, if_pos hj, h1], h2⟩
  · cases hv
theorem VRs.drop {M : Val} {vs : List AV} {us : List Value} (h : VRs M vs us) (n : Nat) : VRs M (vs.drop n) (us.drop n) := by
  have hl := h.length
  refine VRs.mk (by simp [hl]) fun j v hv => ?_
  rw [List.getElem?_drop] at hv
  obtain ⟨x, h1, h2⟩ := h.get _ v hv
  exact ⟨x, by rw [List.getElem?_drop, h1], h2⟩
theorem fill_lay {M : Val} (place : Nat → Option (Nat × Nat)) : ∀ (ps : List (Nat × Nat)) (vs : List AV) (parts : List (Nat × Value)) (z : List AV) (zv : Array Value) (cs : List AV), lay z ps vs = some cs → VRs M z zv.toList →
    VRs M vs (parts.map (·.2)) → parts.map (fun p => place p.1) = ps.map some → (∀ v ∈ vs, v ≠ .any) → ∃ xs, Instr.fill place zv parts = some xs ∧ VRs M cs xs.toList
  | [], [], parts, z, zv, cs, hl, hz, hv, hp, hf => by
    simp [lay] at hl
    subst hl
    simp at hp
    subst hp
    exact ⟨zv, rfl, hz⟩
  | (off, n) :: ps, v :: vs, [], z, zv, cs, hl, hz, hv, hp, hf => by simp at hp
  | (off, n) :: ps, v :: vs, (i, x) :: parts, z, zv, cs, hl, hz, hv, hp, hf => by
    simp only [lay] at hl
    split at hl
    · rename_i hc
      obtain ⟨hc1, hc2⟩ := hc
      simp only [List.map_cons, VRs] at hv
      obtain ⟨x', xs', he, h1, h2⟩ := hv
      simp only [List.cons.injEq] at he
      obtain ⟨rfl, rfl⟩ := he
      simp only [List.map_cons, List.cons.injEq] at hp
      have hcs := h1.cells (hf v (by simp))
      have hlen : x.cells.size = n := by
        have := hcs.length
        simp at this
        omega
      have hzl : zv.size = z.length := by have := hz.length; simpa using this
      have hfold := foldl_set off x.cells.toList 0 zv (by simp; omega)
      obtain ⟨ys, g1, g2⟩ := fill_lay (M := M) place ps vs parts _ (x.cells.zipIdx.foldl (fun cs (c, j) => cs.setIfInBounds (off + j) c) zv) cs hl (by
        have e1 : (x.cells.zipIdx.foldl (fun cs (c, j) => cs.setIfInBounds (off + j) c) zv).toList = zv.toList.take off ++ x.cells.toList ++ zv.toList.drop (off + n) := by
          rw [← Array.foldl_toList, Array.toList_zipIdx]
          rw [hfold]
          simp [hlen]
        rw [e1]
        exact ((hz.take _).append hcs).append (hz.drop _)) h2 hp.2 (fun u hu => hf u (by simp [hu]))
      refine ⟨ys, ?_, g2⟩
      simp only [Instr.fill, hp.1]
      rw [if_neg (by simp [hlen]; omega)]
      exact g1
    · cases hl
  | [], v :: vs, parts, z, zv, cs, hl, hz, hv, hp, hf => by simp [lay] at hl
  | (off, n) :: ps, [], parts, z, zv, cs, hl, hz, hv, hp, hf => by simp [lay] at hl
def placesOf (P : Program) : List Field → Option (List (Nat × Nat))
  | [] => some []
  | f :: fs => match (P.info? f.type).map (·.size), placesOf P fs with
    | some n, some l => some ((f.offset, n) :: l)
    | _, _ => none
theorem run_placesL : ∀ (fs : List Field) (l : List (Nat × Nat)), placesOf P fs = some l → ∀ w, (fs.mapM (fun f => Prod.mk f.offset <$> sizeOf f.type) : Sem (List (Nat × Nat))).run P w = .ok l w
  | [], l, h, w => by simp [placesOf] at h; subst h; rfl
  | f :: fs, l, h, w => by
    simp only [placesOf] at h
    split at h
    · rename_i n l' h1 h2
      cases h
      simp [List.mapM_cons, run_size h1, run_placesL fs l' h2]
    · cases h
theorem run_places (fs : Array Field) (places : Array (Nat × Nat)) (h : placesOf P fs.toList = some places.toList) (w : World) :
    (fs.mapM (fun f => Prod.mk f.offset <$> sizeOf f.type) : Sem (Array (Nat × Nat))).run P w = .ok places w := by
  rw [Array.mapM_eq_mapM_toList]
  simp [run_placesL _ _ h]
theorem s_buildS {t : TypeId} {parts : Array (Nat × Operand)} (ho : o.op = .build t parts) {fs : Array Field} (hd : P.underlying t = some (.struct fs)) {z : Value} (hz : (P.info? t).bind (·.zero) = some z) {zs : List AV} (hc : ∀ M, VRs M zs z.cells.toList)
    {places : Array (Nat × Nat)} (hp : placesOf P fs.toList = some places.toList)
    {ps : List (Nat × Nat)} (hps : parts.toList.map (fun p => places[p.1]?) = ps.map some) {vs cs : List AV} (hl : lay zs ps vs = some cs) (hf : vs.all AV.full = true) (H : Heap) :
    SStep P o (parts.toList.map (·.2)) vs H (.agg cs) H :=
  .of_pure fun M w a hH hv => by
    obtain ⟨xs, h1, h2⟩ := fill_lay (M := M) (places[·]?) ps vs (parts.toList.map fun p => (p.1, a.eval p.2)) zs z.cells cs hl (hc M) (by simpa [List.map_map, Function.comp_def] using hv) (by simpa [List.map_map, Function.comp_def] using hps) (fun v hv => AV.full_ne (by simpa using List.all_eq_true.1 hf v hv))
    refine ⟨.agg xs, ?_, by simp only [VR]; exact ⟨xs.toList, by simp, h2⟩⟩
    simp [execOp, ho, Instr.build, run_zero hz, run_underlying hd, run_places fs places hp, h1]
theorem s_buildA {t : TypeId} {parts : Array (Nat × Operand)} (ho : o.op = .build t parts) {m : Nat} {e : TypeId} (hd : P.underlying t = some (.array m e)) {z : Value} (hz : (P.info? t).bind (·.zero) = some z) {zs : List AV} (hc : ∀ M, VRs M zs z.cells.toList)
    {n : Nat} (hn : (P.info? e).map (·.size) = some n) {ps : List (Nat × Nat)} (hps : parts.toList.map (fun p => (p.1 * n, n)) = ps) {vs cs : List AV} (hl : lay zs ps vs = some cs) (hf : vs.all AV.full = true) (H : Heap) :
    SStep P o (parts.toList.map (·.2)) vs H (.agg cs) H :=
  .of_pure fun M w a hH hv => by
    obtain ⟨xs, h1, h2⟩ := fill_lay (M := M) (fun i => some (i * n, n)) ps vs (parts.toList.map fun p => (p.1, a.eval p.2)) zs z.cells cs hl (hc M) (by simpa [List.map_map, Function.comp_def] using hv) (by subst hps; simp [List.map_map, Function.comp_def]) (fun v hv => AV.full_ne (by simpa using List.all_eq_true.1 hf v hv))
    refine ⟨.agg xs, ?_, by simp only [VR]; exact ⟨xs.toList, by simp, h2⟩⟩
    simp [execOp, ho, Instr.build, run_zero hz, run_underlying hd, run_size hn, h1]
theorem s_bslice {t : TypeId} {parts : Array (Nat × Operand)} {m : Nat} (ho : o.op = .buildSlice t m parts) {e : TypeId} (hd : P.underlying t = some (.slice e)) {z : Value} (hz : (P.info? e).bind (·.zero) = some z)
    {n : Nat} (hn : (P.info? e).map (·.size) = some n) (hm : m * n ≤ 16777216) {zs : List AV} (hc : ∀ M, VRs M zs ((Array.range (m * n)).map (z.cells[· % z.cells.size]!)).toList)
    {ps : List (Nat × Nat)} (hps : parts.toList.map (fun p => (p.1 * n, n)) = ps) {vs cs : List AV} (hl : lay zs ps vs = some cs) (hlen : cs.length = m * n) (hf : vs.all AV.full = true) (H : Heap) :
    SStep P o (parts.toList.map (·.2)) vs H (.sl H.length 0 m n (some m)) (H ++ [some ⟨cs, true⟩]) :=
  step_new fun M w a hH hv => by
    obtain ⟨xs, h1, h2⟩ := fill_lay (M := M) (fun i => some (i * n, n)) ps vs (parts.toList.map fun p => (p.1, a.eval p.2)) zs ((Array.range (m * n)).map (z.cells[· % z.cells.size]!)) cs hl (hc M) (by simpa [List.map_map, Function.comp_def] using hv) (by subst hps; simp [List.map_map, Function.comp_def]) (fun v hv => AV.full_ne (by simpa using List.all_eq_true.1 hf v hv))
    refine ⟨.slice (some ⟨w.heap.size, 0, none⟩) m m, xs.toList, e, ?_, h2, ?_⟩
    · have h24 : ¬ m * n > 2 ^ 24 := by omega
      by_cases h0 : m * n = 0
      · have hr0 : Array.range 0 = #[] := rfl
        have h1' : Instr.fill (fun i => some (i * n, n)) #[] (parts.toList.map fun p => (p.1, a.eval p.2)) = some xs := by
          rw [h0, hr0] at h1
          simpa using h1
        simp [execOp, ho, Instr.buildSlice, run_underlying hd, run_size hn, h0, newRow, hr0, h1']
      · simp [execOp, ho, Instr.buildSlice, run_underlying hd, run_size hn, h24, h0, run_zero hz, newRow, h1]
    · simp only [VR]
      have hxl : xs.toList.length = m * n := by rw [h2.length, hlen]
      exact ⟨⟨w.heap.size, 0, xs.toList.length, false⟩, Val.at_in (if_pos rfl) rfl, .inl ⟨_, m, rfl, Nat.le_refl _, fun _ => ⟨rfl, by simp only [Nat.zero_add]; omega⟩, fun k hk => by cases hk; rfl⟩⟩
end
end Go.Proofs.Ytaiboicipbhmhaa.Ah
namespace Go.Proofs.Ytaiboicipbhmhaa.Ah
open Go
section
variable {P : Program} {o : Oper}
theorem VRs.all_size {M : Val} {v : AV} {x : Value} (h : VR M v x) (hf : v.full = true) : x.cells.size = v.cells.length := by
  have := (h.cells (AV.full_ne hf)).length
  simpa using this
theorem s_st {t : TypeId} {x y : Operand} (ho : o.op = .store t x y) {n : Nat} (hn : (P.info? t).map (·.size) = some n) {b off : Nat} {k : Blk} {v : AV} {H : Heap} (hb : blkAt H b = some k)
    (hown : k.own = true) (hf : v.full = true) (hlen : v.cells.length = n) (hl : off + n ≤ k.cells.length) :
    SStep P o [x, y] [.ptr b off, v] H (.tup []) (H.set b (some ⟨setCells k.cells off v.cells, true⟩)) :=
  .of_run fun M w a hH hv' => by
    obtain ⟨x', y', hy, h1, h2⟩ := hv'.two
    obtain ⟨e1, e2⟩ := map2 hy
    simp only [VR] at h1
    obtain ⟨l, hM, rfl⟩ := h1
    have hsz := VRs.all_size h2 hf
    obtain ⟨w', g1, g2, g3⟩ := run_st (P := P) v.cells y'.cells.toList H w b k l off hH (Kept.refl M H w) (blkAt_some hb) hown hM (by omega) hf (h2.cells (AV.full_ne hf)) 0 (l.off + off) (by omega)
    refine ⟨.skip, undef, w', M, ?_, .inr ⟨rfl, rfl⟩, g2, g3, by simp only [VR, VRs]; exact ⟨[], rfl, rfl⟩⟩
    have : ¬ y'.cells.size ≠ n := by omega
    simp [execOp, ho, e1, e2, Instr.storeAt, Instr.sureAddr, storeVar, run_size hn, this, g1]
theorem s_nilchk {x : Operand} (ho : o.op = .nilCheck x) (b off : Nat) (H : Heap) : SStep P o [x] [.ptr b off] H (.ptr b off) H :=
  .of_pure fun M w a hH hv => by
    obtain ⟨y, hy, h1⟩ := hv.one
    have e := map1 hy
    have h1' := h1
    simp only [VR] at h1'
    obtain ⟨l, hM, rfl⟩ := h1'
    exact ⟨_, by simp [execOp, ho, e], h1⟩
theorem s_faddr {t : TypeId} {x : Operand} {f : Nat} (ho : o.op = .fieldAddr t x f) {fs : Array Field} (hd : P.underlying t = some (.struct fs)) {fd : Field} (hf : fs[f]? = some fd) {n : Nat} (hn : (P.info? fd.type).map (·.size) = some n) (hn0 : n ≠ 0)
    (b off : Nat) (H : Heap) : SStep P o [x] [.ptr b off] H (.ptr b (off + fd.offset)) H :=
  .of_pure fun M w a hH hv => by
    obtain ⟨y, hy, h1⟩ := hv.one
    have e := map1 hy
    simp only [VR] at h1
    obtain ⟨l, hM, rfl⟩ := h1
    refine ⟨.pointer (some ⟨l.blk, l.off + off + fd.offset, none⟩), ?_, by simp only [VR]; exact ⟨l, hM, by rw [Nat.add_assoc]⟩⟩
    simp [execOp, ho, e, Instr.fieldAt, run_underlying hd, hf, Instr.sureAddr, fieldPlace, run_size hn, hn0, plain_add]
theorem s_iaddrS {t : TypeId} {x i : Operand} (ho : o.op = .indexAddr t x i) {et : TypeId} (hd : P.underlying t = some (.slice et)) {n : Nat} (hn : (P.info? et).map (·.size) = some n)
    (b off len : Nat) (c : Option Nat) (k : IntKind) (j : Int) (h0 : 0 ≤ j) (hj : j < len) (H : Heap) : SStep P o [x, i] [.sl b off len n c, .int k j] H (.ptr b (off + j.toNat * n)) H :=
  .of_pure fun M w a hH hv => by
    obtain ⟨y, z, hy, h1, h2⟩ := hv.two
    obtain ⟨e1, e2⟩ := map2 hy
    simp only [VR] at h1 h2
    subst h2
    obtain ⟨l, hM, ⟨ad, cap, rfl, hc1, hc2, _⟩ | ⟨rfl, _⟩⟩ := h1
    case inr => omega
    obtain ⟨rfl, _⟩ := hc2 (by omega)
    refine ⟨.pointer (some ⟨l.blk, l.off + off + j.toNat * n, none⟩), ?_, by simp only [VR]; exact ⟨l, hM, by rw [Nat.add_assoc]⟩⟩
    simp [execOp, ho, e1, e2, Instr.indexAt, asIntOf, run_underlying hd, h0, hj, run_size hn, plain_add]
theorem s_iaddrA {t : TypeId} {x i : Operand} (ho : o.op = .indexAddr t x i) {m : Nat} {et : TypeId} (hd : P.underlying t = some (.array m et)) {n : Nat} (hn : (P.info? et).map (·.size) = some n)
    (b off : Nat) (k : IntKind) (j : Int) (h0 : 0 ≤ j) (hj : j < m) (H : Heap) : SStep P o [x, i] [.ptr b off, .int k j] H (.ptr b (off + j.toNat * n)) H :=
  .of_pure fun M w a hH hv => by
    obtain ⟨y, z, hy, h1, h2⟩ := hv.two
    obtain ⟨e1, e2⟩ := map2 hy
    simp only [VR] at h1 h2
    subst h2
    obtain ⟨l, hM, rfl⟩ := h1
    refine ⟨.pointer (some ⟨l.blk, l.off + off + j.toNat * n, none⟩), ?_, by simp only [VR]; exact ⟨l, hM, by rw [Nat.add_assoc]⟩⟩
    simp [execOp, ho, e1, e2, Instr.indexAt, asIntOf, run_underlying hd, h0, hj, Instr.sureAddr, run_size hn, plain_add]
theorem s_ext {x : Operand} {i : Nat} (ho : o.op = .extract x i) {vs : List AV} {v : AV} (hv : vs[i]? = some v) (H : Heap) : SStep P o [x] [.tup vs] H v H :=
  .of_pure fun M w a hH hv' => by
    obtain ⟨y, hy, h1⟩ := hv'.one
    have e := map1 hy
    simp only [VR] at h1
    obtain ⟨us, rfl, h2⟩ := h1
    obtain ⟨x', hx, hvx⟩ := h2.get i v hv
    exact ⟨x', by simp [execOp, ho, e, Instr.extract, hx], hvx⟩
theorem s_un {x : Operand} {op : UnOp} {t : TypeId} (ho : o.op = .unOp op t x) {v v' : AV} (H : Heap) (z z' : Value) (hz : ∀ M x, VR M v x → x = z) (hr : ∀ w, (Op.unary op z).run P w = .ok z' w) (hz' : ∀ M, VR M v' z') : SStep P o [x] [v] H v' H :=
  .of_pure fun M w a hH hv' => by
    obtain ⟨y, hy, h1⟩ := hv'.one
    have e := map1 hy
    obtain rfl := hz M y h1
    exact ⟨z', by simp [execOp, ho, e, hr], hz' M⟩
theorem s_conv {x : Operand} {s d : TypeId} (ho : o.op = .convert s d x) {k k0 : IntKind} {ds : TypeDesc} (hs : P.underlying s = some ds) (hd : P.underlying d = some (.int k)) (n : Int) (H : Heap) : SStep P o [x] [.int k0 n] H (.int k (k.wrap n)) H :=
  .of_pure fun M w a hH hv' => by
    obtain ⟨y, hy, h1⟩ := hv'.one
    have e := map1 hy
    simp only [VR] at h1
    subst h1
    refine ⟨.int k (k.wrap n), ?_, rfl⟩
    simp [execOp, ho, e, convert, run_underlying hs, run_underlying hd, Conv.intToInt]
theorem s_mkfn {f : Fn} {xs ys : Array Operand} (ho : o.op = .makeFunc f xs ys) {vs : List AV} (H : Heap) (n : Nat) (hn : n = xs.size) : SStep P o (xs.toList ++ ys.toList) vs H (.fn f (vs.take n) (vs.drop n)) H :=
  .of_pure fun M w a hH hv' => by
    subst hn
    refine ⟨.func f (xs.map a.eval) (ys.map a.eval), by simp [execOp, ho, Instr.makeFunc], ?_⟩
    simp only [VR]
    have h1 := hv'.take xs.size
    have h2 := hv'.drop xs.size
    simp only [List.map_append] at h1 h2
    rw [show (xs.toList.map a.eval ++ ys.toList.map a.eval).take xs.size = xs.toList.map a.eval by rw [List.take_append_of_le_length (by simp), List.take_of_length_le (l := xs.toList.map a.eval) (by simp)]] at h1
    rw [show (xs.toList.map a.eval ++ ys.toList.map a.eval).drop xs.size = ys.toList.map a.eval by rw [List.drop_append_of_le_length (by simp), List.drop_of_length_le (l := xs.toList.map a.eval) (by simp), List.nil_append]] at h2
    exact ⟨_, _, by simp [← Array.toList_map], h1, h2⟩
theorem s_fld1 {t : TypeId} {x : Operand} {f : Nat} (ho : o.op = .field t x f) {fs : Array Field} (hd : P.underlying t = some (.struct fs)) {fd : Field} (hf : fs[f]? = some fd) {d : TypeDesc} (hfd : P.underlying fd.type = some d) (ha : aggB (some d) = false)
    {cs : List AV} {v : AV} (hv : cs[fd.offset]? = some v) (H : Heap) : SStep P o [x] [.agg cs] H v H :=
  .of_pure fun M w a hH hv' => by
    obtain ⟨y, hy, h1⟩ := hv'.one
    have e := map1 hy
    simp only [VR] at h1
    obtain ⟨us, rfl, h2⟩ := h1
    obtain ⟨x', hx, hvx⟩ := h2.get _ v hv
    exact ⟨x', by simp [execOp, ho, e, Instr.field, run_underlying hd, hf, asAgg, part, run_isAgg hfd, ha, hx], hvx⟩
theorem s_fldn {t : TypeId} {x : Operand} {f : Nat} (ho : o.op = .field t x f) {fs : Array Field} (hd : P.underlying t = some (.struct fs)) {fd : Field} (hf : fs[f]? = some fd) {d : TypeDesc} (hfd : P.underlying fd.type = some d) (ha : aggB (some d) = true)
    {n : Nat} (hn : (P.info? fd.type).map (·.size) = some n) {cs : List AV} (H : Heap) : SStep P o [x] [.agg cs] H (.agg ((cs.drop fd.offset).take n)) H :=
  .of_pure fun M w a hH hv' => by
    obtain ⟨y, hy, h1⟩ := hv'.one
    have e := map1 hy
    simp only [VR] at h1
    obtain ⟨us, rfl, h2⟩ := h1
    refine ⟨.agg (us.toArray.extract fd.offset (fd.offset + n)), by simp [execOp, ho, e, Instr.field, run_underlying hd, hf, asAgg, part, run_isAgg hfd, ha, run_size hn], ?_⟩
    simp only [VR]
    refine ⟨(us.drop fd.offset).take n, ?_, (h2.drop _).take _⟩
    rw [List.extract_toArray]
    simp [List.extract_eq_take_drop]
theorem s_idx1 {t : TypeId} {x i : Operand} (ho : o.op = .index t x i) {m : Nat} {et : TypeId} (hd : P.underlying t = some (.array m et)) {d : TypeDesc} (hfd : P.underlying et = some d) (ha : aggB (some d) = false) (hn : (P.info? et).map (·.size) = some 1)
    {cs : List AV} {v : AV} {k : IntKind} {j : Int} (h0 : 0 ≤ j) (hj : j < m) (hv : cs[j.toNat]? = some v) (H : Heap) : SStep P o [x, i] [.agg cs, .int k j] H v H :=
  .of_pure fun M w a hH hv' => by
    obtain ⟨y, z, hy, h1, h2⟩ := hv'.two
    obtain ⟨e1, e2⟩ := map2 hy
    simp only [VR] at h1 h2
    subst h2
    obtain ⟨us, rfl, h2⟩ := h1
    obtain ⟨x', hx, hvx⟩ := h2.get _ v hv
    exact ⟨x', by simp [execOp, ho, e1, e2, Instr.index, asIntOf, run_underlying hd, h0, hj, run_size hn, part, run_isAgg hfd, ha, hx], hvx⟩
theorem s_idxn {t : TypeId} {x i : Operand} (ho : o.op = .index t x i) {m : Nat} {et : TypeId} (hd : P.underlying t = some (.array m et)) {d : TypeDesc} (hfd : P.underlying et = some d) (ha : aggB (some d) = true) {n : Nat} (hn : (P.info? et).map (·.size) = some n)
    {cs : List AV} {k : IntKind} {j : Int} (h0 : 0 ≤ j) (hj : j < m) (H : Heap) : SStep P o [x, i] [.agg cs, .int k j] H (.agg ((cs.drop (j.toNat * n)).take n)) H :=
  .of_pure fun M w a hH hv' => by
    obtain ⟨y, z, hy, h1, h2⟩ := hv'.two
    obtain ⟨e1, e2⟩ := map2 hy
    simp only [VR] at h1 h2
    subst h2
    obtain ⟨us, rfl, h2⟩ := h1
    refine ⟨.agg (us.toArray.extract (j.toNat * n) (j.toNat * n + n)), by simp [execOp, ho, e1, e2, Instr.index, asIntOf, run_underlying hd, h0, hj, run_size hn, part, run_isAgg hfd, ha], ?_⟩
    simp only [VR]
    refine ⟨(us.drop (j.toNat * n)).take n, ?_, (h2.drop _).take _⟩
    rw [List.extract_toArray]
    simp [List.extract_eq_take_drop]
theorem s_len {x : Operand} {t : TypeId} {c : Call} (ho : o.op = .call c) (hc : c = { callee := .builtin .len, args := #[x], argTypes := #[t] }) {et : TypeId} (hd : P.underlying t = some (.slice et)) (v : AV) (n : Nat)
    (hv : ∀ M x, VR M v x → ∃ a c, x = .slice a n c) (H : Heap) : SStep P o [x] [v] H (.int .i64 n) H :=
  .of_pure fun M w a hH hv' => by
    obtain ⟨y, hy, h1⟩ := hv'.one
    have e := map1 hy
    obtain ⟨ad, cp, rfl⟩ := hv M y h1
    subst hc
    exact ⟨.int .i64 n, by simp [execOp, ho, e, resolve, invoke, builtin, Builtin.len_, run_underlying hd, goInt], rfl⟩
theorem s_lenA {x : Operand} {t : TypeId} {c : Call} (ho : o.op = .call c) (hc : c = { callee := .builtin .len, args := #[x], argTypes := #[t] }) {n : Nat} {et : TypeId} (hd : P.underlying t = some (.array n et)) (v : AV) (H : Heap) : SStep P o [x] [v] H (.int .i64 n) H :=
  .of_pure fun M w a hH hv' => by
    obtain ⟨y, hy, h1⟩ := hv'.one
    have e := map1 hy
    subst hc
    exact ⟨.int .i64 n, by simp [execOp, ho, resolve, invoke, builtin, Builtin.len_, run_underlying hd, goInt], rfl⟩
theorem s_cap {x : Operand} {t : TypeId} {c : Call} (ho : o.op = .call c) (hc : c = { callee := .builtin .cap, args := #[x], argTypes := #[t] }) {et : TypeId} (hd : P.underlying t = some (.slice et)) (v : AV) (n : Nat)
    (hv : ∀ M x, VR M v x → ∃ a m, x = .slice a m n) (H : Heap) : SStep P o [x] [v] H (.int .i64 n) H :=
  .of_pure fun M w a hH hv' => by
    obtain ⟨y, hy, h1⟩ := hv'.one
    have e := map1 hy
    obtain ⟨ad, cp, rfl⟩ := hv M y h1
    subst hc
    exact ⟨.int .i64 n, by simp [execOp, ho, e, resolve, invoke, builtin, Builtin.cap_, run_underlying hd, goInt], rfl⟩
theorem s_mnmx {x y : Operand} {t u : TypeId} {c : Call} (ho : o.op = .call c) (mx : Bool) (hc : c = { callee := .builtin (if mx then .max else .min), args := #[x, y], argTypes := #[t, u] }) (k : IntKind) (p q : Int) (H : Heap) :
    SStep P o [x, y] [.int k p, .int k q] H (.int k (if mx then (if q > p then q else p) else (if q < p then q else p))) H :=
  .of_pure fun M w a hH hv' => by
    obtain ⟨y', z', hy, h1, h2⟩ := hv'.two
    obtain ⟨e1, e2⟩ := map2 hy
    simp only [VR] at h1 h2
    subst h1; subst h2; subst hc
    cases mx
    · exact ⟨.int k (if q < p then q else p), by simp [execOp, ho, e1, e2, resolve, invoke, builtin, Builtin.min_, Builtin.min2], rfl⟩
    · exact ⟨.int k (if q > p then q else p), by simp [execOp, ho, e1, e2, resolve, invoke, builtin, Builtin.max_, Builtin.max2], rfl⟩
theorem step_call {opds : List Operand} {vals args : List AV} {H H' : Heap} {v : AV} {f : FuncId} (hc : ACall P f args H v H')
    (hr : ∀ M w (a : Act), HRel M H w → VRs M vals (opds.map a.eval) → ∃ xs, (execOp a.eval o).run P w = .ok (.enter f (List.toArray xs)) w ∧ VRs M args xs) : SStep P o opds vals H v H' := by
  intro hnd M w a hH hv rd next Q hn
  obtain ⟨xs, h1, h2⟩ := hr M w a hH hv
  refine ⟨fun _ _ => trivial, ?_⟩
  rw [Oper.semAt_eq _ _ _ hnd, h1, Oper.uponIn_enter]
  refine ⟨(fun e => by cases e), callsIn_wd ((hc M w xs hH h2).mono ?_)⟩
  rintro e w' ⟨x, M', rfl, g1, g2, g3⟩
  exact hn x M' w' g1 g2 g3
theorem s_yield {g : Operand} {args : Array Operand} {ts : Array TypeId} {c : Call} (ho : o.op = .call c) (hc : c = { callee := .value g, args, argTypes := ts }) {b : Nat} {vals : List AV} {H H' : Heap} {v : AV} (h : AYield P b vals H v H') :
    SStep P o (g :: args.toList) (.yld b :: vals) H v H' := by
  intro hnd M w a hH hv rd next Q hn
  subst hc
  simp only [List.map_cons] at hv
  simp only [VRs] at hv
  obtain ⟨x, us, he, h1, h2⟩ := hv
  simp only [List.cons.injEq] at he
  obtain ⟨e1, rfl⟩ := he
  simp only [VR] at h1
  obtain ⟨l, hM, rfl⟩ := h1
  obtain ⟨fn, tmps, assign, body, g1, g2⟩ := h M w _ l hH h2 hM
  have hr : (execOp a.eval o).run P w = .ok (.round l.blk fn tmps assign body) w := by
    simp only [execOp, ho]
    simp [resolve, e1, Deferred.ofValue, invoke]
    simpa [← Array.toList_map] using g1
  refine ⟨fun _ _ => trivial, ?_⟩
  rw [Oper.semAt_eq _ _ _ hnd, hr, Oper.uponIn_round]
  refine ⟨(fun e => by cases e), (roundIn_wd g2).mono ?_⟩
  rintro e w' ⟨x, M', rfl, k1, k2, k3⟩
  exact hn x M' w' k1 k2 k3
theorem run_enter {f : FuncId} (h : hasBody P f = true) (args : Array Value) (w : World) : (callFunc f args).run P w = .ok (.enter f args) w := by
  unfold hasBody at h
  cases hf : P.funcs[f]? with
  | none => simp [hf] at h
  | some fn =>
    simp only [hf, Bool.and_eq_true, bne_iff_ne, ne_eq] at h
    obtain ⟨h1, h2⟩ := h
    obtain ⟨b, hb⟩ := Option.isSome_iff_exists.1 h2
    simp [callFunc, hf, h1, hb]
theorem s_call {f : FuncId} {args : Array Operand} {ts : Array TypeId} {c : Call} (ho : o.op = .call c) (hc : c = { callee := .value (.func f), args, argTypes := ts }) (hb : hasBody P f = true) {vals : List AV} {H H' : Heap} {v : AV} (h : ACall P f vals H v H') :
    SStep P o args.toList vals H v H' :=
  step_call h fun M w a hH hv => by
    subst hc
    refine ⟨_, ?_, hv⟩
    have : (a.eval (.func f)) = .func (.func f) #[] #[] := rfl
    simp [execOp, ho, resolve, this, Deferred.ofValue, invoke, run_enter hb, ← Array.toList_map]
theorem s_callv {g : Operand} {args : Array Operand} {ts : Array TypeId} {c : Call} (ho : o.op = .call c) (hc : c = { callee := .value g, args, argTypes := ts }) {f : FuncId} (hb : hasBody P f = true) {xs ys vals : List AV} {H H' : Heap} {v : AV} (h : ACall P f (xs ++ vals ++ ys) H v H') :
    SStep P o (g :: args.toList) (.fn (.func f) xs ys :: vals) H v H' :=
  step_call h fun M w a hH hv => by
    subst hc
    simp only [List.map_cons] at hv
    simp only [VRs] at hv
    obtain ⟨x, us, he, h1, h2⟩ := hv
    simp only [List.cons.injEq] at he
    obtain ⟨e1, rfl⟩ := he
    simp only [VR] at h1
    obtain ⟨p, q, rfl, hp, hq⟩ := h1
    refine ⟨p ++ args.toList.map a.eval ++ q, ?_, (hp.append h2).append hq⟩
    simp [execOp, ho, resolve, e1, Deferred.ofValue, invoke, run_enter hb]
end
end Go.Proofs.Ytaiboicipbhmhaa.Ah
namespace Go.Proofs.Ytaiboicipbhmhaa.Ah
open Go
section
variable {P : Program} {o : Oper}
def CutR (P : Program) (n : Nat) (c : Option Nat) (lo hi mx : Option Operand) (vs : List AV) (l h : Nat) (c' : Option Nat) : Prop :=
  ∀ M (a : Act) cap w isSlice, n ≤ cap → (∀ k, c = some k → cap = k) → VRs M vs ((lo.toList ++ hi.toList ++ mx.toList).map a.eval) →
    ∃ m, (Instr.sliceBounds isSlice n cap (lo.map a.eval) (hi.map a.eval) (mx.map a.eval)).run P w = .ok (l, h, m) w ∧ l ≤ h ∧ h ≤ m ∧ m ≤ cap ∧ (∀ k, c' = some k → m - l = k)
theorem run_bound (k : IntKind) (i : Int) (y : Nat) (code : BoundsCode) (h0 : 0 ≤ i) (h1 : i ≤ y) (w : World) : (Instr.sliceBound (.int k i) y code).run P w = .ok i.toNat w := by
  simp [Instr.sliceBound, asIntOf, h0, h1]
theorem cut_sound {n : Nat} {c : Option Nat} {lo hi mx : Option Operand} {vs : List AV} {K : Nat → Nat → Option Nat → Prop} (hc : cut n c lo.isSome hi.isSome mx.isSome vs K) :
    ∃ l h c', K l h c' ∧ h ≤ n ∧ CutR P n c lo hi mx vs l h c' := by
  cases lo <;> cases hi <;> cases mx <;> simp only [Option.isSome_none, Option.isSome_some, cut] at hc
  · obtain ⟨rfl, hc⟩ := a0_out hc
    refine ⟨_, _, _, hc, Nat.le_refl _, ?_⟩
    intro M a cap w s hn hk hv
    exact ⟨cap, by simp [Instr.sliceBounds], by omega, by omega, by omega, fun k hk' => by have := hk k hk'; omega⟩
  · obtain ⟨x, rfl, hc⟩ := a1_out hc
    obtain ⟨kk, hI, rfl, hc⟩ := isI_out hc
    obtain ⟨h1, h2, h3⟩ := hc
    refine ⟨_, _, _, h3, by omega, ?_⟩
    intro M a cap w s hn hk hv
    obtain ⟨y, hy, hv1⟩ := VRs.one hv
    have e := map1 hy
    simp only [VR] at hv1
    subst hv1
    refine ⟨cap, ?_, by omega, by omega, by omega, fun k hk' => by have := hk k hk'; omega⟩
    simp [Instr.sliceBounds, e]
    rw [run_bound _ _ _ _ h1 (by omega)]
    simp
  · obtain ⟨x, y, rfl, hc⟩ := a2_out hc
    obtain ⟨kk, hI, rfl, hc⟩ := isI_out hc
    obtain ⟨kk', mI, rfl, hc⟩ := isI_out hc
    obtain ⟨h1, h2, h3, h4⟩ := hc
    refine ⟨_, _, _, h4, by omega, ?_⟩
    intro M a cap w s hn hk hv
    obtain ⟨y, z, hy, hv1, hv2⟩ := VRs.two hv
    obtain ⟨e1, e2⟩ := map2 hy
    simp only [VR] at hv1 hv2
    subst hv1; subst hv2
    refine ⟨mI.toNat, ?_, by omega, by omega, by omega, fun k hk' => by cases hk'; omega⟩
    simp [Instr.sliceBounds, e1, e2]
    rw [run_bound _ _ _ _ (by omega) (by omega)]
    simp
    rw [run_bound _ _ _ _ (by omega) (by omega)]
    simp
  · obtain ⟨x, rfl, hc⟩ := a1_out hc
    obtain ⟨kk, lI, rfl, hc⟩ := isI_out hc
    obtain ⟨h1, h2, h3⟩ := hc
    refine ⟨_, _, _, h3, by omega, ?_⟩
    intro M a cap w s hn hk hv
    obtain ⟨y, hy, hv1⟩ := VRs.one hv
    have e := map1 hy
    simp only [VR] at hv1
    subst hv1
    refine ⟨cap, ?_, by omega, by omega, by omega, fun k hk' => by
      cases c with
      | none => cases hk'
      | some k0 => have := hk k0 rfl; simp at hk'; omega⟩
    simp [Instr.sliceBounds, e]
    rw [run_bound _ _ _ _ h1 (by omega)]
    simp
  · obtain ⟨x, y, rfl, hc⟩ := a2_out hc
    obtain ⟨kk, lI, rfl, hc⟩ := isI_out hc
    obtain ⟨kk', hI, rfl, hc⟩ := isI_out hc
    obtain ⟨h1, h2, h3, h4⟩ := hc
    refine ⟨_, _, _, h4, by omega, ?_⟩
    intro M a cap w s hn hk hv
    obtain ⟨y, z, hy, hv1, hv2⟩ := VRs.two hv
    obtain ⟨e1, e2⟩ := map2 hy
    simp only [VR] at hv1 hv2
    subst hv1; subst hv2
    refine ⟨cap, ?_, by omega, by omega, by omega, fun k hk' => by
      cases c with
      | none => cases hk'
      | some k0 => have := hk k0 rfl; simp at hk'; omega⟩
    simp [Instr.sliceBounds, e1, e2]
    rw [run_bound _ _ _ _ (by omega) (by omega)]
    simp
    rw [run_bound _ _ _ _ (by omega) (by omega)]
    simp
  · obtain ⟨x, y, z, rfl, hc⟩ := a3_out hc
    obtain ⟨kk, lI, rfl, hc⟩ := isI_out hc
    obtain ⟨kk', hI, rfl, hc⟩ := isI_out hc
    obtain ⟨kk'', mI, rfl, hc⟩ := isI_out hc
    obtain ⟨h1, h2, h3, h4, h5⟩ := hc
    refine ⟨_, _, _, h5, by omega, ?_⟩
    intro M a cap w s hn hk hv
    obtain ⟨y, z, u, hy, hv1, hv2, hv3⟩ := VRs.three hv
    obtain ⟨e1, e2, e3⟩ := map3 hy
    simp only [VR] at hv1 hv2 hv3
    subst hv1; subst hv2; subst hv3
    refine ⟨mI.toNat, ?_, by omega, by omega, by omega, fun k hk' => by cases hk'; omega⟩
    simp [Instr.sliceBounds, e1, e2, e3]
    rw [run_bound _ _ _ _ (by omega) (by omega)]
    simp
    rw [run_bound _ _ _ _ (by omega) (by omega)]
    simp
    rw [run_bound _ _ _ _ (by omega) (by omega)]
    simp
theorem s_slice {t : TypeId} {x : Operand} {lo hi mx : Option Operand} (ho : o.op = .slice t x lo hi mx) {et : TypeId} (hd : P.underlying t = some (.slice et)) {sz : Nat} (hn : (P.info? et).map (·.size) = some sz)
    (b off n : Nat) (c c' : Option Nat) (vs : List AV) (l h : Nat) (hc : CutR P n c lo hi mx vs l h c') (H : Heap) :
    SStep P o (x :: (lo.toList ++ hi.toList ++ mx.toList)) (.sl b off n sz c :: vs) H (.sl b (off + l * sz) (h - l) sz (if n = 0 ∧ c = none then none else c')) H :=
  .of_pure fun M w a hH hv => by
    rw [List.map_cons] at hv
    simp only [VRs] at hv
    obtain ⟨y, ys, he, h1, h2⟩ := hv
    simp only [List.cons.injEq] at he
    obtain ⟨e, rfl⟩ := he
    simp only [VR] at h1
    obtain ⟨loc, hM, ⟨ad, cap, rfl, g1, g2, g3⟩ | ⟨rfl, g3, rfl⟩⟩ := h1
    case inr =>
      obtain ⟨m, hr, k1, k2, k3, k4⟩ := hc M a 0 w true (Nat.le_refl _) (fun k hk => by rw [g3] at hk; cases hk) h2
      have hm : m = 0 := by omega
      have hl : l = 0 := by omega
      have hh : h = 0 := by omega
      subst hm hl hh
      refine ⟨.slice none 0 0, ?_, by simp only [VR]; exact ⟨loc, hM, .inr ⟨by first | trivial | rfl, by simp [g3], by first | trivial | rfl⟩⟩⟩
      simp [execOp, ho, e, Instr.sliceAt, run_underlying hd, Instr.slice, run_size hn]
      rw [hr]
      simp
    obtain ⟨m, hr, k1, k2, k3, k4⟩ := hc M a cap w true g1 g3 h2
    refine ⟨.slice (if m = l then some ad else some (ad.add (l * sz))) (h - l) (m - l), ?_, ?_⟩
    · simp [execOp, ho, e, Instr.sliceAt, run_underlying hd, Instr.slice, run_size hn]
      rw [hr]
      simp
    · replace k4 : ∀ k, (if n = 0 ∧ c = none then none else c') = some k → m - l = k := by
        intro k hk
        split at hk
        · cases hk
        · exact k4 k hk
      simp only [VR]
      by_cases hml : m = l
      · rw [if_pos hml]
        exact ⟨loc, hM, .inl ⟨ad, m - l, rfl, by omega, fun h0 => by omega, k4⟩⟩
      · rw [if_neg hml]
        obtain ⟨rfl, g4⟩ := g2 (by omega)
        refine ⟨loc, hM, .inl ⟨_, m - l, rfl, by omega, fun h0 => ⟨by rw [plain_add, Nat.add_assoc], ?_⟩, k4⟩⟩
        have : (m - l) * sz + l * sz = m * sz := by rw [← Nat.add_mul]; congr 1; omega
        have : m * sz ≤ cap * sz := Nat.mul_le_mul_right _ k3
        omega
theorem s_sliceN {t : TypeId} {x : Operand} {lo hi mx : Option Operand} (ho : o.op = .slice t x lo hi mx) {et : TypeId} (hd : P.underlying t = some (.slice et)) {sz : Nat} (hn : (P.info? et).map (·.size) = some sz)
    (c' : Option Nat) (vs : List AV) (l h : Nat) (hc : CutR P 0 (some 0) lo hi mx vs l h c') (H : Heap) :
    SStep P o (x :: (lo.toList ++ hi.toList ++ mx.toList)) (.nils :: vs) H .nils H :=
  .of_pure fun M w a hH hv => by
    rw [List.map_cons] at hv
    simp only [VRs] at hv
    obtain ⟨y, ys, he, h1, h2⟩ := hv
    simp only [List.cons.injEq] at he
    obtain ⟨e, rfl⟩ := he
    simp only [VR] at h1
    subst h1
    obtain ⟨m, hr, k1, k2, k3, k4⟩ := hc M a 0 w true (Nat.le_refl _) (fun k hk => by cases hk; rfl) h2
    refine ⟨.slice none 0 0, ?_, rfl⟩
    simp [execOp, ho, e, Instr.sliceAt, run_underlying hd, Instr.slice, run_size hn]
    rw [hr]
    have hm : m = 0 := by omega
    have hl : l = 0 := by omega
    have hh : h = 0 := by omega
    subst hm hl hh
    simp
theorem s_aslice {t : TypeId} {x : Operand} {lo hi mx : Option Operand} (ho : o.op = .slice t x lo hi mx) {n : Nat} {et : TypeId} (hd : P.underlying t = some (.array n et)) {sz : Nat} (hn : (P.info? et).map (·.size) = some sz)
    (b off : Nat) (c' : Option Nat) (vs : List AV) (l h : Nat) (hc : CutR P n (some n) lo hi mx vs l h c') (H : Heap) (hb : off + n * sz ≤ ((blkAt H b).map (·.cells.length)).getD 0) (hb0 : (blkAt H b).isSome = true) (hsz : sz ≠ 0) :
    SStep P o (x :: (lo.toList ++ hi.toList ++ mx.toList)) (.ptr b off :: vs) H (.sl b (off + l * sz) (h - l) sz c') H :=
  .of_pure fun M w a hH hv => by
    rw [List.map_cons] at hv
    simp only [VRs] at hv
    obtain ⟨y, ys, he, h1, h2⟩ := hv
    simp only [List.cons.injEq] at he
    obtain ⟨e, rfl⟩ := he
    simp only [VR] at h1
    obtain ⟨loc, hM, rfl⟩ := h1
    obtain ⟨m, hr, k1, k2, k3, k4⟩ := hc M a n w false (Nat.le_refl _) (fun k hk => by cases hk; rfl) h2
    refine ⟨.slice (some (if m = l then ⟨loc.blk, loc.off + off, none⟩ else (⟨loc.blk, loc.off + off, none⟩ : Addr).add (l * sz))) (h - l) (m - l), ?_, ?_⟩
    · simp [execOp, ho, e, Instr.sliceAt, run_underlying hd, Instr.sureAddr, run_size hn]
      rw [hr]
      simp
    · simp only [VR]
      refine ⟨loc, hM, .inl ⟨_, m - l, rfl, by omega, fun h0 => ⟨by rw [if_neg (by omega), plain_add, Nat.add_assoc], ?_⟩, k4⟩⟩
      obtain ⟨k, hk⟩ := Option.isSome_iff_exists.1 hb0
      have hkc : k.cells ≠ [] := by
        intro e0
        rw [hk] at hb
        simp [e0] at hb
        have h8 : n = 0 := by
          rcases Nat.eq_zero_or_pos n with h | h
          · exact h
          · have := Nat.mul_pos h (Nat.pos_of_ne_zero hsz)
            omega
        omega
      obtain ⟨loc', hM', arr, elem, fr, q1, q2, q3, q4⟩ := hH.blk b k (blkAt_some hk) (.inl hkc) (by rw [hM]; rfl)
      rw [hM] at hM'
      cases hM'
      have hlen : loc.off + k.cells.length ≤ loc.size ∨ k.cells.length = 0 := by
        by_cases hz : k.cells.length = 0
        · exact .inr hz
        · left
          obtain ⟨x, hx, _⟩ := q3 (k.cells.length - 1) (k.cells[k.cells.length - 1]'(by omega)) (by simp)
          have := (Array.getElem?_eq_some_iff.1 hx).1
          omega
      rw [hk] at hb
      simp at hb
      have h5 : (m - l) * sz + l * sz = m * sz := by rw [← Nat.add_mul]; congr 1; omega
      have h6 : m * sz ≤ n * sz := Nat.mul_le_mul_right _ k3
      rcases hlen with hlen | hlen
      · omega
      · have : n * sz = 0 := by omega
        have h7 : off = 0 := by omega
        have h8 : n = 0 := by rcases Nat.mul_eq_zero.1 this with h | h <;> omega
        omega
end
end Go.Proofs.Ytaiboicipbhmhaa.Ah
namespace Go.Proofs.Ytaiboicipbhmhaa.Ah
open Go
theorem Blk.tells_of {b b' : Blk} (h : b'.own = true → b.own = true) (hc : ∀ (j : Nat) (v : AV), b'.cells[j]? = some v → b.cells[j]? = some v) (ht : b'.tells) : b.tells := by
  rcases ht with ht | ht
  · left
    intro e
    cases hb : b'.cells with
    | nil => exact ht hb
    | cons v r =>
      have := hc 0 v (by rw [hb]; rfl)
      rw [e] at this
      cases this
  · exact .inr (h ht)
theorem HRel.weaken {M : Val} {H H' : Heap} {w : World} (h : HRel M H w) (hl : H'.length = H.length)
    (hw : ∀ (i : Nat) (b' : Blk), H'[i]? = some (some b') → ∃ b : Blk, H[i]? = some (some b) ∧ (b'.own = true → b.own = true) ∧ ∀ (j : Nat) (v : AV), b'.cells[j]? = some v → b.cells[j]? = some v) : HRel M H' w := by
  refine ⟨fun i hi => h.dom i (by omega), fun i b' hb' => ?_, fun i j b c l l' h1 ho h2 ht2 hij hl1 hl2 => ?_⟩
  · obtain ⟨b, hb, ho, hc⟩ := hw i b' hb'
    obtain ⟨l, hM, hB⟩ := h.row i b hb
    refine ⟨l, hM, fun ht => ?_⟩
    have hB := hB (Blk.tells_of ho hc ht)
    by_cases hob : l.obj = true
    · refine BRel.ofOb ?_ hob
      have h0 := hB.ob hob
      have one : ∀ x, b.cells = [x] → b'.cells = [] ∨ b'.cells = [x] := by
        intro x hx
        cases hb' : b'.cells with
        | nil => exact .inl rfl
        | cons y r =>
          have h1 := hc 0 y (by rw [hb']; rfl)
          rw [hx] at h1
          simp at h1
          subst h1
          cases r with
          | nil => exact .inr rfl
          | cons z r =>
            have h2 := hc 1 z (by rw [hb']; rfl)
            rw [hx] at h2
            simp at h2
      have lt := hB.nodef
      unfold ObjR at h0 ⊢
      split at h0
      · rename_i hcs
        rcases one _ hcs with h2 | h2 <;> rw [h2]
        · exact lt
        · exact h0
      · rename_i hcs
        rcases one _ hcs with h2 | h2 <;> rw [h2]
        · exact lt
        · exact h0
      · rename_i hcs
        have h2 : b'.cells = [] := by
          cases hb' : b'.cells with
          | nil => rfl
          | cons y r =>
            have h1 := hc 0 y (by rw [hb']; rfl)
            rw [hcs] at h1
            cases h1
        rw [h2]
        exact lt
      · exact h0.elim
    have hob : l.obj = false := by simpa using hob
    obtain ⟨arr, elem, fr, e1, e2, e3, e4⟩ := hB.row hob
    exact .ofRow ⟨arr, elem, fr, e1, e2, fun j v hv => e3 j v (hc j v hv), fun g => e4 (ho g)⟩ hob
  · obtain ⟨b1, g1, g2, _⟩ := hw i b h1
    obtain ⟨b2, g3, g4, g5⟩ := hw j c h2
    exact h.sep i j b1 b2 l l' g1 (g2 ho) g3 (Blk.tells_of g4 g5 ht2) hij hl1 hl2
theorem Kept.weaken {X : Cx} {M : Val} {H H' : Heap} {w : World} (hk : Kept X M H w) (hl : H'.length = H.length)
    (hw : ∀ (i : Nat) (b' : Blk), H'[i]? = some (some b') → b'.own = true → ∃ b : Blk, H[i]? = some (some b) ∧ b.own = true)
    (hv : ∀ (i : Nat) (b' : Blk), H'[i]? = some (some b') → b'.tells → ∃ b : Blk, H[i]? = some (some b) ∧ b.tells) : Kept X M H' w where
  os := hk.os
  tape := hk.tape
  output := hk.output
  size := hk.size
  block := hk.block
  own := fun i b l h1 h2 h3 => by
    obtain ⟨b', g1, g2⟩ := hw i b h1 h2
    exact hk.own i b' l g1 g2 h3
  ext := hk.ext
  len := by have := hk.len; omega
  loc := fun i b l h1 h2 h3 => by
    obtain ⟨b', g1, g2⟩ := hv i b h1 h2
    exact hk.loc i b' l g1 g2 h3
theorem get_snoc {H : Heap} {x : Option Blk} {i : Nat} {b : Blk} (h : (H ++ [x])[i]? = some (some b)) : (i < H.length ∧ H[i]? = some (some b)) ∨ (i = H.length ∧ x = some b) := by
  by_cases hi : i < H.length
  · rw [List.getElem?_append_left hi] at h
    exact .inl ⟨hi, h⟩
  · rw [List.getElem?_append_right (by omega)] at h
    have hi' : i = H.length := by
      by_cases h0 : i - H.length = 0
      · omega
      · rw [List.getElem?_eq_none (by simp; omega)] at h; cases h
    subst hi'
    simp at h
    exact .inr ⟨rfl, h⟩
theorem HRel.shrink {M : Val} {H : Heap} {w : World} {cs ds : List AV} (h : HRel M (H ++ [some ⟨cs ++ ds, true⟩]) w) : HRel M (H ++ [some ⟨cs, true⟩]) w := by
  refine h.weaken (by simp) fun i b' hb' => ?_
  rcases get_snoc hb' with ⟨h1, h2⟩ | ⟨rfl, h2⟩
  · exact ⟨b', by rw [List.getElem?_append_left h1]; exact h2, id, fun _ _ h => h⟩
  · cases h2
    refine ⟨⟨cs ++ ds, true⟩, by simp, id, fun j v hv => ?_⟩
    dsimp only at hv ⊢
    rw [List.getElem?_append_left (List.getElem?_eq_some_iff.1 hv).1]
    exact hv
theorem Kept.shrink {X : Cx} {M : Val} {H : Heap} {w : World} {cs ds : List AV} (h : Kept X M (H ++ [some ⟨cs ++ ds, true⟩]) w) : Kept X M (H ++ [some ⟨cs, true⟩]) w := by
  refine h.weaken (by simp) (fun i b' hb' ho => ?_) fun i b' hb' ht => ?_
  · rcases get_snoc hb' with ⟨h1, h2⟩ | ⟨rfl, h2⟩
    · exact ⟨b', by rw [List.getElem?_append_left h1]; exact h2, ho⟩
    · exact ⟨⟨cs ++ ds, true⟩, by simp, rfl⟩
  · rcases get_snoc hb' with ⟨h1, h2⟩ | ⟨rfl, h2⟩
    · exact ⟨b', by rw [List.getElem?_append_left h1]; exact h2, ht⟩
    · exact ⟨⟨cs ++ ds, true⟩, by simp, .inr rfl⟩
theorem HRel.drew {M : Val} {H : Heap} {w : World} (h : HRel M H w) : HRel M H w.drew := h.of_heap rfl
section
variable {P : Program} {o : Oper}
def Firsts (P : Program) (sz : Nat) (x : Value) (n : Nat) (nw : List Value) (w : World) : Prop :=
  (∀ wd : World, (Builtin.lenOf x).run P wd = .ok n wd) ∧ ∀ wd : World, wd.heap = w.heap → (Builtin.firstCells sz n x).run P wd = .ok nw.toArray wd
theorem firsts {M : Val} {H : Heap} {w : World} (h : HRel M H w) {x : AV} {cs : List AV} {n sz : Nat} (hr : rdS H x = some (cs, n)) (hs : ∀ b off k s c, x = .sl b off k s c → s = sz) {y : Value} (hy : VR M x y) :
    ∃ nw, Firsts P sz y n nw w ∧ VRs M cs nw ∧ nw.length = n * sz := by
  cases x with
  | nils =>
    simp only [rdS, Option.some.injEq, Prod.mk.injEq] at hr
    obtain ⟨rfl, rfl⟩ := hr
    simp only [VR] at hy
    subst hy
    exact ⟨[], ⟨fun wd => by simp [Builtin.lenOf], fun wd _ => by simp [Builtin.firstCells]⟩, by simp [VRs], by simp⟩
  | sl b off k s c =>
    obtain rfl := hs _ _ _ _ _ rfl
    simp only [rdS] at hr
    obtain ⟨cs', h1, h2⟩ := Option.map_eq_some_iff.1 hr
    simp only [Prod.mk.injEq] at h2
    obtain ⟨rfl, rfl⟩ := h2
    simp only [VR] at hy
    obtain ⟨l', xs, hM', hrun, hv, hl⟩ := run_rd (P := P) h h1 (by obtain ⟨l, hM, _⟩ := hy; rw [hM]; rfl)
    obtain ⟨l, hM, ⟨ad, cap, rfl, g1, g2, g3⟩ | ⟨rfl, _, rfl⟩⟩ := hy
    case inr =>
      simp at hl
      subst hl
      exact ⟨[], ⟨fun wd => by simp [Builtin.lenOf], fun wd _ => by simp [Builtin.firstCells]⟩, hv, by simp⟩
    rw [hM] at hM'
    cases hM'
    by_cases hk : k = 0
    · subst hk
      simp at hl
      subst hl
      exact ⟨[], ⟨fun wd => by simp [Builtin.lenOf], fun wd _ => by simp [Builtin.firstCells, loadCells, loadCellsFrom]⟩, hv, by simp⟩
    · obtain ⟨rfl, _⟩ := g2 (by omega)
      refine ⟨xs, ⟨fun wd => by simp [Builtin.lenOf], fun wd hwd => ?_⟩, hv, hl⟩
      simpa [Builtin.firstCells] using hrun wd hwd
  | _ => simp [rdS] at hr
theorem run_append_in {t u e e' : TypeId} (ht : P.underlying t = some (.slice e)) (hu : P.underlying u = some (.slice e')) {sz : Nat} (hs : (P.info? e).map (·.size) = some sz) (ty : TypeId)
    {base : Option Addr} {n cap m : Nat} {y : Value} {nw : List Value} {w : World} (hy : Firsts P sz y m nw w) (hc : n + m ≤ cap) :
    (Builtin.append_ #[t, u] ty #[.slice base n cap, y]).run P w = match base with
      | some a => ((storeCells (a.add (n * sz)) nw).run P w).andThen fun _ w' => .ok (.slice base (n + m) cap) w'
      | none => .ok (.slice base (n + m) cap) w := by
  obtain ⟨h1, h2⟩ := hy
  have h2' := h2 w rfl
  cases base <;> simp [Builtin.append_, run_underlying ht, run_underlying hu, run_size hs, h1, h2', hc]
theorem run_append_out {t u e e' : TypeId} (ht : P.underlying t = some (.slice e)) (hu : P.underlying u = some (.slice e')) {i : TypeInfo} (hi : P.info? e = some i) {z : Value} (hz : i.zero = some z) (hb : i.bytes ≠ 0) (ty : TypeId)
    {base : Option Addr} {n cap m : Nat} {y : Value} {old nw : List Value} {w : World} (hy : Firsts P i.size y m nw w) (hold : Firsts P i.size (.slice base n cap) n old w) (hc : cap < n + m) (hl : (n + m) * i.bytes ≤ 140737488355328) :
    ∃ c, n + m ≤ c ∧ (Builtin.append_ #[t, u] ty #[.slice base n cap, y]).run P w = .ok (.slice (some ⟨w.heap.size, 0, none⟩) (n + m) c) (w.drew.alloc (.cells (old ++ nw ++ (Builtin.zeroCells z.cells (c - (n + m))).toList).toArray e)) := by
  obtain ⟨h1, h2⟩ := hy
  refine ⟨(Question.appendCap (n + m) cap e).cut (w.tape w.drawn (.appendCap (n + m) cap e)), by simp [Question.cut], ?_⟩
  have h3 : ¬ n + m ≤ cap := by omega
  have h4 : ¬ 281474976710656 < Builtin.nextslicecap (n + m) cap * i.bytes := by have := growslice_fits hc hl; omega
  have h6 := h2 w.drew rfl
  have h7 := hold.2 w.drew rfl
  have ha : ∀ c : Nat, old.toArray ++ (nw.toArray ++ Builtin.zeroCells z.cells c) = (old ++ (nw ++ (Builtin.zeroCells z.cells c).toList)).toArray := fun c => by apply Array.ext'; simp
  simp [Builtin.append_, run_underlying ht, run_underlying hu, sizeOf, run_info hi, zeroValue, hz, h1, h3, h4, hb, Question.forced, h6, h7, newRow, ha]
end
end Go.Proofs.Ytaiboicipbhmhaa.Ah
namespace Go.Proofs.Ytaiboicipbhmhaa.Ah
open Go
section
variable {P : Program} {o : Oper}
theorem rdS_len {H : Heap} {x : AV} {cs : List AV} {n sz : Nat} (hr : rdS H x = some (cs, n)) (hs : ∀ b off k s c, x = .sl b off k s c → s = sz) : cs.length = n * sz := by
  cases x with
  | nils => simp [rdS] at hr; obtain ⟨rfl, rfl⟩ := hr; simp
  | sl b off k s c =>
    obtain rfl := hs _ _ _ _ _ rfl
    simp only [rdS] at hr
    obtain ⟨cs', h1, h2⟩ := Option.map_eq_some_iff.1 hr
    simp only [Prod.mk.injEq] at h2
    obtain ⟨rfl, rfl⟩ := h2
    obtain ⟨_, _, _, _, h⟩ := rd_some h1
    exact h
  | _ => simp [rdS] at hr
theorem exec_append {x y : Operand} {t u : TypeId} {c : Call} (ho : o.op = .call c) (hc : c = { callee := .builtin .append, args := #[x, y], argTypes := #[t, u] }) (a : Act) (w : World) :
    (execOp a.eval o).run P w = ((Builtin.append_ #[t, u] o.type #[a.eval x, a.eval y]).run P w).andThen fun v w' => .ok (.value v) w' := by
  subst hc
  simp [execOp, ho, resolve, invoke, builtin]
theorem s_app0 {x y : Operand} {t u : TypeId} {c : Call} (ho : o.op = .call c) (hc : c = { callee := .builtin .append, args := #[x, y], argTypes := #[t, u] }) {e e' : TypeId} (ht : P.underlying t = some (.slice e)) (hu : P.underlying u = some (.slice e'))
    {sz : Nat} (hs : (P.info? e).map (·.size) = some sz) {s v : AV} (hv : ∀ M z, VR M s z → ∃ ad n cap, z = .slice ad n cap ∧ n ≤ cap) {cs : List AV} {H : Heap} (hr : rdS H v = some (cs, 0)) (hsv : ∀ b off k s c, v = .sl b off k s c → s = sz) :
    SStep P o [x, y] [s, v] H s H :=
  .of_pure fun M w a hH hv' => by
    obtain ⟨x', y', hy, h1, h2⟩ := hv'.two
    obtain ⟨e1, e2⟩ := map2 hy
    obtain ⟨ad, n, cap, rfl, hn⟩ := hv M x' h1
    obtain ⟨nw, hf, _, hl⟩ := firsts (P := P) hH hr hsv h2
    have hl' : nw = [] := by simpa using hl
    subst hl'
    refine ⟨.slice ad n cap, ?_, h1⟩
    rw [exec_append ho hc, e1, e2, run_append_in ht hu hs o.type hf (by omega)]
    cases ad <;> simp [storeCells]
theorem s_appN {x y : Operand} {t u : TypeId} {c : Call} (ho : o.op = .call c) (hc : c = { callee := .builtin .append, args := #[x, y], argTypes := #[t, u] }) {e e' : TypeId} (ht : P.underlying t = some (.slice e)) (hu : P.underlying u = some (.slice e'))
    {i : TypeInfo} (hi : P.info? e = some i) {z : Value} (hz : i.zero = some z) (hzs : z.cells.size = i.size) (hb : i.bytes ≠ 0) {s v : AV} {old nw : List AV} {n m : Nat} {H : Heap} (hro : rdS H s = some (old, n)) (hr : rdS H v = some (nw, m))
    (hss : ∀ b off k s' c, s = .sl b off k s' c → s' = i.size) (hsv : ∀ b off k s c, v = .sl b off k s c → s = i.size) (hcap : ∀ M z, VR M s z → ∃ ad cap, z = .slice ad n cap ∧ cap < n + m) (hl : (n + m) * i.bytes ≤ 140737488355328) :
    SStep P o [x, y] [s, v] H (.sl H.length 0 (n + m) i.size none) (H ++ [some ⟨old ++ nw, true⟩]) :=
  .of_run fun M w a hH hv' => by
    obtain ⟨x', y', hy, h1, h2⟩ := hv'.two
    obtain ⟨e1, e2⟩ := map2 hy
    obtain ⟨ad, cap, rfl, hcp⟩ := hcap M x' h1
    obtain ⟨ov, hfo, hvo, hlo⟩ := firsts (P := P) hH hro hss h1
    obtain ⟨nv, hfn, hvn, hln⟩ := firsts (P := P) hH hr hsv h2
    obtain ⟨c', hc1, hrun⟩ := run_append_out (P := P) ht hu hi hz hb o.type hfn hfo hcp hl
    have hzc : (Builtin.zeroCells z.cells (c' - (n + m))).toList.length = (c' - (n + m)) * i.size := by simp [Builtin.zeroCells, hzs]
    have hvr : VRs M (old ++ nw ++ List.replicate ((c' - (n + m)) * i.size) .any) (ov ++ nv ++ (Builtin.zeroCells z.cells (c' - (n + m))).toList) := by
      refine (hvo.append hvn).append (VRs.mk (by simp only [hzc, List.length_replicate]) fun j q hq => ?_)
      have hj := List.getElem?_eq_some_iff.1 hq
      obtain ⟨g1, g2⟩ := hj
      simp only [List.length_replicate] at g1
      rw [List.getElem_replicate] at g2
      subst g2
      exact ⟨_, List.getElem?_eq_getElem (by rw [hzc]; exact g1), trivial⟩
    have hsize : (ov ++ nv ++ (Builtin.zeroCells z.cells (c' - (n + m))).toList).length = c' * i.size := by
      simp only [List.length_append, hzc, hlo, hln, ← Nat.add_mul]
      congr 1
      omega
    refine ⟨_, _, _, _, by rw [exec_append ho hc, e1, e2, hrun]; rfl, .inl rfl, HRel.shrink ((hH.drew).alloc e hvr), Kept.shrink (ds := []) ((Kept.refl M H w).draw.alloc _ _ _), ?_⟩
    simp only [VR]
    refine ⟨⟨w.heap.size, 0, _, false⟩, Val.at_in (if_pos rfl) rfl, .inl ⟨_, c', rfl, hc1, fun _ => ⟨rfl, ?_⟩, fun k hk => by cases hk⟩⟩
    simp only [List.length_append, Array.length_toList] at hsize
    simp
    omega
theorem s_appO {x y : Operand} {t u : TypeId} {c : Call} (ho : o.op = .call c) (hc : c = { callee := .builtin .append, args := #[x, y], argTypes := #[t, u] }) {e e' : TypeId} (ht : P.underlying t = some (.slice e)) (hu : P.underlying u = some (.slice e'))
    {i : TypeInfo} (hi : P.info? e = some i) {z : Value} (hz : i.zero = some z) (hzs : z.cells.size = i.size) (hb : i.bytes ≠ 0) {v : AV} {b off n m : Nat} {cp : Option Nat} {k : Blk} {old nw : List AV} {H : Heap} (hk : blkAt H b = some k) (hown : k.own = true)
    (hro : rd H b off (n * i.size) = some old) (hr : rdS H v = some (nw, m)) (hsv : ∀ b off k s c, v = .sl b off k s c → s = i.size) (hcell : nw.all AV.cell = true) (hm : m ≠ 0) (hl : (n + m) * i.bytes ≤ 140737488355328) :
    SStep P o [x, y] [.sl b off n i.size cp, v] H (.sl H.length 0 (n + m) i.size none) (H.set b none ++ [some ⟨old ++ nw, true⟩]) := by
  have hroS : rdS H (.sl b off n i.size cp) = some (old, n) := by simp [rdS, hro]
  refine .of_run fun M w a hH hv' => ?_
  obtain ⟨x', y', hy, h1, h2⟩ := hv'.two
  obtain ⟨e1, e2⟩ := map2 hy
  have h1' := h1
  simp only [VR] at h1'
  obtain ⟨l, ad, cap, hM, rfl, g2⟩ : ∃ l ad cap, M.at b = some l ∧ x' = .slice ad n cap ∧ (n + m ≤ cap → ad = some ⟨l.blk, l.off + off, none⟩ ∧ l.off + off + cap * i.size ≤ l.size) := by
    obtain ⟨l, hM, ⟨ad, cap, rfl, g1, g2, g3⟩ | ⟨rfl, _, rfl⟩⟩ := h1'
    · exact ⟨l, some ad, cap, hM, rfl, fun h => ⟨by rw [(g2 (by omega)).1], (g2 (by omega)).2⟩⟩
    · exact ⟨l, none, 0, hM, rfl, fun h => by omega⟩
  by_cases hcp : cap < n + m
  · obtain ⟨ov, hfo, hvo, hlo⟩ := firsts (P := P) hH hroS (fun _ _ _ _ _ h => by cases h; rfl) h1
    obtain ⟨nv, hfn, hvn, hln⟩ := firsts (P := P) hH hr hsv h2
    obtain ⟨c', hc1, hrun⟩ := run_append_out (P := P) ht hu hi hz hb o.type hfn hfo hcp hl
    have hzc : (Builtin.zeroCells z.cells (c' - (n + m))).toList.length = (c' - (n + m)) * i.size := by simp [Builtin.zeroCells, hzs]
    have hvr : VRs M (old ++ nw ++ List.replicate ((c' - (n + m)) * i.size) .any) (ov ++ nv ++ (Builtin.zeroCells z.cells (c' - (n + m))).toList) := by
      refine (hvo.append hvn).append (VRs.mk (by simp only [hzc, List.length_replicate]) fun j q hq => ?_)
      have hj := List.getElem?_eq_some_iff.1 hq
      obtain ⟨g1, g2⟩ := hj
      simp only [List.length_replicate] at g1
      rw [List.getElem_replicate] at g2
      subst g2
      exact ⟨_, List.getElem?_eq_getElem (by rw [hzc]; exact g1), trivial⟩
    have hsize : (ov ++ nv ++ (Builtin.zeroCells z.cells (c' - (n + m))).toList).length = c' * i.size := by
      simp only [List.length_append, hzc, hlo, hln, ← Nat.add_mul]
      congr 1
      omega
    have hb' : b < H.length := by
      have := blkAt_some hk
      rcases Nat.lt_or_ge b H.length with h | h
      · exact h
      · rw [List.getElem?_eq_none h] at this; cases this
    have hset : (H ++ [some (Blk.mk (old ++ nw) true)]).set b none = H.set b none ++ [some (Blk.mk (old ++ nw) true)] := by rw [List.set_append_left _ _ hb']
    have HR := (HRel.shrink ((hH.drew).alloc e hvr)).kill b
    have HK := (Kept.shrink (cs := old ++ nw) (ds := List.replicate ((c' - (n + m)) * i.size) .any) ((Kept.refl M H w).draw.alloc (ov ++ nv ++ (Builtin.zeroCells z.cells (c' - (n + m))).toList).length _ (.cells (ov ++ nv ++ (Builtin.zeroCells z.cells (c' - (n + m))).toList).toArray e))).kill b
    rw [hset] at HR HK
    refine ⟨_, _, _, _, by rw [exec_append ho hc, e1, e2, hrun]; rfl, .inl rfl, HR, HK, ?_⟩
    simp only [VR]
    refine ⟨⟨w.heap.size, 0, _, false⟩, Val.at_in (if_pos rfl) rfl, .inl ⟨_, c', rfl, hc1, fun _ => ⟨rfl, ?_⟩, fun k hk => by cases hk⟩⟩
    simp only [List.length_append, Array.length_toList] at hsize
    simp
    omega
  · obtain ⟨nv, hfn, hvn, hln⟩ := firsts (P := P) hH hr hsv h2
    obtain ⟨rfl, hroom⟩ := g2 (by omega)
    obtain ⟨k', hb', hle, hold, holdl⟩ := rd_some hro
    rw [blkAt_some hk] at hb'
    cases hb'
    have hmul : (n + m) * i.size = n * i.size + m * i.size := Nat.add_mul ..
    have hcm : (n + m) * i.size ≤ cap * i.size := Nat.mul_le_mul_right _ (by omega)
    have hmv := hH.move (blkAt_some hk) hown hM (off := off) (n := n * i.size) (m := m * i.size) hle (by omega)
    have hkm := (Kept.refl M H w).move (blkAt_some hk) hown (Val.at_out hM).1 (l.off + off) l.size ((k.cells.drop off).take (n * i.size) ++ List.replicate (m * i.size) .any)
    rw [← hold] at hmv hkm
    have hnwl : nw.length = m * i.size := rdS_len hr hsv
    obtain ⟨w', r1, r2, r3⟩ := run_st (P := P) nw nv _ w H.length ⟨old ++ List.replicate (m * i.size) .any, true⟩ ⟨l.blk, l.off + off, l.size, false⟩ (n * i.size) hmv hkm (by rw [List.getElem?_append_right (by simp)]; simp) rfl (Val.at_in (if_pos rfl) rfl)
      (by simp [holdl, hnwl]) hcell (hvn.mono (Val.le_put (hH.dom _ (Nat.le_refl _)))) 0 (l.off + off + n * i.size) (by simp)
    have hfin : (H.set b none ++ [some (Blk.mk (old ++ List.replicate (m * i.size) AV.any) true)]).set H.length (some (Blk.mk (setCells (old ++ List.replicate (m * i.size) AV.any) (n * i.size) nw) true)) = H.set b none ++ [some (Blk.mk (old ++ nw) true)] := by
      rw [List.set_append_right _ _ (by simp)]
      simp only [List.length_set, Nat.sub_self, List.set_cons_zero]
      congr 4
      unfold setCells
      rw [List.take_append_of_le_length (by omega), List.take_of_length_le (by omega), List.drop_of_length_le (by simp; omega), List.append_nil]
    rw [hfin] at r2 r3
    refine ⟨.value (.slice (some ⟨l.blk, l.off + off, none⟩) (n + m) cap), _, w', _, ?_, .inl rfl, r2, r3, ?_⟩
    · rw [exec_append ho hc, e1, e2, run_append_in ht hu (by rw [hi]; rfl) o.type hfn (by omega)]
      simp only [plain_add, r1, Result.andThen_ok]
    · simp only [VR]
      exact ⟨⟨l.blk, l.off + off, l.size, false⟩, Val.at_in (if_pos rfl) rfl, .inl ⟨_, cap, rfl, by omega, fun _ => ⟨by simp, by simp; omega⟩, fun k hk => by cases hk⟩⟩
end
end Go.Proofs.Ytaiboicipbhmhaa.Ah
namespace Go.Proofs.Ytaiboicipbhmhaa.Ah
open Go
section
variable {P : Program} {o : Oper}
theorem bytes_beq (p q : ByteArray) : (p == q) = decide (p = q) := by
  obtain ⟨x⟩ := p
  obtain ⟨y⟩ := q
  have h1 : ((⟨x⟩ : ByteArray) == ⟨y⟩) = (x == y) := rfl
  rw [h1]
  by_cases h : x = y
  · subst h; simp
  · simp [h]
mutual
def leafsT (P : Program) : Nat → TypeId → Option (List LK)
  | 0, _ => none
  | d + 1, t =>
    match P.underlying t with
    | some (.int _) => if P.cellsOf t = 1 then some [.int] else none
    | some .bool => if P.cellsOf t = 1 then some [.bool] else none
    | some .string => if P.cellsOf t = 1 then some [.str] else none
    | some (.struct fs) => match leafsF P d 0 fs.toList with
      | some l => if P.stoodInHeld t = false ∧ P.cellsOf t = l.length then some l else none
      | none => none
    | some (.array n e) => match leafsT P d e with
      | some l => if P.cellsOf t = n * P.cellsOf e ∧ P.cellsOf e = l.length then some (List.replicate n l).flatten else none
      | none => none
    | _ => none
def leafsF (P : Program) : Nat → Nat → List Field → Option (List LK)
  | _, _, [] => some []
  | 0, _, _ :: _ => none
  | d + 1, off, f :: fs => match leafsT P d f.type, leafsF P d (off + P.cellsOf f.type) fs with
    | some l, some l' => if f.name ≠ "_" ∧ f.offset = off ∧ P.cellsOf f.type = l.length then some (l ++ l') else none
    | _, _ => none
end
theorem eqCells_append : ∀ (ks ks' : List LK) (as bs as' bs' : List AV), as.length = ks.length → bs.length = ks.length → eqCells (ks ++ ks') (as ++ as') (bs ++ bs') = (eqCells ks as bs).bind fun p => (eqCells ks' as' bs').map fun q => p && q
  | [], ks', [], [], as', bs', _, _ => by simp [eqCells]
  | [], _, _ :: _, _, _, _, h, _ => by simp at h
  | [], _, _, _ :: _, _, _, _, h => by simp at h
  | _ :: _, _, [], _, _, _, h, _ => by simp at h
  | _ :: _, _, _, [], _, _, _, h => by simp at h
  | k :: ks, ks', a :: as, b :: bs, as', bs', h, h' => by
    have ih := eqCells_append ks ks' as bs as' bs' (by simpa using h) (by simpa using h')
    cases k <;> cases a <;> cases b <;> simp only [List.cons_append, eqCells] <;> (try rfl)
    case bool.bool.bool p q =>
      rw [ih]
      cases eqCells ks as bs <;> simp
      cases eqCells ks' as' bs' <;> simp
      cases decide (p = q) <;> simp
    case str.str.str p q =>
      rw [ih]
      cases eqCells ks as bs <;> simp
      cases eqCells ks' as' bs' <;> simp
      cases decide (p = q) <;> simp
    case int.int.int k p k' q =>
      split
      · rw [ih]
        cases eqCells ks as bs <;> simp
        cases eqCells ks' as' bs' <;> simp
        cases decide (p = q) <;> simp
      · rfl
theorem eqCells_len : ∀ (ks : List LK) (as bs : List AV) (r : Bool), eqCells ks as bs = some r → as.length = ks.length ∧ bs.length = ks.length
  | [], [], [], _, _ => by simp
  | [], _ :: _, _, _, h => by simp [eqCells] at h
  | [], [], _ :: _, _, h => by simp [eqCells] at h
  | k :: ks, [], _, _, h => by cases k <;> simp [eqCells] at h
  | k :: ks, a :: as, [], _, h => by cases k <;> cases a <;> simp [eqCells] at h
  | k :: ks, a :: as, b :: bs, r, h => by
    cases k <;> cases a <;> cases b <;> simp only [eqCells] at h <;> (try cases h)
    case bool.bool.bool p q => obtain ⟨x, hx, _⟩ := Option.map_eq_some_iff.1 h; simp [eqCells_len ks as bs x hx]
    case str.str.str p q => obtain ⟨x, hx, _⟩ := Option.map_eq_some_iff.1 h; simp [eqCells_len ks as bs x hx]
    case int.int.int k p k' q =>
      split at h
      · obtain ⟨x, hx, _⟩ := Option.map_eq_some_iff.1 h; simp [eqCells_len ks as bs x hx]
      · cases h
theorem eqCells_split {ks ks' : List LK} {as bs : List AV} {r : Bool} (h : eqCells (ks ++ ks') as bs = some r) :
    ∃ p q, eqCells ks (as.take ks.length) (bs.take ks.length) = some p ∧ eqCells ks' (as.drop ks.length) (bs.drop ks.length) = some q ∧ r = (p && q) := by
  obtain ⟨h1, h2⟩ := eqCells_len _ _ _ _ h
  rw [List.length_append] at h1 h2
  have := eqCells_append ks ks' (as.take ks.length) (bs.take ks.length) (as.drop ks.length) (bs.drop ks.length) (by simp; omega) (by simp; omega)
  rw [List.take_append_drop, List.take_append_drop, h] at this
  obtain ⟨p, hp, hq⟩ := Option.bind_eq_some_iff.1 this.symm
  obtain ⟨q, hq, hr⟩ := Option.map_eq_some_iff.1 hq
  exact ⟨p, q, hp, hq, hr.symm⟩
def valOf (P : Program) (t : TypeId) (xs : List Value) : Value := if aggB (P.underlying t) then .agg xs.toArray else xs.headD undef
theorem run_part {t : TypeId} {d : TypeDesc} (hd : P.underlying t = some d) {xs : List Value} {off n : Nat} (hn : (P.info? t).map (·.size) = some n) (h1 : aggB (some d) = false → n = 1) (hl : off + n ≤ xs.length) (w : World) :
    (part t xs.toArray off).run P w = .ok (valOf P t ((xs.drop off).take n)) w := by
  unfold valOf
  rw [hd]
  cases ha : aggB (some d) with
  | true =>
    simp [part, run_isAgg hd, ha, run_size hn, List.extract_eq_take_drop]
  | false =>
    obtain rfl := h1 ha
    have hlt : off < xs.length := by omega
    simp [part, run_isAgg hd, ha, hlt, List.headD_eq_head?_getD, List.head?_drop, List.head?_take]
theorem underlying_info {t : TypeId} {d : TypeDesc} (h : P.underlying t = some d) : ∃ i, P.info? t = some i := by
  unfold Program.underlying at h
  cases hi : P.info? t with
  | none => simp [hi] at h
  | some i => exact ⟨i, rfl⟩
theorem cellsOf_info' {t : TypeId} {d : TypeDesc} (h : P.underlying t = some d) : (P.info? t).map (·.size) = some (P.cellsOf t) := by
  obtain ⟨i, hi⟩ := underlying_info h
  simp [Program.cellsOf, hi]
theorem leafs_under {d : Nat} {t : TypeId} {l : List LK} (h : leafsT P d t = some l) : ∃ ds, P.underlying t = some ds ∧ P.cellsOf t = l.length ∧ (aggB (some ds) = false → l.length = 1) := by
  cases d with
  | zero => simp [leafsT] at h
  | succ d =>
    simp only [leafsT] at h
    split at h
    · rename_i k hu
      split at h
      · cases h; exact ⟨_, hu, by simpa, fun _ => rfl⟩
      · cases h
    · rename_i hu
      split at h
      · cases h; exact ⟨_, hu, by simpa, fun _ => rfl⟩
      · cases h
    · rename_i hu
      split at h
      · cases h; exact ⟨_, hu, by simpa, fun _ => rfl⟩
      · cases h
    · rename_i fs hu
      split at h
      · split at h
        · rename_i h1
          cases h
          exact ⟨_, hu, h1.2, fun ha => by simp [aggB] at ha⟩
        · cases h
      · cases h
    · rename_i n e hu
      split at h
      · split at h
        · rename_i h1
          cases h
          refine ⟨_, hu, ?_, fun ha => by simp [aggB] at ha⟩
          rw [h1.1, h1.2]
          simp
        · cases h
      · cases h
    · cases h
mutual
theorem run_eqT {M : Val} : ∀ (d D : Nat) (t : TypeId) (ks : List LK), leafsT P d t = some ks → d ≤ D → ∀ (as bs : List AV) (xs ys : List Value) (r : Bool), eqCells ks as bs = some r → VRs M as xs → VRs M bs ys → ∀ w,
    (Op.equalIn D t (valOf P t xs) (valOf P t ys)).run P w = .ok r w
  | 0, _, _, _, h, _, _, _, _, _, _, _, _, _, _ => by simp [leafsT] at h
  | d + 1, 0, t, _, h, hD, _, _, _, _, _, _, _, _, _ => by omega
  | d + 1, D + 1, t, ks, h, hD, as, bs, xs, ys, r, he, hx, hy, w => by
    obtain ⟨hla, hlb⟩ := eqCells_len _ _ _ _ he
    simp only [leafsT] at h
    have leaf : ∀ ds, P.underlying t = some ds → aggB (some ds) = false → ks.length = 1 → ∃ a b x y, as = [a] ∧ bs = [b] ∧ VR M a x ∧ VR M b y ∧ valOf P t xs = x ∧ valOf P t ys = y := by
      intro ds hu ha h1
      obtain ⟨a, rfl⟩ := List.length_eq_one_iff.1 (hla.trans h1)
      obtain ⟨b, rfl⟩ := List.length_eq_one_iff.1 (hlb.trans h1)
      obtain ⟨x, rfl, hx'⟩ := VRs.one hx
      obtain ⟨y, rfl, hy'⟩ := VRs.one hy
      exact ⟨a, b, x, y, rfl, rfl, hx', hy', by simp [valOf, hu, ha], by simp [valOf, hu, ha]⟩
    split at h
    · rename_i k hu
      split at h
      · cases h
        obtain ⟨a, b, x, y, rfl, rfl, hx', hy', e1, e2⟩ := leaf _ hu rfl rfl
        rw [e1, e2]
        cases a <;> cases b <;> simp only [eqCells] at he <;> (try cases he)
        rename_i k1 p k2 q
        simp only [VR] at hx' hy'
        subst hx'; subst hy'
        split at he
        · rename_i hk
          subst hk
          simp at he
          subst he
          rw [run_equalIn_int w D t k1 k p q hu]
          rfl
        · cases he
      · cases h
    · rename_i hu
      split at h
      · cases h
        obtain ⟨a, b, x, y, rfl, rfl, hx', hy', e1, e2⟩ := leaf _ hu rfl rfl
        rw [e1, e2]
        cases a <;> cases b <;> simp only [eqCells] at he <;> (try cases he)
        rename_i p q
        simp only [VR] at hx' hy'
        subst hx'; subst hy'
        rw [run_equalIn_bool' w D t p q hu]
        cases p <;> cases q <;> rfl
      · cases h
    · rename_i hu
      split at h
      · cases h
        obtain ⟨a, b, x, y, rfl, rfl, hx', hy', e1, e2⟩ := leaf _ hu rfl rfl
        rw [e1, e2]
        cases a <;> cases b <;> simp only [eqCells] at he <;> (try cases he)
        rename_i p q
        simp only [VR] at hx' hy'
        subst hx'; subst hy'
        rw [run_equalIn_string w D t p q hu, ← beq_toListBytes]
        congr 1
        rw [bytes_beq]
        simp
      · cases h
    · rename_i fs hu
      split at h
      · rename_i l hl
        split at h
        · rename_i h1
          cases h
          simp only [valOf, hu, aggB, if_true]
          have hfo : P.fieldsOf t = fs := by simp [Program.fieldsOf, hu]
          rw [run_equalIn_struct w D t _ _ (by rw [hfo]; exact hu) h1.1, hfo]
          have := run_eqF d D 0 fs.toList ks hl (by omega) as bs xs ys r (by simpa using he) hx hy (by omega) (by omega) w
          simpa using this
        · cases h
      · cases h
    · rename_i n e hu
      split at h
      · rename_i l hl
        split at h
        · rename_i h1
          cases h
          simp only [valOf, hu, aggB, if_true]
          obtain ⟨ds, hue, hc, hagg⟩ := leafs_under hl
          have hinfo := cellsOf_info' (P := P) hue
          rw [h1.2] at hinfo
          have hxl := hx.length
          have hyl := hy.length
          simp only [List.length_flatten, List.map_replicate, List.sum_replicate_nat] at hla hlb
          have key : ∀ (m j : Nat), j + m = n → ∀ r, eqCells (List.replicate m l).flatten (as.drop (j * l.length)) (bs.drop (j * l.length)) = some r → ∀ w, (do
              let s ← forIn (List.range' j m) ((none, ()) : Option Bool × Unit) fun i _ => do
                let a ← part e xs.toArray (i * l.length)
                let b ← part e ys.toArray (i * l.length)
                let q ← Op.equalIn D e a b
                if q = false then pure (ForInStep.done (some false, ())) else pure (ForInStep.yield (none, ()))
              match s.1 with
              | some a => pure a
              | none => pure true : Sem Bool).run P w = .ok r w := by
            intro m
            induction m with
            | zero =>
              intro j hj r hr w
              obtain ⟨k1, k2⟩ := eqCells_len _ _ _ _ hr
              simp at k1 k2
              simp [eqCells, List.drop_of_length_le (show as.length ≤ j * l.length by omega), List.drop_of_length_le (show bs.length ≤ j * l.length by omega)] at hr
              subst hr
              simp
            | succ m ih =>
              intro j hj r hr w
              rw [List.replicate_succ, List.flatten_cons] at hr
              obtain ⟨p, q, hp, hq, rfl⟩ := eqCells_split hr
              have hjl : j * l.length + l.length ≤ as.length := by
                rw [hla, ← Nat.succ_mul]
                exact Nat.mul_le_mul_right _ (by omega)
              have hjl' : j * l.length + l.length ≤ bs.length := by
                rw [hlb, ← Nat.succ_mul]
                exact Nat.mul_le_mul_right _ (by omega)
              simp only [List.range'_succ, List.forIn_cons, bind_assoc, Sem.run_bind]
              rw [run_part hue hinfo hagg (by omega), Result.andThen_ok, run_part hue hinfo hagg (by omega), Result.andThen_ok]
              rw [run_eqT d D e l hl (by omega) _ _ _ _ p hp ((hx.drop _).take _) ((hy.drop _).take _) w, Result.andThen_ok]
              cases p with
              | false => simp
              | true =>
                rw [List.drop_drop, List.drop_drop] at hq
                have := ih (j + 1) (by omega) q (by rw [Nat.succ_mul]; exact hq) w
                simpa using this
          have := key n 0 (by omega) r (by simpa using he) w
          rw [Op.equalIn]
          simp only [Sem.run_bind, run_underlying hu, Result.andThen_ok, run_size hinfo]
          simp only [Std.Legacy.Range.forIn_eq_forIn_range', Std.Legacy.Range.size]
          simp only [Sem.run_bind] at this
          simp
          refine Eq.trans ?_ this
          congr 1
          funext a w'
          obtain ⟨a1, a2⟩ := a
          cases a1 <;> rfl
        · cases h
      · cases h
    · cases h
theorem run_eqF {M : Val} : ∀ (d D off : Nat) (fs : List Field) (ks : List LK), leafsF P d off fs = some ks → d ≤ D → ∀ (as bs : List AV) (xs ys : List Value) (r : Bool), eqCells ks (as.drop off) (bs.drop off) = some r → VRs M as xs → VRs M bs ys → off ≤ as.length → off ≤ bs.length → ∀ w,
    (Op.eqFields D xs.toArray ys.toArray fs).run P w = .ok r w
  | d, _, off, [], ks, h, _, as, bs, _, _, r, he, _, _, _, _, w => by
    have hk : ks = [] := by cases d <;> simp [leafsF] at h <;> exact h
    subst hk
    obtain ⟨h1, h2⟩ := eqCells_len _ _ _ _ he
    have h1' := List.eq_nil_of_length_eq_zero h1
    have h2' := List.eq_nil_of_length_eq_zero h2
    rw [h1', h2'] at he
    simp [eqCells] at he
    subst he
    simp [Op.eqFields]
  | 0, _, _, _ :: _, _, h, _, _, _, _, _, _, _, _, _, _, _, _ => by simp [leafsF] at h
  | d + 1, D, off, f :: fs, ks, h, hD, as, bs, xs, ys, r, he, hx, hy, ho, ho', w => by
    simp only [leafsF] at h
    split at h
    · rename_i l l' h1 h2
      split at h
      · rename_i h3
        obtain ⟨hn, hof, hlen⟩ := h3
        cases h
        obtain ⟨p, q, hp, hq, rfl⟩ := eqCells_split he
        obtain ⟨ds, hu, hc, hagg⟩ := leafs_under h1
        have hxl := hx.length
        have hyl := hy.length
        obtain ⟨g1, g2⟩ := eqCells_len _ _ _ _ he
        simp only [List.length_drop, List.length_append] at g1 g2
        have hinfo := cellsOf_info' (P := P) hu
        rw [hlen] at hinfo
        simp only [Op.eqFields, hn, ne_eq, not_false_eq_true, if_true, Sem.run_bind]
        rw [run_part hu hinfo hagg (by rw [hof]; omega), Result.andThen_ok, run_part hu hinfo hagg (by rw [hof]; omega), Result.andThen_ok, hof]
        rw [run_eqT d D f.type l h1 (by omega) _ _ _ _ p hp ((hx.drop off).take _) ((hy.drop off).take _) w, Result.andThen_ok]
        cases p with
        | false => simp
        | true =>
          simp only [Bool.not_true, Bool.false_eq_true, if_false, Bool.true_and]
          rw [List.drop_drop, List.drop_drop, ← hlen] at hq
          exact run_eqF d D (off + P.cellsOf f.type) fs l' h2 (by omega) as bs xs ys q hq hx hy (by omega) (by omega) w
      · cases h
    · cases h
end
theorem valOf_agg {t : TypeId} (h : aggB (P.underlying t) = true) {xs : List Value} : valOf P t xs = .agg xs.toArray := by simp [valOf, h]
theorem eqv_run {neg : Bool} {t : TypeId} {p q : Value} {r : Bool} {w : World} (h : ∀ op : BinOp, op = .eql ∨ op = .neq → (binOp op t p q).run P w = .ok (.bool (if op = .neq then !r else r)) w) :
    (binOp (if neg then .neq else .eql) t p q).run P w = .ok (.bool (if neg then !r else r)) w := by
  cases neg
  · exact h .eql (.inl rfl)
  · exact h .neq (.inr rfl)
theorem s_eqv {x y : Operand} {neg : Bool} {t u : TypeId} (ho : o.op = .binOp (if neg then .neq else .eql) t x y u) {ks : List LK} {d : Nat} (hk : leafsT P d t = some ks) (hd : d ≤ 10000) (hg : P.eqGuardType P.depth t = false)
    (hagg : aggB (P.underlying t) = true) {cs cs' : List AV} {r : Bool} (he : eqCells ks cs cs' = some r) (H : Heap) :
    SStep P o [x, y] [.agg cs, .agg cs'] H (.bool (if neg then !r else r)) H :=
  .of_pure fun M w a hH hv' => by
    obtain ⟨p, q, hy, h1, h2⟩ := hv'.two
    obtain ⟨e1, e2⟩ := map2 hy
    simp only [VR] at h1 h2
    obtain ⟨us, rfl, h1⟩ := h1
    obtain ⟨us', rfl, h2⟩ := h2
    have hr := run_eqT d 10000 t ks hk hd cs cs' us us' r he h1 h2 w
    rw [valOf_agg hagg, valOf_agg hagg] at hr
    have hguard := fun op : BinOp => run_eqGuard_agg (P := P) w op t x y us.toArray us'.toArray hg
    have hrun := eqv_run (P := P) (neg := neg) (t := t) (p := .agg us.toArray) (q := .agg us'.toArray) (r := r) (w := w) (by
      rintro op (rfl | rfl)
      · rw [run_eql_struct, hr]; rfl
      · rw [run_neq_struct, hr]; rfl)
    exact ⟨_, by simp [execOp, ho, e1, e2, hguard, hrun], rfl⟩
theorem s_eqb {x y : Operand} {neg : Bool} {t u : TypeId} (ho : o.op = .binOp (if neg then .neq else .eql) t x y u) (ht : P.underlying t = some .bool) (b b' : Bool) (H : Heap) :
    SStep P o [x, y] [.bool b, .bool b'] H (.bool (if neg then !decide (b = b') else decide (b = b'))) H :=
  .of_pure fun M w a hH hv' => by
    obtain ⟨p, q, hy, h1, h2⟩ := hv'.two
    obtain ⟨e1, e2⟩ := map2 hy
    simp only [VR] at h1 h2
    subst h1; subst h2
    have hguard : ∀ op : BinOp, (eqGuard op t x y (.bool b) (.bool b')).run P w = .ok () w := by
      intro op
      unfold eqGuard
      cases op <;> rfl
    have hr : (b == b') = decide (b = b') := by cases b <;> cases b' <;> rfl
    have hrun := eqv_run (P := P) (neg := neg) (t := t) (p := .bool b) (q := .bool b') (r := decide (b = b')) (w := w) (by
      rintro op (rfl | rfl) <;> simp [binOp, Op.equal, Op.maxDepth, run_equalIn_bool' w 9999 t b b' ht, hr])
    exact ⟨_, by simp [execOp, ho, e1, e2, hguard, hrun], rfl⟩
theorem s_eqs {x y : Operand} {neg : Bool} {t u : TypeId} (ho : o.op = .binOp (if neg then .neq else .eql) t x y u) (b b' : ByteArray) (H : Heap) :
    SStep P o [x, y] [.str b, .str b'] H (.bool (if neg then !decide (b = b') else decide (b = b'))) H :=
  .of_pure fun M w a hH hv' => by
    obtain ⟨p, q, hy, h1, h2⟩ := hv'.two
    obtain ⟨e1, e2⟩ := map2 hy
    simp only [VR] at h1 h2
    subst h1; subst h2
    have hguard : ∀ op : BinOp, (eqGuard op t x y (.string b) (.string b')).run P w = .ok () w := by
      intro op
      unfold eqGuard
      cases op <;> rfl
    have hrun := eqv_run (P := P) (neg := neg) (t := t) (p := .string b) (q := .string b') (r := decide (b = b')) (w := w) (by
      rintro op (rfl | rfl) <;> simp [binOp, Op.stringOp, ← beq_toListBytes, bytes_beq])
    exact ⟨_, by simp [execOp, ho, e1, e2, hguard, hrun], rfl⟩
theorem s_eqnilS {x : Operand} {y : Operand} {neg : Bool} {t u e : TypeId} (ho : o.op = .binOp (if neg then .neq else .eql) t x y u) (hy : y = .const (.slice none 0 0)) (ht : P.underlying t = some (.slice e)) (v : AV) (isn : Bool)
    (hv : ∀ M x, VR M v x → ∃ ad n c, x = .slice ad n c ∧ ad.isNone = isn) (H : Heap) :
    SStep P o [x] [v] H (.bool (if neg then !isn else isn)) H :=
  .of_pure fun M w a hH hv' => by
    obtain ⟨p, hp, h1⟩ := hv'.one
    have e1 := map1 hp
    obtain ⟨ad, n, c, rfl, hn⟩ := hv M p h1
    subst hy
    have e2 : a.eval (.const (.slice none 0 0)) = .slice none 0 0 := rfl
    have hguard : ∀ op : BinOp, (eqGuard op t x (.const (.slice none 0 0)) (.slice ad n c) (.slice none 0 0)).run P w = .ok () w := by
      intro op
      unfold eqGuard
      cases op <;> rfl
    have hrun := eqv_run (P := P) (neg := neg) (t := t) (p := .slice ad n c) (q := .slice none 0 0) (r := isn) (w := w) (by
      have hq : ∀ d, (Op.equalIn (d + 1) t (.slice ad n c) (.slice none 0 0)).run P w = .ok isn w := by
        intro d
        rw [Op.equalIn]
        cases ad <;> simp [run_underlying ht, ← hn]
      rintro op (rfl | rfl)
      · simp only [binOp, Op.equal, Op.maxDepth]
        simp [hq 9999]
      · simp only [binOp, Op.equal, Op.maxDepth]
        simp [hq 9999])
    exact ⟨_, by simp [execOp, ho, e1, e2, hguard, hrun], rfl⟩
end
end Go.Proofs.Ytaiboicipbhmhaa.Ah
set_option linter.unusedSimpArgs false
namespace Go.Proofs.Ytaiboicipbhmhaa.Ah
open Go
section
variable {P : Program} {o : Oper}
theorem VRs.rep {M : Val} {zs : List AV} {us : List Value} (h : VRs M zs us) : ∀ n, VRs M (List.replicate n zs).flatten (List.replicate n us).flatten
  | 0 => by simp [VRs]
  | n + 1 => by
    rw [List.replicate_succ, List.replicate_succ, List.flatten_cons, List.flatten_cons]
    exact h.append (h.rep n)
theorem rep_get (us : List Value) (h0 : us.length ≠ 0) : ∀ (n j : Nat), j < n * us.length → (List.replicate n us).flatten[j]? = us[j % us.length]?
  | 0, j, h => by simp at h
  | n + 1, j, h => by
    rw [List.replicate_succ, List.flatten_cons]
    by_cases hj : j < us.length
    · rw [List.getElem?_append_left hj, Nat.mod_eq_of_lt hj]
    · rw [List.getElem?_append_right (by omega), rep_get us h0 n _ (by rw [Nat.succ_mul] at h; omega)]
      congr 1
      exact (Nat.mod_eq_sub_mod (by omega)).symm
theorem made_eq (z : Array Value) (n : Nat) : ((Array.range (n * z.size)).map (z[· % z.size]!)).toList = (List.replicate n z.toList).flatten := by
  by_cases h0 : z.size = 0
  · have hz : z.toList = [] := List.eq_nil_of_length_eq_zero (by simpa using h0)
    rw [h0, hz]
    simp
  · apply List.ext_getElem?
    intro j
    by_cases hj : j < n * z.size
    · rw [rep_get z.toList (by simpa using h0) n j (by simpa using hj)]
      have hm : j % z.size < z.size := Nat.mod_lt _ (by omega)
      simp [hj, hm]
    · rw [List.getElem?_eq_none (by simp; omega), List.getElem?_eq_none (by simp [List.length_flatten]; omega)]
theorem s_mksl {t : TypeId} {x y : Operand} (ho : o.op = .makeSlice t x y) {e : TypeId} (hd : P.underlying t = some (.slice e)) {i : TypeInfo} (hi : P.info? e = some i) {z : Value} (hz : i.zero = some z) (hzs : z.cells.size = i.size) {zs : List AV} (hc : ∀ M, VRs M zs z.cells.toList)
    {k k' : IntKind} {l c : Int} (h0 : 0 ≤ l) (h1 : l ≤ c) (h2 : i.bytes * c ≤ 281474976710656) (h3 : c ≤ 4611686018427387904) (H : Heap) :
    SStep P o [x, y] [.int k l, .int k' c] H (.sl H.length 0 l.toNat i.size (some c.toNat)) (H ++ [some ⟨(List.replicate c.toNat zs).flatten, true⟩]) :=
  step_new fun M w a hH hv => by
    obtain ⟨p, q, hy, g1, g2⟩ := hv.two
    obtain ⟨e1, e2⟩ := map2 hy
    simp only [VR] at g1 g2
    subst g1; subst g2
    have wl : ∀ m : Int, 0 ≤ m → m ≤ 4611686018427387904 → IntKind.i64.wrap m = m := fun m hm hm' => IntWalk.i64_in m (by omega)
    have hl : IntKind.i64.wrap l = l := wl l h0 (by omega)
    have hcw : IntKind.i64.wrap c = c := wl c (by omega) h3
    refine ⟨.slice (some ⟨w.heap.size, 0, none⟩) l.toNat c.toNat, (List.replicate c.toNat z.cells.toList).flatten, e, ?_, (hc M).rep _, ?_⟩
    · have n1 : ¬ c < 0 := by omega
      have n2 : ¬ (i.bytes : Int) * c > 281474976710656 := by omega
      have n3 : ¬ l < 0 := by omega
      have n4 : ¬ c < l := by omega
      have hrow : (if c.toNat * i.size = 0 then #[] else z.cells) = (if c.toNat * i.size = 0 then #[] else z.cells) := rfl
      by_cases hn : c.toNat * i.size = 0
      · have hfl : (List.replicate c.toNat z.cells.toList).flatten = [] := by
          rw [← made_eq z.cells, hzs, hn, show Array.range 0 = #[] from rfl]
          simp
        simp [execOp, ho, e1, e2, Instr.makeSlice, run_underlying hd, asInt, asIntOf, run_info hi, hl, hcw, n1, n2, n3, n4, run_size (P := P) (t := e) (n := i.size) (by rw [hi]; rfl), hn, newRow, hfl, show Array.range 0 = #[] from rfl]
      · have hmade : ((Array.range (c.toNat * i.size)).map (z.cells[· % z.cells.size]!)) = (List.replicate c.toNat z.cells.toList).flatten.toArray := by
          apply Array.ext'
          rw [← hzs, made_eq]
        simp [execOp, ho, e1, e2, Instr.makeSlice, run_underlying hd, asInt, asIntOf, run_info hi, hl, hcw, n1, n2, n3, n4, run_size (P := P) (t := e) (n := i.size) (by rw [hi]; rfl), hn, newRow, zeroValue, hz]
        rw [← hmade]
    · simp only [VR]
      have hlen : (List.replicate c.toNat z.cells.toList).flatten.length = c.toNat * i.size := by simp [List.length_flatten, hzs]
      exact ⟨_, Val.at_in (if_pos rfl) rfl, .inl ⟨_, c.toNat, rfl, by omega, fun _ => ⟨rfl, by have := hlen; simp [List.length_flatten] at this ⊢; rw [hzs]; omega⟩, fun k hk => by cases hk; rfl⟩⟩
theorem s_copyN {x y : Operand} {t u : TypeId} {c : Call} (ho : o.op = .call c) (hc : c = { callee := .builtin .copy, args := #[x, y], argTypes := #[t, u] }) {e : TypeId} (ht : P.underlying t = some (.slice e)) {sz : Nat} (hs : (P.info? e).map (·.size) = some sz) (b off n : Nat) (cp : Option Nat) (H : Heap) :
    SStep P o [x, y] [.sl b off n sz cp, .nils] H (.int .i64 0) H :=
  .of_pure fun M w a hH hv => by
    obtain ⟨p, q, hy, g1, g2⟩ := hv.two
    obtain ⟨e1, e2⟩ := map2 hy
    simp only [VR] at g1 g2
    subst g2
    subst hc
    obtain ⟨l, hM, ⟨ad, cap, rfl, _⟩ | ⟨rfl, _, rfl⟩⟩ := g1
    · exact ⟨.int .i64 0, by simp [execOp, ho, e1, e2, resolve, invoke, builtin, Builtin.copy_, run_underlying ht, Builtin.lenOf, run_size hs, Builtin.firstCells, storeCells, goInt], rfl⟩
    · exact ⟨.int .i64 0, by simp [execOp, ho, e1, e2, resolve, invoke, builtin, Builtin.copy_, run_underlying ht, Builtin.lenOf, run_size hs, Builtin.firstCells, storeCells, goInt], rfl⟩
theorem s_copy {x y : Operand} {t u : TypeId} {c : Call} (ho : o.op = .call c) (hc : c = { callee := .builtin .copy, args := #[x, y], argTypes := #[t, u] }) {e : TypeId} (ht : P.underlying t = some (.slice e)) {sz : Nat} (hs : (P.info? e).map (·.size) = some sz)
    {b off n : Nat} {cp : Option Nat} {b' off' m sz' : Nat} {cp' : Option Nat} {cs : List AV} {k : Blk} {H : Heap} (hr : rd H b' off' (min m n * sz) = some cs) (hk : blkAt H b = some k) (hown : k.own = true) (hcell : cs.all AV.cell = true) (hl : off + min m n * sz ≤ k.cells.length) :
    SStep P o [x, y] [.sl b off n sz cp, .sl b' off' m sz' cp'] H (.int .i64 (min m n : Nat)) (H.set b (some ⟨setCells k.cells off cs, true⟩)) :=
  .of_run fun M w a hH hv => by
    obtain ⟨p, q, hy, g1, g2⟩ := hv.two
    obtain ⟨e1, e2⟩ := map2 hy
    simp only [VR] at g1 g2
    obtain ⟨l, ad, cap, hM, rfl, c2⟩ : ∃ l ad cap, M.at b = some l ∧ p = .slice ad n cap ∧ (n ≠ 0 → ad = some ⟨l.blk, l.off + off, none⟩) := by
      obtain ⟨l, hM, ⟨ad, cap, rfl, g1, g2, g3⟩ | ⟨rfl, _, rfl⟩⟩ := g1
      · exact ⟨l, some ad, cap, hM, rfl, fun h => by rw [(g2 (by omega)).1]⟩
      · exact ⟨l, none, 0, hM, rfl, fun h => absurd rfl h⟩
    obtain ⟨l', ad', cap', hM', rfl, d2⟩ : ∃ l ad cap, M.at b' = some l ∧ q = .slice ad m cap ∧ (m ≠ 0 → ad = some ⟨l.blk, l.off + off', none⟩) := by
      obtain ⟨l, hM, ⟨ad, cap, rfl, g1, g2, g3⟩ | ⟨rfl, _, rfl⟩⟩ := g2
      · exact ⟨l, some ad, cap, hM, rfl, fun h => by rw [(g2 (by omega)).1]⟩
      · exact ⟨l, none, 0, hM, rfl, fun h => absurd rfl h⟩
    obtain ⟨_, _, _, _, hcl⟩ := rd_some hr
    obtain ⟨l2, xs, hM2, hrun, hvs, hxl⟩ := run_rd (P := P) hH hr (by rw [hM']; rfl)
    rw [hM'] at hM2
    cases hM2
    obtain ⟨w', r1, r2, r3⟩ := run_st (P := P) cs xs H w b k l off hH (Kept.refl M H w) (blkAt_some hk) hown hM (by omega) hcell hvs 0 (l.off + off) (by omega)
    refine ⟨.value (.int .i64 (min m n : Nat)), _, w', M, ?_, .inl rfl, r2, r3, rfl⟩
    subst hc
    have hmin : Nat.min m n = min m n := rfl
    by_cases h0 : min m n = 0
    · rw [h0] at hxl hrun ⊢
      have hx : xs = [] := List.eq_nil_of_length_eq_zero (by simpa using hxl)
      subst hx
      have hw : w' = w := by simp [storeCells] at r1; exact r1.symm
      subst hw
      cases ad <;> cases ad' <;> simp [execOp, ho, e1, e2, resolve, invoke, builtin, Builtin.copy_, run_underlying ht, Builtin.lenOf, run_size hs, Builtin.firstCells, hmin, h0, goInt, loadCells, loadCellsFrom, storeCells]
    · obtain rfl := c2 (by omega)
      obtain rfl := d2 (by omega)
      simp [execOp, ho, e1, e2, resolve, invoke, builtin, Builtin.copy_, run_underlying ht, Builtin.lenOf, run_size hs, Builtin.firstCells, hmin, hrun w rfl, r1, goInt]
theorem s_appZ {x y : Operand} {t u : TypeId} {c : Call} (ho : o.op = .call c) (hc : c = { callee := .builtin .append, args := #[x, y], argTypes := #[t, u] }) {e : TypeId} (ht : P.underlying t = some (.slice e)) {ku : IntKind} (hu : P.underlying u = some (.int ku))
    {i : TypeInfo} (hi : P.info? e = some i) {z : Value} (hz : i.zero = some z) (hzs : z.cells.size = i.size) (hb : i.bytes ≠ 0) (hsz : i.size ≠ 0) {zs : List AV} (hc0 : ∀ M, VRs M zs z.cells.toList) {k : IntKind} {n : Int} (h0 : 0 < n) (hl : n * i.bytes ≤ 140737488355328) (hn : n ≤ 4611686018427387904) (H : Heap) :
    SStep P o [x, y] [.nils, .int k n] H (.sl H.length 0 n.toNat i.size none) (H ++ [some ⟨(List.replicate n.toNat zs).flatten, true⟩]) :=
  .of_run fun M w a hH hv => by
    obtain ⟨p, q, hy, g1, g2⟩ := hv.two
    obtain ⟨e1, e2⟩ := map2 hy
    simp only [VR] at g1 g2
    subst g1; subst g2
    have hw : IntKind.i64.wrap n = n := IntWalk.i64_in n (by omega)
    obtain ⟨m, rfl⟩ : ∃ m : Nat, n = m := ⟨n.toNat, by omega⟩
    have hm0 : m ≠ 0 := by omega
    have hl' : m * i.bytes ≤ 140737488355328 := by
      rw [← Int.natCast_mul] at hl
      omega
    have h4 : ¬ 281474976710656 < Builtin.nextslicecap m 0 * i.bytes := Nat.not_lt.2 (growslice_fits (old := 0) (need := m) (by omega) hl')
    have n5 : ¬ ((m : Int) < 0) := by omega
    have n6 : ¬ ((9223372036854775807 : Int) < (m : Int)) := by omega
    have n2 : ¬ (281474976710656 : Int) < (m : Int) * (i.bytes : Int) := by omega
    have n3 : ¬ (IntKind.i64.max < (m : Int)) := by
      have : IntKind.i64.max = 9223372036854775807 := by rfl
      omega
    generalize hC : (Question.appendCap m 0 e).cut (w.tape w.drawn (.appendCap m 0 e)) = C
    have hcm : m ≤ C := by rw [← hC]; exact Nat.le_add_right _ _
    have hzc : (Builtin.zeroCells z.cells m).toList = (List.replicate m z.cells.toList).flatten := by
      rw [← made_eq]
      simp [Builtin.zeroCells]
    have hzr : (Builtin.zeroCells z.cells (C - m)).toList.length = (C - m) * i.size := by simp [Builtin.zeroCells, hzs]
    have hvr : VRs M ((List.replicate m zs).flatten ++ List.replicate ((C - m) * i.size) .any) ((List.replicate m z.cells.toList).flatten ++ (Builtin.zeroCells z.cells (C - m)).toList) := by
      refine ((hc0 M).rep m).append (VRs.mk (by simp only [hzr, List.length_replicate]) fun j q hq => ?_)
      have hj := List.getElem?_eq_some_iff.1 hq
      obtain ⟨g1, g2⟩ := hj
      simp only [List.length_replicate] at g1
      rw [List.getElem_replicate] at g2
      subst g2
      exact ⟨_, List.getElem?_eq_getElem (by rw [hzr]; exact g1), trivial⟩
    refine ⟨.value (.slice (some ⟨w.heap.size, 0, none⟩) m C), _, w.drew.alloc (.cells ((List.replicate m z.cells.toList).flatten ++ (Builtin.zeroCells z.cells (C - m)).toList).toArray e), _, ?_, .inl rfl, HRel.shrink ((hH.drew).alloc e hvr), Kept.shrink (ds := []) ((Kept.refl M H w).draw.alloc _ _ _), ?_⟩
    · subst hc
      have hmi : ¬ (m * i.size = 0) := by
        intro h
        rcases Nat.mul_eq_zero.1 h with h | h
        · exact hm0 h
        · exact hsz h
      have harr : ((List.replicate m z.cells.toList).flatten ++ (Builtin.zeroCells z.cells (C - m)).toList).toArray = Builtin.zeroCells z.cells m ++ Builtin.zeroCells z.cells (C - m) := by
        apply Array.ext'
        rw [Array.toList_append, hzc]
      rw [harr]
      simp [execOp, ho, e1, e2, resolve, invoke, builtin, Builtin.append_, run_underlying ht, run_underlying hu, sizeOf, run_info hi, asInt, asIntOf, hw, n2, hm0, h4, Question.forced, Builtin.firstCells, zeroValue, hz, newRow, hC, n5, n6, hb, hmi]
    · simp only [VR]
      refine ⟨⟨w.heap.size, 0, _, false⟩, Val.at_in (if_pos rfl) rfl, .inl ⟨_, C, rfl, by omega, fun _ => ⟨rfl, ?_⟩, fun k hk => by cases hk⟩⟩
      have : ((List.replicate m z.cells.toList).flatten ++ (Builtin.zeroCells z.cells (C - m)).toList).length = C * i.size := by
        rw [List.length_append, hzr]
        simp [List.length_flatten, hzs, ← Nat.add_mul]
        congr 1
        omega
      simp only [List.length_append, Array.length_toList, List.length_flatten, List.map_replicate, List.sum_replicate_nat, hzs] at this ⊢
      omega
end
end Go.Proofs.Ytaiboicipbhmhaa.Ah
namespace Go.Proofs.Ytaiboicipbhmhaa.Ah
open Go
section
variable {P : Program} {o : Oper}
theorem strC_vr {M : Val} : ∀ {cs : List AV} {xs : List Value} {bs : List UInt8}, VRs M cs xs → strC cs = some bs → ∃ ns : List Int, xs = ns.map (Value.int .u8) ∧ ns.map (fun n => UInt8.ofNat n.toNat) = bs
  | [], xs, bs, h, hb => by
    simp only [VRs] at h
    subst h
    simp [strC] at hb
    subst hb
    exact ⟨[], rfl, rfl⟩
  | c :: cs, xs, bs, h, hb => by
    simp only [VRs] at h
    obtain ⟨x, xs, rfl, h1, h2⟩ := h
    unfold strC at hb
    split at hb
    · rename_i e
      cases e
    · rename_i n r e
      cases e
      obtain ⟨bs', h3, rfl⟩ := Option.map_eq_some_iff.1 hb
      obtain ⟨ns, rfl, rfl⟩ := strC_vr h2 h3
      simp only [VR] at h1
      subst h1
      exact ⟨n :: ns, rfl, rfl⟩
    · cases hb
theorem s_strOf {s d : TypeId} {x : Operand} (ho : o.op = .convert s d x) {e : TypeId} (hs : P.underlying s = some (.slice e)) (he : P.underlying e = some (.int .u8)) (hd : P.underlying d = some .string) {v : AV} {cs : List AV} {n : Nat} {H : Heap} (hr : rdS H v = some (cs, n))
    (hsv : ∀ b off k s c, v = .sl b off k s c → s = 1) {bs : List UInt8} (hb : strC cs = some bs) : SStep P o [x] [v] H (.str ⟨bs.toArray⟩) H :=
  .of_pure fun M w a hH hv => by
    obtain ⟨y, hy, h1⟩ := hv.one
    have ey := map1 hy
    refine ⟨.string ⟨bs.toArray⟩, ?_, by simp only [VR]⟩
    have key : (convert s d y).run P w = .ok (.string ⟨bs.toArray⟩) w := by
      cases v with
      | nils =>
        simp only [rdS, Option.some.injEq, Prod.mk.injEq] at hr
        obtain ⟨rfl, rfl⟩ := hr
        simp [strC] at hb
        subst hb
        simp only [VR] at h1
        subst h1
        rw [run_convert_bytes_string w s d e _ _ _ hs he hd]
        simp [Conv.bytesToString]
        rfl
      | sl b off k s' c =>
        obtain rfl := hsv _ _ _ _ _ rfl
        simp only [rdS] at hr
        obtain ⟨cs', g1, g2⟩ := Option.map_eq_some_iff.1 hr
        simp only [Prod.mk.injEq] at g2
        obtain ⟨rfl, rfl⟩ := g2
        simp only [VR] at h1
        obtain ⟨l', xs, hM', hrun, hvs, hl⟩ := run_rd (P := P) hH g1 (by obtain ⟨l, hM, _⟩ := h1; rw [hM]; rfl)
        obtain ⟨ns, rfl, rfl⟩ := strC_vr hvs hb
        obtain ⟨l, hM, ⟨ad, cap, rfl, c1, c2, c3⟩ | ⟨rfl, _, rfl⟩⟩ := h1
        · rw [hM] at hM'
          cases hM'
          rw [run_convert_bytes_string w s d e _ _ _ hs he hd]
          by_cases hk : k = 0
          · subst hk
            simp at hl
            subst hl
            rw [run_bytesToString w ad 0 cap [] (by simp [loadCells, loadCellsFrom])]
            rfl
          · obtain ⟨rfl, _⟩ := c2 (by omega)
            rw [run_bytesToString w _ k cap ns (by simpa using hrun w rfl), foldl_push_bytes]
            simp
        · simp at hl
          subst hl
          rw [run_convert_bytes_string w s d e _ _ _ hs he hd]
          simp [Conv.bytesToString]
          rfl
      | _ => simp [rdS] at hr
    simp [execOp, ho, ey, key]
theorem freeze_heap (w : World) (b n : Nat) {arr : Array Value} {elem : TypeId} {fr : Nat × Nat} (h : w.heap[b]? = some (.cells arr elem fr)) :
    (w.freeze ⟨b, n, none⟩ 1).heap[b]? = some (.cells arr elem (if fr.1 == fr.2 then (n, n + 1) else (min fr.1 n, max fr.2 (n + 1)))) := by
  unfold World.freeze
  rw [if_neg (by decide)]
  simp only [Array.getElem?_modify, if_true, h, Option.map_some]
theorem freeze_other (w : World) (b n i : Nat) (h : i ≠ b) : (w.freeze ⟨b, n, none⟩ 1).heap[i]? = w.heap[i]? := by
  unfold World.freeze
  rw [if_neg (by decide)]
  simp only [Array.getElem?_modify]
  rw [if_neg (fun e => h e.symm)]
theorem HRel.freeze {M : Val} {H : Heap} {w : World} (h : HRel M H w) {i : Nat} {b : Blk} {l : Loc} (hb : H[i]? = some (some b)) (ho : b.own = true) (hla : M.at i = some l) : HRel M H (w.freeze ⟨l.blk, l.size, none⟩ 1) := by
  obtain ⟨hl, hlo⟩ := Val.at_out hla
  refine ⟨h.dom, fun k c hc => ?_, h.sep⟩
  obtain ⟨l', hl', hB⟩ := h.row k c hc
  refine ⟨l', hl', fun ht => ?_⟩
  by_cases hk : k = i
  · subst hk
    rw [hl] at hl'
    cases hl'
    rw [hb] at hc
    cases hc
    obtain ⟨arr, elem, fr, e1, e2, e3, e4⟩ := (hB ht).row hlo
    refine .ofRow ⟨arr, elem, _, freeze_heap w l.blk l.size e1, e2, e3, fun _ => ?_⟩ hlo
    have := e4 ho
    right
    by_cases hf : fr.1 = fr.2
    · simp [hf]; omega
    · simp [hf]; omega
  · refine (hB ht).of_block (freeze_other w _ _ _ fun e => ?_)
    exact h.sep i k b c l l' hb ho hc ht (fun e => hk e.symm) hl hl' e.symm
theorem Kept.freeze {X : Cx} {M : Val} {H : Heap} {w : World} (hk : Kept X M H w) {i : Nat} {b : Blk} {l : Loc} (hb : H[i]? = some (some b)) (ho : b.own = true) (hl : M i = some l) (n : Nat) : Kept X M H (w.freeze ⟨l.blk, n, none⟩ 1) where
  os := hk.os
  tape := hk.tape
  output := hk.output
  size := by have := hk.size; simpa [World.freeze] using this
  block := fun m hm hno => by
    refine (freeze_other w _ _ _ ?_).trans (hk.block m hm hno)
    rintro rfl
    rcases hk.own i b l hb ho hl with h1 | h1
    · omega
    · exact hno h1
  own := hk.own
  ext := hk.ext
  len := hk.len
  loc := hk.loc
theorem s_mark {s : TypeId} {x : Operand} (ho : o.op = .convert s s x) {e : TypeId} (hs : P.underlying s = some (.slice e)) (he : P.underlying e = some (.int .u8)) (b off n k : Nat) {kb : Blk} {H : Heap} (hb : blkAt H b = some kb) (hown : kb.own = true) (hk : 0 < k) :
    SStep P o [x] [.sl b off n 1 (some k)] H (.sl b off n 1 (some k)) H :=
  .of_run fun M w a hH hv => by
    obtain ⟨y, hy, h1⟩ := hv.one
    have ey := map1 hy
    have h1' := h1
    simp only [VR] at h1'
    obtain ⟨l, hM, ⟨ad, cap, rfl, c1, c2, c3⟩ | ⟨_, h2, _⟩⟩ := h1'
    · have hcap := c3 k rfl
      obtain ⟨rfl, _⟩ := c2 (by omega)
      obtain ⟨l', hl', arr, elem, fr, e1, e2, e3, e4⟩ := hH.blk b kb (blkAt_some hb) (.inr hown) (by rw [hM]; rfl)
      rw [hM] at hl'
      cases hl'
      refine ⟨.value (.slice (some ⟨l.blk, l.off + off, none⟩) n cap), _, w.freeze ⟨l.blk, l.size, none⟩ 1, M, ?_, .inl rfl, hH.freeze (blkAt_some hb) hown hM, (Kept.refl M H w).freeze (blkAt_some hb) hown (Val.at_out hM).1 _, h1⟩
      have hsh : w.shape? l.blk = some (elem, l.size) := by unfold World.shape?; rw [e1]; simp [e2]
      simp [execOp, ho, ey, convert, run_underlying hs, run_underlying he, markStringish, hsh]
    · cases h2
end
end Go.Proofs.Ytaiboicipbhmhaa.Ah
namespace Go.Proofs.Ytaiboicipbhmhaa.Ah
open Go
theorem HRel.allocO {M : Val} {H : Heap} {w : World} (h : HRel M H w) (o : Obj) (L : AV) (hL : ObjR (M.put H.length ⟨w.heap.size, 0, 0, true⟩) ⟨[L], true⟩ ⟨w.heap.size, 0, 0, true⟩ (w.alloc o)) :
    HRel (M.put H.length ⟨w.heap.size, 0, 0, true⟩) (H ++ [some ⟨[L], true⟩]) (w.alloc o) := by
  have hle : M.le (M.put H.length ⟨w.heap.size, 0, 0, true⟩) := Val.le_put (h.dom _ (Nat.le_refl _))
  have key : ∀ (i : Nat) (b : Blk), (H ++ [some ⟨[L], true⟩])[i]? = some (some b) → (i < H.length ∧ H[i]? = some (some b)) ∨ (i = H.length ∧ b = ⟨[L], true⟩) := by
    intro i b hb
    by_cases hi : i < H.length
    · rw [List.getElem?_append_left hi] at hb
      exact .inl ⟨hi, hb⟩
    · rw [List.getElem?_append_right (by omega)] at hb
      have hi' : i = H.length := by
        by_cases h0 : i - H.length = 0
        · omega
        · rw [List.getElem?_eq_none (by simp; omega)] at hb; cases hb
      subst hi'
      simp at hb
      exact .inr ⟨rfl, hb.symm⟩
  have old : ∀ i, i < H.length → (M.put H.length ⟨w.heap.size, 0, 0, true⟩) i = M i := fun i hi => by unfold Val.put; rw [if_neg (by omega)]
  have new : (M.put H.length ⟨w.heap.size, 0, 0, true⟩) H.length = some ⟨w.heap.size, 0, 0, true⟩ := by unfold Val.put; rw [if_pos rfl]
  refine ⟨fun i hi => ?_, fun i b hb => ?_, fun i j b c l l' hb ho hc hct hij hl hl' => ?_⟩
  · simp at hi
    unfold Val.put
    rw [if_neg (by omega)]
    exact h.dom i (by omega)
  · rcases key i b hb with ⟨hi, hb⟩ | ⟨rfl, rfl⟩
    · obtain ⟨l, h1, h2⟩ := h.row i b hb
      exact ⟨l, hle _ _ h1, fun ht => ((h2 ht).of_block (heap_alloc_old w _ _ (h2 ht).lt)).mono hle⟩
    · exact ⟨_, new, fun _ => .ofOb hL rfl⟩
  · have far : ∀ (i : Nat) (b : Blk) (l : Loc), H[i]? = some (some b) → b.tells → M i = some l → l.blk < w.heap.size := by
      intro i b l hb ht hl
      obtain ⟨l', h1, h2⟩ := h.row i b hb
      rw [hl] at h1
      cases h1
      exact (h2 ht).lt
    rcases key i b hb with ⟨hi, hb⟩ | ⟨rfl, rfl⟩ <;> rcases key j c hc with ⟨hj, hc⟩ | ⟨rfl, rfl⟩
    · rw [old i hi] at hl
      rw [old j hj] at hl'
      exact h.sep i j b c l l' hb ho hc hct hij hl hl'
    · rw [old i hi] at hl
      rw [new] at hl'
      cases hl'
      have := far i b l hb (.inr ho) hl
      show l.blk ≠ w.heap.size
      omega
    · rw [old j hj] at hl'
      rw [new] at hl
      cases hl
      have := far j c l' hc hct hl'
      show w.heap.size ≠ l'.blk
      omega
    · exact absurd rfl hij
section
variable {P : Program} {o : Oper}
theorem s_mk {t : TypeId} (ho : o.op = .makeMap t none) (H : Heap) : SStep P o [] [] H (.mapp H.length) (H ++ [some ⟨[.mapo [] []], true⟩]) :=
  .of_run fun M w a hH _ => by
    refine ⟨.value (.map (some w.heap.size)), _, w.alloc (.map #[] 0), M.put H.length ⟨w.heap.size, 0, 0, true⟩, ?_, .inl rfl, hH.allocO _ _ ?_, (Kept.refl M H w).alloc _ _ _ true, ?_⟩
    · simp [execOp, ho, Instr.makeMap]
      first | done | rfl
    · unfold ObjR
      exact ⟨#[], 0, heap_alloc_new w _, by simp [VRs], by simp [VRs]⟩
    · simp only [VR]
      exact ⟨_, Val.ob_in (if_pos rfl) rfl, rfl⟩
theorem HRel.map {M : Val} {H : Heap} {w : World} (h : HRel M H w) {b : Nat} {ks vs : List AV} {q : Bool} {l : Loc} (hb : blkAt H b = some ⟨[.mapo ks vs], q⟩) (hl : M.ob b = some l) :
    ∃ es clock, w.heap[l.blk]? = some (.map es clock) ∧ VRs M ks (es.toList.map (·.key)) ∧ VRs M vs (es.toList.map (·.val)) := by
  have := h.obj (blkAt_some hb) (.inl (by simp)) hl
  unfold ObjR at this
  exact this
theorem mget_spec {M : Val} {H : Heap} {w : World} (h : HRel M H w) {m : AV} {ks vs : List AV} (hm : mget H m = some (ks, vs)) {x : Value} (hx : VR M m x) :
    (x = .map none ∧ ks = [] ∧ vs = []) ∨ ∃ r es clock, x = .map (some r) ∧ w.heap[r]? = some (.map es clock) ∧ VRs M ks (es.toList.map (·.key)) ∧ VRs M vs (es.toList.map (·.val)) := by
  unfold mget at hm
  split at hm
  · cases hm
    simp only [VR] at hx
    exact .inl ⟨hx, rfl, rfl⟩
  · split at hm
    · rename_i hb
      cases hm
      simp only [VR] at hx
      obtain ⟨l, hl, rfl⟩ := hx
      obtain ⟨es, clock, h1, h2, h3⟩ := h.map hb hl
      exact .inr ⟨_, es, clock, rfl, h1, h2, h3⟩
    · cases hm
  · cases hm
theorem s_isnil {x : Operand} {y : Operand} {neg : Bool} {t u k e : TypeId} (ho : o.op = .binOp (if neg then .neq else .eql) t x y u) (hy : y = .const (.map none)) (ht : P.underlying t = some (.map k e)) (v : AV) (isn : Bool)
    (hv : ∀ M x, VR M v x → ∃ r, x = .map r ∧ r.isNone = isn) (H : Heap) :
    SStep P o [x] [v] H (.bool (if neg then !isn else isn)) H :=
  .of_pure fun M w a hH hv' => by
    obtain ⟨p, hp, h1⟩ := hv'.one
    have e1 := map1 hp
    obtain ⟨r, rfl, hn⟩ := hv M p h1
    subst hy
    have e2 : a.eval (.const (.map none)) = .map none := rfl
    have hguard : ∀ op : BinOp, (eqGuard op t x (.const (.map none)) (.map r) (.map none)).run P w = .ok () w := by
      intro op
      unfold eqGuard
      cases op <;> rfl
    have hrun := eqv_run (P := P) (neg := neg) (t := t) (p := .map r) (q := .map none) (r := isn) (w := w) (by
      have hq : ∀ d, (Op.equalIn (d + 1) t (.map r) (.map none)).run P w = .ok isn w := by
        intro d
        rw [Op.equalIn]
        cases r <;> simp [run_underlying ht, ← hn]
      rintro op (rfl | rfl)
      · simp only [binOp, Op.equal, Op.maxDepth]
        simp [hq 9999]
      · simp only [binOp, Op.equal, Op.maxDepth]
        simp [hq 9999])
    exact ⟨_, by simp [execOp, ho, e1, e2, hguard, hrun], rfl⟩
theorem s_mlen {x : Operand} {t : TypeId} {c : Call} (ho : o.op = .call c) (hc : c = { callee := .builtin .len, args := #[x], argTypes := #[t] }) {k e : TypeId} (hd : P.underlying t = some (.map k e)) {v : AV} {ks vs : List AV} {H : Heap} (hm : mget H v = some (ks, vs)) :
    SStep P o [x] [v] H (.int .i64 ks.length) H :=
  .of_pure fun M w a hH hv' => by
    obtain ⟨y, hy, h1⟩ := hv'.one
    have e := map1 hy
    subst hc
    refine ⟨.int .i64 ks.length, ?_, rfl⟩
    rcases mget_spec hH hm h1 with ⟨rfl, rfl, rfl⟩ | ⟨r, es, clock, rfl, h2, h3, h4⟩
    · simp [execOp, ho, e, resolve, invoke, builtin, Builtin.len_, run_underlying hd, goInt]
    · have hl : ks.length = es.size := by have := h3.length; simpa using this.symm
      simp [execOp, ho, e, resolve, invoke, builtin, Builtin.len_, run_underlying hd, goInt, MapKept.run_getObj_map h2, hl]
end
end Go.Proofs.Ytaiboicipbhmhaa.Ah
namespace Go.Proofs.Ytaiboicipbhmhaa.Ah
open Go
section
variable {P : Program} {o : Oper}
theorem eqCells_true {M : Val} : ∀ (ks : List LK) (as bs : List AV) (xs ys : List Value), eqCells ks as bs = some true → VRs M as xs → VRs M bs ys → xs = ys
  | [], [], [], xs, ys, _, hx, hy => by simp only [VRs] at hx hy; rw [hx, hy]
  | [], _ :: _, _, _, _, h, _, _ => by simp [eqCells] at h
  | [], [], _ :: _, _, _, h, _, _ => by simp [eqCells] at h
  | k :: ks, [], _, _, _, h, _, _ => by cases k <;> simp [eqCells] at h
  | k :: ks, a :: as, [], _, _, h, _, _ => by cases k <;> cases a <;> simp [eqCells] at h
  | k :: ks, a :: as, b :: bs, xs, ys, h, hx, hy => by
    simp only [VRs] at hx hy
    obtain ⟨x, xs, rfl, hx1, hx⟩ := hx
    obtain ⟨y, ys, rfl, hy1, hy⟩ := hy
    cases k <;> cases a <;> cases b <;> simp only [eqCells] at h <;> (try cases h)
    case int.int.int k p k' q =>
      split at h
      · rename_i hk
        obtain ⟨t, ht, h2⟩ := Option.map_eq_some_iff.1 h
        simp only [Bool.and_eq_true, decide_eq_true_eq] at h2
        obtain ⟨h2, rfl⟩ := h2
        simp only [VR] at hx1 hy1
        rw [eqCells_true ks as bs xs ys ht hx hy, hx1, hy1, hk, h2]
      · cases h
    case bool.bool.bool p q =>
      obtain ⟨t, ht, h2⟩ := Option.map_eq_some_iff.1 h
      simp only [Bool.and_eq_true, decide_eq_true_eq] at h2
      obtain ⟨h2, rfl⟩ := h2
      simp only [VR] at hx1 hy1
      rw [eqCells_true ks as bs xs ys ht hx hy, hx1, hy1, h2]
    case str.str.str p q =>
      obtain ⟨t, ht, h2⟩ := Option.map_eq_some_iff.1 h
      simp only [Bool.and_eq_true, decide_eq_true_eq] at h2
      obtain ⟨h2, rfl⟩ := h2
      simp only [VR] at hx1 hy1
      rw [eqCells_true ks as bs xs ys ht hx hy, hx1, hy1, h2]
theorem eqCells_bits {M : Val} : ∀ (ks : List LK) (as bs : List AV) (xs : List Value) (r : Bool), eqCells ks as bs = some r → VRs M as xs → ∀ n, ∀ p ∈ xs.zip xs, Instr.sameBits n p.1 p.2 = true
  | [], [], [], xs, _, _, hx, _ => by simp only [VRs] at hx; subst hx; simp
  | [], _ :: _, _, _, _, h, _, _ => by simp [eqCells] at h
  | [], [], _ :: _, _, _, h, _, _ => by simp [eqCells] at h
  | k :: ks, [], _, _, _, h, _, _ => by cases k <;> simp [eqCells] at h
  | k :: ks, a :: as, [], _, _, h, _, _ => by cases k <;> cases a <;> simp [eqCells] at h
  | k :: ks, a :: as, b :: bs, xs, r, h, hx, n => by
    simp only [VRs] at hx
    obtain ⟨x, xs, rfl, hx1, hx⟩ := hx
    have rest : ∀ r', eqCells ks as bs = some r' → ∀ p ∈ xs.zip xs, Instr.sameBits n p.1 p.2 = true := fun r' h' => eqCells_bits ks as bs xs r' h' hx n
    intro p hp
    simp only [List.zip_cons_cons, List.mem_cons] at hp
    cases k <;> cases a <;> cases b <;> simp only [eqCells] at h <;> (try cases h)
    case int.int.int k p k' q =>
      split at h
      · obtain ⟨t, ht, _⟩ := Option.map_eq_some_iff.1 h
        rcases hp with rfl | hp
        · simp only [VR] at hx1
          subst hx1
          cases n <;> simp [Instr.sameBits]
        · exact rest t ht _ hp
      · cases h
    case bool.bool.bool p q =>
      obtain ⟨t, ht, _⟩ := Option.map_eq_some_iff.1 h
      rcases hp with rfl | hp
      · simp only [VR] at hx1
        subst hx1
        cases n <;> simp [Instr.sameBits]
      · exact rest t ht _ hp
    case str.str.str p q =>
      obtain ⟨t, ht, _⟩ := Option.map_eq_some_iff.1 h
      rcases hp with rfl | hp
      · simp only [VR] at hx1
        subst hx1
        cases n <;> simp [Instr.sameBits, bytes_beq]
      · exact rest t ht _ hp
theorem isAgg_agg {v : AV} (h : v.isAgg = true) : ∃ cs, v = .agg cs := by
  cases v <;> simp [AV.isAgg] at h
  exact ⟨_, rfl⟩
theorem cells_one {v : AV} (h : v.isAgg = false) : v.cells = [v] := by cases v <;> simp [AV.isAgg] at h <;> rfl
theorem run_ask {key : TypeId} {ks : List LK} {d : Nat} (hk : leafsT P d key = some ks) (hd : d ≤ 10000) (hag : aggB (P.underlying key) = true) {M : Val} {kc : List AV} {us : List Value} (hu : VRs M kc us) (w : World) :
    ∀ (es : List MapEntry) (keys : List AV) (i : Nat) (r : Option Nat), VRs M keys (es.map (·.key)) → mfind ks true kc keys i = some r →
    (r = none ∧ (Instr.findAsking key (.agg us.toArray) es i).run P w = .ok none w) ∨ ∃ j e, r = some (i + j) ∧ es[j]? = some e ∧ e.key = .agg us.toArray ∧ (Instr.findAsking key (.agg us.toArray) es i).run P w = .ok (some (i + j, e.val)) w
  | [], keys, i, r, hv, hm => by
    have : keys = [] := by
      cases keys with
      | nil => rfl
      | cons k ks => simp [VRs] at hv
    subst this
    simp only [mfind] at hm
    cases hm
    exact .inl ⟨rfl, by simp [Instr.findAsking]⟩
  | e :: es, keys, i, r, hv, hm => by
    cases keys with
    | nil => simp [VRs] at hv
    | cons x keys =>
      simp only [List.map_cons, VRs] at hv
      obtain ⟨ek, ekr, he, hx, hv⟩ := hv
      obtain ⟨rfl, rfl⟩ := List.cons.inj he
      simp only [mfind] at hm
      split at hm
      · rename_i hxa
        obtain ⟨cs, rfl⟩ := isAgg_agg hxa
        simp only [VR] at hx
        obtain ⟨ys, hek, hys⟩ := hx
        have run : ∀ t, eqCells ks kc cs = some t → (Op.equal key (.agg us.toArray) e.key).run P w = .ok t w := by
          intro t ht
          have := run_eqT (P := P) d 10000 key ks hk hd kc cs us ys t ht hu hys w
          simp only [valOf, hag, if_true] at this
          rw [hek]
          exact this
        simp only [AV.cells] at hm
        split at hm
        · rename_i ht
          cases hm
          refine .inr ⟨0, e, by simp, rfl, ?_, ?_⟩
          · rw [hek, eqCells_true _ _ _ _ _ ht hu hys]
          · simp [Instr.findAsking, run _ ht]
        · rename_i ht
          have ih := run_ask hk hd hag hu w es keys (i + 1) r hv hm
          rcases ih with ⟨h1, h2⟩ | ⟨j, e', h1, h2, h3, h4⟩
          · exact .inl ⟨h1, by simp [Instr.findAsking, run _ ht, h2]⟩
          · refine .inr ⟨j + 1, e', by rw [h1]; congr 1; omega, by simpa using h2, h3, ?_⟩
            simp only [Instr.findAsking, Sem.run_bind, run _ ht, Result.andThen_ok, Bool.false_eq_true, if_false, h4]
            rw [show i + (j + 1) = i + 1 + j by omega]
        · cases hm
      · cases hm
theorem run_now {kk : IntKind} {M : Val} {k1 : IntKind} {a : Int} :
    ∀ (es : List MapEntry) (keys : List AV) (i : Nat) (r : Option Nat), VRs M keys (es.map (·.key)) → mfind [.int] false [.int k1 a] keys i = some r →
    (r = none ∧ Instr.findNow (.int kk) (.int k1 a) es i = some none) ∨ ∃ j e, r = some (i + j) ∧ es[j]? = some e ∧ e.key = .int k1 a ∧ Instr.findNow (.int kk) (.int k1 a) es i = some (some (i + j, e.val))
  | [], keys, i, r, hv, hm => by
    have : keys = [] := by
      cases keys with
      | nil => rfl
      | cons k ks => simp [VRs] at hv
    subst this
    simp only [mfind] at hm
    cases hm
    exact .inl ⟨rfl, rfl⟩
  | e :: es, keys, i, r, hv, hm => by
    cases keys with
    | nil => simp [VRs] at hv
    | cons x keys =>
      simp only [List.map_cons, VRs] at hv
      obtain ⟨ek, ekr, he, hx, hv⟩ := hv
      obtain ⟨rfl, rfl⟩ := List.cons.inj he
      simp only [mfind] at hm
      split at hm
      · rename_i hxa
        rw [cells_one hxa] at hm
        cases x <;> simp only [eqCells] at hm <;> (try cases hm)
        rename_i k2 b
        simp only [VR] at hx
        by_cases hk : k1 = k2
        · subst hk
          rw [if_pos rfl] at hm
          simp only [Option.map_some, Bool.and_true] at hm
          by_cases hab : a = b
          · subst hab
            simp only [decide_true] at hm
            cases hm
            exact .inr ⟨0, e, by simp, rfl, hx, by simp [Instr.findNow, Instr.sameNow, hx]⟩
          · simp only [hab, decide_false] at hm
            have hbe : (a == b) = false := by simpa using hab
            have ih := run_now (kk := kk) es keys (i + 1) r hv hm
            rcases ih with ⟨h1, h2⟩ | ⟨j, e', h1, h2, h3, h4⟩
            · exact .inl ⟨h1, by simp [Instr.findNow, Instr.sameNow, hx, hbe, h2]⟩
            · refine .inr ⟨j + 1, e', by rw [h1]; congr 1; omega, by simpa using h2, h3, ?_⟩
              simp [Instr.findNow, Instr.sameNow, hx, hbe, h4]
              omega
        · rw [if_neg hk] at hm
          cases hm
      · cases hm
def intT (P : Program) (t : TypeId) : Bool := match P.underlying t with | some (.int _) => true | _ => false
def mapKey (P : Program) (t : TypeId) (ks : List LK) (agg : Bool) : Bool := match P.underlying t with
  | some (.map key _) => match P.underlying key with
    | some (.int _) => !agg && decide (ks = [.int])
    | some (.struct fs) => agg && decide (leafsT P 9999 key = some ks) && fs.toList.all fun f => intT P f.type
    | _ => false
  | _ => false
def zRight (P : Program) (t : TypeId) (zagg : Bool) : Bool := match (P.info? t).bind (·.zero) with
  | some (.agg _) => zagg
  | some _ => !zagg
  | none => false
theorem run_find {t key e0 : TypeId} (hu : P.underlying t = some (.map key e0)) {ks : List LK} {agg : Bool} (hm : mapKey P t ks agg = true) {M : Val} {k : AV} (hkd : keyed ks agg k = true) {kv : Value} (hv : VR M k kv) (w : World)
    {es : List MapEntry} {keys : List AV} {r : Option Nat} (hes : VRs M keys (es.map (·.key))) (hf : mfind ks agg k.cells keys 0 = some r) :
    ((r = none ∧ (Instr.findKey key kv es).run P w = .ok none w) ∨ ∃ j e, r = some j ∧ es[j]? = some e ∧ e.key = kv ∧ (Instr.findKey key kv es).run P w = .ok (some (j, e.val)) w) ∧ Instr.sameBits 10000 kv kv = true := by
  unfold keyed at hkd
  simp only [Bool.and_eq_true, beq_iff_eq] at hkd
  obtain ⟨hag, heq⟩ := hkd
  obtain ⟨b, hb⟩ := Option.isSome_iff_exists.1 heq
  unfold mapKey at hm
  rw [hu] at hm
  simp only at hm
  split at hm
  · rename_i kk hk
    simp only [Bool.and_eq_true, Bool.not_eq_true', decide_eq_true_eq] at hm
    obtain ⟨rfl, rfl⟩ := hm
    rw [cells_one hag] at hb hf
    cases k <;> simp only [eqCells] at hb <;> (try cases hb)
    rename_i k1 a
    simp only [VR] at hv
    subst hv
    refine ⟨?_, by simp [Instr.sameBits]⟩
    rcases run_now (kk := kk) es keys 0 r hes hf with ⟨h1, h2⟩ | ⟨j, e, h1, h2, h3, h4⟩
    · exact .inl ⟨h1, by simp [Instr.findKey, run_underlying hk, h2]⟩
    · rw [Nat.zero_add] at h1 h4
      exact .inr ⟨j, e, h1, h2, h3, by simp [Instr.findKey, run_underlying hk, h4]⟩
  · rename_i fs hk
    simp only [Bool.and_eq_true, decide_eq_true_eq] at hm
    obtain ⟨⟨rfl, hl⟩, _⟩ := hm
    obtain ⟨cs, rfl⟩ := isAgg_agg hag
    simp only [VR] at hv
    obtain ⟨us, rfl, hus⟩ := hv
    simp only [AV.cells] at hb hf
    refine ⟨?_, ?_⟩
    · rw [run_findKey_eq w (by rw [hk]) _ _]
      rcases run_ask hl (by omega) (by rw [hk]; rfl) hus w es keys 0 r hes hf with ⟨h1, h2⟩ | ⟨j, e, h1, h2, h3, h4⟩
      · exact .inl ⟨h1, h2⟩
      · rw [Nat.zero_add] at h1 h4
        exact .inr ⟨j, e, h1, h2, h3, h4⟩
    · have := eqCells_bits ks cs cs us b hb hus 9999
      simp only [Instr.sameBits]
      simp only [beq_self_eq_true, Bool.true_and, List.all_eq_true]
      exact fun p hp => this p hp
  · cases hm
end
end Go.Proofs.Ytaiboicipbhmhaa.Ah
namespace Go.Proofs.Ytaiboicipbhmhaa.Ah
open Go
section
variable {P : Program} {o : Oper}
theorem run_chkF {M : Val} {em : Bool} {n : Nat} (w : World) : ∀ (fs : List Field) (d off : Nat) (ks : List LK), leafsF P d off fs = some ks → fs.all (fun f => intT P f.type) = true → ∀ (as : List AV) (xs : List Value) (r : Bool), eqCells ks (as.drop off) (as.drop off) = some r → VRs M as xs → off ≤ as.length →
    (forIn fs PUnit.unit (fun f _ => (if f.name ≠ "_" then (do let x ← part f.type xs.toArray f.offset; Instr.checkKey em (n + 1) f.type x; pure (ForInStep.yield PUnit.unit)) else pure (ForInStep.yield PUnit.unit) : Sem (ForInStep PUnit)))).run P w = .ok PUnit.unit w
  | [], _, _, _, _, _, _, _, _, _, _, _ => by simp
  | f :: fs, 0, _, _, h, _, _, _, _, _, _, _ => by simp [leafsF] at h
  | f :: fs, d + 1, off, ks, h, hi, as, xs, r, he, hx, ho => by
    simp only [leafsF] at h
    split at h
    · rename_i l l' h1 h2
      split at h
      · rename_i h3
        obtain ⟨hn, hof, hlen⟩ := h3
        cases h
        simp only [List.all_cons, Bool.and_eq_true] at hi
        obtain ⟨hi1, hi2⟩ := hi
        obtain ⟨p, q, hp, hq, rfl⟩ := eqCells_split he
        obtain ⟨ds, hu, hc, hagg⟩ := leafs_under h1
        have hxl := hx.length
        obtain ⟨g1, g2⟩ := eqCells_len _ _ _ _ he
        simp only [List.length_drop, List.length_append] at g1 g2
        have hinfo := cellsOf_info' (P := P) hu
        rw [hlen] at hinfo
        unfold intT at hi1
        rw [hu] at hi1
        split at hi1
        · rename_i kk hk
          cases hk
          simp only [List.forIn_cons, bind_assoc, Sem.run_bind, hn, ne_eq, not_false_eq_true, if_true]
          rw [run_part hu hinfo hagg (by rw [hof]; omega), Result.andThen_ok]
          have hck : (Instr.checkKey em (n + 1) f.type (valOf P f.type ((xs.drop f.offset).take l.length))).run P w = .ok () w := by
            rw [Instr.checkKey]
            simp only [Sem.run_bind, run_underlying hu, Result.andThen_ok]
            rfl
          rw [hck, Result.andThen_ok]
          simp only [Sem.run_pure, Result.andThen_ok]
          rw [List.drop_drop] at hq
          exact run_chkF w fs d (off + P.cellsOf f.type) l' h2 hi2 as xs q (by rw [hlen]; exact hq) hx (by rw [hlen]; omega)
        · cases hi1
      · cases h
    · cases h
theorem run_chk {t key e0 : TypeId} (hu : P.underlying t = some (.map key e0)) {ks : List LK} {agg : Bool} (hm : mapKey P t ks agg = true) {M : Val} {k : AV} (hkd : keyed ks agg k = true) {kv : Value} (hv : VR M k kv) (em : Bool) (n : Nat) (w : World) :
    (Instr.checkKey em (n + 2) key kv).run P w = .ok () w := by
  unfold keyed at hkd
  simp only [Bool.and_eq_true, beq_iff_eq] at hkd
  obtain ⟨hag, heq⟩ := hkd
  obtain ⟨b, hb⟩ := Option.isSome_iff_exists.1 heq
  unfold mapKey at hm
  rw [hu] at hm
  simp only at hm
  split at hm
  · rename_i kk hk
    rw [Instr.checkKey]
    simp only [Sem.run_bind, run_underlying hk, Result.andThen_ok]
    rfl
  · rename_i fs hk
    simp only [Bool.and_eq_true, decide_eq_true_eq] at hm
    obtain ⟨⟨rfl, hl⟩, hint⟩ := hm
    obtain ⟨cs, rfl⟩ := isAgg_agg hag
    simp only [VR] at hv
    obtain ⟨us, rfl, hus⟩ := hv
    simp only [AV.cells] at hb
    rw [show (9999 : Nat) = 9998 + 1 from rfl] at hl
    simp only [leafsT, hk] at hl
    cases hl2 : leafsF P 9998 0 fs.toList with
    | none => rw [hl2] at hl; cases hl
    | some l =>
      rw [hl2] at hl
      simp only at hl
      split at hl
      · cases hl
        have := run_chkF (P := P) (em := em) (n := n) w fs.toList _ 0 ks hl2 hint cs us b (by simpa using hb) hus (by omega)
        rw [Instr.checkKey]
        simp only [Sem.run_bind, run_underlying hk, Result.andThen_ok]
        rw [← Array.forIn_toList, this]
        rfl
      · cases hl
  · cases hm
theorem zval {t : TypeId} {z : List AV} {zagg : Bool} {zv : Value} (hz : (P.info? t).bind (·.zero) = some zv) (hc : ∀ M, VRs M z zv.cells.toList) (h1 : zagg = false → z.length = 1) (hr : zRight P t zagg = true) (M : Val) : VR M (if zagg then .agg z else z.headD .any) zv := by
  unfold zRight at hr
  rw [hz] at hr
  split at hr
  · rename_i cs hcs
    cases hcs
    subst hr
    simp only [if_true, VR]
    exact ⟨cs.toList, by simp, hc M⟩
  · rename_i hne hcs
    cases hcs
    simp only [Bool.not_eq_true'] at hr
    subst hr
    have hl := h1 rfl
    obtain ⟨a, rfl⟩ := List.length_eq_one_iff.1 hl
    have : zv.cells = #[zv] := by
      cases zv <;> first | rfl | (exact absurd rfl (hne _))
    have h2 := hc M
    rw [this] at h2
    obtain ⟨x, hx, h3⟩ := h2.one
    simp at hx
    subst hx
    simpa using h3
  · cases hr
theorem s_lkp {t key e0 : TypeId} {x i : Operand} {ok : Bool} (ho : o.op = .lookup t x i ok) (hu : P.underlying t = some (.map key e0)) {ks : List LK} {agg : Bool} (hm : mapKey P t ks agg = true) {z : List AV} {zagg : Bool} {zv : Value} (hz : (P.info? e0).bind (·.zero) = some zv) (hc : ∀ M, VRs M z zv.cells.toList)
    (h1 : zagg = false → z.length = 1) (hr : zRight P e0 zagg = true) {m k v : AV} {H : Heap} {keys vals : List AV} {r : Option Nat} (hkd : keyed ks agg k = true) (hg : mget H m = some (keys, vals)) (hf : mfind ks agg k.cells keys 0 = some r) (hv : mres z zagg ok vals r = some v) :
    SStep P o [x, i] [m, k] H v H :=
  .of_pure fun M w a hH hv' => by
    obtain ⟨x', y', hy, g1, g2⟩ := hv'.two
    obtain ⟨e1, e2⟩ := map2 hy
    have hzv := zval hz hc h1 hr M
    have fin : ∀ (es : Array MapEntry), VRs M keys (es.toList.map (·.key)) → VRs M vals (es.toList.map (·.val)) →
        ∃ xv, (do
          Instr.checkKey es.isEmpty 10000 key y'
          let (v, b) ← match ← Instr.findKey key y' es.toList with
            | some (_, v) => pure (v, true)
            | none => pure (← zeroValue e0, false)
          pure (if ok then .tuple #[v, .bool b] else v) : Sem Value).run P w = .ok xv w ∧ VR M v xv := by
      intro es k1 k2
      simp only [Sem.run_bind]
      rw [run_chk hu hm hkd g2 _ 9998 w, Result.andThen_ok]
      rcases (run_find hu hm hkd g2 w k1 hf).1 with ⟨rfl, q1⟩ | ⟨j, e, rfl, q1, q2, q3⟩
      · rw [q1, Result.andThen_ok]
        simp only [mres] at hv
        cases hv
        refine ⟨if ok = true then .tuple #[zv, .bool false] else zv, ?_, ?_⟩
        · simp [run_zero hz]
        · cases ok with
          | true =>
            simp only [if_true, VR]
            exact ⟨[zv, .bool false], rfl, by simp only [VRs]; exact ⟨zv, _, rfl, hzv, _, [], rfl, rfl, rfl⟩⟩
          | false => simpa using hzv
      · rw [q3, Result.andThen_ok]
        simp only [mres] at hv
        obtain ⟨v0, hv0, hv⟩ := Option.map_eq_some_iff.1 hv
        obtain ⟨xv, hxv, hr0⟩ := k2.get j v0 hv0
        have : xv = e.val := by
          rw [List.getElem?_map, q1] at hxv
          simpa using hxv.symm
        subst this
        refine ⟨if ok = true then .tuple #[e.val, .bool true] else e.val, ?_, ?_⟩
        · simp
        · cases ok with
          | true =>
            simp only [if_true] at hv
            subst hv
            simp only [VR]
            exact ⟨[e.val, .bool true], rfl, by simp only [VRs]; exact ⟨_, _, rfl, hr0, _, [], rfl, rfl, rfl⟩⟩
          | false =>
            simp only [Bool.false_eq_true, if_false] at hv ⊢
            subst hv
            exact hr0
    rcases mget_spec hH hg g1 with ⟨rfl, rfl, rfl⟩ | ⟨b, es, clock, rfl, g3, g4, g5⟩
    · obtain ⟨xv, q1, q2⟩ := fin #[] (by simp [VRs]) (by simp [VRs])
      refine ⟨xv, ?_, q2⟩
      simp only [Sem.run_bind] at q1
      rw [show (execOp a.eval o).run P w = ((Instr.lookup t (.map none) y' ok).run P w).andThen fun v w' => .ok (.value v) w' by simp [execOp, ho, e1, e2]]
      have : (Instr.lookup t (.map none) y' ok).run P w = .ok xv w := by
        unfold Instr.lookup
        simp only [Sem.run_bind, run_underlying hu, Result.andThen_ok, Sem.run_pure]
        exact q1
      rw [this]
      rfl
    · obtain ⟨xv, q1, q2⟩ := fin es g4 g5
      refine ⟨xv, ?_, q2⟩
      simp only [Sem.run_bind] at q1
      rw [show (execOp a.eval o).run P w = ((Instr.lookup t (.map (some b)) y' ok).run P w).andThen fun v w' => .ok (.value v) w' by simp [execOp, ho, e1, e2]]
      have : (Instr.lookup t (.map (some b)) y' ok).run P w = .ok xv w := by
        unfold Instr.lookup
        simp only [Sem.run_bind, run_underlying hu, Result.andThen_ok, MapKept.run_getObj_map g3, Sem.run_pure]
        exact q1
      rw [this]
      rfl
theorem VRs.set_all {M : Val} : ∀ (vs : List AV) (us : List Value), VRs M vs us → ∀ (i : Nat) (v : AV) (x : Value), VR M v x → VRs M (vs.set i v) (us.set i x)
  | [], us, h, i, v, x, hx => by simp only [VRs] at h; subst h; simp [VRs]
  | a :: vs, us, h, i, v, x, hx => by
    simp only [VRs] at h
    obtain ⟨u, us, rfl, h1, h2⟩ := h
    cases i with
    | zero => simp only [List.set_cons_zero, VRs]; exact ⟨_, _, rfl, hx, h2⟩
    | succ i => simp only [List.set_cons_succ, VRs]; exact ⟨_, _, rfl, h1, VRs.set_all vs us h2 i v x hx⟩
theorem VRs.snoc {M : Val} {vs : List AV} {us : List Value} (h : VRs M vs us) {v : AV} {x : Value} (hx : VR M v x) : VRs M (vs ++ [v]) (us ++ [x]) :=
  h.append (by simp only [VRs]; exact ⟨x, [], rfl, hx, rfl⟩)
theorem s_upd {t key e0 : TypeId} {x i y : Operand} (ho : o.op = .mapUpdate t x i y ∨ o.op = .insert t x i y) (hu : P.underlying t = some (.map key e0)) {ks : List LK} {agg : Bool} (hm : mapKey P t ks agg = true) {b : Nat} {k v : AV} {H : Heap} {keys vals : List AV} {r : Option Nat}
    (hkd : keyed ks agg k = true) (hb : blkAt H b = some ⟨[.mapo keys vals], true⟩) (hf : mfind ks agg k.cells keys 0 = some r) :
    SStep P o [x, i, y] [.mapp b, k, v] H (.tup []) (H.set b (some ⟨[mput keys vals k v r], true⟩)) :=
  .of_run fun M w a hH hv' => by
    obtain ⟨x', k', v', hy, g1, g2, g3⟩ := hv'.three
    obtain ⟨e1, e2, e3⟩ := map3 hy
    simp only [VR] at g1
    obtain ⟨l, hl, rfl⟩ := g1
    obtain ⟨es, clock, m1, m2, m3⟩ := hH.map hb hl
    obtain ⟨hfind, hbits⟩ := run_find hu hm hkd g2 w m2 hf
    have hrun : ∃ es' clock', (Instr.mapUpdate t (.map (some l.blk)) k' v').run P w = .ok () { w with heap := w.heap.setIfInBounds l.blk (.map es' clock') } ∧ ∃ kz vz, mput keys vals k v r = .mapo kz vz ∧ VRs M kz (es'.toList.map (·.key)) ∧ VRs M vz (es'.toList.map (·.val)) := by
      rcases hfind with ⟨rfl, q1⟩ | ⟨j, e, rfl, q1, q2, q3⟩
      · refine ⟨es.push { key := k', val := v', born := clock }, clock + 1, ?_, _, _, rfl, ?_, ?_⟩
        · unfold Instr.mapUpdate
          simp only [Sem.run_bind, run_underlying hu, Result.andThen_ok, MapKept.run_getObj_map m1, run_chk hu hm hkd g2 _ 9998 w, q1]
          exact MapKept.run_setObj_map _ m1
        · simpa using m2.snoc g2
        · simpa using m3.snoc g3
      · refine ⟨es.modify j fun e => { e with key := k', val := v' }, clock, ?_, _, _, rfl, ?_, ?_⟩
        · unfold Instr.mapUpdate
          simp only [Sem.run_bind, run_underlying hu, Result.andThen_ok, MapKept.run_getObj_map m1, run_chk hu hm hkd g2 _ 9998 w, q3]
          have hkey : (Instr.keyThatStays ((Option.map (fun x => x.key) es[j]?).getD k') k').run P w = .ok k' w := by
            have : es[j]? = some e := by rw [← Array.getElem?_toList]; exact q1
            unfold Instr.keyThatStays
            rw [this]
            simp [q2, hbits]
          rw [hkey, Result.andThen_ok]
          exact MapKept.run_setObj_map _ m1
        · have : (es.modify j fun e => { e with key := k', val := v' }).toList.map (·.key) = (es.toList.map (·.key)).set j k' := by
            apply List.ext_getElem?
            intro n
            simp only [List.getElem?_map, Array.getElem?_toList, Array.getElem?_modify, List.getElem?_set, List.length_map, Array.length_toList]
            by_cases hn : j = n
            · subst hn
              have he : es[j]? = some e := by rw [← Array.getElem?_toList]; exact q1
              have hlt : j < es.size := by
                rcases Nat.lt_or_ge j es.size with h | h
                · exact h
                · rw [Array.getElem?_eq_none h] at he; cases he
              simp [hlt]
            · simp [hn]
          rw [this]
          exact VRs.set_all _ _ m2 _ _ _ g2
        · have : (es.modify j fun e => { e with key := k', val := v' }).toList.map (·.val) = (es.toList.map (·.val)).set j v' := by
            apply List.ext_getElem?
            intro n
            simp only [List.getElem?_map, Array.getElem?_toList, Array.getElem?_modify, List.getElem?_set, List.length_map, Array.length_toList]
            by_cases hn : j = n
            · subst hn
              have he : es[j]? = some e := by rw [← Array.getElem?_toList]; exact q1
              have hlt : j < es.size := by
                rcases Nat.lt_or_ge j es.size with h | h
                · exact h
                · rw [Array.getElem?_eq_none h] at he; cases he
              simp [hlt]
            · simp [hn]
          rw [this]
          exact VRs.set_all _ _ m3 _ _ _ g3
    obtain ⟨es', clock', hrun, kz, vz, hput, hkz, hvz⟩ := hrun
    have hlt : l.blk < w.heap.size := by
      rcases Nat.lt_or_ge l.blk w.heap.size with h | h
      · exact h
      · rw [Array.getElem?_eq_none h] at m1; cases m1
    have hother : ∀ n, n ≠ l.blk → (w.heap.setIfInBounds l.blk (.map es' clock'))[n]? = w.heap[n]? := fun n hn => by
      rw [Array.getElem?_setIfInBounds_ne (by omega)]
    refine ⟨.skip, undef, _, M, ?_, .inr ⟨rfl, rfl⟩, hH.turnO (blkAt_some hb) rfl hl hother _ ?_, (Kept.refl M H w).turnO (w' := { w with heap := w.heap.setIfInBounds l.blk (.map es' clock') }) (blkAt_some hb) rfl hl hother (by simp) rfl rfl rfl _, by simp only [VR, VRs]; exact ⟨[], rfl, rfl⟩⟩
    · rcases ho with ho | ho <;> simp [execOp, ho, e1, e2, e3, hrun]
    · rw [hput]
      unfold ObjR
      exact ⟨es', clock', by simp [hlt], hkz, hvz⟩
end
end Go.Proofs.Ytaiboicipbhmhaa.Ah
namespace Go.Proofs.Ytaiboicipbhmhaa.Ah
open Go
mutual
def vc : Value → AV → Bool
  | .bool b, .bool c => b == c
  | .int k n, .int k' m => k == k' && n == m
  | .string s, .str t => decide (s = t)
  | .pointer none, .nilp => true
  | .slice none 0 0, .nils => true
  | .nilFunc, .nilf => true
  | .map none, .nilm => true
  | .agg cs, .agg as => vcs cs.toList as
  | .tuple cs, .tup as => vcs cs.toList as
  | _, _ => false
def vcs : List Value → List AV → Bool
  | [], [] => true
  | x :: xs, a :: as => vc x a && vcs xs as
  | _, _ => false
end
mutual
theorem vc_sound (M : Val) : ∀ (x : Value) (v : AV), vc x v = true → VR M v x := by
  intro x v h
  unfold vc at h
  split at h
  · simp at h; subst h; rfl
  · simp at h; obtain ⟨rfl, rfl⟩ := h; rfl
  · simp at h; subst h; rfl
  · rfl
  · rfl
  · rfl
  · rfl
  · simp only [VR]; exact ⟨_, by simp, vcs_sound M _ _ h⟩
  · simp only [VR]; exact ⟨_, by simp, vcs_sound M _ _ h⟩
  · cases h
theorem vcs_sound (M : Val) : ∀ (xs : List Value) (vs : List AV), vcs xs vs = true → VRs M vs xs := by
  intro xs vs h
  unfold vcs at h
  split at h
  · simp [VRs]
  · simp only [Bool.and_eq_true] at h
    simp only [VRs]
    exact ⟨_, _, rfl, vc_sound M _ _ h.1, vcs_sound M _ _ h.2⟩
  · cases h
end
def okArg : Operand → SO → Bool
  | .tmp t, .r i => t == i
  | .const x, .c v => vc x v
  | .func f, .c (.fn (.func g) [] []) => f == g
  | _, _ => false
structure SOper where
  dst : Option Nat
  op : SOp
  args : List SO
  guard : Option (Nat × Bool) := none
  kill : List Nat := []
def zeroC (P : Program) (t : TypeId) : Option (List Value) := ((P.info? t).bind (·.zero)).map (·.cells.toList)
def sizeC (P : Program) (t : TypeId) : Option Nat := (P.info? t).map (·.size)
def bytesC (P : Program) (t : TypeId) : Option Nat := (P.info? t).map (·.bytes)
def zOk (P : Program) (t : TypeId) (z : List AV) : Bool := match zeroC P t with | some l => vcs l z | none => false
def aggT (P : Program) (t : TypeId) : Option Bool := (P.underlying t).map fun d => aggB (some d)
def okOp (P : Program) (op : Op) (s : SOp) : Option (List Operand) :=
  match s with
  | .mv => match op with
    | .move x => some [x]
    | .assign x => some [x]
    | _ => none
  | .pick => match op with
    | .pick c a b => some [c, a, b]
    | _ => none
  | .alloc z => match op with
    | .alloc e => if zOk P e z then some [] else none
    | _ => none
  | .box => match op with
    | .box _ x => some [x]
    | _ => none
  | .build z pl => match op with
    | .build t ps => match P.underlying t with
      | some (.struct fs) => match placesOf P fs.toList with
        | some places => if zOk P t z && decide (ps.toList.map (fun p => places[p.1]?) = pl.map some) then some (ps.toList.map (·.2)) else none
        | none => none
      | some (.array _ e) => match sizeC P e with
        | some n => if zOk P t z && decide (ps.toList.map (fun p => (p.1 * n, n)) = pl) then some (ps.toList.map (·.2)) else none
        | none => none
      | _ => none
    | _ => none
  | .bslice sz n z pl => match op with
    | .buildSlice t m ps => match P.underlying t with
      | some (.slice e) => match zeroC P e with
        | some zz => if m = n ∧ sizeC P e = some sz ∧ zz.length = sz ∧ m * sz ≤ 16777216 ∧ vcs (List.replicate m zz).flatten z = true ∧ ps.toList.map (fun p => (p.1 * sz, sz)) = pl ∧ z.length = m * sz then some (ps.toList.map (·.2)) else none
        | none => none
      | _ => none
    | _ => none
  | .ld1 => match op with
    | .load t x => if aggT P t = some false then some [x] else none
    | _ => none
  | .ldn n => match op with
    | .load t x => if aggT P t = some true ∧ sizeC P t = some n then some [x] else none
    | _ => none
  | .st n => match op with
    | .store t x y => if sizeC P t = some n then some [x, y] else none
    | _ => none
  | .nilchk => match op with
    | .nilCheck x => some [x]
    | _ => none
  | .bin op' => match op with
    | .binOp op _ x y _ => if op = op' then some [x, y] else none
    | _ => none
  | .eqv neg ks => match op with
    | .binOp op t x y _ => if op = (if neg then .neq else .eql) ∧ leafsT P 9999 t = some ks ∧ P.eqGuardType P.depth t = false ∧ aggT P t = some true then some [x, y] else none
    | _ => none
  | .eqb neg => match op with
    | .binOp op t x y _ => match P.underlying t with
      | some .bool => if op = (if neg then .neq else .eql) then some [x, y] else none
      | _ => none
    | _ => none
  | .eqs neg => match op with
    | .binOp op _ x y _ => if op = (if neg then .neq else .eql) then some [x, y] else none
    | _ => none
  | .eqnil neg => match op with
    | .binOp op t x (.const (.slice none 0 0)) _ => match P.underlying t with
      | some (.slice _) => if op = (if neg then .neq else .eql) then some [x] else none
      | _ => none
    | _ => none
  | .un op' => match op with
    | .unOp op _ x => if op = op' then some [x] else none
    | _ => none
  | .conv k => match op with
    | .convert s d x => match P.underlying s, P.underlying d with
      | some (.int _), some (.int k') => if k = k' then some [x] else none
      | _, _ => none
    | _ => none
  | .mkfn g n => match op with
    | .makeFunc f xs ys => if f = g ∧ n = xs.size then some (xs.toList ++ ys.toList) else none
    | _ => none
  | .mksl sz bytes z => match op with
    | .makeSlice t x y => match P.underlying t with
      | some (.slice e) => if sizeC P e = some sz ∧ bytesC P e = some bytes ∧ zOk P e z = true ∧ z.length = sz ∧ bytes ≠ 0 then some [x, y] else none
      | _ => none
    | _ => none
  | .slice sz l h m => match op with
    | .slice t x lo hi mx => match P.underlying t with
      | some (.slice e) => if sizeC P e = some sz ∧ l = lo.isSome ∧ h = hi.isSome ∧ m = mx.isSome then some (x :: (lo.toList ++ hi.toList ++ mx.toList)) else none
      | _ => none
    | _ => none
  | .aslice sz n l h m => match op with
    | .slice t x lo hi mx => match P.underlying t with
      | some (.array n' e) => if n' = n ∧ sizeC P e = some sz ∧ sz ≠ 0 ∧ l = lo.isSome ∧ h = hi.isSome ∧ m = mx.isSome then some (x :: (lo.toList ++ hi.toList ++ mx.toList)) else none
      | _ => none
    | _ => none
  | .faddr off => match op with
    | .fieldAddr t x f => match P.underlying t with
      | some (.struct fs) => match fs[f]? with
        | some fd => match sizeC P fd.type with
          | some n => if n ≠ 0 ∧ fd.offset = off then some [x] else none
          | none => none
        | none => none
      | _ => none
    | _ => none
  | .fld off n agg => match op with
    | .field t x f => match P.underlying t with
      | some (.struct fs) => match fs[f]? with
        | some fd => if aggT P fd.type = some agg ∧ sizeC P fd.type = some n ∧ fd.offset = off then some [x] else none
        | none => none
      | _ => none
    | _ => none
  | .iaddrS sz => match op with
    | .indexAddr t x i => match P.underlying t with
      | some (.slice e) => if sizeC P e = some sz then some [x, i] else none
      | _ => none
    | _ => none
  | .iaddrA sz n => match op with
    | .indexAddr t x i => match P.underlying t with
      | some (.array n' e) => if sizeC P e = some sz ∧ n' = n then some [x, i] else none
      | _ => none
    | _ => none
  | .idxA sz n agg => match op with
    | .index t x i => match P.underlying t with
      | some (.array n' e) => if sizeC P e = some sz ∧ n' = n ∧ (agg = false → sz = 1) ∧ aggT P e = some agg then some [x, i] else none
      | _ => none
    | _ => none
  | .ext j => match op with
    | .extract x i => if i = j then some [x] else none
    | _ => none
  | .len => match op with
    | .call { callee := .builtin .len, args := ⟨[x]⟩, argTypes := ⟨[t]⟩ } => match P.underlying t with
      | some (.slice _) => some [x]
      | _ => none
    | _ => none
  | .lenA n => match op with
    | .call { callee := .builtin .len, args := ⟨[x]⟩, argTypes := ⟨[t]⟩ } => match P.underlying t with
      | some (.array n' _) => if n' = n then some [x] else none
      | _ => none
    | _ => none
  | .cap => match op with
    | .call { callee := .builtin .cap, args := ⟨[x]⟩, argTypes := ⟨[t]⟩ } => match P.underlying t with
      | some (.slice _) => some [x]
      | _ => none
    | _ => none
  | .app sz bytes => match op with
    | .call { callee := .builtin .append, args := ⟨[x, y]⟩, argTypes := ⟨[t, u]⟩ } => match P.underlying t, P.underlying u with
      | some (.slice e), some (.slice _) => match zeroC P e with
        | some zz => if sizeC P e = some sz ∧ bytesC P e = some bytes ∧ zz.length = sz ∧ bytes ≠ 0 then some [x, y] else none
        | none => none
      | _, _ => none
    | _ => none
  | .appZ sz bytes z => match op with
    | .call { callee := .builtin .append, args := ⟨[x, y]⟩, argTypes := ⟨[t, u]⟩ } => match P.underlying t, P.underlying u with
      | some (.slice e), some (.int _) => if sizeC P e = some sz ∧ bytesC P e = some bytes ∧ zOk P e z = true ∧ z.length = sz ∧ bytes ≠ 0 ∧ sz ≠ 0 then some [x, y] else none
      | _, _ => none
    | _ => none
  | .copy sz => match op with
    | .call { callee := .builtin .copy, args := ⟨[x, y]⟩, argTypes := ⟨[t, _]⟩ } => match P.underlying t with
      | some (.slice e) => if sizeC P e = some sz then some [x, y] else none
      | _ => none
    | _ => none
  | .mn => match op with
    | .call { callee := .builtin .min, args := ⟨[x, y]⟩, argTypes := ⟨[_, _]⟩ } => some [x, y]
    | _ => none
  | .mx => match op with
    | .call { callee := .builtin .max, args := ⟨[x, y]⟩, argTypes := ⟨[_, _]⟩ } => some [x, y]
    | _ => none
  | .call g => match op with
    | .call { callee := .value (.func f), args, .. } => if f = g ∧ hasBody P f = true then some args.toList else none
    | _ => none
  | .callv => match op with
    | .call { callee := .value (.tmp t), args, .. } => some (.tmp t :: args.toList)
    | _ => none
  | .strOf => match op with
    | .convert s d x => match P.underlying s, P.underlying d with
      | some (.slice e), some .string => match P.underlying e with
        | some (.int .u8) => some [x]
        | _ => none
      | _, _ => none
    | _ => none
  | .bytesOf => match op with
    | .convert s d x => match P.underlying s with
      | some (.slice e) => match P.underlying e with
        | some (.int .u8) => if s = d then some [x] else none
        | _ => none
      | _ => none
    | _ => none
  | .mp m => match m with
    | .mk => match op with
      | .makeMap _ none => some []
      | _ => none
    | .upd ks agg => match op with
      | .mapUpdate t x k v => if mapKey P t ks agg = true then some [x, k, v] else none
      | .insert t x k v => if mapKey P t ks agg = true then some [x, k, v] else none
      | _ => none
    | .lkp ks agg z zagg ok => match op with
      | .lookup t x k ok' => match P.underlying t with
        | some (.map _ e) => if mapKey P t ks agg = true ∧ ok' = ok ∧ zOk P e z = true ∧ aggT P e = some zagg ∧ (zagg = false → z.length = 1) ∧ zRight P e zagg = true then some [x, k] else none
        | _ => none
      | _ => none
    | .isnil neg => match op with
      | .binOp op t x (.const (.map none)) _ => match P.underlying t with
        | some (.map _ _) => if op = (if neg then .neq else .eql) then some [x] else none
        | _ => none
      | _ => none
    | .len => match op with
      | .call { callee := .builtin .len, args := ⟨[x]⟩, argTypes := ⟨[t]⟩ } => match P.underlying t with
        | some (.map _ _) => some [x]
        | _ => none
      | _ => none
  | .dead => some []
end Go.Proofs.Ytaiboicipbhmhaa.Ah
namespace Go.Proofs.Ytaiboicipbhmhaa.Ah
open Go
section
variable {P : Program}
theorem zOk_spec {t : TypeId} {z : List AV} (h : zOk P t z = true) : ∃ zv, (P.info? t).bind (·.zero) = some zv ∧ ∀ M, VRs M z zv.cells.toList := by
  unfold zOk zeroC at h
  split at h
  · rename_i l hl
    obtain ⟨zv, h1, rfl⟩ := Option.map_eq_some_iff.1 hl
    exact ⟨zv, h1, fun M => vcs_sound M _ _ h⟩
  · cases h
theorem zeroC_spec {t : TypeId} {l : List Value} (h : zeroC P t = some l) : ∃ zv i, P.info? t = some i ∧ i.zero = some zv ∧ zv.cells.toList = l := by
  unfold zeroC at h
  obtain ⟨zv, h1, rfl⟩ := Option.map_eq_some_iff.1 h
  obtain ⟨i, h2, h3⟩ := Option.bind_eq_some_iff.1 h1
  exact ⟨zv, i, h2, h3, rfl⟩
theorem aggT_spec {t : TypeId} {b : Bool} (h : aggT P t = some b) : ∃ d, P.underlying t = some d ∧ aggB (some d) = b := by
  unfold aggT at h
  obtain ⟨d, h1, h2⟩ := Option.map_eq_some_iff.1 h
  exact ⟨d, h1, h2⟩
theorem lay_length : ∀ {ps : List (Nat × Nat)} {vs z cs : List AV}, lay z ps vs = some cs → cs.length = z.length
  | [], [], z, cs, h => by simp [lay] at h; subst h; rfl
  | [], _ :: _, _, _, h => by simp [lay] at h
  | _ :: _, [], _, _, h => by simp [lay] at h
  | (off, n) :: ps, v :: vs, z, cs, h => by
    simp only [lay] at h
    split at h
    · rename_i hc
      rw [lay_length h]
      simp
      omega
    · cases h
theorem slVR {v : AV} (h : v = .nils ∨ ∃ b off n sz c, v = .sl b off n sz c) : ∀ M z, VR M v z → ∃ ad n cap, z = .slice ad n cap ∧ n ≤ cap := by
  intro M z hz
  rcases h with rfl | ⟨b, off, n, sz, c, rfl⟩
  · simp only [VR] at hz; exact ⟨none, 0, 0, hz, Nat.le_refl _⟩
  · simp only [VR] at hz
    obtain ⟨l, _, ⟨a, cap, rfl, h1, _⟩ | ⟨rfl, _, rfl⟩⟩ := hz
    · exact ⟨_, _, _, rfl, h1⟩
    · exact ⟨_, _, _, rfl, Nat.le_refl _⟩
theorem szOk_spec {sz : Nat} {v : AV} (h : szOk sz v) : ∀ b off k s c, v = .sl b off k s c → s = sz := by
  rintro b off k s c rfl
  exact h
theorem of_ite {c : Prop} [Decidable c] {α : Type} {a b : α} (h : (if c then some a else none) = some b) : c ∧ a = b := by
  by_cases hc : c
  · rw [if_pos hc] at h; cases h; exact ⟨hc, rfl⟩
  · rw [if_neg hc] at h; cases h
theorem so_mv (o : Oper)  (l0 : List Operand) (hok : okOp P o.op .mv = some l0) (vals : List AV) (H : Heap) (K : AV → Heap → Prop) (h : so P .mv vals H K) :
    ∃ v H', K v H' ∧ SStep P o l0 vals H v H' := by
  generalize hop : o.op = op at hok
  simp only [okOp] at hok
  simp only [so] at h
  · split at hok
    · cases hok
      replace h := a1_out h; obtain ⟨x, rfl, h⟩ := h
      exact ⟨_, _, h, s_mv (.inl hop) _ _⟩
    · cases hok
      replace h := a1_out h; obtain ⟨x, rfl, h⟩ := h
      exact ⟨_, _, h, s_mv (.inr hop) _ _⟩
    · cases hok
theorem so_pick (o : Oper)  (l0 : List Operand) (hok : okOp P o.op .pick = some l0) (vals : List AV) (H : Heap) (K : AV → Heap → Prop) (h : so P .pick vals H K) :
    ∃ v H', K v H' ∧ SStep P o l0 vals H v H' := by
  generalize hop : o.op = op at hok
  simp only [okOp] at hok
  simp only [so] at h
  · split at hok
    · cases hok
      replace h := a3_out h; obtain ⟨c, x, y, rfl, h⟩ := h
      replace h := isB_out h; obtain ⟨b, rfl, h⟩ := h
      cases b
      · exact ⟨_, _, h.2 rfl, s_pick hop false x y H⟩
      · exact ⟨_, _, h.1 rfl, s_pick hop true x y H⟩
    · cases hok
theorem so_alloc (o : Oper) (z : List AV) (l0 : List Operand) (hok : okOp P o.op (.alloc z) = some l0) (vals : List AV) (H : Heap) (K : AV → Heap → Prop) (h : so P (.alloc z) vals H K) :
    ∃ v H', K v H' ∧ SStep P o l0 vals H v H' := by
  generalize hop : o.op = op at hok
  simp only [okOp] at hok
  simp only [so] at h
  · split at hok
    · obtain ⟨hz, rfl⟩ := of_ite hok
      obtain ⟨zv, h1, h2⟩ := zOk_spec hz
      replace h := a0_out h; obtain ⟨rfl, h⟩ := h
      exact ⟨_, _, h, s_alloc hop h1 h2 H⟩
    · cases hok
theorem so_box (o : Oper)  (l0 : List Operand) (hok : okOp P o.op .box = some l0) (vals : List AV) (H : Heap) (K : AV → Heap → Prop) (h : so P .box vals H K) :
    ∃ v H', K v H' ∧ SStep P o l0 vals H v H' := by
  generalize hop : o.op = op at hok
  simp only [okOp] at hok
  simp only [so] at h
  · split at hok
    · cases hok
      replace h := a1_out h; obtain ⟨x, rfl, h⟩ := h
      exact ⟨_, _, h.2, s_box hop h.1 H⟩
    · cases hok
theorem so_build (o : Oper) (z : List AV) (pl : List (Nat × Nat)) (l0 : List Operand) (hok : okOp P o.op (.build z pl) = some l0) (vals : List AV) (H : Heap) (K : AV → Heap → Prop) (h : so P (.build z pl) vals H K) :
    ∃ v H', K v H' ∧ SStep P o l0 vals H v H' := by
  generalize hop : o.op = op at hok
  simp only [okOp] at hok
  simp only [so] at h
  · obtain ⟨hf, h⟩ := h
    replace h := sm_out h; obtain ⟨cs, hl, h⟩ := h
    split at hok
    · split at hok
      · rename_i hd
        split at hok
        · rename_i places hp
          obtain ⟨hc, rfl⟩ := of_ite hok
          simp only [Bool.and_eq_true, decide_eq_true_eq] at hc
          obtain ⟨zv, h1, h2⟩ := zOk_spec hc.1
          exact ⟨_, _, h, s_buildS hop hd h1 h2 (places := places.toArray) (by simpa using hp) (by simpa using hc.2) hl hf H⟩
        · cases hok
      · rename_i hd
        split at hok
        · rename_i n hn
          obtain ⟨hc, rfl⟩ := of_ite hok
          simp only [Bool.and_eq_true, decide_eq_true_eq] at hc
          obtain ⟨zv, h1, h2⟩ := zOk_spec hc.1
          exact ⟨_, _, h, s_buildA hop hd h1 h2 hn hc.2 hl hf H⟩
        · cases hok
      · cases hok
    · cases hok
theorem so_bslice (o : Oper) (sz : Nat) (n : Nat) (z : List AV) (pl : List (Nat × Nat)) (l0 : List Operand) (hok : okOp P o.op (.bslice sz n z pl) = some l0) (vals : List AV) (H : Heap) (K : AV → Heap → Prop) (h : so P (.bslice sz n z pl) vals H K) :
    ∃ v H', K v H' ∧ SStep P o l0 vals H v H' := by
  generalize hop : o.op = op at hok
  simp only [okOp] at hok
  simp only [so] at h
  · obtain ⟨hf, h⟩ := h
    replace h := sm_out h; obtain ⟨cs, hl, h⟩ := h
    split at hok
    · split at hok
      · rename_i hd
        split at hok
        · rename_i zz hz
          obtain ⟨hc, rfl⟩ := of_ite hok
          obtain ⟨rfl, hs, hzl, hm, hv, hps, hzl2⟩ := hc
          obtain ⟨zv, i, hi, hz0, hzz⟩ := zeroC_spec hz
          have hlen := lay_length hl
          refine ⟨_, _, h, s_bslice hop hd (z := zv) (by rw [hi]; exact hz0) hs hm (fun M => ?_) hps hl (by rw [hlen]; exact hzl2) hf H⟩
          have hsz := congrArg List.length hzz
          rw [hzl, Array.length_toList] at hsz
          rw [← hsz, made_eq, hzz]
          exact vcs_sound M _ _ hv
        · cases hok
      · cases hok
    · cases hok
theorem so_ld1 (o : Oper)  (l0 : List Operand) (hok : okOp P o.op .ld1 = some l0) (vals : List AV) (H : Heap) (K : AV → Heap → Prop) (h : so P .ld1 vals H K) :
    ∃ v H', K v H' ∧ SStep P o l0 vals H v H' := by
  generalize hop : o.op = op at hok
  simp only [okOp] at hok
  simp only [so] at h
  · split at hok
    · obtain ⟨hc, rfl⟩ := of_ite hok
      obtain ⟨d, h1, h2⟩ := aggT_spec hc
      replace h := a1_out h; obtain ⟨p, rfl, h⟩ := h
      replace h := isP_out h; obtain ⟨b, off, rfl, h⟩ := h
      replace h := sm_out h; obtain ⟨k, hk, h⟩ := h
      replace h := sm_out h; obtain ⟨v, hv, h⟩ := h
      exact ⟨_, _, h, s_ld1 hop h1 h2 hk hv⟩
    · cases hok
theorem so_ldn (o : Oper) (n : Nat) (l0 : List Operand) (hok : okOp P o.op (.ldn n) = some l0) (vals : List AV) (H : Heap) (K : AV → Heap → Prop) (h : so P (.ldn n) vals H K) :
    ∃ v H', K v H' ∧ SStep P o l0 vals H v H' := by
  generalize hop : o.op = op at hok
  simp only [okOp] at hok
  simp only [so] at h
  · split at hok
    · obtain ⟨hc, rfl⟩ := of_ite hok
      obtain ⟨d, h1, h2⟩ := aggT_spec hc.1
      replace h := a1_out h; obtain ⟨p, rfl, h⟩ := h
      replace h := isP_out h; obtain ⟨b, off, rfl, h⟩ := h
      replace h := sm_out h; obtain ⟨cs, hr, h⟩ := h
      exact ⟨_, _, h, s_ldn hop h1 h2 hc.2 hr⟩
    · cases hok
theorem so_st (o : Oper) (n : Nat) (l0 : List Operand) (hok : okOp P o.op (.st n) = some l0) (vals : List AV) (H : Heap) (K : AV → Heap → Prop) (h : so P (.st n) vals H K) :
    ∃ v H', K v H' ∧ SStep P o l0 vals H v H' := by
  generalize hop : o.op = op at hok
  simp only [okOp] at hok
  simp only [so] at h
  · split at hok
    · obtain ⟨hc, rfl⟩ := of_ite hok
      replace h := a2_out h; obtain ⟨p, v, rfl, h⟩ := h
      replace h := isP_out h; obtain ⟨b, off, rfl, h⟩ := h
      replace h := sm_out h; obtain ⟨k, hk, h⟩ := h
      obtain ⟨g1, g2, g3, g4, g5⟩ := h
      exact ⟨_, _, g5, s_st hop hc hk g1 g2 g3 g4⟩
    · cases hok
theorem so_nilchk (o : Oper)  (l0 : List Operand) (hok : okOp P o.op .nilchk = some l0) (vals : List AV) (H : Heap) (K : AV → Heap → Prop) (h : so P .nilchk vals H K) :
    ∃ v H', K v H' ∧ SStep P o l0 vals H v H' := by
  generalize hop : o.op = op at hok
  simp only [okOp] at hok
  simp only [so] at h
  · split at hok
    · cases hok
      replace h := a1_out h; obtain ⟨p, rfl, h⟩ := h
      replace h := isP_out h; obtain ⟨b, off, rfl, h⟩ := h
      exact ⟨_, _, h, s_nilchk hop _ _ H⟩
    · cases hok
theorem so_bin (o : Oper) (op' : BinOp) (l0 : List Operand) (hok : okOp P o.op (.bin op') = some l0) (vals : List AV) (H : Heap) (K : AV → Heap → Prop) (h : so P (.bin op') vals H K) :
    ∃ v H', K v H' ∧ SStep P o l0 vals H v H' := by
  generalize hop : o.op = op at hok
  simp only [okOp] at hok
  simp only [so] at h
  · split at hok
    · obtain ⟨hc, rfl⟩ := of_ite hok
      subst hc
      replace h := a2_out h; obtain ⟨x, y, rfl, h⟩ := h
      replace h := isI_out h; obtain ⟨k, p, rfl, h⟩ := h
      replace h := isI_out h; obtain ⟨k', q, rfl, h⟩ := h
      obtain ⟨v, hv, hs⟩ := s_int hop p q H h
      exact ⟨v, H, hv, hs⟩
    · cases hok
theorem so_eqv (o : Oper) (neg : Bool) (ks : List LK) (l0 : List Operand) (hok : okOp P o.op (.eqv neg ks) = some l0) (vals : List AV) (H : Heap) (K : AV → Heap → Prop) (h : so P (.eqv neg ks) vals H K) :
    ∃ v H', K v H' ∧ SStep P o l0 vals H v H' := by
  generalize hop : o.op = op at hok
  simp only [okOp] at hok
  simp only [so] at h
  · split at hok
    · obtain ⟨hc, rfl⟩ := of_ite hok
      obtain ⟨rfl, g1, g2, g3⟩ := hc
      obtain ⟨d, e1, e2⟩ := aggT_spec g3
      replace h := a2_out h; obtain ⟨x, y, rfl, h⟩ := h
      replace h := isA_out h; obtain ⟨p, rfl, h⟩ := h
      replace h := isA_out h; obtain ⟨q, rfl, h⟩ := h
      replace h := sm_out h; obtain ⟨t, ht, h⟩ := h
      exact ⟨_, _, h, s_eqv hop g1 (by omega) g2 (by rw [e1]; exact e2) ht H⟩
    · cases hok
theorem so_eqb (o : Oper) (neg : Bool) (l0 : List Operand) (hok : okOp P o.op (.eqb neg) = some l0) (vals : List AV) (H : Heap) (K : AV → Heap → Prop) (h : so P (.eqb neg) vals H K) :
    ∃ v H', K v H' ∧ SStep P o l0 vals H v H' := by
  generalize hop : o.op = op at hok
  simp only [okOp] at hok
  simp only [so] at h
  · split at hok
    · split at hok
      · rename_i ht
        obtain ⟨hc, rfl⟩ := of_ite hok
        subst hc
        replace h := a2_out h; obtain ⟨x, y, rfl, h⟩ := h
        replace h := isB_out h; obtain ⟨p, rfl, h⟩ := h
        replace h := isB_out h; obtain ⟨q, rfl, h⟩ := h
        exact ⟨_, _, h, s_eqb hop ht _ _ H⟩
      · cases hok
    · cases hok
theorem so_eqs (o : Oper) (neg : Bool) (l0 : List Operand) (hok : okOp P o.op (.eqs neg) = some l0) (vals : List AV) (H : Heap) (K : AV → Heap → Prop) (h : so P (.eqs neg) vals H K) :
    ∃ v H', K v H' ∧ SStep P o l0 vals H v H' := by
  generalize hop : o.op = op at hok
  simp only [okOp] at hok
  simp only [so] at h
  · split at hok
    · obtain ⟨hc, rfl⟩ := of_ite hok
      subst hc
      replace h := a2_out h; obtain ⟨x, y, rfl, h⟩ := h
      replace h := isS_out h; obtain ⟨p, rfl, h⟩ := h
      replace h := isS_out h; obtain ⟨q, rfl, h⟩ := h
      exact ⟨_, _, h, s_eqs hop _ _ H⟩
    · cases hok
theorem so_eqnil (o : Oper) (neg : Bool) (l0 : List Operand) (hok : okOp P o.op (.eqnil neg) = some l0) (vals : List AV) (H : Heap) (K : AV → Heap → Prop) (h : so P (.eqnil neg) vals H K) :
    ∃ v H', K v H' ∧ SStep P o l0 vals H v H' := by
  generalize hop : o.op = op at hok
  simp only [okOp] at hok
  simp only [so] at h
  · split at hok
    · split at hok
      · rename_i ht
        obtain ⟨hc, rfl⟩ := of_ite hok
        subst hc
        replace h := a1_out h; obtain ⟨x, rfl, h⟩ := h
        replace h := isSl_out h; rcases h with ⟨rfl, h⟩ | ⟨b, off, n, sz, c, rfl, h⟩
        · exact ⟨_, _, h, s_eqnilS hop rfl ht .nils true (fun M x hx => by simp only [VR] at hx; exact ⟨none, 0, 0, hx, rfl⟩) H⟩
        · exact ⟨_, _, h.2, s_eqnilS hop rfl ht (.sl b off n sz c) false (fun M x hx => by
            have h0 := h.1
            simp only [VR] at hx
            obtain ⟨l, _, ⟨a, cap, e, _⟩ | ⟨e, _⟩⟩ := hx
            · exact ⟨_, n, _, e, rfl⟩
            · rename_i h5
              rw [h5.1] at h0
              simp at h0
              omega) H⟩
      · cases hok
    · cases hok
theorem so_un (o : Oper) (op' : UnOp) (l0 : List Operand) (hok : okOp P o.op (.un op') = some l0) (vals : List AV) (H : Heap) (K : AV → Heap → Prop) (h : so P (.un op') vals H K) :
    ∃ v H', K v H' ∧ SStep P o l0 vals H v H' := by
  generalize hop : o.op = op at hok
  simp only [okOp] at hok
  simp only [so] at h
  · split at hok
    · obtain ⟨hc, rfl⟩ := of_ite hok
      subst hc
      replace h := a1_out h; obtain ⟨x, rfl, h⟩ := h
      rename_i u _ _
      cases u <;> simp only [un] at h
      · replace h := isI_out h; obtain ⟨k, n, rfl, h⟩ := h
        exact ⟨_, _, h, s_un hop H _ _ (fun M x hx => by simpa only [VR] using hx) (fun w => rfl) (fun M => rfl)⟩
      · replace h := isI_out h; obtain ⟨k, n, rfl, h⟩ := h
        exact ⟨_, _, h, s_un hop H _ _ (fun M x hx => by simpa only [VR] using hx) (fun w => rfl) (fun M => rfl)⟩
      · replace h := isB_out h; obtain ⟨b, rfl, h⟩ := h
        exact ⟨_, _, h, s_un hop H _ _ (fun M x hx => by simpa only [VR] using hx) (fun w => rfl) (fun M => rfl)⟩
    · cases hok
theorem so_conv (o : Oper) (k : IntKind) (l0 : List Operand) (hok : okOp P o.op (.conv k) = some l0) (vals : List AV) (H : Heap) (K : AV → Heap → Prop) (h : so P (.conv k) vals H K) :
    ∃ v H', K v H' ∧ SStep P o l0 vals H v H' := by
  generalize hop : o.op = op at hok
  simp only [okOp] at hok
  simp only [so] at h
  · split at hok
    · split at hok
      · rename_i h1 h2
        obtain ⟨hc, rfl⟩ := of_ite hok
        subst hc
        replace h := a1_out h; obtain ⟨x, rfl, h⟩ := h
        replace h := isI_out h; obtain ⟨k0, n, rfl, h⟩ := h
        exact ⟨_, _, h, s_conv hop h1 h2 _ H⟩
      · cases hok
    · cases hok
theorem so_mkfn (o : Oper) (g : Fn) (n : Nat) (l0 : List Operand) (hok : okOp P o.op (.mkfn g n) = some l0) (vals : List AV) (H : Heap) (K : AV → Heap → Prop) (h : so P (.mkfn g n) vals H K) :
    ∃ v H', K v H' ∧ SStep P o l0 vals H v H' := by
  generalize hop : o.op = op at hok
  simp only [okOp] at hok
  simp only [so] at h
  · split at hok
    · obtain ⟨hc, rfl⟩ := of_ite hok
      obtain ⟨rfl, hn⟩ := hc
      exact ⟨_, _, h, s_mkfn hop H _ hn⟩
    · cases hok
theorem so_mksl (o : Oper) (sz : Nat) (bytes : Nat) (z : List AV) (l0 : List Operand) (hok : okOp P o.op (.mksl sz bytes z) = some l0) (vals : List AV) (H : Heap) (K : AV → Heap → Prop) (h : so P (.mksl sz bytes z) vals H K) :
    ∃ v H', K v H' ∧ SStep P o l0 vals H v H' := by
  generalize hop : o.op = op at hok
  simp only [okOp] at hok
  simp only [so] at h
  · split at hok
    · split at hok
      · rename_i hd
        obtain ⟨hc, rfl⟩ := of_ite hok
        obtain ⟨h1, h2, h3, h4, h5⟩ := hc
        obtain ⟨zv, g1, g2⟩ := zOk_spec h3
        obtain ⟨i, hi, hz⟩ := Option.bind_eq_some_iff.1 g1
        have e1 : i.size = sz := by unfold sizeC at h1; rw [hi] at h1; simpa using h1
        have e2 : i.bytes = bytes := by unfold bytesC at h2; rw [hi] at h2; simpa using h2
        subst e1; subst e2
        replace h := a2_out h; obtain ⟨x, y, rfl, h⟩ := h
        replace h := isI_out h; obtain ⟨k, p, rfl, h⟩ := h
        replace h := isI_out h; obtain ⟨k', c, rfl, h⟩ := h
        obtain ⟨k1, k2, k3, k4⟩ := h
        refine ⟨_, _, k4, s_mksl hop hd hi hz ?_ g2 k1 k2 k3 ?_ H⟩
        · have := (g2 (fun _ => none)).length
          simp only [Array.length_toList] at this
          omega
        · have hb : (1 : Int) ≤ i.bytes := by omega
          have : 1 * c ≤ i.bytes * c := Int.mul_le_mul_of_nonneg_right hb (by omega)
          omega
      · cases hok
    · cases hok
theorem so_slice (o : Oper) (sz : Nat) (l : Bool) (h0 : Bool) (m : Bool) (l0 : List Operand) (hok : okOp P o.op (.slice sz l h0 m) = some l0) (vals : List AV) (H : Heap) (K : AV → Heap → Prop) (h : so P (.slice sz l h0 m) vals H K) :
    ∃ v H', K v H' ∧ SStep P o l0 vals H v H' := by
  generalize hop : o.op = op at hok
  simp only [okOp] at hok
  simp only [so] at h
  · split at hok
    · split at hok
      · rename_i hd
        obtain ⟨hc, rfl⟩ := of_ite hok
        obtain ⟨h1, rfl, rfl, rfl⟩ := hc
        replace h := aC_out h; obtain ⟨x, vs, rfl, h⟩ := h
        replace h := isSl_out h; rcases h with ⟨rfl, h⟩ | ⟨b, off, n, sz, c, rfl, rfl, h⟩
        · obtain ⟨l, hh, c', hK, hhn, hR⟩ := cut_sound (P := P) h
          exact ⟨_, _, hK, s_sliceN hop hd h1 c' vs l hh hR H⟩
        · obtain ⟨l, hh, c', hK, hhn, hR⟩ := cut_sound (P := P) h
          exact ⟨_, _, hK, s_slice hop hd h1 _ _ _ _ c' vs l hh hR H⟩
      · cases hok
    · cases hok
theorem so_aslice (o : Oper) (sz : Nat) (n : Nat) (l : Bool) (h0 : Bool) (m : Bool) (l0 : List Operand) (hok : okOp P o.op (.aslice sz n l h0 m) = some l0) (vals : List AV) (H : Heap) (K : AV → Heap → Prop) (h : so P (.aslice sz n l h0 m) vals H K) :
    ∃ v H', K v H' ∧ SStep P o l0 vals H v H' := by
  generalize hop : o.op = op at hok
  simp only [okOp] at hok
  simp only [so] at h
  · split at hok
    · split at hok
      · rename_i hd
        obtain ⟨hc, rfl⟩ := of_ite hok
        obtain ⟨rfl, h1, h0, rfl, rfl, rfl⟩ := hc
        replace h := aC_out h; obtain ⟨x, vs, rfl, h⟩ := h
        replace h := isP_out h; obtain ⟨b, off, rfl, h⟩ := h
        obtain ⟨l, hh, c', ⟨hk1, hk2, hK⟩, hhn, hR⟩ := cut_sound (P := P) h
        exact ⟨_, _, hK, s_aslice hop hd h1 _ _ c' vs l hh hR H hk1 hk2 h0⟩
      · cases hok
    · cases hok
theorem so_faddr (o : Oper) (off : Nat) (l0 : List Operand) (hok : okOp P o.op (.faddr off) = some l0) (vals : List AV) (H : Heap) (K : AV → Heap → Prop) (h : so P (.faddr off) vals H K) :
    ∃ v H', K v H' ∧ SStep P o l0 vals H v H' := by
  generalize hop : o.op = op at hok
  simp only [okOp] at hok
  simp only [so] at h
  · split at hok
    · split at hok
      · rename_i hd
        split at hok
        · rename_i fd hf
          split at hok
          · rename_i n hn
            obtain ⟨hc, rfl⟩ := of_ite hok
            obtain ⟨h0, rfl⟩ := hc
            replace h := a1_out h; obtain ⟨p, rfl, h⟩ := h
            replace h := isP_out h; obtain ⟨b, off, rfl, h⟩ := h
            exact ⟨_, _, h, s_faddr hop hd hf hn h0 _ _ H⟩
          · cases hok
        · cases hok
      · cases hok
    · cases hok
theorem so_fld (o : Oper) (off : Nat) (n : Nat) (agg : Bool) (l0 : List Operand) (hok : okOp P o.op (.fld off n agg) = some l0) (vals : List AV) (H : Heap) (K : AV → Heap → Prop) (h : so P (.fld off n agg) vals H K) :
    ∃ v H', K v H' ∧ SStep P o l0 vals H v H' := by
  generalize hop : o.op = op at hok
  simp only [okOp] at hok
  simp only [so] at h
  · split at hok
    · split at hok
      · rename_i hd
        split at hok
        · rename_i fd hf
          obtain ⟨hc, rfl⟩ := of_ite hok
          obtain ⟨h1, h2, rfl⟩ := hc
          obtain ⟨d, e1, e2⟩ := aggT_spec h1
          replace h := a1_out h; obtain ⟨x, rfl, h⟩ := h
          replace h := isA_out h; obtain ⟨cs, rfl, h⟩ := h
          cases agg
          · simp only [Bool.false_eq_true, if_false] at h
            replace h := sm_out h; obtain ⟨v, hv, h⟩ := h
            exact ⟨_, _, h, s_fld1 hop hd hf e1 e2 hv H⟩
          · simp only [if_true] at h
            exact ⟨_, _, h, s_fldn hop hd hf e1 e2 h2 H⟩
        · cases hok
      · cases hok
    · cases hok
theorem so_iaddrS (o : Oper) (sz : Nat) (l0 : List Operand) (hok : okOp P o.op (.iaddrS sz) = some l0) (vals : List AV) (H : Heap) (K : AV → Heap → Prop) (h : so P (.iaddrS sz) vals H K) :
    ∃ v H', K v H' ∧ SStep P o l0 vals H v H' := by
  generalize hop : o.op = op at hok
  simp only [okOp] at hok
  simp only [so] at h
  · split at hok
    · split at hok
      · rename_i hd
        obtain ⟨hc, rfl⟩ := of_ite hok
        replace h := a2_out h; obtain ⟨x, y, rfl, h⟩ := h
        replace h := isSl_out h; rcases h with ⟨rfl, h⟩ | ⟨b, off, n, sz, c, rfl, h⟩
        · exact h.elim
        · replace h := isI_out h; obtain ⟨k, j, rfl, rfl, k1, k2, k3⟩ := h
          exact ⟨_, _, k3, s_iaddrS hop hd hc _ _ _ _ _ _ k1 k2 H⟩
      · cases hok
    · cases hok
theorem so_iaddrA (o : Oper) (sz : Nat) (n : Nat) (l0 : List Operand) (hok : okOp P o.op (.iaddrA sz n) = some l0) (vals : List AV) (H : Heap) (K : AV → Heap → Prop) (h : so P (.iaddrA sz n) vals H K) :
    ∃ v H', K v H' ∧ SStep P o l0 vals H v H' := by
  generalize hop : o.op = op at hok
  simp only [okOp] at hok
  simp only [so] at h
  · split at hok
    · split at hok
      · rename_i hd
        obtain ⟨hc, rfl⟩ := of_ite hok
        obtain ⟨h1, rfl⟩ := hc
        replace h := a2_out h; obtain ⟨x, y, rfl, h⟩ := h
        replace h := isP_out h; obtain ⟨b, off, rfl, h⟩ := h
        replace h := isI_out h; obtain ⟨k, j, rfl, k1, k2, k3⟩ := h
        exact ⟨_, _, k3, s_iaddrA hop hd h1 _ _ _ _ k1 k2 H⟩
      · cases hok
    · cases hok
theorem so_idxA (o : Oper) (sz : Nat) (n : Nat) (agg : Bool) (l0 : List Operand) (hok : okOp P o.op (.idxA sz n agg) = some l0) (vals : List AV) (H : Heap) (K : AV → Heap → Prop) (h : so P (.idxA sz n agg) vals H K) :
    ∃ v H', K v H' ∧ SStep P o l0 vals H v H' := by
  generalize hop : o.op = op at hok
  simp only [okOp] at hok
  simp only [so] at h
  · split at hok
    · split at hok
      · rename_i hd
        obtain ⟨hc, rfl⟩ := of_ite hok
        obtain ⟨h1, rfl, hs, h2⟩ := hc
        obtain ⟨d, e1, e2⟩ := aggT_spec h2
        replace h := a2_out h; obtain ⟨x, y, rfl, h⟩ := h
        replace h := isA_out h; obtain ⟨cs, rfl, h⟩ := h
        replace h := isI_out h; obtain ⟨k, j, rfl, k1, k2, k3⟩ := h
        cases agg
        · obtain rfl := hs rfl
          simp only [Bool.false_eq_true, if_false] at k3
          replace k3 := sm_out k3; obtain ⟨v, hv, k3⟩ := k3
          exact ⟨_, _, k3, s_idx1 hop hd e1 e2 h1 k1 k2 hv H⟩
        · simp only [if_true] at k3
          exact ⟨_, _, k3, s_idxn hop hd e1 e2 h1 k1 k2 H⟩
      · cases hok
    · cases hok
theorem so_ext (o : Oper) (j : Nat) (l0 : List Operand) (hok : okOp P o.op (.ext j) = some l0) (vals : List AV) (H : Heap) (K : AV → Heap → Prop) (h : so P (.ext j) vals H K) :
    ∃ v H', K v H' ∧ SStep P o l0 vals H v H' := by
  generalize hop : o.op = op at hok
  simp only [okOp] at hok
  simp only [so] at h
  · split at hok
    · obtain ⟨hc, rfl⟩ := of_ite hok
      subst hc
      replace h := a1_out h; obtain ⟨x, rfl, h⟩ := h
      replace h := isT_out h; obtain ⟨l, rfl, h⟩ := h
      replace h := sm_out h; obtain ⟨v, hv, h⟩ := h
      exact ⟨_, _, h, s_ext hop hv H⟩
    · cases hok
theorem so_len (o : Oper)  (l0 : List Operand) (hok : okOp P o.op .len = some l0) (vals : List AV) (H : Heap) (K : AV → Heap → Prop) (h : so P .len vals H K) :
    ∃ v H', K v H' ∧ SStep P o l0 vals H v H' := by
  generalize hop : o.op = op at hok
  simp only [okOp] at hok
  simp only [so] at h
  · split at hok
    · split at hok
      · rename_i hd
        cases hok
        replace h := a1_out h; obtain ⟨x, rfl, h⟩ := h
        replace h := isSl_out h; rcases h with ⟨rfl, h⟩ | ⟨b, off, n, sz, c, rfl, h⟩
        · exact ⟨_, _, h, s_len hop rfl hd .nils 0 (fun M x hx => by simp only [VR] at hx; exact ⟨_, _, hx⟩) H⟩
        · exact ⟨_, _, h, s_len hop rfl hd (.sl b off n sz c) n (fun M x hx => by
            simp only [VR] at hx
            obtain ⟨l, _, ⟨a, cap, e, _⟩ | ⟨rfl, _, e⟩⟩ := hx
            · exact ⟨_, _, e⟩
            · exact ⟨_, _, e⟩) H⟩
      · cases hok
    · cases hok
theorem so_lenA (o : Oper) (n : Nat) (l0 : List Operand) (hok : okOp P o.op (.lenA n) = some l0) (vals : List AV) (H : Heap) (K : AV → Heap → Prop) (h : so P (.lenA n) vals H K) :
    ∃ v H', K v H' ∧ SStep P o l0 vals H v H' := by
  generalize hop : o.op = op at hok
  simp only [okOp] at hok
  simp only [so] at h
  · split at hok
    · split at hok
      · rename_i hd
        obtain ⟨hc, rfl⟩ := of_ite hok
        subst hc
        replace h := a1_out h; obtain ⟨x, rfl, h⟩ := h
        exact ⟨_, _, h, s_lenA hop rfl hd _ H⟩
      · cases hok
    · cases hok
theorem so_cap (o : Oper)  (l0 : List Operand) (hok : okOp P o.op .cap = some l0) (vals : List AV) (H : Heap) (K : AV → Heap → Prop) (h : so P .cap vals H K) :
    ∃ v H', K v H' ∧ SStep P o l0 vals H v H' := by
  generalize hop : o.op = op at hok
  simp only [okOp] at hok
  simp only [so] at h
  · split at hok
    · split at hok
      · rename_i hd
        cases hok
        replace h := a1_out h; obtain ⟨x, rfl, h⟩ := h
        replace h := isSl_out h; rcases h with ⟨rfl, h⟩ | ⟨b, off, n, sz, c, rfl, h⟩
        · exact ⟨_, _, h, s_cap hop rfl hd .nils 0 (fun M x hx => by simp only [VR] at hx; exact ⟨_, _, hx⟩) H⟩
        · replace h := sm_out h; obtain ⟨k, rfl, h⟩ := h
          exact ⟨_, _, h, s_cap hop rfl hd (.sl b off n sz (some k)) k (fun M x hx => by
            simp only [VR] at hx
            obtain ⟨l, _, ⟨a, cap, e, _, _, h3⟩ | ⟨rfl, h3, e⟩⟩ := hx
            · rw [h3 _ rfl] at e; exact ⟨_, _, e⟩
            · cases h3) H⟩
      · cases hok
    · cases hok
theorem so_app (o : Oper) (sz : Nat) (bytes : Nat) (l0 : List Operand) (hok : okOp P o.op (.app sz bytes) = some l0) (vals : List AV) (H : Heap) (K : AV → Heap → Prop) (h : so P (.app sz bytes) vals H K) :
    ∃ v H', K v H' ∧ SStep P o l0 vals H v H' := by
  generalize hop : o.op = op at hok
  simp only [okOp] at hok
  simp only [so] at h
  · split at hok
    · split at hok
      · rename_i hd hu
        split at hok
        · rename_i zz hz
          obtain ⟨hc, rfl⟩ := of_ite hok
          obtain ⟨h1, h2, h3, h4⟩ := hc
          obtain ⟨zv, i, hi, hz0, hzz⟩ := zeroC_spec hz
          have e1 : i.size = sz := by unfold sizeC at h1; rw [hi] at h1; simpa using h1
          have e2 : i.bytes = bytes := by unfold bytesC at h2; rw [hi] at h2; simpa using h2
          subst e1; subst e2
          have hzs : zv.cells.size = i.size := by rw [← h3, ← hzz]; simp
          replace h := a2_out h; obtain ⟨s1, x1, rfl, h⟩ := h
          unfold app at h
          obtain ⟨hs1, hs2, h⟩ := h
          replace h := sm_out h; obtain ⟨⟨nw, m⟩, hr, h⟩ := h
          dsimp only at h
          replace h := isSl_out h; rcases h with ⟨rfl, h⟩ | ⟨b, off, n, sz, c, rfl, h⟩
          · by_cases hm : m = 0
            · subst hm
              exact ⟨_, _, h.1 rfl, s_app0 hop rfl hd hu h1 (slVR (.inl rfl)) hr (szOk_spec hs2)⟩
            · obtain ⟨k1, k2⟩ := h.2 hm
              have := s_appN hop rfl hd hu hi hz0 hzs h4 (s := .nils) (old := []) (n := 0) (by simp [rdS]) hr (szOk_spec hs1) (szOk_spec hs2) (fun M z hz => by simp only [VR] at hz; exact ⟨_, 0, hz, by omega⟩) (by simpa using k1)
              simp only [List.nil_append, Nat.zero_add] at this
              exact ⟨_, _, k2, this⟩
          · obtain rfl : sz = i.size := hs1
            by_cases hm : m = 0
            · subst hm
              exact ⟨_, _, h.1 rfl, s_app0 hop rfl hd hu h1 (slVR (.inr ⟨_, _, _, _, _, rfl⟩)) hr (szOk_spec hs2)⟩
            · obtain ⟨k1, k2⟩ := h.2 hm
              replace k2 := sm_out k2; obtain ⟨old, ho, k2⟩ := k2
              split at k2
              · rename_i hk
                obtain ⟨k, rfl, hk⟩ := hk
                exact ⟨_, _, k2, s_appN hop rfl hd hu hi hz0 hzs h4 (by simp [rdS, ho]) hr (fun _ _ _ _ _ e => by cases e; rfl) (szOk_spec hs2) (fun M z hz => by
                  simp only [VR] at hz
                  obtain ⟨l, _, ⟨a, cap, e, _, _, h3⟩ | ⟨rfl, h3, e⟩⟩ := hz
                  · exact ⟨_, cap, e, by rw [h3 _ rfl]; exact hk⟩
                  · exact ⟨_, 0, e, by omega⟩) k1⟩
              · obtain ⟨k3, k4, k5⟩ := k2
                obtain ⟨kb, hkb, hown⟩ : ∃ kb, blkAt H b = some kb ∧ kb.own = true := by
                  cases hb : blkAt H b with
                  | none => rw [hb] at k3; cases k3
                  | some kb => rw [hb] at k3; exact ⟨kb, rfl, by simpa using k3⟩
                exact ⟨_, _, k5, s_appO hop rfl hd hu hi hz0 hzs h4 hkb hown ho hr (szOk_spec hs2) k4 hm k1⟩
        · cases hok
      · cases hok
    · cases hok
theorem so_appZ (o : Oper) (sz : Nat) (bytes : Nat) (z : List AV) (l0 : List Operand) (hok : okOp P o.op (.appZ sz bytes z) = some l0) (vals : List AV) (H : Heap) (K : AV → Heap → Prop) (h : so P (.appZ sz bytes z) vals H K) :
    ∃ v H', K v H' ∧ SStep P o l0 vals H v H' := by
  generalize hop : o.op = op at hok
  simp only [okOp] at hok
  simp only [so] at h
  · split at hok
    · split at hok
      · rename_i hd hu
        obtain ⟨hc, rfl⟩ := of_ite hok
        obtain ⟨h1, h2, h3, h4, h5, h6⟩ := hc
        obtain ⟨zv, g1, g2⟩ := zOk_spec h3
        obtain ⟨i, hi, hz⟩ := Option.bind_eq_some_iff.1 g1
        have e1 : i.size = sz := by unfold sizeC at h1; rw [hi] at h1; simpa using h1
        have e2 : i.bytes = bytes := by unfold bytesC at h2; rw [hi] at h2; simpa using h2
        subst e1; subst e2
        replace h := a2_out h; obtain ⟨x, y, rfl, h⟩ := h
        replace h := isSl_out h; rcases h with ⟨rfl, h⟩ | ⟨_, _, _, _, _, _, h⟩
        · replace h := isI_out h; obtain ⟨k, n, rfl, k1, k2, k3⟩ := h
          refine ⟨_, _, k3, s_appZ hop rfl hd hu hi hz ?_ h5 h6 g2 k1 k2 ?_ H⟩
          · have := (g2 (fun _ => none)).length
            simp only [Array.length_toList] at this
            omega
          · have hb : (1 : Int) ≤ i.bytes := by omega
            have : n * 1 ≤ n * i.bytes := Int.mul_le_mul_of_nonneg_left hb (by omega)
            omega
        · exact h.elim
      · cases hok
    · cases hok
theorem so_copy (o : Oper) (sz : Nat) (l0 : List Operand) (hok : okOp P o.op (.copy sz) = some l0) (vals : List AV) (H : Heap) (K : AV → Heap → Prop) (h : so P (.copy sz) vals H K) :
    ∃ v H', K v H' ∧ SStep P o l0 vals H v H' := by
  generalize hop : o.op = op at hok
  simp only [okOp] at hok
  simp only [so] at h
  · split at hok
    · split at hok
      · rename_i hd
        obtain ⟨hc, rfl⟩ := of_ite hok
        replace h := a2_out h; obtain ⟨x, y, rfl, h⟩ := h
        replace h := isSl_out h; rcases h with ⟨rfl, h⟩ | ⟨b, off, n, sz1, c, rfl, rfl, h⟩
        · exact h.elim
        · replace h := isSl_out h; rcases h with ⟨rfl, h⟩ | ⟨b', off', m, sz2, c', rfl, h⟩
          · exact ⟨_, _, h, s_copyN hop rfl hd hc _ _ _ _ H⟩
          · replace h := sm_out h; obtain ⟨cs, hr, h⟩ := h
            replace h := sm_out h; obtain ⟨k, hk, k1, k2, k3, k4⟩ := h
            exact ⟨_, _, k4, s_copy hop rfl hd hc hr hk k1 k2 k3⟩
      · cases hok
    · cases hok
theorem so_mn (o : Oper)  (l0 : List Operand) (hok : okOp P o.op .mn = some l0) (vals : List AV) (H : Heap) (K : AV → Heap → Prop) (h : so P .mn vals H K) :
    ∃ v H', K v H' ∧ SStep P o l0 vals H v H' := by
  generalize hop : o.op = op at hok
  simp only [okOp] at hok
  simp only [so] at h
  · split at hok
    · cases hok
      replace h := a2_out h; obtain ⟨x, y, rfl, h⟩ := h
      replace h := isI_out h; obtain ⟨k, p, rfl, h⟩ := h
      replace h := isI_out h; obtain ⟨k', q, rfl, rfl, h⟩ := h
      exact ⟨_, _, h, s_mnmx hop false rfl _ _ _ H⟩
    · cases hok
theorem so_mx (o : Oper)  (l0 : List Operand) (hok : okOp P o.op .mx = some l0) (vals : List AV) (H : Heap) (K : AV → Heap → Prop) (h : so P .mx vals H K) :
    ∃ v H', K v H' ∧ SStep P o l0 vals H v H' := by
  generalize hop : o.op = op at hok
  simp only [okOp] at hok
  simp only [so] at h
  · split at hok
    · cases hok
      replace h := a2_out h; obtain ⟨x, y, rfl, h⟩ := h
      replace h := isI_out h; obtain ⟨k, p, rfl, h⟩ := h
      replace h := isI_out h; obtain ⟨k', q, rfl, rfl, h⟩ := h
      exact ⟨_, _, h, s_mnmx hop true rfl _ _ _ H⟩
    · cases hok
theorem so_call (o : Oper) (g : Nat) (l0 : List Operand) (hok : okOp P o.op (.call g) = some l0) (vals : List AV) (H : Heap) (K : AV → Heap → Prop) (h : so P (.call g) vals H K) :
    ∃ v H', K v H' ∧ SStep P o l0 vals H v H' := by
  generalize hop : o.op = op at hok
  simp only [okOp] at hok
  simp only [so] at h
  · split at hok
    · obtain ⟨hc, rfl⟩ := of_ite hok
      obtain ⟨rfl, hb⟩ := hc
      obtain ⟨v, H', h1, h2⟩ := h
      exact ⟨_, _, h2, s_call hop rfl hb h1⟩
    · cases hok
theorem so_callv (o : Oper)  (l0 : List Operand) (hok : okOp P o.op .callv = some l0) (vals : List AV) (H : Heap) (K : AV → Heap → Prop) (h : so P .callv vals H K) :
    ∃ v H', K v H' ∧ SStep P o l0 vals H v H' := by
  generalize hop : o.op = op at hok
  simp only [okOp] at hok
  simp only [so] at h
  · split at hok
    · cases hok
      replace h := aC_out h; obtain ⟨x, vs, rfl, h⟩ := h
      rcases isF_out h with ⟨f, xs, ys, rfl, h⟩ | ⟨b, rfl, h⟩
      · obtain ⟨hb, v, H', h1, h2⟩ := h
        exact ⟨_, _, h2, s_callv hop rfl hb h1⟩
      · obtain ⟨v, H', h1, h2⟩ := h
        exact ⟨_, _, h2, s_yield hop rfl h1⟩
    · cases hok
theorem so_strOf (o : Oper) (l0 : List Operand) (hok : okOp P o.op .strOf = some l0) (vals : List AV) (H : Heap) (K : AV → Heap → Prop) (h : so P .strOf vals H K) :
    ∃ v H', K v H' ∧ SStep P o l0 vals H v H' := by
  generalize hop : o.op = op at hok
  simp only [okOp] at hok
  simp only [so] at h
  split at hok
  · split at hok
    · rename_i hs hd
      split at hok
      · rename_i he
        cases hok
        replace h := a1_out h; obtain ⟨x, rfl, h⟩ := h
        replace h := sm_out h; obtain ⟨⟨cs, n⟩, hr, h⟩ := h
        obtain ⟨h1, h⟩ := h
        replace h := sm_out h; obtain ⟨bs, hb, h⟩ := h
        exact ⟨_, _, h, s_strOf hop hs he hd hr (szOk_spec h1) hb⟩
      · cases hok
    · cases hok
  · cases hok
theorem so_bytesOf (o : Oper) (l0 : List Operand) (hok : okOp P o.op .bytesOf = some l0) (vals : List AV) (H : Heap) (K : AV → Heap → Prop) (h : so P .bytesOf vals H K) :
    ∃ v H', K v H' ∧ SStep P o l0 vals H v H' := by
  generalize hop : o.op = op at hok
  simp only [okOp] at hok
  simp only [so] at h
  split at hok
  · split at hok
    · rename_i hs
      split at hok
      · rename_i he
        obtain ⟨hc, rfl⟩ := of_ite hok
        subst hc
        replace h := a1_out h; obtain ⟨x, rfl, h⟩ := h
        replace h := isSl_out h; rcases h with ⟨rfl, h⟩ | ⟨b, off, n, sz, c, rfl, h⟩
        · exact h.elim
        · obtain ⟨rfl, h1, h⟩ := h
          replace h := sm_out h; obtain ⟨k, rfl, h⟩ := h
          obtain ⟨kb, hkb, hown⟩ : ∃ kb, blkAt H b = some kb ∧ kb.own = true := by
            cases hb : blkAt H b with
            | none => rw [hb] at h1; cases h1
            | some kb => rw [hb] at h1; exact ⟨kb, rfl, by simpa using h1⟩
          exact ⟨_, _, h.2, s_mark hop hs he b off n k hkb hown h.1⟩
      · cases hok
    · cases hok
  · cases hok
theorem so_mp (o : Oper) (m : MOp) (l0 : List Operand) (hok : okOp P o.op (.mp m) = some l0) (vals : List AV) (H : Heap) (K : AV → Heap → Prop) (h : so P (.mp m) vals H K) :
    ∃ v H', K v H' ∧ SStep P o l0 vals H v H' := by
  generalize hop : o.op = op at hok
  simp only [so] at h
  obtain ⟨⟨v, H'⟩, hm, hK⟩ := sm_out h
  refine ⟨v, H', hK, ?_⟩
  cases m with
  | mk =>
    simp only [okOp] at hok
    simp only [mop] at hm
    split at hok
    · cases hok
      split at hm
      · cases hm
        exact s_mk hop H
      · cases hm
    · cases hok
  | upd ks agg =>
    simp only [mop] at hm
    split at hm
    · rename_i b k w
      split at hm
      · rename_i keys vs hb
        split at hm
        · rename_i hkd
          obtain ⟨r, hf, hv⟩ := Option.map_eq_some_iff.1 hm
          cases hv
          have fin : ∀ (t : TypeId) (x i y : Operand), (o.op = .mapUpdate t x i y ∨ o.op = .insert t x i y) → mapKey P t ks agg = true → l0 = [x, i, y] → SStep P o l0 [.mapp b, k, w] H (.tup []) (H.set b (some ⟨[mput keys vs k w r], true⟩)) := by
            rintro t x i y ho hmk rfl
            cases hu : P.underlying t with
            | none => unfold mapKey at hmk; rw [hu] at hmk; cases hmk
            | some d =>
              cases d with
              | map key e => exact s_upd ho hu hmk hkd hb hf
              | _ => unfold mapKey at hmk; rw [hu] at hmk; cases hmk
          simp only [okOp] at hok
          split at hok
          · obtain ⟨hc, hl⟩ := of_ite hok
            exact fin _ _ _ _ (.inl hop) hc hl.symm
          · obtain ⟨hc, hl⟩ := of_ite hok
            exact fin _ _ _ _ (.inr hop) hc hl.symm
          · cases hok
        · cases hm
      · cases hm
    · cases hm
  | lkp ks agg z zagg ok =>
    simp only [mop] at hm
    split at hm
    · rename_i mv k
      split at hm
      · rename_i hkd
        obtain ⟨⟨keys, vs⟩, hg, hm⟩ := Option.bind_eq_some_iff.1 hm
        obtain ⟨r, hf, hm⟩ := Option.bind_eq_some_iff.1 hm
        obtain ⟨v', hv, hm⟩ := Option.map_eq_some_iff.1 hm
        cases hm
        simp only [okOp] at hok
        split at hok
        · split at hok
          · rename_i hu
            obtain ⟨⟨h1, rfl, h3, h4, h5, h6⟩, rfl⟩ := of_ite hok
            obtain ⟨zv, hz, hc⟩ := zOk_spec h3
            exact s_lkp hop hu h1 hz hc h5 h6 hkd hg hf hv
          · cases hok
        · cases hok
      · cases hm
    · cases hm
  | isnil neg =>
    simp only [mop] at hm
    simp only [okOp] at hok
    split at hok
    · split at hok
      · rename_i ht
        obtain ⟨hc, rfl⟩ := of_ite hok
        subst hc
        split at hm
        · cases hm
          exact s_isnil hop rfl ht .nilm true (fun M x hx => by simp only [VR] at hx; exact ⟨none, hx, rfl⟩) H
        · cases hm
          exact s_isnil hop rfl ht (.mapp _) false (fun M x hx => by simp only [VR] at hx; obtain ⟨l, _, e⟩ := hx; exact ⟨_, e, rfl⟩) H
        · cases hm
      · cases hok
    · cases hok
  | len =>
    simp only [mop] at hm
    simp only [okOp] at hok
    split at hok
    · split at hok
      · rename_i hd
        cases hok
        split at hm
        · obtain ⟨⟨keys, vs⟩, hg, hm⟩ := Option.map_eq_some_iff.1 hm
          cases hm
          exact s_mlen hop rfl hd hg
        · cases hm
      · cases hok
    · cases hok
theorem so_sound (o : Oper) (s : SOp) (l : List Operand) (hok : okOp P o.op s = some l) (vals : List AV) (H : Heap) (K : AV → Heap → Prop) (h : so P s vals H K) :
    ∃ v H', K v H' ∧ SStep P o l vals H v H' := by
  cases s with
  | mv  => exact so_mv o  l hok vals H K h
  | pick  => exact so_pick o  l hok vals H K h
  | alloc x0 => exact so_alloc o x0 l hok vals H K h
  | box  => exact so_box o  l hok vals H K h
  | build x0 x1 => exact so_build o x0 x1 l hok vals H K h
  | bslice x0 x1 x2 x3 => exact so_bslice o x0 x1 x2 x3 l hok vals H K h
  | ld1  => exact so_ld1 o  l hok vals H K h
  | ldn x0 => exact so_ldn o x0 l hok vals H K h
  | st x0 => exact so_st o x0 l hok vals H K h
  | nilchk  => exact so_nilchk o  l hok vals H K h
  | bin x0 => exact so_bin o x0 l hok vals H K h
  | eqv x0 x1 => exact so_eqv o x0 x1 l hok vals H K h
  | eqb x0 => exact so_eqb o x0 l hok vals H K h
  | eqs x0 => exact so_eqs o x0 l hok vals H K h
  | eqnil x0 => exact so_eqnil o x0 l hok vals H K h
  | un x0 => exact so_un o x0 l hok vals H K h
  | conv x0 => exact so_conv o x0 l hok vals H K h
  | mkfn x0 x1 => exact so_mkfn o x0 x1 l hok vals H K h
  | mksl x0 x1 x2 => exact so_mksl o x0 x1 x2 l hok vals H K h
  | slice x0 x1 x2 x3 => exact so_slice o x0 x1 x2 x3 l hok vals H K h
  | aslice x0 x1 x2 x3 x4 => exact so_aslice o x0 x1 x2 x3 x4 l hok vals H K h
  | faddr x0 => exact so_faddr o x0 l hok vals H K h
  | fld x0 x1 x2 => exact so_fld o x0 x1 x2 l hok vals H K h
  | iaddrS x0 => exact so_iaddrS o x0 l hok vals H K h
  | iaddrA x0 x1 => exact so_iaddrA o x0 x1 l hok vals H K h
  | idxA x0 x1 x2 => exact so_idxA o x0 x1 x2 l hok vals H K h
  | ext x0 => exact so_ext o x0 l hok vals H K h
  | len  => exact so_len o  l hok vals H K h
  | lenA x0 => exact so_lenA o x0 l hok vals H K h
  | cap  => exact so_cap o  l hok vals H K h
  | app x0 x1 => exact so_app o x0 x1 l hok vals H K h
  | appZ x0 x1 x2 => exact so_appZ o x0 x1 x2 l hok vals H K h
  | copy x0 => exact so_copy o x0 l hok vals H K h
  | mn  => exact so_mn o  l hok vals H K h
  | mx  => exact so_mx o  l hok vals H K h
  | call x0 => exact so_call o x0 l hok vals H K h
  | callv  => exact so_callv o  l hok vals H K h
  | strOf => exact so_strOf o l hok vals H K h
  | bytesOf => exact so_bytesOf o l hok vals H K h
  | mp m => exact so_mp o m l hok vals H K h
  | dead => simp only [so] at h
end
end Go.Proofs.Ytaiboicipbhmhaa.Ah
