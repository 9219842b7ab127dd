/- Ah9: a part of the proof: steps over abstract values, or contracts of functions. Conditions: none. -/
import Derived.Test.YtlohehkagaabfaaAh8
namespace Go.Proofs.Ytlohehkagaabfaa.Ah
open Go Go.ChangeShapes Go.WideShapes Go.ChangeAt Go.RowKit
set_option linter.unusedVariables false

/-! ### Values without references, opened whatever their shape -/

inductive LV where
  | i (k : IntKind)
  | b
  | s

def LV.fit : LV → Value → Prop
  | .i k, v => ∃ n, v = .int k n ∧ (Lit.int k n).wf = true
  | .b, v => ∃ t, v = .bool t
  | .s, v => ∃ t, v = .string t

def Fits : List LV → List Value → Prop
  | [], [] => True
  | k :: ks, v :: vs => k.fit v ∧ Fits ks vs
  | _, _ => False

theorem Fits.append : ∀ {ks : List LV} {vs : List Value} {ks' : List LV} {vs' : List Value}, Fits ks vs → Fits ks' vs' → Fits (ks ++ ks') (vs ++ vs')
  | [], [], _, _, _, h => h
  | _ :: _, _ :: _, _, _, h, h' => ⟨h.1, Fits.append h.2 h'⟩
  | [], _ :: _, _, _, h, _ => h.elim
  | _ :: _, [], _, _, h, _ => h.elim

def rep (l : List LV) : Nat → List LV
  | 0 => []
  | m + 1 => l ++ rep l m

def leafFs (f : TypeId → Option (List LV)) : List Field → Option (List LV)
  | [] => some []
  | x :: r => match f x.type, leafFs f r with | some a, some b => some (a ++ b) | _, _ => none

def leaf (P : Program) : Nat → TypeId → Option (List LV)
  | 0, _ => none
  | n + 1, t => match P.underlying t with
    | some (.int k) => some [.i k]
    | some .bool => some [.b]
    | some .string => some [.s]
    | some (.array m e) => (leaf P n e).map fun l => rep l m
    | some (.struct fs) => leafFs (leaf P n) fs.toList
    | _ => none

variable {H : Type} {enc : TypeId × Value → H} {P : Program} {W : World} {b : Nat} {sp : Nat → Bool} {held : Bool}

theorem rep_fits {l : List LV} {c : Nat} : ∀ (m : Nat) (cs : List Value), cs.length = m * c → (∀ i, i < m → Fits l ((cs.drop (i * c)).take c)) → Fits (rep l m) cs
  | 0, cs, h, _ => by
    simp at h
    subst h
    exact trivial
  | m + 1, cs, h, hf => by
    have h0 := hf 0 (by omega)
    simp only [Nat.zero_mul, List.drop_zero] at h0
    have h1 := rep_fits (l := l) (c := c) m (cs.drop c) (by rw [List.length_drop, h, Nat.succ_mul]; omega) (fun i hi => by
      have := hf (i + 1) (by omega)
      rw [List.drop_drop]
      rwa [show c + i * c = (i + 1) * c by rw [Nat.succ_mul]; omega])
    have h2 := Fits.append h0 h1
    rwa [List.take_append_drop] at h2

theorem fs_fits {g : TypeId → Option (List LV)} {z : TypeId → Nat} : ∀ (fs : List Field) (ks : List LV) (cs : List Value), leafFs g fs = some ks → cs.length = (fs.map fun f => z f.type).sum →
    (∀ (j : Nat) f l, fs[j]? = some f → g f.type = some l → Fits l ((cs.drop ((fs.take j).map fun f => z f.type).sum).take (z f.type))) → Fits ks cs
  | [], ks, cs, h, hl, _ => by
    simp [leafFs] at h
    simp at hl
    subst h hl
    exact trivial
  | x :: r, ks, cs, h, hl, hf => by
    simp only [leafFs] at h
    split at h
    · rename_i a b' h1 h2
      cases h
      have h3 := hf 0 x a rfl h1
      simp only [List.take_zero, List.map_nil, List.sum_nil, List.drop_zero] at h3
      simp only [List.map_cons, List.sum_cons] at hl
      have h4 := fs_fits (g := g) (z := z) r b' (cs.drop (z x.type)) h2 (by rw [List.length_drop, hl]; omega) (fun j f l hj hg => by
        have := hf (j + 1) f l (by simpa using hj) hg
        simp only [List.take_succ_cons, List.map_cons, List.sum_cons] at this
        rwa [List.drop_drop])
      have h5 := Fits.append h3 h4
      rwa [List.take_append_drop] at h5
    · cases h

/-- What a reading of such a value tells. -/
theorem leaf_fits (hl : laidOutB P = true) : ∀ (n : Nat) (t : TypeId) (ks : List LV) (cs : List Value) (fuel : Nat) (x : DataW H × List MemPlace), t < P.types.size → leaf P n t = some ks → DataW.trod enc P W b sp held fuel t cs = some x → Fits ks cs
  | 0, _, _, _, _, _, _, h, _ => by simp [leaf] at h
  | n + 1, t, ks, cs, fuel, x, ht, h, hx => by
    unfold leaf at h
    split at h
    · rename_i k hu
      cases h
      obtain ⟨m, rfl, _, hw⟩ := DataW.trod_int hu hx
      exact ⟨⟨m, rfl, hw⟩, trivial⟩
    · rename_i hu
      cases h
      obtain ⟨t', rfl, _⟩ := DataW.trod_bool hu hx
      exact ⟨⟨t', rfl⟩, trivial⟩
    · rename_i hu
      cases h
      obtain ⟨t', rfl, _⟩ := DataW.trod_string hu hx
      exact ⟨⟨t', rfl⟩, trivial⟩
    · rename_i m e hu
      cases hle : leaf P n e with
      | none => rw [hle] at h; cases h
      | some l =>
        rw [hle] at h
        cases h
        obtain ⟨h1, h2⟩ := kid_array hl ht hu
        obtain ⟨xs, q, _, _, h3, h4, h5⟩ := DataW.trod_array hu hx
        refine rep_fits m cs (by rw [h3, h2]) fun i hi => ?_
        have h6 := h5 i hi
        obtain ⟨y, hy⟩ : ∃ y, xs[i]? = some y := ⟨xs[i], by simp⟩
        rw [hy] at h6
        exact leaf_fits hl n e l _ q y h1 hle h6
    · rename_i fs hu
      obtain ⟨h1, h2, h3⟩ := kid_struct hl ht hu
      obtain ⟨xs, q, _, _, h4, h5, h6⟩ := DataW.trod_struct hu hx
      refine fs_fits (g := leaf P n) (z := P.cellsOf) fs.toList ks cs h (by rw [h4, h2]) fun j f l hj hg => ?_
      have hj' : fs[j]? = some f := by simpa using hj
      have h7 := h6 j f hj'
      have hlt : j < xs.length := by rw [h5]; exact (Array.getElem?_eq_some_iff.1 hj').1
      obtain ⟨y, hy⟩ : ∃ y, xs[j]? = some y := ⟨xs[j], by simp⟩
      rw [hy] at h7
      rw [← h3 j f hj]
      exact leaf_fits hl n f.type l _ q y (h1 f (List.mem_of_getElem? hj)) hg h7
    · cases h

theorem open_struct {r : Reach} {base : Nat} {t : TypeId} {fs : Array Field} {v : Value} {d : DataW H} {ps : List MemPlace} {n : Nat} {ks : List LV} (hl : laidOutB P = true) (ht : t < P.types.size) (hu : P.underlying t = some (.struct fs)) (hk : leaf P n t = some ks)
    (hv : Value.okWide P W r base t v) (h : DataW.Trod enc P W b sp held t v d ps) : ∃ cs : List Value, v = .agg cs.toArray ∧ Fits ks cs := by
  unfold Value.okWide at hv
  rw [hu] at hv
  obtain ⟨cs, rfl, _⟩ := hv
  obtain ⟨fuel, hf⟩ := h
  exact ⟨cs.toList, by simp, by simpa [Value.cells] using leaf_fits hl n t ks _ fuel _ ht hk hf⟩

theorem Fits.nil {cs : List Value} (h : Fits [] cs) : cs = [] := by cases cs with | nil => rfl | cons _ _ => exact h.elim
theorem Fits.int {k : IntKind} {ks : List LV} {cs : List Value} (h : Fits (.i k :: ks) cs) : ∃ n r, cs = .int k n :: r ∧ (Lit.int k n).wf = true ∧ Fits ks r := by
  cases cs with
  | nil => exact h.elim
  | cons v r => obtain ⟨⟨n, rfl, hw⟩, h2⟩ := h; exact ⟨n, r, rfl, hw, h2⟩
theorem Fits.bool {ks : List LV} {cs : List Value} (h : Fits (.b :: ks) cs) : ∃ t r, cs = .bool t :: r ∧ Fits ks r := by
  cases cs with
  | nil => exact h.elim
  | cons v r => obtain ⟨⟨n, rfl⟩, h2⟩ := h; exact ⟨n, r, rfl, h2⟩
end Go.Proofs.Ytlohehkagaabfaa.Ah
