/- Ah13: a part of the proof: steps over abstract values, or contracts of functions. Conditions: none. -/
import Derived.Test.YtlohehkagaabfaaAh10
namespace Go.Proofs.Ytlohehkagaabfaa.Ah
open Go Go.ChangeShapes Go.WideShapes Go.ChangeAt Go.RowKit
set_option linter.unusedVariables false

/-! ### Arguments that hold rows in part -/

inductive LC where
  | i (k : IntKind)
  | b
  | c (t : TypeId)

def LC.fit (R : TypeId → Value → Prop) : LC → Value → Prop
  | .i k, v => ∃ n, v = .int k n ∧ (Lit.int k n).wf = true
  | .b, v => ∃ t, v = .bool t
  | .c t, v => R t v

def FitsC (R : TypeId → Value → Prop) : List LC → List Value → Prop
  | [], [] => True
  | k :: ks, v :: vs => k.fit R v ∧ FitsC R ks vs
  | _, _ => False

theorem LC.fit_mono {R R' : TypeId → Value → Prop} (h : ∀ t v, R t v → R' t v) : ∀ {k : LC} {v : Value}, k.fit R v → k.fit R' v
  | .i _, _, g => g
  | .b, _, g => g
  | .c _, _, g => h _ _ g

theorem FitsC.mono {R R' : TypeId → Value → Prop} (h : ∀ t v, R t v → R' t v) : ∀ {ks : List LC} {vs : List Value}, FitsC R ks vs → FitsC R' ks vs
  | [], [], _ => trivial
  | k :: ks, v :: vs, g => ⟨LC.fit_mono h g.1, FitsC.mono h g.2⟩
  | [], _ :: _, g => g.elim
  | _ :: _, [], g => g.elim

theorem FitsC.append {R : TypeId → Value → Prop} : ∀ {ks : List LC} {vs : List Value} {ks' : List LC} {vs' : List Value}, FitsC R ks vs → FitsC R ks' vs' → FitsC R (ks ++ ks') (vs ++ vs')
  | [], [], _, _, _, h => h
  | _ :: _, _ :: _, _, _, h, h' => ⟨h.1, FitsC.append h.2 h'⟩
  | [], _ :: _, _, _, h, _ => h.elim
  | _ :: _, [], _, _, h, _ => h.elim

def repC (l : List LC) : Nat → List LC
  | 0 => []
  | m + 1 => l ++ repC l m

def leafCs (f : TypeId → Option (List LC)) : List Field → Option (List LC)
  | [] => some []
  | x :: r => match f x.type, leafCs f r with | some a, some b => some (a ++ b) | _, _ => none

def leafC (P : Program) : Nat → TypeId → Option (List LC)
  | 0, _ => none
  | n + 1, t => match P.underlying t with
    | some (.int k) => some [.i k]
    | some .bool => some [.b]
    | some (.slice _) => some [.c t]
    | some (.array m e) => (leafC P n e).map fun l => repC l m
    | some (.struct fs) => leafCs (leafC P n) fs.toList
    | _ => none

variable {H : Type} {enc : TypeId × Value → H} {P : Program} {W : World} {b : Nat} {sp : Nat → Bool} {held : Bool}

theorem repC_fits {R : TypeId → Value → Prop} {l : List LC} {c : Nat} : ∀ (m : Nat) (cs : List Value), cs.length = m * c → (∀ i, i < m → FitsC R l ((cs.drop (i * c)).take c)) → FitsC R (repC l m) cs
  | 0, cs, h, _ => by
    simp at h
    subst h
    exact trivial
  | m + 1, cs, h, hf => by
    have h0 := hf 0 (by omega)
    simp only [Nat.zero_mul, List.drop_zero] at h0
    have h1 := repC_fits (R := R) (l := l) (c := c) m (cs.drop c) (by rw [List.length_drop, h, Nat.succ_mul]; omega) (fun i hi => by
      have := hf (i + 1) (by omega)
      rw [List.drop_drop]
      rwa [show c + i * c = (i + 1) * c by rw [Nat.succ_mul]; omega])
    have h2 := FitsC.append h0 h1
    rwa [List.take_append_drop] at h2

theorem fsC_fits {R : TypeId → Value → Prop} {g : TypeId → Option (List LC)} {z : TypeId → Nat} : ∀ (fs : List Field) (ks : List LC) (cs : List Value), leafCs g fs = some ks → cs.length = (fs.map fun f => z f.type).sum →
    (∀ (j : Nat) f l, fs[j]? = some f → g f.type = some l → FitsC R l ((cs.drop ((fs.take j).map fun f => z f.type).sum).take (z f.type))) → FitsC R ks cs
  | [], ks, cs, h, hl, _ => by
    simp [leafCs] at h
    simp at hl
    subst h hl
    exact trivial
  | x :: r, ks, cs, h, hl, hf => by
    simp only [leafCs] at h
    split at h
    · rename_i a b' h1 h2
      cases h
      have h3 := hf 0 x a rfl h1
      simp only [List.take_zero, List.map_nil, List.sum_nil, List.drop_zero] at h3
      simp only [List.map_cons, List.sum_cons] at hl
      have h4 := fsC_fits (R := R) (g := g) (z := z) r b' (cs.drop (z x.type)) h2 (by rw [List.length_drop, hl]; omega) (fun j f l hj hg => by
        have := hf (j + 1) f l (by simpa using hj) hg
        simp only [List.take_succ_cons, List.map_cons, List.sum_cons] at this
        rwa [List.drop_drop])
      have h5 := FitsC.append h3 h4
      rwa [List.take_append_drop] at h5
    · cases h

/-- What is told of a cell that leads on. -/
def CellR (enc : TypeId × Value → H) (P : Program) (W : World) (b : Nat) (sp : Nat → Bool) (held : Bool) (ws : List Nat) (t : TypeId) (v : Value) : Prop :=
  ∃ fuel d ps, DataW.trod enc P W b sp held fuel t [v] = some (d, ps) ∧ ∀ n ∈ d.weights P t, n ∈ ws

theorem weights_all {e : TypeId} : ∀ {ds : List (DataW H)} {j : Nat} {d : DataW H}, ds[j]? = some d → ∀ n ∈ d.weights P e, n ∈ DataW.weightsAll P e ds
  | [], j, d, h => by simp at h
  | x :: r, 0, d, h => by
    simp at h
    subst h
    intro n hn
    simp only [DataW.weightsAll, List.mem_append]
    exact .inl hn
  | x :: r, j + 1, d, h => by
    intro n hn
    simp only [DataW.weightsAll, List.mem_append]
    exact .inr (weights_all (ds := r) (by simpa using h) n hn)

theorem leafC_fits (hl : laidOutB P = true) : ∀ (n : Nat) (t : TypeId) (ks : List LC) (cs : List Value) (fuel : Nat) (x : DataW H × List MemPlace), t < P.types.size → leafC P n t = some ks → DataW.trod enc P W b sp held fuel t cs = some x → FitsC (CellR enc P W b sp held (x.1.weights P t)) ks cs
  | 0, _, _, _, _, _, _, h, _ => by simp [leafC] at h
  | n + 1, t, ks, cs, fuel, x, ht, h, hx => by
    unfold leafC at h
    split at h
    · rename_i k hu
      cases h
      obtain ⟨m, rfl, _, hw⟩ := DataW.trod_int hu hx
      exact ⟨⟨m, rfl, hw⟩, trivial⟩
    · rename_i hu
      cases h
      obtain ⟨t', rfl, _⟩ := DataW.trod_bool hu hx
      exact ⟨⟨t', rfl⟩, trivial⟩
    · rename_i e hu
      cases h
      have one : ∃ v, cs = [v] := by
        rcases DataW.trod_slice hu hx with ⟨h1, _⟩ | ⟨a, len, cap, elems, rest, k, _, h1, _⟩
        · exact ⟨_, h1⟩
        · exact ⟨_, h1⟩
      obtain ⟨v, rfl⟩ := one
      exact ⟨⟨fuel, x.1, x.2, hx, fun _ h => h⟩, trivial⟩
    · rename_i m e hu
      cases hle : leafC P n e with
      | none => rw [hle] at h; cases h
      | some l =>
        rw [hle] at h
        cases h
        obtain ⟨h1, h2⟩ := kid_array hl ht hu
        obtain ⟨xs, q, hq, _, h3, h4, h5⟩ := DataW.trod_array hu hx
        refine repC_fits m cs (by rw [h3, h2]) fun i hi => ?_
        have h6 := h5 i hi
        obtain ⟨y, hy⟩ : ∃ y, xs[i]? = some y := ⟨xs[i], by simp⟩
        rw [hy] at h6
        refine (leafC_fits hl n e l _ q y h1 hle h6).mono fun t' v ⟨fuel', d, ps, g1, g2⟩ => ⟨fuel', d, ps, g1, fun w hw => ?_⟩
        have hxx : x.1 = .agg (xs.map (·.1)) := by subst_vars; rfl
        rw [hxx]
        simp only [DataW.weights, hu]
        exact weights_all (j := i) (by simp [hy]) w (g2 w hw)
    · rename_i fs hu
      obtain ⟨h1, h2, h3⟩ := kid_struct hl ht hu
      obtain ⟨xs, q, hq, _, h4, h5, h6⟩ := DataW.trod_struct hu hx
      refine fsC_fits (g := leafC P n) (z := P.cellsOf) fs.toList ks cs h (by rw [h4, h2]) fun j f l hj hg => ?_
      have hj' : fs[j]? = some f := by simpa using hj
      have h7 := h6 j f hj'
      have hlt : j < xs.length := by rw [h5]; exact (Array.getElem?_eq_some_iff.1 hj').1
      obtain ⟨y, hy⟩ : ∃ y, xs[j]? = some y := ⟨xs[j], by simp⟩
      rw [hy] at h7
      rw [← h3 j f hj]
      refine (leafC_fits hl n f.type l _ q y (h1 f (List.mem_of_getElem? hj)) hg h7).mono fun t' v ⟨fuel', d, ps, g1, g2⟩ => ⟨fuel', d, ps, g1, fun w hw => ?_⟩
      have hxx : x.1 = .agg (xs.map (·.1)) := by subst_vars; rfl
      rw [hxx]
      simp only [DataW.weights, hu]
      exact DataW.weights_mem_each (j := j) (t := f.type) (by simp [hj']) (by simp [hy]) w (g2 w hw)
    · cases h

theorem open_mix {r : Reach} {base : Nat} {t : TypeId} {fs : Array Field} {v : Value} {d : DataW H} {ps : List MemPlace} {n : Nat} {ks : List LC} (hl : laidOutB P = true) (ht : t < P.types.size) (hu : P.underlying t = some (.struct fs)) (hk : leafC P n t = some ks)
    (hv : Value.okWide P W r base t v) (h : DataW.Trod enc P W b sp held t v d ps) : ∃ cs : List Value, v = .agg cs.toArray ∧ FitsC (CellR enc P W b sp held (d.weights P t)) ks cs ∧
      (∀ ts, P.cellTypes P.depth t = some ts → ∀ (i : Nat) v, cs[i]? = some v → ∃ u, ts[i % ts.length]? = some u ∧ Cell.okWide P W r base u v) := by
  unfold Value.okWide at hv
  rw [hu] at hv
  obtain ⟨cs, rfl, _, ts, h1, _, h2⟩ := hv
  obtain ⟨fuel, hf⟩ := h
  refine ⟨cs.toList, by simp, by simpa [Value.cells] using leafC_fits hl n t ks _ fuel _ ht hk hf, fun ts' h3 i v hi => ?_⟩
  rw [h1] at h3
  cases h3
  exact h2 i v (by simpa using hi)

theorem FitsC.nil {R : TypeId → Value → Prop} {cs : List Value} (h : FitsC R [] cs) : cs = [] := by cases cs with | nil => rfl | cons _ _ => exact h.elim
theorem FitsC.int {R : TypeId → Value → Prop} {k : IntKind} {ks : List LC} {cs : List Value} (h : FitsC R (.i k :: ks) cs) : ∃ n r, cs = .int k n :: r ∧ (Lit.int k n).wf = true ∧ FitsC R ks r := by
  cases cs with
  | nil => exact h.elim
  | cons v r => obtain ⟨⟨n, rfl, hw⟩, h2⟩ := h; exact ⟨n, r, rfl, hw, h2⟩
theorem FitsC.bool {R : TypeId → Value → Prop} {ks : List LC} {cs : List Value} (h : FitsC R (.b :: ks) cs) : ∃ t r, cs = .bool t :: r ∧ FitsC R ks r := by
  cases cs with
  | nil => exact h.elim
  | cons v r => obtain ⟨⟨n, rfl⟩, h2⟩ := h; exact ⟨n, r, rfl, h2⟩
theorem FitsC.cell {R : TypeId → Value → Prop} {t : TypeId} {ks : List LC} {cs : List Value} (h : FitsC R (.c t :: ks) cs) : ∃ v r, cs = v :: r ∧ R t v ∧ FitsC R ks r := by
  cases cs with
  | nil => exact h.elim
  | cons v r => exact ⟨v, r, rfl, h.1, h.2⟩

/-- A slice of whole numbers in such an argument. -/
theorem open_cisl {r : Reach} {base : Nat} {t e : TypeId} {v : Value} {k : IntKind} {ws : List Nat} (hl : laidOutB P = true) (hu : P.underlying t = some (.slice e)) (he : e < P.types.size) (hk : P.underlying e = some (.int k)) (hc : P.cellsOf e = 1)
    (hv : Cell.okWide P W r base t v) (h : CellR enc P W 0 (fun _ => true) held ws t v) :
    ∃ (l : Loc) (zs : List Int), (∀ z ∈ zs, (Lit.int k z).wf = true) ∧ (∀ (M : Val) (i : Nat), M i = some l → VR M (.sl i 0 zs.length 1 none) v) ∧ RowOk W l (zs.map (AV.int k)) ∧ (P.bytesOf e ≠ 0 → (∀ n ∈ ws, n ≤ reachBytes) → zs.length ≤ 140737488351232) := by
  obtain ⟨fuel, d, ps, h1, h2⟩ := h
  have hone : v.cells.toList = [v] := by
    rcases DataW.trod_slice hu h1 with ⟨g1, _⟩ | ⟨a, len, cap, elems, rest, k, _, g1, _⟩
    · cases g1; rfl
    · cases g1; rfl
  have hv' : Value.okWide P W r base t v := by
    unfold Value.okWide
    rw [hu]
    exact hv
  obtain ⟨l, zs, g1, g2, g3, g4, g5⟩ := open_isl hl hu he hk hc hv' ⟨fuel, by rw [hone]; exact h1⟩
  refine ⟨l, zs, g2, g3, g4, fun hb hall => ?_⟩
  rcases g5 with g5 | ⟨el, rest, rfl, g5⟩
  · omega
  · have h3 := hall _ (h2 ((el.length + rest.length) * P.bytesOf e) (by simp [DataW.weights, hu]))
    have h4 : el.length ≤ (el.length + rest.length) * P.bytesOf e := Nat.le_trans (Nat.le_add_right _ _) (Nat.le_mul_of_pos_right _ (Nat.pos_of_ne_zero hb))
    have h5 : reachBytes = 140737488351232 := rfl
    omega

theorem vr_agg {M : Val} {cs : List AV} {us : List Value} (h : VRs M cs us) : VR M (.agg cs) (.agg us.toArray) := by
  simp only [VR]
  exact ⟨us, rfl, h⟩
theorem vrs_nil {M : Val} : VRs M [] [] := rfl
theorem vrs_cons {M : Val} {v : AV} {x : Value} {vs : List AV} {xs : List Value} (h : VR M v x) (h' : VRs M vs xs) : VRs M (v :: vs) (x :: xs) := by
  simp only [VRs]
  exact ⟨x, xs, rfl, h, h'⟩
end Go.Proofs.Ytlohehkagaabfaa.Ah
