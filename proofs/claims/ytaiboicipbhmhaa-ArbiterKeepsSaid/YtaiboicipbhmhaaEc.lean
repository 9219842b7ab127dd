/- Steps over abstract values and heaps, and what a call keeps. Conditions: none. -/
import Derived.Test.YtaiboicipbhmhaaEb
namespace Go.Proofs.Ytaiboicipbhmhaa.Ah
open Go Go.ChangeShapes Go.WideShapes Go.ChangeAt Go.RowKit
set_option linter.unusedVariables false

inductive LC where
  | i (k : IntKind)
  | b
  | c (t : TypeId)
def LC.fit (R : TypeId → Value → Prop) : LC → Value → Prop
  | .i k, v => ∃ n, v = .int k n ∧ (Lit.int k n).wf = true
  | .b, v => ∃ t, v = .bool t
  | .c t, v => R t v
def FitsC (R : TypeId → Value → Prop) : List LC → List Value → Prop
  | [], [] => True
  | k :: ks, v :: vs => k.fit R v ∧ FitsC R ks vs
  | _, _ => False
theorem LC.fit_mono {R R' : TypeId → Value → Prop} (h : ∀ t v, R t v → R' t v) : ∀ {k : LC} {v : Value}, k.fit R v → k.fit R' v
  | .i _, _, g => g
  | .b, _, g => g
  | .c _, _, g => h _ _ g
theorem FitsC.mono {R R' : TypeId → Value → Prop} (h : ∀ t v, R t v → R' t v) : ∀ {ks : List LC} {vs : List Value}, FitsC R ks vs → FitsC R' ks vs
  | [], [], _ => trivial
  | k :: ks, v :: vs, g => ⟨LC.fit_mono h g.1, FitsC.mono h g.2⟩
  | [], _ :: _, g => g.elim
  | _ :: _, [], g => g.elim
theorem FitsC.append {R : TypeId → Value → Prop} : ∀ {ks : List LC} {vs : List Value} {ks' : List LC} {vs' : List Value}, FitsC R ks vs → FitsC R ks' vs' → FitsC R (ks ++ ks') (vs ++ vs')
  | [], [], _, _, _, h => h
  | _ :: _, _ :: _, _, _, h, h' => ⟨h.1, FitsC.append h.2 h'⟩
  | [], _ :: _, _, _, h, _ => h.elim
  | _ :: _, [], _, _, h, _ => h.elim
def repC (l : List LC) : Nat → List LC
  | 0 => []
  | m + 1 => l ++ repC l m
def leafCs (f : TypeId → Option (List LC)) : List Field → Option (List LC)
  | [] => some []
  | x :: r => match f x.type, leafCs f r with | some a, some b => some (a ++ b) | _, _ => none
def leafC (P : Program) : Nat → TypeId → Option (List LC)
  | 0, _ => none
  | n + 1, t => match P.underlying t with
    | some (.int k) => some [.i k]
    | some .bool => some [.b]
    | some (.slice _) => some [.c t]
    | some (.array m e) => (leafC P n e).map fun l => repC l m
    | some (.struct fs) => leafCs (leafC P n) fs.toList
    | _ => none
variable {H : Type} {enc : TypeId × Value → H} {P : Program} {W : World} {b : Nat} {sp : Nat → Bool} {held : Bool}
theorem repC_fits {R : TypeId → Value → Prop} {l : List LC} {c : Nat} : ∀ (m : Nat) (cs : List Value), cs.length = m * c → (∀ i, i < m → FitsC R l ((cs.drop (i * c)).take c)) → FitsC R (repC l m) cs
  | 0, cs, h, _ => by
    simp at h
    subst h
    exact trivial
  | m + 1, cs, h, hf => by
    have h0 := hf 0 (by omega)
    simp only [Nat.zero_mul, List.drop_zero] at h0
    have h1 := repC_fits (R := R) (l := l) (c := c) m (cs.drop c) (by rw [List.length_drop, h, Nat.succ_mul]; omega) (fun i hi => by
      have := hf (i + 1) (by omega)
      rw [List.drop_drop]
      rwa [show c + i * c = (i + 1) * c by rw [Nat.succ_mul]; omega])
    have h2 := FitsC.append h0 h1
    rwa [List.take_append_drop] at h2
theorem fsC_fits {R : TypeId → Value → Prop} {g : TypeId → Option (List LC)} {z : TypeId → Nat} : ∀ (fs : List Field) (ks : List LC) (cs : List Value), leafCs g fs = some ks → cs.length = (fs.map fun f => z f.type).sum →
    (∀ (j : Nat) f l, fs[j]? = some f → g f.type = some l → FitsC R l ((cs.drop ((fs.take j).map fun f => z f.type).sum).take (z f.type))) → FitsC R ks cs
  | [], ks, cs, h, hl, _ => by
    simp [leafCs] at h
    simp at hl
    subst h hl
    exact trivial
  | x :: r, ks, cs, h, hl, hf => by
    simp only [leafCs] at h
    split at h
    · rename_i a b' h1 h2
      cases h
      have h3 := hf 0 x a rfl h1
      simp only [List.take_zero, List.map_nil, List.sum_nil, List.drop_zero] at h3
      simp only [List.map_cons, List.sum_cons] at hl
      have h4 := fsC_fits (R := R) (g := g) (z := z) r b' (cs.drop (z x.type)) h2 (by rw [List.length_drop, hl]; omega) (fun j f l hj hg => by
        have := hf (j + 1) f l (by simpa using hj) hg
        simp only [List.take_succ_cons, List.map_cons, List.sum_cons] at this
        rwa [List.drop_drop])
      have h5 := FitsC.append h3 h4
      rwa [List.take_append_drop] at h5
    · cases h
def CellR (enc : TypeId × Value → H) (P : Program) (W : World) (b : Nat) (sp : Nat → Bool) (held : Bool) (ws : List Nat) (t : TypeId) (v : Value) : Prop :=
  ∃ fuel d ps, DataW.trod enc P W b sp held fuel t [v] = some (d, ps) ∧ ∀ n ∈ d.weights P t, n ∈ ws
theorem weights_all {e : TypeId} : ∀ {ds : List (DataW H)} {j : Nat} {d : DataW H}, ds[j]? = some d → ∀ n ∈ d.weights P e, n ∈ DataW.weightsAll P e ds
  | [], j, d, h => by simp at h
  | x :: r, 0, d, h => by
    simp at h
    subst h
    intro n hn
    simp only [DataW.weightsAll, List.mem_append]
    exact .inl hn
  | x :: r, j + 1, d, h => by
    intro n hn
    simp only [DataW.weightsAll, List.mem_append]
    exact .inr (weights_all (ds := r) (by simpa using h) n hn)
theorem leafC_fits (hl : laidOutB P = true) : ∀ (n : Nat) (t : TypeId) (ks : List LC) (cs : List Value) (fuel : Nat) (x : DataW H × List MemPlace), t < P.types.size → leafC P n t = some ks → DataW.trod enc P W b sp held fuel t cs = some x → FitsC (CellR enc P W b sp held (x.1.weights P t)) ks cs
  | 0, _, _, _, _, _, _, h, _ => by simp [leafC] at h
  | n + 1, t, ks, cs, fuel, x, ht, h, hx => by
    unfold leafC at h
    split at h
    · rename_i k hu
      cases h
      obtain ⟨m, rfl, _, hw⟩ := DataW.trod_int hu hx
      exact ⟨⟨m, rfl, hw⟩, trivial⟩
    · rename_i hu
      cases h
      obtain ⟨t', rfl, _⟩ := DataW.trod_bool hu hx
      exact ⟨⟨t', rfl⟩, trivial⟩
    · rename_i e hu
      cases h
      have one : ∃ v, cs = [v] := by
        rcases DataW.trod_slice hu hx with ⟨h1, _⟩ | ⟨a, len, cap, elems, rest, k, _, h1, _⟩
        · exact ⟨_, h1⟩
        · exact ⟨_, h1⟩
      obtain ⟨v, rfl⟩ := one
      exact ⟨⟨fuel, x.1, x.2, hx, fun _ h => h⟩, trivial⟩
    · rename_i m e hu
      cases hle : leafC P n e with
      | none => rw [hle] at h; cases h
      | some l =>
        rw [hle] at h
        cases h
        obtain ⟨h1, h2⟩ := kid_array hl ht hu
        obtain ⟨xs, q, hq, _, h3, h4, h5⟩ := DataW.trod_array hu hx
        refine repC_fits m cs (by rw [h3, h2]) fun i hi => ?_
        have h6 := h5 i hi
        obtain ⟨y, hy⟩ : ∃ y, xs[i]? = some y := ⟨xs[i], by simp⟩
        rw [hy] at h6
        refine (leafC_fits hl n e l _ q y h1 hle h6).mono fun t' v ⟨fuel', d, ps, g1, g2⟩ => ⟨fuel', d, ps, g1, fun w hw => ?_⟩
        have hxx : x.1 = .agg (xs.map (·.1)) := by subst_vars; rfl
        rw [hxx]
        simp only [DataW.weights, hu]
        exact weights_all (j := i) (by simp [hy]) w (g2 w hw)
    · rename_i fs hu
      obtain ⟨h1, h2, h3⟩ := kid_struct hl ht hu
      obtain ⟨xs, q, hq, _, h4, h5, h6⟩ := DataW.trod_struct hu hx
      refine fsC_fits (g := leafC P n) (z := P.cellsOf) fs.toList ks cs h (by rw [h4, h2]) fun j f l hj hg => ?_
      have hj' : fs[j]? = some f := by simpa using hj
      have h7 := h6 j f hj'
      have hlt : j < xs.length := by rw [h5]; exact (Array.getElem?_eq_some_iff.1 hj').1
      obtain ⟨y, hy⟩ : ∃ y, xs[j]? = some y := ⟨xs[j], by simp⟩
      rw [hy] at h7
      rw [← h3 j f hj]
      refine (leafC_fits hl n f.type l _ q y (h1 f (List.mem_of_getElem? hj)) hg h7).mono fun t' v ⟨fuel', d, ps, g1, g2⟩ => ⟨fuel', d, ps, g1, fun w hw => ?_⟩
      have hxx : x.1 = .agg (xs.map (·.1)) := by subst_vars; rfl
      rw [hxx]
      simp only [DataW.weights, hu]
      exact DataW.weights_mem_each (j := j) (t := f.type) (by simp [hj']) (by simp [hy]) w (g2 w hw)
    · cases h
theorem FitsC.nil {R : TypeId → Value → Prop} {cs : List Value} (h : FitsC R [] cs) : cs = [] := by cases cs with | nil => rfl | cons _ _ => exact h.elim
theorem FitsC.int {R : TypeId → Value → Prop} {k : IntKind} {ks : List LC} {cs : List Value} (h : FitsC R (.i k :: ks) cs) : ∃ n r, cs = .int k n :: r ∧ (Lit.int k n).wf = true ∧ FitsC R ks r := by
  cases cs with
  | nil => exact h.elim
  | cons v r => obtain ⟨⟨n, rfl, hw⟩, h2⟩ := h; exact ⟨n, r, rfl, hw, h2⟩
theorem FitsC.bool {R : TypeId → Value → Prop} {ks : List LC} {cs : List Value} (h : FitsC R (.b :: ks) cs) : ∃ t r, cs = .bool t :: r ∧ FitsC R ks r := by
  cases cs with
  | nil => exact h.elim
  | cons v r => obtain ⟨⟨n, rfl⟩, h2⟩ := h; exact ⟨n, r, rfl, h2⟩
theorem FitsC.cell {R : TypeId → Value → Prop} {t : TypeId} {ks : List LC} {cs : List Value} (h : FitsC R (.c t :: ks) cs) : ∃ v r, cs = v :: r ∧ R t v ∧ FitsC R ks r := by
  cases cs with
  | nil => exact h.elim
  | cons v r => exact ⟨v, r, rfl, h.1, h.2⟩
theorem vrs_nil {M : Val} : VRs M [] [] := rfl
theorem vrs_cons {M : Val} {v : AV} {x : Value} {vs : List AV} {xs : List Value} (h : VR M v x) (h' : VRs M vs xs) : VRs M (v :: vs) (x :: xs) := by
  simp only [VRs]
  exact ⟨x, xs, rfl, h, h'⟩
end Go.Proofs.Ytaiboicipbhmhaa.Ah
namespace Go.Proofs.Ytaiboicipbhmhaa.Ah
open Go
set_option linter.unusedVariables false
variable {P : Program}

def Ext (H H' : Heap) : Prop := ∃ G, H' = H ++ G
theorem Ext.refl (H : Heap) : Ext H H := ⟨[], by simp⟩
theorem Ext.trans {H H' H'' : Heap} (h : Ext H H') (h' : Ext H' H'') : Ext H H'' := by
  obtain ⟨G, rfl⟩ := h
  obtain ⟨G', rfl⟩ := h'
  exact ⟨G ++ G', by simp⟩
theorem Ext.app (H G : Heap) : Ext H (H ++ G) := ⟨G, rfl⟩
theorem Ext.to {H H' : Heap} (h : Ext H H') (G : Heap) : Ext H (H' ++ G) := h.trans (.app _ _)
theorem Ext.len {H H' : Heap} (h : Ext H H') : H.length ≤ H'.length := by
  obtain ⟨G, rfl⟩ := h
  simp
theorem Ext.blk {H H' : Heap} (h : Ext H H') {b : Nat} {x : Blk} (hb : blkAt H b = some x) : blkAt H' b = some x := by
  obtain ⟨G, rfl⟩ := h
  rw [blkAt_lo G (blkAt_lt hb)]
  exact hb
theorem Ext.sl {α : Type} {f : α → AV} {H H' : Heap} (h : Ext H H') {p off : Nat} {zs : List α} (hs : Sl f H p off zs) : Sl f H' p off zs := by
  obtain ⟨G, rfl⟩ := h
  exact hs.app G
theorem Ext.set {H H' : Heap} (h : Ext H H') {b : Nat} (hb : H.length ≤ b) (x : Option Blk) : Ext H (H'.set b x) := by
  obtain ⟨G, rfl⟩ := h
  rw [List.set_append_right _ _ hb]
  exact ⟨_, rfl⟩
theorem blkAt_set_self {H : Heap} {b : Nat} (hb : b < H.length) (x : Option Blk) : blkAt (H.set b x) b = x := by
  unfold blkAt
  rw [List.getElem?_set_self hb]
  rfl
theorem blkAt_set_ne {H : Heap} {b c : Nat} (hb : b ≠ c) (x : Option Blk) : blkAt (H.set b x) c = blkAt H c := by
  unfold blkAt
  rw [List.getElem?_set_ne hb]
theorem set_lo (H G : Heap) {b : Nat} (hb : b < H.length) (x : Option Blk) : (H ++ G).set b x = H.set b x ++ G := List.set_append_left _ _ hb
theorem Sl.set {α : Type} {f : α → AV} {H : Heap} {p off b : Nat} {zs : List α} (hs : Sl f H p off zs) (hb : b ≠ p) (x : Option Blk) : Sl f (H.set b x) p off zs := by
  obtain ⟨cs, o, h1, h2⟩ := hs
  exact ⟨cs, o, by rw [blkAt_set_ne hb]; exact h1, h2⟩
def ACallE (P : Program) (f : FuncId) (args : List AV) (H : Heap) (Φ : AV → Heap → Prop) : Prop := ∃ v H', ACall P f args H v H' ∧ Ext H H' ∧ Φ v H'
theorem ACallE.mono {f : FuncId} {args : List AV} {H : Heap} {Φ Ψ : AV → Heap → Prop} (h : ACallE P f args H Φ) (hi : ∀ v H', Ext H H' → Φ v H' → Ψ v H') : ACallE P f args H Ψ := by
  obtain ⟨v, H', h1, h2, h3⟩ := h
  exact ⟨v, H', h1, h2, hi v H' h2 h3⟩
theorem ACall.frame {f : FuncId} {args : List AV} {H H' : Heap} {v : AV} {b : Nat} {x : Blk} (hb : blkAt H b = some x) (ho : x.own = true) (h : ACall P f args (H.set b none) v H') (hl : b < H'.length) : ACall P f args H v (H'.set b (some x)) := by
  have hb' : H[b]? = some (some x) := by
    unfold blkAt at hb
    cases hh : H[b]? with
    | none => rw [hh] at hb; cases hb
    | some y => rw [hh] at hb; simp at hb; rw [hb]
  have get0 : ∀ (k : Nat) (c : Blk), (H.set b (none : Option Blk))[k]? = some (some c) → k ≠ b ∧ H[k]? = some (some c) := by
    intro k c hc
    by_cases hk : k = b
    · subst hk
      rw [List.getElem?_set] at hc
      simp at hc
    · rw [List.getElem?_set_ne (by omega)] at hc
      exact ⟨hk, hc⟩
  have get1 : ∀ (k : Nat) (c : Blk), (H'.set b (some x))[k]? = some (some c) → (k = b ∧ c = x) ∨ (k ≠ b ∧ H'[k]? = some (some c)) := by
    intro k c hc
    by_cases hk : k = b
    · subst hk
      rw [List.getElem?_set_self hl] at hc
      exact .inl ⟨rfl, by simpa using hc.symm⟩
    · rw [List.getElem?_set_ne (by omega)] at hc
      exact .inr ⟨hk, hc⟩
  have hlt : b < H.length := (List.getElem?_eq_some_iff.1 hb').1
  intro M w xs hH hv
  refine (h M w xs (hH.kill b) hv).mono fun e w' ⟨y, M', h1, h2, h3, h4⟩ => ⟨y, M', h1, ?_, ?_, h4⟩
  all_goals
    obtain ⟨l, hM, hB⟩ := hH.row b x hb'
    have hB := hB (.inr ho)
    have hMb : M' b = some l := by rw [h3.ext b (by simpa using hlt)]; exact hM
  · have hno : ¬ (Cx.mk w M (H.set b none)).owned l.blk := by
      rintro ⟨i, c, l', g1, g2, g3, g4⟩
      obtain ⟨k1, k2⟩ := get0 i c g1
      exact hH.sep i b c x l' l k2 g2 hb' (.inr ho) k1 g3 hM g4
    have far : ∀ (k : Nat) (c : Blk) (l' : Loc), k ≠ b → H'[k]? = some (some c) → c.tells → M' k = some l' → l.blk ≠ l'.blk := by
      intro k c l' hk hc hct hl'
      rcases h3.loc k c l' hc hct hl' with h5 | ⟨j, d, l2, g1, g2, g3, g4⟩
      · have := hB.lt
        have h5' : w.heap.size ≤ l'.blk := h5
        omega
      · obtain ⟨k1, k2⟩ := get0 j d g1
        rw [← g4]
        exact hH.sep b j x d l l2 hb' ho k2 g2 (fun e => k1 e.symm) hM g3
    refine ⟨fun i hi => h2.dom i (by simpa using hi), fun i c hc => ?_, fun i j c d l1 l2 hc hco hd hdt hij hl1 hl2 => ?_⟩
    · rcases get1 i c hc with ⟨rfl, rfl⟩ | ⟨k1, k2⟩
      · exact ⟨l, hMb, fun _ => (hB.of_block (h3.block l.blk hB.lt hno)).mono (HRel.le (hH.kill i) h3)⟩
      · exact h2.row i c k2
    · rcases get1 i c hc with ⟨rfl, rfl⟩ | ⟨k1, k2⟩ <;> rcases get1 j d hd with ⟨rfl, rfl⟩ | ⟨j1, j2⟩
      · exact absurd rfl hij
      · rw [hMb] at hl1
        cases hl1
        exact far j d l2 j1 j2 hdt hl2
      · rw [hMb] at hl2
        cases hl2
        exact fun e => far i c l1 k1 k2 (.inr hco) hl1 e.symm
      · exact h2.sep i j c d l1 l2 k2 hco j2 hdt hij hl1 hl2
  · refine ⟨h3.os, h3.tape, h3.output, h3.size, fun n hn hno => h3.block n hn ?_, fun i c l' hc hco hl' => ?_, fun i hi => h3.ext i (by simpa using hi), by have := h3.len; simpa using this, fun i c l' hc hct hl' => ?_⟩
    · rintro ⟨i, c, l', g1, g2, g3, g4⟩
      obtain ⟨k1, k2⟩ := get0 i c g1
      exact hno ⟨i, c, l', k2, g2, g3, g4⟩
    · rcases get1 i c hc with ⟨rfl, rfl⟩ | ⟨k1, k2⟩
      · rw [hMb] at hl'
        cases hl'
        exact .inr ⟨i, c, l, hb', ho, hM, rfl⟩
      · rcases h3.own i c l' k2 hco hl' with h5 | ⟨j, d, l2, g1, g2, g3, g4⟩
        · exact .inl h5
        · exact .inr ⟨j, d, l2, (get0 j d g1).2, g2, g3, g4⟩
    · rcases get1 i c hc with ⟨rfl, rfl⟩ | ⟨k1, k2⟩
      · rw [hMb] at hl'
        cases hl'
        exact .inr ⟨i, c, l, hb', .inr ho, hM, rfl⟩
      · rcases h3.loc i c l' k2 hct hl' with h5 | ⟨j, d, l2, g1, g2, g3, g4⟩
        · exact .inl h5
        · exact .inr ⟨j, d, l2, (get0 j d g1).2, g2, g3, g4⟩
theorem ACallE.frame {f : FuncId} {args : List AV} {H : Heap} {Φ : AV → Heap → Prop} {b : Nat} {x : Blk} (hb : blkAt H b = some x) (ho : x.own = true) (h : ACallE P f args (H.set b none) Φ) : ACallE P f args H fun v H' => blkAt H' b = some x ∧ Φ v (H'.set b none) := by
  obtain ⟨v, H', h1, ⟨G, rfl⟩, h3⟩ := h
  have hlt := blkAt_lt hb
  have hl : b < (H.set b none ++ G).length := by simp; omega
  have hb' : H[b]? = some (some x) := by
    unfold blkAt at hb
    cases hh : H[b]? with
    | none => rw [hh] at hb; cases hb
    | some y => rw [hh] at hb; simp at hb; rw [hb]
  refine ⟨v, _, h1.frame hb ho hl, ⟨G, ?_⟩, blkAt_set_self hl _, ?_⟩
  · rw [set_lo _ _ (by simpa using hlt), List.set_set]
    congr 1
    obtain ⟨h1, h2⟩ := List.getElem?_eq_some_iff.1 hb'
    rw [← h2]
    exact List.set_getElem_self h1
  · rw [List.set_set]
    have : (H.set b none ++ G).set b none = H.set b none ++ G := by
      rw [set_lo _ _ (by simpa using hlt), List.set_set]
    rw [this]
    exact h3
theorem Sl.unset {α : Type} {f : α → AV} {H : Heap} {p off b : Nat} {zs : List α} (hs : Sl f (H.set b none) p off zs) (x : Option Blk) : Sl f (H.set b x) p off zs := by
  have hne : b ≠ p := by
    rintro rfl
    obtain ⟨cs, o, h1, _⟩ := hs
    have hl := blkAt_lt h1
    rw [blkAt_set_self (by simpa using hl)] at h1
    cases h1
  have := hs.set hne x
  rwa [List.set_set] at this
theorem Sl.back {α : Type} {f : α → AV} {H : Heap} {p off b : Nat} {zs : List α} (hs : Sl f (H.set b none) p off zs) : b ≠ p ∧ Sl f H p off zs := by
  have hne : b ≠ p := by
    rintro rfl
    obtain ⟨cs, o, h1, _⟩ := hs
    have hl := blkAt_lt h1
    rw [blkAt_set_self (by simpa using hl)] at h1
    cases h1
  obtain ⟨cs, o, h1, h2⟩ := hs
  rw [blkAt_set_ne hne] at h1
  exact ⟨hne, cs, o, h1, h2⟩
def FinK (rs : List SR) (v : AV) (Hf : Heap) : Post := fun e T H => (e = .normal ∨ e = .ret) ∧ H = Hf ∧ resVal T H rs = some v
theorem acallK {P : Program} {f : FuncId} {fn : Func} {c : Code} {s : SC} {rs : List SR} (hf : P.funcs[f]? = some fn) (hc : fn.body = some c) (hs : okC P fn.ntmps c s = true) (hr : okR P fn.results.toList rs = true)
    {args : List AV} (hn : args.length ≤ fn.ntmps) {H : Heap} {v : AV} {H' : Heap} (h : ac P s (argEnv 0 args) H (FinK rs v H')) : ACall P f args H v H' := by
  intro M w xs hH hv
  refine (callsIn_wide (n := 0)).1 (callsIn_of_wp_marks hf hc trivial ?_)
  have hl := hv.length
  have hrel : Rel ⟨w, M, H⟩ fn.ntmps (argEnv 0 args) H { tmps := xs.toArray ++ Array.replicate (fn.ntmps - xs.toArray.size) undef, defers := [] } w := by
    refine ⟨M, hH, Kept.refl M H w, ⟨by simp; omega, fun i => ?_⟩, Marks.nil _ _⟩
    rw [argEnv_get]
    simp only [Nat.zero_le, if_true, Nat.sub_zero]
    rcases Nat.lt_or_ge i args.length with hi | hi
    · obtain ⟨x, hx, hvx⟩ := hv.get i args[i] (by simp [hi])
      have h1 : args.getD i .any = args[i] := by simp [hi]
      rw [h1]
      have h2 : (xs.toArray ++ Array.replicate (fn.ntmps - xs.toArray.size) undef).getD i undef = x := by
        have : i < xs.length := by omega
        simp [Array.getElem?_append, this]
        have := List.getElem?_eq_some_iff.1 hx
        exact this.2
      rw [h2]
      exact hvx
    · have h1 : args.getD i .any = .any := by simp [hi]
      rw [h1]
      simp [VR]
  refine wpIn_mono (ac_sound (rd := none) c s hs (.inl rfl) _ H _ _ w h hrel) ?_
  rintro e a' w' ho
  have fin : ∀ e T Hf, Rel ⟨w, M, H⟩ fn.ntmps T Hf a' w' → FinK rs v H' e T Hf → LeavesInM Fence.wide 0 P fn a'.tmps (fun e w' => ∃ x' M', e = .returned x' ∧ HRel M' H' w' ∧ Kept ⟨w, M, H⟩ M' H' w' ∧ VR M' v x') a'.defers .returning w' := by
    rintro e T Hf ⟨M1, h1, h2, h3, h4⟩ ⟨_, rfl, hres⟩
    refine leaves_marks h4 h1 h2 fun w' h1 h2 => ?_
    obtain ⟨x, hx, hvx⟩ := resVal_sound h1 h3 hr hres
    exact ⟨x, hx, x, M1, rfl, h1, h2, hvx⟩
  cases e with
  | normal =>
    obtain ⟨T, Hf, h1, h2⟩ := ho
    exact fin _ T Hf h1 h2
  | ret =>
    obtain ⟨T, Hf, h1, h2⟩ := ho
    exact fin _ T Hf h1 h2
  | exit id =>
    obtain ⟨T, Hf, h1, ⟨h2, _⟩⟩ := ho
    rcases h2 with h2 | h2 <;> cases h2
  | _ => exact ho.elim
mutual
def AV.nl (n sz : Nat) : AV → AV
  | .nils => .sl n 0 0 sz none
  | .agg cs => .agg (AV.nls n sz cs)
  | .tup cs => .tup (AV.nls n sz cs)
  | .bool b => .bool b
  | .int k m => .int k m
  | .str s => .str s
  | .nilp => .nilp
  | .ptr b o => .ptr b o
  | .sl b o m s c => .sl b o m s c
  | .nilf => .nilf
  | .fn f xs ys => .fn f xs ys
  | .nilm => .nilm
  | .any => .any
  | .mapp b => .mapp b
  | .yld b => .yld b
  | .mapo ks vs => .mapo ks vs
  | .loopo rdy R vs => .loopo rdy R vs
def AV.nls (n sz : Nat) : List AV → List AV
  | [] => []
  | v :: vs => AV.nl n sz v :: AV.nls n sz vs
end
mutual
theorem VR.nl {M : Val} {n sz : Nat} (h : M n = some ⟨0, 0, 0, false⟩) : ∀ (v : AV) (x : Value), VR M v x → VR M (v.nl n sz) x
  | .nils, x, hv => by
    simp only [VR] at hv
    simp only [AV.nl, VR]
    exact ⟨⟨0, 0, 0, false⟩, Val.at_in h rfl, .inr (by simp [hv])⟩
  | .agg cs, x, hv => by
    simp only [VR] at hv
    simp only [AV.nl, VR]
    obtain ⟨us, e, h1⟩ := hv
    exact ⟨us, e, VRs.nls h cs us h1⟩
  | .tup cs, x, hv => by
    simp only [VR] at hv
    simp only [AV.nl, VR]
    obtain ⟨us, e, h1⟩ := hv
    exact ⟨us, e, VRs.nls h cs us h1⟩
  | .bool _, _, hv => hv
  | .int _ _, _, hv => hv
  | .str _, _, hv => hv
  | .nilp, _, hv => hv
  | .ptr _ _, _, hv => hv
  | .sl _ _ _ _ _, _, hv => hv
  | .nilf, _, hv => hv
  | .fn _ _ _, _, hv => hv
  | .nilm, _, hv => hv
  | .any, _, hv => hv
  | .mapp _, _, hv => hv
  | .yld _, _, hv => hv
  | .mapo _ _, _, hv => hv
  | .loopo _ _ _, _, hv => hv
theorem VRs.nls {M : Val} {n sz : Nat} (h : M n = some ⟨0, 0, 0, false⟩) : ∀ (vs : List AV) (xs : List Value), VRs M vs xs → VRs M (AV.nls n sz vs) xs
  | [], xs, hv => hv
  | v :: vs, xs, hv => by
    simp only [VRs] at hv
    simp only [AV.nls, VRs]
    obtain ⟨x, r, e, h1, h2⟩ := hv
    exact ⟨x, r, e, VR.nl h v x h1, VRs.nls h vs r h2⟩
end
theorem call_nl {f : FuncId} {args : List AV} {H H' : Heap} {v : AV} (sz : Nat) (h : ACall P f (AV.nls H.length sz args) (H ++ [some ⟨[], false⟩]) v H') : ACall P f args H v H' := by
  intro M w xs hH hv
  have hle : M.le (M.put H.length ⟨0, 0, 0, false⟩) := Val.le_put (hH.dom _ (Nat.le_refl _))
  have hv2 : VRs (M.put H.length ⟨0, 0, 0, false⟩) (AV.nls H.length sz args) xs := VRs.nls (by simp [Val.put]) _ _ (VRs.mono hle _ _ hv)
  refine (h _ w xs hH.dummy hv2).mono fun e w' ⟨x, M', h1, h2, h3, h4⟩ => ⟨x, M', h1, h2, ?_, h4⟩
  exact ((Kept.refl M H w).dummy).trans h3
theorem call_nlr {f : FuncId} {args : List AV} {H H' : Heap} {v : AV} (sz : Nat) (h : ACall P f args H v H') : ACall P f args H (v.nl H'.length sz) (H' ++ [some ⟨[], false⟩]) := by
  intro M w xs hH hv
  refine (h M w xs hH hv).mono fun e w' ⟨x, M', h1, h2, h3, h4⟩ => ⟨x, _, h1, h2.dummy, h3.dummy, ?_⟩
  have hle : M'.le (M'.put H'.length ⟨0, 0, 0, false⟩) := Val.le_put (h2.dom _ (Nat.le_refl _))
  exact VR.nl (by simp [Val.put]) _ _ (h4.mono hle)
theorem callE_nl {f : FuncId} {args : List AV} {H : Heap} {Φ : AV → Heap → Prop} (sz : Nat) (h : ACallE P f (AV.nls H.length sz args) (H ++ [some ⟨[], false⟩]) Φ) : ACallE P f args H Φ := by
  obtain ⟨v, H', h1, h2, h3⟩ := h
  exact ⟨v, H', call_nl sz h1, (Ext.app _ _).trans h2, h3⟩
theorem callE_nlr {f : FuncId} {args : List AV} {H : Heap} {Φ : AV → Heap → Prop} (sz : Nat) (h : ACallE P f args H fun v H' => Φ (v.nl H'.length sz) (H' ++ [some ⟨[], false⟩])) : ACallE P f args H Φ := by
  obtain ⟨v, H', h1, h2, h3⟩ := h
  exact ⟨_, _, call_nlr sz h1, h2.to _, h3⟩
def FinE (H : Heap) (rs : List SR) (Φ : AV → Heap → Prop) : Post := fun e T Hf => (e = .normal ∨ e = .ret) ∧ ∃ v, resVal T Hf rs = some v ∧ Ext H Hf ∧ (Φ v Hf ∨ ∃ sz, Φ (v.nl Hf.length sz) (Hf ++ [some ⟨[], false⟩]))
theorem acallE {P : Program} {f : FuncId} {args : List AV} {H : Heap} {Φ : AV → Heap → Prop} {s : SC} {T : Env} {rs : List SR} (mk : ∀ v Hf, ac P s T H (FinK rs v Hf) → ACall P f args H v Hf) (h : ac P s T H (FinE H rs Φ)) : ACallE P f args H Φ := by
  obtain ⟨e, T', H'', ⟨he, v, hv, hx, hp⟩, up⟩ := ac_det s T H _ h
  have h1 := mk v H'' (up _ ⟨he, rfl, hv⟩)
  rcases hp with hp | ⟨sz, hp⟩
  · exact ⟨v, H'', h1, hx, hp⟩
  · exact ⟨_, _, call_nlr sz h1, hx.to _, hp⟩
theorem fin_e {H : Heap} {rs : List SR} {Φ : AV → Heap → Prop} {v : AV} {e : Ex} {T : Env} {Hf : Heap} (he : e = .normal ∨ e = .ret) (hr : resVal T Hf rs = some v) (hx : Ext H Hf) (hp : Φ v Hf) : FinE H rs Φ e T Hf := ⟨he, v, hr, hx, .inl hp⟩
def ACallX (P : Program) (f : FuncId) (args : List AV) (H : Heap) (Φ : AV → Heap → Prop) : Prop := ∃ v H', ACall P f args H v H' ∧ Φ v H'
def FinX (rs : List SR) (Φ : AV → Heap → Prop) : Post := fun e T Hf => (e = .normal ∨ e = .ret) ∧ ∃ v, resVal T Hf rs = some v ∧ Φ v Hf
theorem acallX {P : Program} {f : FuncId} {args : List AV} {H : Heap} {Φ : AV → Heap → Prop} {s : SC} {T : Env} {rs : List SR} (mk : ∀ v Hf, ac P s T H (FinK rs v Hf) → ACall P f args H v Hf) (h : ac P s T H (FinX rs Φ)) : ACallX P f args H Φ := by
  obtain ⟨e, T', H'', ⟨he, v, hv, hp⟩, up⟩ := ac_det s T H _ h
  exact ⟨v, H'', mk v H'' (up _ ⟨he, rfl, hv⟩), hp⟩
theorem fin_x {rs : List SR} {Φ : AV → Heap → Prop} {v : AV} {e : Ex} {T : Env} {Hf : Heap} (he : e = .normal ∨ e = .ret) (hr : resVal T Hf rs = some v) (hp : Φ v Hf) : FinX rs Φ e T Hf := ⟨he, v, hr, hp⟩
theorem ACallX.mono {f : FuncId} {args : List AV} {H : Heap} {Φ Ψ : AV → Heap → Prop} (h : ACallX P f args H Φ) (hi : ∀ v H', Φ v H' → Ψ v H') : ACallX P f args H Ψ := by
  obtain ⟨v, H', h1, h3⟩ := h
  exact ⟨v, H', h1, hi v H' h3⟩
theorem ACallE.x {f : FuncId} {args : List AV} {H : Heap} {Φ : AV → Heap → Prop} (h : ACallE P f args H Φ) : ACallX P f args H fun v H' => Ext H H' ∧ Φ v H' := h
theorem ACallX.e {f : FuncId} {args : List AV} {H : Heap} {Φ : AV → Heap → Prop} (h : ACallX P f args H fun v H' => Ext H H' ∧ Φ v H') : ACallE P f args H Φ := h
section
variable {f : FuncId} {vs : List AV} {H H0 : Heap} {os : List SOper} {ds : List DOp} {d : Option Nat} {k : List Fr} {T : Env} {Q : Post} {Φ : AV → Heap → Prop}
theorem callBE (h : ACallE P f vs H Φ) (hk : ∀ v H', Ext H H' → Φ v H' → aopsK P os k (T.put d v) H' Q) : callB P f vs H os d k T Q := by
  obtain ⟨v, H', h1, h2, h3⟩ := h
  exact callB_intro h1 (hk v H' h2 h3)
theorem callDE (h : ACallE P f vs H Φ) (hk : ∀ v H', Ext H H' → Φ v H' → drawK P ds k (T.put d v) H' Q) : callD P f vs H ds d k T Q := by
  obtain ⟨v, H', h1, h2, h3⟩ := h
  exact callD_intro h1 (hk v H' h2 h3)
theorem callBX {Φ : AV → Heap → Prop} (h : ACallX P f vs H Φ) (hk : ∀ v H', Φ v H' → aopsK P os k (T.put d v) H' Q) : callB P f vs H os d k T Q := by
  obtain ⟨v, H', h1, h3⟩ := h
  exact callB_intro h1 (hk v H' h3)
theorem callDX {Φ : AV → Heap → Prop} (h : ACallX P f vs H Φ) (hk : ∀ v H', Φ v H' → drawK P ds k (T.put d v) H' Q) : callD P f vs H ds d k T Q := by
  obtain ⟨v, H', h1, h3⟩ := h
  exact callD_intro h1 (hk v H' h3)
theorem callXE (h : ACallE P f vs H Φ) (hk : ∀ v H', Ext H H' → Φ v H' → drawK P ds k (T.put d v) H' Q) : callX P f vs H H ds d k T Q := by
  obtain ⟨v, H', h1, ⟨G, rfl⟩, h3⟩ := h
  exact callX_intro h1 (hk v _ ⟨G, rfl⟩ h3)
end
def callPv (P : Program) (vs : List AV) (H : Heap) (os : List DOp) (d : Option Nat) (k : List Fr) (T : Env) (Q : Post) : Prop :=
  match vs with
  | .fn (.func f) xs ys :: r => hasBody P f = true ∧ callP P f (xs ++ r ++ ys) H os d k T Q
  | .yld b :: r => ∃ v, (∀ G, AYield P b r (H ++ G) v (H ++ G)) ∧ drawK P os k (T.put d v) H Q
  | _ => False
theorem callPv_fn {f : FuncId} {xs ys r : List AV} {H : Heap} {os : List DOp} {d : Option Nat} {k : List Fr} {T : Env} {Q : Post} : callPv P (.fn (.func f) xs ys :: r) H os d k T Q = (hasBody P f = true ∧ callP P f (xs ++ r ++ ys) H os d k T Q) := rfl
theorem drawK_purv {k : List Fr} {T : Env} {H : Heap} {Q : Post} (i n : Nat) (x : Bool) (d : Option Nat) (args : List SO) (kill : List Nat) (os : List DOp) : drawK P (⟨i, n, x, true, ⟨d, .callv, args, none, kill⟩, []⟩ :: os) k T H Q = callPv P (T.evals args) H os d k (T.dels kill) Q := by
  apply propext
  constructor
  · intro h
    unfold drawK at h
    rw [adraw] at h
    simp only [sor, rC_sat, rF_sat, need_sat, call_sat, ycall_sat] at h
    obtain ⟨g, r, e, h⟩ := aC_out h
    rcases isF_out h with ⟨f, xs, ys, rfl, h⟩ | ⟨b, rfl, h⟩
    · obtain ⟨hb, v, H', hA, ⟨⟨_, hp⟩, _⟩, hk⟩ := h
      obtain ⟨rfl, hpur⟩ := hp trivial
      rw [e]
      refine ⟨hb, v, fun G => ?_, hk⟩
      have h2 := hpur G (fun v' H2 => v' = v ∧ H2 = H' ++ G) ⟨rfl, rfl⟩
      rw [e] at h2
      simp only [sor, rC_sat, rF_sat, need_sat, call_sat, aC, isF] at h2
      obtain ⟨_, v', H2, hA2, rfl, rfl⟩ := h2
      exact hA2
    · obtain ⟨v, H', hA, ⟨⟨_, hp⟩, _⟩, hk⟩ := h
      obtain ⟨rfl, hpur⟩ := hp trivial
      rw [e]
      refine ⟨v, fun G => ?_, hk⟩
      have h2 := hpur G (fun v' H2 => v' = v ∧ H2 = H' ++ G) ⟨rfl, rfl⟩
      rw [e] at h2
      simp only [sor, rC_sat, rF_sat, ycall_sat, aC, isF] at h2
      obtain ⟨v', H2, hA2, rfl, rfl⟩ := h2
      exact hA2
  · intro h
    unfold callPv at h
    split at h
    · rename_i f xs ys r e
      obtain ⟨hb, v, h1, h2⟩ := h
      unfold drawK
      rw [adraw]
      simp only [sor, rC_sat, rF_sat, need_sat, call_sat, e, aC, isF]
      refine ⟨hb, v, H, by simpa using h1 [], ⟨⟨fun _ => ⟨[], by simp⟩, fun _ => ⟨rfl, fun G K hk => ?_⟩⟩, trivial⟩, h2⟩
      simp only [sor, rC_sat, rF_sat, need_sat, call_sat, aC, isF]
      exact ⟨hb, v, _, h1 G, hk⟩
    · rename_i b r e
      obtain ⟨v, h1, h2⟩ := h
      unfold drawK
      rw [adraw]
      simp only [sor, rC_sat, rF_sat, ycall_sat, e, aC, isF]
      refine ⟨v, H, by simpa using h1 [], ⟨⟨fun _ => ⟨[], by simp⟩, fun _ => ⟨rfl, fun G K hk => ?_⟩⟩, trivial⟩, h2⟩
      simp only [sor, rC_sat, rF_sat, ycall_sat, aC, isF]
      exact ⟨v, _, h1 G, hk⟩
    · exact h.elim
theorem fin_ext {H : Heap} {rs : List SR} {v : AV} {e : Ex} {T : Env} {Hf : Heap} (he : e = .normal ∨ e = .ret) (hx : Ext H Hf) (hr : resVal T Hf rs = some v) (hv : v.und H.length) : Fin H rs v H e T Hf := by
  obtain ⟨G, hG⟩ := hx
  exact fin_same he G hG hr hv

def Rw {α : Type} (f : α → AV) (H : Heap) (v : AV) (zs : List α) : Prop := ∃ p off c, v = .sl p off zs.length 1 c ∧ Sl f H p off zs
theorem Rw.ext {α : Type} {f : α → AV} {H H' : Heap} {v : AV} {zs : List α} (h : Rw f H v zs) (hx : Ext H H') : Rw f H' v zs := by
  obtain ⟨p, off, c, rfl, hs⟩ := h
  exact ⟨p, off, c, rfl, hx.sl hs⟩
theorem Rw.mk {α : Type} {f : α → AV} {H : Heap} {p off : Nat} {zs : List α} (c : Option Nat) (h : Sl f H p off zs) : Rw f H (.sl p off zs.length 1 c) zs := ⟨p, off, c, rfl, h⟩
theorem Rw.empty {α : Type} {f : α → AV} (H : Heap) : Rw f (H ++ [some ⟨[], false⟩]) (.sl H.length 0 0 1 none) [] := ⟨_, _, _, rfl, ⟨[], false, by rw [blkAt_app0]; rfl, by simp, by simp⟩⟩
theorem loop_list {α : Type} {b : SC} {K : List Fr} {Q : Post} (Inv : List α → Env → Heap → Prop)
    (step : ∀ x r T H, Inv (x :: r) T H → (∀ T' H', Inv r T' H' → acs P (.lp b :: K) T' H' Q) → acs P (.lp b :: K) T H Q)
    (stop : ∀ T H, Inv [] T H → acs P (.lp b :: K) T H Q) : ∀ (r : List α) (T : Env) (H : Heap), Inv r T H → acs P (.lp b :: K) T H Q
  | [], T, H, h => stop T H h
  | x :: r, T, H, h => step x r T H h (loop_list Inv step stop r)
end Go.Proofs.Ytaiboicipbhmhaa.Ah
namespace Go.Proofs.Ytaiboicipbhmhaa.Ah
open Go
set_option linter.unusedVariables false
variable {P : Program}

end Go.Proofs.Ytaiboicipbhmhaa.Ah
