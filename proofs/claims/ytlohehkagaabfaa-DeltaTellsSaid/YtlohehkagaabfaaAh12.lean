/- Ah12: a part of the proof: steps over abstract values, or contracts of functions. Conditions: none. -/
import Derived.Test.YtlohehkagaabfaaAh11
namespace Go.Proofs.Ytlohehkagaabfaa.Ah
open Go

/-! ### A number for nothing: what may be nil -/

theorem HRel.dummy {M : Val} {H : Heap} {w : World} (h : HRel M H w) : HRel (M.put H.length ⟨0, 0, 0⟩) (H ++ [some ⟨[], false⟩]) w := by
  have hle : M.le (M.put H.length ⟨0, 0, 0⟩) := Val.le_put (h.dom _ (Nat.le_refl _))
  have back : ∀ (i : Nat) (l : Loc), i < H.length → (M.put H.length ⟨0, 0, 0⟩) i = some l → M i = some l := by
    intro i l hi e
    unfold Val.put at e
    rwa [if_neg (by omega)] at e
  refine ⟨fun i hi => ?_, fun i b hb => ?_, fun i j b c l l' hb ho hc hct hij hl hl' => ?_⟩
  · simp at hi
    unfold Val.put
    rw [if_neg (by omega)]
    exact h.dom i (by omega)
  · rcases get_snoc hb with ⟨h1, h2⟩ | ⟨rfl, h2⟩
    · obtain ⟨l, g1, g2⟩ := h.row i b h2
      exact ⟨l, hle _ _ g1, fun ht => (g2 ht).mono hle⟩
    · cases h2
      exact ⟨⟨0, 0, 0⟩, by simp [Val.put], fun ht => by rcases ht with ht | ht <;> simp at ht⟩
  · rcases get_snoc hb with ⟨h1, h2⟩ | ⟨rfl, h2⟩
    · rcases get_snoc hc with ⟨g1, g2⟩ | ⟨rfl, g2⟩
      · exact h.sep i j b c l l' h2 ho g2 hct hij (back i l h1 hl) (back j l' g1 hl')
      · cases g2
        rcases hct with ht | ht <;> simp at ht
    · cases h2
      cases ho

theorem Kept.dummy {X : Cx} {M : Val} {H : Heap} {w : World} (hk : Kept X M H w) : Kept X (M.put H.length ⟨0, 0, 0⟩) (H ++ [some ⟨[], false⟩]) w where
  os := hk.os
  tape := hk.tape
  output := hk.output
  size := hk.size
  block := hk.block
  own := fun i b l hb ho hl => by
    rcases get_snoc hb with ⟨h1, h2⟩ | ⟨rfl, h2⟩
    · refine hk.own i b l h2 ho ?_
      unfold Val.put at hl
      rwa [if_neg (by omega)] at hl
    · cases h2
      cases ho
  ext := fun i hi => by
    have := hk.len
    unfold Val.put
    rw [if_neg (by omega)]
    exact hk.ext i hi
  len := by have := hk.len; simp; omega

/-- A result that is nil, told as a row of nothing. -/
theorem call_nilres {P : Program} {f : FuncId} {args : List AV} {H : Heap} {sz : Nat} (h : ACall P f args H .nils H) : ACall P f args H (.sl H.length 0 0 sz none) (H ++ [some ⟨[], false⟩]) := by
  intro M w xs hH hv
  refine (h M w xs hH hv).mono fun e w' ⟨x, M', h1, h2, h3, h4⟩ => ⟨x, _, h1, h2.dummy, h3.dummy, ?_⟩
  simp only [VR] at h4 ⊢
  exact ⟨⟨0, 0, 0⟩, by simp [Val.put], .inr (by simp [h4])⟩

/-- An argument that is nil, told as a row of nothing. -/
theorem call_nil {P : Program} {f : FuncId} {pre post : List AV} {H H' : Heap} {v : AV} {sz : Nat} (h : ACall P f (pre ++ .sl H.length 0 0 sz none :: post) (H ++ [some ⟨[], false⟩]) v H') : ACall P f (pre ++ .nils :: post) H v H' := by
  intro M w xs hH hv
  have hle : M.le (M.put H.length ⟨0, 0, 0⟩) := Val.le_put (hH.dom _ (Nat.le_refl _))
  have hv2 : VRs (M.put H.length ⟨0, 0, 0⟩) (pre ++ .sl H.length 0 0 sz none :: post) xs := by
    refine VRs.mk (by rw [hv.length]; simp) fun j u hu => ?_
    by_cases hj : j = pre.length
    · subst hj
      obtain ⟨x, hx, hr⟩ := hv.get pre.length .nils (by simp)
      simp at hu
      subst hu
      refine ⟨x, hx, ?_⟩
      simp only [VR] at hr ⊢
      exact ⟨⟨0, 0, 0⟩, by simp [Val.put], .inr (by simp [hr])⟩
    · have hu2 : (pre ++ .nils :: post)[j]? = some u := by
        rw [← hu]
        by_cases hlt : j < pre.length
        · rw [List.getElem?_append_left hlt, List.getElem?_append_left hlt]
        · rw [List.getElem?_append_right (by omega), List.getElem?_append_right (by omega)]
          obtain ⟨k, hk⟩ : ∃ k, j - pre.length = k + 1 := ⟨j - pre.length - 1, by omega⟩
          rw [hk]
          rfl
      obtain ⟨x, hx, hr⟩ := hv.get j u hu2
      exact ⟨x, hx, hr.mono hle⟩
  refine (h _ w xs hH.dummy hv2).mono fun e w' ⟨x, M', h1, h2, h3, h4⟩ => ⟨x, M', h1, h2, ?_, h4⟩
  have K0 := (Kept.refl M H w).dummy
  exact K0.trans h3

theorem fin_oneF {H : Heap} {rs : List SR} {v vf : AV} {e : Ex} {T : Env} {Hf : Heap} {o : Bool} (G : Heap) (k : Nat) (c : List AV) (he : e = .normal ∨ e = .ret) (hG : Hf = H ++ G) (hk : G[k]? = some (some ⟨c, o⟩)) (hc : AV.unds H.length c) (hr : resVal T Hf rs = some vf)
    (hv : vf = v.ren (fun i => if i < H.length then i else H.length + k)) (hb : v.und (H.length + 1)) : Fin H rs v (H ++ [some ⟨c, false⟩]) e T Hf := by
  subst hG
  have hlow : ∀ i, i < H.length → (fun i => if i < H.length then i else H.length + k) i = i := fun i hi => by simp [hi]
  refine ⟨he, vf, (fun i => if i < H.length then i else H.length + k), hr, hlow, fun i j hi hj hij => ?_, by simp, fun i b' hi => ?_, hv, by simpa using hb⟩
  · simp only [List.length_append, List.length_cons, List.length_nil] at hi hj
    split at hij <;> split at hij <;> omega
  · rcases Nat.lt_or_ge i H.length with h | h
    · rw [List.getElem?_append_left h] at hi
      exact .inl ⟨h, hi, by rw [List.getElem?_append_left h]; exact hi⟩
    · rw [List.getElem?_append_right h] at hi
      have : i = H.length := by
        rcases Nat.eq_or_lt_of_le h with h2 | h2
        · exact h2.symm
        · rw [List.getElem?_eq_none (by simp; omega)] at hi; cases hi
      subst this
      simp at hi
      subst hi
      refine .inr ⟨⟨c, o⟩, ?_, (AV.rens_id hlow _ hc).symm, (fun h => by cases h), AV.unds_mono (by simp) _ hc⟩
      simp only [Nat.lt_irrefl, if_false]
      rw [List.getElem?_append_right (by omega)]
      rw [show H.length + k - H.length = k by omega]
      exact hk
end Go.Proofs.Ytlohehkagaabfaa.Ah
