/- Ah2b: a part of the proof: steps over abstract values, or contracts of functions. Conditions: none. -/
import Derived.Test.YtlohehkagaabfaaAh2a
import Derived.Laws.CopyRow
namespace Go.Proofs.Ytlohehkagaabfaa.Ah
open Go
section
variable {P : Program}

theorem plain_add (g o j : Nat) : (⟨g, o, none⟩ : Addr).add j = ⟨g, o + j, none⟩ := by
  unfold Addr.add
  split <;> simp_all

theorem rd_some {H : Heap} {b off n : Nat} {cs : List AV} (h : rd H b off n = some cs) : ∃ k, H[b]? = some (some k) ∧ off + n ≤ k.cells.length ∧ cs = (k.cells.drop off).take n ∧ cs.length = n := by
  unfold rd blkAt at h
  cases hb : H[b]? with
  | none => simp [hb] at h
  | some o =>
    cases o with
    | none => simp [hb] at h
    | some k =>
      simp only [hb, Option.join_some] at h
      by_cases hl : off + n ≤ k.cells.length
      · rw [if_pos hl] at h
        cases h
        exact ⟨k, rfl, hl, rfl, by simp; omega⟩
      · rw [if_neg hl] at h
        cases h

theorem blkAt_some {H : Heap} {b : Nat} {k : Blk} (h : blkAt H b = some k) : H[b]? = some (some k) := by
  unfold blkAt at h
  cases hb : H[b]? with
  | none => simp [hb] at h
  | some o => cases o with
    | none => simp [hb] at h
    | some k' => simp [hb] at h; subst h; rfl

/-- Reading a row. -/
theorem run_rd {M : Val} {H : Heap} {w : World} (h : HRel M H w) {b off n : Nat} {cs : List AV} (hr : rd H b off n = some cs) :
    ∃ l xs, M b = some l ∧ (∀ wd : World, wd.heap = w.heap → (loadCells ⟨l.blk, l.off + off, none⟩ n).run P wd = .ok (List.toArray xs) wd) ∧ VRs M cs xs ∧ xs.length = n := by
  obtain ⟨k, hb, hl, rfl, hn⟩ := rd_some hr
  by_cases hn0 : n = 0
  · subst hn0
    obtain ⟨l, hM, _⟩ := h.row b k hb
    exact ⟨l, [], hM, fun wd _ => by simp [loadCells, loadCellsFrom], by simp [VRs], rfl⟩
  obtain ⟨l, hM, arr, elem, fr, h1, h2, h3, h4⟩ := h.blk b k hb (.inl fun e => by rw [e] at hl; simp at hl; omega)
  have hget : ∀ j, j < n → ∃ x, arr[l.off + off + j]? = some x ∧ VR M ((k.cells.drop off).take n)[j]! x := by
    intro j hj
    have hlt : off + j < k.cells.length := by omega
    obtain ⟨x, hx, hvx⟩ := h3 (off + j) k.cells[off + j] (by simp [hlt])
    refine ⟨x, by rw [Nat.add_assoc]; exact hx, ?_⟩
    have : ((k.cells.drop off).take n)[j]! = k.cells[off + j] := by
      rw [getElem!_pos _ _ (by rw [hn]; exact hj)]
      simp
    rw [this]
    exact hvx
  refine ⟨l, (List.range n).map fun j => arr[l.off + off + j]?.getD undef, hM, ?_, ?_, by simp⟩
  · intro wd hwd
    have := run_loadCells (P := P) (w := wd) ⟨l.blk, l.off + off, none⟩ n (fun j => arr[l.off + off + j]?.getD undef) (fun j hj => by
      obtain ⟨x, hx, _⟩ := hget j hj
      rw [plain_add, cell_of_row wd _ _ arr elem fr (by rw [hwd]; exact h1), hx]
      rfl)
    rw [this]
    try congr 1
    try (apply Array.ext'; simp)
  · refine VRs.mk (by simp [hn]) fun j v hv => ?_
    have hj : j < n := by
      rcases Nat.lt_or_ge j n with h | h
      · exact h
      · rw [List.getElem?_eq_none (by rw [hn]; exact h)] at hv; cases hv
    obtain ⟨x, hx, hvx⟩ := hget j hj
    refine ⟨x, by simp [hj, hx], ?_⟩
    have : ((k.cells.drop off).take n)[j]! = v := by
      rw [getElem!_pos _ _ (by rw [hn]; exact hj)]
      have := List.getElem?_eq_some_iff.1 hv
      exact this.2
    rw [this] at hvx
    exact hvx

theorem run_ld {M : Val} {H : Heap} {w : World} (h : HRel M H w) {b off : Nat} {k : Blk} (hb : blkAt H b = some k) {v : AV} (hv : k.cells[off]? = some v) :
    ∃ l x, M b = some l ∧ w.cell? ⟨l.blk, l.off + off, none⟩ = some x ∧ VR M v x := h.cell (blkAt_some hb) hv

theorem setCells_length {cs vs : List AV} {off : Nat} (h : off + vs.length ≤ cs.length) : (setCells cs off vs).length = cs.length := by
  unfold setCells
  simp
  omega

theorem setCells_cons {cs : List AV} {off : Nat} {v : AV} {vs : List AV} (h : off + (vs.length + 1) ≤ cs.length) :
    setCells (cs.set off v) (off + 1) vs = setCells cs off (v :: vs) := by
  have h1 : (cs.set off v).take (off + 1) = cs.take off ++ [v] := by
    rw [List.take_succ_eq_append_getElem (by simp; omega)]
    simp [List.take_set_of_le]
  have h2 : (cs.set off v).drop (off + 1 + vs.length) = cs.drop (off + (vs.length + 1)) := by
    rw [List.drop_set_of_lt (by omega)]
    congr 1
    omega
  unfold setCells
  rw [h1, h2]
  simp

/-- Writing a row into a block of one's own. -/
theorem run_st {X : Cx} {M : Val} : ∀ (vs : List AV) (xs : List Value) (H : Heap) (w : World) (b : Nat) (k : Blk) (l : Loc) (off : Nat), HRel M H w → Kept X M H w → H[b]? = some (some k) → k.own = true → M b = some l →
    off + vs.length ≤ k.cells.length → vs.all AV.cell = true → VRs M vs xs → ∀ i base, l.off + off = base + i →
    ∃ w', (storeCells ⟨l.blk, base, none⟩ xs i).run P w = .ok () w' ∧ HRel M (H.set b (some ⟨setCells k.cells off vs, true⟩)) w' ∧ Kept X M (H.set b (some ⟨setCells k.cells off vs, true⟩)) w'
  | [], xs, H, w, b, k, l, off, h, hk, hb, ho, hM, hl, hc, hv, i, base, hi => by
    simp only [VRs] at hv
    subst hv
    have he : setCells k.cells off [] = k.cells := by simp [setCells]
    have hs : H.set b (some ⟨setCells k.cells off [], true⟩) = H := by
      rw [he]
      apply List.ext_getElem?
      intro j
      by_cases hj : j = b
      · subst hj
        rw [List.getElem?_set_self (by
          rcases Nat.lt_or_ge j H.length with h | h
          · exact h
          · rw [List.getElem?_eq_none h] at hb; cases hb), hb]
        cases k; simp at ho; subst ho; rfl
      · rw [List.getElem?_set_ne (by omega)]
    rw [hs]
    exact ⟨w, rfl, h, hk⟩
  | v :: vs, xs, H, w, b, k, l, off, h, hk, hb, ho, hM, hl, hc, hv, i, base, hi => by
    simp only [VRs] at hv
    obtain ⟨x, xs, rfl, h1, h2⟩ := hv
    simp only [List.all_cons, Bool.and_eq_true] at hc
    simp only [List.length_cons] at hl
    have hlt : b < H.length := by
      rcases Nat.lt_or_ge b H.length with h | h
      · exact h
      · rw [List.getElem?_eq_none h] at hb; cases hb
    obtain ⟨w1, e1, e2, e3⟩ : ∃ w1, (store ((⟨l.blk, base, none⟩ : Addr).add i) x).run P w = .ok () w1 ∧ HRel M (H.set b (some ⟨k.cells.set off v, true⟩)) w1 ∧ Kept X M (H.set b (some ⟨k.cells.set off v, true⟩)) w1 := by
      refine ⟨w.setCell ⟨l.blk, l.off + off, none⟩ x, ?_, h.store hb ho hM off h1, hk.store hb ho hM off v x⟩
      obtain ⟨l', x', hM', hcell, _⟩ := h.cell hb (j := off) (v := k.cells[off]'(by omega)) (by simp [show off < k.cells.length by omega])
      rw [hM] at hM'
      cases hM'
      rw [plain_add, ← hi, run_store P w _ x _ (h1.oneCell hc.1), hcell]
      have hfz : w.frozen? ⟨l.blk, l.off + off, none⟩ = false := by
        obtain ⟨l', hM', arr, elem, fr, g1, g2, g3, g4⟩ := h.blk b k hb (.inr ho)
        rw [hM] at hM'
        cases hM'
        rw [cell_of_row w _ _ arr elem fr g1] at hcell
        have hlt := (Array.getElem?_eq_some_iff.1 hcell).1
        have := g4 ho
        simp only [World.frozen?, g1]
        simp
        omega
      simp [hfz]
    obtain ⟨w2, g1, g2, g3⟩ := run_st vs xs (H.set b (some ⟨k.cells.set off v, true⟩)) w1 b ⟨k.cells.set off v, true⟩ l (off + 1) e2 e3 (List.getElem?_set_self hlt) rfl hM (by simpa using (by omega : off + 1 + vs.length ≤ k.cells.length)) hc.2 h2 (i + 1) base (by omega)
    refine ⟨w2, ?_, ?_, ?_⟩
    · simp only [storeCells, Sem.run_bind, e1, Result.andThen_ok, g1]
    · rw [List.set_set, setCells_cons hl] at g2
      exact g2
    · rw [List.set_set, setCells_cons hl] at g3
      exact g3

/-- A row of one's own goes on under a new number, with room behind it. -/
theorem HRel.move {M : Val} {H : Heap} {w : World} (h : HRel M H w) {b : Nat} {k : Blk} {l : Loc} (hb : H[b]? = some (some k)) (ho : k.own = true) (hM : M b = some l) {off n m : Nat} (hn : off + n ≤ k.cells.length)
    (hm : l.off + off + (n + m) ≤ l.size) :
    HRel (M.put H.length ⟨l.blk, l.off + off, l.size⟩) (H.set b none ++ [some ⟨(k.cells.drop off).take n ++ List.replicate m .any, true⟩]) w := by
  have hlt : b < H.length := by
    rcases Nat.lt_or_ge b H.length with h | h
    · exact h
    · rw [List.getElem?_eq_none h] at hb; cases hb
  have hle : M.le (M.put H.length ⟨l.blk, l.off + off, l.size⟩) := Val.le_put (h.dom _ (Nat.le_refl _))
  have key : ∀ (i : Nat) (c : Blk), (H.set b (none : Option Blk) ++ [some ⟨(k.cells.drop off).take n ++ List.replicate m .any, true⟩])[i]? = some (some c) → (i < H.length ∧ i ≠ b ∧ H[i]? = some (some c)) ∨ (i = H.length ∧ c = ⟨(k.cells.drop off).take n ++ List.replicate m .any, true⟩) := by
    intro i c hc
    by_cases hi : i < H.length
    · rw [List.getElem?_append_left (by simpa using hi)] at hc
      by_cases hib : i = b
      · subst hib
        rw [List.getElem?_set_self hi] at hc
        cases hc
      · rw [List.getElem?_set_ne (by omega)] at hc
        exact .inl ⟨hi, hib, hc⟩
    · rw [List.getElem?_append_right (by simpa using (by omega : H.length ≤ i))] at hc
      have hi' : i = H.length := by
        by_cases h0 : i - H.length = 0
        · omega
        · rw [List.getElem?_eq_none (by simp; omega)] at hc; cases hc
      subst hi'
      simp at hc
      exact .inr ⟨rfl, hc.symm⟩
  refine ⟨fun i hi => ?_, fun i c hc => ?_, fun i j c1 c2 l1 l2 h1 ho1 h2 ht2 hij hl1 hl2 => ?_⟩
  · simp at hi
    unfold Val.put
    rw [if_neg (by omega)]
    exact h.dom i (by omega)
  · rcases key i c hc with ⟨h1, _, h3⟩ | ⟨rfl, rfl⟩
    · obtain ⟨l', hl', hB⟩ := h.row i c h3
      exact ⟨l', hle _ _ hl', fun ht => (hB ht).mono hle⟩
    · obtain ⟨l', hl', arr, elem, fr, e1, e2, e3, e4⟩ := h.blk b k hb (.inr ho)
      rw [hM] at hl'
      cases hl'
      refine ⟨⟨l.blk, l.off + off, l.size⟩, by simp [Val.put], fun _ => ⟨arr, elem, fr, e1, e2, fun j v hv => ?_, fun _ => e4 ho⟩⟩
      dsimp only at hv ⊢
      by_cases hj : j < n
      · rw [List.getElem?_append_left (by simp; omega)] at hv
        rw [List.getElem?_take, if_pos hj, List.getElem?_drop] at hv
        obtain ⟨x, hx, hvx⟩ := e3 (off + j) v hv
        exact ⟨x, by rw [Nat.add_assoc]; exact hx, hvx.mono hle⟩
      · rw [List.getElem?_append_right (by simp; omega)] at hv
        have hv' := List.getElem?_eq_some_iff.1 hv
        obtain ⟨g1, g2⟩ := hv'
        simp at g1
        rw [List.getElem_replicate] at g2
        subst g2
        have hj2 : j < n + m := by omega
        exact ⟨arr[l.off + off + j]'(by omega), by simp, trivial⟩
  · have hM' : ∀ i l', i < H.length → (M.put H.length ⟨l.blk, l.off + off, l.size⟩) i = some l' → M i = some l' := by
      intro i l' hi e
      unfold Val.put at e
      rwa [if_neg (by omega)] at e
    have hnew : ∀ l', (M.put H.length ⟨l.blk, l.off + off, l.size⟩) H.length = some l' → l'.blk = l.blk := by
      intro l' e
      simp [Val.put] at e
      subst e
      rfl
    rcases key i c1 h1 with ⟨g1, g2, g3⟩ | ⟨rfl, rfl⟩ <;> rcases key j c2 h2 with ⟨k1, k2, k3⟩ | ⟨rfl, rfl⟩
    · exact h.sep i j c1 c2 l1 l2 g3 ho1 k3 ht2 hij (hM' _ _ g1 hl1) (hM' _ _ k1 hl2)
    · rw [hnew _ hl2]
      exact fun e => h.sep b i k c1 l l1 hb ho g3 (.inr ho1) (fun e' => g2 e'.symm) hM (hM' _ _ g1 hl1) e.symm
    · rw [hnew _ hl1]
      exact h.sep b j k c2 l l2 hb ho k3 ht2 (fun e' => k2 e'.symm) hM (hM' _ _ k1 hl2)
    · exact absurd rfl hij

theorem Kept.move {X : Cx} {M : Val} {H : Heap} {w : World} (hk : Kept X M H w) {b : Nat} {k : Blk} {l : Loc} (hb : H[b]? = some (some k)) (ho : k.own = true) (hM : M b = some l) (o s : Nat) (cs : List AV) :
    Kept X (M.put H.length ⟨l.blk, o, s⟩) (H.set b none ++ [some ⟨cs, true⟩]) w where
  os := hk.os
  tape := hk.tape
  output := hk.output
  size := hk.size
  block := hk.block
  own := fun i c l' hc hco hl' => by
    by_cases hi : i < H.length
    · rw [List.getElem?_append_left (by simpa using hi)] at hc
      unfold Val.put at hl'
      rw [if_neg (by omega)] at hl'
      exact (hk.kill b).own i c l' hc hco hl'
    · have hi' : i = H.length := by
        rw [List.getElem?_append_right (by simpa using (by omega : H.length ≤ i))] at hc
        by_cases h0 : i - H.length = 0
        · omega
        · rw [List.getElem?_eq_none (by simp; omega)] at hc; cases hc
      subst hi'
      simp [Val.put] at hl'
      subst hl'
      exact hk.own b k l hb ho hM
  ext := fun i hi => by
    have := hk.len
    unfold Val.put
    rw [if_neg (by omega)]
    exact hk.ext i hi
  len := by have := hk.len; simp; omega
end
end Go.Proofs.Ytlohehkagaabfaa.Ah
