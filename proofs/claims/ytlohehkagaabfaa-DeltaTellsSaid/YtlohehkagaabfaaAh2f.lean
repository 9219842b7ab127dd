/- Ah2f: a part of the proof: steps over abstract values, or contracts of functions. Conditions: none. -/
import Derived.Test.YtlohehkagaabfaaAh2e
import Derived.Laws.Append
namespace Go.Proofs.Ytlohehkagaabfaa.Ah
open Go

theorem Blk.tells_of {b b' : Blk} (h : b'.own = true → b.own = true) (hc : ∀ (j : Nat) (v : AV), b'.cells[j]? = some v → b.cells[j]? = some v) (ht : b'.tells) : b.tells := by
  rcases ht with ht | ht
  · left
    intro e
    cases hb : b'.cells with
    | nil => exact ht hb
    | cons v r =>
      have := hc 0 v (by rw [hb]; rfl)
      rw [e] at this
      cases this
  · exact .inr (h ht)

/-- Of less that is known. -/
theorem HRel.weaken {M : Val} {H H' : Heap} {w : World} (h : HRel M H w) (hl : H'.length = H.length)
    (hw : ∀ (i : Nat) (b' : Blk), H'[i]? = some (some b') → ∃ b : Blk, H[i]? = some (some b) ∧ (b'.own = true → b.own = true) ∧ ∀ (j : Nat) (v : AV), b'.cells[j]? = some v → b.cells[j]? = some v) : HRel M H' w := by
  refine ⟨fun i hi => h.dom i (by omega), fun i b' hb' => ?_, fun i j b c l l' h1 ho h2 ht2 hij hl1 hl2 => ?_⟩
  · obtain ⟨b, hb, ho, hc⟩ := hw i b' hb'
    obtain ⟨l, hM, hB⟩ := h.row i b hb
    refine ⟨l, hM, fun ht => ?_⟩
    obtain ⟨arr, elem, fr, e1, e2, e3, e4⟩ := hB (Blk.tells_of ho hc ht)
    exact ⟨arr, elem, fr, e1, e2, fun j v hv => e3 j v (hc j v hv), fun g => e4 (ho g)⟩
  · obtain ⟨b1, g1, g2, _⟩ := hw i b h1
    obtain ⟨b2, g3, g4, g5⟩ := hw j c h2
    exact h.sep i j b1 b2 l l' g1 (g2 ho) g3 (Blk.tells_of g4 g5 ht2) hij hl1 hl2

theorem Kept.weaken {X : Cx} {M : Val} {H H' : Heap} {w : World} (hk : Kept X M H w) (hl : H'.length = H.length)
    (hw : ∀ (i : Nat) (b' : Blk), H'[i]? = some (some b') → b'.own = true → ∃ b : Blk, H[i]? = some (some b) ∧ b.own = true) : Kept X M H' w where
  os := hk.os
  tape := hk.tape
  output := hk.output
  size := hk.size
  block := hk.block
  own := fun i b l h1 h2 h3 => by
    obtain ⟨b', g1, g2⟩ := hw i b h1 h2
    exact hk.own i b' l g1 g2 h3
  ext := hk.ext
  len := by have := hk.len; omega

theorem get_snoc {H : Heap} {x : Option Blk} {i : Nat} {b : Blk} (h : (H ++ [x])[i]? = some (some b)) : (i < H.length ∧ H[i]? = some (some b)) ∨ (i = H.length ∧ x = some b) := by
  by_cases hi : i < H.length
  · rw [List.getElem?_append_left hi] at h
    exact .inl ⟨hi, h⟩
  · rw [List.getElem?_append_right (by omega)] at h
    have hi' : i = H.length := by
      by_cases h0 : i - H.length = 0
      · omega
      · rw [List.getElem?_eq_none (by simp; omega)] at h; cases h
    subst hi'
    simp at h
    exact .inr ⟨rfl, h⟩

theorem HRel.shrink {M : Val} {H : Heap} {w : World} {cs ds : List AV} (h : HRel M (H ++ [some ⟨cs ++ ds, true⟩]) w) : HRel M (H ++ [some ⟨cs, true⟩]) w := by
  refine h.weaken (by simp) fun i b' hb' => ?_
  rcases get_snoc hb' with ⟨h1, h2⟩ | ⟨rfl, h2⟩
  · exact ⟨b', by rw [List.getElem?_append_left h1]; exact h2, id, fun _ _ h => h⟩
  · cases h2
    refine ⟨⟨cs ++ ds, true⟩, by simp, id, fun j v hv => ?_⟩
    dsimp only at hv ⊢
    rw [List.getElem?_append_left (List.getElem?_eq_some_iff.1 hv).1]
    exact hv

theorem Kept.shrink {X : Cx} {M : Val} {H : Heap} {w : World} {cs ds : List AV} (h : Kept X M (H ++ [some ⟨cs ++ ds, true⟩]) w) : Kept X M (H ++ [some ⟨cs, true⟩]) w := by
  refine h.weaken (by simp) fun i b' hb' ho => ?_
  rcases get_snoc hb' with ⟨h1, h2⟩ | ⟨rfl, h2⟩
  · exact ⟨b', by rw [List.getElem?_append_left h1]; exact h2, ho⟩
  · exact ⟨⟨cs ++ ds, true⟩, by simp, rfl⟩

theorem HRel.drew {M : Val} {H : Heap} {w : World} (h : HRel M H w) : HRel M H w.drew := h.of_heap rfl

section
variable {P : Program} {o : Oper}

/-- What is appended, read. -/
def Firsts (P : Program) (sz : Nat) (x : Value) (n : Nat) (nw : List Value) (w : World) : Prop :=
  (∀ wd : World, (Builtin.lenOf x).run P wd = .ok n wd) ∧ ∀ wd : World, wd.heap = w.heap → (Builtin.firstCells sz n x).run P wd = .ok nw.toArray wd

theorem firsts {M : Val} {H : Heap} {w : World} (h : HRel M H w) {x : AV} {cs : List AV} {n sz : Nat} (hr : rdS H x = some (cs, n)) (hs : ∀ b off k s c, x = .sl b off k s c → s = sz) {y : Value} (hy : VR M x y) :
    ∃ nw, Firsts P sz y n nw w ∧ VRs M cs nw ∧ nw.length = n * sz := by
  cases x with
  | nils =>
    simp only [rdS, Option.some.injEq, Prod.mk.injEq] at hr
    obtain ⟨rfl, rfl⟩ := hr
    simp only [VR] at hy
    subst hy
    exact ⟨[], ⟨fun wd => by simp [Builtin.lenOf], fun wd _ => by simp [Builtin.firstCells]⟩, by simp [VRs], by simp⟩
  | sl b off k s c =>
    obtain rfl := hs _ _ _ _ _ rfl
    simp only [rdS] at hr
    obtain ⟨cs', h1, h2⟩ := Option.map_eq_some_iff.1 hr
    simp only [Prod.mk.injEq] at h2
    obtain ⟨rfl, rfl⟩ := h2
    simp only [VR] at hy
    obtain ⟨l', xs, hM', hrun, hv, hl⟩ := run_rd (P := P) h h1
    obtain ⟨l, hM, ⟨ad, cap, rfl, g1, g2, g3⟩ | ⟨rfl, _, rfl⟩⟩ := hy
    case inr =>
      simp at hl
      subst hl
      exact ⟨[], ⟨fun wd => by simp [Builtin.lenOf], fun wd _ => by simp [Builtin.firstCells]⟩, hv, by simp⟩
    rw [hM] at hM'
    cases hM'
    by_cases hk : k = 0
    · subst hk
      simp at hl
      subst hl
      exact ⟨[], ⟨fun wd => by simp [Builtin.lenOf], fun wd _ => by simp [Builtin.firstCells, loadCells, loadCellsFrom]⟩, hv, by simp⟩
    · obtain ⟨rfl, _⟩ := g2 (by omega)
      refine ⟨xs, ⟨fun wd => by simp [Builtin.lenOf], fun wd hwd => ?_⟩, hv, hl⟩
      simpa [Builtin.firstCells] using hrun wd hwd
  | _ => simp [rdS] at hr

theorem run_append_in {t u e e' : TypeId} (ht : P.underlying t = some (.slice e)) (hu : P.underlying u = some (.slice e')) {sz : Nat} (hs : (P.info? e).map (·.size) = some sz) (ty : TypeId)
    {base : Option Addr} {n cap m : Nat} {y : Value} {nw : List Value} {w : World} (hy : Firsts P sz y m nw w) (hc : n + m ≤ cap) :
    (Builtin.append_ #[t, u] ty #[.slice base n cap, y]).run P w = match base with
      | some a => ((storeCells (a.add (n * sz)) nw).run P w).andThen fun _ w' => .ok (.slice base (n + m) cap) w'
      | none => .ok (.slice base (n + m) cap) w := by
  obtain ⟨h1, h2⟩ := hy
  have h2' := h2 w rfl
  cases base <;> simp [Builtin.append_, run_underlying ht, run_underlying hu, run_size hs, h1, h2', hc]

theorem run_append_out {t u e e' : TypeId} (ht : P.underlying t = some (.slice e)) (hu : P.underlying u = some (.slice e')) {i : TypeInfo} (hi : P.info? e = some i) {z : Value} (hz : i.zero = some z) (hb : i.bytes ≠ 0) (ty : TypeId)
    {base : Option Addr} {n cap m : Nat} {y : Value} {old nw : List Value} {w : World} (hy : Firsts P i.size y m nw w) (hold : Firsts P i.size (.slice base n cap) n old w) (hc : cap < n + m) (hl : (n + m) * i.bytes ≤ 140737488355328) :
    ∃ c, n + m ≤ c ∧ (Builtin.append_ #[t, u] ty #[.slice base n cap, y]).run P w = .ok (.slice (some ⟨w.heap.size, 0, none⟩) (n + m) c) (w.drew.alloc (.cells (old ++ nw ++ (Builtin.zeroCells z.cells (c - (n + m))).toList).toArray e)) := by
  obtain ⟨h1, h2⟩ := hy
  refine ⟨(Question.appendCap (n + m) cap e).cut (w.tape w.drawn (.appendCap (n + m) cap e)), by simp [Question.cut], ?_⟩
  have h3 : ¬ n + m ≤ cap := by omega
  have h4 : ¬ 281474976710656 < Builtin.nextslicecap (n + m) cap * i.bytes := by have := growslice_fits hc hl; omega
  have h6 := h2 w.drew rfl
  have h7 := hold.2 w.drew rfl
  have ha : ∀ c : Nat, old.toArray ++ (nw.toArray ++ Builtin.zeroCells z.cells c) = (old ++ (nw ++ (Builtin.zeroCells z.cells c).toList)).toArray := fun c => by apply Array.ext'; simp
  simp [Builtin.append_, run_underlying ht, run_underlying hu, sizeOf, run_info hi, zeroValue, hz, h1, h3, h4, hb, Question.forced, h6, h7, newRow, ha]
end
end Go.Proofs.Ytlohehkagaabfaa.Ah
