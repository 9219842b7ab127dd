/- Ah4h: a part of the proof: steps over abstract values, or contracts of functions. Conditions: none. -/
import Derived.Test.YtlohehkagaabfaaAh4g
namespace Go.Proofs.Ytlohehkagaabfaa.Ah
open Go
set_option linter.unusedVariables false

section
variable {P : Program} {X : Cx} {N : Nat} {ops : Array Oper} {ds : List DOp} {Ts : Nat → Env} {Hs : Nat → Heap} {Vs : Nat → AV}

theorem okD_parts (h : okD P N ops ds = true) : P.follows .mixedOrders = true ∧ pairsOk ds = true ∧ okEach P N ops ds 0 ds = true ∧ ∀ i, i < ops.size → ∃ (p : Nat) (d : DOp), ds[p]? = some d ∧ d.ix = i := by
  unfold okD at h
  simp only [Bool.and_eq_true, List.all_eq_true, List.mem_range, List.any_eq_true, beq_iff_eq] at h
  refine ⟨h.1.1.1, h.1.1.2, h.1.2, fun i hi => ?_⟩
  obtain ⟨d, hd, he⟩ := h.2 i hi
  obtain ⟨p, hp⟩ := List.mem_iff_getElem?.1 hd
  exact ⟨p, d, hp, he⟩

theorem ancOf_mem {k : Nat} {j : Nat} (h : (ancOf ds k).testBit j = true) : ∃ (p : Nat) (d : DOp), ds[p]? = some d ∧ d.ix = k ∧ d.anc.testBit j = true := by
  unfold ancOf at h
  split at h
  · rename_i d hd
    obtain ⟨p, hp⟩ := List.mem_iff_getElem?.1 (List.mem_of_find?_eq_some hd)
    have := List.find?_some hd
    exact ⟨p, d, hp, by simpa using this, h⟩
  · simp at h

theorem wpAny_sim {Q : Exit → Act → World → Prop} (hok : okD P N ops ds = true) (ht : Tr P ds Ts Hs Vs)
    (hQ : ∀ a w, Rel X N (Ts ds.length) (Hs ds.length) a w → Q .normal a w) :
    ∀ (fuel : Nat) (L : Array Bool) (m : Nat) (a : Act) (w : World), left L ops.size ≤ fuel → Sim X N ops.size ds Ts Hs Vs L m a w → wpAny P .any ops Q fuel L a w := by
  obtain ⟨hmix, hp, heach, hall⟩ := okD_parts hok
  -- all is done
  have fin : ∀ (L : Array Bool) (m : Nat) (a : Act) (w : World), Sim X N ops.size ds Ts Hs Vs L m a w → (∀ (p : Nat) (d : DOp), ds[p]? = some d → Lst L d.ix) → Q .normal a w := by
    intro L m a w hs hl
    obtain ⟨M, hH, hK, hM⟩ := hs.st
    have hflat : Hs ds.length = Hs m := ht.flat' hs.le (Nat.le_refl _) fun q d h1 h2 h3 => by
      cases h : d.heavy with
      | false => rfl
      | true =>
        have := (hs.hv q d h3 h).1 (hl q d h3)
        omega
    refine hQ a w ⟨M, by rw [hflat]; exact hH, by rw [hflat]; exact hK, ⟨hs.tsz, fun t => ?_⟩, hs.defers⟩
    rcases ht.src t ds.length (Nat.le_refl _) with h | ⟨p, d, h1, h2, h3, h4⟩ | ⟨h1, h2⟩
    · rw [h]; simp [VR]
    · rw [h4]; exact (hM t).1 p d h2 (hl p d h2) h3
    · rw [h2]
      exact (hM t).2 fun p d h3 _ => h1 p d (List.getElem?_eq_some_iff.1 h3).1 h3
  -- where nothing is ready all is done
  have nil : ∀ (L : Array Bool), L.size = ops.size → Region.ready .any ops L = [] → ∀ (p : Nat) (d : DOp), ds[p]? = some d → Lst L d.ix := by
    intro L hsz hr p
    induction p using Nat.strongRecOn with
    | _ p ih =>
      intro d hd
      obtain ⟨o, h1, h2, h3, h4⟩ := okEach_at ds 0 heach p d hd
      by_cases hc : Lst L d.ix
      · exact hc
      · exfalso
        have hix : d.ix < ops.size := (Array.getElem?_eq_some_iff.1 h1).1
        have : d.ix ∈ Region.ready .any ops L := by
          rw [mem_ready]
          refine ⟨?_, o, h1, fun e he hb => ?_⟩
          · have : d.ix < L.size := by omega
            unfold Lst at hc
            simp only [Array.getD_eq_getD_getElem?, Array.getElem?_eq_getElem this, Option.getD_some] at hc ⊢
            simpa using hc
          · rcases h4 e.on (by unfold prs; exact List.mem_map.2 ⟨e, List.mem_filter.2 ⟨by simpa using he, hb⟩, rfl⟩) with h5 | ⟨q, c, h5, h6, h7⟩
            · simp at h5
            · have := ih q h5 c h6
              rw [h7] at this
              exact this
        rw [hr] at this
        cases this
  intro fuel
  induction fuel with
  | zero =>
    intro L m a w hl hs
    have hz := left_zero ops.size (Nat.le_zero.1 hl)
    have hd : ∀ (p : Nat) (d : DOp), ds[p]? = some d → Lst L d.ix := by
      intro p d hd
      obtain ⟨o, h1, _⟩ := okEach_at ds 0 heach p d hd
      exact hz _ (Array.getElem?_eq_some_iff.1 h1).1
    refine ⟨?_, fin L m a w hs hd⟩
    cases hr : Region.ready .any ops L with
    | nil => rfl
    | cons i r =>
      have hi : i ∈ Region.ready .any ops L := by rw [hr]; simp
      rw [mem_ready] at hi
      obtain ⟨h2, o, h4, _⟩ := hi
      have h1 : i < ops.size := (Array.getElem?_eq_some_iff.1 h4).1
      have h3 := hz i h1
      have : i < L.size := by rw [hs.size]; exact h1
      unfold Lst at h3
      simp only [Array.getD_eq_getD_getElem?, Array.getElem?_eq_getElem this, Option.getD_some] at h2 h3
      rw [h3] at h2
      cases h2
  | succ fuel ih =>
    intro L m a w hl hs
    refine ⟨fun hr => fin L m a w hs (nil L hs.size hr), fun i hi => ?_⟩
    rw [mem_ready] at hi
    obtain ⟨h2, o, h3, h4⟩ := hi
    have h1 : i < ops.size := (Array.getElem?_eq_some_iff.1 h3).1
    obtain ⟨p, d, hd, rfl⟩ := hall i h1
    obtain ⟨o', e1, e2, e3, e4⟩ := okEach_at ds 0 heach p d hd
    rw [h3] at e1
    cases e1
    have hno : ¬ Lst L d.ix := by
      have : d.ix < L.size := by rw [hs.size]; exact h1
      unfold Lst
      simp only [Array.getD_eq_getD_getElem?, Array.getElem?_eq_getElem this, Option.getD_some] at h2 ⊢
      rw [h2]
      simp
    have hprs : ∀ k ∈ prs o, Lst L k := by
      intro k hk
      unfold prs at hk
      obtain ⟨e, he, rfl⟩ := List.mem_map.1 hk
      obtain ⟨he1, he2⟩ := List.mem_filter.1 he
      exact h4 e (by simpa using he1) he2
    refine hs.step hp ht ⟨hd, hno, fun j hj => ?_⟩ h1 h3 e2 fun m' a' w' hs' => ih _ m' a' w' ?_ hs'
    · obtain ⟨k, hk, hjk⟩ := e3 j hj
      rcases hjk with rfl | hjk
      · exact hprs _ hk
      · obtain ⟨q, c, f1, f2, f3⟩ := ancOf_mem hjk
        exact hs.cl q c f1 (by rw [f2]; exact hprs k hk) j f3
    · have := left_set (j := d.ix) (by rw [hs.size]; exact h1) hno ops.size
      rw [if_pos h1] at this
      omega

/-- A region that draws its order. -/
theorem draw_sound {Q : Exit → Act → World → Prop} {K : Env → Heap → Prop} {id : Nat} (hQ : ∀ T H a w, K T H → Rel X N T H a w → Q .normal a w) (hok : okD P N ops ds = true) (T : Env) (H : Heap) (a : Act) (w : World)
    (h : adraw P ds T H K) (hr : Rel X N T H a w) : (Code.region id ops true).wp P Q a w := by
  obtain ⟨Ts, Hs, Vs, h1, h2, h3, Tf, h4, h5, _⟩ := adraw_trace ds T H h
  obtain ⟨M, hH, hK, hT, hd⟩ := hr
  refine wp_region_any (okD_parts hok).1 (wpAny_sim (X := X) hok h3 (fun a w hr => hQ Tf _ a w h5 ?_) ops.size _ 0 a _ ?_ ?_)
  · obtain ⟨M, g1, g2, g3, g4⟩ := hr
    exact ⟨M, g1, g2, ⟨g3.size, fun i => by rw [h4]; exact g3.val i⟩, g4⟩
  · have : ∀ n, left (Array.replicate ops.size false) n ≤ n := by
      intro n
      induction n with
      | zero => simp [left]
      | succ n ih => simp only [left]; split <;> omega
    exact this _
  · refine ⟨by simp, ?_, ?_, Nat.zero_le _, hd, hT.size, M, ?_, ?_, fun t => ⟨?_, fun _ => ?_⟩⟩
    · intro p d _ hl
      unfold Lst at hl
      simp only [Array.getD_eq_getD_getElem?, Array.getElem?_replicate] at hl
      split at hl <;> simp at hl
    · intro p d _ _
      constructor
      · intro hl
        unfold Lst at hl
        simp only [Array.getD_eq_getD_getElem?, Array.getElem?_replicate] at hl
        split at hl <;> simp at hl
      · intro hl; omega
    · rw [h2]; exact ⟨hH.dom, hH.row, hH.sep⟩
    · rw [h2]; exact ⟨hK.os, hK.tape, hK.output, hK.size, hK.block, hK.own, hK.ext, hK.len⟩
    · intro p d _ hl
      unfold Lst at hl
      simp only [Array.getD_eq_getD_getElem?, Array.getElem?_replicate] at hl
      split at hl <;> simp at hl
    · rw [h1]; exact hT.val t
end
end Go.Proofs.Ytlohehkagaabfaa.Ah
