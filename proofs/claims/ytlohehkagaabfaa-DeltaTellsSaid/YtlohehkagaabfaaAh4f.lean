/- Ah4f: a part of the proof: steps over abstract values, or contracts of functions. Conditions: none. -/
import Derived.Test.YtlohehkagaabfaaAh4e
namespace Go.Proofs.Ytlohehkagaabfaa.Ah
open Go
set_option linter.unusedVariables false

theorem Lst_set {L : Array Bool} {i j : Nat} (hi : i < L.size) : Lst (L.setIfInBounds i true) j ↔ (Lst L j ∨ j = i) := by
  unfold Lst
  by_cases h : i = j
  · subst h; simp [hi]
  · have h2 : ¬ j = i := fun e => h e.symm
    simp only [Array.getD_eq_getD_getElem?, Array.getElem?_setIfInBounds_ne h, h2, or_false]

section
variable {P : Program} {X : Cx} {N : Nat} {ops : Array Oper} {ds : List DOp} {Ts : Nat → Env} {Hs : Nat → Heap} {Vs : Nat → AV} {L : Array Bool} {m n : Nat} {a : Act} {w : World}

theorem Sim.heavy (hp : pairsOk ds = true) (ht : Tr P ds Ts Hs Vs) (hs : Sim X N n ds Ts Hs Vs L m a w) {p : Nat} {d : DOp} (hd : Due ds L p d) (hh : d.heavy = true) :
    Hs p = Hs m ∧ ∀ (q : Nat) (e : DOp), ds[q]? = some e → e.heavy = true → q ≠ p → (Lst L e.ix ↔ q < p) := by
  have hlen : p < ds.length := (List.getElem?_eq_some_iff.1 hd.at').1
  have h1 : ∀ (q : Nat) (e : DOp), ds[q]? = some e → e.heavy = true → q < p → Lst L e.ix := by
    intro q e hq he hqp
    have hpair := pairsOk_at ds hp q p e d hqp hq hd.at'
    cases hb : e.be d with
    | true => exact hd.yes _ hb
    | false =>
      have := (okPair_be hpair hb).1
      rw [hh, he] at this
      cases this
  have h2 : ∀ (q : Nat) (e : DOp), ds[q]? = some e → e.heavy = true → p < q → ¬ Lst L e.ix := by
    intro q e hq he hqp hl
    have hpair := pairsOk_at ds hp p q d e hqp hd.at' hq
    cases hb : d.be e with
    | true => exact hd.no (hs.cl q e hq hl _ hb)
    | false =>
      have := (okPair_be hpair hb).1
      rw [hh, he] at this
      cases this
  have hm : m ≤ p := by
    have := hs.hv p d hd.at' hh
    have h3 : ¬ p < m := fun h => hd.no (this.2 h)
    omega
  refine ⟨ht.flat' hm (by omega) fun q e hq1 hq2 hq3 => ?_, fun q e hq he hne => ⟨fun h => ?_, fun h => h1 q e hq he h⟩⟩
  · cases he : e.heavy with
    | false => rfl
    | true =>
      have := (hs.hv q e hq3 he).1 (h1 q e hq3 he hq2)
      omega
  · rcases Nat.lt_trichotomy q p with h3 | h3 | h3
    · exact h3
    · exact absurd h3 hne
    · exact absurd h (h2 q e hq he h3)

/-- A reading finds the heap gone on with, or on the way. -/
theorem Sim.along (hp : pairsOk ds = true) (ht : Tr P ds Ts Hs Vs) (hs : Sim X N n ds Ts Hs Vs L m a w) {p : Nat} {d : DOp} (hd : Due ds L p d) (hh : d.load = true) : Along (Hs p) (Hs m) := by
  have hlen : p < ds.length := (List.getElem?_eq_some_iff.1 hd.at').1
  have nhv : d.heavy = false := by
    unfold DOp.load at hh
    unfold DOp.heavy
    simp only [decide_eq_true_eq] at hh
    rw [hh]
    rfl
  rcases Nat.lt_or_ge m p with h | h
  · refine .inr (ht.grow' (Nat.le_of_lt h) (by omega) fun q e h1 h2 h3 h4 => ?_)
    have hpair := pairsOk_at ds hp q p e d h2 h3 hd.at'
    cases hb : e.be d with
    | true =>
      have := (hs.hv q e h3 h4).1 (hd.yes _ hb)
      omega
    | false =>
      have := (okPair_be hpair hb).2.2.1
      rw [h4, hh] at this
      simpa using this
  · refine .inl (ht.grow' h hs.le fun q e h1 h2 h3 h4 => ?_)
    have hqp : p < q := by
      rcases Nat.lt_or_ge p q with h5 | h5
      · exact h5
      · have : q = p := by omega
        subst this
        rw [hd.at'] at h3
        cases h3
        rw [nhv] at h4
        cases h4
    have hpair := pairsOk_at ds hp p q d e hqp hd.at' h3
    cases hb : d.be e with
    | true => exact absurd (hs.cl q e h3 ((hs.hv q e h3 h4).2 h2) _ hb) hd.no
    | false =>
      have := (okPair_be hpair hb).2.1
      rw [h4, hh] at this
      simpa using this

/-- What leaves the heap as it is finds it, or more. -/
theorem Sim.alongP (hp : pairsOk ds = true) (ht : Tr P ds Ts Hs Vs) (hs : Sim X N n ds Ts Hs Vs L m a w) {p : Nat} {d : DOp} (hd : Due ds L p d) (hh : d.pur = true) : ∃ G, Hs m = Hs p ++ G := by
  have hlen : p < ds.length := (List.getElem?_eq_some_iff.1 hd.at').1
  have nhv : d.heavy = false := by simp [DOp.heavy, hh]
  rcases Nat.lt_or_ge m p with h | h
  · refine ⟨[], ?_⟩
    rw [List.append_nil]
    refine (ht.flat' (Nat.le_of_lt h) (by omega) fun q e h1 h2 h3 => ?_).symm
    cases h4 : e.heavy with
    | false => rfl
    | true =>
      have hpair := pairsOk_at ds hp q p e d h2 h3 hd.at'
      cases hb : e.be d with
      | true =>
        have := (hs.hv q e h3 h4).1 (hd.yes _ hb)
        omega
      | false =>
        have := (okPair_be hpair hb).2.2.2.2.2.2
        rw [h4, hh] at this
        simp at this
  · refine ht.grow' h hs.le fun q e h1 h2 h3 h4 => ?_
    have hqp : p < q := by
      rcases Nat.lt_or_ge p q with h5 | h5
      · exact h5
      · have : q = p := by omega
        subst this
        rw [hd.at'] at h3
        cases h3
        rw [nhv] at h4
        cases h4
    have hpair := pairsOk_at ds hp p q d e hqp hd.at' h3
    cases hb : d.be e with
    | true => exact absurd (hs.cl q e h3 ((hs.hv q e h3 h4).2 h2) _ hb) hd.no
    | false =>
      have := (okPair_be hpair hb).2.2.2.2.2.1
      rw [h4, hh] at this
      simpa using this

/-- One more is done. -/
theorem Sim.after (hp : pairsOk ds = true) (hs : Sim X N n ds Ts Hs Vs L m a w) {p : Nat} {d : DOp} (hd : Due ds L p d) (hix : d.ix < n) (hN : ∀ i, d.o.dst = some i → i < N) {m' : Nat} (hm' : m' ≤ ds.length)
    (hhv : ∀ (q : Nat) (e : DOp), ds[q]? = some e → e.heavy = true → (Lst (L.setIfInBounds d.ix true) e.ix ↔ q < m'))
    {M M' : Val} {w' : World} {x : Value} (hM : ∀ t, (∀ (p : Nat) (d : DOp), ds[p]? = some d → Lst L d.ix → d.o.dst = some t → VR M (Vs p) (a.tmps.getD t undef)) ∧ ((∀ (p : Nat) (d : DOp), ds[p]? = some d → Lst L d.ix → d.o.dst ≠ some t) → VR M ((Ts 0).get t) (a.tmps.getD t undef)))
    (hle : M.le M') (hH : HRel M' (Hs m') w') (hK : Kept X M' (Hs m') w') (hx : VR M' (Vs p) x) : Sim X N n ds Ts Hs Vs (L.setIfInBounds d.ix true) m' (a.put d.o.dst x) w' := by
  have hsz : d.ix < L.size := by rw [hs.size]; exact hix
  have other : ∀ (q : Nat) (e : DOp), ds[q]? = some e → q ≠ p → e.ix ≠ d.ix := by
    intro q e hq hne
    rcases Nat.lt_or_ge q p with h | h
    · exact okPair_ix (pairsOk_at ds hp q p e d h hq hd.at')
    · exact fun e' => okPair_ix (pairsOk_at ds hp p q d e (by omega) hd.at' hq) e'.symm
  have otherD : ∀ (q : Nat) (e : DOp) (t : Nat), ds[q]? = some e → q ≠ p → e.o.dst = some t → d.o.dst ≠ some t := by
    intro q e t hq hne h1
    rcases Nat.lt_or_ge q p with h | h
    · exact okPair_dst (pairsOk_at ds hp q p e d h hq hd.at') h1
    · exact fun h2 => okPair_dst (pairsOk_at ds hp p q d e (by omega) hd.at' hq) h2 h1
  refine ⟨by simp [hs.size], ?_, hhv, hm', by rw [put_defers]; exact hs.defers, by cases d.o.dst <;> simp [Act.put, hs.tsz], M', hH, hK, fun t => ⟨?_, ?_⟩⟩
  · intro q e hq hl j hj
    rw [Lst_set hsz] at hl ⊢
    by_cases hqp : q = p
    · subst hqp
      rw [hd.at'] at hq
      cases hq
      exact .inl (hd.yes j hj)
    · rcases hl with hl | hl
      · exact .inl (hs.cl q e hq hl j hj)
      · exact absurd hl (other q e hq hqp)
  · intro q e hq hl ht
    rw [Lst_set hsz] at hl
    by_cases hqp : q = p
    · subst hqp
      rw [hd.at'] at hq
      cases hq
      rw [ht]
      have : t < a.tmps.size := by rw [hs.tsz]; exact hN t ht
      simpa [Act.put, this] using hx
    · rcases hl with hl | hl
      · have h1 := ((hM t).1 q e hq hl ht).mono hle
        have h2 := otherD q e t hq hqp ht
        cases hdd : d.o.dst with
        | none => exact h1
        | some i =>
          have : i ≠ t := fun e => by subst e; exact h2 hdd
          simp only [Act.put, Array.getD_eq_getD_getElem?] at h1 ⊢
          rw [Array.getElem?_setIfInBounds_ne this]
          exact h1
      · exact absurd hl (other q e hq hqp)
  · intro h
    have hne : d.o.dst ≠ some t := h p d hd.at' ((Lst_set hsz).2 (.inr rfl))
    have h1 := ((hM t).2 fun q e hq hl => h q e hq ((Lst_set hsz).2 (.inl hl))).mono hle
    cases hdd : d.o.dst with
    | none => exact h1
    | some i =>
      have : i ≠ t := fun e => by subst e; exact hne hdd
      simp only [Act.put, Array.getD_eq_getD_getElem?] at h1 ⊢
      rw [Array.getElem?_setIfInBounds_ne this]
      exact h1

/-- What is counted as done behind it. -/
theorem Sim.hv' (hp : pairsOk ds = true) (ht : Tr P ds Ts Hs Vs) (hs : Sim X N n ds Ts Hs Vs L m a w) {p : Nat} {d : DOp} (hd : Due ds L p d) (hix : d.ix < n) :
    ∃ m', m' ≤ ds.length ∧ (∀ (q : Nat) (e : DOp), ds[q]? = some e → e.heavy = true → (Lst (L.setIfInBounds d.ix true) e.ix ↔ q < m')) ∧
      ((d.heavy = false ∧ m' = m) ∨ (d.heavy = true ∧ m' = p + 1 ∧ Hs p = Hs m)) := by
  have hlen : p < ds.length := (List.getElem?_eq_some_iff.1 hd.at').1
  have hsz : d.ix < L.size := by rw [hs.size]; exact hix
  have other : ∀ (q : Nat) (e : DOp), ds[q]? = some e → q ≠ p → e.ix ≠ d.ix := by
    intro q e hq hne
    rcases Nat.lt_or_ge q p with h | h
    · exact okPair_ix (pairsOk_at ds hp q p e d h hq hd.at')
    · exact fun e' => okPair_ix (pairsOk_at ds hp p q d e (by omega) hd.at' hq) e'.symm
  cases hh : d.heavy with
  | false =>
    refine ⟨m, hs.le, fun q e hq he => ?_, .inl ⟨rfl, rfl⟩⟩
    have hne : q ≠ p := by
      rintro rfl
      rw [hd.at'] at hq
      cases hq
      rw [hh] at he
      cases he
    rw [Lst_set hsz, or_iff_left (other q e hq hne)]
    exact hs.hv q e hq he
  | true =>
    obtain ⟨h1, h2⟩ := hs.heavy hp ht hd hh
    refine ⟨p + 1, by omega, fun q e hq he => ?_, .inr ⟨rfl, rfl, h1⟩⟩
    rw [Lst_set hsz]
    by_cases hqp : q = p
    · subst hqp
      rw [hd.at'] at hq
      cases hq
      simp
    · rw [or_iff_left (other q e hq hqp), h2 q e hq he hqp]
      omega
end
end Go.Proofs.Ytlohehkagaabfaa.Ah
