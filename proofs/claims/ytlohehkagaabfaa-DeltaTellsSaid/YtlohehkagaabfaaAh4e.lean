/- Ah4e: a part of the proof: steps over abstract values, or contracts of functions. Conditions: none. -/
import Derived.Test.YtlohehkagaabfaaAh4d
namespace Go.Proofs.Ytlohehkagaabfaa.Ah
open Go
set_option linter.unusedVariables false

def Lst (L : Array Bool) (i : Nat) : Prop := L.getD i false = true

/-- A state on the way through a region that draws its order. -/
structure Sim (X : Cx) (N : Nat) (n : Nat) (ds : List DOp) (Ts : Nat → Env) (Hs : Nat → Heap) (Vs : Nat → AV) (L : Array Bool) (m : Nat) (a : Act) (w : World) : Prop where
  size : L.size = n
  cl : ∀ (p : Nat) (d : DOp), ds[p]? = some d → Lst L d.ix → ∀ j, d.anc.testBit j = true → Lst L j
  hv : ∀ (p : Nat) (d : DOp), ds[p]? = some d → d.heavy = true → (Lst L d.ix ↔ p < m)
  le : m ≤ ds.length
  defers : a.defers = []
  tsz : a.tmps.size = N
  st : ∃ M, HRel M (Hs m) w ∧ Kept X M (Hs m) w ∧ ∀ t, (∀ (p : Nat) (d : DOp), ds[p]? = some d → Lst L d.ix → d.o.dst = some t → VR M (Vs p) (a.tmps.getD t undef)) ∧
    ((∀ (p : Nat) (d : DOp), ds[p]? = some d → Lst L d.ix → d.o.dst ≠ some t) → VR M ((Ts 0).get t) (a.tmps.getD t undef))

section
variable {P : Program} {X : Cx} {N : Nat} {ops : Array Oper} {ds : List DOp} {Ts : Nat → Env} {Hs : Nat → Heap} {Vs : Nat → AV} {L : Array Bool} {m n : Nat} {a : Act} {w : World}

theorem Did.still {o : DOp} {T : Env} {H H' : Heap} {v : AV} (h : Did P o T H v H') (hc : o.heavy = false) : H' = H := by
  rcases h with ⟨_, h, hp⟩ | ⟨_, h, _⟩
  · cases hcl : o.o.op.cls with
    | heavy =>
      refine (hp ?_).1
      simpa [DOp.heavy, hcl] using hc
    | pure =>
      obtain ⟨v', h1, _⟩ := sor_pure o.o.op hcl (T.evals o.o.args) H _ (h (fun u K => u = v ∧ K = H') ⟨rfl, rfl⟩)
      exact h1.2.symm
    | load =>
      have hbs : ∀ b off, AV.ptr b off ∈ T.evals o.o.args → b < H.length := by
        intro b off hb
        have h' := h (fun u K => u = v ∧ K = H') ⟨rfl, rfl⟩
        generalize o.o.op = s at *
        cases s <;> simp only [SOp.cls, reduceCtorEq] at hcl <;> simp only [sor, r1_sat, rP_sat, rO_sat, val_sat] at h'
        case ld1 =>
          obtain ⟨p, hp, h'⟩ := a1_out h'
          obtain ⟨b', off', rfl, h'⟩ := isP_out h'
          obtain ⟨k, hk, h'⟩ := sm_out h'
          rw [hp] at hb
          simp at hb
          rw [hb.1]
          exact blkAt_lt hk
        case ldn n =>
          obtain ⟨p, hp, h'⟩ := a1_out h'
          obtain ⟨b', off', rfl, h'⟩ := isP_out h'
          obtain ⟨cs, hk, h'⟩ := sm_out h'
          rw [hp] at hb
          simp at hb
          rw [hb.1]
          unfold rd at hk
          split at hk
          · rename_i k hk'; exact blkAt_lt hk'
          · cases hk
      obtain ⟨v', h1, _⟩ := sor_load o.o.op hcl (T.evals o.o.args) (H2 := H) (h (fun u K => u = v ∧ K = H') ⟨rfl, rfl⟩) (.inl ⟨[], by simp⟩) hbs
      exact h1.2.symm
  · exact h

/-- The heap does not change where nothing heavy is done. -/
theorem Tr.flat (h : Tr P ds Ts Hs Vs) : ∀ (k i : Nat), i + k ≤ ds.length → (∀ q d, i ≤ q → q < i + k → ds[q]? = some d → d.heavy = false) → Hs (i + k) = Hs i
  | 0, _, _, _ => rfl
  | k + 1, i, hl, hh => by
    obtain ⟨d, hd⟩ : ∃ d, ds[i + k]? = some d := ⟨ds[i + k], by simp⟩
    have h1 := hh (i + k) d (by omega) (by omega) hd
    have h2 := (h.did (i + k) d hd).still h1
    rw [show i + (k + 1) = i + k + 1 by omega, h2]
    exact h.flat k i (by omega) fun q d h3 h4 => hh q d h3 (by omega)

theorem Tr.flat' (h : Tr P ds Ts Hs Vs) {i j : Nat} (hij : i ≤ j) (hj : j ≤ ds.length) (hh : ∀ q d, i ≤ q → q < j → ds[q]? = some d → d.heavy = false) : Hs j = Hs i := by
  obtain ⟨k, rfl⟩ : ∃ k, j = i + k := ⟨j - i, by omega⟩
  exact h.flat k i hj hh

theorem Tr.grow (h : Tr P ds Ts Hs Vs) : ∀ (k i : Nat), i + k ≤ ds.length → (∀ q d, i ≤ q → q < i + k → ds[q]? = some d → d.heavy = true → d.ext = true) → ∃ G, Hs (i + k) = Hs i ++ G
  | 0, _, _, _ => ⟨[], by simp⟩
  | k + 1, i, hl, hh => by
    obtain ⟨d, hd⟩ : ∃ d, ds[i + k]? = some d := ⟨ds[i + k], by simp⟩
    obtain ⟨G, hG⟩ := h.grow k i (by omega) fun q d h3 h4 => hh q d h3 (by omega)
    rw [show i + (k + 1) = i + k + 1 by omega]
    cases hhv : d.heavy with
    | false =>
      rw [(h.did (i + k) d hd).still hhv]
      exact ⟨G, hG⟩
    | true =>
      obtain ⟨G', hG'⟩ := h.ext (i + k) d hd (hh (i + k) d (by omega) (by omega) hd hhv)
      exact ⟨G ++ G', by rw [hG', hG, List.append_assoc]⟩

theorem Tr.grow' (h : Tr P ds Ts Hs Vs) {i j : Nat} (hij : i ≤ j) (hj : j ≤ ds.length) (hh : ∀ q d, i ≤ q → q < j → ds[q]? = some d → d.heavy = true → d.ext = true) : ∃ G, Hs j = Hs i ++ G := by
  obtain ⟨k, rfl⟩ : ∃ k, j = i + k := ⟨j - i, by omega⟩
  exact h.grow k i hj hh

/-- What stands between two of the region. -/
theorem okPair_be {d e : DOp} (h : okPair d e = true) (hb : d.be e = false) : (d.heavy && e.heavy) = false ∧ (d.load && e.heavy && !e.ext) = false ∧ (d.heavy && e.load && !d.ext) = false ∧ wr d.o.dst e.reads = false ∧ wr e.o.dst d.reads = false ∧ (d.pur && e.heavy && !e.ext) = false ∧ (d.heavy && e.pur) = false := by
  unfold okPair at h
  rw [hb] at h
  simp only [Bool.false_or, Bool.and_eq_true, Bool.not_eq_true'] at h
  exact ⟨h.1.2.1.1.1.1.1.1, h.1.2.1.1.1.1.1.2, h.1.2.1.1.1.1.2, h.1.2.1.2, h.1.2.2, h.1.2.1.1.1.2, h.1.2.1.1.2⟩

theorem okPair_ix {d e : DOp} (h : okPair d e = true) : d.ix ≠ e.ix := by
  unfold okPair at h
  simp only [Bool.and_eq_true, Bool.not_eq_true', beq_eq_false_iff_ne] at h
  exact h.1.1

theorem okPair_dst {d e : DOp} (h : okPair d e = true) {t : Nat} (h1 : d.o.dst = some t) : e.o.dst ≠ some t := by
  intro h2
  unfold okPair at h
  simp only [Bool.and_eq_true, Bool.not_eq_true'] at h
  have := h.2
  rw [h1, h2] at this
  simp [wr] at this

theorem wr_mem {o : Option Nat} {l : List Nat} {t : Nat} (h : wr o l = false) (h1 : o = some t) : t ∉ l := by
  subst h1
  simpa [wr] using h

/-- One that is not yet done, and all that come ahead of it are. -/
structure Due (ds : List DOp) (L : Array Bool) (p : Nat) (d : DOp) : Prop where
  at' : ds[p]? = some d
  no : ¬ Lst L d.ix
  yes : ∀ j, d.anc.testBit j = true → Lst L j

theorem Sim.read (hp : pairsOk ds = true) (ht : Tr P ds Ts Hs Vs) (hs : Sim X N n ds Ts Hs Vs L m a w) {p : Nat} {d : DOp} (hd : Due ds L p d) {M : Val}
    (hM : ∀ t, (∀ (p : Nat) (d : DOp), ds[p]? = some d → Lst L d.ix → d.o.dst = some t → VR M (Vs p) (a.tmps.getD t undef)) ∧ ((∀ (p : Nat) (d : DOp), ds[p]? = some d → Lst L d.ix → d.o.dst ≠ some t) → VR M ((Ts 0).get t) (a.tmps.getD t undef)))
    (t : Nat) (hr : t ∈ d.reads) : VR M ((Ts p).get t) (a.tmps.getD t undef) := by
  have hlen : p < ds.length := (List.getElem?_eq_some_iff.1 hd.at').1
  rcases ht.src t p (by omega) with h | ⟨q, e, h1, h2, h3, h4⟩ | ⟨h1, h2⟩
  · rw [h]; simp [VR]
  · rw [h4]
    have hpair := pairsOk_at ds hp q p e d h1 h2 hd.at'
    have hdone : Lst L e.ix := by
      cases hb : e.be d with
      | true => exact hd.yes _ hb
      | false =>
        have := (okPair_be hpair hb).2.2.2.1
        exact absurd hr (wr_mem this h3)
    exact (hM t).1 q e h2 hdone h3
  · rw [h2]
    refine (hM t).2 fun q e hq hl he => ?_
    rcases Nat.lt_trichotomy q p with h3 | h3 | h3
    · exact h1 q e h3 hq he
    · subst h3
      rw [hd.at'] at hq
      cases hq
      exact hd.no hl
    · have hpair := pairsOk_at ds hp p q d e h3 hd.at' hq
      cases hb : d.be e with
      | true => exact hd.no (hs.cl q e hq hl _ hb)
      | false =>
        have := (okPair_be hpair hb).2.2.2.2.1
        exact absurd hr (wr_mem this he)
end
end Go.Proofs.Ytlohehkagaabfaa.Ah
