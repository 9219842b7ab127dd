/- Ah4c: a part of the proof: steps over abstract values, or contracts of functions. Conditions: none. -/
import Derived.Test.YtlohehkagaabfaaAh4b
namespace Go.Proofs.Ytlohehkagaabfaa.Ah
open Go
set_option linter.unusedVariables false

/-- An operation of a region that draws its order. -/
structure DOp where
  ix : Nat
  anc : Nat
  ext : Bool
  pur : Bool
  o : SOper

/-- It does so with more memory, too. -/
def Pur (P : Program) (s : SOp) (vs : List AV) (H : Heap) (v : AV) : Prop := ∀ (G : Heap) (K : AV → Heap → Prop), K v (H ++ G) → (sor P s vs (H ++ G)).sat P K

/-- Done in the order told; where asked, the heap is only gone on with, or left as it is. -/
def adraw (P : Program) : List DOp → Env → Heap → (Env → Heap → Prop) → Prop
  | [], T, H, K => K T H
  | d :: ds, T, H, K =>
    match d.o.guard with
    | none => (sor P d.o.op (T.evals d.o.args) H).sat P fun v H' => ((d.ext = true → ∃ G, H' = H ++ G) ∧ (d.pur = true → H' = H ∧ Pur P d.o.op (T.evals d.o.args) H v)) ∧ adraw P ds ((T.dels d.o.kill).put d.o.dst v) H' K
    | some (g, want) => match T.get g with
      | .bool b => (b = want → (sor P d.o.op ((T.put (some g) (.bool want)).evals d.o.args) H).sat P fun v H' => ((d.ext = true → ∃ G, H' = H ++ G) ∧ (d.pur = true → H' = H ∧ Pur P d.o.op ((T.put (some g) (.bool want)).evals d.o.args) H v)) ∧ adraw P ds (((T.put (some g) (.bool want)).dels d.o.kill).put d.o.dst v) H' K) ∧
          (b = !want → adraw P ds (((T.put (some g) (.bool (!want))).dels d.o.kill).put d.o.dst (.tup [])) H K)
      | .tup [] => adraw P ds ((T.dels d.o.kill).put d.o.dst (.tup [])) H K
      | _ => False

/-- What an operation did. -/
def Did (P : Program) (d : DOp) (T : Env) (H : Heap) (v : AV) (H' : Heap) : Prop :=
  ((d.o.guard = none ∨ ∃ g want, d.o.guard = some (g, want) ∧ T.get g = .bool want) ∧ (∀ K : AV → Heap → Prop, K v H' → (sor P d.o.op (T.evals d.o.args) H).sat P K) ∧ (d.pur = true → H' = H ∧ Pur P d.o.op (T.evals d.o.args) H v)) ∨
  (v = .tup [] ∧ H' = H ∧ ∃ g want, d.o.guard = some (g, want) ∧ (T.get g = .bool (!want) ∨ T.get g = .tup []))

structure Tr (P : Program) (ds : List DOp) (Ts : Nat → Env) (Hs : Nat → Heap) (Vs : Nat → AV) : Prop where
  did : ∀ p d, ds[p]? = some d → Did P d (Ts p) (Hs p) (Vs p) (Hs (p + 1))
  ext : ∀ p d, ds[p]? = some d → d.ext = true → ∃ G, Hs (p + 1) = Hs p ++ G
  nxt : ∀ p d, ds[p]? = some d → ∀ t, (Ts (p + 1)).get t = (((Ts p).dels d.o.kill).put d.o.dst (Vs p)).get t

theorem Env.get_put_some (T : Env) (g : Nat) (v : AV) (t : Nat) : (T.put (some g) v).get t = if g = t then v else T.get t := Env.get_ins T g t v

theorem adraw_trace {P : Program} {K : Env → Heap → Prop} : ∀ (ds : List DOp) (T : Env) (H : Heap), adraw P ds T H K →
    ∃ Ts Hs Vs, (∀ t, (Ts 0).get t = T.get t) ∧ Hs 0 = H ∧ Tr P ds Ts Hs Vs ∧ ∃ Tf, (∀ t, Tf.get t = (Ts ds.length).get t) ∧ K Tf (Hs ds.length) ∧ ∀ K' : Env → Heap → Prop, K' Tf (Hs ds.length) → adraw P ds T H K'
  | [], T, H, h => ⟨fun _ => T, fun _ => H, fun _ => .any, fun _ => rfl, rfl, ⟨fun p d h => by simp at h, fun p d h => by simp at h, fun p d h => by simp at h⟩, T, fun _ => rfl, h, fun _ hk => hk⟩
  | d :: ds, T, H, h => by
    -- one step on
    have step : ∀ (T1 : Env) (v : AV) (H1 : Heap), (∀ t, T1.get t = T.get t) → Did P d T1 H v H1 → (d.ext = true → ∃ G, H1 = H ++ G) → adraw P ds ((T1.dels d.o.kill).put d.o.dst v) H1 K →
        (∀ K' : Env → Heap → Prop, adraw P ds ((T1.dels d.o.kill).put d.o.dst v) H1 K' → adraw P (d :: ds) T H K') →
        ∃ Ts Hs Vs, (∀ t, (Ts 0).get t = T.get t) ∧ Hs 0 = H ∧ Tr P (d :: ds) Ts Hs Vs ∧ ∃ Tf, (∀ t, Tf.get t = (Ts (d :: ds).length).get t) ∧ K Tf (Hs (d :: ds).length) ∧ ∀ K' : Env → Heap → Prop, K' Tf (Hs (d :: ds).length) → adraw P (d :: ds) T H K' := by
      intro T1 v H1 hT hd he hk hb
      obtain ⟨Ts, Hs, Vs, h1, h2, h3, Tf, h4, h5, h6⟩ := adraw_trace ds _ _ hk
      refine ⟨fun n => match n with | 0 => T1 | n + 1 => Ts n, fun n => match n with | 0 => H | n + 1 => Hs n, fun n => match n with | 0 => v | n + 1 => Vs n, hT, rfl, ⟨?_, ?_, ?_⟩, Tf, h4, h5, fun K' hK => hb _ (h6 _ hK)⟩
      · intro p e hp
        cases p with
        | zero => simp at hp; subst hp; simp only [h2]; exact hd
        | succ p => exact h3.did p e (by simpa using hp)
      · intro p e hp
        cases p with
        | zero => simp at hp; subst hp; simp only [h2]; exact he
        | succ p => exact h3.ext p e (by simpa using hp)
      · intro p e hp
        cases p with
        | zero => simp at hp; subst hp; exact h1
        | succ p => exact h3.nxt p e (by simpa using hp)
    unfold adraw at h
    cases hg : d.o.guard with
    | none =>
      rw [hg] at h
      simp only at h
      obtain ⟨v, H1, h1, h2⟩ := R.det _ h
      exact step T v H1 (fun _ => rfl) (.inl ⟨.inl hg, h2, h1.1.2⟩) h1.1.1 h1.2 (fun K' hk => by unfold adraw; rw [hg]; exact h2 _ ⟨h1.1, hk⟩)
    | some q =>
      obtain ⟨g, want⟩ := q
      rw [hg] at h
      simp only at h
      split at h
      · rename_i b hb
        by_cases hbw : b = want
        · obtain ⟨v, H1, h1, h2⟩ := R.det _ (h.1 hbw)
          refine step _ v H1 (fun t => ?_) (.inl ⟨.inr ⟨g, want, hg, ?_⟩, h2, h1.1.2⟩) h1.1.1 h1.2 (fun K' hk => ?_)
          · rw [Env.get_put_some]
            split
            · rename_i e; subst e; rw [hb, hbw]
            · rfl
          · rw [Env.get_put_some, if_pos rfl]
          · unfold adraw; rw [hg]; simp only [hb]
            exact ⟨fun _ => h2 _ ⟨h1.1, hk⟩, fun e => by rw [hbw] at e; cases want <;> cases e⟩
        · have hb2 : b = !want := by cases b <;> cases want <;> simp_all
          refine step (T.put (some g) (.bool (!want))) (.tup []) H (fun t => ?_) (.inr ⟨rfl, rfl, g, want, hg, .inl ?_⟩) (fun _ => ⟨[], by simp⟩) (h.2 hb2) (fun K' hk => ?_)
          · rw [Env.get_put_some]
            split
            · rename_i e; subst e; rw [hb, hb2]
            · rfl
          · rw [Env.get_put_some, if_pos rfl]
          · unfold adraw; rw [hg]; simp only [hb]
            exact ⟨fun e => absurd e hbw, fun _ => hk⟩
      · rename_i hb
        exact step T (.tup []) H (fun _ => rfl) (.inr ⟨rfl, rfl, g, want, hg, .inr hb⟩) (fun _ => ⟨[], by simp⟩) h (fun K' hk => by unfold adraw; rw [hg]; simp only [hb]; exact hk)
      · exact h.elim

theorem Env.get_dels (T : Env) (l : List Nat) (t : Nat) : (T.dels l).get t = if t ∈ l then .any else T.get t := by
  induction l generalizing T with
  | nil => simp [Env.dels]
  | cons i r ih =>
    simp only [Env.dels, ih, Env.get_del, List.mem_cons]
    by_cases h1 : t ∈ r
    · simp [h1]
    · by_cases h2 : i = t
      · subst h2; simp [h1]
      · have : ¬ t = i := fun e => h2 e.symm
        simp [h1, h2, this]

/-- Where what is read comes from. -/
theorem Tr.src {P : Program} {ds : List DOp} {Ts : Nat → Env} {Hs : Nat → Heap} {Vs : Nat → AV} (h : Tr P ds Ts Hs Vs) (t : Nat) : ∀ q, q ≤ ds.length →
    (Ts q).get t = .any ∨ (∃ p d, p < q ∧ ds[p]? = some d ∧ d.o.dst = some t ∧ (Ts q).get t = Vs p) ∨ ((∀ p d, p < q → ds[p]? = some d → d.o.dst ≠ some t) ∧ (Ts q).get t = (Ts 0).get t)
  | 0, _ => .inr (.inr ⟨fun p d hp => by omega, rfl⟩)
  | q + 1, hq => by
    obtain ⟨d, hd⟩ : ∃ d, ds[q]? = some d := ⟨ds[q], by simp⟩
    have hn := h.nxt q d hd t
    have hs : d.o.dst ≠ some t → (Ts (q + 1)).get t = .any ∨ (Ts (q + 1)).get t = (Ts q).get t := by
      intro hne
      rw [hn]
      have : (((Ts q).dels d.o.kill).put d.o.dst (Vs q)).get t = ((Ts q).dels d.o.kill).get t := by
        cases hdst : d.o.dst with
        | none => rfl
        | some i =>
          rw [Env.get_put_some, if_neg]
          intro e
          subst e
          exact hne hdst
      rw [this, Env.get_dels]
      split
      · exact .inl rfl
      · exact .inr rfl
    by_cases hd2 : d.o.dst = some t
    · refine .inr (.inl ⟨q, d, by omega, hd, hd2, ?_⟩)
      rw [hn, hd2, Env.get_put_some, if_pos rfl]
    · rcases hs hd2 with h1 | h1
      · exact .inl h1
      · rcases h.src t q (by omega) with h2 | ⟨p, e, h2, h3, h4, h5⟩ | ⟨h2, h3⟩
        · exact .inl (h1.trans h2)
        · exact .inr (.inl ⟨p, e, by omega, h3, h4, h1.trans h5⟩)
        · refine .inr (.inr ⟨fun p e hp he => ?_, h1.trans h3⟩)
          rcases Nat.lt_or_ge p q with hpq | hpq
          · exact h2 p e hpq he
          · have : p = q := by omega
            subst this
            rw [hd] at he
            cases he
            exact hd2
end Go.Proofs.Ytlohehkagaabfaa.Ah
