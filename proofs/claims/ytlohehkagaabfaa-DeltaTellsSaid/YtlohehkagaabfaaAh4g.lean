/- Ah4g: a part of the proof: steps over abstract values, or contracts of functions. Conditions: none. -/
import Derived.Test.YtlohehkagaabfaaAh4f
namespace Go.Proofs.Ytlohehkagaabfaa.Ah
open Go
set_option linter.unusedVariables false

section
variable {P : Program} {X : Cx} {N : Nat} {ops : Array Oper} {ds : List DOp} {Ts : Nat → Env} {Hs : Nat → Heap} {Vs : Nat → AV} {L : Array Bool} {m n : Nat} {a : Act} {w : World}

theorem cls_light {d : DOp} (h : d.heavy = false) : d.o.op.cls = .pure ∨ d.o.op.cls = .load ∨ d.pur = true := by
  unfold DOp.heavy at h
  cases hc : d.o.op.cls <;> simp_all

/-- One more step. -/
theorem Sim.step {Q : Exit → Act → World → Prop} {K : Act → World → Prop} (hp : pairsOk ds = true) (ht : Tr P ds Ts Hs Vs) (hs : Sim X N n ds Ts Hs Vs L m a w) {p : Nat} {d : DOp} (hd : Due ds L p d) (hix : d.ix < n)
    {o : Oper} (ho : ops[d.ix]? = some o) (hok : okOper P N ops o d.o = true)
    (hk : ∀ m' a' w', Sim X N n ds Ts Hs Vs (L.setIfInBounds d.ix true) m' a' w' → K a' w') : wpOp P ops Q d.ix K a w := by
  obtain ⟨m', hm', hhv, hcase⟩ := hs.hv' hp ht hd hix
  obtain ⟨M, hH, hK, hM⟩ := hs.st
  have hread := hs.read hp ht hd hM
  simp only [okOper, Bool.and_eq_true] at hok
  obtain ⟨⟨⟨g1, g2⟩, g3⟩, g4⟩ := hok
  have hdst : o.dst = d.o.dst := by simpa using g2
  have hdN : ∀ i, d.o.dst = some i → i < N := by
    intro i hi
    rw [hdst, hi] at g3
    simpa [okDst] using g3
  have hsub : ∀ t, t ∈ d.o.args.filterMap SO.reg? → t ∈ d.reads := fun t h => by unfold DOp.reads; exact List.mem_append_left _ h
  have hrel : TRel N M (d.reads.map fun t => (t, (Ts p).get t)) a.tmps := by
    refine ⟨hs.tsz, fun t => ?_⟩
    rw [pick_get]
    split
    · rename_i h; exact hread t h
    · simp [VR]
  have hev : Env.evals (d.reads.map fun t => (t, (Ts p).get t)) d.o.args = (Ts p).evals d.o.args := by
    refine evals_congr _ fun t h => ?_
    rw [pick_get, if_pos (hsub t h)]
  -- what the guard says
  have hgd : ∀ g want, d.o.guard = some (g, want) → ∃ j, o.guard = some (j, want) ∧ yielded ops a.tmps j = (match a.tmps.getD g undef with | .bool b => some b | _ => none) ∧ VR M ((Ts p).get g) (a.tmps.getD g undef) := by
    intro g want hg
    rw [hg] at g4
    cases hgo : o.guard with
    | none => rw [hgo] at g4; cases g4
    | some q =>
      obtain ⟨j, wt⟩ := q
      rw [hgo] at g4
      simp only [Bool.and_eq_true, beq_iff_eq, decide_eq_true_eq] at g4
      obtain ⟨⟨rfl, hj⟩, hgN⟩ := g4
      refine ⟨j, rfl, ?_, hread g (by unfold DOp.reads; rw [hg]; simp)⟩
      have hgs : a.tmps[g]? = some (a.tmps.getD g undef) := by
        have : g < a.tmps.size := by rw [hs.tsz]; exact hgN
        simp [this]
      unfold yielded
      rw [hj]
      show (match a.tmps[g]? with | some (.bool b) => some b | _ => none) = _
      rw [hgs]
      generalize a.tmps.getD g undef = v
      cases v <;> rfl
  have hno : d.o.guard = none → o.guard = none := by
    intro h
    rw [h] at g4
    cases hgo : o.guard with
    | none => rfl
    | some q => rw [hgo] at g4; cases g4
  unfold wpOp
  rw [ho]
  simp only
  rcases ht.did p d hd.at' with ⟨hw, hsat, hpur⟩ | ⟨hv, hst, g, want, hg, hgv⟩
  · -- carried out
    have hwant : Region.wanted o (yielded ops a.tmps) = true := by
      rcases hw with hw | ⟨g, want, hg, hgv⟩
      · simp [Region.wanted, hno hw]
      · obtain ⟨j, e1, e2, e3⟩ := hgd g want hg
        rw [hgv] at e3
        simp only [VR] at e3
        rw [e3] at e2
        simp [Region.wanted, e1, e2]
    rw [if_pos hwant]
    refine .inl ?_
    cases hop : okOp P o.op d.o.op with
    | none => rw [hop] at g1; cases g1
    | some l =>
      rw [hop] at g1
      simp only at g1
      have hargs := okArgs_sound hrel l d.o.args g1
      rw [hev] at hargs
      have hso : (sor P d.o.op ((Ts p).evals d.o.args) (Hs m)).sat P (fun v H => v = Vs p ∧ H = Hs m') := by
        rcases hcase with ⟨h1, rfl⟩ | ⟨h1, rfl, h2⟩
        · have hst := (ht.did p d hd.at').still h1
          rcases cls_light h1 with hc2 | hc2 | hc2
          rotate_left 2
          · obtain ⟨G, hG⟩ := hs.alongP hp ht hd hc2
            rw [hG]
            exact (hpur hc2).2 G _ ⟨rfl, rfl⟩
          · obtain ⟨v, h3, h4⟩ := sor_pure (P := P) d.o.op hc2 ((Ts p).evals d.o.args) (Hs p) (fun v H => v = Vs p) (hsat _ rfl)
            exact h4 (Hs m') _ ⟨h3, rfl⟩
          · have hbs : ∀ b off, AV.ptr b off ∈ (Ts p).evals d.o.args → b < (Hs m').length := by
              intro b off hb
              obtain ⟨i, hi⟩ := List.mem_iff_getElem?.1 hb
              obtain ⟨x, hx, hvx⟩ := hargs.get i _ hi
              simp only [VR] at hvx
              obtain ⟨lc, hl, _⟩ := hvx
              rcases Nat.lt_or_ge b (Hs m').length with h5 | h5
              · exact h5
              · rw [hH.dom b h5] at hl; cases hl
            obtain ⟨v, h3, h4⟩ := sor_load (P := P) d.o.op hc2 ((Ts p).evals d.o.args) (H := Hs p) (H2 := Hs m') (K := fun v H => v = Vs p) (hsat _ rfl) (hs.along hp ht hd (by simp [DOp.load, hc2])) hbs
            exact h4 _ ⟨h3, rfl⟩
        · rw [← h2]
          exact hsat _ ⟨rfl, rfl⟩
      obtain ⟨v, H', ⟨rfl, rfl⟩, hstep⟩ := sor_sound o d.o.op l hop _ (Hs m) _ hso
      refine hstep M w a hH hargs K Q fun x M' w' e1 e2 e3 => ?_
      rw [hdst]
      exact hk m' _ _ (hs.after hp hd hix hdN hm' hhv hM (hH.le e2) e1 (hK.trans e2) e3)
  · -- passed over
    obtain ⟨j, e1, e2, e3⟩ := hgd g want hg
    have hwant : ¬ Region.wanted o (yielded ops a.tmps) = true := by
      rcases hgv with hgv | hgv
      · rw [hgv] at e3
        simp only [VR] at e3
        rw [e3] at e2
        cases want <;> simp [Region.wanted, e1, e2]
      · rw [hgv] at e3
        simp only [VR, VRs] at e3
        obtain ⟨us, e4, e5⟩ := e3
        rw [e4, e5] at e2
        simp [Region.wanted, e1, e2]
    rw [if_neg hwant, hdst]
    have hsame : Hs m' = Hs m := by
      rcases hcase with ⟨_, rfl⟩ | ⟨_, rfl, h2⟩
      · rfl
      · rw [hst, h2]
    refine hk m' _ _ (hs.after hp hd hix hdN hm' hhv hM (Val.le_refl M) (by rw [hsame]; exact hH) (by rw [hsame]; exact hK) ?_)
    rw [hv]
    exact vr_undef M

def left (L : Array Bool) : Nat → Nat
  | 0 => 0
  | i + 1 => left L i + (if L.getD i false then 0 else 1)

theorem left_zero {L : Array Bool} : ∀ n, left L n = 0 → ∀ i, i < n → Lst L i
  | 0, _, i, h => by omega
  | n + 1, hl, i, h => by
    simp only [left] at hl
    by_cases h1 : L.getD n false = true
    · rw [if_pos h1] at hl
      rcases Nat.lt_or_ge i n with h2 | h2
      · exact left_zero n (by omega) i h2
      · have : i = n := by omega
        subst this
        exact h1
    · rw [if_neg h1] at hl
      omega

theorem left_set {L : Array Bool} {j : Nat} (hj : j < L.size) (hn : ¬ Lst L j) : ∀ n, left (L.setIfInBounds j true) n + (if j < n then 1 else 0) = left L n
  | 0 => by simp [left]
  | n + 1 => by
    simp only [left]
    have ih := left_set hj hn n
    by_cases h : n = j
    · subst h
      have h1 : (L.setIfInBounds n true).getD n false = true := by simp [hj]
      have h2 : L.getD n false = false := by unfold Lst at hn; simpa using hn
      rw [h1, h2]
      simp only [Nat.lt_irrefl, if_false, Nat.lt_succ_self, if_true] at ih ⊢
      simp
      omega
    · have h1 : (L.setIfInBounds j true).getD n false = L.getD n false := by
        simp only [Array.getD_eq_getD_getElem?, Array.getElem?_setIfInBounds_ne (fun e => h e.symm)]
      rw [h1]
      generalize (if L.getD n false = true then 0 else 1) = z
      by_cases h2 : j < n
      · rw [if_pos h2] at ih
        rw [if_pos (by omega)]
        omega
      · rw [if_neg h2] at ih
        rw [if_neg (by omega)]
        omega

end
end Go.Proofs.Ytlohehkagaabfaa.Ah
