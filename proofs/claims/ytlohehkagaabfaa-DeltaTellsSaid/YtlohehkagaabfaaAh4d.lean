/- Ah4d: a part of the proof: steps over abstract values, or contracts of functions. Conditions: none. -/
import Derived.Test.YtlohehkagaabfaaAh4c
namespace Go.Proofs.Ytlohehkagaabfaa.Ah
open Go
set_option linter.unusedVariables false

def SO.reg? : SO → Option Nat
  | .r t => some t
  | .c _ => none
def DOp.reads (d : DOp) : List Nat := d.o.args.filterMap SO.reg? ++ (match d.o.guard with | some (g, _) => [g] | none => [])
def DOp.heavy (d : DOp) : Bool := decide (d.o.op.cls = .heavy) && !d.pur
def DOp.load (d : DOp) : Bool := decide (d.o.op.cls = .load)

/-- The second always comes after the first. -/
def DOp.be (d e : DOp) : Bool := e.anc.testBit d.ix

def wr (o : Option Nat) (l : List Nat) : Bool := match o with | some t => l.elem t | none => false

/-- Two of the region, the first told ahead of the second. -/
def okPair (d e : DOp) : Bool :=
  !(d.ix == e.ix) && (d.be e || (
    !(d.heavy && e.heavy) && !(d.load && e.heavy && !e.ext) && !(d.heavy && e.load && !d.ext) && !(d.pur && e.heavy && !e.ext) && !(d.heavy && e.pur) && !wr d.o.dst e.reads && !wr e.o.dst d.reads)) &&
  !wr d.o.dst e.o.dst.toList

def pairsOk : List DOp → Bool
  | [] => true
  | d :: r => r.all (okPair d) && pairsOk r

theorem pairsOk_at : ∀ (ds : List DOp), pairsOk ds = true → ∀ (p q : Nat) (d e : DOp), p < q → ds[p]? = some d → ds[q]? = some e → okPair d e = true
  | [], _, p, q, d, e, _, h, _ => by simp at h
  | c :: r, h, p, q, d, e, hpq, hp, hq => by
    simp only [pairsOk, Bool.and_eq_true, List.all_eq_true] at h
    cases q with
    | zero => omega
    | succ q =>
      cases p with
      | zero =>
        simp at hp hq
        subst hp
        exact h.1 e (List.mem_of_getElem? hq)
      | succ p => exact pairsOk_at r h.2 p q d e (by omega) (by simpa using hp) (by simpa using hq)

def prs (o : Oper) : List Nat := (o.after.toList.filter (Region.binds .any)).map (·.on)

def ancOf (ds : List DOp) (k : Nat) : Nat := match ds.find? (fun d => d.ix == k) with | some d => d.anc | none => 0

def maskOf (ds : List DOp) : List Nat → Nat
  | [] => 0
  | k :: r => (1 <<< k) ||| ancOf ds k ||| maskOf ds r

theorem maskOf_bit (ds : List DOp) (j : Nat) : ∀ l, (maskOf ds l).testBit j = true → ∃ k ∈ l, j = k ∨ (ancOf ds k).testBit j = true
  | [], h => by simp [maskOf] at h
  | k :: r, h => by
    simp only [maskOf, Nat.testBit_or, Bool.or_eq_true] at h
    rcases h with (h | h) | h
    · refine ⟨k, by simp, .inl ?_⟩
      rw [Nat.one_shiftLeft, Nat.testBit_two_pow] at h
      exact (of_decide_eq_true h).symm
    · exact ⟨k, by simp, .inr h⟩
    · obtain ⟨k', h1, h2⟩ := maskOf_bit ds j r h
      exact ⟨k', by simp [h1], h2⟩

def okOne (P : Program) (N : Nat) (ops : Array Oper) (ds : List DOp) (seen : Nat) (d : DOp) : Bool :=
  match ops[d.ix]? with
  | some o => okOper P N ops o d.o && (maskOf ds (prs o) ||| d.anc == maskOf ds (prs o)) && (prs o).all (fun k => seen.testBit k)
  | none => false

def okEach (P : Program) (N : Nat) (ops : Array Oper) (ds : List DOp) : Nat → List DOp → Bool
  | _, [] => true
  | seen, d :: r => okOne P N ops ds seen d && okEach P N ops ds (seen ||| (1 <<< d.ix)) r

def okD (P : Program) (N : Nat) (ops : Array Oper) (ds : List DOp) : Bool :=
  P.follows .mixedOrders && pairsOk ds && okEach P N ops ds 0 ds && (List.range ops.size).all (fun i => ds.any fun d => d.ix == i)

theorem okEach_at {P : Program} {N : Nat} {ops : Array Oper} {ds : List DOp} : ∀ (r : List DOp) (seen : Nat), okEach P N ops ds seen r = true → ∀ (p : Nat) (d : DOp), r[p]? = some d →
    ∃ o, ops[d.ix]? = some o ∧ okOper P N ops o d.o = true ∧ (∀ j, d.anc.testBit j = true → ∃ k ∈ prs o, j = k ∨ (ancOf ds k).testBit j = true) ∧
      ∀ k ∈ prs o, seen.testBit k = true ∨ ∃ (q : Nat) (e : DOp), q < p ∧ r[q]? = some e ∧ e.ix = k
  | [], _, _, p, d, h => by simp at h
  | c :: r, seen, h, p, d, hp => by
    simp only [okEach, Bool.and_eq_true] at h
    cases p with
    | zero =>
      simp at hp
      subst hp
      have h1 := h.1
      unfold okOne at h1
      split at h1
      · rename_i o ho
        simp only [Bool.and_eq_true, beq_iff_eq, List.all_eq_true] at h1
        refine ⟨o, ho, h1.1.1, fun j hj => maskOf_bit ds j _ ?_, fun k hk => .inl (h1.2 k hk)⟩
        rw [← h1.1.2, Nat.testBit_or, hj, Bool.or_true]
      · cases h1
    | succ p =>
      obtain ⟨o, h1, h2, h3, h4⟩ := okEach_at r _ h.2 p d (by simpa using hp)
      refine ⟨o, h1, h2, h3, fun k hk => ?_⟩
      rcases h4 k hk with h5 | ⟨q, e, h5, h6, h7⟩
      · rw [Nat.testBit_or, Bool.or_eq_true] at h5
        rcases h5 with h5 | h5
        · exact .inl h5
        · refine .inr ⟨0, c, by omega, by simp, ?_⟩
          rw [Nat.one_shiftLeft, Nat.testBit_two_pow] at h5
          exact of_decide_eq_true h5
      · exact .inr ⟨q + 1, e, by omega, by simpa using h6, h7⟩

theorem pick_get (T : Env) (t : Nat) : ∀ l : List Nat, Env.get (l.map fun t => (t, T.get t)) t = if t ∈ l then T.get t else .any
  | [] => by simp [Env.get]
  | i :: r => by
    simp only [List.map_cons, Env.get, List.mem_cons, pick_get T t r]
    by_cases h : i = t
    · subst h; simp
    · have : ¬ t = i := fun e => h e.symm
      simp [h, this]

theorem evals_congr {T T' : Env} : ∀ (l : List SO), (∀ t, t ∈ l.filterMap SO.reg? → T.get t = T'.get t) → T.evals l = T'.evals l
  | [], _ => rfl
  | x :: r, h => by
    simp only [Env.evals]
    rw [evals_congr r fun t ht => h t (by simp only [List.filterMap_cons]; split <;> simp [ht])]
    congr 1
    cases x with
    | c v => rfl
    | r t => exact h t (by simp [SO.reg?])
end Go.Proofs.Ytlohehkagaabfaa.Ah
