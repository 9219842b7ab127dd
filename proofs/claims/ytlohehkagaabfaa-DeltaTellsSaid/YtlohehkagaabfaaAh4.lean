/- Ah4: a part of the proof: steps over abstract values, or contracts of functions. Conditions: none. -/
import Derived.Test.YtlohehkagaabfaaAh3b
import Derived.LoopN
namespace Go.Proofs.Ytlohehkagaabfaa.Ah
open Go

abbrev Env := List (Nat × AV)
def Env.get : Env → Nat → AV
  | [], _ => .any
  | (j, v) :: r, i => if j = i then v else Env.get r i
def Env.del : Env → Nat → Env
  | [], _ => []
  | (j, v) :: r, i => if j = i then Env.del r i else (j, v) :: Env.del r i
def Env.dels (T : Env) : List Nat → Env
  | [] => T
  | i :: r => Env.dels (T.del i) r
def Env.ins : Env → Nat → AV → Env
  | [], i, v => [(i, v)]
  | (j, u) :: r, i, v => if i < j then (i, v) :: (j, u) :: r else if i = j then (i, v) :: r else (j, u) :: Env.ins r i v
def Env.put (T : Env) (d : Option Nat) (v : AV) : Env := match d with | some i => T.ins i v | none => T

structure St where
  t : Env
  h : Heap

def Env.eval (T : Env) : SO → AV
  | .r i => T.get i
  | .c v => v
def Env.evals (T : Env) : List SO → List AV
  | [] => []
  | x :: r => T.eval x :: Env.evals T r

theorem Env.evals_eq (T : Env) (l : List SO) : T.evals l = l.map T.eval := by
  induction l with
  | nil => rfl
  | cons x r ih => simp [Env.evals, ih]

/-- A run of operations. -/
def aops (P : Program) : List SOper → Env → Heap → (Env → Heap → Prop) → Prop
  | [], T, H, K => K T H
  | o :: os, T, H, K =>
    match o.guard with
    | none => (sor P o.op (T.evals o.args) H).sat P fun v H' => aops P os ((T.dels o.kill).put o.dst v) H' K
    | some (g, want) => match T.get g with
      | .bool b => (b = want → (sor P o.op (((T.put (some g) (.bool want))).evals o.args) H).sat P fun v H' => aops P os (((T.put (some g) (.bool want)).dels o.kill).put o.dst v) H' K) ∧
          (b = !want → aops P os (((T.put (some g) (.bool (!want))).dels o.kill).put o.dst (.tup [])) H K)
      | .tup [] => aops P os ((T.dels o.kill).put o.dst (.tup [])) H K
      | _ => False

structure TRel (N : Nat) (M : Val) (T : Env) (tmps : Array Value) : Prop where
  size : tmps.size = N
  val : ∀ i, VR M (T.get i) (tmps.getD i undef)

theorem Env.get_del (T : Env) (i j : Nat) : (T.del i).get j = if i = j then .any else T.get j := by
  induction T with
  | nil => simp [Env.del, Env.get]
  | cons p r ih =>
    obtain ⟨k, v⟩ := p
    by_cases h : k = i
    · subst h
      by_cases h2 : k = j
      · subst h2; simp [Env.del, ih]
      · simp [Env.del, Env.get, ih, h2]
    · by_cases h2 : k = j
      · subst h2
        have : ¬ i = k := fun e => h e.symm
        simp [Env.del, Env.get, h, this]
      · simp [Env.del, Env.get, ih, h, h2]

theorem Env.get_ins (T : Env) (i j : Nat) (v : AV) : (T.ins i v).get j = if i = j then v else T.get j := by
  induction T with
  | nil => simp [Env.ins, Env.get]
  | cons p r ih =>
    obtain ⟨k, u⟩ := p
    simp only [Env.ins]
    split
    · simp [Env.get]
    · split
      · rename_i h; subst h
        simp only [Env.get]
        split <;> rfl
      · rename_i h
        simp only [Env.get]
        by_cases h2 : k = j
        · subst h2; simp [h]
        · simp [h2, ih]

theorem TRel.del {N : Nat} {M : Val} {T : Env} {tmps : Array Value} (h : TRel N M T tmps) (i : Nat) : TRel N M (T.del i) tmps := by
  refine ⟨h.size, fun j => ?_⟩
  rw [Env.get_del]
  split
  · simp [VR]
  · exact h.val j

theorem TRel.dels {N : Nat} {M : Val} {tmps : Array Value} : ∀ (l : List Nat) {T : Env}, TRel N M T tmps → TRel N M (T.dels l) tmps
  | [], _, h => h
  | i :: r, _, h => TRel.dels r (h.del i)

theorem TRel.mono {N : Nat} {M M' : Val} {T : Env} {tmps : Array Value} (h : TRel N M T tmps) (hM : M.le M') : TRel N M' T tmps := ⟨h.size, fun j => (h.val j).mono hM⟩

theorem TRel.put {N : Nat} {M : Val} {T : Env} {a : Act} (h : TRel N M T a.tmps) (d : Option Nat) (hd : ∀ i, d = some i → i < N) {v : AV} {x : Value} (hv : VR M v x) : TRel N M (T.put d v) (a.put d x).tmps := by
  cases d with
  | none => exact h
  | some i =>
    have hi := hd i rfl
    refine ⟨by simp [Act.put, h.size], fun j => ?_⟩
    simp only [Env.put, Env.get_ins, Act.put]
    by_cases hj : i = j
    · subst hj
      rw [if_pos rfl]
      have : i < a.tmps.size := by rw [h.size]; exact hi
      simpa [this] using hv
    · rw [if_neg hj]
      have := h.val j
      simp only [Array.getD_eq_getD_getElem?] at this ⊢
      rw [Array.getElem?_setIfInBounds_ne hj]
      exact this

/-- What is known better. -/
theorem TRel.know {N : Nat} {M : Val} {T : Env} {tmps : Array Value} (h : TRel N M T tmps) (i : Nat) {v : AV} (hv : VR M v (tmps.getD i undef)) : TRel N M (T.put (some i) v) tmps := by
  refine ⟨h.size, fun j => ?_⟩
  simp only [Env.put, Env.get_ins]
  by_cases hj : i = j
  · subst hj
    rw [if_pos rfl]
    exact hv
  · rw [if_neg hj]
    exact h.val j

theorem okArg_sound {M : Val} {T : Env} {N : Nat} {a : Act} (h : TRel N M T a.tmps) {x : Operand} {s : SO} (hok : okArg x s = true) : VR M (T.eval s) (a.eval x) := by
  unfold okArg at hok
  split at hok
  · simp at hok
    subst hok
    exact h.val _
  · exact vc_sound M _ _ hok
  · simp at hok
    subst hok
    simp only [Env.eval, VR, Act.eval]
    exact ⟨[], [], rfl, by simp [VRs], by simp [VRs]⟩
  · cases hok

def okArgs : List Operand → List SO → Bool
  | [], [] => true
  | x :: xs, s :: ss => okArg x s && okArgs xs ss
  | _, _ => false

theorem okArgs_sound {M : Val} {T : Env} {N : Nat} {a : Act} (h : TRel N M T a.tmps) : ∀ (xs : List Operand) (ss : List SO), okArgs xs ss = true → VRs M (T.evals ss) (xs.map a.eval)
  | [], [], _ => by simp [Env.evals, VRs]
  | [], _ :: _, hok => by simp [okArgs] at hok
  | _ :: _, [], hok => by simp [okArgs] at hok
  | x :: xs, s :: ss, hok => by
    simp only [okArgs, Bool.and_eq_true] at hok
    simp only [Env.evals, List.map_cons, VRs]
    exact ⟨_, _, rfl, okArg_sound h hok.1, okArgs_sound h xs ss hok.2⟩

def okDst (N : Nat) : Option Nat → Bool
  | some i => decide (i < N)
  | none => true

/-- Does one stand for the other? -/
def okOper (P : Program) (N : Nat) (ops : Array Oper) (o : Oper) (s : SOper) : Bool :=
  (match okOp P o.op s.op with | some l => okArgs l s.args | none => false) && o.dst == s.dst && okDst N o.dst &&
  match o.guard, s.guard with
  | none, none => true
  | some (j, w), some (g, w') => w == w' && (ops[j]?).bind (·.dst) == some g && decide (g < N)
  | _, _ => false

def okOpers (P : Program) (N : Nat) (ops : Array Oper) : List Oper → List SOper → Bool
  | [], [] => true
  | o :: os, s :: ss => okOper P N ops o s && okOpers P N ops os ss
  | _, _ => false

/-- A state that reads so. -/
def Rel (X : Cx) (N : Nat) (T : Env) (H : Heap) (a : Act) (w : World) : Prop :=
  ∃ M, HRel M H w ∧ Kept X M H w ∧ TRel N M T a.tmps ∧ a.defers = []

theorem put_defers (a : Act) (d : Option Tmp) (v : Value) : (a.put d v).defers = a.defers := by cases d <;> rfl

theorem vr_undef (M : Val) : VR M (.tup []) undef := by
  simp only [VR]
  exact ⟨[], rfl, by simp [VRs]⟩

theorem ops_sound {P : Program} {X : Cx} {N : Nat} {ops : Array Oper} {Q : Exit → Act → World → Prop} {K : Env → Heap → Prop} (hQ : ∀ T H a w, K T H → Rel X N T H a w → Q .normal a w) :
    ∀ (os : List Oper) (ss : List SOper), okOpers P N ops os ss = true → ∀ (T : Env) (H : Heap) (a : Act) (w : World), aops P ss T H K → Rel X N T H a w → wpList P ops Q os a w
  | [], [], _, T, H, a, w, h, hr => hQ T H a w h hr
  | [], _ :: _, hok, _, _, _, _, _, _ => by simp [okOpers] at hok
  | _ :: _, [], hok, _, _, _, _, _, _ => by simp [okOpers] at hok
  | o :: os, s :: ss, hok, T, H, a, w, h, hr => by
    simp only [okOpers, Bool.and_eq_true] at hok
    obtain ⟨h1, h2⟩ := hok
    simp only [okOper, Bool.and_eq_true] at h1
    obtain ⟨⟨⟨g1, g2⟩, g3⟩, g4⟩ := h1
    have hdst : o.dst = s.dst := by simpa using g2
    have hdN : ∀ i, s.dst = some i → i < N := by
      intro i hi
      rw [hdst, hi] at g3
      simpa [okDst] using g3
    cases hop : okOp P o.op s.op with
    | none => rw [hop] at g1; cases g1
    | some l =>
      rw [hop] at g1
      simp only at g1
      -- the operation is carried out
      have run : ∀ T' : Env, Rel X N T' H a w → (sor P s.op (T'.evals s.args) H).sat P (fun v H' => aops P ss ((T'.dels s.kill).put s.dst v) H' K) → o.wp P a w (wpList P ops Q os) Q := by
        rintro T' ⟨M, hH, hK, hT, hd⟩ hso
        obtain ⟨v, H', hk, hstep⟩ := sor_sound o s.op l hop _ H _ hso
        refine hstep M w a hH (okArgs_sound hT l s.args g1) (wpList P ops Q os) Q fun x M' w' e1 e2 e3 => ?_
        have hle := hH.le e2
        refine ops_sound hQ os ss h2 _ H' _ w' hk ⟨M', e1, hK.trans e2, ?_, by rw [put_defers]; exact hd⟩
        rw [hdst]
        exact ((hT.mono hle).dels s.kill).put s.dst hdN e3
      -- it is passed over
      have skip : ∀ T' : Env, Rel X N T' H a w → aops P ss ((T'.dels s.kill).put s.dst (.tup [])) H K → wpList P ops Q os (a.put o.dst undef) w := by
        rintro T' ⟨M, hH, hK, hT, hd⟩ hk
        refine ops_sound hQ os ss h2 _ H _ w hk ⟨M, hH, hK, ?_, by rw [put_defers]; exact hd⟩
        rw [hdst]
        exact (hT.dels s.kill).put s.dst hdN (vr_undef M)
      unfold wpList
      unfold aops at h
      cases hg : o.guard with
      | none =>
        rw [hg] at g4
        cases hsg : s.guard with
        | some p => rw [hsg] at g4; cases g4
        | none =>
          rw [hsg] at h
          simp only at h
          rw [if_pos (by simp [Region.wanted, hg])]
          exact .inl (run T hr h)
      | some p =>
        obtain ⟨j, wt⟩ := p
        rw [hg] at g4
        cases hsg : s.guard with
        | none => rw [hsg] at g4; cases g4
        | some q =>
          obtain ⟨g, wt'⟩ := q
          rw [hsg] at g4 h
          simp only [Bool.and_eq_true, beq_iff_eq, decide_eq_true_eq] at g4
          obtain ⟨⟨rfl, hj⟩, hgN⟩ := g4
          simp only at h
          have hr' := hr
          obtain ⟨M, hH, hK, hT, hd⟩ := hr'
          have hval := hT.val g
          have hy : yielded ops a.tmps j = match a.tmps[g]? with | some (.bool b) => some b | _ => none := by
            unfold yielded
            rw [hj]
            rfl
          have hgs : a.tmps[g]? = some (a.tmps.getD g undef) := by
            have : g < a.tmps.size := by rw [hT.size]; exact hgN
            simp [this]
          rw [hgs] at hy
          split at h
          · rename_i b hb
            rw [hb] at hval
            simp only [VR] at hval
            rw [hval] at hy
            simp only at hy
            by_cases hbw : b = wt
            · rw [if_pos (by simp [Region.wanted, hg, hy, hbw])]
              exact .inl (run _ ⟨M, hH, hK, hT.know g (by rw [hval, hbw]; simp [VR]), hd⟩ (h.1 hbw))
            · rw [if_neg (by simp [Region.wanted, hg, hy, hbw])]
              have hb2 : b = !wt := by cases b <;> cases wt <;> simp_all
              exact skip _ ⟨M, hH, hK, hT.know g (by rw [hval, hb2]; simp [VR]), hd⟩ (h.2 hb2)
          · rename_i hb
            rw [hb] at hval
            simp only [VR, VRs] at hval
            obtain ⟨us, e1, e2⟩ := hval
            rw [e1, e2] at hy
            simp only at hy
            rw [if_neg (by simp [Region.wanted, hg, hy])]
            exact skip T hr h
          · exact h.elim

end Go.Proofs.Ytlohehkagaabfaa.Ah
