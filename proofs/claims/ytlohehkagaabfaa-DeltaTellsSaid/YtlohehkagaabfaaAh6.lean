/- Ah6: a part of the proof: steps over abstract values, or contracts of functions. Conditions: none. -/
import Derived.Test.YtlohehkagaabfaaAh5
namespace Go.Proofs.Ytlohehkagaabfaa.Ah
open Go
set_option linter.unusedVariables false

/-! ### One end alone -/

theorem aops_det {P : Program} {K : Env → Heap → Prop} : ∀ (os : List SOper) (T : Env) (H : Heap), aops P os T H K → ∃ T' H', K T' H' ∧ ∀ K' : Env → Heap → Prop, K' T' H' → aops P os T H K'
  | [], T, H, h => ⟨T, H, h, fun _ h => h⟩
  | o :: os, T, H, h => by
    unfold aops at h
    cases hg : o.guard with
    | none =>
      rw [hg] at h
      simp only at h
      obtain ⟨v, H1, h1, h2⟩ := R.det _ h
      obtain ⟨T', H', h3, h4⟩ := aops_det os _ _ h1
      refine ⟨T', H', h3, fun K' hk => ?_⟩
      unfold aops
      rw [hg]
      exact h2 _ (h4 K' hk)
    | some p =>
      obtain ⟨g, want⟩ := p
      rw [hg] at h
      simp only at h
      split at h
      · rename_i b hb
        by_cases hbw : b = want
        · obtain ⟨v, H1, h1, h2⟩ := R.det _ (h.1 hbw)
          obtain ⟨T', H', h3, h4⟩ := aops_det os _ _ h1
          refine ⟨T', H', h3, fun K' hk => ?_⟩
          unfold aops
          rw [hg]
          simp only [hb]
          exact ⟨fun _ => h2 _ (h4 K' hk), fun e => by rw [hbw] at e; cases want <;> cases e⟩
        · have hb2 : b = !want := by cases b <;> cases want <;> simp_all
          obtain ⟨T', H', h3, h4⟩ := aops_det os _ _ (h.2 hb2)
          refine ⟨T', H', h3, fun K' hk => ?_⟩
          unfold aops
          rw [hg]
          simp only [hb]
          exact ⟨fun e => absurd e hbw, fun _ => h4 K' hk⟩
      · rename_i hb
        obtain ⟨T', H', h3, h4⟩ := aops_det os _ _ h
        refine ⟨T', H', h3, fun K' hk => ?_⟩
        unfold aops
        rw [hg]
        simp only [hb]
        exact h4 K' hk
      · exact h.elim

theorem adraw_det {P : Program} {K : Env → Heap → Prop} (os : List DOp) (T : Env) (H : Heap) (h : adraw P os T H K) : ∃ T' H', K T' H' ∧ ∀ K' : Env → Heap → Prop, K' T' H' → adraw P os T H K' := by
  obtain ⟨Ts, Hs, Vs, _, _, _, Tf, _, h5, h6⟩ := adraw_trace os T H h
  exact ⟨Tf, _, h5, h6⟩

theorem ac_det {P : Program} : ∀ (s : SC) (T : Env) (H : Heap) (Q : Post), ac P s T H Q → ∃ e T' H', Q e T' H' ∧ ∀ Q' : Post, Q' e T' H' → ac P s T H Q' := by
  intro s
  induction s with
  | skip => exact fun T H Q h => ⟨_, T, H, h, fun _ h => h⟩
  | reg ops => intro T H Q h; obtain ⟨T', H', h1, h2⟩ := aops_det ops T H h; exact ⟨_, T', H', h1, fun Q' hq => h2 _ hq⟩
  | dreg ops => intro T H Q h; obtain ⟨T', H', h1, h2⟩ := adraw_det ops T H h; exact ⟨_, T', H', h1, fun Q' hq => h2 _ hq⟩
  | seq a b iha ihb =>
    intro T H Q h
    simp only [ac] at h
    obtain ⟨e, T1, H1, h1, h2⟩ := iha T H _ h
    cases e with
    | normal =>
      obtain ⟨e', T2, H2, h3, h4⟩ := ihb T1 H1 Q h1
      exact ⟨e', T2, H2, h3, fun Q' hq => by simp only [ac]; exact h2 _ (h4 Q' hq)⟩
    | exit id => exact ⟨_, T1, H1, h1, fun Q' hq => by simp only [ac]; exact h2 _ hq⟩
    | ret => exact ⟨_, T1, H1, h1, fun Q' hq => by simp only [ac]; exact h2 _ hq⟩
  | cond c a b iha ihb =>
    intro T H Q h
    simp only [ac] at h
    obtain ⟨t, ht, h⟩ := isB_out h
    cases t
    · obtain ⟨e, T1, H1, h1, h2⟩ := ihb T H Q (h.2 rfl)
      exact ⟨e, T1, H1, h1, fun Q' hq => by simp only [ac, ht, isB]; exact ⟨(fun e => by cases e), fun _ => h2 Q' hq⟩⟩
    · obtain ⟨e, T1, H1, h1, h2⟩ := iha T H Q (h.1 rfl)
      exact ⟨e, T1, H1, h1, fun Q' hq => by simp only [ac, ht, isB]; exact ⟨fun _ => h2 Q' hq, (fun e => by cases e)⟩⟩
  | block id b ih =>
    intro T H Q h
    simp only [ac] at h
    obtain ⟨e, T1, H1, h1, h2⟩ := ih T H _ h
    cases e with
    | normal => exact ⟨_, T1, H1, h1, fun Q' hq => by simp only [ac]; exact h2 _ hq⟩
    | exit i =>
      simp only [Post.block] at h1
      by_cases hi : i = id
      · rw [if_pos hi] at h1
        exact ⟨_, T1, H1, h1, fun Q' hq => by simp only [ac]; refine h2 _ ?_; simp only [Post.block]; rw [if_pos hi]; exact hq⟩
      · rw [if_neg hi] at h1
        exact ⟨_, T1, H1, h1, fun Q' hq => by simp only [ac]; refine h2 _ ?_; simp only [Post.block]; rw [if_neg hi]; exact hq⟩
    | ret => exact ⟨_, T1, H1, h1, fun Q' hq => by simp only [ac]; exact h2 _ hq⟩
  | loop b ih =>
    intro T H Q h
    simp only [ac] at h
    obtain ⟨n, h⟩ := h
    have key : ∀ n T H, rounds (ac P b) Q n T H → ∃ e T' H', Q e T' H' ∧ ∀ Q' : Post, Q' e T' H' → rounds (ac P b) Q' n T H := by
      intro n
      induction n with
      | zero => intro T H h; exact h.elim
      | succ n ihn =>
        intro T H h
        obtain ⟨e, T1, H1, h1, h2⟩ := ih T H _ h
        cases e with
        | normal =>
          obtain ⟨e', T2, H2, h3, h4⟩ := ihn T1 H1 h1
          exact ⟨e', T2, H2, h3, fun Q' hq => h2 _ (h4 Q' hq)⟩
        | exit id => exact ⟨_, T1, H1, h1, fun Q' hq => h2 _ hq⟩
        | ret => exact ⟨_, T1, H1, h1, fun Q' hq => h2 _ hq⟩
    obtain ⟨e, T', H', h1, h2⟩ := key n T H h
    exact ⟨e, T', H', h1, fun Q' hq => ⟨n, h2 Q' hq⟩⟩
  | exit id => exact fun T H Q h => ⟨_, T, H, h, fun _ h => h⟩
  | ret => exact fun T H Q h => ⟨_, T, H, h, fun _ h => h⟩
  | kl l b ih => intro T H Q h; obtain ⟨e, T1, H1, h1, h2⟩ := ih _ H Q h; exact ⟨e, T1, H1, h1, fun Q' hq => h2 Q' hq⟩

theorem ac_mono {P : Program} {s : SC} {T : Env} {H : Heap} {Q Q' : Post} (h : ac P s T H Q) (hq : ∀ e T H, Q e T H → Q' e T H) : ac P s T H Q' := by
  obtain ⟨e, T', H', h1, h2⟩ := ac_det s T H Q h
  exact h2 Q' (hq _ _ _ h1)

/-! ### What is still to be done, as a list: no function stands in the terms -/

inductive Fr where
  | code (s : SC)
  | blk (id : Nat)
  | lp (s : SC)

mutual
/-- The rest is done, from a state on. -/
def acs (P : Program) : List Fr → Env → Heap → Post → Prop
  | [], T, H, Q => Q .normal T H
  | .code s :: k, T, H, Q => ac P s T H (fun e T H => match e with
    | .normal => acs P k T H Q
    | .exit id => leave P id k T H Q
    | .ret => Q .ret T H)
  | .blk _ :: k, T, H, Q => acs P k T H Q
  | .lp s :: k, T, H, Q => ∃ n, rounds (ac P s) (fun e T H => match e with
    | .normal => False
    | .exit id => leave P id k T H Q
    | .ret => Q .ret T H) n T H
def leave (P : Program) (id : Nat) : List Fr → Env → Heap → Post → Prop
  | [], T, H, Q => Q (.exit id) T H
  | .code _ :: k, T, H, Q => leave P id k T H Q
  | .blk i :: k, T, H, Q => if i = id then acs P k T H Q else leave P id k T H Q
  | .lp _ :: k, T, H, Q => leave P id k T H Q
end

def aopsK (P : Program) (os : List SOper) (k : List Fr) (T : Env) (H : Heap) (Q : Post) : Prop := aops P os T H fun T H => acs P k T H Q
def drawK (P : Program) (os : List DOp) (k : List Fr) (T : Env) (H : Heap) (Q : Post) : Prop := adraw P os T H fun T H => acs P k T H Q
def condK (P : Program) (v : AV) (a b : SC) (k : List Fr) (T : Env) (H : Heap) (Q : Post) : Prop := isB v fun t => (t = true → acs P (.code a :: k) T H Q) ∧ (t = false → acs P (.code b :: k) T H Q)
def bindR (P : Program) (r : R) (os : List SOper) (d : Option Nat) (k : List Fr) (T : Env) (Q : Post) : Prop := r.sat P fun v H => aopsK P os k (T.put d v) H Q
/-- A call, and what comes behind it. -/
def callB (P : Program) (f : FuncId) (vs : List AV) (H : Heap) (os : List SOper) (d : Option Nat) (k : List Fr) (T : Env) (Q : Post) : Prop := callK P f vs H fun v H => aopsK P os k (T.put d v) H Q
/-- An operation under a guard. -/
def guardK (P : Program) (v : AV) (g : Nat) (want : Bool) (o : SOper) (os : List SOper) (k : List Fr) (T : Env) (H : Heap) (Q : Post) : Prop :=
  match v with
  | .bool b => (b = want → bindR P (sor P o.op ((T.put (some g) (.bool want)).evals o.args) H) os o.dst k ((T.put (some g) (.bool want)).dels o.kill) Q) ∧
      (b = !want → aopsK P os k (((T.put (some g) (.bool (!want))).dels o.kill).put o.dst (.tup [])) H Q)
  | .tup [] => aopsK P os k ((T.dels o.kill).put o.dst (.tup [])) H Q
  | _ => False

/-! The same for a region that draws its order. -/
def bindD (P : Program) (r : R) (os : List DOp) (d : Option Nat) (k : List Fr) (T : Env) (Q : Post) : Prop := r.sat P fun v H => drawK P os k (T.put d v) H Q
def bindX (P : Program) (r : R) (H0 : Heap) (os : List DOp) (d : Option Nat) (k : List Fr) (T : Env) (Q : Post) : Prop := r.sat P fun v H => (∃ G, H = H0 ++ G) ∧ drawK P os k (T.put d v) H Q
def callD (P : Program) (f : FuncId) (vs : List AV) (H : Heap) (os : List DOp) (d : Option Nat) (k : List Fr) (T : Env) (Q : Post) : Prop := callK P f vs H fun v H => drawK P os k (T.put d v) H Q
def callX (P : Program) (f : FuncId) (vs : List AV) (H H0 : Heap) (os : List DOp) (d : Option Nat) (k : List Fr) (T : Env) (Q : Post) : Prop := callK P f vs H fun v H => (∃ G, H = H0 ++ G) ∧ drawK P os k (T.put d v) H Q
def guardD (P : Program) (v : AV) (g : Nat) (want : Bool) (e : DOp) (os : List DOp) (k : List Fr) (T : Env) (H : Heap) (Q : Post) : Prop :=
  match v with
  | .bool b => (b = want → drawK P (e :: os) k (T.put (some g) (.bool want)) H Q) ∧
      (b = !want → drawK P os k (((T.put (some g) (.bool (!want))).dels e.o.kill).put e.o.dst (.tup [])) H Q)
  | .tup [] => drawK P os k ((T.dels e.o.kill).put e.o.dst (.tup [])) H Q
  | _ => False

section
variable {P : Program} {k : List Fr} {T : Env} {H : Heap} {Q : Post}

theorem acs_nil : acs P [] T H Q = Q .normal T H := by unfold acs; rfl
theorem acs_blk (id : Nat) : acs P (.blk id :: k) T H Q = acs P k T H Q := by conv => lhs; unfold acs
theorem acs_skip : acs P (.code .skip :: k) T H Q = acs P k T H Q := by conv => lhs; unfold acs; unfold ac
theorem acs_reg (ops : List SOper) : acs P (.code (.reg ops) :: k) T H Q = aopsK P ops k T H Q := by rw [acs, ac]; rfl
theorem acs_dreg (ops : List DOp) : acs P (.code (.dreg ops) :: k) T H Q = drawK P ops k T H Q := by rw [acs, ac]; rfl
theorem acs_seq (a b : SC) : acs P (.code (.seq a b) :: k) T H Q = acs P (.code a :: .code b :: k) T H Q := by
  rw [acs, acs, ac]
  congr 1
  funext e T' H'
  cases e with
  | normal => simp only [Post.seq]; rw [acs]
  | exit id => simp only [Post.seq]; rw [leave]
  | ret => rfl
theorem acs_cond (c : SO) (a b : SC) : acs P (.code (.cond c a b) :: k) T H Q = condK P (T.eval c) a b k T H Q := by
  rw [acs, ac]
  unfold condK
  rw [acs, acs]
theorem acs_block (id : Nat) (b : SC) : acs P (.code (.block id b) :: k) T H Q = acs P (.code b :: .blk id :: k) T H Q := by
  rw [acs, acs, ac]
  congr 1
  funext e T' H'
  cases e with
  | normal => simp only [Post.block]; rw [acs_blk]
  | exit i =>
    simp only [Post.block]
    rw [leave]
    by_cases h : i = id
    · subst h; simp
    · rw [if_neg h, if_neg (fun e => h e.symm)]
  | ret => rfl
theorem acs_exit (id : Nat) : acs P (.code (.exit id) :: k) T H Q = leave P id k T H Q := by rw [acs, ac]
theorem acs_ret : acs P (.code .ret :: k) T H Q = Q .ret T H := by rw [acs, ac]
theorem acs_kl (l : List Nat) (b : SC) : acs P (.code (.kl l b) :: k) T H Q = acs P (.code b :: k) (T.dels l) H Q := by rw [acs, ac, acs]
theorem leave_nil (id : Nat) : leave P id [] T H Q = Q (.exit id) T H := by rw [leave]
theorem leave_code (id : Nat) (s : SC) : leave P id (.code s :: k) T H Q = leave P id k T H Q := by rw [leave]
theorem leave_lp (id : Nat) (s : SC) : leave P id (.lp s :: k) T H Q = leave P id k T H Q := by rw [leave]
theorem leave_blk (id i : Nat) : leave P id (.blk i :: k) T H Q = if i = id then acs P k T H Q else leave P id k T H Q := by rw [leave]

theorem rounds_agree {f : Env → Heap → Post → Prop} {Q Q' : Post} (h : ∀ e T H, e ≠ .normal → Q e T H = Q' e T H) : ∀ n T H, rounds f Q n T H = rounds f Q' n T H
  | 0, _, _ => rfl
  | n + 1, T, H => by
    simp only [rounds]
    congr 1
    funext e T' H'
    cases e with
    | normal => simp only [Post.seq]; exact rounds_agree h n T' H'
    | exit id => simp only [Post.seq]; exact h _ _ _ (by simp)
    | ret => simp only [Post.seq]; exact h _ _ _ (by simp)

theorem acs_loop (b : SC) : acs P (.code (.loop b) :: k) T H Q = acs P (.lp b :: k) T H Q := by
  rw [acs, acs, ac]
  congr 1
  funext n
  exact rounds_agree (fun e T H he => by cases e <;> first | exact absurd rfl he | rfl) n T H

/-- A loop's next round. -/
theorem acs_lp (b : SC) : acs P (.lp b :: k) T H Q = acs P (.code b :: .lp b :: k) T H Q := by
  apply propext
  rw [acs, acs]
  constructor
  · rintro ⟨n, h⟩
    cases n with
    | zero => exact h.elim
    | succ n =>
      refine ac_mono h ?_
      intro e T' H' h'
      cases e with
      | normal => simp only [Post.seq] at h'; simp only; rw [acs]; exact ⟨n, h'⟩
      | exit id => simp only [Post.seq] at h'; simp only; rw [leave]; exact h'
      | ret => exact h'
  · intro h
    obtain ⟨e, T', H', h1, h2⟩ := ac_det _ _ _ _ h
    cases e with
    | normal =>
      simp only at h1
      rw [acs] at h1
      obtain ⟨n, h1⟩ := h1
      exact ⟨n + 1, h2 _ h1⟩
    | exit id =>
      simp only at h1
      rw [leave] at h1
      exact ⟨1, h2 _ h1⟩
    | ret => exact ⟨1, h2 _ h1⟩

theorem aopsK_nil : aopsK P [] k T H Q = acs P k T H Q := by unfold aopsK; rw [aops]
theorem aopsK_cons (d : Option Nat) (op : SOp) (args : List SO) (kill : List Nat) (os : List SOper) : aopsK P (⟨d, op, args, none, kill⟩ :: os) k T H Q = bindR P (sor P op (T.evals args) H) os d k (T.dels kill) Q := by
  unfold aopsK bindR aopsK
  rw [aops]
theorem aopsK_guard (d : Option Nat) (op : SOp) (args : List SO) (g : Nat) (want : Bool) (kill : List Nat) (os : List SOper) : aopsK P (⟨d, op, args, some (g, want), kill⟩ :: os) k T H Q = guardK P (T.get g) g want ⟨d, op, args, none, kill⟩ os k T H Q := by
  unfold aopsK guardK bindR aopsK
  rw [aops]
  rfl
theorem bindR_val (v : AV) (os : List SOper) (d : Option Nat) : bindR P (.val v H) os d k T Q = aopsK P os k (T.put d v) H Q := by unfold bindR; rw [R.sat]
theorem bindR_need (p : Prop) (r : R) (os : List SOper) (d : Option Nat) : bindR P (.need p r) os d k T Q = (p ∧ bindR P r os d k T Q) := by unfold bindR; rw [R.sat]
theorem bindR_br (c : Bool) (x y : R) (os : List SOper) (d : Option Nat) : bindR P (.br c x y) os d k T Q = ((c = true → bindR P x os d k T Q) ∧ (c = false → bindR P y os d k T Q)) := by unfold bindR; rw [R.sat]
theorem bindR_call (f : FuncId) (vs : List AV) (os : List SOper) (d : Option Nat) : bindR P (.call f vs H) os d k T Q = callB P f vs H os d k T Q := by unfold bindR; rw [R.sat]; rfl
theorem bindR_bad (os : List SOper) (d : Option Nat) : bindR P .bad os d k T Q = False := by unfold bindR; rw [R.sat]
theorem condK_bool (t : Bool) (a b : SC) : condK P (.bool t) a b k T H Q = ((t = true → acs P (.code a :: k) T H Q) ∧ (t = false → acs P (.code b :: k) T H Q)) := by unfold condK; rw [isB]
theorem guardK_bool (t : Bool) (g : Nat) (want : Bool) (d : Option Nat) (op : SOp) (args : List SO) (gd : Option (Nat × Bool)) (kill : List Nat) (os : List SOper) : guardK P (.bool t) g want ⟨d, op, args, gd, kill⟩ os k T H Q =
    ((t = want → bindR P (sor P op ((T.put (some g) (.bool want)).evals args) H) os d k ((T.put (some g) (.bool want)).dels kill) Q) ∧ (t = !want → aopsK P os k (((T.put (some g) (.bool (!want))).dels kill).put d (.tup [])) H Q)) := by unfold guardK; rfl
theorem guardK_tup (g : Nat) (want : Bool) (d : Option Nat) (op : SOp) (args : List SO) (gd : Option (Nat × Bool)) (kill : List Nat) (os : List SOper) : guardK P (.tup []) g want ⟨d, op, args, gd, kill⟩ os k T H Q = aopsK P os k ((T.dels kill).put d (.tup [])) H Q := by unfold guardK; rfl

theorem drawK_nil : drawK P [] k T H Q = acs P k T H Q := by unfold drawK; rw [adraw]
theorem drawK_cons (i n : Nat) (d : Option Nat) (op : SOp) (args : List SO) (kill : List Nat) (os : List DOp) : drawK P (⟨i, n, false, false, ⟨d, op, args, none, kill⟩⟩ :: os) k T H Q = bindD P (sor P op (T.evals args) H) os d k (T.dels kill) Q := by
  unfold drawK bindD drawK
  rw [adraw]
  simp
theorem drawK_ext (i n : Nat) (d : Option Nat) (op : SOp) (args : List SO) (kill : List Nat) (os : List DOp) : drawK P (⟨i, n, true, false, ⟨d, op, args, none, kill⟩⟩ :: os) k T H Q = bindX P (sor P op (T.evals args) H) H os d k (T.dels kill) Q := by
  unfold drawK bindX drawK
  rw [adraw]
  simp
theorem drawK_guard (i n : Nat) (x y : Bool) (d : Option Nat) (op : SOp) (args : List SO) (g : Nat) (want : Bool) (kill : List Nat) (os : List DOp) : drawK P (⟨i, n, x, y, ⟨d, op, args, some (g, want), kill⟩⟩ :: os) k T H Q = guardD P (T.get g) g want ⟨i, n, x, y, ⟨d, op, args, none, kill⟩⟩ os k T H Q := by
  unfold drawK guardD drawK
  rw [adraw]
  simp only
  cases hv : T.get g
  case bool b => simp only; rw [adraw]
  case tup l => cases l <;> rfl
  all_goals rfl
theorem bindD_val (v : AV) (os : List DOp) (d : Option Nat) : bindD P (.val v H) os d k T Q = drawK P os k (T.put d v) H Q := by unfold bindD; rw [R.sat]
theorem bindD_need (p : Prop) (r : R) (os : List DOp) (d : Option Nat) : bindD P (.need p r) os d k T Q = (p ∧ bindD P r os d k T Q) := by unfold bindD; rw [R.sat]
theorem bindD_br (c : Bool) (x y : R) (os : List DOp) (d : Option Nat) : bindD P (.br c x y) os d k T Q = ((c = true → bindD P x os d k T Q) ∧ (c = false → bindD P y os d k T Q)) := by unfold bindD; rw [R.sat]
theorem bindD_call (f : FuncId) (vs : List AV) (os : List DOp) (d : Option Nat) : bindD P (.call f vs H) os d k T Q = callD P f vs H os d k T Q := by unfold bindD; rw [R.sat]; rfl
theorem bindD_bad (os : List DOp) (d : Option Nat) : bindD P .bad os d k T Q = False := by unfold bindD; rw [R.sat]
theorem bindX_val (v : AV) (H0 : Heap) (os : List DOp) (d : Option Nat) : bindX P (.val v H) H0 os d k T Q = ((∃ G, H = H0 ++ G) ∧ drawK P os k (T.put d v) H Q) := by unfold bindX; rw [R.sat]
theorem bindX_need (p : Prop) (r : R) (H0 : Heap) (os : List DOp) (d : Option Nat) : bindX P (.need p r) H0 os d k T Q = (p ∧ bindX P r H0 os d k T Q) := by unfold bindX; rw [R.sat]
theorem bindX_br (c : Bool) (x y : R) (H0 : Heap) (os : List DOp) (d : Option Nat) : bindX P (.br c x y) H0 os d k T Q = ((c = true → bindX P x H0 os d k T Q) ∧ (c = false → bindX P y H0 os d k T Q)) := by unfold bindX; rw [R.sat]
theorem bindX_call (f : FuncId) (vs : List AV) (H0 : Heap) (os : List DOp) (d : Option Nat) : bindX P (.call f vs H) H0 os d k T Q = callX P f vs H H0 os d k T Q := by unfold bindX; rw [R.sat]; rfl
theorem guardD_bool (t : Bool) (g : Nat) (want : Bool) (i n : Nat) (x y : Bool) (d : Option Nat) (op : SOp) (args : List SO) (gd : Option (Nat × Bool)) (kill : List Nat) (os : List DOp) : guardD P (.bool t) g want ⟨i, n, x, y, ⟨d, op, args, gd, kill⟩⟩ os k T H Q =
    ((t = want → drawK P (⟨i, n, x, y, ⟨d, op, args, gd, kill⟩⟩ :: os) k (T.put (some g) (.bool want)) H Q) ∧ (t = !want → drawK P os k (((T.put (some g) (.bool (!want))).dels kill).put d (.tup [])) H Q)) := by unfold guardD; rfl
theorem guardD_tup (g : Nat) (want : Bool) (i n : Nat) (x y : Bool) (d : Option Nat) (op : SOp) (args : List SO) (gd : Option (Nat × Bool)) (kill : List Nat) (os : List DOp) : guardD P (.tup []) g want ⟨i, n, x, y, ⟨d, op, args, gd, kill⟩⟩ os k T H Q = drawK P os k ((T.dels kill).put d (.tup [])) H Q := by unfold guardD; rfl
/-- A call that leaves the heap as it is, however much there is. -/
def callP (P : Program) (f : FuncId) (vs : List AV) (H : Heap) (os : List DOp) (d : Option Nat) (k : List Fr) (T : Env) (Q : Post) : Prop := ∃ v, (∀ G, ACall P f vs (H ++ G) v (H ++ G)) ∧ drawK P os k (T.put d v) H Q
theorem drawK_pur (i n : Nat) (x : Bool) (d : Option Nat) (f : Nat) (args : List SO) (kill : List Nat) (os : List DOp) : drawK P (⟨i, n, x, true, ⟨d, .call f, args, none, kill⟩⟩ :: os) k T H Q = callP P f (T.evals args) H os d k (T.dels kill) Q := by
  apply propext
  constructor
  · intro h
    unfold drawK at h
    rw [adraw] at h
    simp only [sor, call_sat] at h
    obtain ⟨v, H', hA, ⟨_, hp⟩, hk⟩ := h
    obtain ⟨rfl, hpur⟩ := hp trivial
    refine ⟨v, fun G => ?_, hk⟩
    have h2 := hpur G (fun v' H2 => v' = v ∧ H2 = H' ++ G) ⟨rfl, rfl⟩
    simp only [sor, call_sat] at h2
    obtain ⟨v', H2, hA2, rfl, rfl⟩ := h2
    exact hA2
  · rintro ⟨v, h1, h2⟩
    unfold drawK
    rw [adraw]
    simp only [sor, call_sat]
    refine ⟨v, H, by simpa using h1 [], ⟨fun _ => ⟨[], by simp⟩, fun _ => ⟨rfl, fun G K hk => ?_⟩⟩, h2⟩
    simp only [sor, call_sat]
    exact ⟨v, _, h1 G, hk⟩
theorem callP_intro {f : FuncId} {vs : List AV} {os : List DOp} {d : Option Nat} {v : AV} (h : ∀ G, ACall P f vs (H ++ G) v (H ++ G)) (hk : drawK P os k (T.put d v) H Q) : callP P f vs H os d k T Q := ⟨v, h, hk⟩
theorem grows (G : Heap) : (∃ G', H ++ G = H ++ G') = True := by simp
theorem grows0 : (∃ G', H = H ++ G') = True := by simp
theorem callD_intro {f : FuncId} {vs : List AV} {os : List DOp} {d : Option Nat} {v : AV} {H' : Heap} (h : ACall P f vs H v H') (hk : drawK P os k (T.put d v) H' Q) : callD P f vs H os d k T Q := ⟨v, H', h, hk⟩
theorem callX_intro {f : FuncId} {vs : List AV} {os : List DOp} {d : Option Nat} {v : AV} {G : Heap} (h : ACall P f vs H v (H ++ G)) (hk : drawK P os k (T.put d v) (H ++ G) Q) : callX P f vs H H os d k T Q := ⟨v, _, h, ⟨G, rfl⟩, hk⟩
theorem callX_pure {f : FuncId} {vs : List AV} {os : List DOp} {d : Option Nat} {v : AV} (h : ACall P f vs H v H) (hk : drawK P os k (T.put d v) H Q) : callX P f vs H H os d k T Q := ⟨v, _, h, ⟨[], by simp⟩, hk⟩
theorem callB_intro {f : FuncId} {vs : List AV} {os : List SOper} {d : Option Nat} {v : AV} {H' : Heap} (h : ACall P f vs H v H') (hk : aopsK P os k (T.put d v) H' Q) : callB P f vs H os d k T Q := ⟨v, H', h, hk⟩

theorem acs_start {s : SC} (h : acs P [.code s] T H Q) : ac P s T H Q := by
  rw [acs] at h
  refine ac_mono h ?_
  intro e T' H' h'
  cases e with
  | normal => simp only at h'; rw [acs] at h'; exact h'
  | exit id => simp only at h'; rw [leave] at h'; exact h'
  | ret => exact h'
end
end Go.Proofs.Ytlohehkagaabfaa.Ah
