/- Ve: a part of the proof: contracts of functions, or plain laws. Conditions: none. -/
import Derived.Test.YtaiboicipbhmhaaVc
import Derived.Test.YtaiboicipbhmhaaVd
namespace Go.Proofs.Ytaiboicipbhmhaa.Ah
open Go Go.WideShapes
attribute [local irreducible] acs aopsK drawK leave condK bindR bindD bindX guardK guardD callB callD callX callP callPv rfunG rfunK yldB yldD
attribute [local go_sem] Nat.reduceEqDiff Nat.reduceLT Nat.reduceAdd Nat.reduceSub Nat.reduceMul Nat.reduceBEq Int.reduceLT Int.reduceAdd Int.reduceMul Int.reduceSub Int.reduceToNat Int.reduceLE Int.reduceEq Int.reduceNeg Nat.reduceLeDiff
attribute [local go_sem] mop mget mfind mput mres keyed AV.isAgg beq_self_eq_true Bool.true_and Option.isSome_some List.set_cons_zero acs_nil acs_blk acs_skip acs_reg acs_dreg acs_freg acs_nam0 acs_nam nones acs_seq acs_cond acs_block acs_exit acs_ret acs_kl acs_loop leave_nil leave_code leave_lp leave_blk aopsK_nil aopsK_cons aopsK_guard bindR_val bindR_need bindR_br bindR_call bindR_ycall acs_rfun rfunG_fn bindR_bad drawK_nil drawK_cons drawK_wat bindW_val bindW_need bindW_br WatL_nil WatL_cons isP_ptr drawK_ext drawK_pur drawK_guard callPv_fn drawK_purv bindD_val bindD_need bindD_br bindD_call bindD_ycall bindD_bad bindX_val bindX_need bindX_br bindX_call guardD_bool guardD_tup grows grows0 List.append_cancel_left_eq List.cons.injEq exists_eq' exists_eq condK_bool guardK_bool guardK_tup sor r0 r1 r2 r3 rC rB rI rP rA rT rS rF rSl rO rbin rcut run1 Env.evals Env.eval Env.get Env.put Env.ins Env.del Env.dels argEnv AV.full AV.cells AV.cell eqCells decide_true decide_false decide_eq_true_eq decide_eq_false_iff_not Bool.not_eq_true' Bool.not_eq_false' true_and and_true false_implies true_implies forall_const Bool.not_true Bool.not_false Bool.false_eq_true Bool.true_eq_false List.getElem?_cons_zero List.getElem?_cons_succ List.length_cons List.length_nil List.length_append List.all_cons List.all_nil Bool.and_true Bool.and_self implies_true List.append_assoc List.cons_append List.nil_append List.append_nil i64_in imin_eq imax_eq cast3 cast0 cast1 cast2 Option.map_none ite_self and_false false_and Option.isSome_some or_true true_or Int.sub_zero Int.mul_one Nat.sub_zero Nat.zero_le Int.cast_ofNat_Int Int.natCast_nonneg Int.toNat_natCast ne_eq not_false_eq_true not_true_eq_false strC blkAt_app blkAt_app0 blkAt_zero blkAt_succ List.set_cons_zero List.set_cons_succ set_app set_app0 Option.map_some Option.bind_some rd setCells lay rdS szOk rapp ownAt lenAt Option.any_some Option.getD_some List.drop_zero List.drop_succ_cons List.take_succ_cons List.take_zero List.drop_nil List.take_nil Nat.lt_irrefl Nat.zero_add Nat.add_zero Nat.mul_one Nat.one_mul Nat.add_assoc Option.some.injEq eq_self
set_option maxHeartbeats 8000000
set_option linter.unusedSimpArgs false
set_option linter.unusedVariables false
def lng (k : Int) : Int := if k = 1 then 3 else if k = 2 then 8 else if k = 3 then 8 else if k = 4 then 5 else if k = 5 then 18 else if k = 6 then 4 else if k = 7 then 1 else if k = 8 then 15 else 0
theorem lng_cases (k : Int) : k < 1 ∨ 8 < k ∨ k = 1 ∨ k = 2 ∨ k = 3 ∨ k = 4 ∨ k = 5 ∨ k = 6 ∨ k = 7 ∨ k = 8 := by omega
theorem lng_lo {k : Int} (h : k < 1) : lng k = 0 := by unfold lng; repeat (rw [if_neg (by omega)])
theorem lng_hi {k : Int} (h : 8 < k) : lng k = 0 := by unfold lng; repeat (rw [if_neg (by omega)])
theorem f86 (k : Int) (H : Heap) : ACall Try.prog 86 [.int .i64 k] H (.int .i64 (lng k)) H := by
  refine acall86 (by simp) (acs_start ?_)
  unfold c86
  rcases lng_cases k with h | h | rfl | rfl | rfl | rfl | rfl | rfl | rfl | rfl
  · rw [lng_lo h]
    simp (maxSteps:=1000000) (disch:=omega) only [go_sem, ↓reduceIte, reduceCtorEq, h]
    exact fin_same (by simp) _ (by first | exact (List.append_nil _).symm | rfl) (by simp (maxSteps:=1000000) (disch:=omega) only [resVal, resAll, resOne, rs86, Env.get, go_sem, ↓reduceIte, reduceCtorEq]) (by simp only [AV.und, AV.unds, and_self])
  · rw [lng_hi h]
    have h1 : ¬ k < 1 := by omega
    simp (maxSteps:=1000000) (disch:=omega) only [go_sem, ↓reduceIte, reduceCtorEq, h1, h]
    exact fin_same (by simp) _ (by first | exact (List.append_nil _).symm | rfl) (by simp (maxSteps:=1000000) (disch:=omega) only [resVal, resAll, resOne, rs86, Env.get, go_sem, ↓reduceIte, reduceCtorEq]) (by simp only [AV.und, AV.unds, and_self])
  · rw [show lng 1 = 3 by decide]
    simp (maxSteps:=1000000) (disch:=omega) only [go_sem, ↓reduceIte, reduceCtorEq]
    exact fin_same (by simp) _ (by first | exact (List.append_nil _).symm | rfl) (by simp (maxSteps:=1000000) (disch:=omega) only [resVal, resAll, resOne, rs86, Env.get, go_sem, ↓reduceIte, reduceCtorEq]) (by simp only [AV.und, AV.unds, and_self])
  · rw [show lng 2 = 8 by decide]
    simp (maxSteps:=1000000) (disch:=omega) only [go_sem, ↓reduceIte, reduceCtorEq]
    exact fin_same (by simp) _ (by first | exact (List.append_nil _).symm | rfl) (by simp (maxSteps:=1000000) (disch:=omega) only [resVal, resAll, resOne, rs86, Env.get, go_sem, ↓reduceIte, reduceCtorEq]) (by simp only [AV.und, AV.unds, and_self])
  · rw [show lng 3 = 8 by decide]
    simp (maxSteps:=1000000) (disch:=omega) only [go_sem, ↓reduceIte, reduceCtorEq]
    exact fin_same (by simp) _ (by first | exact (List.append_nil _).symm | rfl) (by simp (maxSteps:=1000000) (disch:=omega) only [resVal, resAll, resOne, rs86, Env.get, go_sem, ↓reduceIte, reduceCtorEq]) (by simp only [AV.und, AV.unds, and_self])
  · rw [show lng 4 = 5 by decide]
    simp (maxSteps:=1000000) (disch:=omega) only [go_sem, ↓reduceIte, reduceCtorEq]
    exact fin_same (by simp) _ (by first | exact (List.append_nil _).symm | rfl) (by simp (maxSteps:=1000000) (disch:=omega) only [resVal, resAll, resOne, rs86, Env.get, go_sem, ↓reduceIte, reduceCtorEq]) (by simp only [AV.und, AV.unds, and_self])
  · rw [show lng 5 = 18 by decide]
    simp (maxSteps:=1000000) (disch:=omega) only [go_sem, ↓reduceIte, reduceCtorEq]
    exact fin_same (by simp) _ (by first | exact (List.append_nil _).symm | rfl) (by simp (maxSteps:=1000000) (disch:=omega) only [resVal, resAll, resOne, rs86, Env.get, go_sem, ↓reduceIte, reduceCtorEq]) (by simp only [AV.und, AV.unds, and_self])
  · rw [show lng 6 = 4 by decide]
    simp (maxSteps:=1000000) (disch:=omega) only [go_sem, ↓reduceIte, reduceCtorEq]
    exact fin_same (by simp) _ (by first | exact (List.append_nil _).symm | rfl) (by simp (maxSteps:=1000000) (disch:=omega) only [resVal, resAll, resOne, rs86, Env.get, go_sem, ↓reduceIte, reduceCtorEq]) (by simp only [AV.und, AV.unds, and_self])
  · rw [show lng 7 = 1 by decide]
    simp (maxSteps:=1000000) (disch:=omega) only [go_sem, ↓reduceIte, reduceCtorEq]
    exact fin_same (by simp) _ (by first | exact (List.append_nil _).symm | rfl) (by simp (maxSteps:=1000000) (disch:=omega) only [resVal, resAll, resOne, rs86, Env.get, go_sem, ↓reduceIte, reduceCtorEq]) (by simp only [AV.und, AV.unds, and_self])
  · rw [show lng 8 = 15 by decide]
    simp (maxSteps:=1000000) (disch:=omega) only [go_sem, ↓reduceIte, reduceCtorEq]
    exact fin_same (by simp) _ (by first | exact (List.append_nil _).symm | rfl) (by simp (maxSteps:=1000000) (disch:=omega) only [resVal, resAll, resOne, rs86, Env.get, go_sem, ↓reduceIte, reduceCtorEq]) (by simp only [AV.und, AV.unds, and_self])
def rightF (k : Int) (n : Nat) : Bool := decide (0 < lng k ∧ (n : Int) = lng k)
theorem f61 {k : Int} {p off n : Nat} {c : Option Nat} {H : Heap} : ACall Try.prog 61 [.agg [.int .i64 k, .sl p off n 1 c]] H (.bool (rightF k n)) H := by
  refine acall61 (by simp) (acs_start ?_)
  have g := f86 k
  unfold rightF
  generalize lng k = m at *
  unfold c61
  by_cases h : 0 < m
  · simp (maxSteps:=1000000) (disch:=omega) only [go_sem, ↓reduceIte, reduceCtorEq]
    first | refine callB_intro (g _) ?_ | refine callD_intro (g _) ?_ | refine callP_intro (fun _ => (g _)) ?_ | refine callX_pure (g _) ?_
    simp (maxSteps:=1000000) (disch:=omega) only [go_sem, ↓reduceIte, reduceCtorEq, h]
    exact fin_b _ (by first | exact (List.append_nil _).symm | rfl) (by simp) (by simp (maxSteps:=1000000) (disch:=omega) only [resVal, resAll, resOne, rs61, Env.get, go_sem, ↓reduceIte, reduceCtorEq] <;> rfl) (by rw [Bool.eq_iff_iff]; (try simp only [decide_eq_true_eq, Bool.and_eq_true, Bool.or_eq_true, Bool.not_eq_true', decide_eq_false_iff_not, Bool.true_eq_false, Bool.false_eq_true, true_iff, iff_true, false_iff, iff_false, not_false_eq_true, not_true_eq_false]); first | done | omega | (simp; done) | (rw [Bool.eq_iff_iff]; (try simp only [decide_eq_true_eq, Bool.and_eq_true, Bool.or_eq_true, Bool.not_eq_true', decide_eq_false_iff_not, Bool.true_eq_false, Bool.false_eq_true, true_iff, iff_true, false_iff, iff_false, not_false_eq_true, not_true_eq_false]); omega) | (simp; omega))
  · simp (maxSteps:=1000000) (disch:=omega) only [go_sem, ↓reduceIte, reduceCtorEq]
    first | refine callB_intro (g _) ?_ | refine callD_intro (g _) ?_ | refine callP_intro (fun _ => (g _)) ?_ | refine callX_pure (g _) ?_
    simp (maxSteps:=1000000) (disch:=omega) only [go_sem, ↓reduceIte, reduceCtorEq, h]
    exact fin_b _ (by first | exact (List.append_nil _).symm | rfl) (by simp) (by simp (maxSteps:=1000000) (disch:=omega) only [resVal, resAll, resOne, rs61, Env.get, go_sem, ↓reduceIte, reduceCtorEq] <;> rfl) (by rw [Bool.eq_iff_iff]; (try simp only [decide_eq_true_eq, Bool.and_eq_true, Bool.or_eq_true, Bool.not_eq_true', decide_eq_false_iff_not, Bool.true_eq_false, Bool.false_eq_true, true_iff, iff_true, false_iff, iff_false, not_false_eq_true, not_true_eq_false]); first | done | omega | (simp; done) | (rw [Bool.eq_iff_iff]; (try simp only [decide_eq_true_eq, Bool.and_eq_true, Bool.or_eq_true, Bool.not_eq_true', decide_eq_false_iff_not, Bool.true_eq_false, Bool.false_eq_true, true_iff, iff_true, false_iff, iff_false, not_false_eq_true, not_true_eq_false]); omega) | (simp; omega))

instance decBQ (x : Int) : Decidable (BQ x) := by
  unfold BQ
  exact inferInstance
structure Tm where
  a : Int
  b : Int
  c : Int
  d : Int
  e : Int
  deriving DecidableEq
structure Vw where
  g : Int
  e : Int
  u : Int
  i : Int
  y : Int
  q : Int
  l : Int
  a : Int
  b : Int
  c : Int
  deriving DecidableEq
structure Ck where
  n : Int
  u : Int
  q : Int
  deriving DecidableEq
structure La where
  a : Int
  b : Int
  c : Int
  s : Int
  o : Bool
  deriving DecidableEq
def Tm.av (t : Tm) : List AV := [.int .i64 t.a, .int .i64 t.b, .int .i64 t.c, .int .i64 t.d, .int .i64 t.e]
def Vw.av (v : Vw) : List AV := [.int .i64 v.g, .int .i64 v.e, .int .i64 v.u, .int .i64 v.i, .int .i64 v.y, .int .i64 v.q, .int .i64 v.l, .int .i64 v.a, .int .i64 v.b, .int .i64 v.c]
def Vw.ws (v : Vw) : List Int := [v.g, v.e, v.u, v.i, v.y, v.q, v.l, v.a, v.b, v.c]
def Ck.av (c : Ck) : List AV := [.int .i64 c.n, .int .i64 c.u, .int .i64 c.q]
def La.av (l : La) : List AV := [.int .i64 l.a, .int .i64 l.b, .int .i64 l.c, .int .i64 l.s, .bool l.o]
def Tm.ok (t : Tm) : Bool := mayT t.a t.b t.c t.d t.e
def Ck.ok (c : Ck) : Bool := rightL c.n c.u c.q
def Vw.ok (v : Vw) : Bool := decide (0 ≤ v.g ∧ v.g ≤ 4611686018427387904 ∧ 0 ≤ v.e ∧ v.e ≤ 4611686018427387904 ∧ 0 ≤ v.i ∧ v.i ≤ 4611686018427387904 ∧ 0 ≤ v.q ∧ v.q ≤ 4611686018427387904 ∧ 0 ≤ v.l ∧ v.l ≤ 4611686018427387904 ∧ -1 ≤ v.u ∧ v.u ≤ 1 ∧ -1 ≤ v.y ∧ v.y ≤ 4611686018427387904 ∧ BQ v.a ∧ BQ v.b ∧ BQ v.c)
def frV : Vw := ⟨0, 0, -1, 0, -1, 0, 0, 0, 0, 0⟩
def viewP (l : List Int) : Vw :=
  match l with
  | [g, e, u, i, y, q, l, a, b, c] => if (Vw.mk g e u i y q l a b c).ok = true then ⟨g, e, u, i, y, q, l, a, b, c⟩ else frV
  | _ => frV
structure PSe where
  t : Tm
  n : Pu
  v : Vw
  c : Ck
  l : La
  deriving DecidableEq
def rightP (s : PSe) : Bool := s.t.ok && s.c.ok && s.v.ok && decide (s.l.a = s.v.a ∧ s.l.b = s.v.b ∧ s.l.c = s.v.c) && decide (0 ≤ s.l.s ∧ s.l.s ≤ 4611686018427387904) && (onP s.n && decide (lastP s.n < 2305843009213693952) && decide (rdP s.n = s.v.ws))
structure Hd where
  v : Vw
  c : Ck
  l : La
  ans : Option (List Int)
  took : Bool
  st : Bool
  deriving DecidableEq
def mst (v : Vw) (x y : Int) : Bool := decide (¬ v.u = -1 ∧ x = v.u ∧ y = v.i)
def stp2 (v : Vw) (x y : Int) : Bool := decide (¬ v.u = -1 ∧ ¬ v.y = -1 ∧ x = 1 - v.u ∧ y = v.y)
def ansP (v : Vw) (x y long nr : Int) : List Int := [x, y, v.g, v.e, long, v.q, v.y, nr]
def askV (h : Int) (v : Vw) (x y : Int) : Vw :=
  if h = 1 then v else if h = 2 then { v with e := v.e + 1, q := 0 } else if h = 3 then { v with e := v.e + 1, q := 0, u := x, i := y, y := -1 }
  else { v with e := v.e + 1, q := 0, u := x, i := y, y := -1, g := v.g + 1, l := 0 }
def num (x : Int) : Bool := decide (0 ≤ x ∧ x ≤ 4611686018427387904)
def askP (t : Tm) (v : Vw) (c : Ck) (l : La) (x y z : Int) : Option Hd :=
  if 0 ≤ x ∧ x ≤ 1 ∧ num y = true ∧ num z = true then
    if how t.c c.n c.u c.q (mst v x y) (stp2 v x y) = 0 ∨ (1 < how t.c c.n c.u c.q (mst v x y) (stp2 v x y) ∧ v.e = 4611686018427387904) ∨ (how t.c c.n c.u c.q (mst v x y) (stp2 v x y) = 4 ∧ v.g = 4611686018427387904) then none
    else some ⟨askV (how t.c c.n c.u c.q (mst v x y) (stp2 v x y)) v x y, ⟨c.n, c.n + t.a, c.q⟩, l, some (ansP (askV (how t.c c.n c.u c.q (mst v x y) (stp2 v x y)) v x y) x y t.a z), false, decide (1 < how t.c c.n c.u c.q (mst v x y) (stp2 v x y))⟩
  else none
def syncV (v : Vw) (q o : Int) : Vw := if v.q < q ∧ q ≤ 4611686018427387904 then { v with q := q, y := o } else v
def syncP (v : Vw) (c : Ck) (l : La) (x y e q o : Int) : Option Hd :=
  if mst v x y = true ∧ e = v.e ∧ -1 ≤ o ∧ o ≤ 4611686018427387904 then
    some ⟨syncV v q o, c, l, some (ansP (syncV v q o) x y (imax (c.u - c.n) 0) 0), false, decide (v.q < q ∧ q ≤ 4611686018427387904)⟩
  else none
def outP (t : Tm) (v : Vw) (c : Ck) (l : La) (x y g e k a b d : Int) : Option Hd :=
  if mst v x y = true ∧ g = v.g ∧ e = v.e ∧ v.l < k ∧ k ≤ 4611686018427387904 ∧ BQ a ∧ BQ b ∧ BQ d then
    some ⟨{ v with l := k, a := mv1 l.a a t.e, b := mv1 l.b b t.e, c := mv1 l.c d t.e }, c, ⟨mv1 l.a a t.e, mv1 l.b b t.e, mv1 l.c d t.e, c.n, false⟩, none, true, true⟩
  else none
def hearsP (t : Tm) (v : Vw) (c : Ck) (l : La) (k : Int) (n : List Int) : Option Hd :=
  match n with
  | [x, y, z] => if k = 1 then askP t v c l x y z else none
  | [x, y, e, q, o] => if k = 4 then syncP v c l x y e q o else none
  | [x, y, g, e, m, a, b, d] => if k = 3 then outP t v c l x y g e m a b d else none
  | _ => none
def hearP (s : PSe) (k : Int) (n : List Int) : PSe × Option (List Int) × Bool :=
  match hearsP s.t s.v s.c s.l k n with
  | none => (s, none, false)
  | some h => (⟨s.t, if h.st = true then tornP s.n h.v.ws 13 else s.n, h.v, h.c, h.l⟩, h.ans, h.took)
def resetP (s : PSe) : PSe := ⟨s.t, s.n, viewP (rdP s.n), ⟨0, 0, s.t.b⟩, ⟨(viewP (rdP s.n)).a, (viewP (rdP s.n)).b, (viewP (rdP s.n)).c, 0, false⟩⟩
def diesP (s : PSe) (k : Int) (n : List Int) (d : Int) : PSe :=
  match hearsP s.t s.v s.c s.l k n with
  | none => resetP s
  | some h => if h.st = true then resetP { s with n := tornP s.n h.v.ws d } else resetP s
structure Se where
  t : Tm
  n : Stt
  v : Vw
  c : Ck
  l : La
def Se.pl (s : Se) : PSe := ⟨s.t, s.n.pu, s.v, s.c, s.l⟩
def Se.av (s : Se) : List AV := [.int .i64 s.t.a, .int .i64 s.t.b, .int .i64 s.t.c, .int .i64 s.t.d, .int .i64 s.t.e,
  .sl s.n.p0 s.n.o0 s.n.ws.length 1 s.n.k0, .int .i64 s.n.c0, .sl s.n.p1 s.n.o1 s.n.vs.length 1 s.n.k1, .int .i64 s.n.c1,
  .int .i64 s.v.g, .int .i64 s.v.e, .int .i64 s.v.u, .int .i64 s.v.i, .int .i64 s.v.y, .int .i64 s.v.q, .int .i64 s.v.l, .int .i64 s.v.a, .int .i64 s.v.b, .int .i64 s.v.c,
  .int .i64 s.c.n, .int .i64 s.c.u, .int .i64 s.c.q, .int .i64 s.l.a, .int .i64 s.l.b, .int .i64 s.l.c, .int .i64 s.l.s, .bool s.l.o]
theorem Se.len (s : Se) : s.av.length = 27 := rfl
theorem Se.all (s : Se) : s.av.all AV.cell = true := rfl
theorem Se.take (s : Se) : List.take 27 s.av = s.av := rfl

theorem torn_full {q : Pu} {us : List Int} {d : Int} (hu : us.length ≤ 600) (h1 : lastP q ≠ 4611686018427387904) (hd : (us.length : Int) + 3 ≤ d) :
    rdP (tornP q us d) = us ∧ onP (tornP q us d) = true ∧ lastP (tornP q us d) = lastP q + 1 := by
  obtain ⟨⟨ws, c0⟩, vs, c1⟩ := q
  have es : ∀ o w, slotP o w us d = (w :: us, com (w :: us)) := fun o w => by unfold slotP; rw [if_pos hd]
  have hb : ¬ (600 < us.length ∨ lastP ((ws, c0), (vs, c1)) = 4611686018427387904) := by omega
  unfold tornP
  rw [if_neg hb]
  rcases nw_cases ws c0 vs c1 with ⟨hw, a, b⟩ | ⟨hw, a, b⟩ | ⟨hw, a, b⟩
  · have e1 : nwP ((ws, c0), (vs, c1)) = -1 := hw
    have e2 : lastP ((ws, c0), (vs, c1)) = 0 := by simp [lastP, e1]
    rw [e1, if_neg (by omega), es, e2, Int.zero_add]
    have e3 : nwP (((1 : Int) :: us, com ((1 : Int) :: us)), (vs, c1)) = 0 := nw_0 (wh_new (by decide)) (.inl b)
    exact ⟨by simp [rdP, e3], by simp [onP, e3], by simp [lastP, e3, hd0]⟩
  · have e1 : nwP ((ws, c0), (vs, c1)) = 0 := hw
    have e2 : lastP ((ws, c0), (vs, c1)) = hd0 ws := by simp [lastP, e1]
    have hh := wh_hd a
    rw [e2] at h1
    rw [if_pos e1, es, e2]
    have e3 : nwP ((ws, c0), ((hd0 ws + 1) :: us, com ((hd0 ws + 1) :: us))) = 1 := nw_1 (wh_new ⟨by omega, by omega⟩) (.inr (by show hd0 ws < hd0 ws + 1; omega))
    exact ⟨by simp [rdP, e3], by simp [onP, e3], by simp [lastP, e3]; rfl⟩
  · have e1 : nwP ((ws, c0), (vs, c1)) = 1 := hw
    have e2 : lastP ((ws, c0), (vs, c1)) = hd0 vs := by simp [lastP, e1]
    have hh := wh_hd a
    rw [e2] at h1
    rw [e1, if_neg (by omega), es, e2]
    have e3 : nwP (((hd0 vs + 1) :: us, com ((hd0 vs + 1) :: us)), (vs, c1)) = 0 := nw_0 (wh_new ⟨by omega, by omega⟩) (.inr (by show hd0 vs ≤ hd0 vs + 1; omega))
    exact ⟨by simp [rdP, e3], by simp [onP, e3], by simp [lastP, e3]; rfl⟩
theorem torn_part {q : Pu} {us : List Int} {d : Int} (hd : ¬ (us.length : Int) + 3 ≤ d) :
    rdP (tornP q us d) = rdP q ∧ onP (tornP q us d) = onP q ∧ lastP (tornP q us d) = lastP q := by
  obtain ⟨⟨ws, c0⟩, vs, c1⟩ := q
  have es : ∀ o w, (∃ x, slotP o w us d = (x, 0)) ∨ slotP o w us d = o := fun o w => by
    unfold slotP
    rw [if_neg hd]
    split
    · exact .inl ⟨_, rfl⟩
    · split
      · exact .inl ⟨_, rfl⟩
      · exact .inr rfl
  unfold tornP
  split
  · exact ⟨rfl, rfl, rfl⟩
  rcases nw_cases ws c0 vs c1 with ⟨hw, a, b⟩ | ⟨hw, a, b⟩ | ⟨hw, a, b⟩
  · have e1 : nwP ((ws, c0), (vs, c1)) = -1 := hw
    rw [if_neg (by omega)]
    rcases es (ws, c0) (lastP ((ws, c0), (vs, c1)) + 1) with ⟨x, e⟩ | e
    · show rdP (slotP (ws, c0) _ us d, (vs, c1)) = _ ∧ onP (slotP (ws, c0) _ us d, (vs, c1)) = _ ∧ lastP (slotP (ws, c0) _ us d, (vs, c1)) = _
      rw [e]
      have e3 : nwP ((x, 0), (vs, c1)) = -1 := nw_f (wh_zero _) b
      exact ⟨by simp [rdP, e3, e1], by simp [onP, e3, e1], by simp [lastP, e3, e1]⟩
    · show rdP (slotP (ws, c0) _ us d, (vs, c1)) = _ ∧ onP (slotP (ws, c0) _ us d, (vs, c1)) = _ ∧ lastP (slotP (ws, c0) _ us d, (vs, c1)) = _
      rw [e]
      exact ⟨rfl, rfl, rfl⟩
  · have e1 : nwP ((ws, c0), (vs, c1)) = 0 := hw
    rw [if_pos e1]
    rcases es (vs, c1) (lastP ((ws, c0), (vs, c1)) + 1) with ⟨x, e⟩ | e
    · show rdP ((ws, c0), slotP (vs, c1) _ us d) = _ ∧ onP ((ws, c0), slotP (vs, c1) _ us d) = _ ∧ lastP ((ws, c0), slotP (vs, c1) _ us d) = _
      rw [e]
      have e3 : nwP ((ws, c0), (x, 0)) = 0 := nw_0 a (.inl (wh_zero _))
      exact ⟨by simp [rdP, e3, e1], by simp [onP, e3, e1], by simp [lastP, e3, e1]⟩
    · show rdP ((ws, c0), slotP (vs, c1) _ us d) = _ ∧ onP ((ws, c0), slotP (vs, c1) _ us d) = _ ∧ lastP ((ws, c0), slotP (vs, c1) _ us d) = _
      rw [e]
      exact ⟨rfl, rfl, rfl⟩
  · have e1 : nwP ((ws, c0), (vs, c1)) = 1 := hw
    rw [if_neg (by omega)]
    rcases es (ws, c0) (lastP ((ws, c0), (vs, c1)) + 1) with ⟨x, e⟩ | e
    · show rdP (slotP (ws, c0) _ us d, (vs, c1)) = _ ∧ onP (slotP (ws, c0) _ us d, (vs, c1)) = _ ∧ lastP (slotP (ws, c0) _ us d, (vs, c1)) = _
      rw [e]
      have e3 : nwP ((x, 0), (vs, c1)) = 1 := nw_1 a (.inl (wh_zero _))
      exact ⟨by simp [rdP, e3, e1], by simp [onP, e3, e1], by simp [lastP, e3, e1]⟩
    · show rdP (slotP (ws, c0) _ us d, (vs, c1)) = _ ∧ onP (slotP (ws, c0) _ us d, (vs, c1)) = _ ∧ lastP (slotP (ws, c0) _ us d, (vs, c1)) = _
      rw [e]
      exact ⟨rfl, rfl, rfl⟩
theorem err_no {q : Pu} {us : List Int} (hu : us.length ≤ 600) (h : lastP q < 2305843009213693952) : errP q us = 0 := by
  unfold errP
  rw [if_neg (by omega)]
theorem view_ws {v : Vw} (h : v.ok = true) : viewP v.ws = v := by
  obtain ⟨g, e, u, i, y, q, l, a, b, c⟩ := v
  show (if _ then _ else _) = _
  rw [if_pos h]
theorem fr_ok : frV.ok = true := decide_eq_true (by simp only [frV]; unfold BQ; omega)

theorem f55 (n a b : Int) (H : Heap) : ACall Try.prog 55 [.int .i64 n, .int .i64 a, .int .i64 b] H (.bool (decide (a ≤ n ∧ n ≤ b))) H := by
  refine acall55 (by simp) (acs_start ?_)
  unfold c55
  by_cases h : a ≤ n
  · simp (maxSteps:=1000000) (disch:=omega) only [go_sem, ↓reduceIte, reduceCtorEq, h]
    exact fin_b _ (by first | exact (List.append_nil _).symm | rfl) (by simp) (by simp (maxSteps:=1000000) (disch:=omega) only [resVal, resAll, resOne, rs55, Env.get, go_sem, ↓reduceIte, reduceCtorEq] <;> rfl) (by rw [Bool.eq_iff_iff]; (try simp only [decide_eq_true_eq, Bool.and_eq_true, Bool.or_eq_true, Bool.not_eq_true', decide_eq_false_iff_not, Bool.true_eq_false, Bool.false_eq_true, true_iff, iff_true, false_iff, iff_false, not_false_eq_true, not_true_eq_false]); first | done | omega | (simp; done) | (rw [Bool.eq_iff_iff]; (try simp only [decide_eq_true_eq, Bool.and_eq_true, Bool.or_eq_true, Bool.not_eq_true', decide_eq_false_iff_not, Bool.true_eq_false, Bool.false_eq_true, true_iff, iff_true, false_iff, iff_false, not_false_eq_true, not_true_eq_false]); omega) | (simp; omega))
  · simp (maxSteps:=1000000) (disch:=omega) only [go_sem, ↓reduceIte, reduceCtorEq, h]
    exact fin_b _ (by first | exact (List.append_nil _).symm | rfl) (by simp) (by simp (maxSteps:=1000000) (disch:=omega) only [resVal, resAll, resOne, rs55, Env.get, go_sem, ↓reduceIte, reduceCtorEq] <;> rfl) (by rw [Bool.eq_iff_iff]; (try simp only [decide_eq_true_eq, Bool.and_eq_true, Bool.or_eq_true, Bool.not_eq_true', decide_eq_false_iff_not, Bool.true_eq_false, Bool.false_eq_true, true_iff, iff_true, false_iff, iff_false, not_false_eq_true, not_true_eq_false]); first | done | omega | (simp; done) | (rw [Bool.eq_iff_iff]; (try simp only [decide_eq_true_eq, Bool.and_eq_true, Bool.or_eq_true, Bool.not_eq_true', decide_eq_false_iff_not, Bool.true_eq_false, Bool.false_eq_true, true_iff, iff_true, false_iff, iff_false, not_false_eq_true, not_true_eq_false]); omega) | (simp; omega))
theorem f76 (n : Int) (H : Heap) : ACall Try.prog 76 [.int .i64 n] H (.bool (!num n)) H := by
  refine acall76 (by simp) (acs_start ?_)
  have g := f55 n 0 4611686018427387904
  unfold num
  unfold c76
  generalize decide (0 ≤ n ∧ n ≤ 4611686018427387904) = x at *
  simp (maxSteps:=1000000) (disch:=omega) only [go_sem, ↓reduceIte, reduceCtorEq]
  first | refine callB_intro (g _) ?_ | refine callD_intro (g _) ?_ | refine callP_intro (fun _ => (g _)) ?_ | refine callX_pure (g _) ?_
  simp (maxSteps:=1000000) (disch:=omega) only [go_sem, ↓reduceIte, reduceCtorEq]
  exact fin_same (by simp) _ (by first | exact (List.append_nil _).symm | rfl) (by simp (maxSteps:=1000000) (disch:=omega) only [resVal, resAll, resOne, rs76, Env.get, go_sem, ↓reduceIte, reduceCtorEq]) (by simp only [AV.und, AV.unds, and_self])
def bq (x : Int) : Bool := decide (x < -70368744177664 ∨ 70368744177663 < x)
theorem f95 (n : Int) (H : Heap) : ACall Try.prog 95 [.int .i64 n] H (.bool (bq n)) H := by
  refine acall95 (by simp) (acs_start ?_)
  unfold c95
  by_cases h : n < -70368744177664
  · simp (maxSteps:=1000000) (disch:=omega) only [go_sem, ↓reduceIte, reduceCtorEq, h]
    exact fin_b _ (by first | exact (List.append_nil _).symm | rfl) (by simp) (by simp (maxSteps:=1000000) (disch:=omega) only [resVal, resAll, resOne, rs95, Env.get, go_sem, ↓reduceIte, reduceCtorEq] <;> rfl) (by unfold bq; rw [Bool.eq_iff_iff]; (try simp only [decide_eq_true_eq, Bool.and_eq_true, Bool.or_eq_true, Bool.not_eq_true', decide_eq_false_iff_not, Bool.true_eq_false, Bool.false_eq_true, true_iff, iff_true, false_iff, iff_false, not_false_eq_true, not_true_eq_false]); first | done | omega | (simp; done) | (rw [Bool.eq_iff_iff]; (try simp only [decide_eq_true_eq, Bool.and_eq_true, Bool.or_eq_true, Bool.not_eq_true', decide_eq_false_iff_not, Bool.true_eq_false, Bool.false_eq_true, true_iff, iff_true, false_iff, iff_false, not_false_eq_true, not_true_eq_false]); omega) | (simp; omega))
  · simp (maxSteps:=1000000) (disch:=omega) only [go_sem, ↓reduceIte, reduceCtorEq, h]
    exact fin_b _ (by first | exact (List.append_nil _).symm | rfl) (by simp) (by simp (maxSteps:=1000000) (disch:=omega) only [resVal, resAll, resOne, rs95, Env.get, go_sem, ↓reduceIte, reduceCtorEq] <;> rfl) (by unfold bq; rw [Bool.eq_iff_iff]; (try simp only [decide_eq_true_eq, Bool.and_eq_true, Bool.or_eq_true, Bool.not_eq_true', decide_eq_false_iff_not, Bool.true_eq_false, Bool.false_eq_true, true_iff, iff_true, false_iff, iff_false, not_false_eq_true, not_true_eq_false]); first | done | omega | (simp; done) | (rw [Bool.eq_iff_iff]; (try simp only [decide_eq_true_eq, Bool.and_eq_true, Bool.or_eq_true, Bool.not_eq_true', decide_eq_false_iff_not, Bool.true_eq_false, Bool.false_eq_true, true_iff, iff_true, false_iff, iff_false, not_false_eq_true, not_true_eq_false]); omega) | (simp; omega))
def fidx (p : Int → Bool) : List Int → Int → Int
  | [], _ => -1
  | x :: r, j => if p x then j else fidx p r (j + 1)
theorem fidx_any (p : Int → Bool) : ∀ (r : List Int) (j : Int), 0 ≤ j → decide (0 ≤ fidx p r j) = r.any p := by
  intro r
  induction r with
  | nil => intro j _; rfl
  | cons x r ih =>
    intro j hj
    unfold fidx
    cases hx : p x with
    | true => simp [hx, hj]
    | false => simp only [Bool.false_eq_true, ↓reduceIte, ih (j + 1) (by omega), List.any_cons, hx, Bool.false_or]
theorem f100 {P : Int → Bool} {F : FuncId} (hF : hasBody Try.prog F = true) (g : ∀ x H, ACall Try.prog F [.int .i64 x] H (.bool (P x)) H) {xs : List Int} {p off : Nat} {c : Option Nat} {H : Heap} (hs : Sl i64 H p off xs) (hl : xs.length ≤ 1000) :
    ACall Try.prog 100 [.sl p off xs.length 1 c, .fn (.func F) [] []] H (.int .i64 (fidx P xs 0)) H := by
  refine acall100 (by simp) (acs_start ?_)
  obtain ⟨cs, o, hp, hle, hcs⟩ := hs
  unfold c100
  simp (maxSteps:=1000000) (disch:=omega) only [go_sem, ↓reduceIte, reduceCtorEq]
  refine loop_list (fun r T H' => ∃ j : Nat, T = [(0, .sl p off xs.length 1 c), (1, .fn (.func F) [] []), (7, .int .i64 (xs.length : Nat)), (8, .int .i64 (j : Nat))] ∧ H' = H ∧ xs.drop j = r ∧ j + r.length = xs.length ∧ fidx P xs 0 = fidx P r j) ?_ ?_ xs _ _ ⟨0, rfl, rfl, rfl, by simp, rfl⟩
  · rintro x r T H' ⟨j, rfl, rfl, hr, hj, hd⟩ next
    obtain ⟨g1, g2, g3⟩ := drop_cons hr
    have fx := sl_get hcs g1
    simp only [i64] at fx
    have hlt : (j : Int) < (xs.length : Int) := by omega
    have hj2 : j ≤ 1000 := by omega
    have gx := g x
    rw [acs_lp]; conv in Fr.code c100l0 => unfold c100l0
    simp (maxSteps:=1000000) (disch:=omega) only [go_sem, ↓reduceIte, reduceCtorEq, hlt, hp, fx, hF]
    first | refine callB_intro (gx _) ?_ | refine callD_intro (gx _) ?_ | refine callP_intro (fun _ => (gx _)) ?_ | refine callX_pure (gx _) ?_
    cases hx : P x with
    | true =>
      have e : fidx P xs 0 = j := by rw [hd]; unfold fidx; simp [hx]
      rw [e]
      clear next
      simp (maxSteps:=1000000) (disch:=omega) only [go_sem, ↓reduceIte, reduceCtorEq]
      exact fin_same (by simp) _ (by first | exact (List.append_nil _).symm | rfl) (by simp (maxSteps:=1000000) (disch:=omega) only [resVal, resAll, resOne, rs100, Env.get, go_sem, ↓reduceIte, reduceCtorEq]) (by simp only [AV.und, AV.unds, and_self])
    | false =>
      simp (maxSteps:=1000000) (disch:=omega) only [go_sem, ↓reduceIte, reduceCtorEq]
      refine next _ _ ⟨j + 1, rfl, rfl, g2, by simp at hj; omega, ?_⟩
      rw [hd]
      conv => lhs; unfold fidx
      simp [hx]
  · rintro T H' ⟨j, rfl, rfl, hr, hj, hd⟩
    rw [hd, show fidx P [] (j : Int) = -1 from rfl]
    have hlt : ¬ (j : Int) < (xs.length : Int) := by simp at hj; omega
    rw [acs_lp]; conv in Fr.code c100l0 => unfold c100l0
    simp (maxSteps:=1000000) (disch:=omega) only [go_sem, ↓reduceIte, reduceCtorEq, hlt]
    exact fin_same (by simp) _ (by first | exact (List.append_nil _).symm | rfl) (by simp (maxSteps:=1000000) (disch:=omega) only [resVal, resAll, resOne, rs100, Env.get, go_sem, ↓reduceIte, reduceCtorEq]) (by simp only [AV.und, AV.unds, and_self])
theorem f93 {P : Int → Bool} {F : FuncId} (hF : hasBody Try.prog F = true) (g : ∀ x H, ACall Try.prog F [.int .i64 x] H (.bool (P x)) H) {xs : List Int} {p off : Nat} {c : Option Nat} {H : Heap} (hs : Sl i64 H p off xs) (hl : xs.length ≤ 1000) :
    ACall Try.prog 93 [.sl p off xs.length 1 c, .fn (.func F) [] []] H (.int .i64 (fidx P xs 0)) H := by
  refine acall93 (by simp) (acs_start ?_)
  obtain ⟨cs, o, hp, hle, hcs⟩ := hs
  unfold c93
  simp (maxSteps:=1000000) (disch:=omega) only [go_sem, ↓reduceIte, reduceCtorEq]
  refine loop_list (fun r T H' => ∃ j : Nat, T = [(0, .sl p off xs.length 1 c), (1, .fn (.func F) [] []), (7, .int .i64 (xs.length : Nat)), (8, .int .i64 (j : Nat))] ∧ H' = H ∧ xs.drop j = r ∧ j + r.length = xs.length ∧ fidx P xs 0 = fidx P r j) ?_ ?_ xs _ _ ⟨0, rfl, rfl, rfl, by simp, rfl⟩
  · rintro x r T H' ⟨j, rfl, rfl, hr, hj, hd⟩ next
    obtain ⟨g1, g2, g3⟩ := drop_cons hr
    have fx := sl_get hcs g1
    simp only [i64] at fx
    have hlt : (j : Int) < (xs.length : Int) := by omega
    have hj2 : j ≤ 1000 := by omega
    have gx := g x
    rw [acs_lp]; conv in Fr.code c93l0 => unfold c93l0
    simp (maxSteps:=1000000) (disch:=omega) only [go_sem, ↓reduceIte, reduceCtorEq, hlt, hp, fx, hF]
    first | refine callB_intro (gx _) ?_ | refine callD_intro (gx _) ?_ | refine callP_intro (fun _ => (gx _)) ?_ | refine callX_pure (gx _) ?_
    cases hx : P x with
    | true =>
      have e : fidx P xs 0 = j := by rw [hd]; unfold fidx; simp [hx]
      rw [e]
      clear next
      simp (maxSteps:=1000000) (disch:=omega) only [go_sem, ↓reduceIte, reduceCtorEq]
      exact fin_same (by simp) _ (by first | exact (List.append_nil _).symm | rfl) (by simp (maxSteps:=1000000) (disch:=omega) only [resVal, resAll, resOne, rs93, Env.get, go_sem, ↓reduceIte, reduceCtorEq]) (by simp only [AV.und, AV.unds, and_self])
    | false =>
      simp (maxSteps:=1000000) (disch:=omega) only [go_sem, ↓reduceIte, reduceCtorEq]
      refine next _ _ ⟨j + 1, rfl, rfl, g2, by simp at hj; omega, ?_⟩
      rw [hd]
      conv => lhs; unfold fidx
      simp [hx]
  · rintro T H' ⟨j, rfl, rfl, hr, hj, hd⟩
    rw [hd, show fidx P [] (j : Int) = -1 from rfl]
    have hlt : ¬ (j : Int) < (xs.length : Int) := by simp at hj; omega
    rw [acs_lp]; conv in Fr.code c93l0 => unfold c93l0
    simp (maxSteps:=1000000) (disch:=omega) only [go_sem, ↓reduceIte, reduceCtorEq, hlt]
    exact fin_same (by simp) _ (by first | exact (List.append_nil _).symm | rfl) (by simp (maxSteps:=1000000) (disch:=omega) only [resVal, resAll, resOne, rs93, Env.get, go_sem, ↓reduceIte, reduceCtorEq]) (by simp only [AV.und, AV.unds, and_self])
theorem hb76 : hasBody Try.prog 76 = true := by kernel_rfl
theorem hb95 : hasBody Try.prog 95 = true := by kernel_rfl
theorem f94 {xs : List Int} {p off : Nat} {c : Option Nat} {H : Heap} (hs : Sl i64 H p off xs) (hl : xs.length ≤ 1000) :
    ACall Try.prog 94 [.sl p off xs.length 1 c, .fn (.func 95) [] []] H (.bool (xs.any bq)) H := by
  refine acall94 (by simp) (acs_start ?_)
  have g := f100 (c := c) hb95 f95 hs hl
  rw [← fidx_any bq xs 0 (by omega)]
  unfold c94
  simp (maxSteps:=1000000) (disch:=omega) only [go_sem, ↓reduceIte, reduceCtorEq]
  first | refine callB_intro (g) ?_ | refine callD_intro (g) ?_ | refine callP_intro (fun _ => (g)) ?_ | refine callX_pure (g) ?_
  simp (maxSteps:=1000000) (disch:=omega) only [go_sem, ↓reduceIte, reduceCtorEq]
  exact fin_b _ (by first | exact (List.append_nil _).symm | rfl) (by simp) (by simp (maxSteps:=1000000) (disch:=omega) only [resVal, resAll, resOne, rs94, Env.get, go_sem, ↓reduceIte, reduceCtorEq] <;> rfl) (by rw [Bool.eq_iff_iff]; (try simp only [decide_eq_true_eq, Bool.and_eq_true, Bool.or_eq_true, Bool.not_eq_true', decide_eq_false_iff_not, Bool.true_eq_false, Bool.false_eq_true, true_iff, iff_true, false_iff, iff_false, not_false_eq_true, not_true_eq_false]); first | done | omega | (simp; done) | (rw [Bool.eq_iff_iff]; (try simp only [decide_eq_true_eq, Bool.and_eq_true, Bool.or_eq_true, Bool.not_eq_true', decide_eq_false_iff_not, Bool.true_eq_false, Bool.false_eq_true, true_iff, iff_true, false_iff, iff_false, not_false_eq_true, not_true_eq_false]); omega) | (simp; omega))
theorem f73_l {xs : List Int} {p off : Nat} {c : Option Nat} {H : Heap} (hs : Sl i64 H p off xs) (hl : xs.length ≤ 1000) :
    ACall Try.prog 73 [.sl p off xs.length 1 c, .fn (.func 76) [] []] H (.bool (xs.any fun x => !num x)) H := by
  refine acall73 (by simp) (acs_start ?_)
  have g := f93 (c := c) hb76 f76 hs hl
  rw [← fidx_any (fun x => !num x) xs 0 (by omega)]
  unfold c73
  simp (maxSteps:=1000000) (disch:=omega) only [go_sem, ↓reduceIte, reduceCtorEq]
  first | refine callB_intro (g) ?_ | refine callD_intro (g) ?_ | refine callP_intro (fun _ => (g)) ?_ | refine callX_pure (g) ?_
  simp (maxSteps:=1000000) (disch:=omega) only [go_sem, ↓reduceIte, reduceCtorEq]
  exact fin_b _ (by first | exact (List.append_nil _).symm | rfl) (by simp) (by simp (maxSteps:=1000000) (disch:=omega) only [resVal, resAll, resOne, rs73, Env.get, go_sem, ↓reduceIte, reduceCtorEq] <;> rfl) (by rw [Bool.eq_iff_iff]; (try simp only [decide_eq_true_eq, Bool.and_eq_true, Bool.or_eq_true, Bool.not_eq_true', decide_eq_false_iff_not, Bool.true_eq_false, Bool.false_eq_true, true_iff, iff_true, false_iff, iff_false, not_false_eq_true, not_true_eq_false]); first | done | omega | (simp; done) | (rw [Bool.eq_iff_iff]; (try simp only [decide_eq_true_eq, Bool.and_eq_true, Bool.or_eq_true, Bool.not_eq_true', decide_eq_false_iff_not, Bool.true_eq_false, Bool.false_eq_true, true_iff, iff_true, false_iff, iff_false, not_false_eq_true, not_true_eq_false]); omega) | (simp; omega))
def bqs (a b c : Int) : Bool := decide (BQ a ∧ BQ b ∧ BQ c)
theorem bqs_any (a b c : Int) : (!(bq a || (bq b || (bq c || false)))) = bqs a b c := by
  unfold bqs bq BQ
  rw [Bool.eq_iff_iff]
  simp only [Bool.not_eq_true', Bool.or_false, Bool.or_eq_false_iff, decide_eq_false_iff_not, decide_eq_true_eq]
  omega
theorem f77 (a b c : Int) (H : Heap) : ACall Try.prog 77 [vec a b c] H (.bool (bqs a b c)) H := by
  refine acall77 (by simp) (acs_start ?_)
  have g := fun (p : Nat) (o : Bool) (cp : Option Nat) (H : Heap) (hb : blkAt H p = some ⟨[.int .i64 a, .int .i64 b, .int .i64 c], o⟩) => f94 (c := cp) (xs := [a, b, c]) (Sl.whole hb) (by simp)
  simp only [List.any_cons, List.any_nil, List.length_cons, List.length_nil, Nat.zero_add, Nat.reduceAdd] at g
  rw [← bqs_any]
  generalize (bq a || (bq b || (bq c || false))) = z at *
  unfold c77 vec
  simp (maxSteps:=1000000) (disch:=omega) only [go_sem, ↓reduceIte, reduceCtorEq, hb95]
  first | refine callB_intro (g _ _ _ _ (by simp only [go_sem, ↓reduceIte, reduceCtorEq]; rfl)) ?_ | refine callD_intro (g _ _ _ _ (by simp only [go_sem, ↓reduceIte, reduceCtorEq]; rfl)) ?_ | refine callP_intro (fun _ => (g _ _ _ _ (by simp only [go_sem, ↓reduceIte, reduceCtorEq]; rfl))) ?_ | refine callX_pure (g _ _ _ _ (by simp only [go_sem, ↓reduceIte, reduceCtorEq]; rfl)) ?_
  simp (maxSteps:=1000000) (disch:=omega) only [go_sem, ↓reduceIte, reduceCtorEq]
  exact fin_same (by simp) _ (by first | exact (List.append_nil _).symm | rfl) (by simp (maxSteps:=1000000) (disch:=omega) only [resVal, resAll, resOne, rs77, Env.get, go_sem, ↓reduceIte, reduceCtorEq]) (by simp only [AV.und, AV.unds, and_self])

theorem vok_eq (g e u i y q l a b c : Int) : (Vw.mk g e u i y q l a b c).ok = (!([g, e, i, q, l].any fun x => !num x) && (decide (-1 ≤ u ∧ u ≤ 1) && (decide (-1 ≤ y ∧ y ≤ 4611686018427387904) && bqs a b c))) := by
  unfold Vw.ok bqs num
  rw [Bool.eq_iff_iff]
  simp only [List.any_cons, List.any_nil, Bool.or_false, Bool.and_eq_true, Bool.not_eq_true', Bool.or_eq_false_iff, Bool.not_eq_false', decide_eq_true_eq]
  constructor
  · rintro ⟨h1, h2, h3, h4, h5, h6, h7, h8, h9, h10, h11, h12, h13, h14, h15, h16, h17⟩
    exact ⟨⟨⟨h1, h2⟩, ⟨h3, h4⟩, ⟨h5, h6⟩, ⟨h7, h8⟩, ⟨h9, h10⟩⟩, ⟨h11, h12⟩, ⟨h13, h14⟩, h15, h16, h17⟩
  · rintro ⟨⟨⟨h1, h2⟩, ⟨h3, h4⟩, ⟨h5, h6⟩, ⟨h7, h8⟩, ⟨h9, h10⟩⟩, ⟨h11, h12⟩, ⟨h13, h14⟩, h15, h16, h17⟩
    exact ⟨h1, h2, h3, h4, h5, h6, h7, h8, h9, h10, h11, h12, h13, h14, h15, h16, h17⟩
theorem f54 (v : Vw) (H : Heap) : ACall Try.prog 54 [.agg v.av] H (.bool v.ok) H := by
  refine acall54 (by simp) (acs_start ?_)
  obtain ⟨g, e, u, i, y, q, l, a, b, c⟩ := v
  rw [vok_eq]
  have k1 := fun (p : Nat) (o : Bool) (cp : Option Nat) (H : Heap) (hb : blkAt H p = some ⟨[.int .i64 g, .int .i64 e, .int .i64 i, .int .i64 q, .int .i64 l], o⟩) => f73_l (c := cp) (xs := [g, e, i, q, l]) (Sl.whole hb) (by simp)
  have k2 := f55 u (-1) 1
  have k3 := f55 y (-1) 4611686018427387904
  have k4 := f77 a b c
  simp only [List.length_cons, List.length_nil, Nat.zero_add, Nat.reduceAdd] at k1
  generalize ([g, e, i, q, l].any fun x => !num x) = z1 at *
  generalize decide (-1 ≤ u ∧ u ≤ 1) = z2 at *
  generalize decide (-1 ≤ y ∧ y ≤ 4611686018427387904) = z3 at *
  generalize bqs a b c = z4 at *
  unfold vec at k4
  unfold c54 Vw.av
  simp (maxSteps:=1000000) (disch:=omega) only [go_sem, ↓reduceIte, reduceCtorEq, hb76]
  first | refine callB_intro (k1 _ _ _ _ (by simp only [go_sem, ↓reduceIte, reduceCtorEq]; rfl)) ?_ | refine callD_intro (k1 _ _ _ _ (by simp only [go_sem, ↓reduceIte, reduceCtorEq]; rfl)) ?_ | refine callP_intro (fun _ => (k1 _ _ _ _ (by simp only [go_sem, ↓reduceIte, reduceCtorEq]; rfl))) ?_ | refine callX_pure (k1 _ _ _ _ (by simp only [go_sem, ↓reduceIte, reduceCtorEq]; rfl)) ?_
  cases z1 with
  | true =>
    simp (maxSteps:=1000000) (disch:=omega) only [go_sem, ↓reduceIte, reduceCtorEq]
    exact fin_b _ (by first | exact (List.append_nil _).symm | rfl) (by simp) (by simp (maxSteps:=1000000) (disch:=omega) only [resVal, resAll, resOne, rs54, Env.get, go_sem, ↓reduceIte, reduceCtorEq] <;> rfl) (by rw [Bool.eq_iff_iff]; (try simp only [decide_eq_true_eq, Bool.and_eq_true, Bool.or_eq_true, Bool.not_eq_true', decide_eq_false_iff_not, Bool.true_eq_false, Bool.false_eq_true, true_iff, iff_true, false_iff, iff_false, not_false_eq_true, not_true_eq_false]); first | done | omega | (simp; done) | (rw [Bool.eq_iff_iff]; (try simp only [decide_eq_true_eq, Bool.and_eq_true, Bool.or_eq_true, Bool.not_eq_true', decide_eq_false_iff_not, Bool.true_eq_false, Bool.false_eq_true, true_iff, iff_true, false_iff, iff_false, not_false_eq_true, not_true_eq_false]); omega) | (simp; omega))
  | false =>
    simp (maxSteps:=1000000) (disch:=omega) only [go_sem, ↓reduceIte, reduceCtorEq]
    first | refine callB_intro (k2 _) ?_ | refine callD_intro (k2 _) ?_ | refine callP_intro (fun _ => (k2 _)) ?_ | refine callX_pure (k2 _) ?_
    cases z2 with
    | false =>
      simp (maxSteps:=1000000) (disch:=omega) only [go_sem, ↓reduceIte, reduceCtorEq]
      exact fin_b _ (by first | exact (List.append_nil _).symm | rfl) (by simp) (by simp (maxSteps:=1000000) (disch:=omega) only [resVal, resAll, resOne, rs54, Env.get, go_sem, ↓reduceIte, reduceCtorEq] <;> rfl) (by rw [Bool.eq_iff_iff]; (try simp only [decide_eq_true_eq, Bool.and_eq_true, Bool.or_eq_true, Bool.not_eq_true', decide_eq_false_iff_not, Bool.true_eq_false, Bool.false_eq_true, true_iff, iff_true, false_iff, iff_false, not_false_eq_true, not_true_eq_false]); first | done | omega | (simp; done) | (rw [Bool.eq_iff_iff]; (try simp only [decide_eq_true_eq, Bool.and_eq_true, Bool.or_eq_true, Bool.not_eq_true', decide_eq_false_iff_not, Bool.true_eq_false, Bool.false_eq_true, true_iff, iff_true, false_iff, iff_false, not_false_eq_true, not_true_eq_false]); omega) | (simp; omega))
    | true =>
      simp (maxSteps:=1000000) (disch:=omega) only [go_sem, ↓reduceIte, reduceCtorEq]
      first | refine callB_intro (k3 _) ?_ | refine callD_intro (k3 _) ?_ | refine callP_intro (fun _ => (k3 _)) ?_ | refine callX_pure (k3 _) ?_
      cases z3 with
      | false =>
        simp (maxSteps:=1000000) (disch:=omega) only [go_sem, ↓reduceIte, reduceCtorEq]
        exact fin_b _ (by first | exact (List.append_nil _).symm | rfl) (by simp) (by simp (maxSteps:=1000000) (disch:=omega) only [resVal, resAll, resOne, rs54, Env.get, go_sem, ↓reduceIte, reduceCtorEq] <;> rfl) (by rw [Bool.eq_iff_iff]; (try simp only [decide_eq_true_eq, Bool.and_eq_true, Bool.or_eq_true, Bool.not_eq_true', decide_eq_false_iff_not, Bool.true_eq_false, Bool.false_eq_true, true_iff, iff_true, false_iff, iff_false, not_false_eq_true, not_true_eq_false]); first | done | omega | (simp; done) | (rw [Bool.eq_iff_iff]; (try simp only [decide_eq_true_eq, Bool.and_eq_true, Bool.or_eq_true, Bool.not_eq_true', decide_eq_false_iff_not, Bool.true_eq_false, Bool.false_eq_true, true_iff, iff_true, false_iff, iff_false, not_false_eq_true, not_true_eq_false]); omega) | (simp; omega))
      | true =>
        simp (maxSteps:=1000000) (disch:=omega) only [go_sem, ↓reduceIte, reduceCtorEq]
        first | refine callB_intro (k4 _) ?_ | refine callD_intro (k4 _) ?_ | refine callP_intro (fun _ => (k4 _)) ?_ | refine callX_pure (k4 _) ?_
        simp (maxSteps:=1000000) (disch:=omega) only [go_sem, ↓reduceIte, reduceCtorEq]
        exact fin_b _ (by first | exact (List.append_nil _).symm | rfl) (by simp) (by simp (maxSteps:=1000000) (disch:=omega) only [resVal, resAll, resOne, rs54, Env.get, go_sem, ↓reduceIte, reduceCtorEq] <;> rfl) (by rw [Bool.eq_iff_iff]; (try simp only [decide_eq_true_eq, Bool.and_eq_true, Bool.or_eq_true, Bool.not_eq_true', decide_eq_false_iff_not, Bool.true_eq_false, Bool.false_eq_true, true_iff, iff_true, false_iff, iff_false, not_false_eq_true, not_true_eq_false]); first | done | omega | (simp; done) | (rw [Bool.eq_iff_iff]; (try simp only [decide_eq_true_eq, Bool.and_eq_true, Bool.or_eq_true, Bool.not_eq_true', decide_eq_false_iff_not, Bool.true_eq_false, Bool.false_eq_true, true_iff, iff_true, false_iff, iff_false, not_false_eq_true, not_true_eq_false]); omega) | (simp; omega))
theorem f40 (v : Vw) (H : Heap) : ACallE Try.prog 40 [.agg v.av] H fun r H' => Rw i64 H' r v.ws := by
  refine acallE (fun v Hf h => acallK40 (by simp) h) (acs_start ?_)
  obtain ⟨g, e, u, i, y, q, l, a, b, c⟩ := v
  unfold c40 Vw.av
  simp (maxSteps:=1000000) (disch:=omega) only [go_sem, ↓reduceIte, reduceCtorEq]
  refine fin_e (by simp) (by simp (maxSteps:=1000000) (disch:=omega) only [resVal, resAll, resOne, rs40, Env.get, go_sem, ↓reduceIte, reduceCtorEq] <;> rfl) ⟨_, rfl⟩ ⟨_, _, _, rfl, Sl.whole (o := true) (by simp only [go_sem, ↓reduceIte, reduceCtorEq]; rfl)⟩
theorem f46 (H : Heap) : ACall Try.prog 46 [] H (.agg frV.av) H := by
  refine acall46 (by simp) (acs_start ?_)
  unfold c46 frV Vw.av
  simp (maxSteps:=1000000) (disch:=omega) only [go_sem, ↓reduceIte, reduceCtorEq]
  exact fin_same (by simp) _ (by first | exact (List.append_nil _).symm | rfl) (by simp (maxSteps:=1000000) (disch:=omega) only [resVal, resAll, resOne, rs46, Env.get, go_sem, ↓reduceIte, reduceCtorEq]) (by simp only [AV.und, AV.unds, and_self])
theorem ten {l : List Int} (h : l.length = 10) : ∃ g e u i y q m a b c, l = [g, e, u, i, y, q, m, a, b, c] := by
  match l, h with
  | [g, e, u, i, y, q, m, a, b, c], _ => exact ⟨g, e, u, i, y, q, m, a, b, c, rfl⟩
theorem view_no {l : List Int} (h : l.length ≠ 10) : viewP l = frV := by
  unfold viewP
  split
  · simp at h
  · rfl
theorem f50 {xs : List Int} {p off : Nat} {cp : Option Nat} {H : Heap} (hs : Sl i64 H p off xs) (hl : xs.length ≤ 1000) :
    ACall Try.prog 50 [.sl p off xs.length 1 cp] H (.agg (viewP xs).av) H := by
  refine acall50 (by simp) (acs_start ?_)
  have kf := f46
  unfold c50
  by_cases h : xs.length = 10
  rotate_left
  · have hne : ¬ (xs.length : Int) = 10 := by omega
    rw [view_no h]
    unfold frV Vw.av at *
    simp (maxSteps:=1000000) (disch:=omega) only [go_sem, ↓reduceIte, reduceCtorEq, hne]
    first | refine callB_intro (kf _) ?_ | refine callD_intro (kf _) ?_ | refine callP_intro (fun _ => (kf _)) ?_ | refine callX_pure (kf _) ?_
    simp (maxSteps:=1000000) (disch:=omega) only [go_sem, ↓reduceIte, reduceCtorEq]
    exact fin_same (by simp) _ (by first | exact (List.append_nil _).symm | rfl) (by simp (maxSteps:=1000000) (disch:=omega) only [resVal, resAll, resOne, rs50, Env.get, go_sem, ↓reduceIte, reduceCtorEq]) (by simp only [AV.und, AV.unds, and_self])
  obtain ⟨g, e, u, i, y, q, m, a, b, c, rfl⟩ := ten h
  have k1 := f54 ⟨g, e, u, i, y, q, m, a, b, c⟩
  obtain ⟨cs, o, hp, hle, hcs⟩ := hs
  have hpl := blkAt_lt hp
  have x0 := sl_get hcs (j := 0) rfl
  have x1 := sl_get hcs (j := 1) rfl
  have x2 := sl_get hcs (j := 2) rfl
  have x3 := sl_get hcs (j := 3) rfl
  have x4 := sl_get hcs (j := 4) rfl
  have x5 := sl_get hcs (j := 5) rfl
  have x6 := sl_get hcs (j := 6) rfl
  have x7 := sl_get hcs (j := 7) rfl
  have x8 := sl_get hcs (j := 8) rfl
  have x9 := sl_get hcs (j := 9) rfl
  simp only [i64, Nat.add_zero] at x0 x1 x2 x3 x4 x5 x6 x7 x8 x9
  have hv : viewP [g, e, u, i, y, q, m, a, b, c] = if (Vw.mk g e u i y q m a b c).ok = true then ⟨g, e, u, i, y, q, m, a, b, c⟩ else frV := rfl
  rw [hv]
  clear hv hcs h hl
  generalize (Vw.mk g e u i y q m a b c).ok = z at *
  unfold Vw.av at *
  simp (maxSteps:=1000000) (disch:=omega) only [go_sem, ↓reduceIte, reduceCtorEq, hp, hpl, x0, x1, x2, x3, x4, x5, x6, x7, x8, x9, blkAt_lo]
  first | refine callB_intro (k1 _) ?_ | refine callD_intro (k1 _) ?_ | refine callP_intro (fun _ => (k1 _)) ?_ | refine callX_pure (k1 _) ?_
  cases z with
  | true =>
    simp (maxSteps:=1000000) (disch:=omega) only [go_sem, ↓reduceIte, reduceCtorEq]
    exact fin_same (by simp) _ (by first | exact (List.append_nil _).symm | rfl) (by simp (maxSteps:=1000000) (disch:=omega) only [resVal, resAll, resOne, rs50, Env.get, go_sem, ↓reduceIte, reduceCtorEq]) (by simp only [AV.und, AV.unds, and_self])
  | false =>
    unfold frV at *
    simp (maxSteps:=1000000) (disch:=omega) only [go_sem, ↓reduceIte, reduceCtorEq]
    first | refine callB_intro (kf _) ?_ | refine callD_intro (kf _) ?_ | refine callP_intro (fun _ => (kf _)) ?_ | refine callX_pure (kf _) ?_
    simp (maxSteps:=1000000) (disch:=omega) only [go_sem, ↓reduceIte, reduceCtorEq]
    exact fin_same (by simp) _ (by first | exact (List.append_nil _).symm | rfl) (by simp (maxSteps:=1000000) (disch:=omega) only [resVal, resAll, resOne, rs50, Env.get, go_sem, ↓reduceIte, reduceCtorEq]) (by simp only [AV.und, AV.unds, and_self])

theorem rd_short {S : Stt} {H : Heap} (h : S.ok H) : (rdP S.pu).length ≤ 1000 := by
  have l0 := h.l0
  have l1 := h.l1
  unfold rdP Stt.pu
  split
  · simp
  · split <;> (simp; omega)
def Sel (v : AV) (H' : Heap) (q : PSe) : Prop := ∃ s' : Se, v = .agg s'.av ∧ s'.n.ok H' ∧ s'.pl = q
theorem f21 {s : Se} {H : Heap} (h : s.n.ok H) : ACallE Try.prog 21 [.agg s.av] H fun v H' => Sel v H' (resetP s.pl) := by
  refine acallE (fun v Hf h => acallK21 (by simp) h) (acs_start ?_)
  have g := fun G => f49_t (h.app G)
  have g51 := f51 s.t.a s.t.b s.t.c s.t.d s.t.e
  have hl := rd_short h
  unfold Stt.av nvc at g
  unfold tms vec at g51
  unfold c21 Se.av
  simp (maxSteps:=1000000) (disch:=omega) only [go_sem, ↓reduceIte, reduceCtorEq]
  first | refine callBE (g _) ?_ | refine callDE (g _) ?_ | refine callXE (g _) ?_
  rintro v1 H1 ⟨G, rfl⟩ ⟨w, rfl, p, f, c, rfl, s1⟩
  simp only [go_sem, ↓reduceIte, reduceCtorEq] at s1
  have g2 := f50 (cp := c) s1 hl
  generalize hv : viewP (rdP s.n.pu) = V at g2
  unfold Vw.av at g2
  simp (maxSteps:=1000000) (disch:=omega) only [go_sem, ↓reduceIte, reduceCtorEq]
  first | refine callB_intro (g2) ?_ | refine callD_intro (g2) ?_ | refine callP_intro (fun _ => (g2)) ?_ | refine callX_pure (g2) ?_
  simp (maxSteps:=1000000) (disch:=omega) only [go_sem, ↓reduceIte, reduceCtorEq]
  first | refine callB_intro (g51 _) ?_ | refine callD_intro (g51 _) ?_ | refine callP_intro (fun _ => (g51 _)) ?_ | refine callX_pure (g51 _) ?_
  simp (maxSteps:=1000000) (disch:=omega) only [go_sem, ↓reduceIte, reduceCtorEq]
  refine fin_e (by simp) (by simp (maxSteps:=1000000) (disch:=omega) only [resVal, resAll, resOne, rs21, Env.get, go_sem, ↓reduceIte, reduceCtorEq] <;> rfl) ⟨_, rfl⟩ ⟨⟨s.t, s.n, V, ⟨0, 0, s.t.b⟩, ⟨V.a, V.b, V.c, 0, false⟩⟩, rfl, h.app _, by unfold resetP Se.pl; rw [hv]⟩
def tickP (s : PSe) (n : Int) : PSe := { s with c := ⟨tick s.c.n n, s.c.u, s.c.q⟩, l := { s.l with o := s.l.o || decide (s.l.s + s.t.d ≤ tick s.c.n n) } }
theorem tick_in {n k : Int} (h : 0 ≤ n ∧ n ≤ 4611686018427387904) : 0 ≤ tick n k ∧ tick n k ≤ 4611686018427387904 := by
  unfold tick imax imin
  repeat' split
  all_goals omega
theorem f20 {s : Se} {k : Int} {H : Heap} (h : s.n.ok H) (h1 : 0 ≤ s.c.n ∧ s.c.n ≤ 4611686018427387904) (h2 : 0 ≤ s.l.s ∧ s.l.s ≤ 4611686018427387904) (h3 : 1 ≤ s.t.d ∧ s.t.d ≤ 1000000000) :
    ACall Try.prog 20 [.agg s.av, .int .i64 k] H (.agg (Se.mk s.t s.n s.v ⟨tick s.c.n k, s.c.u, s.c.q⟩ ⟨s.l.a, s.l.b, s.l.c, s.l.s, s.l.o || decide (s.l.s + s.t.d ≤ tick s.c.n k)⟩).av) H := by
  refine acall20 (by simp) (acs_start ?_)
  have g1 := fun H => f47 s.c.n s.c.u s.c.q k H (by omega)
  have ht := tick_in (k := k) h1
  have g2 := fun H => f48 (a := s.l.a) (b := s.l.b) (c := s.l.c) (since := s.l.s) (now := tick s.c.n k) (fresh := s.t.d) (stale := s.l.o) (H := H) (decide_eq_true ⟨ht.1, ht.2, h2.1, h2.2, h3.1, h3.2⟩)
  clear h1 h2 h3 ht
  generalize tick s.c.n k = t at *
  generalize (s.l.o || decide (s.l.s + s.t.d ≤ t)) = o at *
  unfold vec at g1
  unfold latch at g2
  unfold c20 Se.av
  simp (maxSteps:=1000000) (disch:=omega) only [go_sem, ↓reduceIte, reduceCtorEq]
  first | refine callB_intro (g1 _) ?_ | refine callD_intro (g1 _) ?_ | refine callP_intro (fun _ => (g1 _)) ?_ | refine callX_pure (g1 _) ?_
  simp (maxSteps:=1000000) (disch:=omega) only [go_sem, ↓reduceIte, reduceCtorEq]
  first | refine callB_intro (g2 _) ?_ | refine callD_intro (g2 _) ?_ | refine callP_intro (fun _ => (g2 _)) ?_ | refine callX_pure (g2 _) ?_
  simp (maxSteps:=1000000) (disch:=omega) only [go_sem, ↓reduceIte, reduceCtorEq]
  exact fin_same (by simp) _ (by first | exact (List.append_nil _).symm | rfl) (by simp (maxSteps:=1000000) (disch:=omega) only [resVal, resAll, resOne, rs20, Env.get, go_sem, ↓reduceIte, reduceCtorEq]) (by simp only [AV.und, AV.unds, true_and, and_true]; exact ⟨h.h0.lt, h.h1.lt⟩)

theorem Sl.fill {α : Type} {f : α → AV} {H : Heap} {p off b : Nat} {zs : List α} (hs : Sl f H p off zs) (hb : H[b]? = some none) (x : Option Blk) : Sl f (H.set b x) p off zs := by
  have : H.set b none = H := by
    apply List.ext_getElem?
    intro i
    by_cases h : b = i
    · subst h
      rw [List.getElem?_set_self (List.getElem?_eq_some_iff.1 hb).1, hb]
    · rw [List.getElem?_set_ne h]
  refine Sl.unset ?_ x
  rw [this]
  exact hs
theorem Stt.ok.fill {S : Stt} {H : Heap} {b : Nat} (h : S.ok H) (hb : H[b]? = some none) (x : Option Blk) : S.ok (H.set b x) := ⟨h.h0.fill hb x, h.h1.fill hb x, h.l0, h.l1⟩
theorem f45_new {us : List Int} {q oq : Nat} {kq : Option Nat} {H : Heap} (hu : Sl i64 H q oq us) (lu : us.length ≤ 1000) :
    ACallE Try.prog 45 [.agg [.nils, .int .i64 0, .nils, .int .i64 0], .sl q oq us.length 1 kq] H fun v H' => ∃ S' : Stt, v = .tup [.agg S'.av, .int .i64 (errP (([], 0), ([], 0)) us)] ∧ S'.ok H' ∧ S'.pu = tornP (([], 0), ([], 0)) us ((us.length : Int) + 3) := by
  refine callE_nl 1 ?_
  have h0 : Sl i64 (H ++ [some ⟨[], false⟩]) H.length 0 [] := Sl.whole (o := false) (by simp only [go_sem, ↓reduceIte, reduceCtorEq, List.map_nil])
  exact f45_t (S := ⟨H.length, 0, none, [], 0, H.length, 0, none, [], 0⟩) ⟨h0, h0, Nat.zero_le _, Nat.zero_le _⟩ (hu.app _) lu
def newN : Pu := tornP (([], 0), ([], 0)) frV.ws 13
def newP (t : Tm) : PSe := resetP ⟨t, newN, frV, ⟨0, 0, 0⟩, ⟨0, 0, 0, 0, false⟩⟩
theorem f19 {t : Tm} {H : Heap} (ht : t.ok = true) : ACallE Try.prog 19 [.agg t.av] H fun v H' => ∃ w, v = .tup [w, .int .i64 0] ∧ Sel w H' (newP t) := by
  refine acallE (fun v Hf h => acallK19 (by simp) h) (acs_start ?_)
  have g44 := f44 t.a t.b t.c t.d t.e
  rw [show mayT t.a t.b t.c t.d t.e = true from ht] at g44
  have g46 := f46
  have g40 := f40 frV
  unfold tms at g44
  unfold c19 Tm.av
  simp (maxSteps:=1000000) (disch:=omega) only [go_sem, ↓reduceIte, reduceCtorEq]
  first | refine callB_intro (g44 _) ?_ | refine callD_intro (g44 _) ?_ | refine callP_intro (fun _ => (g44 _)) ?_ | refine callX_pure (g44 _) ?_
  simp (maxSteps:=1000000) (disch:=omega) only [go_sem, ↓reduceIte, reduceCtorEq]
  first | refine callB_intro (g46 _) ?_ | refine callD_intro (g46 _) ?_ | refine callP_intro (fun _ => (g46 _)) ?_ | refine callX_pure (g46 _) ?_
  simp (maxSteps:=1000000) (disch:=omega) only [go_sem, ↓reduceIte, reduceCtorEq, frV.eq_def]
  first | refine callBE (ACallE.frame (b := H.length + 1) (by simp only [go_sem, ↓reduceIte, reduceCtorEq]; rfl) rfl (g40 _)) ?_ | refine callDE (ACallE.frame (b := H.length + 1) (by simp only [go_sem, ↓reduceIte, reduceCtorEq]; rfl) rfl (g40 _)) ?_ | refine callXE (ACallE.frame (b := H.length + 1) (by simp only [go_sem, ↓reduceIte, reduceCtorEq]; rfl) rfl (g40 _)) ?_
  rintro v1 H1 hx1 ⟨b1, p, off, cp, rfl, s1⟩
  have b0 := hx1.blk (b := H.length) (by simp only [go_sem, ↓reduceIte, reduceCtorEq]; rfl)
  have hy1 : Ext H H1 := (Ext.app _ _).trans hx1
  simp (maxSteps:=1000000) (disch:=omega) only [go_sem, ↓reduceIte, reduceCtorEq]
  first | refine callBE (ACallE.frame (b := H.length + 1) b1 rfl (f45_new s1 (by decide))) ?_ | refine callDE (ACallE.frame (b := H.length + 1) b1 rfl (f45_new s1 (by decide))) ?_ | refine callXE (ACallE.frame (b := H.length + 1) b1 rfl (f45_new s1 (by decide))) ?_
  rintro v2 H2 hx2 ⟨b1, S, rfl, k1, e1⟩
  replace b0 := hx2.blk b0
  have hy2 := hy1.trans hx2
  have bl0 := blkAt_lt b0
  have bl1 := blkAt_lt b1
  rw [show errP (([], 0), ([], 0)) frV.ws = 0 by decide]
  have g21 := fun K => f21 (s := ⟨t, S, ⟨0, 0, 0, 0, 0, 0, 0, 0, 0, 0⟩, ⟨0, 0, 0⟩, ⟨0, 0, 0, 0, false⟩⟩) (H := (H2 ++ K).set (H.length + 1) none) (by rw [set_lo _ _ bl1]; exact k1.app K)
  have e2 : ∀ a b c d, resetP (Se.pl ⟨t, S, a, b, ⟨c, c, c, c, d⟩⟩) = newP t := by
    intro a b c d
    unfold newP resetP Se.pl newN
    rw [e1]
    rfl
  rw [e2] at g21
  unfold Se.av at g21
  unfold Stt.av nvc
  simp (maxSteps:=1000000) (disch:=omega) only [go_sem, ↓reduceIte, reduceCtorEq, blkAt_lo, b0, bl0]
  first | refine callBE (ACallE.frame (b := H.length + 1) ((blkAt_lo _ bl1).trans b1) rfl (g21 _)) ?_ | refine callDE (ACallE.frame (b := H.length + 1) ((blkAt_lo _ bl1).trans b1) rfl (g21 _)) ?_ | refine callXE (ACallE.frame (b := H.length + 1) ((blkAt_lo _ bl1).trans b1) rfl (g21 _)) ?_
  rintro v3 H3 hx3 ⟨b1, s', rfl, k3, e3⟩
  have hy3 := (hy2.trans (.app _ _)).trans hx3
  replace bl1 := blkAt_lt b1
  have a1 := s'.len
  have a2 := s'.all
  have a3 := s'.take
  simp (maxSteps:=1000000) (disch:=omega) only [go_sem, ↓reduceIte, reduceCtorEq, a1, a2, a3, b1, bl1, blkAt_set_self]
  refine fin_e (by simp) (by simp (maxSteps:=1000000) (disch:=omega) only [resVal, resAll, resOne, rs19, Env.get, go_sem, ↓reduceIte, reduceCtorEq, a1, a2, a3, b1, bl1, blkAt_set_self] <;> rfl) (hy3.set (by omega) _) ⟨_, rfl, s', rfl, k3.unset _, e3⟩

def Wk (s : Se) (p off n : Nat) (cp : Option Nat) (an : AV) (tk st : Bool) : List AV := [.int .i64 s.t.a, .int .i64 s.t.b, .int .i64 s.t.c, .int .i64 s.t.d, .int .i64 s.t.e,
  .sl s.n.p0 s.n.o0 s.n.ws.length 1 s.n.k0, .int .i64 s.n.c0, .sl s.n.p1 s.n.o1 s.n.vs.length 1 s.n.k1, .int .i64 s.n.c1,
  .int .i64 s.v.g, .int .i64 s.v.e, .int .i64 s.v.u, .int .i64 s.v.i, .int .i64 s.v.y, .int .i64 s.v.q, .int .i64 s.v.l, .int .i64 s.v.a, .int .i64 s.v.b, .int .i64 s.v.c,
  .int .i64 s.c.n, .int .i64 s.c.u, .int .i64 s.c.q, .int .i64 s.l.a, .int .i64 s.l.b, .int .i64 s.l.c, .int .i64 s.l.s, .bool s.l.o, .sl p off n 1 cp, an, .bool tk, .bool st]
section
variable {s : Se} {p off : Nat} {ns : List Int} {cp : Option Nat} {an : AV} {tk st : Bool} {W : Nat} {H : Heap} {x y : Int}
theorem f80 (hw : blkAt H W = some ⟨Wk s p off ns.length cp an tk st, true⟩) (hs : Sl i64 H p off ns) (h0 : ns[0]? = some x) (h1 : ns[1]? = some y) : ACall Try.prog 80 [.ptr W 0] H (.bool (mst s.v x y)) H := by
  refine acall80 (by simp) (acs_start ?_)
  have hlt := (List.getElem?_eq_some_iff.1 h1).1
  obtain ⟨cs, o, hp, hle, hcs⟩ := hs
  have hwl := blkAt_lt hw
  have hpl := blkAt_lt hp
  have x0 := sl_get hcs h0
  have x1 := sl_get hcs h1
  simp only [i64, Nat.add_zero] at x0 x1
  have n0 : (0 : Int) < (ns.length : Int) := by omega
  have n1 : (1 : Int) < (ns.length : Int) := by omega
  unfold Wk at hw
  unfold c80
  by_cases e1 : s.v.u = -1
  · simp (maxSteps:=1000000) (disch:=omega) only [go_sem, ↓reduceIte, reduceCtorEq, hw, hwl, e1]
    exact fin_b _ (by first | exact (List.append_nil _).symm | rfl) (by simp) (by simp (maxSteps:=1000000) (disch:=omega) only [resVal, resAll, resOne, rs80, Env.get, go_sem, ↓reduceIte, reduceCtorEq] <;> rfl) (by unfold mst; rw [Bool.eq_iff_iff]; (try simp only [decide_eq_true_eq, Bool.and_eq_true, Bool.or_eq_true, Bool.not_eq_true', decide_eq_false_iff_not, Bool.true_eq_false, Bool.false_eq_true, true_iff, iff_true, false_iff, iff_false, not_false_eq_true, not_true_eq_false]); first | done | omega | (simp; done) | (rw [Bool.eq_iff_iff]; (try simp only [decide_eq_true_eq, Bool.and_eq_true, Bool.or_eq_true, Bool.not_eq_true', decide_eq_false_iff_not, Bool.true_eq_false, Bool.false_eq_true, true_iff, iff_true, false_iff, iff_false, not_false_eq_true, not_true_eq_false]); omega) | (simp; omega))
  · by_cases e2 : x = s.v.u
    · simp (maxSteps:=1000000) (disch:=omega) only [go_sem, ↓reduceIte, reduceCtorEq, hw, hwl, hp, hpl, x0, x1, n0, n1, e1, e2]
      exact fin_b _ (by first | exact (List.append_nil _).symm | rfl) (by simp) (by simp (maxSteps:=1000000) (disch:=omega) only [resVal, resAll, resOne, rs80, Env.get, go_sem, ↓reduceIte, reduceCtorEq] <;> rfl) (by unfold mst; rw [Bool.eq_iff_iff]; (try simp only [decide_eq_true_eq, Bool.and_eq_true, Bool.or_eq_true, Bool.not_eq_true', decide_eq_false_iff_not, Bool.true_eq_false, Bool.false_eq_true, true_iff, iff_true, false_iff, iff_false, not_false_eq_true, not_true_eq_false]); first | done | omega | (simp; done) | (rw [Bool.eq_iff_iff]; (try simp only [decide_eq_true_eq, Bool.and_eq_true, Bool.or_eq_true, Bool.not_eq_true', decide_eq_false_iff_not, Bool.true_eq_false, Bool.false_eq_true, true_iff, iff_true, false_iff, iff_false, not_false_eq_true, not_true_eq_false]); omega) | (simp; omega))
    · simp (maxSteps:=1000000) (disch:=omega) only [go_sem, ↓reduceIte, reduceCtorEq, hw, hwl, hp, hpl, x0, x1, n0, n1, e1, e2]
      exact fin_b _ (by first | exact (List.append_nil _).symm | rfl) (by simp) (by simp (maxSteps:=1000000) (disch:=omega) only [resVal, resAll, resOne, rs80, Env.get, go_sem, ↓reduceIte, reduceCtorEq] <;> rfl) (by unfold mst; rw [Bool.eq_iff_iff]; (try simp only [decide_eq_true_eq, Bool.and_eq_true, Bool.or_eq_true, Bool.not_eq_true', decide_eq_false_iff_not, Bool.true_eq_false, Bool.false_eq_true, true_iff, iff_true, false_iff, iff_false, not_false_eq_true, not_true_eq_false]); first | done | omega | (simp; done) | (rw [Bool.eq_iff_iff]; (try simp only [decide_eq_true_eq, Bool.and_eq_true, Bool.or_eq_true, Bool.not_eq_true', decide_eq_false_iff_not, Bool.true_eq_false, Bool.false_eq_true, true_iff, iff_true, false_iff, iff_false, not_false_eq_true, not_true_eq_false]); omega) | (simp; omega))
theorem f81 (hw : blkAt H W = some ⟨Wk s p off ns.length cp an tk st, true⟩) (hs : Sl i64 H p off ns) (h0 : ns[0]? = some x) (h1 : ns[1]? = some y) (hu : -1 ≤ s.v.u ∧ s.v.u ≤ 1) : ACall Try.prog 81 [.ptr W 0] H (.bool (stp2 s.v x y)) H := by
  refine acall81 (by simp) (acs_start ?_)
  have hlt := (List.getElem?_eq_some_iff.1 h1).1
  obtain ⟨cs, o, hp, hle, hcs⟩ := hs
  have hwl := blkAt_lt hw
  have hpl := blkAt_lt hp
  have x0 := sl_get hcs h0
  have x1 := sl_get hcs h1
  simp only [i64, Nat.add_zero] at x0 x1
  have n0 : (0 : Int) < (ns.length : Int) := by omega
  have n1 : (1 : Int) < (ns.length : Int) := by omega
  unfold Wk at hw
  unfold c81
  by_cases e1 : s.v.u = -1
  · simp (maxSteps:=1000000) (disch:=omega) only [go_sem, ↓reduceIte, reduceCtorEq, hw, hwl, e1]
    exact fin_b _ (by first | exact (List.append_nil _).symm | rfl) (by simp) (by simp (maxSteps:=1000000) (disch:=omega) only [resVal, resAll, resOne, rs81, Env.get, go_sem, ↓reduceIte, reduceCtorEq] <;> rfl) (by unfold stp2; rw [Bool.eq_iff_iff]; (try simp only [decide_eq_true_eq, Bool.and_eq_true, Bool.or_eq_true, Bool.not_eq_true', decide_eq_false_iff_not, Bool.true_eq_false, Bool.false_eq_true, true_iff, iff_true, false_iff, iff_false, not_false_eq_true, not_true_eq_false]); first | done | omega | (simp; done) | (rw [Bool.eq_iff_iff]; (try simp only [decide_eq_true_eq, Bool.and_eq_true, Bool.or_eq_true, Bool.not_eq_true', decide_eq_false_iff_not, Bool.true_eq_false, Bool.false_eq_true, true_iff, iff_true, false_iff, iff_false, not_false_eq_true, not_true_eq_false]); omega) | (simp; omega))
  · by_cases e2 : s.v.y = -1
    · simp (maxSteps:=1000000) (disch:=omega) only [go_sem, ↓reduceIte, reduceCtorEq, hw, hwl, e1, e2]
      exact fin_b _ (by first | exact (List.append_nil _).symm | rfl) (by simp) (by simp (maxSteps:=1000000) (disch:=omega) only [resVal, resAll, resOne, rs81, Env.get, go_sem, ↓reduceIte, reduceCtorEq] <;> rfl) (by unfold stp2; rw [Bool.eq_iff_iff]; (try simp only [decide_eq_true_eq, Bool.and_eq_true, Bool.or_eq_true, Bool.not_eq_true', decide_eq_false_iff_not, Bool.true_eq_false, Bool.false_eq_true, true_iff, iff_true, false_iff, iff_false, not_false_eq_true, not_true_eq_false]); first | done | omega | (simp; done) | (rw [Bool.eq_iff_iff]; (try simp only [decide_eq_true_eq, Bool.and_eq_true, Bool.or_eq_true, Bool.not_eq_true', decide_eq_false_iff_not, Bool.true_eq_false, Bool.false_eq_true, true_iff, iff_true, false_iff, iff_false, not_false_eq_true, not_true_eq_false]); omega) | (simp; omega))
    · by_cases e3 : x = 1 - s.v.u
      · simp (maxSteps:=1000000) (disch:=omega) only [go_sem, ↓reduceIte, reduceCtorEq, hw, hwl, hp, hpl, x0, x1, n0, n1, e1, e2, e3]
        exact fin_b _ (by first | exact (List.append_nil _).symm | rfl) (by simp) (by simp (maxSteps:=1000000) (disch:=omega) only [resVal, resAll, resOne, rs81, Env.get, go_sem, ↓reduceIte, reduceCtorEq] <;> rfl) (by unfold stp2; rw [Bool.eq_iff_iff]; (try simp only [decide_eq_true_eq, Bool.and_eq_true, Bool.or_eq_true, Bool.not_eq_true', decide_eq_false_iff_not, Bool.true_eq_false, Bool.false_eq_true, true_iff, iff_true, false_iff, iff_false, not_false_eq_true, not_true_eq_false]); first | done | omega | (simp; done) | (rw [Bool.eq_iff_iff]; (try simp only [decide_eq_true_eq, Bool.and_eq_true, Bool.or_eq_true, Bool.not_eq_true', decide_eq_false_iff_not, Bool.true_eq_false, Bool.false_eq_true, true_iff, iff_true, false_iff, iff_false, not_false_eq_true, not_true_eq_false]); omega) | (simp; omega))
      · simp (maxSteps:=1000000) (disch:=omega) only [go_sem, ↓reduceIte, reduceCtorEq, hw, hwl, hp, hpl, x0, x1, n0, n1, e1, e2, e3]
        exact fin_b _ (by first | exact (List.append_nil _).symm | rfl) (by simp) (by simp (maxSteps:=1000000) (disch:=omega) only [resVal, resAll, resOne, rs81, Env.get, go_sem, ↓reduceIte, reduceCtorEq] <;> rfl) (by unfold stp2; rw [Bool.eq_iff_iff]; (try simp only [decide_eq_true_eq, Bool.and_eq_true, Bool.or_eq_true, Bool.not_eq_true', decide_eq_false_iff_not, Bool.true_eq_false, Bool.false_eq_true, true_iff, iff_true, false_iff, iff_false, not_false_eq_true, not_true_eq_false]); first | done | omega | (simp; done) | (rw [Bool.eq_iff_iff]; (try simp only [decide_eq_true_eq, Bool.and_eq_true, Bool.or_eq_true, Bool.not_eq_true', decide_eq_false_iff_not, Bool.true_eq_false, Bool.false_eq_true, true_iff, iff_true, false_iff, iff_false, not_false_eq_true, not_true_eq_false]); omega) | (simp; omega))
theorem Ext.hide {A B : Heap} (h : Ext A B) {b : Nat} (hb : b < A.length) (x : Option Blk) : Ext (A.set b x) (B.set b x) := by
  obtain ⟨G, rfl⟩ := h
  rw [set_lo _ _ hb]
  exact ⟨_, rfl⟩
theorem blkAt_setapp {H G : Heap} {q k : Nat} {x : Option Blk} : blkAt (H.set q x ++ G) (H.length + k) = blkAt G k := by
  have := blkAt_app (H.set q x) G k
  rwa [List.length_set] at this
theorem blkAt_setapp0 {H G : Heap} {q : Nat} {x : Option Blk} : blkAt (H.set q x ++ G) H.length = blkAt G 0 := blkAt_setapp (k := 0)
theorem blkAt_los {p b : Nat} {H : Heap} (G : Heap) (x : Option Blk) (h : p < H.length) : blkAt (H.set b x ++ G) p = blkAt (H.set b x) p := blkAt_lo G (by rw [List.length_set]; exact h)
theorem set_los {p b : Nat} {H : Heap} (G : Heap) (x y : Option Blk) (h : p < H.length) : (H.set b x ++ G).set p y = (H.set b x).set p y ++ G := set_lo _ G (by rw [List.length_set]; exact h) y
theorem set_same {H : Heap} {b : Nat} {x : Blk} (h : blkAt H b = some x) : H.set b (some x) = H := by
  apply List.ext_getElem?
  intro i
  by_cases e : b = i
  · subst e
    rw [List.getElem?_set_self (blkAt_lt h)]
    unfold blkAt at h
    cases hh : H[b]? with
    | none => rw [hh] at h; cases h
    | some y => rw [hh] at h; simp at h; rw [h]
  · rw [List.getElem?_set_ne e]
theorem f82 (hw : blkAt H W = some ⟨Wk s p off ns.length cp an tk st, true⟩) (hn : s.n.ok (H.set W none)) (he : errP s.n.pu s.v.ws = 0) :
    ACallX Try.prog 82 [.ptr W 0] H fun v H' => v = .bool true ∧ Ext (H.set W none) (H'.set W none) ∧ ∃ S' : Stt, S'.ok (H'.set W none) ∧ S'.pu = tornP s.n.pu s.v.ws 13 ∧ blkAt H' W = some ⟨Wk ⟨s.t, S', s.v, s.c, s.l⟩ p off ns.length cp an tk true, true⟩ := by
  refine acallX (fun v Hf h => acallK82 (by simp) h) (acs_start ?_)
  have hwl := blkAt_lt hw
  have g40 := fun H => f40 s.v H
  unfold Wk at hw
  unfold Vw.av at g40
  unfold c82
  simp (maxSteps:=1000000) (disch:=omega) only [go_sem, ↓reduceIte, reduceCtorEq, hw, hwl, blkAt_lo]
  first | refine callBE (ACallE.frame (b := W) (by rw [blkAt_lo _ hwl]; exact hw) rfl (g40 _)) ?_ | refine callDE (ACallE.frame (b := W) (by rw [blkAt_lo _ hwl]; exact hw) rfl (g40 _)) ?_ | refine callXE (ACallE.frame (b := W) (by rw [blkAt_lo _ hwl]; exact hw) rfl (g40 _)) ?_
  rintro v1 H1 hx1 ⟨b1, q, oq, cq, rfl, s1⟩
  have g45 := f45_t (kq := cq) (((hn.app [none]).ext (H' := H1.set W none) (by have := hx1.hide (b := W) (by simp; omega) none; rwa [set_lo _ _ hwl] at this))) s1 (show 10 ≤ 1000 by decide)
  unfold Torn at g45
  rw [he] at g45
  unfold Stt.av nvc at g45
  simp (maxSteps:=1000000) (disch:=omega) only [go_sem, ↓reduceIte, reduceCtorEq]
  first | refine callBE (ACallE.frame (b := W) b1 rfl g45) ?_ | refine callDE (ACallE.frame (b := W) b1 rfl g45) ?_ | refine callXE (ACallE.frame (b := W) b1 rfl g45) ?_
  rintro v2 H2 hx2 ⟨b2, S', rfl, k2, e2⟩
  obtain ⟨G, rfl⟩ := hx1.trans hx2
  have k3 : ∀ x : Option Blk, S'.ok (H.set W none ++ x :: G) := by
    intro x
    have := k2.fill (b := H.length) (by rw [set_lo _ _ (by simp; omega), set_lo _ _ hwl]; simp) x
    rw [set_lo _ _ (by simp; omega), set_lo _ _ hwl, List.append_assoc, List.set_append_right _ _ (by simp), List.length_set, Nat.sub_self] at this
    exact this
  simp (maxSteps:=1000000) (disch:=omega) only [go_sem, ↓reduceIte, reduceCtorEq, hw, hwl, blkAt_lo, set_lo, blkAt_los, set_los, List.length_set, blkAt_set_self, List.set_set]
  refine fin_x (by simp) (by simp (maxSteps:=1000000) (disch:=omega) only [resVal, resAll, resOne, rs82, Env.get, go_sem, ↓reduceIte, reduceCtorEq] <;> rfl) ⟨rfl, by rw [set_lo _ _ (by simpa using hwl), List.set_set]; exact ⟨_, rfl⟩, S', by rw [set_lo _ _ (by simpa using hwl), List.set_set]; exact k3 _, e2, by rw [blkAt_lo _ (by simpa using hwl), blkAt_set_self hwl]; rfl⟩
def AnsIs (H : Heap) (an : AV) (o : Option (List Int)) : Prop :=
  match o with
  | none => an = .nils
  | some l => ∃ (q p : Nat) (c d : Option Nat) (o : Bool), an = .sl q 0 1 2 c ∧ blkAt H q = some ⟨[.int .i64 2, .sl p 0 l.length 1 d], o⟩ ∧ Sl i64 H p 0 l
theorem f83 {long nr : Int} (hw : blkAt H W = some ⟨Wk s p off ns.length cp an tk st, true⟩) (hs : Sl i64 (H.set W none) p off ns) (h0 : ns[0]? = some x) (h1 : ns[1]? = some y) :
    ACallX Try.prog 83 [.ptr W 0, .int .i64 long, .int .i64 nr] H fun v H' => v = .tup [] ∧ Ext (H.set W none) (H'.set W none) ∧ ∃ an', AnsIs (H'.set W none) an' (some (ansP s.v x y long nr)) ∧ blkAt H' W = some ⟨Wk s p off ns.length cp an' tk st, true⟩ := by
  refine acallX (fun v Hf h => acallK83 (by simp) h) (acs_start ?_)
  have hlt := (List.getElem?_eq_some_iff.1 h1).1
  have hs2 : Sl i64 H p off ns := by
    have := hs.unset (some ⟨Wk s p off ns.length cp an tk st, true⟩)
    rwa [set_same hw] at this
  obtain ⟨cs, o, hp, hle, hcs⟩ := hs2
  have hwl := blkAt_lt hw
  have hpl := blkAt_lt hp
  have x0 := sl_get hcs h0
  have x1 := sl_get hcs h1
  simp only [i64, Nat.add_zero] at x0 x1
  have n0 : (0 : Int) < (ns.length : Int) := by omega
  have n1 : (1 : Int) < (ns.length : Int) := by omega
  unfold Wk at hw
  unfold c83
  simp (maxSteps:=1000000) (disch:=omega) only [go_sem, ↓reduceIte, reduceCtorEq, hw, hwl, hp, hpl, x0, x1, n0, n1, blkAt_lo, set_lo, List.length_set, blkAt_set_self, List.set_set]
  refine fin_x (by simp) (by simp (maxSteps:=1000000) (disch:=omega) only [resVal, resAll, resOne, rs83, Env.get, go_sem, ↓reduceIte, reduceCtorEq] <;> rfl) ⟨rfl, by rw [set_lo _ _ (by simpa using hwl), List.set_set]; exact ⟨_, rfl⟩, _, ⟨H.length + 1, H.length, some 1, some 8, true, rfl, by rw [set_lo _ _ (by simpa using hwl), List.set_set, blkAt_setapp]; rfl, by rw [set_lo _ _ (by simpa using hwl), List.set_set]; exact Sl.whole (o := true) (by rw [show H.length = H.length + 0 from rfl, blkAt_setapp]; rfl)⟩, by rw [blkAt_lo _ (by simpa using hwl), blkAt_set_self hwl]; rfl⟩
end
end Go.Proofs.Ytaiboicipbhmhaa.Ah
