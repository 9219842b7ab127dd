/- V10g: a part of the proof: contracts of functions, or plain laws. Conditions: none. -/
import Derived.Test.YtjibcbfdfambeaaV10f
namespace Go.Proofs.Ytjibcbfdfambeaa.Ah
open Go Go.WideShapes
attribute [local irreducible] acs aopsK drawK leave condK bindR bindD bindX guardK guardD callB callD callX callP callPv
attribute [local go_sem] acs_nil acs_blk acs_skip acs_reg acs_dreg acs_freg acs_nam0 acs_nam nones acs_seq acs_cond acs_block acs_exit acs_ret acs_kl acs_loop leave_nil leave_code leave_lp leave_blk aopsK_nil aopsK_cons aopsK_guard bindR_val bindR_need bindR_br bindR_call bindR_bad drawK_nil drawK_cons drawK_ext drawK_pur drawK_guard callPv_fn drawK_purv bindD_val bindD_need bindD_br bindD_call bindD_bad bindX_val bindX_need bindX_br bindX_call guardD_bool guardD_tup grows grows0 List.append_cancel_left_eq List.cons.injEq exists_eq' exists_eq condK_bool guardK_bool guardK_tup sor r0 r1 r2 r3 rC rB rI rP rA rT rS rF rSl rO rbin rcut run1 Env.evals Env.eval Env.get Env.put Env.ins Env.del Env.dels argEnv AV.full AV.cells AV.cell eqCells decide_true decide_false decide_eq_true_eq decide_eq_false_iff_not Bool.not_eq_true' Bool.not_eq_false' true_and and_true false_implies true_implies forall_const Bool.not_true Bool.not_false Bool.false_eq_true Bool.true_eq_false List.getElem?_cons_zero List.getElem?_cons_succ List.length_cons List.length_nil List.length_append List.all_cons List.all_nil Bool.and_true Bool.and_self implies_true List.append_assoc List.cons_append List.nil_append List.append_nil i64_in imin_eq imax_eq cast3 cast0 cast1 cast2 Option.map_none ite_self and_false false_and Option.isSome_some or_true true_or Int.sub_zero Int.mul_one Nat.sub_zero Nat.zero_le Int.cast_ofNat_Int Int.natCast_nonneg Int.toNat_natCast ne_eq not_false_eq_true not_true_eq_false strC blkAt_app blkAt_app0 blkAt_zero blkAt_succ List.set_cons_zero List.set_cons_succ set_app set_app0 Option.map_some Option.bind_some rd setCells lay rdS szOk rapp ownAt lenAt Option.any_some Option.getD_some List.drop_zero List.drop_succ_cons List.take_succ_cons List.take_zero List.drop_nil List.take_nil Nat.lt_irrefl Nat.zero_add Nat.add_zero Nat.mul_one Nat.one_mul Nat.add_assoc Option.some.injEq eq_self
set_option maxHeartbeats 4000000
set_option linter.unusedSimpArgs false
set_option linter.unusedVariables false
/-! Contracts: whole slots, the newest one, what is read. -/
def hd0 (ws : List Int) : Int := ws.headD 0
def wh (ws : List Int) (c : Int) : Bool := decide (0 < ws.length ∧ 0 ≤ hd0 ws ∧ hd0 ws ≤ 4611686018427387904 ∧ c = com ws)
theorem hd0_get {ws : List Int} (h : 0 < ws.length) : ws[0]? = some (hd0 ws) := by
  cases ws with
  | nil => simp at h
  | cons w r => rfl
theorem f35 {ws : List Int} {p off : Nat} {k : Option Nat} {c : Int} {H : Heap} (hs : Sl i64 H p off ws) (hl : ws.length ≤ 2000) : ACall Try.prog 35 [.agg [.sl p off ws.length 1 k, .int .i64 c]] H (.bool (wh ws c)) H := by
  refine acall35 (by simp) (acs_start ?_)
  have g := fun G G' => f19 (cp := k) ((hs.app G).app G') (by omega)
  have hpl := hs.lt
  obtain ⟨cs, o, hp, hle, hcs⟩ := hs
  unfold c35
  by_cases hn : 0 < ws.length
  · have fx : cs[off]? = some (.int .i64 (hd0 ws)) := by have := sl_get hcs (j := 0) (hd0_get hn); rwa [Nat.add_zero] at this
    have hn' : (0 : Int) < (ws.length : Int) := by omega
    unfold wh
    generalize hd0 ws = w at *
    generalize com ws = cc at *
    by_cases h1 : 0 ≤ w
    · by_cases h2 : w ≤ 4611686018427387904
      · simp (maxSteps := 1000000) (disch := omega) only [go_sem, Nat.reduceEqDiff, Nat.reduceLT, Nat.reduceAdd, Nat.reduceSub, Nat.reduceMul, Nat.reduceBEq, Int.reduceLT, Int.reduceAdd, Int.reduceMul, Int.reduceSub, Int.reduceToNat, Int.reduceLE, Int.reduceEq, ↓reduceIte, reduceCtorEq, Int.reduceNeg, Nat.reduceLeDiff,  blkAt_lo, hpl, hp, fx, hn', h1, h2]
        refine callP_intro (fun G' => g _ G') ?_
        simp (maxSteps := 1000000) (disch := omega) only [go_sem, Nat.reduceEqDiff, Nat.reduceLT, Nat.reduceAdd, Nat.reduceSub, Nat.reduceMul, Nat.reduceBEq, Int.reduceLT, Int.reduceAdd, Int.reduceMul, Int.reduceSub, Int.reduceToNat, Int.reduceLE, Int.reduceEq, ↓reduceIte, reduceCtorEq, Int.reduceNeg, Nat.reduceLeDiff]
        exact fin_b _ (by first | exact (List.append_nil _).symm | rfl) (by simp) (by simp (maxSteps := 1000000) (disch := omega) only [resVal, resAll, resOne, rs35, Env.get, go_sem, Nat.reduceEqDiff, Nat.reduceLT, Nat.reduceAdd, Nat.reduceSub, Nat.reduceMul, Nat.reduceBEq, Int.reduceLT, Int.reduceAdd, Int.reduceMul, Int.reduceSub, Int.reduceToNat, Int.reduceLE, Int.reduceEq, ↓reduceIte, reduceCtorEq, Int.reduceNeg, Nat.reduceLeDiff] <;> rfl) (by rw [Bool.eq_iff_iff]; (try simp only [decide_eq_true_eq, Bool.and_eq_true, Bool.or_eq_true, Bool.not_eq_true', decide_eq_false_iff_not, Bool.true_eq_false, Bool.false_eq_true, true_iff, iff_true, false_iff, iff_false, not_false_eq_true, not_true_eq_false]); first | done | omega | (simp; done) | (rw [Bool.eq_iff_iff]; (try simp only [decide_eq_true_eq, Bool.and_eq_true, Bool.or_eq_true, Bool.not_eq_true', decide_eq_false_iff_not, Bool.true_eq_false, Bool.false_eq_true, true_iff, iff_true, false_iff, iff_false, not_false_eq_true, not_true_eq_false]); omega) | (simp; omega))
      · simp (maxSteps := 1000000) (disch := omega) only [go_sem, Nat.reduceEqDiff, Nat.reduceLT, Nat.reduceAdd, Nat.reduceSub, Nat.reduceMul, Nat.reduceBEq, Int.reduceLT, Int.reduceAdd, Int.reduceMul, Int.reduceSub, Int.reduceToNat, Int.reduceLE, Int.reduceEq, ↓reduceIte, reduceCtorEq, Int.reduceNeg, Nat.reduceLeDiff,  blkAt_lo, hpl, hp, fx, hn', h1, h2]
        exact fin_b _ (by first | exact (List.append_nil _).symm | rfl) (by simp) (by simp (maxSteps := 1000000) (disch := omega) only [resVal, resAll, resOne, rs35, Env.get, go_sem, Nat.reduceEqDiff, Nat.reduceLT, Nat.reduceAdd, Nat.reduceSub, Nat.reduceMul, Nat.reduceBEq, Int.reduceLT, Int.reduceAdd, Int.reduceMul, Int.reduceSub, Int.reduceToNat, Int.reduceLE, Int.reduceEq, ↓reduceIte, reduceCtorEq, Int.reduceNeg, Nat.reduceLeDiff] <;> rfl) (by rw [Bool.eq_iff_iff]; (try simp only [decide_eq_true_eq, Bool.and_eq_true, Bool.or_eq_true, Bool.not_eq_true', decide_eq_false_iff_not, Bool.true_eq_false, Bool.false_eq_true, true_iff, iff_true, false_iff, iff_false, not_false_eq_true, not_true_eq_false]); first | done | omega | (simp; done) | (rw [Bool.eq_iff_iff]; (try simp only [decide_eq_true_eq, Bool.and_eq_true, Bool.or_eq_true, Bool.not_eq_true', decide_eq_false_iff_not, Bool.true_eq_false, Bool.false_eq_true, true_iff, iff_true, false_iff, iff_false, not_false_eq_true, not_true_eq_false]); omega) | (simp; omega))
    · simp (maxSteps := 1000000) (disch := omega) only [go_sem, Nat.reduceEqDiff, Nat.reduceLT, Nat.reduceAdd, Nat.reduceSub, Nat.reduceMul, Nat.reduceBEq, Int.reduceLT, Int.reduceAdd, Int.reduceMul, Int.reduceSub, Int.reduceToNat, Int.reduceLE, Int.reduceEq, ↓reduceIte, reduceCtorEq, Int.reduceNeg, Nat.reduceLeDiff,  blkAt_lo, hpl, hp, fx, hn', h1]
      exact fin_b _ (by first | exact (List.append_nil _).symm | rfl) (by simp) (by simp (maxSteps := 1000000) (disch := omega) only [resVal, resAll, resOne, rs35, Env.get, go_sem, Nat.reduceEqDiff, Nat.reduceLT, Nat.reduceAdd, Nat.reduceSub, Nat.reduceMul, Nat.reduceBEq, Int.reduceLT, Int.reduceAdd, Int.reduceMul, Int.reduceSub, Int.reduceToNat, Int.reduceLE, Int.reduceEq, ↓reduceIte, reduceCtorEq, Int.reduceNeg, Nat.reduceLeDiff] <;> rfl) (by rw [Bool.eq_iff_iff]; (try simp only [decide_eq_true_eq, Bool.and_eq_true, Bool.or_eq_true, Bool.not_eq_true', decide_eq_false_iff_not, Bool.true_eq_false, Bool.false_eq_true, true_iff, iff_true, false_iff, iff_false, not_false_eq_true, not_true_eq_false]); first | done | omega | (simp; done) | (rw [Bool.eq_iff_iff]; (try simp only [decide_eq_true_eq, Bool.and_eq_true, Bool.or_eq_true, Bool.not_eq_true', decide_eq_false_iff_not, Bool.true_eq_false, Bool.false_eq_true, true_iff, iff_true, false_iff, iff_false, not_false_eq_true, not_true_eq_false]); omega) | (simp; omega))
  · have hn' : ¬ (0 : Int) < (ws.length : Int) := by omega
    simp (maxSteps := 1000000) (disch := omega) only [go_sem, Nat.reduceEqDiff, Nat.reduceLT, Nat.reduceAdd, Nat.reduceSub, Nat.reduceMul, Nat.reduceBEq, Int.reduceLT, Int.reduceAdd, Int.reduceMul, Int.reduceSub, Int.reduceToNat, Int.reduceLE, Int.reduceEq, ↓reduceIte, reduceCtorEq, Int.reduceNeg, Nat.reduceLeDiff,  hn']
    exact fin_b _ (by first | exact (List.append_nil _).symm | rfl) (by simp) (by simp (maxSteps := 1000000) (disch := omega) only [resVal, resAll, resOne, rs35, Env.get, go_sem, Nat.reduceEqDiff, Nat.reduceLT, Nat.reduceAdd, Nat.reduceSub, Nat.reduceMul, Nat.reduceBEq, Int.reduceLT, Int.reduceAdd, Int.reduceMul, Int.reduceSub, Int.reduceToNat, Int.reduceLE, Int.reduceEq, ↓reduceIte, reduceCtorEq, Int.reduceNeg, Nat.reduceLeDiff] <;> rfl) (by unfold wh; rw [Bool.eq_iff_iff]; (try simp only [decide_eq_true_eq, Bool.and_eq_true, Bool.or_eq_true, Bool.not_eq_true', decide_eq_false_iff_not, Bool.true_eq_false, Bool.false_eq_true, true_iff, iff_true, false_iff, iff_false, not_false_eq_true, not_true_eq_false]); first | done | omega | (simp; done) | (rw [Bool.eq_iff_iff]; (try simp only [decide_eq_true_eq, Bool.and_eq_true, Bool.or_eq_true, Bool.not_eq_true', decide_eq_false_iff_not, Bool.true_eq_false, Bool.false_eq_true, true_iff, iff_true, false_iff, iff_false, not_false_eq_true, not_true_eq_false]); omega) | (simp; omega))
def nvc (p0 o0 n0 : Nat) (k0 : Option Nat) (c0 : Int) (p1 o1 n1 : Nat) (k1 : Option Nat) (c1 : Int) : List AV := [.sl p0 o0 n0 1 k0, .int .i64 c0, .sl p1 o1 n1 1 k1, .int .i64 c1]
theorem f34 {ws vs : List Int} {p0 o0 p1 o1 b : Nat} {k0 k1 : Option Nat} {c0 c1 : Int} {o : Bool} {H : Heap} (h0 : Sl i64 H p0 o0 ws) (h1 : Sl i64 H p1 o1 vs) (l0 : ws.length ≤ 2000) (l1 : vs.length ≤ 2000) (hb : blkAt H b = some ⟨nvc p0 o0 ws.length k0 c0 p1 o1 vs.length k1 c1, o⟩) :
    ACall Try.prog 34 [.int .i64 0, .ptr b 0] H (.bool (wh ws c0)) H ∧ ACall Try.prog 34 [.int .i64 1, .ptr b 0] H (.bool (wh vs c1)) H := by
  have g0 := f35 (k := k0) (c := c0) h0 l0
  have g1 := f35 (k := k1) (c := c1) h1 l1
  unfold nvc at hb
  constructor
  · refine acall34 (by simp) (acs_start ?_)
    unfold c34
    simp (maxSteps := 1000000) (disch := omega) only [go_sem, Nat.reduceEqDiff, Nat.reduceLT, Nat.reduceAdd, Nat.reduceSub, Nat.reduceMul, Nat.reduceBEq, Int.reduceLT, Int.reduceAdd, Int.reduceMul, Int.reduceSub, Int.reduceToNat, Int.reduceLE, Int.reduceEq, ↓reduceIte, reduceCtorEq, Int.reduceNeg, Nat.reduceLeDiff,  hb]
    first | refine callB_intro (g0) ?_ | refine callD_intro (g0) ?_ | refine callP_intro (fun _ => (g0)) ?_ | refine callX_pure (g0) ?_
    simp (maxSteps := 1000000) (disch := omega) only [go_sem, Nat.reduceEqDiff, Nat.reduceLT, Nat.reduceAdd, Nat.reduceSub, Nat.reduceMul, Nat.reduceBEq, Int.reduceLT, Int.reduceAdd, Int.reduceMul, Int.reduceSub, Int.reduceToNat, Int.reduceLE, Int.reduceEq, ↓reduceIte, reduceCtorEq, Int.reduceNeg, Nat.reduceLeDiff]
    exact fin_same (by simp) _ (by first | exact (List.append_nil _).symm | rfl) (by simp (maxSteps := 1000000) (disch := omega) only [resVal, resAll, resOne, rs34, Env.get, go_sem, Nat.reduceEqDiff, Nat.reduceLT, Nat.reduceAdd, Nat.reduceSub, Nat.reduceMul, Nat.reduceBEq, Int.reduceLT, Int.reduceAdd, Int.reduceMul, Int.reduceSub, Int.reduceToNat, Int.reduceLE, Int.reduceEq, ↓reduceIte, reduceCtorEq, Int.reduceNeg, Nat.reduceLeDiff]) (by simp only [AV.und, AV.unds, and_self])
  · refine acall34 (by simp) (acs_start ?_)
    unfold c34
    simp (maxSteps := 1000000) (disch := omega) only [go_sem, Nat.reduceEqDiff, Nat.reduceLT, Nat.reduceAdd, Nat.reduceSub, Nat.reduceMul, Nat.reduceBEq, Int.reduceLT, Int.reduceAdd, Int.reduceMul, Int.reduceSub, Int.reduceToNat, Int.reduceLE, Int.reduceEq, ↓reduceIte, reduceCtorEq, Int.reduceNeg, Nat.reduceLeDiff,  hb]
    first | refine callB_intro (g1) ?_ | refine callD_intro (g1) ?_ | refine callP_intro (fun _ => (g1)) ?_ | refine callX_pure (g1) ?_
    simp (maxSteps := 1000000) (disch := omega) only [go_sem, Nat.reduceEqDiff, Nat.reduceLT, Nat.reduceAdd, Nat.reduceSub, Nat.reduceMul, Nat.reduceBEq, Int.reduceLT, Int.reduceAdd, Int.reduceMul, Int.reduceSub, Int.reduceToNat, Int.reduceLE, Int.reduceEq, ↓reduceIte, reduceCtorEq, Int.reduceNeg, Nat.reduceLeDiff]
    exact fin_same (by simp) _ (by first | exact (List.append_nil _).symm | rfl) (by simp (maxSteps := 1000000) (disch := omega) only [resVal, resAll, resOne, rs34, Env.get, go_sem, Nat.reduceEqDiff, Nat.reduceLT, Nat.reduceAdd, Nat.reduceSub, Nat.reduceMul, Nat.reduceBEq, Int.reduceLT, Int.reduceAdd, Int.reduceMul, Int.reduceSub, Int.reduceToNat, Int.reduceLE, Int.reduceEq, ↓reduceIte, reduceCtorEq, Int.reduceNeg, Nat.reduceLeDiff]) (by simp only [AV.und, AV.unds, and_self])
theorem hb34 : hasBody Try.prog 34 = true := by kernel_rfl
/-- Which slot. -/
def nw (ws : List Int) (c0 : Int) (vs : List Int) (c1 : Int) : Int :=
  if wh ws c0 = true ∧ (wh vs c1 = false ∨ hd0 vs ≤ hd0 ws) then 0 else if wh vs c1 = true then 1 else -1
theorem wh_pos {ws : List Int} {c : Int} (h : wh ws c = true) : 0 < ws.length := (of_decide_eq_true h).1
theorem f25 {ws vs : List Int} {p0 o0 p1 o1 : Nat} {k0 k1 : Option Nat} {c0 c1 : Int} {H : Heap} (h0 : Sl i64 H p0 o0 ws) (h1 : Sl i64 H p1 o1 vs) (l0 : ws.length ≤ 2000) (l1 : vs.length ≤ 2000) :
    ACall Try.prog 25 [.agg (nvc p0 o0 ws.length k0 c0 p1 o1 vs.length k1 c1)] H (.int .i64 (nw ws c0 vs c1)) H := by
  refine acall25 (by simp) (acs_start ?_)
  have g := fun G => f34 (k0 := k0) (k1 := k1) (c0 := c0) (c1 := c1) (b := H.length) (o := true) (h0.app (some ⟨nvc p0 o0 ws.length k0 c0 p1 o1 vs.length k1 c1, true⟩ :: G)) (h1.app (some ⟨nvc p0 o0 ws.length k0 c0 p1 o1 vs.length k1 c1, true⟩ :: G)) l0 l1 (by simp only [go_sem, Nat.reduceEqDiff, Nat.reduceLT, Nat.reduceAdd, Nat.reduceSub, Nat.reduceMul, Nat.reduceBEq, Int.reduceLT, Int.reduceAdd, Int.reduceMul, Int.reduceSub, Int.reduceToNat, Int.reduceLE, Int.reduceEq, ↓reduceIte, reduceCtorEq, Int.reduceNeg, Nat.reduceLeDiff])
  have ga := fun G => (g G).1
  have gb := fun G => (g G).2
  have hpl := h0.lt
  have hql := h1.lt
  have w0 := @wh_pos ws c0
  have w1 := @wh_pos vs c1
  obtain ⟨cs, o, hp, hle, hcs⟩ := h0
  obtain ⟨ds, o2, hq, hle2, hds⟩ := h1
  have fx := fun h => sl_get hcs (j := 0) (hd0_get (ws := ws) h)
  have fy := fun h => sl_get hds (j := 0) (hd0_get (ws := vs) h)
  simp only [Nat.add_zero, i64] at fx fy
  have n0 : 0 < ws.length → (0 : Int) < (ws.length : Int) := fun h => by omega
  have n1 : 0 < vs.length → (0 : Int) < (vs.length : Int) := fun h => by omega
  clear g hcs hds hle hle2
  unfold nw
  unfold c25
  cases e0 : wh ws c0 with
  | false =>
    rw [e0] at ga
    cases e1 : wh vs c1 with
    | false =>
      rw [e1] at gb
      simp only [Bool.false_eq_true, false_and, ↓reduceIte]
      unfold nvc at *
      simp (maxSteps := 1000000) (disch := omega) only [go_sem, Nat.reduceEqDiff, Nat.reduceLT, Nat.reduceAdd, Nat.reduceSub, Nat.reduceMul, Nat.reduceBEq, Int.reduceLT, Int.reduceAdd, Int.reduceMul, Int.reduceSub, Int.reduceToNat, Int.reduceLE, Int.reduceEq, ↓reduceIte, reduceCtorEq, Int.reduceNeg, Nat.reduceLeDiff,  hb34]
      first | refine callB_intro (ga _) ?_ | refine callD_intro (ga _) ?_ | refine callP_intro (fun _ => (ga _)) ?_ | refine callX_pure (ga _) ?_
      simp (maxSteps := 1000000) (disch := omega) only [go_sem, Nat.reduceEqDiff, Nat.reduceLT, Nat.reduceAdd, Nat.reduceSub, Nat.reduceMul, Nat.reduceBEq, Int.reduceLT, Int.reduceAdd, Int.reduceMul, Int.reduceSub, Int.reduceToNat, Int.reduceLE, Int.reduceEq, ↓reduceIte, reduceCtorEq, Int.reduceNeg, Nat.reduceLeDiff,  hb34]
      first | refine callB_intro (gb _) ?_ | refine callD_intro (gb _) ?_ | refine callP_intro (fun _ => (gb _)) ?_ | refine callX_pure (gb _) ?_
      simp (maxSteps := 1000000) (disch := omega) only [go_sem, Nat.reduceEqDiff, Nat.reduceLT, Nat.reduceAdd, Nat.reduceSub, Nat.reduceMul, Nat.reduceBEq, Int.reduceLT, Int.reduceAdd, Int.reduceMul, Int.reduceSub, Int.reduceToNat, Int.reduceLE, Int.reduceEq, ↓reduceIte, reduceCtorEq, Int.reduceNeg, Nat.reduceLeDiff]
      exact fin_same (by simp) _ (by first | exact (List.append_nil _).symm | rfl) (by simp (maxSteps := 1000000) (disch := omega) only [resVal, resAll, resOne, rs25, Env.get, go_sem, Nat.reduceEqDiff, Nat.reduceLT, Nat.reduceAdd, Nat.reduceSub, Nat.reduceMul, Nat.reduceBEq, Int.reduceLT, Int.reduceAdd, Int.reduceMul, Int.reduceSub, Int.reduceToNat, Int.reduceLE, Int.reduceEq, ↓reduceIte, reduceCtorEq, Int.reduceNeg, Nat.reduceLeDiff]) (by simp only [AV.und, AV.unds, and_self])
    | true =>
      rw [e1] at gb
      simp only [Bool.false_eq_true, false_and, ↓reduceIte]
      unfold nvc at *
      simp (maxSteps := 1000000) (disch := omega) only [go_sem, Nat.reduceEqDiff, Nat.reduceLT, Nat.reduceAdd, Nat.reduceSub, Nat.reduceMul, Nat.reduceBEq, Int.reduceLT, Int.reduceAdd, Int.reduceMul, Int.reduceSub, Int.reduceToNat, Int.reduceLE, Int.reduceEq, ↓reduceIte, reduceCtorEq, Int.reduceNeg, Nat.reduceLeDiff,  hb34]
      first | refine callB_intro (ga _) ?_ | refine callD_intro (ga _) ?_ | refine callP_intro (fun _ => (ga _)) ?_ | refine callX_pure (ga _) ?_
      simp (maxSteps := 1000000) (disch := omega) only [go_sem, Nat.reduceEqDiff, Nat.reduceLT, Nat.reduceAdd, Nat.reduceSub, Nat.reduceMul, Nat.reduceBEq, Int.reduceLT, Int.reduceAdd, Int.reduceMul, Int.reduceSub, Int.reduceToNat, Int.reduceLE, Int.reduceEq, ↓reduceIte, reduceCtorEq, Int.reduceNeg, Nat.reduceLeDiff,  hb34]
      first | refine callB_intro (gb _) ?_ | refine callD_intro (gb _) ?_ | refine callP_intro (fun _ => (gb _)) ?_ | refine callX_pure (gb _) ?_
      simp (maxSteps := 1000000) (disch := omega) only [go_sem, Nat.reduceEqDiff, Nat.reduceLT, Nat.reduceAdd, Nat.reduceSub, Nat.reduceMul, Nat.reduceBEq, Int.reduceLT, Int.reduceAdd, Int.reduceMul, Int.reduceSub, Int.reduceToNat, Int.reduceLE, Int.reduceEq, ↓reduceIte, reduceCtorEq, Int.reduceNeg, Nat.reduceLeDiff]
      exact fin_same (by simp) _ (by first | exact (List.append_nil _).symm | rfl) (by simp (maxSteps := 1000000) (disch := omega) only [resVal, resAll, resOne, rs25, Env.get, go_sem, Nat.reduceEqDiff, Nat.reduceLT, Nat.reduceAdd, Nat.reduceSub, Nat.reduceMul, Nat.reduceBEq, Int.reduceLT, Int.reduceAdd, Int.reduceMul, Int.reduceSub, Int.reduceToNat, Int.reduceLE, Int.reduceEq, ↓reduceIte, reduceCtorEq, Int.reduceNeg, Nat.reduceLeDiff]) (by simp only [AV.und, AV.unds, and_self])
  | true =>
    rw [e0] at ga
    have fx := fx (w0 e0)
    have n0 := n0 (w0 e0)
    cases e1 : wh vs c1 with
    | false =>
      rw [e1] at gb
      simp only [true_and, true_or, ↓reduceIte]
      unfold nvc at *
      simp (maxSteps := 1000000) (disch := omega) only [go_sem, Nat.reduceEqDiff, Nat.reduceLT, Nat.reduceAdd, Nat.reduceSub, Nat.reduceMul, Nat.reduceBEq, Int.reduceLT, Int.reduceAdd, Int.reduceMul, Int.reduceSub, Int.reduceToNat, Int.reduceLE, Int.reduceEq, ↓reduceIte, reduceCtorEq, Int.reduceNeg, Nat.reduceLeDiff,  hb34]
      first | refine callB_intro (ga _) ?_ | refine callD_intro (ga _) ?_ | refine callP_intro (fun _ => (ga _)) ?_ | refine callX_pure (ga _) ?_
      simp (maxSteps := 1000000) (disch := omega) only [go_sem, Nat.reduceEqDiff, Nat.reduceLT, Nat.reduceAdd, Nat.reduceSub, Nat.reduceMul, Nat.reduceBEq, Int.reduceLT, Int.reduceAdd, Int.reduceMul, Int.reduceSub, Int.reduceToNat, Int.reduceLE, Int.reduceEq, ↓reduceIte, reduceCtorEq, Int.reduceNeg, Nat.reduceLeDiff,  hb34]
      first | refine callB_intro (gb _) ?_ | refine callD_intro (gb _) ?_ | refine callP_intro (fun _ => (gb _)) ?_ | refine callX_pure (gb _) ?_
      simp (maxSteps := 1000000) (disch := omega) only [go_sem, Nat.reduceEqDiff, Nat.reduceLT, Nat.reduceAdd, Nat.reduceSub, Nat.reduceMul, Nat.reduceBEq, Int.reduceLT, Int.reduceAdd, Int.reduceMul, Int.reduceSub, Int.reduceToNat, Int.reduceLE, Int.reduceEq, ↓reduceIte, reduceCtorEq, Int.reduceNeg, Nat.reduceLeDiff]
      exact fin_same (by simp) _ (by first | exact (List.append_nil _).symm | rfl) (by simp (maxSteps := 1000000) (disch := omega) only [resVal, resAll, resOne, rs25, Env.get, go_sem, Nat.reduceEqDiff, Nat.reduceLT, Nat.reduceAdd, Nat.reduceSub, Nat.reduceMul, Nat.reduceBEq, Int.reduceLT, Int.reduceAdd, Int.reduceMul, Int.reduceSub, Int.reduceToNat, Int.reduceLE, Int.reduceEq, ↓reduceIte, reduceCtorEq, Int.reduceNeg, Nat.reduceLeDiff]) (by simp only [AV.und, AV.unds, and_self])
    | true =>
      rw [e1] at gb
      have fy := fy (w1 e1)
      have n1 := n1 (w1 e1)
      by_cases hh : hd0 vs ≤ hd0 ws
      · rw [if_pos ⟨rfl, .inr hh⟩]
        unfold nvc at *
        simp (maxSteps := 1000000) (disch := omega) only [go_sem, Nat.reduceEqDiff, Nat.reduceLT, Nat.reduceAdd, Nat.reduceSub, Nat.reduceMul, Nat.reduceBEq, Int.reduceLT, Int.reduceAdd, Int.reduceMul, Int.reduceSub, Int.reduceToNat, Int.reduceLE, Int.reduceEq, ↓reduceIte, reduceCtorEq, Int.reduceNeg, Nat.reduceLeDiff,  hb34]
        first | refine callB_intro (ga _) ?_ | refine callD_intro (ga _) ?_ | refine callP_intro (fun _ => (ga _)) ?_ | refine callX_pure (ga _) ?_
        simp (maxSteps := 1000000) (disch := omega) only [go_sem, Nat.reduceEqDiff, Nat.reduceLT, Nat.reduceAdd, Nat.reduceSub, Nat.reduceMul, Nat.reduceBEq, Int.reduceLT, Int.reduceAdd, Int.reduceMul, Int.reduceSub, Int.reduceToNat, Int.reduceLE, Int.reduceEq, ↓reduceIte, reduceCtorEq, Int.reduceNeg, Nat.reduceLeDiff,  hb34]
        first | refine callB_intro (gb _) ?_ | refine callD_intro (gb _) ?_ | refine callP_intro (fun _ => (gb _)) ?_ | refine callX_pure (gb _) ?_
        simp (maxSteps := 1000000) (disch := omega) only [go_sem, Nat.reduceEqDiff, Nat.reduceLT, Nat.reduceAdd, Nat.reduceSub, Nat.reduceMul, Nat.reduceBEq, Int.reduceLT, Int.reduceAdd, Int.reduceMul, Int.reduceSub, Int.reduceToNat, Int.reduceLE, Int.reduceEq, ↓reduceIte, reduceCtorEq, Int.reduceNeg, Nat.reduceLeDiff,  blkAt_lo, hpl, hql, hp, hq, fx, fy, n0, n1, hh]
        exact fin_same (by simp) _ (by first | exact (List.append_nil _).symm | rfl) (by simp (maxSteps := 1000000) (disch := omega) only [resVal, resAll, resOne, rs25, Env.get, go_sem, Nat.reduceEqDiff, Nat.reduceLT, Nat.reduceAdd, Nat.reduceSub, Nat.reduceMul, Nat.reduceBEq, Int.reduceLT, Int.reduceAdd, Int.reduceMul, Int.reduceSub, Int.reduceToNat, Int.reduceLE, Int.reduceEq, ↓reduceIte, reduceCtorEq, Int.reduceNeg, Nat.reduceLeDiff]) (by simp only [AV.und, AV.unds, and_self])
      · rw [if_neg (by simp [hh]), if_pos rfl]
        unfold nvc at *
        simp (maxSteps := 1000000) (disch := omega) only [go_sem, Nat.reduceEqDiff, Nat.reduceLT, Nat.reduceAdd, Nat.reduceSub, Nat.reduceMul, Nat.reduceBEq, Int.reduceLT, Int.reduceAdd, Int.reduceMul, Int.reduceSub, Int.reduceToNat, Int.reduceLE, Int.reduceEq, ↓reduceIte, reduceCtorEq, Int.reduceNeg, Nat.reduceLeDiff,  hb34]
        first | refine callB_intro (ga _) ?_ | refine callD_intro (ga _) ?_ | refine callP_intro (fun _ => (ga _)) ?_ | refine callX_pure (ga _) ?_
        simp (maxSteps := 1000000) (disch := omega) only [go_sem, Nat.reduceEqDiff, Nat.reduceLT, Nat.reduceAdd, Nat.reduceSub, Nat.reduceMul, Nat.reduceBEq, Int.reduceLT, Int.reduceAdd, Int.reduceMul, Int.reduceSub, Int.reduceToNat, Int.reduceLE, Int.reduceEq, ↓reduceIte, reduceCtorEq, Int.reduceNeg, Nat.reduceLeDiff,  hb34]
        first | refine callB_intro (gb _) ?_ | refine callD_intro (gb _) ?_ | refine callP_intro (fun _ => (gb _)) ?_ | refine callX_pure (gb _) ?_
        simp (maxSteps := 1000000) (disch := omega) only [go_sem, Nat.reduceEqDiff, Nat.reduceLT, Nat.reduceAdd, Nat.reduceSub, Nat.reduceMul, Nat.reduceBEq, Int.reduceLT, Int.reduceAdd, Int.reduceMul, Int.reduceSub, Int.reduceToNat, Int.reduceLE, Int.reduceEq, ↓reduceIte, reduceCtorEq, Int.reduceNeg, Nat.reduceLeDiff,  blkAt_lo, hpl, hql, hp, hq, fx, fy, n0, n1, hh, hb34]
        first | refine callB_intro (gb _) ?_ | refine callD_intro (gb _) ?_ | refine callP_intro (fun _ => (gb _)) ?_ | refine callX_pure (gb _) ?_
        simp (maxSteps := 1000000) (disch := omega) only [go_sem, Nat.reduceEqDiff, Nat.reduceLT, Nat.reduceAdd, Nat.reduceSub, Nat.reduceMul, Nat.reduceBEq, Int.reduceLT, Int.reduceAdd, Int.reduceMul, Int.reduceSub, Int.reduceToNat, Int.reduceLE, Int.reduceEq, ↓reduceIte, reduceCtorEq, Int.reduceNeg, Nat.reduceLeDiff]
        exact fin_same (by simp) _ (by first | exact (List.append_nil _).symm | rfl) (by simp (maxSteps := 1000000) (disch := omega) only [resVal, resAll, resOne, rs25, Env.get, go_sem, Nat.reduceEqDiff, Nat.reduceLT, Nat.reduceAdd, Nat.reduceSub, Nat.reduceMul, Nat.reduceBEq, Int.reduceLT, Int.reduceAdd, Int.reduceMul, Int.reduceSub, Int.reduceToNat, Int.reduceLE, Int.reduceEq, ↓reduceIte, reduceCtorEq, Int.reduceNeg, Nat.reduceLeDiff]) (by simp only [AV.und, AV.unds, and_self])
end Go.Proofs.Ytjibcbfdfambeaa.Ah
