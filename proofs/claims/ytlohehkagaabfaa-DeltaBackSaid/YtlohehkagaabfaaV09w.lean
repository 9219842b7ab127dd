/- V09w: a part of the proof: contracts of functions, or plain laws. Conditions: none. -/
import Derived.Test.YtlohehkagaabfaaV09v
import Derived.Test.YtlohehkagaabfaaV09m
namespace Go.Proofs.Ytlohehkagaabfaa.Ah
open Go Go.WideShapes
attribute [local irreducible] acs aopsK drawK leave condK bindR bindD bindX guardK guardD callB callD callX callP callPv rfunG rfunK yldB yldD
attribute [local go_sem] acs_nil acs_blk acs_skip acs_reg acs_dreg acs_freg acs_nam0 acs_nam nones acs_seq acs_cond acs_block acs_exit acs_ret acs_kl acs_loop leave_nil leave_code leave_lp leave_blk aopsK_nil aopsK_cons aopsK_guard bindR_val bindR_need bindR_br bindR_call bindR_ycall acs_rfun rfunG_fn bindR_bad drawK_nil drawK_cons drawK_ext drawK_pur drawK_guard callPv_fn drawK_purv bindD_val bindD_need bindD_br bindD_call bindD_ycall bindD_bad bindX_val bindX_need bindX_br bindX_call guardD_bool guardD_tup grows grows0 List.append_cancel_left_eq List.cons.injEq exists_eq' exists_eq condK_bool guardK_bool guardK_tup sor r0 r1 r2 r3 rC rB rI rP rA rT rS rF rSl rO rbin rcut run1 Env.evals Env.eval Env.get Env.put Env.ins Env.del Env.dels argEnv AV.full AV.cells AV.cell eqCells decide_true decide_false decide_eq_true_eq decide_eq_false_iff_not Bool.not_eq_true' Bool.not_eq_false' true_and and_true false_implies true_implies forall_const Bool.not_true Bool.not_false Bool.false_eq_true Bool.true_eq_false List.getElem?_cons_zero List.getElem?_cons_succ List.length_cons List.length_nil List.length_append List.all_cons List.all_nil Bool.and_true Bool.and_self implies_true List.append_assoc List.cons_append List.nil_append List.append_nil i64_in imin_eq imax_eq cast3 cast0 cast1 cast2 Option.map_none ite_self and_false false_and Option.isSome_some or_true true_or Int.sub_zero Int.mul_one Nat.sub_zero Nat.zero_le Int.cast_ofNat_Int Int.natCast_nonneg Int.toNat_natCast ne_eq not_false_eq_true not_true_eq_false strC blkAt_app blkAt_app0 blkAt_zero blkAt_succ List.set_cons_zero List.set_cons_succ set_app set_app0 Option.map_some Option.bind_some rd setCells lay rdS szOk rapp ownAt lenAt Option.any_some Option.getD_some List.drop_zero List.drop_succ_cons List.take_succ_cons List.take_zero List.drop_nil List.take_nil Nat.lt_irrefl Nat.zero_add Nat.add_zero Nat.mul_one Nat.one_mul Nat.add_assoc Option.some.injEq eq_self
set_option maxHeartbeats 4000000
set_option linter.unusedSimpArgs false
set_option linter.unusedVariables false
/-! The law DeltaBack. -/
theorem dif_same : ∀ (l : List Int) (cur : List Int) (j : Nat), dif (cur, j) l l = cur
  | [], cur, j => by simp [dif]
  | x :: l, cur, j => by rw [dif, if_pos rfl, dif_same l]
theorem diff_same (l : List Int) : diff l l = List.replicate ((l.length + 59) / 60) 0 := dif_same l _ _
theorem diff_pos {bs ns : List Int} (h : 0 < ns.length) : 0 < (diff bs ns).length := by
  unfold diff
  rw [dif_length, List.length_replicate]
  omega
theorem diff_le {bs ns : List Int} (h : ns.length ≤ 600) : (diff bs ns).length ≤ 1000 := by
  unfold diff
  rw [dif_length, List.length_replicate]
  have := cnt_le bs ns
  omega
theorem f8_loop {M q : Nat} {X : Heap} {Q : Post} {fs : List Fr} {o : Bool} {c : Option Nat} {a1 a5 a6 a7 a8 a10 a11 a12 a14 : AV} (hq : blkAt X q = some ⟨(List.replicate M 0).map (AV.int .i64), o⟩) (hM : M ≤ 1000)
    (hn : leave Try.prog 0 fs [(1, a1), (5, a5), (6, a6), (7, a7), (8, a8), (10, a10), (11, a11), (12, a12), (13, .sl q 0 M 1 c), (14, a14)] X Q) :
    ∀ (r k : Nat), k + r = M → acs Try.prog (.lp c8l0 :: fs) [(1, a1), (5, a5), (6, a6), (7, a7), (8, a8), (10, a10), (11, a11), (12, a12), (13, .sl q 0 M 1 c), (14, a14), (15, .int .i64 (k : Int))] X Q := by
  intro r
  induction r with
  | zero =>
    intro k hr
    have hge : ¬ (k : Int) < (M : Int) := by omega
    rw [acs_lp]; conv in Fr.code c8l0 => unfold c8l0
    simp (maxSteps := 1000000) (disch := omega) only [go_sem, Nat.reduceEqDiff, Nat.reduceLT, Nat.reduceAdd, Nat.reduceSub, Nat.reduceMul, Nat.reduceBEq, Int.reduceLT, Int.reduceAdd, Int.reduceMul, Int.reduceSub, Int.reduceToNat, Int.reduceLE, Int.reduceEq, ↓reduceIte, reduceCtorEq, Int.reduceNeg, Nat.reduceLeDiff,  hge]
    exact hn
  | succ r ih =>
    intro k hr
    have hlt : (k : Int) < (M : Int) := by omega
    have fk := getMap (k := .i64) (show (List.replicate M (0 : Int))[k]? = some 0 by rw [List.getElem?_replicate, if_pos (by omega)])
    rw [acs_lp]; conv in Fr.code c8l0 => unfold c8l0
    simp (maxSteps := 1000000) (disch := omega) only [go_sem, Nat.reduceEqDiff, Nat.reduceLT, Nat.reduceAdd, Nat.reduceSub, Nat.reduceMul, Nat.reduceBEq, Int.reduceLT, Int.reduceAdd, Int.reduceMul, Int.reduceSub, Int.reduceToNat, Int.reduceLE, Int.reduceEq, ↓reduceIte, reduceCtorEq, Int.reduceNeg, Nat.reduceLeDiff,  hlt, hq, fk]
    exact ih (k + 1) (by omega)
def c8t : SC := tl2 (tl2 (tl2 (tl2 (tl2 (tl2 c8)))))
theorem f8_tail {ns : List Int} {p q qd L : Nat} {c1 c2 : Option Nat} {o' : Bool} {H X2 : Heap} {pv back : AV} (hx2 : Ext H X2) (hq : blkAt H q = some ⟨ns.map (AV.int .i64), o'⟩) (l1 : ns.length ≤ 600) (hL : L ≤ 1000)
    (hpv : pv = .nils ∧ (L + 7) / 8 = 0 ∨ ∃ qp, pv = .sl qp 0 ((L + 7) / 8) 8 none)
    (g16 : ACallE Try.prog 16 [.sl p 0 ns.length 1 c1, back] X2 fun v H' => ∃ q3 c3, v = .tup [.sl q3 0 ns.length 1 c3, .int .i64 0] ∧ Sl i64 H' q3 0 ns) :
    acs Try.prog [.code c8t] [(0, .sl p 0 ns.length 1 c1), (1, .sl q 0 ns.length 1 c2), (5, .bool true), (6, .sl qd 0 L 1 none), (7, .int .i64 0), (8, pv), (9, back), (10, .int .i64 0)] X2 (Fin H rs8 (.bool true) H) := by
  have g12 := fun G => f12 (L : Int) G (by omega)
  have e12 : ((L : Int) + 7) / 8 = (((L + 7) / 8 : Nat) : Int) := by omega
  rw [e12] at g12
  have ed : ((ns.length : Int) + 59).tdiv 60 = (((ns.length + 59) / 60 : Nat) : Int) := by rw [Int.tdiv_eq_ediv_of_nonneg (by omega)]; omega
  unfold c8t c8 tl2
  simp (maxSteps := 1000000) (disch := omega) only [go_sem, Nat.reduceEqDiff, Nat.reduceLT, Nat.reduceAdd, Nat.reduceSub, Nat.reduceMul, Nat.reduceBEq, Int.reduceLT, Int.reduceAdd, Int.reduceMul, Int.reduceSub, Int.reduceToNat, Int.reduceLE, Int.reduceEq, ↓reduceIte, reduceCtorEq, Int.reduceNeg, Nat.reduceLeDiff]
  refine callBE g16 ?_
  rintro v X3 he3 ⟨q3, c3, rfl, hs3⟩
  have hx3 := hx2.trans he3
  have hq3 := hx3.blk hq
  have g10 := f10 ns ns q q c2 c2 o' o' X3 hq3 hq3 rfl l1
  rw [diff_same, List.length_replicate] at g10
  generalize hM : (ns.length + 59) / 60 = M at *
  simp (maxSteps := 1000000) (disch := omega) only [go_sem, Nat.reduceEqDiff, Nat.reduceLT, Nat.reduceAdd, Nat.reduceSub, Nat.reduceMul, Nat.reduceBEq, Int.reduceLT, Int.reduceAdd, Int.reduceMul, Int.reduceSub, Int.reduceToNat, Int.reduceLE, Int.reduceEq, ↓reduceIte, reduceCtorEq, Int.reduceNeg, Nat.reduceLeDiff]
  first | refine callB_intro (g10) ?_ | refine callD_intro (g10) ?_ | refine callP_intro (fun _ => (g10)) ?_ | refine callX_pure (g10) ?_
  simp (maxSteps := 1000000) (disch := omega) only [go_sem, Nat.reduceEqDiff, Nat.reduceLT, Nat.reduceAdd, Nat.reduceSub, Nat.reduceMul, Nat.reduceBEq, Int.reduceLT, Int.reduceAdd, Int.reduceMul, Int.reduceSub, Int.reduceToNat, Int.reduceLE, Int.reduceEq, ↓reduceIte, reduceCtorEq, Int.reduceNeg, Nat.reduceLeDiff]
  refine f8_loop (M := M) (q := X3.length) (o := true) (by rw [blkAt_app0]; rfl) (by omega) ?_ M 0 (by omega)
  have gi := f14 (c1 := c3) (c2 := c2) (hs3.app [some ⟨(List.replicate M 0).map (AV.int .i64), true⟩]) ((Sl.whole (o := o') hq3).app _) (by omega)
  rw [decide_eq_true rfl] at gi
  rcases hpv with ⟨rfl, hK⟩ | ⟨qp, rfl⟩
  · rw [hK] at g12
    simp (maxSteps := 1000000) (disch := omega) only [go_sem, Nat.reduceEqDiff, Nat.reduceLT, Nat.reduceAdd, Nat.reduceSub, Nat.reduceMul, Nat.reduceBEq, Int.reduceLT, Int.reduceAdd, Int.reduceMul, Int.reduceSub, Int.reduceToNat, Int.reduceLE, Int.reduceEq, ↓reduceIte, reduceCtorEq, Int.reduceNeg, Nat.reduceLeDiff]
    first | refine callB_intro (gi) ?_ | refine callD_intro (gi) ?_ | refine callP_intro (fun _ => (gi)) ?_ | refine callX_pure (gi) ?_
    simp (maxSteps := 1000000) (disch := omega) only [go_sem, Nat.reduceEqDiff, Nat.reduceLT, Nat.reduceAdd, Nat.reduceSub, Nat.reduceMul, Nat.reduceBEq, Int.reduceLT, Int.reduceAdd, Int.reduceMul, Int.reduceSub, Int.reduceToNat, Int.reduceLE, Int.reduceEq, ↓reduceIte, reduceCtorEq, Int.reduceNeg, Nat.reduceLeDiff]
    first | refine callB_intro (g12 _) ?_ | refine callD_intro (g12 _) ?_ | refine callP_intro (fun _ => (g12 _)) ?_ | refine callX_pure (g12 _) ?_
    simp (maxSteps := 1000000) (disch := omega) only [go_sem, Nat.reduceEqDiff, Nat.reduceLT, Nat.reduceAdd, Nat.reduceSub, Nat.reduceMul, Nat.reduceBEq, Int.reduceLT, Int.reduceAdd, Int.reduceMul, Int.reduceSub, Int.reduceToNat, Int.reduceLE, Int.reduceEq, ↓reduceIte, reduceCtorEq, Int.reduceNeg, Nat.reduceLeDiff,  ed]
    exact fin_ext (by simp) (hx3.to _) (by simp (maxSteps := 1000000) (disch := omega) only [resVal, resAll, resOne, rs8, Env.get, go_sem, Nat.reduceEqDiff, Nat.reduceLT, Nat.reduceAdd, Nat.reduceSub, Nat.reduceMul, Nat.reduceBEq, Int.reduceLT, Int.reduceAdd, Int.reduceMul, Int.reduceSub, Int.reduceToNat, Int.reduceLE, Int.reduceEq, ↓reduceIte, reduceCtorEq, Int.reduceNeg, Nat.reduceLeDiff]) (by simp only [AV.und, AV.unds, and_self])
  · simp (maxSteps := 1000000) (disch := omega) only [go_sem, Nat.reduceEqDiff, Nat.reduceLT, Nat.reduceAdd, Nat.reduceSub, Nat.reduceMul, Nat.reduceBEq, Int.reduceLT, Int.reduceAdd, Int.reduceMul, Int.reduceSub, Int.reduceToNat, Int.reduceLE, Int.reduceEq, ↓reduceIte, reduceCtorEq, Int.reduceNeg, Nat.reduceLeDiff]
    first | refine callB_intro (gi) ?_ | refine callD_intro (gi) ?_ | refine callP_intro (fun _ => (gi)) ?_ | refine callX_pure (gi) ?_
    simp (maxSteps := 1000000) (disch := omega) only [go_sem, Nat.reduceEqDiff, Nat.reduceLT, Nat.reduceAdd, Nat.reduceSub, Nat.reduceMul, Nat.reduceBEq, Int.reduceLT, Int.reduceAdd, Int.reduceMul, Int.reduceSub, Int.reduceToNat, Int.reduceLE, Int.reduceEq, ↓reduceIte, reduceCtorEq, Int.reduceNeg, Nat.reduceLeDiff]
    first | refine callB_intro (g12 _) ?_ | refine callD_intro (g12 _) ?_ | refine callP_intro (fun _ => (g12 _)) ?_ | refine callX_pure (g12 _) ?_
    simp (maxSteps := 1000000) (disch := omega) only [go_sem, Nat.reduceEqDiff, Nat.reduceLT, Nat.reduceAdd, Nat.reduceSub, Nat.reduceMul, Nat.reduceBEq, Int.reduceLT, Int.reduceAdd, Int.reduceMul, Int.reduceSub, Int.reduceToNat, Int.reduceLE, Int.reduceEq, ↓reduceIte, reduceCtorEq, Int.reduceNeg, Nat.reduceLeDiff,  ed]
    exact fin_ext (by simp) (hx3.to _) (by simp (maxSteps := 1000000) (disch := omega) only [resVal, resAll, resOne, rs8, Env.get, go_sem, Nat.reduceEqDiff, Nat.reduceLT, Nat.reduceAdd, Nat.reduceSub, Nat.reduceMul, Nat.reduceBEq, Int.reduceLT, Int.reduceAdd, Int.reduceMul, Int.reduceSub, Int.reduceToNat, Int.reduceLE, Int.reduceEq, ↓reduceIte, reduceCtorEq, Int.reduceNeg, Nat.reduceLeDiff]) (by simp only [AV.und, AV.unds, and_self])
end Go.Proofs.Ytlohehkagaabfaa.Ah
