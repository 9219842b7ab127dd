/- V08m: a part of the proof: contracts of functions, or plain laws. Conditions: none. -/
import Derived.Test.YtjibphejlmiocaaV08k
namespace Go.Proofs.Ytjibphejlmiocaa.Ah
open Go Go.WideShapes
attribute [local irreducible] acs aopsK drawK leave condK bindR bindD bindX guardK guardD callB callD callX callP callPv rfunG rfunK yldB yldD
attribute [local go_sem] acs_nil acs_blk acs_skip acs_reg acs_dreg acs_freg acs_nam0 acs_nam nones acs_seq acs_cond acs_block acs_exit acs_ret acs_kl acs_loop leave_nil leave_code leave_lp leave_blk aopsK_nil aopsK_cons aopsK_guard bindR_val bindR_need bindR_br bindR_call bindR_ycall acs_rfun rfunG_fn bindR_bad drawK_nil drawK_cons drawK_ext drawK_pur drawK_guard callPv_fn drawK_purv bindD_val bindD_need bindD_br bindD_call bindD_ycall bindD_bad bindX_val bindX_need bindX_br bindX_call guardD_bool guardD_tup grows grows0 List.append_cancel_left_eq List.cons.injEq exists_eq' exists_eq condK_bool guardK_bool guardK_tup sor r0 r1 r2 r3 rC rB rI rP rA rT rS rF rSl rO rbin rcut run1 Env.evals Env.eval Env.get Env.put Env.ins Env.del Env.dels argEnv AV.full AV.cells AV.cell eqCells decide_true decide_false decide_eq_true_eq decide_eq_false_iff_not Bool.not_eq_true' Bool.not_eq_false' true_and and_true false_implies true_implies forall_const Bool.not_true Bool.not_false Bool.false_eq_true Bool.true_eq_false List.getElem?_cons_zero List.getElem?_cons_succ List.length_cons List.length_nil List.length_append List.all_cons List.all_nil Bool.and_true Bool.and_self implies_true List.append_assoc List.cons_append List.nil_append List.append_nil i64_in imin_eq imax_eq cast3 cast0 cast1 cast2 Option.map_none ite_self and_false false_and Option.isSome_some or_true true_or Int.sub_zero Int.mul_one Nat.sub_zero Nat.zero_le Int.cast_ofNat_Int Int.natCast_nonneg Int.toNat_natCast ne_eq not_false_eq_true not_true_eq_false strC blkAt_app blkAt_app0 blkAt_zero blkAt_succ List.set_cons_zero List.set_cons_succ set_app set_app0 Option.map_some Option.bind_some rd setCells lay rdS szOk rapp ownAt lenAt Option.any_some Option.getD_some List.drop_zero List.drop_succ_cons List.take_succ_cons List.take_zero List.drop_nil List.take_nil Nat.lt_irrefl Nat.zero_add Nat.add_zero Nat.mul_one Nat.one_mul Nat.add_assoc Option.some.injEq eq_self
set_option maxHeartbeats 4000000
set_option linter.unusedSimpArgs false
set_option linter.unusedVariables false
/-! The sample of words. -/
/-- The sample that thirteen words tell, if they do. -/
def upk : List Int → Option Smp
  | [m, g0, g1, g2, a0, a1, a2, hb, b, hg, n0, n1, n2] => if (m = 0 ∨ m = 1) ∧ (hb = 0 ∨ hb = 1) ∧ (hg = 0 ∨ hg = 1) then some ⟨decide (m = 1), g0, g1, g2, a0, a1, a2, decide (hb = 1), b, decide (hg = 1), n0, n1, n2⟩ else none
  | _ => none
def smp0 : Smp := ⟨false, 0, 0, 0, 0, 0, 0, false, 0, false, 0, 0, 0⟩
def upkS (l : List Int) : Smp := (upk l).getD smp0
def upkE (l : List Int) : Int := if (upk l).isSome then 0 else 2
theorem upk_len {l : List Int} (h : l.length ≠ 13) : upk l = none := by
  unfold upk
  split
  · exact absurd rfl h
  · rfl
theorem of13 {l : List Int} (h : l.length = 13) : ∃ m g0 g1 g2 a0 a1 a2 hb b hg n0 n1 n2, l = [m, g0, g1, g2, a0, a1, a2, hb, b, hg, n0, n1, n2] := by
  match l, h with
  | [m, g0, g1, g2, a0, a1, a2, hb, b, hg, n0, n1, n2], _ => exact ⟨m, g0, g1, g2, a0, a1, a2, hb, b, hg, n0, n1, n2, rfl⟩
theorem one_dec {m : Int} (h : m = 0 ∨ m = 1) : one (decide (m = 1)) = m := by rcases h with rfl | rfl <;> rfl
theorem one_ne {m : Int} (h : ¬ (m = 0 ∨ m = 1)) : one (decide (m = 1)) ≠ m := by
  have h1 : ¬ m = 1 := fun e => h (.inr e)
  rw [decide_eq_false h1]
  exact fun e => h (.inl e.symm)
theorem f31 {l : List Int} {p off b : Nat} {c : Option Nat} {o : Bool} {i : Nat} {x y z : Int} {H : Heap} (hs : Sl i64 H p off l) (hb : blkAt H b = some ⟨[.sl p off l.length 1 c], o⟩) (hi : i + 2 < l.length) (hx : l[i]? = some x) (hy : l[i + 1]? = some y) (hz : l[i + 2]? = some z) (hl : l.length ≤ 1000) :
    ACall Try.prog 31 [.int .i64 (i : Nat), .ptr b 0] H (.agg [.int .i64 x, .int .i64 y, .int .i64 z]) H := by
  refine acall31 (by simp) (acs_start ?_)
  have hbl := blkAt_lt hb
  obtain ⟨cs, o', hp, hle, hcs⟩ := hs
  have hpl := blkAt_lt hp
  have fx := sl_get hcs hx
  have fy := sl_get hcs hy
  have fz := sl_get hcs hz
  simp only [i64] at fx fy fz
  have h0 : (i : Int) < (l.length : Int) := by omega
  have h1 : 0 ≤ (i : Int) + 1 := by omega
  have h2 : (i : Int) + 1 < (l.length : Int) := by omega
  have h3 : 0 ≤ (i : Int) + 2 := by omega
  have h4 : (i : Int) + 2 < (l.length : Int) := by omega
  have t1 : ((i : Int) + 1).toNat = i + 1 := by omega
  have t2 : ((i : Int) + 2).toNat = i + 2 := by omega
  unfold c31
  simp (maxSteps := 1000000) (disch := omega) only [go_sem, Nat.reduceEqDiff, Nat.reduceLT, Nat.reduceAdd, Nat.reduceSub, Nat.reduceMul, Nat.reduceBEq, Int.reduceLT, Int.reduceAdd, Int.reduceMul, Int.reduceSub, Int.reduceToNat, Int.reduceLE, Int.reduceEq, ↓reduceIte, reduceCtorEq, Int.reduceNeg, Nat.reduceLeDiff,  hb, hbl, hp, hpl, fx, fy, fz, h0, h1, h2, h3, h4, t1, t2, blkAt_lo]
  exact fin_same (by simp) _ (by first | exact (List.append_nil _).symm | rfl) (by simp (maxSteps := 1000000) (disch := omega) only [resVal, resAll, resOne, rs31, Env.get, go_sem, Nat.reduceEqDiff, Nat.reduceLT, Nat.reduceAdd, Nat.reduceSub, Nat.reduceMul, Nat.reduceBEq, Int.reduceLT, Int.reduceAdd, Int.reduceMul, Int.reduceSub, Int.reduceToNat, Int.reduceLE, Int.reduceEq, ↓reduceIte, reduceCtorEq, Int.reduceNeg, Nat.reduceLeDiff]) (by simp only [AV.und, AV.unds, and_self])
theorem hb31 : hasBody Try.prog 31 = true := by kernel_rfl
theorem f16 {l : List Int} {p off : Nat} {c : Option Nat} {H : Heap} (hs : Sl i64 H p off l) (hl : l.length ≤ 1000) : ACall Try.prog 16 [.sl p off l.length 1 c] H (.tup [.agg (upkS l).av, .int .i64 (upkE l)]) H := by
  refine acall16 (by simp) (acs_start ?_)
  unfold upkE upkS
  by_cases h13 : l.length = 13
  rotate_left
  · have hn : ¬ (l.length : Int) = 13 := by omega
    rw [upk_len h13]
    simp only [Option.getD_none, Option.isSome_none, Bool.false_eq_true, ↓reduceIte]
    unfold smp0 Smp.av
    unfold c16
    simp (maxSteps := 1000000) (disch := omega) only [go_sem, Nat.reduceEqDiff, Nat.reduceLT, Nat.reduceAdd, Nat.reduceSub, Nat.reduceMul, Nat.reduceBEq, Int.reduceLT, Int.reduceAdd, Int.reduceMul, Int.reduceSub, Int.reduceToNat, Int.reduceLE, Int.reduceEq, ↓reduceIte, reduceCtorEq, Int.reduceNeg, Nat.reduceLeDiff,  hn]
    exact fin_same (by simp) _ (by first | exact (List.append_nil _).symm | rfl) (by simp (maxSteps := 1000000) (disch := omega) only [resVal, resAll, resOne, rs16, Env.get, go_sem, Nat.reduceEqDiff, Nat.reduceLT, Nat.reduceAdd, Nat.reduceSub, Nat.reduceMul, Nat.reduceBEq, Int.reduceLT, Int.reduceAdd, Int.reduceMul, Int.reduceSub, Int.reduceToNat, Int.reduceLE, Int.reduceEq, ↓reduceIte, reduceCtorEq, Int.reduceNeg, Nat.reduceLeDiff]) (by simp only [AV.und, AV.unds, and_self])
  obtain ⟨m, g0, g1, g2, a0, a1, a2, hb, b, hg, n0, n1, n2, rfl⟩ := of13 h13
  have hpl := hs.lt
  have gV := fun (Hx : Heap) (hx : Ext H Hx) (i : Nat) (x y z : Int) (h1 : i + 2 < [m, g0, g1, g2, a0, a1, a2, hb, b, hg, n0, n1, n2].length) h2 h3 h4 (hbb : blkAt Hx H.length = some ⟨[.sl p off 13 1 c], true⟩) => f31 (i := i) (x := x) (y := y) (z := z) (hx.sl hs) hbb h1 h2 h3 h4 (by simp)
  have gP := fun (s : Smp) H => f15 s H
  have gE := fun (s : Smp) (H' : Heap) (hx : Ext H H') p' o' c' (h : Sl i64 H' p' o' (pk s)) => f28 (c1 := c') (c2 := c) h (hx.sl hs) (by simp [pk])
  obtain ⟨cs, o', hp, hle, hcs⟩ := hs
  have x0 : cs[off]? = some (.int .i64 m) := by have := sl_get hcs (j := 0) (z := m) rfl; rwa [Nat.add_zero] at this
  have x7 : cs[off + 7]? = some (.int .i64 hb) := sl_get hcs (j := 7) rfl
  have x8 : cs[off + 8]? = some (.int .i64 b) := sl_get hcs (j := 8) rfl
  have x9 : cs[off + 9]? = some (.int .i64 hg) := sl_get hcs (j := 9) rfl
  unfold c16
  simp (maxSteps := 1000000) (disch := omega) only [go_sem, Nat.reduceEqDiff, Nat.reduceLT, Nat.reduceAdd, Nat.reduceSub, Nat.reduceMul, Nat.reduceBEq, Int.reduceLT, Int.reduceAdd, Int.reduceMul, Int.reduceSub, Int.reduceToNat, Int.reduceLE, Int.reduceEq, ↓reduceIte, reduceCtorEq, Int.reduceNeg, Nat.reduceLeDiff,  hb31, x0, x7, x8, x9, hp, hpl, blkAt_lo]
  refine callP_intro (fun G' => gV _ ((Ext.app _ _).to G') 1 g0 g1 g2 (by simp) rfl rfl rfl (by simp only [go_sem, Nat.reduceEqDiff, Nat.reduceLT, Nat.reduceAdd, Nat.reduceSub, Nat.reduceMul, Nat.reduceBEq, Int.reduceLT, Int.reduceAdd, Int.reduceMul, Int.reduceSub, Int.reduceToNat, Int.reduceLE, Int.reduceEq, ↓reduceIte, reduceCtorEq, Int.reduceNeg, Nat.reduceLeDiff])) ?_
  simp (maxSteps := 1000000) (disch := omega) only [go_sem, Nat.reduceEqDiff, Nat.reduceLT, Nat.reduceAdd, Nat.reduceSub, Nat.reduceMul, Nat.reduceBEq, Int.reduceLT, Int.reduceAdd, Int.reduceMul, Int.reduceSub, Int.reduceToNat, Int.reduceLE, Int.reduceEq, ↓reduceIte, reduceCtorEq, Int.reduceNeg, Nat.reduceLeDiff,  hb31, x0, x7, x8, x9, hp, hpl, blkAt_lo]
  refine callP_intro (fun G' => gV _ ((Ext.app _ _).to G') 4 a0 a1 a2 (by simp) rfl rfl rfl (by simp only [go_sem, Nat.reduceEqDiff, Nat.reduceLT, Nat.reduceAdd, Nat.reduceSub, Nat.reduceMul, Nat.reduceBEq, Int.reduceLT, Int.reduceAdd, Int.reduceMul, Int.reduceSub, Int.reduceToNat, Int.reduceLE, Int.reduceEq, ↓reduceIte, reduceCtorEq, Int.reduceNeg, Nat.reduceLeDiff])) ?_
  simp (maxSteps := 1000000) (disch := omega) only [go_sem, Nat.reduceEqDiff, Nat.reduceLT, Nat.reduceAdd, Nat.reduceSub, Nat.reduceMul, Nat.reduceBEq, Int.reduceLT, Int.reduceAdd, Int.reduceMul, Int.reduceSub, Int.reduceToNat, Int.reduceLE, Int.reduceEq, ↓reduceIte, reduceCtorEq, Int.reduceNeg, Nat.reduceLeDiff,  hb31, x0, x7, x8, x9, hp, hpl, blkAt_lo]
  refine callP_intro (fun G' => gV _ ((Ext.app _ _).to G') 10 n0 n1 n2 (by simp) rfl rfl rfl (by simp only [go_sem, Nat.reduceEqDiff, Nat.reduceLT, Nat.reduceAdd, Nat.reduceSub, Nat.reduceMul, Nat.reduceBEq, Int.reduceLT, Int.reduceAdd, Int.reduceMul, Int.reduceSub, Int.reduceToNat, Int.reduceLE, Int.reduceEq, ↓reduceIte, reduceCtorEq, Int.reduceNeg, Nat.reduceLeDiff])) ?_
  simp (maxSteps := 1000000) (disch := omega) only [go_sem, Nat.reduceEqDiff, Nat.reduceLT, Nat.reduceAdd, Nat.reduceSub, Nat.reduceMul, Nat.reduceBEq, Int.reduceLT, Int.reduceAdd, Int.reduceMul, Int.reduceSub, Int.reduceToNat, Int.reduceLE, Int.reduceEq, ↓reduceIte, reduceCtorEq, Int.reduceNeg, Nat.reduceLeDiff,  hb31, x0, x7, x8, x9, hp, hpl, blkAt_lo]
  first | refine callBE (gP ⟨decide (m = 1), g0, g1, g2, a0, a1, a2, decide (hb = 1), b, decide (hg = 1), n0, n1, n2⟩ _) ?_ | refine callDE (gP ⟨decide (m = 1), g0, g1, g2, a0, a1, a2, decide (hb = 1), b, decide (hg = 1), n0, n1, n2⟩ _) ?_ | refine callXE (gP ⟨decide (m = 1), g0, g1, g2, a0, a1, a2, decide (hb = 1), b, decide (hg = 1), n0, n1, n2⟩ _) ?_
  rintro v1 H1 hx ⟨p1, o1, c1, rfl, s1⟩
  have bA : blkAt H1 H.length = some ⟨[.sl p off 13 1 c], true⟩ := hx.blk (by simp only [go_sem, Nat.reduceEqDiff, Nat.reduceLT, Nat.reduceAdd, Nat.reduceSub, Nat.reduceMul, Nat.reduceBEq, Int.reduceLT, Int.reduceAdd, Int.reduceMul, Int.reduceSub, Int.reduceToNat, Int.reduceLE, Int.reduceEq, ↓reduceIte, reduceCtorEq, Int.reduceNeg, Nat.reduceLeDiff])
  have bB := hx.blk (b := H.length + 1) (x := ⟨smp0.av, true⟩) (by simp only [go_sem, Nat.reduceEqDiff, Nat.reduceLT, Nat.reduceAdd, Nat.reduceSub, Nat.reduceMul, Nat.reduceBEq, Int.reduceLT, Int.reduceAdd, Int.reduceMul, Int.reduceSub, Int.reduceToNat, Int.reduceLE, Int.reduceEq, ↓reduceIte, reduceCtorEq, Int.reduceNeg, Nat.reduceLeDiff]; rfl)
  have bC := hx.blk (b := H.length + 2) (x := ⟨(Smp.mk (decide (m = 1)) g0 g1 g2 a0 a1 a2 (decide (hb = 1)) b (decide (hg = 1)) n0 n1 n2).av, true⟩) (by simp only [go_sem, Nat.reduceEqDiff, Nat.reduceLT, Nat.reduceAdd, Nat.reduceSub, Nat.reduceMul, Nat.reduceBEq, Int.reduceLT, Int.reduceAdd, Int.reduceMul, Int.reduceSub, Int.reduceToNat, Int.reduceLE, Int.reduceEq, ↓reduceIte, reduceCtorEq, Int.reduceNeg, Nat.reduceLeDiff]; rfl)
  have lB := blkAt_lt bB
  have hy : Ext H H1 := (Ext.app _ _).trans hx
  have gE := gE _ H1 hy p1 o1 c1 s1
  have hyS := fun x => hy.set (b := H.length + 1) (by omega) x
  by_cases hv : (m = 0 ∨ m = 1) ∧ (hb = 0 ∨ hb = 1) ∧ (hg = 0 ∨ hg = 1)
  · have e1 : decide (pk (Smp.mk (decide (m = 1)) g0 g1 g2 a0 a1 a2 (decide (hb = 1)) b (decide (hg = 1)) n0 n1 n2) = [m, g0, g1, g2, a0, a1, a2, hb, b, hg, n0, n1, n2]) = true := by
      rw [decide_eq_true_eq]
      unfold pk
      simp only [one_dec hv.1, one_dec hv.2.1, one_dec hv.2.2]
    have e2 : upk [m, g0, g1, g2, a0, a1, a2, hb, b, hg, n0, n1, n2] = some ⟨decide (m = 1), g0, g1, g2, a0, a1, a2, decide (hb = 1), b, decide (hg = 1), n0, n1, n2⟩ := if_pos hv
    rw [e1] at gE
    rw [e2]
    simp only [Option.getD_some, Option.isSome_some, ↓reduceIte]
    unfold Smp.av at *
    simp (maxSteps := 1000000) (disch := omega) only [go_sem, Nat.reduceEqDiff, Nat.reduceLT, Nat.reduceAdd, Nat.reduceSub, Nat.reduceMul, Nat.reduceBEq, Int.reduceLT, Int.reduceAdd, Int.reduceMul, Int.reduceSub, Int.reduceToNat, Int.reduceLE, Int.reduceEq, ↓reduceIte, reduceCtorEq, Int.reduceNeg, Nat.reduceLeDiff,  bA]
    first | refine callB_intro (gE) ?_ | refine callD_intro (gE) ?_ | refine callP_intro (fun _ => (gE)) ?_ | refine callX_pure (gE) ?_
    simp (maxSteps := 1000000) (disch := omega) only [go_sem, Nat.reduceEqDiff, Nat.reduceLT, Nat.reduceAdd, Nat.reduceSub, Nat.reduceMul, Nat.reduceBEq, Int.reduceLT, Int.reduceAdd, Int.reduceMul, Int.reduceSub, Int.reduceToNat, Int.reduceLE, Int.reduceEq, ↓reduceIte, reduceCtorEq, Int.reduceNeg, Nat.reduceLeDiff,  bB, bC, smp0]
    exact fin_ext (by simp) (hyS _) (by simp (maxSteps := 1000000) (disch := omega) only [resVal, resAll, resOne, rs16, Env.get, go_sem, Nat.reduceEqDiff, Nat.reduceLT, Nat.reduceAdd, Nat.reduceSub, Nat.reduceMul, Nat.reduceBEq, Int.reduceLT, Int.reduceAdd, Int.reduceMul, Int.reduceSub, Int.reduceToNat, Int.reduceLE, Int.reduceEq, ↓reduceIte, reduceCtorEq, Int.reduceNeg, Nat.reduceLeDiff, blkAt_set_self, lB, List.length_set]) (by simp only [AV.und, AV.unds, and_self])
  · have e1 : decide (pk (Smp.mk (decide (m = 1)) g0 g1 g2 a0 a1 a2 (decide (hb = 1)) b (decide (hg = 1)) n0 n1 n2) = [m, g0, g1, g2, a0, a1, a2, hb, b, hg, n0, n1, n2]) = false := by
      rw [decide_eq_false_iff_not]
      unfold pk
      intro h
      simp only [List.cons.injEq, and_true] at h
      refine hv ⟨?_, ?_, ?_⟩
      · exact Classical.byContradiction fun hh => one_ne hh h.1
      · exact Classical.byContradiction fun hh => one_ne hh h.2.2.2.2.2.2.2.1
      · exact Classical.byContradiction fun hh => one_ne hh h.2.2.2.2.2.2.2.2.2
    have e2 : upk [m, g0, g1, g2, a0, a1, a2, hb, b, hg, n0, n1, n2] = none := if_neg hv
    rw [e1] at gE
    rw [e2]
    simp only [Option.getD_none, Option.isSome_none, Bool.false_eq_true, ↓reduceIte]
    unfold smp0 Smp.av at *
    simp (maxSteps := 1000000) (disch := omega) only [go_sem, Nat.reduceEqDiff, Nat.reduceLT, Nat.reduceAdd, Nat.reduceSub, Nat.reduceMul, Nat.reduceBEq, Int.reduceLT, Int.reduceAdd, Int.reduceMul, Int.reduceSub, Int.reduceToNat, Int.reduceLE, Int.reduceEq, ↓reduceIte, reduceCtorEq, Int.reduceNeg, Nat.reduceLeDiff,  bA]
    first | refine callB_intro (gE) ?_ | refine callD_intro (gE) ?_ | refine callP_intro (fun _ => (gE)) ?_ | refine callX_pure (gE) ?_
    simp (maxSteps := 1000000) (disch := omega) only [go_sem, Nat.reduceEqDiff, Nat.reduceLT, Nat.reduceAdd, Nat.reduceSub, Nat.reduceMul, Nat.reduceBEq, Int.reduceLT, Int.reduceAdd, Int.reduceMul, Int.reduceSub, Int.reduceToNat, Int.reduceLE, Int.reduceEq, ↓reduceIte, reduceCtorEq, Int.reduceNeg, Nat.reduceLeDiff,  bB, bC]
    exact fin_ext (by simp) (hyS _) (by simp (maxSteps := 1000000) (disch := omega) only [resVal, resAll, resOne, rs16, Env.get, go_sem, Nat.reduceEqDiff, Nat.reduceLT, Nat.reduceAdd, Nat.reduceSub, Nat.reduceMul, Nat.reduceBEq, Int.reduceLT, Int.reduceAdd, Int.reduceMul, Int.reduceSub, Int.reduceToNat, Int.reduceLE, Int.reduceEq, ↓reduceIte, reduceCtorEq, Int.reduceNeg, Nat.reduceLeDiff, blkAt_set_self, lB, List.length_set]) (by simp only [AV.und, AV.unds, and_self])
end Go.Proofs.Ytjibphejlmiocaa.Ah
