/- V09p: a part of the proof: steps over abstract values, or contracts of functions. Conditions: none. -/
import Derived.Test.YtlohehkagaabfaaV09o
namespace Go.Proofs.Ytlohehkagaabfaa.Ah
open Go Go.WideShapes
set_option maxHeartbeats 4000000
set_option linter.unusedSimpArgs false
set_option linter.unusedVariables false
/-! Contracts: the document's delta, whatever comes. -/
theorem f15_step {H : Heap} {p q L i wd b : Nat} {c1 c2 : Option Nat} {x y : Int} {cs ds : List AV} {o o' : Bool} {Q : Post} {G' : Heap} {vm vw : AV} {m w : List Int} (hp : blkAt H p = some ⟨cs, o⟩) (hq : blkAt H q = some ⟨ds, o'⟩) (fx : cs[i]? = some (.int .i64 x)) (fy : ds[i]? = some (.int .i64 y)) (hi : i < L) (hL : L ≤ 600) (hwd : wd + b ≤ 2305843009213693952)
    (hT : Two H G' vm vw m w) (lm : m.length ≤ 1000) (lw : w.length ≤ 1000)
    (next : ∀ G' vm vw, Two H G' vm vw (if i % 60 = 59 ∨ i + 1 = L then m ++ [((wd + (if y = x then 0 else b) : Nat) : Int)] else m) (w ++ if y = x then [] else [y]) → acs Try.prog [.lp c15l0, .blk 0, .code c15t] (e15 p q L c1 c2 vm vw (if i % 60 = 59 ∨ i + 1 = L then 0 else wd + (if y = x then 0 else b)) (if i % 60 = 59 ∨ i + 1 = L then 1 else b * 2) (i + 1)) (H ++ G') Q) :
    acs Try.prog [.lp c15l0, .blk 0, .code c15t] (e15 p q L c1 c2 vm vw wd b i) (H ++ G') Q := by
  have hmod : (i : Int).tmod 60 = ((i % 60 : Nat) : Int) := by rw [Int.tmod_eq_emod_of_nonneg (by omega)]; omega
  by_cases h1 : i % 60 = 59
  · have h59 : (i : Int).tmod 60 = 59 := by omega
    simp only [if_pos (show i % 60 = 59 ∨ i + 1 = L from .inl h1)] at next
    by_cases hxy : y = x
    · simp only [if_pos hxy, Nat.add_zero, List.append_nil] at next
      cases hT with
      | nn => exact s15_nn_e_a hp hq fx fy hi hL hwd hxy h59 next
      | mn _ _ hm => exact s15_mn_e_a lm hp hq fx fy hi hL hwd hxy h59 hm next
      | nw _ _ hw => exact s15_nw_e_a lw hp hq fx fy hi hL hwd hxy h59 hw next
      | mw _ _ _ _ hm hw => exact s15_mw_e_a lm lw hp hq fx fy hi hL hwd hxy h59 hm hw next
      | wm _ _ _ _ hm hw => exact s15_wm_e_a lm lw hp hq fx fy hi hL hwd hxy h59 hm hw next
    · simp only [if_neg hxy] at next
      cases hT with
      | nn => exact s15_nn_d_a hp hq fx fy hi hL hwd hxy h59 next
      | mn _ _ hm => exact s15_mn_d_a lm hp hq fx fy hi hL hwd hxy h59 hm next
      | nw _ _ hw => exact s15_nw_d_a lw hp hq fx fy hi hL hwd hxy h59 hw next
      | mw _ _ _ _ hm hw => exact s15_mw_d_a lm lw hp hq fx fy hi hL hwd hxy h59 hm hw next
      | wm _ _ _ _ hm hw => exact s15_wm_d_a lm lw hp hq fx fy hi hL hwd hxy h59 hm hw next
  · by_cases h2 : i + 1 = L
    · have h59 : (i : Int).tmod 60 ≠ 59 ∧ (i : Int) = (L : Int) - 1 := by omega
      simp only [if_pos (show i % 60 = 59 ∨ i + 1 = L from .inr h2)] at next
      by_cases hxy : y = x
      · simp only [if_pos hxy, Nat.add_zero, List.append_nil] at next
        cases hT with
        | nn => exact s15_nn_e_l hp hq fx fy hi hL hwd hxy h59 next
        | mn _ _ hm => exact s15_mn_e_l lm hp hq fx fy hi hL hwd hxy h59 hm next
        | nw _ _ hw => exact s15_nw_e_l lw hp hq fx fy hi hL hwd hxy h59 hw next
        | mw _ _ _ _ hm hw => exact s15_mw_e_l lm lw hp hq fx fy hi hL hwd hxy h59 hm hw next
        | wm _ _ _ _ hm hw => exact s15_wm_e_l lm lw hp hq fx fy hi hL hwd hxy h59 hm hw next
      · simp only [if_neg hxy] at next
        cases hT with
        | nn => exact s15_nn_d_l hp hq fx fy hi hL hwd hxy h59 next
        | mn _ _ hm => exact s15_mn_d_l lm hp hq fx fy hi hL hwd hxy h59 hm next
        | nw _ _ hw => exact s15_nw_d_l lw hp hq fx fy hi hL hwd hxy h59 hw next
        | mw _ _ _ _ hm hw => exact s15_mw_d_l lm lw hp hq fx fy hi hL hwd hxy h59 hm hw next
        | wm _ _ _ _ hm hw => exact s15_wm_d_l lm lw hp hq fx fy hi hL hwd hxy h59 hm hw next
    · have h59 : (i : Int).tmod 60 ≠ 59 ∧ (i : Int) ≠ (L : Int) - 1 := by omega
      simp only [if_neg (show ¬ (i % 60 = 59 ∨ i + 1 = L) by omega)] at next
      by_cases hxy : y = x
      · simp only [if_pos hxy, Nat.add_zero, List.append_nil] at next
        cases hT with
        | nn => exact s15_nn_e_no hp hq fx fy hi hL hwd hxy h59 next
        | mn _ _ hm => exact s15_mn_e_no lm hp hq fx fy hi hL hwd hxy h59 hm next
        | nw _ _ hw => exact s15_nw_e_no lw hp hq fx fy hi hL hwd hxy h59 hw next
        | mw _ _ _ _ hm hw => exact s15_mw_e_no lm lw hp hq fx fy hi hL hwd hxy h59 hm hw next
        | wm _ _ _ _ hm hw => exact s15_wm_e_no lm lw hp hq fx fy hi hL hwd hxy h59 hm hw next
      · simp only [if_neg hxy] at next
        cases hT with
        | nn => exact s15_nn_d_no hp hq fx fy hi hL hwd hxy h59 next
        | mn _ _ hm => exact s15_mn_d_no lm hp hq fx fy hi hL hwd hxy h59 hm next
        | nw _ _ hw => exact s15_nw_d_no lw hp hq fx fy hi hL hwd hxy h59 hw next
        | mw _ _ _ _ hm hw => exact s15_mw_d_no lm lw hp hq fx fy hi hL hwd hxy h59 hm hw next
        | wm _ _ _ _ hm hw => exact s15_wm_d_no lm lw hp hq fx fy hi hL hwd hxy h59 hm hw next
def Q15 (H : Heap) : List Int → Post
  | [] => Fin H rs15 (.tup [.nils, .int .i64 0]) H
  | R => FinW H rs15 (.tup [.sl H.length 0 R.length 1 none, .int .i64 0]) (H ++ [some ⟨R.map (AV.int .i64), false⟩])
theorem Q15_cons {H : Heap} {R : List Int} (h : R ≠ []) : Q15 H R = FinW H rs15 (.tup [.sl H.length 0 R.length 1 none, .int .i64 0]) (H ++ [some ⟨R.map (AV.int .i64), false⟩]) := by
  cases R with
  | nil => exact absurd rfl h
  | cons x r => rfl
theorem f15_end {H : Heap} {p q L i wd b : Nat} {c1 c2 : Option Nat} {G' : Heap} {vm vw : AV} {m w : List Int} (hL : i = L) (hT : Two H G' vm vw m w) (lm : m.length ≤ 1000) (lw : w.length ≤ 1000) (hw : m = [] → w = []) :
    acs Try.prog [.lp c15l0, .blk 0, .code c15t] (e15 p q L c1 c2 vm vw wd b i) (H ++ G') (Q15 H (m ++ w)) := by
  have hlt : ¬ (i : Int) < (L : Int) := by omega
  cases hT with
  | nn =>
    unfold e15 Q15
    rw [acs_lp]; conv in Fr.code c15l0 => unfold c15l0
    simp (maxSteps := 1000000) (disch := omega) only [acs_nil, acs_blk, acs_skip, acs_reg, acs_dreg, acs_seq, acs_cond, acs_block, acs_exit, acs_ret, acs_kl, acs_loop, leave_nil, leave_code, leave_lp, leave_blk, aopsK_nil, aopsK_cons, aopsK_guard, bindR_val, bindR_need, bindR_br, bindR_call, bindR_bad, drawK_nil, drawK_cons, drawK_ext, drawK_pur, drawK_guard, bindD_val, bindD_need, bindD_br, bindD_call, bindD_bad, bindX_val, bindX_need, bindX_br, bindX_call, guardD_bool, guardD_tup, grows, grows0, List.append_cancel_left_eq, List.cons.injEq, exists_eq', exists_eq, condK_bool, guardK_bool, guardK_tup, sor, r0, r1, r2, r3, rC, rB, rI, rP, rA, rT, rS, rF, rSl, rO, rbin, rcut, run1, Env.evals, Env.eval, Env.get, Env.put, Env.ins, Env.del, Env.dels, argEnv, AV.full, AV.cells, AV.cell, eqCells, Nat.reduceEqDiff, Nat.reduceLT, Nat.reduceAdd, Nat.reduceSub, Nat.reduceMul, Nat.reduceBEq, Int.reduceLT, Int.reduceAdd, Int.reduceMul, Int.reduceToNat, Int.reduceLE, Int.reduceEq, ↓reduceIte, decide_true, decide_false, decide_eq_true_eq, decide_eq_false_iff_not, Bool.not_eq_true', Bool.not_eq_false', true_and, and_true, false_implies, true_implies, forall_const, Bool.not_true, Bool.not_false, Bool.false_eq_true, Bool.true_eq_false, List.getElem?_cons_zero, List.getElem?_cons_succ, List.length_cons, List.length_nil, List.length_append, List.all_cons, List.all_nil, Bool.and_true, Bool.and_self, implies_true, reduceCtorEq, List.append_assoc, List.cons_append, List.nil_append, Int.reduceNeg, i64_in, imin_eq, imax_eq, cast3, cast0, cast1, cast2, Option.map_none, ite_self, and_false, false_and, Option.isSome_some, or_true, true_or, Int.sub_zero, Int.mul_one, Nat.sub_zero, Nat.zero_le, Int.cast_ofNat_Int, Int.natCast_nonneg, Int.toNat_natCast, ne_eq, not_false_eq_true, not_true_eq_false, strC, blkAt_app, blkAt_app0, blkAt_zero, blkAt_succ, List.set_cons_zero, List.set_cons_succ, set_app, set_app0, Option.map_some, Option.bind_some, rd, setCells, lay, rdS, szOk, rapp, ownAt, lenAt, Option.any_some, Option.getD_some, List.drop_zero, List.drop_succ_cons, List.take_succ_cons, List.take_zero, List.drop_nil, List.take_nil, Nat.reduceLeDiff, Nat.lt_irrefl, Nat.zero_add, Nat.add_zero, Nat.mul_one, Nat.one_mul, Nat.add_assoc, Option.some.injEq, eq_self,  hlt]
    unfold c15t c15 tl2
    simp (maxSteps := 1000000) (disch := omega) only [acs_nil, acs_blk, acs_skip, acs_reg, acs_dreg, acs_seq, acs_cond, acs_block, acs_exit, acs_ret, acs_kl, acs_loop, leave_nil, leave_code, leave_lp, leave_blk, aopsK_nil, aopsK_cons, aopsK_guard, bindR_val, bindR_need, bindR_br, bindR_call, bindR_bad, drawK_nil, drawK_cons, drawK_ext, drawK_pur, drawK_guard, bindD_val, bindD_need, bindD_br, bindD_call, bindD_bad, bindX_val, bindX_need, bindX_br, bindX_call, guardD_bool, guardD_tup, grows, grows0, List.append_cancel_left_eq, List.cons.injEq, exists_eq', exists_eq, condK_bool, guardK_bool, guardK_tup, sor, r0, r1, r2, r3, rC, rB, rI, rP, rA, rT, rS, rF, rSl, rO, rbin, rcut, run1, Env.evals, Env.eval, Env.get, Env.put, Env.ins, Env.del, Env.dels, argEnv, AV.full, AV.cells, AV.cell, eqCells, Nat.reduceEqDiff, Nat.reduceLT, Nat.reduceAdd, Nat.reduceSub, Nat.reduceMul, Nat.reduceBEq, Int.reduceLT, Int.reduceAdd, Int.reduceMul, Int.reduceToNat, Int.reduceLE, Int.reduceEq, ↓reduceIte, decide_true, decide_false, decide_eq_true_eq, decide_eq_false_iff_not, Bool.not_eq_true', Bool.not_eq_false', true_and, and_true, false_implies, true_implies, forall_const, Bool.not_true, Bool.not_false, Bool.false_eq_true, Bool.true_eq_false, List.getElem?_cons_zero, List.getElem?_cons_succ, List.length_cons, List.length_nil, List.length_append, List.all_cons, List.all_nil, Bool.and_true, Bool.and_self, implies_true, reduceCtorEq, List.append_assoc, List.cons_append, List.nil_append, Int.reduceNeg, i64_in, imin_eq, imax_eq, cast3, cast0, cast1, cast2, Option.map_none, ite_self, and_false, false_and, Option.isSome_some, or_true, true_or, Int.sub_zero, Int.mul_one, Nat.sub_zero, Nat.zero_le, Int.cast_ofNat_Int, Int.natCast_nonneg, Int.toNat_natCast, ne_eq, not_false_eq_true, not_true_eq_false, strC, blkAt_app, blkAt_app0, blkAt_zero, blkAt_succ, List.set_cons_zero, List.set_cons_succ, set_app, set_app0, Option.map_some, Option.bind_some, rd, setCells, lay, rdS, szOk, rapp, ownAt, lenAt, Option.any_some, Option.getD_some, List.drop_zero, List.drop_succ_cons, List.take_succ_cons, List.take_zero, List.drop_nil, List.take_nil, Nat.reduceLeDiff, Nat.lt_irrefl, Nat.zero_add, Nat.add_zero, Nat.mul_one, Nat.one_mul, Nat.add_assoc, Option.some.injEq, eq_self]
    exact fin_same (by simp) _ (by first | exact (List.append_nil _).symm | rfl) (by simp (maxSteps := 1000000) (disch := omega) only [resVal, resAll, resOne, rs15, Env.get, Nat.reduceEqDiff, Nat.reduceLT, Nat.reduceAdd, Nat.reduceSub, Nat.reduceMul, Nat.reduceBEq, Int.reduceLT, Int.reduceAdd, Int.reduceMul, Int.reduceToNat, Int.reduceLE, Int.reduceEq, ↓reduceIte, decide_true, decide_false, decide_eq_true_eq, decide_eq_false_iff_not, Bool.not_eq_true', Bool.not_eq_false', true_and, and_true, false_implies, true_implies, forall_const, Bool.not_true, Bool.not_false, Bool.false_eq_true, Bool.true_eq_false, List.getElem?_cons_zero, List.getElem?_cons_succ, List.length_cons, List.length_nil, List.length_append, List.all_cons, List.all_nil, Bool.and_true, Bool.and_self, implies_true, reduceCtorEq, List.append_assoc, List.cons_append, List.nil_append, Int.reduceNeg, i64_in, imin_eq, imax_eq, cast3, cast0, cast1, cast2, Option.map_none, ite_self, and_false, false_and, Option.isSome_some, or_true, true_or, Int.sub_zero, Int.mul_one, Nat.sub_zero, Nat.zero_le, Int.cast_ofNat_Int, Int.natCast_nonneg, Int.toNat_natCast, ne_eq, not_false_eq_true, not_true_eq_false, strC, blkAt_app, blkAt_app0, blkAt_zero, blkAt_succ, List.set_cons_zero, List.set_cons_succ, set_app, set_app0, Option.map_some, Option.bind_some, rd, setCells, lay, rdS, szOk, rapp, ownAt, lenAt, Option.any_some, Option.getD_some, List.drop_zero, List.drop_succ_cons, List.take_succ_cons, List.take_zero, List.drop_nil, List.take_nil, Nat.reduceLeDiff, Nat.lt_irrefl, Nat.zero_add, Nat.add_zero, Nat.mul_one, Nat.one_mul, Nat.add_assoc, Option.some.injEq, eq_self]) (by simp only [AV.und, AV.unds, and_self])
  | mn G _ hm =>
    rw [List.append_nil, Q15_cons hm]
    unfold e15 ob
    rw [acs_lp]; conv in Fr.code c15l0 => unfold c15l0
    simp (maxSteps := 1000000) (disch := omega) only [acs_nil, acs_blk, acs_skip, acs_reg, acs_dreg, acs_seq, acs_cond, acs_block, acs_exit, acs_ret, acs_kl, acs_loop, leave_nil, leave_code, leave_lp, leave_blk, aopsK_nil, aopsK_cons, aopsK_guard, bindR_val, bindR_need, bindR_br, bindR_call, bindR_bad, drawK_nil, drawK_cons, drawK_ext, drawK_pur, drawK_guard, bindD_val, bindD_need, bindD_br, bindD_call, bindD_bad, bindX_val, bindX_need, bindX_br, bindX_call, guardD_bool, guardD_tup, grows, grows0, List.append_cancel_left_eq, List.cons.injEq, exists_eq', exists_eq, condK_bool, guardK_bool, guardK_tup, sor, r0, r1, r2, r3, rC, rB, rI, rP, rA, rT, rS, rF, rSl, rO, rbin, rcut, run1, Env.evals, Env.eval, Env.get, Env.put, Env.ins, Env.del, Env.dels, argEnv, AV.full, AV.cells, AV.cell, eqCells, Nat.reduceEqDiff, Nat.reduceLT, Nat.reduceAdd, Nat.reduceSub, Nat.reduceMul, Nat.reduceBEq, Int.reduceLT, Int.reduceAdd, Int.reduceMul, Int.reduceToNat, Int.reduceLE, Int.reduceEq, ↓reduceIte, decide_true, decide_false, decide_eq_true_eq, decide_eq_false_iff_not, Bool.not_eq_true', Bool.not_eq_false', true_and, and_true, false_implies, true_implies, forall_const, Bool.not_true, Bool.not_false, Bool.false_eq_true, Bool.true_eq_false, List.getElem?_cons_zero, List.getElem?_cons_succ, List.length_cons, List.length_nil, List.length_append, List.all_cons, List.all_nil, Bool.and_true, Bool.and_self, implies_true, reduceCtorEq, List.append_assoc, List.cons_append, List.nil_append, Int.reduceNeg, i64_in, imin_eq, imax_eq, cast3, cast0, cast1, cast2, Option.map_none, ite_self, and_false, false_and, Option.isSome_some, or_true, true_or, Int.sub_zero, Int.mul_one, Nat.sub_zero, Nat.zero_le, Int.cast_ofNat_Int, Int.natCast_nonneg, Int.toNat_natCast, ne_eq, not_false_eq_true, not_true_eq_false, strC, blkAt_app, blkAt_app0, blkAt_zero, blkAt_succ, List.set_cons_zero, List.set_cons_succ, set_app, set_app0, Option.map_some, Option.bind_some, rd, setCells, lay, rdS, szOk, rapp, ownAt, lenAt, Option.any_some, Option.getD_some, List.drop_zero, List.drop_succ_cons, List.take_succ_cons, List.take_zero, List.drop_nil, List.take_nil, Nat.reduceLeDiff, Nat.lt_irrefl, Nat.zero_add, Nat.add_zero, Nat.mul_one, Nat.one_mul, Nat.add_assoc, Option.some.injEq, eq_self,  hlt]
    unfold c15t c15 tl2
    simp (maxSteps := 1000000) (disch := omega) only [acs_nil, acs_blk, acs_skip, acs_reg, acs_dreg, acs_seq, acs_cond, acs_block, acs_exit, acs_ret, acs_kl, acs_loop, leave_nil, leave_code, leave_lp, leave_blk, aopsK_nil, aopsK_cons, aopsK_guard, bindR_val, bindR_need, bindR_br, bindR_call, bindR_bad, drawK_nil, drawK_cons, drawK_ext, drawK_pur, drawK_guard, bindD_val, bindD_need, bindD_br, bindD_call, bindD_bad, bindX_val, bindX_need, bindX_br, bindX_call, guardD_bool, guardD_tup, grows, grows0, List.append_cancel_left_eq, List.cons.injEq, exists_eq', exists_eq, condK_bool, guardK_bool, guardK_tup, sor, r0, r1, r2, r3, rC, rB, rI, rP, rA, rT, rS, rF, rSl, rO, rbin, rcut, run1, Env.evals, Env.eval, Env.get, Env.put, Env.ins, Env.del, Env.dels, argEnv, AV.full, AV.cells, AV.cell, eqCells, Nat.reduceEqDiff, Nat.reduceLT, Nat.reduceAdd, Nat.reduceSub, Nat.reduceMul, Nat.reduceBEq, Int.reduceLT, Int.reduceAdd, Int.reduceMul, Int.reduceToNat, Int.reduceLE, Int.reduceEq, ↓reduceIte, decide_true, decide_false, decide_eq_true_eq, decide_eq_false_iff_not, Bool.not_eq_true', Bool.not_eq_false', true_and, and_true, false_implies, true_implies, forall_const, Bool.not_true, Bool.not_false, Bool.false_eq_true, Bool.true_eq_false, List.getElem?_cons_zero, List.getElem?_cons_succ, List.length_cons, List.length_nil, List.length_append, List.all_cons, List.all_nil, Bool.and_true, Bool.and_self, implies_true, reduceCtorEq, List.append_assoc, List.cons_append, List.nil_append, Int.reduceNeg, i64_in, imin_eq, imax_eq, cast3, cast0, cast1, cast2, Option.map_none, ite_self, and_false, false_and, Option.isSome_some, or_true, true_or, Int.sub_zero, Int.mul_one, Nat.sub_zero, Nat.zero_le, Int.cast_ofNat_Int, Int.natCast_nonneg, Int.toNat_natCast, ne_eq, not_false_eq_true, not_true_eq_false, strC, blkAt_app, blkAt_app0, blkAt_zero, blkAt_succ, List.set_cons_zero, List.set_cons_succ, set_app, set_app0, Option.map_some, Option.bind_some, rd, setCells, lay, rdS, szOk, rapp, ownAt, lenAt, Option.any_some, Option.getD_some, List.drop_zero, List.drop_succ_cons, List.take_succ_cons, List.take_zero, List.drop_nil, List.take_nil, Nat.reduceLeDiff, Nat.lt_irrefl, Nat.zero_add, Nat.add_zero, Nat.mul_one, Nat.one_mul, Nat.add_assoc, Option.some.injEq, eq_self]
    refine ⟨.tup [.sl H.length 0 m.length 1 none, .int .i64 0], (fun _ _ h => h), fin_oneF (o := true) (G ++ [some ⟨m.map (AV.int .i64), true⟩]) G.length (m.map (AV.int .i64)) (by simp) rfl (by simp) (undMap _) (by simp only [resVal, resAll, resOne, rs15, Env.get, Nat.reduceEqDiff, Nat.reduceLT, Nat.reduceAdd, Nat.reduceSub, Nat.reduceMul, Nat.reduceBEq, Int.reduceLT, Int.reduceAdd, Int.reduceMul, Int.reduceToNat, Int.reduceLE, Int.reduceEq, ↓reduceIte, decide_true, decide_false, decide_eq_true_eq, decide_eq_false_iff_not, Bool.not_eq_true', Bool.not_eq_false', true_and, and_true, false_implies, true_implies, forall_const, Bool.not_true, Bool.not_false, Bool.false_eq_true, Bool.true_eq_false, List.getElem?_cons_zero, List.getElem?_cons_succ, List.length_cons, List.length_nil, List.length_append, List.all_cons, List.all_nil, Bool.and_true, Bool.and_self, implies_true, reduceCtorEq, List.append_assoc, List.cons_append, List.nil_append, Int.reduceNeg, i64_in, imin_eq, imax_eq, cast3, cast0, cast1, cast2, Option.map_none, ite_self, and_false, false_and, Option.isSome_some, or_true, true_or, Int.sub_zero, Int.mul_one, Nat.sub_zero, Nat.zero_le, Int.cast_ofNat_Int, Int.natCast_nonneg, Int.toNat_natCast, ne_eq, not_false_eq_true, not_true_eq_false, strC, blkAt_app, blkAt_app0, blkAt_zero, blkAt_succ, List.set_cons_zero, List.set_cons_succ, set_app, set_app0, Option.map_some, Option.bind_some, rd, setCells, lay, rdS, szOk, rapp, ownAt, lenAt, Option.any_some, Option.getD_some, List.drop_zero, List.drop_succ_cons, List.take_succ_cons, List.take_zero, List.drop_nil, List.take_nil, Nat.reduceLeDiff, Nat.lt_irrefl, Nat.zero_add, Nat.add_zero, Nat.mul_one, Nat.one_mul, Nat.add_assoc, Option.some.injEq, eq_self]; rfl) (by simp [AV.ren, AV.rens]) (by simp [AV.und, AV.unds])⟩
  | nw _ _ hw2 => exact absurd (hw rfl) hw2
  | mw G G2 _ _ hm hw2 =>
    have tm : List.take m.length (m.map (AV.int .i64)) = m.map (AV.int .i64) := takeMap m
    have tw : List.take w.length (w.map (AV.int .i64)) = w.map (AV.int .i64) := takeMap w
    have bm : (m.length + w.length) * 8 ≤ 140737488355328 := by omega
    have hwl : ¬ w.length = 0 := fun h => hw2 (List.eq_nil_of_length_eq_zero h)
    rw [Q15_cons (by simp [hm])]
    unfold e15 ob
    rw [acs_lp]; conv in Fr.code c15l0 => unfold c15l0
    simp (maxSteps := 1000000) (disch := omega) only [acs_nil, acs_blk, acs_skip, acs_reg, acs_dreg, acs_seq, acs_cond, acs_block, acs_exit, acs_ret, acs_kl, acs_loop, leave_nil, leave_code, leave_lp, leave_blk, aopsK_nil, aopsK_cons, aopsK_guard, bindR_val, bindR_need, bindR_br, bindR_call, bindR_bad, drawK_nil, drawK_cons, drawK_ext, drawK_pur, drawK_guard, bindD_val, bindD_need, bindD_br, bindD_call, bindD_bad, bindX_val, bindX_need, bindX_br, bindX_call, guardD_bool, guardD_tup, grows, grows0, List.append_cancel_left_eq, List.cons.injEq, exists_eq', exists_eq, condK_bool, guardK_bool, guardK_tup, sor, r0, r1, r2, r3, rC, rB, rI, rP, rA, rT, rS, rF, rSl, rO, rbin, rcut, run1, Env.evals, Env.eval, Env.get, Env.put, Env.ins, Env.del, Env.dels, argEnv, AV.full, AV.cells, AV.cell, eqCells, Nat.reduceEqDiff, Nat.reduceLT, Nat.reduceAdd, Nat.reduceSub, Nat.reduceMul, Nat.reduceBEq, Int.reduceLT, Int.reduceAdd, Int.reduceMul, Int.reduceToNat, Int.reduceLE, Int.reduceEq, ↓reduceIte, decide_true, decide_false, decide_eq_true_eq, decide_eq_false_iff_not, Bool.not_eq_true', Bool.not_eq_false', true_and, and_true, false_implies, true_implies, forall_const, Bool.not_true, Bool.not_false, Bool.false_eq_true, Bool.true_eq_false, List.getElem?_cons_zero, List.getElem?_cons_succ, List.length_cons, List.length_nil, List.length_append, List.all_cons, List.all_nil, Bool.and_true, Bool.and_self, implies_true, reduceCtorEq, List.append_assoc, List.cons_append, List.nil_append, Int.reduceNeg, i64_in, imin_eq, imax_eq, cast3, cast0, cast1, cast2, Option.map_none, ite_self, and_false, false_and, Option.isSome_some, or_true, true_or, Int.sub_zero, Int.mul_one, Nat.sub_zero, Nat.zero_le, Int.cast_ofNat_Int, Int.natCast_nonneg, Int.toNat_natCast, ne_eq, not_false_eq_true, not_true_eq_false, strC, blkAt_app, blkAt_app0, blkAt_zero, blkAt_succ, List.set_cons_zero, List.set_cons_succ, set_app, set_app0, Option.map_some, Option.bind_some, rd, setCells, lay, rdS, szOk, rapp, ownAt, lenAt, Option.any_some, Option.getD_some, List.drop_zero, List.drop_succ_cons, List.take_succ_cons, List.take_zero, List.drop_nil, List.take_nil, Nat.reduceLeDiff, Nat.lt_irrefl, Nat.zero_add, Nat.add_zero, Nat.mul_one, Nat.one_mul, Nat.add_assoc, Option.some.injEq, eq_self,  hlt]
    unfold c15t c15 tl2
    simp (maxSteps := 1000000) (disch := omega) only [acs_nil, acs_blk, acs_skip, acs_reg, acs_dreg, acs_seq, acs_cond, acs_block, acs_exit, acs_ret, acs_kl, acs_loop, leave_nil, leave_code, leave_lp, leave_blk, aopsK_nil, aopsK_cons, aopsK_guard, bindR_val, bindR_need, bindR_br, bindR_call, bindR_bad, drawK_nil, drawK_cons, drawK_ext, drawK_pur, drawK_guard, bindD_val, bindD_need, bindD_br, bindD_call, bindD_bad, bindX_val, bindX_need, bindX_br, bindX_call, guardD_bool, guardD_tup, grows, grows0, List.append_cancel_left_eq, List.cons.injEq, exists_eq', exists_eq, condK_bool, guardK_bool, guardK_tup, sor, r0, r1, r2, r3, rC, rB, rI, rP, rA, rT, rS, rF, rSl, rO, rbin, rcut, run1, Env.evals, Env.eval, Env.get, Env.put, Env.ins, Env.del, Env.dels, argEnv, AV.full, AV.cells, AV.cell, eqCells, Nat.reduceEqDiff, Nat.reduceLT, Nat.reduceAdd, Nat.reduceSub, Nat.reduceMul, Nat.reduceBEq, Int.reduceLT, Int.reduceAdd, Int.reduceMul, Int.reduceToNat, Int.reduceLE, Int.reduceEq, ↓reduceIte, decide_true, decide_false, decide_eq_true_eq, decide_eq_false_iff_not, Bool.not_eq_true', Bool.not_eq_false', true_and, and_true, false_implies, true_implies, forall_const, Bool.not_true, Bool.not_false, Bool.false_eq_true, Bool.true_eq_false, List.getElem?_cons_zero, List.getElem?_cons_succ, List.length_cons, List.length_nil, List.length_append, List.all_cons, List.all_nil, Bool.and_true, Bool.and_self, implies_true, reduceCtorEq, List.append_assoc, List.cons_append, List.nil_append, Int.reduceNeg, i64_in, imin_eq, imax_eq, cast3, cast0, cast1, cast2, Option.map_none, ite_self, and_false, false_and, Option.isSome_some, or_true, true_or, Int.sub_zero, Int.mul_one, Nat.sub_zero, Nat.zero_le, Int.cast_ofNat_Int, Int.natCast_nonneg, Int.toNat_natCast, ne_eq, not_false_eq_true, not_true_eq_false, strC, blkAt_app, blkAt_app0, blkAt_zero, blkAt_succ, List.set_cons_zero, List.set_cons_succ, set_app, set_app0, Option.map_some, Option.bind_some, rd, setCells, lay, rdS, szOk, rapp, ownAt, lenAt, Option.any_some, Option.getD_some, List.drop_zero, List.drop_succ_cons, List.take_succ_cons, List.take_zero, List.drop_nil, List.take_nil, Nat.reduceLeDiff, Nat.lt_irrefl, Nat.zero_add, Nat.add_zero, Nat.mul_one, Nat.one_mul, Nat.add_assoc, Option.some.injEq, eq_self,  tm, tw, bm, hwl, allMap, blkAt_s2, blkAt_s3, blkAt_s4, blkAt_s5, set_s2, set_s3, set_s4, set_s5, List.length_map, Nat.le_refl]
    refine ⟨.tup [.sl H.length 0 (m.length + w.length) 1 none, .int .i64 0], (fun _ _ h => h), fin_oneF (o := true) (G ++ none :: (G2 ++ [some ⟨w.map (AV.int .i64), true⟩, some ⟨(m ++ w).map (AV.int .i64), true⟩])) (G.length + (G2.length + 2)) ((m ++ w).map (AV.int .i64)) (by simp) (by simp) (by simp) (undMap _) (by simp only [resVal, resAll, resOne, rs15, Env.get, Nat.reduceEqDiff, Nat.reduceLT, Nat.reduceAdd, Nat.reduceSub, Nat.reduceMul, Nat.reduceBEq, Int.reduceLT, Int.reduceAdd, Int.reduceMul, Int.reduceToNat, Int.reduceLE, Int.reduceEq, ↓reduceIte, decide_true, decide_false, decide_eq_true_eq, decide_eq_false_iff_not, Bool.not_eq_true', Bool.not_eq_false', true_and, and_true, false_implies, true_implies, forall_const, Bool.not_true, Bool.not_false, Bool.false_eq_true, Bool.true_eq_false, List.getElem?_cons_zero, List.getElem?_cons_succ, List.length_cons, List.length_nil, List.length_append, List.all_cons, List.all_nil, Bool.and_true, Bool.and_self, implies_true, reduceCtorEq, List.append_assoc, List.cons_append, List.nil_append, Int.reduceNeg, i64_in, imin_eq, imax_eq, cast3, cast0, cast1, cast2, Option.map_none, ite_self, and_false, false_and, Option.isSome_some, or_true, true_or, Int.sub_zero, Int.mul_one, Nat.sub_zero, Nat.zero_le, Int.cast_ofNat_Int, Int.natCast_nonneg, Int.toNat_natCast, ne_eq, not_false_eq_true, not_true_eq_false, strC, blkAt_app, blkAt_app0, blkAt_zero, blkAt_succ, List.set_cons_zero, List.set_cons_succ, set_app, set_app0, Option.map_some, Option.bind_some, rd, setCells, lay, rdS, szOk, rapp, ownAt, lenAt, Option.any_some, Option.getD_some, List.drop_zero, List.drop_succ_cons, List.take_succ_cons, List.take_zero, List.drop_nil, List.take_nil, Nat.reduceLeDiff, Nat.lt_irrefl, Nat.zero_add, Nat.add_zero, Nat.mul_one, Nat.one_mul, Nat.add_assoc, Option.some.injEq, eq_self]; rfl) (by simp [AV.ren, AV.rens]) (by simp [AV.und, AV.unds])⟩
  | wm G G2 _ _ hm hw2 =>
    have tm : List.take m.length (m.map (AV.int .i64)) = m.map (AV.int .i64) := takeMap m
    have tw : List.take w.length (w.map (AV.int .i64)) = w.map (AV.int .i64) := takeMap w
    have bm : (m.length + w.length) * 8 ≤ 140737488355328 := by omega
    have hwl : ¬ w.length = 0 := fun h => hw2 (List.eq_nil_of_length_eq_zero h)
    rw [Q15_cons (by simp [hm])]
    unfold e15 ob
    rw [acs_lp]; conv in Fr.code c15l0 => unfold c15l0
    simp (maxSteps := 1000000) (disch := omega) only [acs_nil, acs_blk, acs_skip, acs_reg, acs_dreg, acs_seq, acs_cond, acs_block, acs_exit, acs_ret, acs_kl, acs_loop, leave_nil, leave_code, leave_lp, leave_blk, aopsK_nil, aopsK_cons, aopsK_guard, bindR_val, bindR_need, bindR_br, bindR_call, bindR_bad, drawK_nil, drawK_cons, drawK_ext, drawK_pur, drawK_guard, bindD_val, bindD_need, bindD_br, bindD_call, bindD_bad, bindX_val, bindX_need, bindX_br, bindX_call, guardD_bool, guardD_tup, grows, grows0, List.append_cancel_left_eq, List.cons.injEq, exists_eq', exists_eq, condK_bool, guardK_bool, guardK_tup, sor, r0, r1, r2, r3, rC, rB, rI, rP, rA, rT, rS, rF, rSl, rO, rbin, rcut, run1, Env.evals, Env.eval, Env.get, Env.put, Env.ins, Env.del, Env.dels, argEnv, AV.full, AV.cells, AV.cell, eqCells, Nat.reduceEqDiff, Nat.reduceLT, Nat.reduceAdd, Nat.reduceSub, Nat.reduceMul, Nat.reduceBEq, Int.reduceLT, Int.reduceAdd, Int.reduceMul, Int.reduceToNat, Int.reduceLE, Int.reduceEq, ↓reduceIte, decide_true, decide_false, decide_eq_true_eq, decide_eq_false_iff_not, Bool.not_eq_true', Bool.not_eq_false', true_and, and_true, false_implies, true_implies, forall_const, Bool.not_true, Bool.not_false, Bool.false_eq_true, Bool.true_eq_false, List.getElem?_cons_zero, List.getElem?_cons_succ, List.length_cons, List.length_nil, List.length_append, List.all_cons, List.all_nil, Bool.and_true, Bool.and_self, implies_true, reduceCtorEq, List.append_assoc, List.cons_append, List.nil_append, Int.reduceNeg, i64_in, imin_eq, imax_eq, cast3, cast0, cast1, cast2, Option.map_none, ite_self, and_false, false_and, Option.isSome_some, or_true, true_or, Int.sub_zero, Int.mul_one, Nat.sub_zero, Nat.zero_le, Int.cast_ofNat_Int, Int.natCast_nonneg, Int.toNat_natCast, ne_eq, not_false_eq_true, not_true_eq_false, strC, blkAt_app, blkAt_app0, blkAt_zero, blkAt_succ, List.set_cons_zero, List.set_cons_succ, set_app, set_app0, Option.map_some, Option.bind_some, rd, setCells, lay, rdS, szOk, rapp, ownAt, lenAt, Option.any_some, Option.getD_some, List.drop_zero, List.drop_succ_cons, List.take_succ_cons, List.take_zero, List.drop_nil, List.take_nil, Nat.reduceLeDiff, Nat.lt_irrefl, Nat.zero_add, Nat.add_zero, Nat.mul_one, Nat.one_mul, Nat.add_assoc, Option.some.injEq, eq_self,  hlt]
    unfold c15t c15 tl2
    simp (maxSteps := 1000000) (disch := omega) only [acs_nil, acs_blk, acs_skip, acs_reg, acs_dreg, acs_seq, acs_cond, acs_block, acs_exit, acs_ret, acs_kl, acs_loop, leave_nil, leave_code, leave_lp, leave_blk, aopsK_nil, aopsK_cons, aopsK_guard, bindR_val, bindR_need, bindR_br, bindR_call, bindR_bad, drawK_nil, drawK_cons, drawK_ext, drawK_pur, drawK_guard, bindD_val, bindD_need, bindD_br, bindD_call, bindD_bad, bindX_val, bindX_need, bindX_br, bindX_call, guardD_bool, guardD_tup, grows, grows0, List.append_cancel_left_eq, List.cons.injEq, exists_eq', exists_eq, condK_bool, guardK_bool, guardK_tup, sor, r0, r1, r2, r3, rC, rB, rI, rP, rA, rT, rS, rF, rSl, rO, rbin, rcut, run1, Env.evals, Env.eval, Env.get, Env.put, Env.ins, Env.del, Env.dels, argEnv, AV.full, AV.cells, AV.cell, eqCells, Nat.reduceEqDiff, Nat.reduceLT, Nat.reduceAdd, Nat.reduceSub, Nat.reduceMul, Nat.reduceBEq, Int.reduceLT, Int.reduceAdd, Int.reduceMul, Int.reduceToNat, Int.reduceLE, Int.reduceEq, ↓reduceIte, decide_true, decide_false, decide_eq_true_eq, decide_eq_false_iff_not, Bool.not_eq_true', Bool.not_eq_false', true_and, and_true, false_implies, true_implies, forall_const, Bool.not_true, Bool.not_false, Bool.false_eq_true, Bool.true_eq_false, List.getElem?_cons_zero, List.getElem?_cons_succ, List.length_cons, List.length_nil, List.length_append, List.all_cons, List.all_nil, Bool.and_true, Bool.and_self, implies_true, reduceCtorEq, List.append_assoc, List.cons_append, List.nil_append, Int.reduceNeg, i64_in, imin_eq, imax_eq, cast3, cast0, cast1, cast2, Option.map_none, ite_self, and_false, false_and, Option.isSome_some, or_true, true_or, Int.sub_zero, Int.mul_one, Nat.sub_zero, Nat.zero_le, Int.cast_ofNat_Int, Int.natCast_nonneg, Int.toNat_natCast, ne_eq, not_false_eq_true, not_true_eq_false, strC, blkAt_app, blkAt_app0, blkAt_zero, blkAt_succ, List.set_cons_zero, List.set_cons_succ, set_app, set_app0, Option.map_some, Option.bind_some, rd, setCells, lay, rdS, szOk, rapp, ownAt, lenAt, Option.any_some, Option.getD_some, List.drop_zero, List.drop_succ_cons, List.take_succ_cons, List.take_zero, List.drop_nil, List.take_nil, Nat.reduceLeDiff, Nat.lt_irrefl, Nat.zero_add, Nat.add_zero, Nat.mul_one, Nat.one_mul, Nat.add_assoc, Option.some.injEq, eq_self,  tm, tw, bm, hwl, allMap, blkAt_s2, blkAt_s3, blkAt_s4, blkAt_s5, set_s2, set_s3, set_s4, set_s5, List.length_map, Nat.le_refl]
    refine ⟨.tup [.sl H.length 0 (m.length + w.length) 1 none, .int .i64 0], (fun _ _ h => h), fin_oneF (o := true) (G ++ some ⟨w.map (AV.int .i64), true⟩ :: (G2 ++ [none, some ⟨(m ++ w).map (AV.int .i64), true⟩])) (G.length + (G2.length + 2)) ((m ++ w).map (AV.int .i64)) (by simp) (by simp) (by simp) (undMap _) (by simp only [resVal, resAll, resOne, rs15, Env.get, Nat.reduceEqDiff, Nat.reduceLT, Nat.reduceAdd, Nat.reduceSub, Nat.reduceMul, Nat.reduceBEq, Int.reduceLT, Int.reduceAdd, Int.reduceMul, Int.reduceToNat, Int.reduceLE, Int.reduceEq, ↓reduceIte, decide_true, decide_false, decide_eq_true_eq, decide_eq_false_iff_not, Bool.not_eq_true', Bool.not_eq_false', true_and, and_true, false_implies, true_implies, forall_const, Bool.not_true, Bool.not_false, Bool.false_eq_true, Bool.true_eq_false, List.getElem?_cons_zero, List.getElem?_cons_succ, List.length_cons, List.length_nil, List.length_append, List.all_cons, List.all_nil, Bool.and_true, Bool.and_self, implies_true, reduceCtorEq, List.append_assoc, List.cons_append, List.nil_append, Int.reduceNeg, i64_in, imin_eq, imax_eq, cast3, cast0, cast1, cast2, Option.map_none, ite_self, and_false, false_and, Option.isSome_some, or_true, true_or, Int.sub_zero, Int.mul_one, Nat.sub_zero, Nat.zero_le, Int.cast_ofNat_Int, Int.natCast_nonneg, Int.toNat_natCast, ne_eq, not_false_eq_true, not_true_eq_false, strC, blkAt_app, blkAt_app0, blkAt_zero, blkAt_succ, List.set_cons_zero, List.set_cons_succ, set_app, set_app0, Option.map_some, Option.bind_some, rd, setCells, lay, rdS, szOk, rapp, ownAt, lenAt, Option.any_some, Option.getD_some, List.drop_zero, List.drop_succ_cons, List.take_succ_cons, List.take_zero, List.drop_nil, List.take_nil, Nat.reduceLeDiff, Nat.lt_irrefl, Nat.zero_add, Nat.add_zero, Nat.mul_one, Nat.one_mul, Nat.add_assoc, Option.some.injEq, eq_self]; rfl) (by simp [AV.ren, AV.rens]) (by simp [AV.und, AV.unds])⟩
def mI (β : Nat → Bool) (K i : Nat) : List Int := (List.range K).map fun k => ((mkw β (60 * k) (min 60 (i - 60 * k)) : Nat) : Int)
theorem mI_push (β : Nat → Bool) (i : Nat) : mI β (i / 60 + 1) (i + 1) = mI β (i / 60) i ++ [((mkw β (60 * (i / 60)) (i % 60 + 1) : Nat) : Int)] := by
  unfold mI
  rw [List.range_succ, List.map_append, List.map_cons, List.map_nil, show min 60 (i + 1 - 60 * (i / 60)) = i % 60 + 1 by omega]
  congr 1
  apply List.map_congr_left
  intro k hk
  rw [List.mem_range] at hk
  rw [show min 60 (i + 1 - 60 * k) = min 60 (i - 60 * k) by omega]
theorem mI_stay (β : Nat → Bool) (i : Nat) : mI β (i / 60) (i + 1) = mI β (i / 60) i := by
  unfold mI
  apply List.map_congr_left
  intro k hk
  rw [List.mem_range] at hk
  rw [show min 60 (i + 1 - 60 * k) = min 60 (i - 60 * k) by omega]
theorem mI_len (β : Nat → Bool) (K i : Nat) : (mI β K i).length = K := by simp [mI]
theorem chg_snoc : ∀ (a b : List Int) (x y : Int), a.length = b.length → chg (a ++ [x]) (b ++ [y]) = chg a b ++ if y = x then [] else [y]
  | [], [], x, y, _ => by simp [chg]
  | [], _ :: _, x, y, h => by simp at h
  | _ :: _, [], x, y, h => by simp at h
  | u :: a, v :: b, x, y, h => by
    rw [List.cons_append, List.cons_append, chg, chg, chg_snoc a b x y (by simpa using h)]
    by_cases he : v = u
    · rw [if_pos he, if_pos he]
    · rw [if_neg he, if_neg he]
      rfl
theorem take_snoc {l : List Int} {i : Nat} (h : i < l.length) : l.take (i + 1) = l.take i ++ [l.getD i 0] := by
  rw [List.take_add_one, List.getElem?_eq_getElem h, List.getD_eq_getElem?_getD, List.getElem?_eq_getElem h]
  rfl
theorem chg_le (a b : List Int) : (chg a b).length ≤ b.length := by rw [chg_len]; exact cnt_le a b
def bet (bs ns : List Int) : Nat → Bool := fun j => decide (ns.getD j 0 ≠ bs.getD j 0)
theorem f15_loop {H : Heap} {p q : Nat} {c1 c2 : Option Nat} {bs ns : List Int} {o o' : Bool} (hp : blkAt H p = some ⟨bs.map (AV.int .i64), o⟩) (hq : blkAt H q = some ⟨ns.map (AV.int .i64), o'⟩) (hl : bs.length = ns.length) (hL : ns.length ≤ 600) :
    ∀ (k i : Nat) (G' : Heap) (vm vw : AV), i + k = ns.length →
    Two H G' vm vw (mI (bet bs ns) (if i = ns.length then (ns.length + 59) / 60 else i / 60) i) (chg (bs.take i) (ns.take i)) →
    acs Try.prog [.lp c15l0, .blk 0, .code c15t] (e15 p q ns.length c1 c2 vm vw (if i = ns.length then 0 else mkw (bet bs ns) (60 * (i / 60)) (i % 60)) (if i = ns.length then 1 else 2 ^ (i % 60)) i) (H ++ G') (Q15 H (diff bs ns))
  | 0, i, G', vm, vw, hi, hT => by
    have hiL : i = ns.length := by omega
    subst hiL
    rw [if_pos rfl] at hT
    rw [if_pos rfl, if_pos rfl, diff_eq hl]
    have e1 : bs.take ns.length = bs := List.take_of_length_le (by omega)
    have e2 : ns.take ns.length = ns := List.take_length
    rw [e1, e2] at hT
    refine f15_end rfl hT ?_ ?_ ?_
    · rw [msk_len]; omega
    · have := chg_le bs ns; omega
    · intro hm
      have := congrArg List.length hm
      rw [msk_len] at this
      have hn0 : ns = [] := List.eq_nil_of_length_eq_zero (by simp at this; omega)
      subst hn0
      cases bs with
      | nil => rfl
      | cons b bs => rfl
  | k + 1, i, G', vm, vw, hi, hT => by
    have hiL : i < ns.length := by omega
    have hne : ¬ i = ns.length := by omega
    rw [if_neg hne] at hT
    rw [if_neg hne, if_neg hne]
    have fx : (bs.map (AV.int .i64))[i]? = some (.int .i64 (bs.getD i 0)) := getMap (by rw [List.getD_eq_getElem?_getD, List.getElem?_eq_getElem (by omega)]; rfl)
    have fy : (ns.map (AV.int .i64))[i]? = some (.int .i64 (ns.getD i 0)) := getMap (by rw [List.getD_eq_getElem?_getD, List.getElem?_eq_getElem (by omega)]; rfl)
    have hlt := mkw_lt (bet bs ns) (60 * (i / 60)) (i % 60)
    have hp2 : 2 ^ (i % 60) ≤ 2 ^ 59 := Nat.pow_le_pow_right (by decide) (by omega)
    have hwd : mkw (bet bs ns) (60 * (i / 60)) (i % 60) + (if ns.getD i 0 = bs.getD i 0 then 0 else 2 ^ (i % 60)) = mkw (bet bs ns) (60 * (i / 60)) (i % 60 + 1) := by
      rw [mkw, show 60 * (i / 60) + i % 60 = i by omega]
      unfold bet
      by_cases h : ns.getD i 0 = bs.getD i 0
      · rw [if_pos h, if_neg (by simp; exact h)]
      · rw [if_neg h, if_pos (by simp; exact h)]
    have hch : chg (bs.take (i + 1)) (ns.take (i + 1)) = chg (bs.take i) (ns.take i) ++ if ns.getD i 0 = bs.getD i 0 then [] else [ns.getD i 0] := by
      rw [take_snoc (by omega), take_snoc hiL, chg_snoc _ _ _ _ (by simp; omega)]
    refine f15_step hp hq fx fy hiL hL (by omega) hT ?_ ?_ fun G' vm vw hT2 => ?_
    · rw [mI_len]; omega
    · have := chg_le (bs.take i) (ns.take i); rw [List.length_take] at this; omega
    · rw [hwd, ← hch] at hT2
      rw [hwd]
      have ih := f15_loop (c1 := c1) (c2 := c2) hp hq hl hL k (i + 1) G' vm vw (by omega)
      by_cases hl1 : i + 1 = ns.length
      · have hc : i % 60 = 59 ∨ i + 1 = ns.length := .inr hl1
        rw [if_pos hc] at hT2
        rw [if_pos hc, if_pos hc]
        rw [if_pos hl1, if_pos hl1, if_pos hl1, show (ns.length + 59) / 60 = i / 60 + 1 by omega, mI_push] at ih
        exact ih hT2
      · rw [if_neg hl1, if_neg hl1, if_neg hl1] at ih
        by_cases h59 : i % 60 = 59
        · have hc : i % 60 = 59 ∨ i + 1 = ns.length := .inl h59
          rw [if_pos hc] at hT2
          rw [if_pos hc, if_pos hc]
          rw [show (i + 1) / 60 = i / 60 + 1 by omega, show (i + 1) % 60 = 0 by omega, mI_push, mkw, Nat.pow_zero] at ih
          exact ih hT2
        · have hc : ¬ (i % 60 = 59 ∨ i + 1 = ns.length) := by omega
          rw [if_neg hc] at hT2
          rw [if_neg hc, if_neg hc]
          rw [show (i + 1) / 60 = i / 60 by omega, show (i + 1) % 60 = i % 60 + 1 by omega, mI_stay, Nat.pow_succ] at ih
          exact ih hT2
theorem f15_run {bs ns : List Int} {p q : Nat} {c1 c2 : Option Nat} {H : Heap} {Q : Post} (hl : bs.length = ns.length) (hL : ns.length ≤ 600) (go : acs Try.prog [.lp c15l0, .blk 0, .code c15t] (e15 p q ns.length c1 c2 .nils .nils 0 1 0) (H ++ []) Q) :
    ac Try.prog c15 [(0, .sl p 0 bs.length 1 c1), (1, .sl q 0 ns.length 1 c2)] H Q := by
  have h1' : ¬ (600 : Int) < (ns.length : Int) := by omega
  unfold e15 c15t c15 tl2 at go
  refine acs_start ?_
  unfold c15
  simp only [List.append_assoc, List.cons_append, List.nil_append, List.length_append, List.length_cons, List.length_nil, Nat.reduceAdd, Nat.add_assoc, Nat.zero_add, Nat.add_zero, Int.natCast_add, Int.cast_ofNat_Int, List.append_nil] at go
  simp (maxSteps := 1000000) (disch := omega) only [acs_nil, acs_blk, acs_skip, acs_reg, acs_dreg, acs_seq, acs_cond, acs_block, acs_exit, acs_ret, acs_kl, acs_loop, leave_nil, leave_code, leave_lp, leave_blk, aopsK_nil, aopsK_cons, aopsK_guard, bindR_val, bindR_need, bindR_br, bindR_call, bindR_bad, drawK_nil, drawK_cons, drawK_ext, drawK_pur, drawK_guard, bindD_val, bindD_need, bindD_br, bindD_call, bindD_bad, bindX_val, bindX_need, bindX_br, bindX_call, guardD_bool, guardD_tup, grows, grows0, List.append_cancel_left_eq, List.cons.injEq, exists_eq', exists_eq, condK_bool, guardK_bool, guardK_tup, sor, r0, r1, r2, r3, rC, rB, rI, rP, rA, rT, rS, rF, rSl, rO, rbin, rcut, run1, Env.evals, Env.eval, Env.get, Env.put, Env.ins, Env.del, Env.dels, argEnv, AV.full, AV.cells, AV.cell, eqCells, Nat.reduceEqDiff, Nat.reduceLT, Nat.reduceAdd, Nat.reduceSub, Nat.reduceMul, Nat.reduceBEq, Int.reduceLT, Int.reduceAdd, Int.reduceMul, Int.reduceToNat, Int.reduceLE, Int.reduceEq, ↓reduceIte, decide_true, decide_false, decide_eq_true_eq, decide_eq_false_iff_not, Bool.not_eq_true', Bool.not_eq_false', true_and, and_true, false_implies, true_implies, forall_const, Bool.not_true, Bool.not_false, Bool.false_eq_true, Bool.true_eq_false, List.getElem?_cons_zero, List.getElem?_cons_succ, List.length_cons, List.length_nil, List.length_append, List.all_cons, List.all_nil, Bool.and_true, Bool.and_self, implies_true, reduceCtorEq, List.append_assoc, List.cons_append, List.nil_append, Int.reduceNeg, i64_in, imin_eq, imax_eq, cast3, cast0, cast1, cast2, Option.map_none, ite_self, and_false, false_and, Option.isSome_some, or_true, true_or, Int.sub_zero, Int.mul_one, Nat.sub_zero, Nat.zero_le, Int.cast_ofNat_Int, Int.natCast_nonneg, Int.toNat_natCast, ne_eq, not_false_eq_true, not_true_eq_false, strC, blkAt_app, blkAt_app0, blkAt_zero, blkAt_succ, List.set_cons_zero, List.set_cons_succ, set_app, set_app0, Option.map_some, Option.bind_some, rd, setCells, lay, rdS, szOk, rapp, ownAt, lenAt, Option.any_some, Option.getD_some, List.drop_zero, List.drop_succ_cons, List.take_succ_cons, List.take_zero, List.drop_nil, List.take_nil, Nat.reduceLeDiff, Nat.lt_irrefl, Nat.zero_add, Nat.add_zero, Nat.mul_one, Nat.one_mul, Nat.add_assoc, Option.some.injEq, eq_self,  hl, h1']
  exact go
theorem f15_any (bs ns : List Int) (p q : Nat) (c1 c2 : Option Nat) (o o' : Bool) (H : Heap) (hp : blkAt H p = some ⟨bs.map (AV.int .i64), o⟩) (hq : blkAt H q = some ⟨ns.map (AV.int .i64), o'⟩) :
    ACall Try.prog 15 [.sl p 0 bs.length 1 c1, .sl q 0 ns.length 1 c2] H (rowres (dspec bs ns) H) (rowheap (dspec bs ns) H) := by
  unfold dspec rowres rowheap
  by_cases h1 : bs.length = ns.length
  · by_cases h2 : 600 < bs.length
    · rw [if_neg (by simp [h1]), if_pos h2]
      refine call_nilres2 (acall15 (by simp) (acs_start ?_))
      have h2' : (600 : Int) < (ns.length : Int) := by omega
      unfold c15
      simp (maxSteps := 1000000) (disch := omega) only [acs_nil, acs_blk, acs_skip, acs_reg, acs_dreg, acs_seq, acs_cond, acs_block, acs_exit, acs_ret, acs_kl, acs_loop, leave_nil, leave_code, leave_lp, leave_blk, aopsK_nil, aopsK_cons, aopsK_guard, bindR_val, bindR_need, bindR_br, bindR_call, bindR_bad, drawK_nil, drawK_cons, drawK_ext, drawK_pur, drawK_guard, bindD_val, bindD_need, bindD_br, bindD_call, bindD_bad, bindX_val, bindX_need, bindX_br, bindX_call, guardD_bool, guardD_tup, grows, grows0, List.append_cancel_left_eq, List.cons.injEq, exists_eq', exists_eq, condK_bool, guardK_bool, guardK_tup, sor, r0, r1, r2, r3, rC, rB, rI, rP, rA, rT, rS, rF, rSl, rO, rbin, rcut, run1, Env.evals, Env.eval, Env.get, Env.put, Env.ins, Env.del, Env.dels, argEnv, AV.full, AV.cells, AV.cell, eqCells, Nat.reduceEqDiff, Nat.reduceLT, Nat.reduceAdd, Nat.reduceSub, Nat.reduceMul, Nat.reduceBEq, Int.reduceLT, Int.reduceAdd, Int.reduceMul, Int.reduceToNat, Int.reduceLE, Int.reduceEq, ↓reduceIte, decide_true, decide_false, decide_eq_true_eq, decide_eq_false_iff_not, Bool.not_eq_true', Bool.not_eq_false', true_and, and_true, false_implies, true_implies, forall_const, Bool.not_true, Bool.not_false, Bool.false_eq_true, Bool.true_eq_false, List.getElem?_cons_zero, List.getElem?_cons_succ, List.length_cons, List.length_nil, List.length_append, List.all_cons, List.all_nil, Bool.and_true, Bool.and_self, implies_true, reduceCtorEq, List.append_assoc, List.cons_append, List.nil_append, Int.reduceNeg, i64_in, imin_eq, imax_eq, cast3, cast0, cast1, cast2, Option.map_none, ite_self, and_false, false_and, Option.isSome_some, or_true, true_or, Int.sub_zero, Int.mul_one, Nat.sub_zero, Nat.zero_le, Int.cast_ofNat_Int, Int.natCast_nonneg, Int.toNat_natCast, ne_eq, not_false_eq_true, not_true_eq_false, strC, blkAt_app, blkAt_app0, blkAt_zero, blkAt_succ, List.set_cons_zero, List.set_cons_succ, set_app, set_app0, Option.map_some, Option.bind_some, rd, setCells, lay, rdS, szOk, rapp, ownAt, lenAt, Option.any_some, Option.getD_some, List.drop_zero, List.drop_succ_cons, List.take_succ_cons, List.take_zero, List.drop_nil, List.take_nil, Nat.reduceLeDiff, Nat.lt_irrefl, Nat.zero_add, Nat.add_zero, Nat.mul_one, Nat.one_mul, Nat.add_assoc, Option.some.injEq, eq_self,  h1, h2']
      exact fin_same (by simp) _ (by first | exact (List.append_nil _).symm | rfl) (by simp (maxSteps := 1000000) (disch := omega) only [resVal, resAll, resOne, rs15, Env.get, Nat.reduceEqDiff, Nat.reduceLT, Nat.reduceAdd, Nat.reduceSub, Nat.reduceMul, Nat.reduceBEq, Int.reduceLT, Int.reduceAdd, Int.reduceMul, Int.reduceToNat, Int.reduceLE, Int.reduceEq, ↓reduceIte, decide_true, decide_false, decide_eq_true_eq, decide_eq_false_iff_not, Bool.not_eq_true', Bool.not_eq_false', true_and, and_true, false_implies, true_implies, forall_const, Bool.not_true, Bool.not_false, Bool.false_eq_true, Bool.true_eq_false, List.getElem?_cons_zero, List.getElem?_cons_succ, List.length_cons, List.length_nil, List.length_append, List.all_cons, List.all_nil, Bool.and_true, Bool.and_self, implies_true, reduceCtorEq, List.append_assoc, List.cons_append, List.nil_append, Int.reduceNeg, i64_in, imin_eq, imax_eq, cast3, cast0, cast1, cast2, Option.map_none, ite_self, and_false, false_and, Option.isSome_some, or_true, true_or, Int.sub_zero, Int.mul_one, Nat.sub_zero, Nat.zero_le, Int.cast_ofNat_Int, Int.natCast_nonneg, Int.toNat_natCast, ne_eq, not_false_eq_true, not_true_eq_false, strC, blkAt_app, blkAt_app0, blkAt_zero, blkAt_succ, List.set_cons_zero, List.set_cons_succ, set_app, set_app0, Option.map_some, Option.bind_some, rd, setCells, lay, rdS, szOk, rapp, ownAt, lenAt, Option.any_some, Option.getD_some, List.drop_zero, List.drop_succ_cons, List.take_succ_cons, List.take_zero, List.drop_nil, List.take_nil, Nat.reduceLeDiff, Nat.lt_irrefl, Nat.zero_add, Nat.add_zero, Nat.mul_one, Nat.one_mul, Nat.add_assoc, Option.some.injEq, eq_self]) (by simp only [AV.und, AV.unds, and_self])
    · rw [if_neg (by simp [h1]), if_neg h2]
      have hT : Two H [] .nils .nils (mI (bet bs ns) (if 0 = ns.length then (ns.length + 59) / 60 else 0 / 60) 0) (chg (bs.take 0) (ns.take 0)) := by
        have e : (if 0 = ns.length then (ns.length + 59) / 60 else 0 / 60) = 0 := by split <;> omega
        rw [e]
        exact .nn []
      have go := f15_loop (c1 := c1) (c2 := c2) hp hq h1 (by omega) ns.length 0 [] .nils .nils (by omega) hT
      have e2 : (if 0 = ns.length then 0 else mkw (bet bs ns) (60 * (0 / 60)) (0 % 60)) = 0 := by split <;> rfl
      have e3 : (if 0 = ns.length then 1 else 2 ^ (0 % 60)) = 1 := by split <;> rfl
      rw [e2, e3] at go
      have go := f15_run h1 (by omega) go
      cases hR : diff bs ns with
      | nil =>
        rw [hR] at go
        exact call_nilres2 (acall15 (by simp) go)
      | cons x r =>
        rw [hR] at go
        exact acallW (fun v' h => acall15 (by simp) h) go
  · rw [if_pos h1]
    refine call_nilres2 (acall15 (by simp) (acs_start ?_))
    have h1' : ¬ (bs.length : Int) = (ns.length : Int) := by omega
    unfold c15
    simp (maxSteps := 1000000) (disch := omega) only [acs_nil, acs_blk, acs_skip, acs_reg, acs_dreg, acs_seq, acs_cond, acs_block, acs_exit, acs_ret, acs_kl, acs_loop, leave_nil, leave_code, leave_lp, leave_blk, aopsK_nil, aopsK_cons, aopsK_guard, bindR_val, bindR_need, bindR_br, bindR_call, bindR_bad, drawK_nil, drawK_cons, drawK_ext, drawK_pur, drawK_guard, bindD_val, bindD_need, bindD_br, bindD_call, bindD_bad, bindX_val, bindX_need, bindX_br, bindX_call, guardD_bool, guardD_tup, grows, grows0, List.append_cancel_left_eq, List.cons.injEq, exists_eq', exists_eq, condK_bool, guardK_bool, guardK_tup, sor, r0, r1, r2, r3, rC, rB, rI, rP, rA, rT, rS, rF, rSl, rO, rbin, rcut, run1, Env.evals, Env.eval, Env.get, Env.put, Env.ins, Env.del, Env.dels, argEnv, AV.full, AV.cells, AV.cell, eqCells, Nat.reduceEqDiff, Nat.reduceLT, Nat.reduceAdd, Nat.reduceSub, Nat.reduceMul, Nat.reduceBEq, Int.reduceLT, Int.reduceAdd, Int.reduceMul, Int.reduceToNat, Int.reduceLE, Int.reduceEq, ↓reduceIte, decide_true, decide_false, decide_eq_true_eq, decide_eq_false_iff_not, Bool.not_eq_true', Bool.not_eq_false', true_and, and_true, false_implies, true_implies, forall_const, Bool.not_true, Bool.not_false, Bool.false_eq_true, Bool.true_eq_false, List.getElem?_cons_zero, List.getElem?_cons_succ, List.length_cons, List.length_nil, List.length_append, List.all_cons, List.all_nil, Bool.and_true, Bool.and_self, implies_true, reduceCtorEq, List.append_assoc, List.cons_append, List.nil_append, Int.reduceNeg, i64_in, imin_eq, imax_eq, cast3, cast0, cast1, cast2, Option.map_none, ite_self, and_false, false_and, Option.isSome_some, or_true, true_or, Int.sub_zero, Int.mul_one, Nat.sub_zero, Nat.zero_le, Int.cast_ofNat_Int, Int.natCast_nonneg, Int.toNat_natCast, ne_eq, not_false_eq_true, not_true_eq_false, strC, blkAt_app, blkAt_app0, blkAt_zero, blkAt_succ, List.set_cons_zero, List.set_cons_succ, set_app, set_app0, Option.map_some, Option.bind_some, rd, setCells, lay, rdS, szOk, rapp, ownAt, lenAt, Option.any_some, Option.getD_some, List.drop_zero, List.drop_succ_cons, List.take_succ_cons, List.take_zero, List.drop_nil, List.take_nil, Nat.reduceLeDiff, Nat.lt_irrefl, Nat.zero_add, Nat.add_zero, Nat.mul_one, Nat.one_mul, Nat.add_assoc, Option.some.injEq, eq_self,  h1']
    exact fin_same (by simp) _ (by first | exact (List.append_nil _).symm | rfl) (by simp (maxSteps := 1000000) (disch := omega) only [resVal, resAll, resOne, rs15, Env.get, Nat.reduceEqDiff, Nat.reduceLT, Nat.reduceAdd, Nat.reduceSub, Nat.reduceMul, Nat.reduceBEq, Int.reduceLT, Int.reduceAdd, Int.reduceMul, Int.reduceToNat, Int.reduceLE, Int.reduceEq, ↓reduceIte, decide_true, decide_false, decide_eq_true_eq, decide_eq_false_iff_not, Bool.not_eq_true', Bool.not_eq_false', true_and, and_true, false_implies, true_implies, forall_const, Bool.not_true, Bool.not_false, Bool.false_eq_true, Bool.true_eq_false, List.getElem?_cons_zero, List.getElem?_cons_succ, List.length_cons, List.length_nil, List.length_append, List.all_cons, List.all_nil, Bool.and_true, Bool.and_self, implies_true, reduceCtorEq, List.append_assoc, List.cons_append, List.nil_append, Int.reduceNeg, i64_in, imin_eq, imax_eq, cast3, cast0, cast1, cast2, Option.map_none, ite_self, and_false, false_and, Option.isSome_some, or_true, true_or, Int.sub_zero, Int.mul_one, Nat.sub_zero, Nat.zero_le, Int.cast_ofNat_Int, Int.natCast_nonneg, Int.toNat_natCast, ne_eq, not_false_eq_true, not_true_eq_false, strC, blkAt_app, blkAt_app0, blkAt_zero, blkAt_succ, List.set_cons_zero, List.set_cons_succ, set_app, set_app0, Option.map_some, Option.bind_some, rd, setCells, lay, rdS, szOk, rapp, ownAt, lenAt, Option.any_some, Option.getD_some, List.drop_zero, List.drop_succ_cons, List.take_succ_cons, List.take_zero, List.drop_nil, List.take_nil, Nat.reduceLeDiff, Nat.lt_irrefl, Nat.zero_add, Nat.add_zero, Nat.mul_one, Nat.one_mul, Nat.add_assoc, Option.some.injEq, eq_self]) (by simp only [AV.und, AV.unds, and_self])
end Go.Proofs.Ytlohehkagaabfaa.Ah
