/- Ve: a part of the proof: contracts of functions, or plain laws. Conditions: none. -/
import Derived.Test.YtbjlbcihhleclaaVd
import Derived.Test.YtbjlbcihhleclaaEc
namespace Go.Proofs.Ytbjlbcihhleclaa.Ah
open Go Go.WideShapes
attribute [local irreducible] acs aopsK drawK leave condK bindR bindD bindX guardK guardD callB callD callX callP callPv rfunG rfunK yldB yldD
set_option maxHeartbeats 8000000
set_option linter.unusedSimpArgs false
set_option linter.unusedVariables false
/-! Contracts: how many bits are 1. -/
theorem andM {a : Nat} (m : Nat) (mi : Int) (hm : mi = m) (ha : a < 18446744073709551616) (hm2 : m < 18446744073709551616) : IntKind.u64.wrap (BitVec.ofInt IntKind.u64.bits (a : Int) &&& BitVec.ofInt IntKind.u64.bits mi).toNat = ((a &&& m : Nat) : Int) := by
  subst hm
  have hle : a &&& m ≤ a := Nat.and_le_left
  have e : (BitVec.ofInt IntKind.u64.bits (a : Int) &&& BitVec.ofInt IntKind.u64.bits (m : Int)).toNat = a &&& m := by
    show (BitVec.ofInt 64 (a : Int) &&& BitVec.ofInt 64 (m : Int)).toNat = a &&& m
    rw [BitVec.toNat_and, BitVec.ofInt_natCast, BitVec.ofInt_natCast, BitVec.toNat_ofNat, BitVec.toNat_ofNat, Nat.mod_eq_of_lt (by omega), Nat.mod_eq_of_lt (by omega)]
  rw [e, u64_in]
  omega
theorem shr64 {a k : Nat} (hk : k ≤ 64) : (a : Int).fdiv (2 ^ (min k IntKind.u64.bits)) = ((a / 2 ^ k : Nat) : Int) := by
  have e : min k IntKind.u64.bits = k := by
    have : IntKind.u64.bits = 64 := rfl
    omega
  rw [e, Int.fdiv_eq_ediv_of_nonneg _ (Int.pow_nonneg (by decide))]
  simp
theorem add64 {a b : Nat} (h : a + b < 18446744073709551616) : IntKind.u64.wrap ((a : Int) + (b : Int)) = ((a + b : Nat) : Int) := by
  rw [u64_in _ (by omega)]
  omega
theorem pop_le (x : Nat) : pop x ≤ 64 := by
  have hl := dig_len 8 x
  have hB := dig_Bs 8 x
  unfold pop
  generalize dig x 8 = l at *
  match l, hl with
  | [p0, p1, p2, p3, p4, p5, p6, p7], _ =>
    have e : ∀ b, pop8 b ≤ 8 := by intro b; unfold pop8; omega
    have h0 := e p0
    have h1 := e p1
    have h2 := e p2
    have h3 := e p3
    have h4 := e p4
    have h5 := e p5
    have h6 := e p6
    have h7 := e p7
    simp only [List.map_cons, List.map_nil, List.sum_cons, List.sum_nil]
    omega
theorem and_le2 (a m : Nat) : a &&& m ≤ m := Nat.and_le_right
theorem f76 (x : Nat) (H : Heap) (hx : x < 18446744073709551616) : ACall Try.prog 76 [.int .u64 (x : Int)] H (.int .i64 (pop x : Nat)) H := by
  refine acall76 (by simp) (acs_start ?_)
  have hc := (cnt64_all hx).1
  have h1 := (cnt64_all hx).2
  unfold cnt64 at hc
  simp only at hc
  have p0 := @shr64 x 1 (by decide)
  have q0 := andM (a := x) 6148914691236517205 6148914691236517205 rfl hx (by decide)
  have q1 := andM (a := x / 2) 6148914691236517205 6148914691236517205 rfl (by omega) (by decide)
  have a1 := add64 h1
  generalize hy1 : (x / 2 &&& 6148914691236517205) + (x &&& 6148914691236517205) = y1 at *
  have p1 := @shr64 y1 2 (by decide)
  have q2 := andM (a := y1) 3689348814741910323 3689348814741910323 rfl h1 (by decide)
  have q3 := andM (a := y1 / 4) 3689348814741910323 3689348814741910323 rfl (by omega) (by decide)
  have b2 : (y1 / 4 &&& 3689348814741910323) + (y1 &&& 3689348814741910323) ≤ 7378697629483820646 := by
    have := and_le2 (y1 / 4) 3689348814741910323
    have := and_le2 y1 3689348814741910323
    omega
  have a2 := add64 (a := y1 / 4 &&& 3689348814741910323) (b := y1 &&& 3689348814741910323) (by omega)
  generalize hy2 : (y1 / 4 &&& 3689348814741910323) + (y1 &&& 3689348814741910323) = y2 at *
  have p2 := @shr64 y2 4 (by decide)
  have a3 := add64 (a := y2 / 16) (b := y2) (by omega)
  have q4 := andM (a := y2 / 16 + y2) 1085102592571150095 1085102592571150095 rfl (by omega) (by decide)
  have b3 := and_le2 (y2 / 16 + y2) 1085102592571150095
  generalize hy3 : (y2 / 16 + y2) &&& 1085102592571150095 = y3 at *
  have p3 := @shr64 y3 8 (by decide)
  have a4 := add64 (a := y3) (b := y3 / 256) (by omega)
  generalize hy4 : y3 + y3 / 256 = y4 at *
  have p4 := @shr64 y4 16 (by decide)
  have a5 := add64 (a := y4) (b := y4 / 65536) (by omega)
  generalize hy5 : y4 + y4 / 65536 = y5 at *
  have p5 := @shr64 y5 32 (by decide)
  have a6 := add64 (a := y5) (b := y5 / 4294967296) (by omega)
  generalize hy6 : y5 + y5 / 4294967296 = y6 at *
  have b6 : y6 < 9223372036854775808 := by omega
  have q7 : IntKind.i64.wrap (BitVec.ofInt IntKind.i64.bits (y6 : Int) &&& BitVec.ofInt IntKind.i64.bits 127).toNat = ((y6 % 128 : Nat) : Int) := by
    have e : (BitVec.ofInt IntKind.i64.bits (y6 : Int) &&& BitVec.ofInt IntKind.i64.bits 127).toNat = y6 % 128 := by
      show (BitVec.ofInt 64 (y6 : Int) &&& BitVec.ofInt 64 ((127 : Nat) : Int)).toNat = y6 % 128
      rw [BitVec.toNat_and, BitVec.ofInt_natCast, BitVec.ofInt_natCast, BitVec.toNat_ofNat, BitVec.toNat_ofNat, Nat.mod_eq_of_lt (by omega), Nat.mod_eq_of_lt (by omega)]
      exact Nat.and_two_pow_sub_one_eq_mod y6 7
    rw [e, i64_in]
    omega
  simp only [Nat.reducePow] at p0 p1 p2 p3 p4 p5
  clear hy1 hy2 hy3 hy4 hy5 hy6
  rw [← hc]
  unfold c76
  simp (maxSteps := 1000000) (disch := omega) only [acs_nil, acs_blk, acs_skip, acs_reg, acs_dreg, acs_freg, acs_nam0, acs_nam, nones, acs_seq, acs_cond, acs_block, acs_exit, acs_ret, acs_kl, acs_loop, leave_nil, leave_code, leave_lp, leave_blk, aopsK_nil, aopsK_cons, aopsK_guard, bindR_val, bindR_need, bindR_br, bindR_call, bindR_ycall, acs_rfun, rfunG_fn, bindR_bad, drawK_nil, drawK_cons, drawK_wat, bindW_val, bindW_need, bindW_br, WatL_nil, WatL_cons, isP_ptr, drawK_ext, drawK_pur, drawK_guard, callPv_fn, drawK_purv, bindD_val, bindD_need, bindD_br, bindD_call, bindD_ycall, bindD_bad, bindX_val, bindX_need, bindX_br, bindX_call, guardD_bool, guardD_tup, grows, grows0, List.append_cancel_left_eq, List.cons.injEq, exists_eq', exists_eq, condK_bool, guardK_bool, guardK_tup, sor, r0, r1, r2, r3, rC, rB, rI, rP, rA, rT, rS, rF, rSl, rO, rbin, rcut, run1, Env.evals, Env.eval, Env.get, Env.put, Env.ins, Env.del, Env.dels, argEnv, AV.full, AV.cells, AV.cell, eqCells, Nat.reduceEqDiff, Nat.reduceLT, Nat.reduceAdd, Nat.reduceSub, Nat.reduceMul, Nat.reduceBEq, Int.reduceLT, Int.reduceAdd, Int.reduceMul, Int.reduceSub, Int.reduceToNat, Int.reduceLE, Int.reduceEq, ↓reduceIte, decide_true, decide_false, decide_eq_true_eq, decide_eq_false_iff_not, Bool.not_eq_true', Bool.not_eq_false', true_and, and_true, false_implies, true_implies, forall_const, Bool.not_true, Bool.not_false, Bool.false_eq_true, Bool.true_eq_false, List.getElem?_cons_zero, List.getElem?_cons_succ, List.length_cons, List.length_nil, List.length_append, List.all_cons, List.all_nil, Bool.and_true, Bool.and_self, implies_true, reduceCtorEq, List.append_assoc, List.cons_append, List.nil_append, List.append_nil, Int.reduceNeg, i64_in, imin_eq, imax_eq, cast3, cast0, cast1, cast2, Option.map_none, ite_self, and_false, false_and, Option.isSome_some, or_true, true_or, Int.sub_zero, Int.mul_one, Nat.sub_zero, Nat.zero_le, Int.cast_ofNat_Int, Int.natCast_nonneg, Int.toNat_natCast, ne_eq, not_false_eq_true, not_true_eq_false, strC, blkAt_app, blkAt_app0, blkAt_zero, blkAt_succ, List.set_cons_zero, List.set_cons_succ, set_app, set_app0, Option.map_some, Option.bind_some, rd, setCells, lay, rdS, szOk, rapp, ownAt, lenAt, Option.any_some, Option.getD_some, List.drop_zero, List.drop_succ_cons, List.take_succ_cons, List.take_zero, List.drop_nil, List.take_nil, Nat.reduceLeDiff, Nat.lt_irrefl, Nat.zero_add, Nat.add_zero, Nat.mul_one, Nat.one_mul, Nat.add_assoc, Option.some.injEq, eq_self,  p0, q0, q1, a1, p1, q2, q3, a2, p2, a3, q4, p3, a4, p4, a5, p5, a6, q7, Nat.reducePow]
  exact fin_same (by simp) _ (by first | exact (List.append_nil _).symm | rfl) (by simp (maxSteps := 1000000) (disch := omega) only [resVal, resAll, resOne, rs76, Env.get, Nat.reduceEqDiff, Nat.reduceLT, Nat.reduceAdd, Nat.reduceSub, Nat.reduceMul, Nat.reduceBEq, Int.reduceLT, Int.reduceAdd, Int.reduceMul, Int.reduceSub, Int.reduceToNat, Int.reduceLE, Int.reduceEq, ↓reduceIte, decide_true, decide_false, decide_eq_true_eq, decide_eq_false_iff_not, Bool.not_eq_true', Bool.not_eq_false', true_and, and_true, false_implies, true_implies, forall_const, Bool.not_true, Bool.not_false, Bool.false_eq_true, Bool.true_eq_false, List.getElem?_cons_zero, List.getElem?_cons_succ, List.length_cons, List.length_nil, List.length_append, List.all_cons, List.all_nil, Bool.and_true, Bool.and_self, implies_true, reduceCtorEq, List.append_assoc, List.cons_append, List.nil_append, List.append_nil, Int.reduceNeg, i64_in, imin_eq, imax_eq, cast3, cast0, cast1, cast2, Option.map_none, ite_self, and_false, false_and, Option.isSome_some, or_true, true_or, Int.sub_zero, Int.mul_one, Nat.sub_zero, Nat.zero_le, Int.cast_ofNat_Int, Int.natCast_nonneg, Int.toNat_natCast, ne_eq, not_false_eq_true, not_true_eq_false, strC, blkAt_app, blkAt_app0, blkAt_zero, blkAt_succ, List.set_cons_zero, List.set_cons_succ, set_app, set_app0, Option.map_some, Option.bind_some, rd, setCells, lay, rdS, szOk, rapp, ownAt, lenAt, Option.any_some, Option.getD_some, List.drop_zero, List.drop_succ_cons, List.take_succ_cons, List.take_zero, List.drop_nil, List.take_nil, Nat.reduceLeDiff, Nat.lt_irrefl, Nat.zero_add, Nat.add_zero, Nat.mul_one, Nat.one_mul, Nat.add_assoc, Option.some.injEq, eq_self]) (by simp only [AV.und, AV.unds, and_self])
/-- The bits of a row of words that are 1. -/
def ones : List Int → Nat
  | [] => 0
  | n :: r => pop (u64 n) + ones r
theorem ones_le : ∀ (l : List Int), ones l ≤ 64 * l.length
  | [] => by simp [ones]
  | n :: r => by
    have := ones_le r
    have := pop_le (u64 n)
    rw [ones, List.length_cons]
    omega
theorem ones_app : ∀ (a b : List Int), ones (a ++ b) = ones a + ones b
  | [], b => by simp [ones]
  | n :: r, b => by rw [List.cons_append, ones, ones, ones_app r b]; omega
def c65t : SC := tl2 (tl2 (tl2 c65))
def e65 (p off n : Nat) (c : Option Nat) (s j : Nat) : Env := [(3, .int .i64 (s : Nat)), (6, .sl p off n 1 c), (7, .int .i64 (n : Nat)), (8, .int .i64 (j : Nat))]
theorem f65_loop {xs : List Int} {p off : Nat} {c : Option Nat} {H : Heap} (hx : Sl i64 H p off xs) (hl : xs.length ≤ 4000000) : ∀ (r : List Int) (j s : Nat), xs.drop j = r → j + r.length = xs.length → s + ones r = ones xs →
    acs Try.prog [.lp c65l0, .blk 0, .code c65t] (e65 p off xs.length c s j) H (Fin H rs65 (.int .i64 (ones xs : Nat)) H) := by
  have hb := ones_le xs
  obtain ⟨cs, o, hp, hle, hcs⟩ := hx
  intro r
  induction r with
  | nil =>
    intro j s _ hj hs
    have hlt : ¬ (j : Int) < (xs.length : Int) := by simp at hj; omega
    rw [← hs, ones]
    unfold e65
    rw [acs_lp]; conv in Fr.code c65l0 => unfold c65l0
    simp (maxSteps := 1000000) (disch := omega) only [acs_nil, acs_blk, acs_skip, acs_reg, acs_dreg, acs_freg, acs_nam0, acs_nam, nones, acs_seq, acs_cond, acs_block, acs_exit, acs_ret, acs_kl, acs_loop, leave_nil, leave_code, leave_lp, leave_blk, aopsK_nil, aopsK_cons, aopsK_guard, bindR_val, bindR_need, bindR_br, bindR_call, bindR_ycall, acs_rfun, rfunG_fn, bindR_bad, drawK_nil, drawK_cons, drawK_wat, bindW_val, bindW_need, bindW_br, WatL_nil, WatL_cons, isP_ptr, drawK_ext, drawK_pur, drawK_guard, callPv_fn, drawK_purv, bindD_val, bindD_need, bindD_br, bindD_call, bindD_ycall, bindD_bad, bindX_val, bindX_need, bindX_br, bindX_call, guardD_bool, guardD_tup, grows, grows0, List.append_cancel_left_eq, List.cons.injEq, exists_eq', exists_eq, condK_bool, guardK_bool, guardK_tup, sor, r0, r1, r2, r3, rC, rB, rI, rP, rA, rT, rS, rF, rSl, rO, rbin, rcut, run1, Env.evals, Env.eval, Env.get, Env.put, Env.ins, Env.del, Env.dels, argEnv, AV.full, AV.cells, AV.cell, eqCells, Nat.reduceEqDiff, Nat.reduceLT, Nat.reduceAdd, Nat.reduceSub, Nat.reduceMul, Nat.reduceBEq, Int.reduceLT, Int.reduceAdd, Int.reduceMul, Int.reduceSub, Int.reduceToNat, Int.reduceLE, Int.reduceEq, ↓reduceIte, decide_true, decide_false, decide_eq_true_eq, decide_eq_false_iff_not, Bool.not_eq_true', Bool.not_eq_false', true_and, and_true, false_implies, true_implies, forall_const, Bool.not_true, Bool.not_false, Bool.false_eq_true, Bool.true_eq_false, List.getElem?_cons_zero, List.getElem?_cons_succ, List.length_cons, List.length_nil, List.length_append, List.all_cons, List.all_nil, Bool.and_true, Bool.and_self, implies_true, reduceCtorEq, List.append_assoc, List.cons_append, List.nil_append, List.append_nil, Int.reduceNeg, i64_in, imin_eq, imax_eq, cast3, cast0, cast1, cast2, Option.map_none, ite_self, and_false, false_and, Option.isSome_some, or_true, true_or, Int.sub_zero, Int.mul_one, Nat.sub_zero, Nat.zero_le, Int.cast_ofNat_Int, Int.natCast_nonneg, Int.toNat_natCast, ne_eq, not_false_eq_true, not_true_eq_false, strC, blkAt_app, blkAt_app0, blkAt_zero, blkAt_succ, List.set_cons_zero, List.set_cons_succ, set_app, set_app0, Option.map_some, Option.bind_some, rd, setCells, lay, rdS, szOk, rapp, ownAt, lenAt, Option.any_some, Option.getD_some, List.drop_zero, List.drop_succ_cons, List.take_succ_cons, List.take_zero, List.drop_nil, List.take_nil, Nat.reduceLeDiff, Nat.lt_irrefl, Nat.zero_add, Nat.add_zero, Nat.mul_one, Nat.one_mul, Nat.add_assoc, Option.some.injEq, eq_self,  hlt]
    unfold c65t c65 tl2
    simp (maxSteps := 1000000) (disch := omega) only [acs_nil, acs_blk, acs_skip, acs_reg, acs_dreg, acs_freg, acs_nam0, acs_nam, nones, acs_seq, acs_cond, acs_block, acs_exit, acs_ret, acs_kl, acs_loop, leave_nil, leave_code, leave_lp, leave_blk, aopsK_nil, aopsK_cons, aopsK_guard, bindR_val, bindR_need, bindR_br, bindR_call, bindR_ycall, acs_rfun, rfunG_fn, bindR_bad, drawK_nil, drawK_cons, drawK_wat, bindW_val, bindW_need, bindW_br, WatL_nil, WatL_cons, isP_ptr, drawK_ext, drawK_pur, drawK_guard, callPv_fn, drawK_purv, bindD_val, bindD_need, bindD_br, bindD_call, bindD_ycall, bindD_bad, bindX_val, bindX_need, bindX_br, bindX_call, guardD_bool, guardD_tup, grows, grows0, List.append_cancel_left_eq, List.cons.injEq, exists_eq', exists_eq, condK_bool, guardK_bool, guardK_tup, sor, r0, r1, r2, r3, rC, rB, rI, rP, rA, rT, rS, rF, rSl, rO, rbin, rcut, run1, Env.evals, Env.eval, Env.get, Env.put, Env.ins, Env.del, Env.dels, argEnv, AV.full, AV.cells, AV.cell, eqCells, Nat.reduceEqDiff, Nat.reduceLT, Nat.reduceAdd, Nat.reduceSub, Nat.reduceMul, Nat.reduceBEq, Int.reduceLT, Int.reduceAdd, Int.reduceMul, Int.reduceSub, Int.reduceToNat, Int.reduceLE, Int.reduceEq, ↓reduceIte, decide_true, decide_false, decide_eq_true_eq, decide_eq_false_iff_not, Bool.not_eq_true', Bool.not_eq_false', true_and, and_true, false_implies, true_implies, forall_const, Bool.not_true, Bool.not_false, Bool.false_eq_true, Bool.true_eq_false, List.getElem?_cons_zero, List.getElem?_cons_succ, List.length_cons, List.length_nil, List.length_append, List.all_cons, List.all_nil, Bool.and_true, Bool.and_self, implies_true, reduceCtorEq, List.append_assoc, List.cons_append, List.nil_append, List.append_nil, Int.reduceNeg, i64_in, imin_eq, imax_eq, cast3, cast0, cast1, cast2, Option.map_none, ite_self, and_false, false_and, Option.isSome_some, or_true, true_or, Int.sub_zero, Int.mul_one, Nat.sub_zero, Nat.zero_le, Int.cast_ofNat_Int, Int.natCast_nonneg, Int.toNat_natCast, ne_eq, not_false_eq_true, not_true_eq_false, strC, blkAt_app, blkAt_app0, blkAt_zero, blkAt_succ, List.set_cons_zero, List.set_cons_succ, set_app, set_app0, Option.map_some, Option.bind_some, rd, setCells, lay, rdS, szOk, rapp, ownAt, lenAt, Option.any_some, Option.getD_some, List.drop_zero, List.drop_succ_cons, List.take_succ_cons, List.take_zero, List.drop_nil, List.take_nil, Nat.reduceLeDiff, Nat.lt_irrefl, Nat.zero_add, Nat.add_zero, Nat.mul_one, Nat.one_mul, Nat.add_assoc, Option.some.injEq, eq_self]
    exact fin_same (by simp) _ (by first | exact (List.append_nil _).symm | rfl) (by simp (maxSteps := 1000000) (disch := omega) only [resVal, resAll, resOne, rs65, Env.get, Nat.reduceEqDiff, Nat.reduceLT, Nat.reduceAdd, Nat.reduceSub, Nat.reduceMul, Nat.reduceBEq, Int.reduceLT, Int.reduceAdd, Int.reduceMul, Int.reduceSub, Int.reduceToNat, Int.reduceLE, Int.reduceEq, ↓reduceIte, decide_true, decide_false, decide_eq_true_eq, decide_eq_false_iff_not, Bool.not_eq_true', Bool.not_eq_false', true_and, and_true, false_implies, true_implies, forall_const, Bool.not_true, Bool.not_false, Bool.false_eq_true, Bool.true_eq_false, List.getElem?_cons_zero, List.getElem?_cons_succ, List.length_cons, List.length_nil, List.length_append, List.all_cons, List.all_nil, Bool.and_true, Bool.and_self, implies_true, reduceCtorEq, List.append_assoc, List.cons_append, List.nil_append, List.append_nil, Int.reduceNeg, i64_in, imin_eq, imax_eq, cast3, cast0, cast1, cast2, Option.map_none, ite_self, and_false, false_and, Option.isSome_some, or_true, true_or, Int.sub_zero, Int.mul_one, Nat.sub_zero, Nat.zero_le, Int.cast_ofNat_Int, Int.natCast_nonneg, Int.toNat_natCast, ne_eq, not_false_eq_true, not_true_eq_false, strC, blkAt_app, blkAt_app0, blkAt_zero, blkAt_succ, List.set_cons_zero, List.set_cons_succ, set_app, set_app0, Option.map_some, Option.bind_some, rd, setCells, lay, rdS, szOk, rapp, ownAt, lenAt, Option.any_some, Option.getD_some, List.drop_zero, List.drop_succ_cons, List.take_succ_cons, List.take_zero, List.drop_nil, List.take_nil, Nat.reduceLeDiff, Nat.lt_irrefl, Nat.zero_add, Nat.add_zero, Nat.mul_one, Nat.one_mul, Nat.add_assoc, Option.some.injEq, eq_self]) (by simp only [AV.und, AV.unds, and_self])
  | cons x r ih =>
    intro j s hd hj hs
    have hlt : (j : Int) < (xs.length : Int) := by simp at hj; omega
    have hx0 : xs[j]? = some x := by have := congrArg (·[0]?) hd; simpa using this
    have fx : cs[off + j]? = some (.int .i64 x) := sl_get hcs hx0
    have hd2 : xs.drop (j + 1) = r := by rw [← List.drop_drop, hd]; rfl
    rw [ones] at hs
    have next := ih (j + 1) (s + pop (u64 x)) hd2 (by simp at hj; omega) (by omega)
    have g := fun H => f76 (u64 x) H (u64_lt x)
    have e := u64_cast x
    unfold e65 at *
    simp only [List.append_assoc, List.cons_append, List.nil_append, List.length_append, List.length_cons, List.length_nil, Nat.reduceAdd, Nat.add_assoc, Nat.zero_add, Nat.add_zero, Int.natCast_add, Int.cast_ofNat_Int, ] at next
    have hsb : (s : Int) + ((pop (u64 x) : Nat) : Int) ≤ 9223372036854775807 := by omega
    clear ih hd hd2 hx0 hs
    generalize ones xs = R at *
    generalize pop (u64 x) = pp at *
    generalize u64 x = u at *
    rw [acs_lp]; conv in Fr.code c65l0 => unfold c65l0
    simp (maxSteps := 1000000) (disch := omega) only [acs_nil, acs_blk, acs_skip, acs_reg, acs_dreg, acs_freg, acs_nam0, acs_nam, nones, acs_seq, acs_cond, acs_block, acs_exit, acs_ret, acs_kl, acs_loop, leave_nil, leave_code, leave_lp, leave_blk, aopsK_nil, aopsK_cons, aopsK_guard, bindR_val, bindR_need, bindR_br, bindR_call, bindR_ycall, acs_rfun, rfunG_fn, bindR_bad, drawK_nil, drawK_cons, drawK_wat, bindW_val, bindW_need, bindW_br, WatL_nil, WatL_cons, isP_ptr, drawK_ext, drawK_pur, drawK_guard, callPv_fn, drawK_purv, bindD_val, bindD_need, bindD_br, bindD_call, bindD_ycall, bindD_bad, bindX_val, bindX_need, bindX_br, bindX_call, guardD_bool, guardD_tup, grows, grows0, List.append_cancel_left_eq, List.cons.injEq, exists_eq', exists_eq, condK_bool, guardK_bool, guardK_tup, sor, r0, r1, r2, r3, rC, rB, rI, rP, rA, rT, rS, rF, rSl, rO, rbin, rcut, run1, Env.evals, Env.eval, Env.get, Env.put, Env.ins, Env.del, Env.dels, argEnv, AV.full, AV.cells, AV.cell, eqCells, Nat.reduceEqDiff, Nat.reduceLT, Nat.reduceAdd, Nat.reduceSub, Nat.reduceMul, Nat.reduceBEq, Int.reduceLT, Int.reduceAdd, Int.reduceMul, Int.reduceSub, Int.reduceToNat, Int.reduceLE, Int.reduceEq, ↓reduceIte, decide_true, decide_false, decide_eq_true_eq, decide_eq_false_iff_not, Bool.not_eq_true', Bool.not_eq_false', true_and, and_true, false_implies, true_implies, forall_const, Bool.not_true, Bool.not_false, Bool.false_eq_true, Bool.true_eq_false, List.getElem?_cons_zero, List.getElem?_cons_succ, List.length_cons, List.length_nil, List.length_append, List.all_cons, List.all_nil, Bool.and_true, Bool.and_self, implies_true, reduceCtorEq, List.append_assoc, List.cons_append, List.nil_append, List.append_nil, Int.reduceNeg, i64_in, imin_eq, imax_eq, cast3, cast0, cast1, cast2, Option.map_none, ite_self, and_false, false_and, Option.isSome_some, or_true, true_or, Int.sub_zero, Int.mul_one, Nat.sub_zero, Nat.zero_le, Int.cast_ofNat_Int, Int.natCast_nonneg, Int.toNat_natCast, ne_eq, not_false_eq_true, not_true_eq_false, strC, blkAt_app, blkAt_app0, blkAt_zero, blkAt_succ, List.set_cons_zero, List.set_cons_succ, set_app, set_app0, Option.map_some, Option.bind_some, rd, setCells, lay, rdS, szOk, rapp, ownAt, lenAt, Option.any_some, Option.getD_some, List.drop_zero, List.drop_succ_cons, List.take_succ_cons, List.take_zero, List.drop_nil, List.take_nil, Nat.reduceLeDiff, Nat.lt_irrefl, Nat.zero_add, Nat.add_zero, Nat.mul_one, Nat.one_mul, Nat.add_assoc, Option.some.injEq, eq_self,  hp, hlt, fx, e]
    first | refine callB_intro (g _) ?_ | refine callD_intro (g _) ?_ | refine callP_intro (fun _ => (g _)) ?_ | refine callX_pure (g _) ?_
    simp (maxSteps := 1000000) (disch := omega) only [acs_nil, acs_blk, acs_skip, acs_reg, acs_dreg, acs_freg, acs_nam0, acs_nam, nones, acs_seq, acs_cond, acs_block, acs_exit, acs_ret, acs_kl, acs_loop, leave_nil, leave_code, leave_lp, leave_blk, aopsK_nil, aopsK_cons, aopsK_guard, bindR_val, bindR_need, bindR_br, bindR_call, bindR_ycall, acs_rfun, rfunG_fn, bindR_bad, drawK_nil, drawK_cons, drawK_wat, bindW_val, bindW_need, bindW_br, WatL_nil, WatL_cons, isP_ptr, drawK_ext, drawK_pur, drawK_guard, callPv_fn, drawK_purv, bindD_val, bindD_need, bindD_br, bindD_call, bindD_ycall, bindD_bad, bindX_val, bindX_need, bindX_br, bindX_call, guardD_bool, guardD_tup, grows, grows0, List.append_cancel_left_eq, List.cons.injEq, exists_eq', exists_eq, condK_bool, guardK_bool, guardK_tup, sor, r0, r1, r2, r3, rC, rB, rI, rP, rA, rT, rS, rF, rSl, rO, rbin, rcut, run1, Env.evals, Env.eval, Env.get, Env.put, Env.ins, Env.del, Env.dels, argEnv, AV.full, AV.cells, AV.cell, eqCells, Nat.reduceEqDiff, Nat.reduceLT, Nat.reduceAdd, Nat.reduceSub, Nat.reduceMul, Nat.reduceBEq, Int.reduceLT, Int.reduceAdd, Int.reduceMul, Int.reduceSub, Int.reduceToNat, Int.reduceLE, Int.reduceEq, ↓reduceIte, decide_true, decide_false, decide_eq_true_eq, decide_eq_false_iff_not, Bool.not_eq_true', Bool.not_eq_false', true_and, and_true, false_implies, true_implies, forall_const, Bool.not_true, Bool.not_false, Bool.false_eq_true, Bool.true_eq_false, List.getElem?_cons_zero, List.getElem?_cons_succ, List.length_cons, List.length_nil, List.length_append, List.all_cons, List.all_nil, Bool.and_true, Bool.and_self, implies_true, reduceCtorEq, List.append_assoc, List.cons_append, List.nil_append, List.append_nil, Int.reduceNeg, i64_in, imin_eq, imax_eq, cast3, cast0, cast1, cast2, Option.map_none, ite_self, and_false, false_and, Option.isSome_some, or_true, true_or, Int.sub_zero, Int.mul_one, Nat.sub_zero, Nat.zero_le, Int.cast_ofNat_Int, Int.natCast_nonneg, Int.toNat_natCast, ne_eq, not_false_eq_true, not_true_eq_false, strC, blkAt_app, blkAt_app0, blkAt_zero, blkAt_succ, List.set_cons_zero, List.set_cons_succ, set_app, set_app0, Option.map_some, Option.bind_some, rd, setCells, lay, rdS, szOk, rapp, ownAt, lenAt, Option.any_some, Option.getD_some, List.drop_zero, List.drop_succ_cons, List.take_succ_cons, List.take_zero, List.drop_nil, List.take_nil, Nat.reduceLeDiff, Nat.lt_irrefl, Nat.zero_add, Nat.add_zero, Nat.mul_one, Nat.one_mul, Nat.add_assoc, Option.some.injEq, eq_self,  hp, hlt, fx, e]
    exact next
theorem f65 {xs : List Int} {p off : Nat} {c : Option Nat} {H : Heap} (hx : Sl i64 H p off xs) (hl : xs.length ≤ 4000000) :
    ACall Try.prog 65 [.sl p off xs.length 1 c] H (.int .i64 (ones xs : Nat)) H := by
  refine acall65 (by simp) (acs_start ?_)
  have go := f65_loop (c := c) hx hl xs 0 0 rfl (by simp) (by simp)
  unfold e65 c65t c65 tl2 at go
  unfold c65
  simp only [List.append_assoc, List.cons_append, List.nil_append, List.length_append, List.length_cons, List.length_nil, Nat.reduceAdd, Nat.add_assoc, Nat.zero_add, Nat.add_zero, Int.natCast_add, Int.cast_ofNat_Int, ] at go
  simp (maxSteps := 1000000) (disch := omega) only [acs_nil, acs_blk, acs_skip, acs_reg, acs_dreg, acs_freg, acs_nam0, acs_nam, nones, acs_seq, acs_cond, acs_block, acs_exit, acs_ret, acs_kl, acs_loop, leave_nil, leave_code, leave_lp, leave_blk, aopsK_nil, aopsK_cons, aopsK_guard, bindR_val, bindR_need, bindR_br, bindR_call, bindR_ycall, acs_rfun, rfunG_fn, bindR_bad, drawK_nil, drawK_cons, drawK_wat, bindW_val, bindW_need, bindW_br, WatL_nil, WatL_cons, isP_ptr, drawK_ext, drawK_pur, drawK_guard, callPv_fn, drawK_purv, bindD_val, bindD_need, bindD_br, bindD_call, bindD_ycall, bindD_bad, bindX_val, bindX_need, bindX_br, bindX_call, guardD_bool, guardD_tup, grows, grows0, List.append_cancel_left_eq, List.cons.injEq, exists_eq', exists_eq, condK_bool, guardK_bool, guardK_tup, sor, r0, r1, r2, r3, rC, rB, rI, rP, rA, rT, rS, rF, rSl, rO, rbin, rcut, run1, Env.evals, Env.eval, Env.get, Env.put, Env.ins, Env.del, Env.dels, argEnv, AV.full, AV.cells, AV.cell, eqCells, Nat.reduceEqDiff, Nat.reduceLT, Nat.reduceAdd, Nat.reduceSub, Nat.reduceMul, Nat.reduceBEq, Int.reduceLT, Int.reduceAdd, Int.reduceMul, Int.reduceSub, Int.reduceToNat, Int.reduceLE, Int.reduceEq, ↓reduceIte, decide_true, decide_false, decide_eq_true_eq, decide_eq_false_iff_not, Bool.not_eq_true', Bool.not_eq_false', true_and, and_true, false_implies, true_implies, forall_const, Bool.not_true, Bool.not_false, Bool.false_eq_true, Bool.true_eq_false, List.getElem?_cons_zero, List.getElem?_cons_succ, List.length_cons, List.length_nil, List.length_append, List.all_cons, List.all_nil, Bool.and_true, Bool.and_self, implies_true, reduceCtorEq, List.append_assoc, List.cons_append, List.nil_append, List.append_nil, Int.reduceNeg, i64_in, imin_eq, imax_eq, cast3, cast0, cast1, cast2, Option.map_none, ite_self, and_false, false_and, Option.isSome_some, or_true, true_or, Int.sub_zero, Int.mul_one, Nat.sub_zero, Nat.zero_le, Int.cast_ofNat_Int, Int.natCast_nonneg, Int.toNat_natCast, ne_eq, not_false_eq_true, not_true_eq_false, strC, blkAt_app, blkAt_app0, blkAt_zero, blkAt_succ, List.set_cons_zero, List.set_cons_succ, set_app, set_app0, Option.map_some, Option.bind_some, rd, setCells, lay, rdS, szOk, rapp, ownAt, lenAt, Option.any_some, Option.getD_some, List.drop_zero, List.drop_succ_cons, List.take_succ_cons, List.take_zero, List.drop_nil, List.take_nil, Nat.reduceLeDiff, Nat.lt_irrefl, Nat.zero_add, Nat.add_zero, Nat.mul_one, Nat.one_mul, Nat.add_assoc, Option.some.injEq, eq_self]
  exact go

/-! Contracts: the row of a delta. -/
theorem and1_i64 (x : Int) : IntKind.i64.wrap (BitVec.ofInt IntKind.i64.bits x &&& BitVec.ofInt IntKind.i64.bits 1).toNat = x % 2 := by
  have e : (BitVec.ofInt IntKind.i64.bits x &&& BitVec.ofInt IntKind.i64.bits 1).toNat = (x % 18446744073709551616).toNat % 2 := by
    show (BitVec.ofInt 64 x &&& BitVec.ofInt 64 ((1 : Nat) : Int)).toNat = _
    rw [BitVec.toNat_and, BitVec.ofInt_natCast, BitVec.toNat_ofInt, BitVec.toNat_ofNat, Nat.mod_eq_of_lt (show 1 < 2 ^ 64 by decide), Nat.and_one_is_mod]
    rfl
  rw [e, i64_in _ (by omega)]
  omega
theorem shr_i64 (x : Int) (j : Nat) : x.fdiv (2 ^ (min (j % 60) IntKind.i64.bits)) = x / 2 ^ (j % 60) := by
  have e : min (j % 60) IntKind.i64.bits = j % 60 := by
    have : IntKind.i64.bits = 64 := rfl
    omega
  rw [e, Int.fdiv_eq_ediv_of_nonneg _ (Int.pow_nonneg (by decide))]
/-- Is the bit of a place 1? -/
def bit (d : List Int) (j : Nat) : Bool := decide (d.getD (j / 60) 0 / 2 ^ (j % 60) % 2 = 1)
/-- How many bits are 1 from a place on. -/
def pl (d : List Int) : Nat → Nat → Nat
  | _, 0 => 0
  | j, n + 1 => (if bit d j then 1 else 0) + pl d (j + 1) n
def ap (d : List Int) : List Int → Nat → List Int → List Int → Option (List Int)
  | [], _, ws, acc => if ws.isEmpty then some acc else none
  | b :: bs, j, ws, acc => if bit d j then (match ws with | [] => none | w :: ws => if w = b then none else ap d bs (j + 1) ws (acc ++ [w])) else ap d bs (j + 1) ws (acc ++ [b])
def Q16 (H : Heap) : Option (List Int) → Post
  | none => Fin H rs44 (.tup [.nils, .int .i64 2]) H
  | some R => FinW H rs44 (.tup [.sl H.length 0 R.length 1 none, .int .i64 0]) (H ++ [some ⟨R.map (AV.int .i64), false⟩])
def e44 (q oq n : Nat) (c7 c8 : Option Nat) (o8 n8 b L : Nat) (j : Nat) : Env := [(7, .sl q oq n 1 c7), (8, .sl q o8 n8 1 c8), (9, .sl b 0 L 1 (some L)), (42, .int .i64 (L : Nat)), (43, .int .i64 (j : Nat))]
def c44t : SC := tl2 (tl2 (tl2 (tl2 (tl2 (tl2 (tl2 (tl2 c44)))))))
theorem f44_loop {d : List Int} {q oq n : Nat} {c7 : Option Nat} {H : Heap} {L : Nat} (hq : Sl i64 H q oq d) (hn : n ≤ d.length) (hL : L ≤ 60 * n) (hL2 : L ≤ 600) :
    ∀ (rest : List Int) (j : Nat) (ws : List Int) (k : Nat) (c8 : Option Nat) (acc : List Int) (G : Heap), j + rest.length = L → acc.length = j → d.drop (n + k) = ws → pl d j rest.length ≤ ws.length → ws.length ≤ 100000 →
    acs Try.prog [.lp c44l0, .blk 1, .code c44t] (e44 q oq n c7 c8 (oq + (n + k)) ws.length (H.length + G.length) L j) (H ++ (G ++ [some ⟨(acc ++ rest).map (AV.int .i64), true⟩])) (Q16 H (ap d rest j ws acc)) := by
  have hql := hq.lt
  obtain ⟨cs, o, hq, hle, hcs⟩ := hq
  intro rest
  induction rest with
  | nil =>
    intro j ws k c8 acc G hj hacc hd hpl hwl
    have hlt : ¬ (j : Int) < (L : Int) := by simp at hj; omega
    have hjL : L = acc.length := by simp at hj; omega
    cases ws with
    | nil =>
      have e : ap d [] j [] acc = some acc := rfl
      rw [e, List.append_nil]
      subst hjL
      unfold e44 Q16
      rw [acs_lp]; conv in Fr.code c44l0 => unfold c44l0
      simp (maxSteps := 1000000) (disch := omega) only [acs_nil, acs_blk, acs_skip, acs_reg, acs_dreg, acs_freg, acs_nam0, acs_nam, nones, acs_seq, acs_cond, acs_block, acs_exit, acs_ret, acs_kl, acs_loop, leave_nil, leave_code, leave_lp, leave_blk, aopsK_nil, aopsK_cons, aopsK_guard, bindR_val, bindR_need, bindR_br, bindR_call, bindR_ycall, acs_rfun, rfunG_fn, bindR_bad, drawK_nil, drawK_cons, drawK_wat, bindW_val, bindW_need, bindW_br, WatL_nil, WatL_cons, isP_ptr, drawK_ext, drawK_pur, drawK_guard, callPv_fn, drawK_purv, bindD_val, bindD_need, bindD_br, bindD_call, bindD_ycall, bindD_bad, bindX_val, bindX_need, bindX_br, bindX_call, guardD_bool, guardD_tup, grows, grows0, List.append_cancel_left_eq, List.cons.injEq, exists_eq', exists_eq, condK_bool, guardK_bool, guardK_tup, sor, r0, r1, r2, r3, rC, rB, rI, rP, rA, rT, rS, rF, rSl, rO, rbin, rcut, run1, Env.evals, Env.eval, Env.get, Env.put, Env.ins, Env.del, Env.dels, argEnv, AV.full, AV.cells, AV.cell, eqCells, Nat.reduceEqDiff, Nat.reduceLT, Nat.reduceAdd, Nat.reduceSub, Nat.reduceMul, Nat.reduceBEq, Int.reduceLT, Int.reduceAdd, Int.reduceMul, Int.reduceSub, Int.reduceToNat, Int.reduceLE, Int.reduceEq, ↓reduceIte, decide_true, decide_false, decide_eq_true_eq, decide_eq_false_iff_not, Bool.not_eq_true', Bool.not_eq_false', true_and, and_true, false_implies, true_implies, forall_const, Bool.not_true, Bool.not_false, Bool.false_eq_true, Bool.true_eq_false, List.getElem?_cons_zero, List.getElem?_cons_succ, List.length_cons, List.length_nil, List.length_append, List.all_cons, List.all_nil, Bool.and_true, Bool.and_self, implies_true, reduceCtorEq, List.append_assoc, List.cons_append, List.nil_append, List.append_nil, Int.reduceNeg, i64_in, imin_eq, imax_eq, cast3, cast0, cast1, cast2, Option.map_none, ite_self, and_false, false_and, Option.isSome_some, or_true, true_or, Int.sub_zero, Int.mul_one, Nat.sub_zero, Nat.zero_le, Int.cast_ofNat_Int, Int.natCast_nonneg, Int.toNat_natCast, ne_eq, not_false_eq_true, not_true_eq_false, strC, blkAt_app, blkAt_app0, blkAt_zero, blkAt_succ, List.set_cons_zero, List.set_cons_succ, set_app, set_app0, Option.map_some, Option.bind_some, rd, setCells, lay, rdS, szOk, rapp, ownAt, lenAt, Option.any_some, Option.getD_some, List.drop_zero, List.drop_succ_cons, List.take_succ_cons, List.take_zero, List.drop_nil, List.take_nil, Nat.reduceLeDiff, Nat.lt_irrefl, Nat.zero_add, Nat.add_zero, Nat.mul_one, Nat.one_mul, Nat.add_assoc, Option.some.injEq, eq_self,  hlt]
      unfold c44t c44 tl2
      simp (maxSteps := 1000000) (disch := omega) only [acs_nil, acs_blk, acs_skip, acs_reg, acs_dreg, acs_freg, acs_nam0, acs_nam, nones, acs_seq, acs_cond, acs_block, acs_exit, acs_ret, acs_kl, acs_loop, leave_nil, leave_code, leave_lp, leave_blk, aopsK_nil, aopsK_cons, aopsK_guard, bindR_val, bindR_need, bindR_br, bindR_call, bindR_ycall, acs_rfun, rfunG_fn, bindR_bad, drawK_nil, drawK_cons, drawK_wat, bindW_val, bindW_need, bindW_br, WatL_nil, WatL_cons, isP_ptr, drawK_ext, drawK_pur, drawK_guard, callPv_fn, drawK_purv, bindD_val, bindD_need, bindD_br, bindD_call, bindD_ycall, bindD_bad, bindX_val, bindX_need, bindX_br, bindX_call, guardD_bool, guardD_tup, grows, grows0, List.append_cancel_left_eq, List.cons.injEq, exists_eq', exists_eq, condK_bool, guardK_bool, guardK_tup, sor, r0, r1, r2, r3, rC, rB, rI, rP, rA, rT, rS, rF, rSl, rO, rbin, rcut, run1, Env.evals, Env.eval, Env.get, Env.put, Env.ins, Env.del, Env.dels, argEnv, AV.full, AV.cells, AV.cell, eqCells, Nat.reduceEqDiff, Nat.reduceLT, Nat.reduceAdd, Nat.reduceSub, Nat.reduceMul, Nat.reduceBEq, Int.reduceLT, Int.reduceAdd, Int.reduceMul, Int.reduceSub, Int.reduceToNat, Int.reduceLE, Int.reduceEq, ↓reduceIte, decide_true, decide_false, decide_eq_true_eq, decide_eq_false_iff_not, Bool.not_eq_true', Bool.not_eq_false', true_and, and_true, false_implies, true_implies, forall_const, Bool.not_true, Bool.not_false, Bool.false_eq_true, Bool.true_eq_false, List.getElem?_cons_zero, List.getElem?_cons_succ, List.length_cons, List.length_nil, List.length_append, List.all_cons, List.all_nil, Bool.and_true, Bool.and_self, implies_true, reduceCtorEq, List.append_assoc, List.cons_append, List.nil_append, List.append_nil, Int.reduceNeg, i64_in, imin_eq, imax_eq, cast3, cast0, cast1, cast2, Option.map_none, ite_self, and_false, false_and, Option.isSome_some, or_true, true_or, Int.sub_zero, Int.mul_one, Nat.sub_zero, Nat.zero_le, Int.cast_ofNat_Int, Int.natCast_nonneg, Int.toNat_natCast, ne_eq, not_false_eq_true, not_true_eq_false, strC, blkAt_app, blkAt_app0, blkAt_zero, blkAt_succ, List.set_cons_zero, List.set_cons_succ, set_app, set_app0, Option.map_some, Option.bind_some, rd, setCells, lay, rdS, szOk, rapp, ownAt, lenAt, Option.any_some, Option.getD_some, List.drop_zero, List.drop_succ_cons, List.take_succ_cons, List.take_zero, List.drop_nil, List.take_nil, Nat.reduceLeDiff, Nat.lt_irrefl, Nat.zero_add, Nat.add_zero, Nat.mul_one, Nat.one_mul, Nat.add_assoc, Option.some.injEq, eq_self]
      refine ⟨.tup [.sl H.length 0 acc.length 1 (some acc.length), .int .i64 0], tup2_weak sl_weak (fun _ _ h => h), fin_oneF (o := true) (G ++ [some ⟨acc.map (AV.int .i64), true⟩]) G.length (acc.map (AV.int .i64)) (by simp) rfl (by simp) (undMap _) (by simp only [resVal, resAll, resOne, rs44, Env.get, Nat.reduceEqDiff, Nat.reduceLT, Nat.reduceAdd, Nat.reduceSub, Nat.reduceMul, Nat.reduceBEq, Int.reduceLT, Int.reduceAdd, Int.reduceMul, Int.reduceSub, Int.reduceToNat, Int.reduceLE, Int.reduceEq, ↓reduceIte, decide_true, decide_false, decide_eq_true_eq, decide_eq_false_iff_not, Bool.not_eq_true', Bool.not_eq_false', true_and, and_true, false_implies, true_implies, forall_const, Bool.not_true, Bool.not_false, Bool.false_eq_true, Bool.true_eq_false, List.getElem?_cons_zero, List.getElem?_cons_succ, List.length_cons, List.length_nil, List.length_append, List.all_cons, List.all_nil, Bool.and_true, Bool.and_self, implies_true, reduceCtorEq, List.append_assoc, List.cons_append, List.nil_append, List.append_nil, Int.reduceNeg, i64_in, imin_eq, imax_eq, cast3, cast0, cast1, cast2, Option.map_none, ite_self, and_false, false_and, Option.isSome_some, or_true, true_or, Int.sub_zero, Int.mul_one, Nat.sub_zero, Nat.zero_le, Int.cast_ofNat_Int, Int.natCast_nonneg, Int.toNat_natCast, ne_eq, not_false_eq_true, not_true_eq_false, strC, blkAt_app, blkAt_app0, blkAt_zero, blkAt_succ, List.set_cons_zero, List.set_cons_succ, set_app, set_app0, Option.map_some, Option.bind_some, rd, setCells, lay, rdS, szOk, rapp, ownAt, lenAt, Option.any_some, Option.getD_some, List.drop_zero, List.drop_succ_cons, List.take_succ_cons, List.take_zero, List.drop_nil, List.take_nil, Nat.reduceLeDiff, Nat.lt_irrefl, Nat.zero_add, Nat.add_zero, Nat.mul_one, Nat.one_mul, Nat.add_assoc, Option.some.injEq, eq_self]; rfl) (by simp [AV.ren, AV.rens]) (by simp [AV.und, AV.unds])⟩
    | cons w ws =>
      have e : ap d [] j (w :: ws) acc = none := rfl
      have hp : (0 : Int) < ((ws.length + 1 : Nat) : Int) := by omega
      rw [e]
      unfold e44 Q16
      rw [acs_lp]; conv in Fr.code c44l0 => unfold c44l0
      simp (maxSteps := 1000000) (disch := omega) only [acs_nil, acs_blk, acs_skip, acs_reg, acs_dreg, acs_freg, acs_nam0, acs_nam, nones, acs_seq, acs_cond, acs_block, acs_exit, acs_ret, acs_kl, acs_loop, leave_nil, leave_code, leave_lp, leave_blk, aopsK_nil, aopsK_cons, aopsK_guard, bindR_val, bindR_need, bindR_br, bindR_call, bindR_ycall, acs_rfun, rfunG_fn, bindR_bad, drawK_nil, drawK_cons, drawK_wat, bindW_val, bindW_need, bindW_br, WatL_nil, WatL_cons, isP_ptr, drawK_ext, drawK_pur, drawK_guard, callPv_fn, drawK_purv, bindD_val, bindD_need, bindD_br, bindD_call, bindD_ycall, bindD_bad, bindX_val, bindX_need, bindX_br, bindX_call, guardD_bool, guardD_tup, grows, grows0, List.append_cancel_left_eq, List.cons.injEq, exists_eq', exists_eq, condK_bool, guardK_bool, guardK_tup, sor, r0, r1, r2, r3, rC, rB, rI, rP, rA, rT, rS, rF, rSl, rO, rbin, rcut, run1, Env.evals, Env.eval, Env.get, Env.put, Env.ins, Env.del, Env.dels, argEnv, AV.full, AV.cells, AV.cell, eqCells, Nat.reduceEqDiff, Nat.reduceLT, Nat.reduceAdd, Nat.reduceSub, Nat.reduceMul, Nat.reduceBEq, Int.reduceLT, Int.reduceAdd, Int.reduceMul, Int.reduceSub, Int.reduceToNat, Int.reduceLE, Int.reduceEq, ↓reduceIte, decide_true, decide_false, decide_eq_true_eq, decide_eq_false_iff_not, Bool.not_eq_true', Bool.not_eq_false', true_and, and_true, false_implies, true_implies, forall_const, Bool.not_true, Bool.not_false, Bool.false_eq_true, Bool.true_eq_false, List.getElem?_cons_zero, List.getElem?_cons_succ, List.length_cons, List.length_nil, List.length_append, List.all_cons, List.all_nil, Bool.and_true, Bool.and_self, implies_true, reduceCtorEq, List.append_assoc, List.cons_append, List.nil_append, List.append_nil, Int.reduceNeg, i64_in, imin_eq, imax_eq, cast3, cast0, cast1, cast2, Option.map_none, ite_self, and_false, false_and, Option.isSome_some, or_true, true_or, Int.sub_zero, Int.mul_one, Nat.sub_zero, Nat.zero_le, Int.cast_ofNat_Int, Int.natCast_nonneg, Int.toNat_natCast, ne_eq, not_false_eq_true, not_true_eq_false, strC, blkAt_app, blkAt_app0, blkAt_zero, blkAt_succ, List.set_cons_zero, List.set_cons_succ, set_app, set_app0, Option.map_some, Option.bind_some, rd, setCells, lay, rdS, szOk, rapp, ownAt, lenAt, Option.any_some, Option.getD_some, List.drop_zero, List.drop_succ_cons, List.take_succ_cons, List.take_zero, List.drop_nil, List.take_nil, Nat.reduceLeDiff, Nat.lt_irrefl, Nat.zero_add, Nat.add_zero, Nat.mul_one, Nat.one_mul, Nat.add_assoc, Option.some.injEq, eq_self,  hlt]
      unfold c44t c44 tl2
      simp (maxSteps := 1000000) (disch := omega) only [acs_nil, acs_blk, acs_skip, acs_reg, acs_dreg, acs_freg, acs_nam0, acs_nam, nones, acs_seq, acs_cond, acs_block, acs_exit, acs_ret, acs_kl, acs_loop, leave_nil, leave_code, leave_lp, leave_blk, aopsK_nil, aopsK_cons, aopsK_guard, bindR_val, bindR_need, bindR_br, bindR_call, bindR_ycall, acs_rfun, rfunG_fn, bindR_bad, drawK_nil, drawK_cons, drawK_wat, bindW_val, bindW_need, bindW_br, WatL_nil, WatL_cons, isP_ptr, drawK_ext, drawK_pur, drawK_guard, callPv_fn, drawK_purv, bindD_val, bindD_need, bindD_br, bindD_call, bindD_ycall, bindD_bad, bindX_val, bindX_need, bindX_br, bindX_call, guardD_bool, guardD_tup, grows, grows0, List.append_cancel_left_eq, List.cons.injEq, exists_eq', exists_eq, condK_bool, guardK_bool, guardK_tup, sor, r0, r1, r2, r3, rC, rB, rI, rP, rA, rT, rS, rF, rSl, rO, rbin, rcut, run1, Env.evals, Env.eval, Env.get, Env.put, Env.ins, Env.del, Env.dels, argEnv, AV.full, AV.cells, AV.cell, eqCells, Nat.reduceEqDiff, Nat.reduceLT, Nat.reduceAdd, Nat.reduceSub, Nat.reduceMul, Nat.reduceBEq, Int.reduceLT, Int.reduceAdd, Int.reduceMul, Int.reduceSub, Int.reduceToNat, Int.reduceLE, Int.reduceEq, ↓reduceIte, decide_true, decide_false, decide_eq_true_eq, decide_eq_false_iff_not, Bool.not_eq_true', Bool.not_eq_false', true_and, and_true, false_implies, true_implies, forall_const, Bool.not_true, Bool.not_false, Bool.false_eq_true, Bool.true_eq_false, List.getElem?_cons_zero, List.getElem?_cons_succ, List.length_cons, List.length_nil, List.length_append, List.all_cons, List.all_nil, Bool.and_true, Bool.and_self, implies_true, reduceCtorEq, List.append_assoc, List.cons_append, List.nil_append, List.append_nil, Int.reduceNeg, i64_in, imin_eq, imax_eq, cast3, cast0, cast1, cast2, Option.map_none, ite_self, and_false, false_and, Option.isSome_some, or_true, true_or, Int.sub_zero, Int.mul_one, Nat.sub_zero, Nat.zero_le, Int.cast_ofNat_Int, Int.natCast_nonneg, Int.toNat_natCast, ne_eq, not_false_eq_true, not_true_eq_false, strC, blkAt_app, blkAt_app0, blkAt_zero, blkAt_succ, List.set_cons_zero, List.set_cons_succ, set_app, set_app0, Option.map_some, Option.bind_some, rd, setCells, lay, rdS, szOk, rapp, ownAt, lenAt, Option.any_some, Option.getD_some, List.drop_zero, List.drop_succ_cons, List.take_succ_cons, List.take_zero, List.drop_nil, List.take_nil, Nat.reduceLeDiff, Nat.lt_irrefl, Nat.zero_add, Nat.add_zero, Nat.mul_one, Nat.one_mul, Nat.add_assoc, Option.some.injEq, eq_self,  hp]
      exact fin_same (by simp) _ (by first | exact (List.append_nil _).symm | rfl) (by simp (maxSteps := 1000000) (disch := omega) only [resVal, resAll, resOne, rs44, Env.get, Nat.reduceEqDiff, Nat.reduceLT, Nat.reduceAdd, Nat.reduceSub, Nat.reduceMul, Nat.reduceBEq, Int.reduceLT, Int.reduceAdd, Int.reduceMul, Int.reduceSub, Int.reduceToNat, Int.reduceLE, Int.reduceEq, ↓reduceIte, decide_true, decide_false, decide_eq_true_eq, decide_eq_false_iff_not, Bool.not_eq_true', Bool.not_eq_false', true_and, and_true, false_implies, true_implies, forall_const, Bool.not_true, Bool.not_false, Bool.false_eq_true, Bool.true_eq_false, List.getElem?_cons_zero, List.getElem?_cons_succ, List.length_cons, List.length_nil, List.length_append, List.all_cons, List.all_nil, Bool.and_true, Bool.and_self, implies_true, reduceCtorEq, List.append_assoc, List.cons_append, List.nil_append, List.append_nil, Int.reduceNeg, i64_in, imin_eq, imax_eq, cast3, cast0, cast1, cast2, Option.map_none, ite_self, and_false, false_and, Option.isSome_some, or_true, true_or, Int.sub_zero, Int.mul_one, Nat.sub_zero, Nat.zero_le, Int.cast_ofNat_Int, Int.natCast_nonneg, Int.toNat_natCast, ne_eq, not_false_eq_true, not_true_eq_false, strC, blkAt_app, blkAt_app0, blkAt_zero, blkAt_succ, List.set_cons_zero, List.set_cons_succ, set_app, set_app0, Option.map_some, Option.bind_some, rd, setCells, lay, rdS, szOk, rapp, ownAt, lenAt, Option.any_some, Option.getD_some, List.drop_zero, List.drop_succ_cons, List.take_succ_cons, List.take_zero, List.drop_nil, List.take_nil, Nat.reduceLeDiff, Nat.lt_irrefl, Nat.zero_add, Nat.add_zero, Nat.mul_one, Nat.one_mul, Nat.add_assoc, Option.some.injEq, eq_self]) (by simp only [AV.und, AV.unds, and_self])
  | cons b rest ih =>
    intro j ws k c8 acc G hj hacc hd hpl hwl
    have hlt : (j : Int) < (L : Int) := by simp at hj; omega
    have hjn : j / 60 < n := by simp at hj; omega
    have hdv : (j : Int).tdiv 60 = ((j / 60 : Nat) : Int) := by rw [Int.tdiv_eq_ediv_of_nonneg (by omega)]; omega
    have hmv : (j : Int).tmod 60 = ((j % 60 : Nat) : Int) := by rw [Int.tmod_eq_emod_of_nonneg (by omega)]; omega
    have hjn2 : ((j / 60 : Nat) : Int) < (n : Int) := by omega
    have fm : cs[oq + j / 60]? = some (.int .i64 (d.getD (j / 60) 0)) := sl_get hcs (by rw [List.getD_eq_getElem?_getD, List.getElem?_eq_getElem (by omega)]; simp)
    have hsh := fun x => shr_i64 x j
    have hjL : j < L := by simp at hj; omega
    have hbit : bit d j = decide (d.getD (j / 60) 0 / 2 ^ (j % 60) % 2 = 1) := rfl
    generalize d.getD (j / 60) 0 = m at *
    by_cases hb : m / 2 ^ (j % 60) % 2 = 1
    · rw [decide_eq_true hb] at hbit
      have hb0 : ¬ m / 2 ^ (j % 60) % 2 = 0 := by omega
      have hpl2 : 1 + pl d (j + 1) rest.length ≤ ws.length := by rw [List.length_cons, pl, hbit] at hpl; simpa using hpl
      cases ws with
      | nil => simp at hpl2
      | cons w ws =>
      rw [List.length_cons] at hpl2
      have fw : cs[oq + (n + k)]? = some (.int .i64 w) := by
        have : d[n + k]? = some w := by have := congrArg (·[0]?) hd; simpa using this
        exact sl_get hcs this
      have hd2 : d.drop (n + (k + 1)) = ws := by rw [show n + (k + 1) = (n + k) + 1 by omega, ← List.drop_drop, hd]; rfl
      have fo : ((acc ++ b :: rest).map (AV.int .i64))[j]? = some (.int .i64 b) := getMapF (f := AV.int .i64) (by rw [List.getElem?_append_right (by omega), hacc]; simp)
      have hlen : ((acc ++ b :: rest).map (AV.int .i64)).length = L := by simp; simp at hj; omega
      have hset : setCells ((acc ++ b :: rest).map (AV.int .i64)) j [AV.int .i64 w] = ((acc ++ [w]) ++ rest).map (AV.int .i64) := by
        rw [setMapF (f := AV.int .i64) (by simp; omega), ← hacc]
        simp
      have hp : (0 : Int) < ((ws.length + 1 : Nat) : Int) := by omega
      by_cases hwb : w = b
      · have e : ap d (b :: rest) j (w :: ws) acc = none := by simp [ap, hbit, hwb]
        rw [e]
        subst hwb
        unfold e44 Q16
        generalize (acc ++ w :: rest).map (AV.int .i64) = cells at *
        clear ih hpl hpl2 hd hd2
        rw [acs_lp]; conv in Fr.code c44l0 => unfold c44l0
        simp (maxSteps := 1000000) (disch := omega) only [acs_nil, acs_blk, acs_skip, acs_reg, acs_dreg, acs_freg, acs_nam0, acs_nam, nones, acs_seq, acs_cond, acs_block, acs_exit, acs_ret, acs_kl, acs_loop, leave_nil, leave_code, leave_lp, leave_blk, aopsK_nil, aopsK_cons, aopsK_guard, bindR_val, bindR_need, bindR_br, bindR_call, bindR_ycall, acs_rfun, rfunG_fn, bindR_bad, drawK_nil, drawK_cons, drawK_wat, bindW_val, bindW_need, bindW_br, WatL_nil, WatL_cons, isP_ptr, drawK_ext, drawK_pur, drawK_guard, callPv_fn, drawK_purv, bindD_val, bindD_need, bindD_br, bindD_call, bindD_ycall, bindD_bad, bindX_val, bindX_need, bindX_br, bindX_call, guardD_bool, guardD_tup, grows, grows0, List.append_cancel_left_eq, List.cons.injEq, exists_eq', exists_eq, condK_bool, guardK_bool, guardK_tup, sor, r0, r1, r2, r3, rC, rB, rI, rP, rA, rT, rS, rF, rSl, rO, rbin, rcut, run1, Env.evals, Env.eval, Env.get, Env.put, Env.ins, Env.del, Env.dels, argEnv, AV.full, AV.cells, AV.cell, eqCells, Nat.reduceEqDiff, Nat.reduceLT, Nat.reduceAdd, Nat.reduceSub, Nat.reduceMul, Nat.reduceBEq, Int.reduceLT, Int.reduceAdd, Int.reduceMul, Int.reduceSub, Int.reduceToNat, Int.reduceLE, Int.reduceEq, ↓reduceIte, decide_true, decide_false, decide_eq_true_eq, decide_eq_false_iff_not, Bool.not_eq_true', Bool.not_eq_false', true_and, and_true, false_implies, true_implies, forall_const, Bool.not_true, Bool.not_false, Bool.false_eq_true, Bool.true_eq_false, List.getElem?_cons_zero, List.getElem?_cons_succ, List.length_cons, List.length_nil, List.length_append, List.all_cons, List.all_nil, Bool.and_true, Bool.and_self, implies_true, reduceCtorEq, List.append_assoc, List.cons_append, List.nil_append, List.append_nil, Int.reduceNeg, i64_in, imin_eq, imax_eq, cast3, cast0, cast1, cast2, Option.map_none, ite_self, and_false, false_and, Option.isSome_some, or_true, true_or, Int.sub_zero, Int.mul_one, Nat.sub_zero, Nat.zero_le, Int.cast_ofNat_Int, Int.natCast_nonneg, Int.toNat_natCast, ne_eq, not_false_eq_true, not_true_eq_false, strC, blkAt_app, blkAt_app0, blkAt_zero, blkAt_succ, List.set_cons_zero, List.set_cons_succ, set_app, set_app0, Option.map_some, Option.bind_some, rd, setCells, lay, rdS, szOk, rapp, ownAt, lenAt, Option.any_some, Option.getD_some, List.drop_zero, List.drop_succ_cons, List.take_succ_cons, List.take_zero, List.drop_nil, List.take_nil, Nat.reduceLeDiff, Nat.lt_irrefl, Nat.zero_add, Nat.add_zero, Nat.mul_one, Nat.one_mul, Nat.add_assoc, Option.some.injEq, eq_self,  hlt, hjL, hdv, hmv, hjn2, hq, hql, blkAt_lo, fm, hsh, and1_i64, hb, hb0, fw, fo, hp, hlen]
        exact fin_same (by simp) _ (by first | exact (List.append_nil _).symm | rfl) (by simp (maxSteps := 1000000) (disch := omega) only [resVal, resAll, resOne, rs44, Env.get, Nat.reduceEqDiff, Nat.reduceLT, Nat.reduceAdd, Nat.reduceSub, Nat.reduceMul, Nat.reduceBEq, Int.reduceLT, Int.reduceAdd, Int.reduceMul, Int.reduceSub, Int.reduceToNat, Int.reduceLE, Int.reduceEq, ↓reduceIte, decide_true, decide_false, decide_eq_true_eq, decide_eq_false_iff_not, Bool.not_eq_true', Bool.not_eq_false', true_and, and_true, false_implies, true_implies, forall_const, Bool.not_true, Bool.not_false, Bool.false_eq_true, Bool.true_eq_false, List.getElem?_cons_zero, List.getElem?_cons_succ, List.length_cons, List.length_nil, List.length_append, List.all_cons, List.all_nil, Bool.and_true, Bool.and_self, implies_true, reduceCtorEq, List.append_assoc, List.cons_append, List.nil_append, List.append_nil, Int.reduceNeg, i64_in, imin_eq, imax_eq, cast3, cast0, cast1, cast2, Option.map_none, ite_self, and_false, false_and, Option.isSome_some, or_true, true_or, Int.sub_zero, Int.mul_one, Nat.sub_zero, Nat.zero_le, Int.cast_ofNat_Int, Int.natCast_nonneg, Int.toNat_natCast, ne_eq, not_false_eq_true, not_true_eq_false, strC, blkAt_app, blkAt_app0, blkAt_zero, blkAt_succ, List.set_cons_zero, List.set_cons_succ, set_app, set_app0, Option.map_some, Option.bind_some, rd, setCells, lay, rdS, szOk, rapp, ownAt, lenAt, Option.any_some, Option.getD_some, List.drop_zero, List.drop_succ_cons, List.take_succ_cons, List.take_zero, List.drop_nil, List.take_nil, Nat.reduceLeDiff, Nat.lt_irrefl, Nat.zero_add, Nat.add_zero, Nat.mul_one, Nat.one_mul, Nat.add_assoc, Option.some.injEq, eq_self]) (by simp only [AV.und, AV.unds, and_self])
      · have e : ap d (b :: rest) j (w :: ws) acc = ap d rest (j + 1) ws (acc ++ [w]) := by simp [ap, hbit, hwb]
        rw [e]
        have next := fun c8 G => ih (j + 1) ws (k + 1) c8 (acc ++ [w]) G (by simp at hj; omega) (by simp; omega) hd2 (by omega) (by simp at hwl; omega)
        generalize ap d rest (j + 1) ws (acc ++ [w]) = R at *
        generalize ((acc ++ [w]) ++ rest).map (AV.int .i64) = cells2 at *
        generalize (acc ++ b :: rest).map (AV.int .i64) = cells at *
        unfold e44 at *
        simp only [List.append_assoc, List.cons_append, List.nil_append, List.length_append, List.length_cons, List.length_nil, Nat.reduceAdd, Nat.add_assoc, Nat.zero_add, Nat.add_zero, Int.natCast_add, Int.cast_ofNat_Int, ] at next
        clear ih hpl hpl2 hd hd2
        rw [acs_lp]; conv in Fr.code c44l0 => unfold c44l0
        simp (maxSteps := 1000000) (disch := omega) only [acs_nil, acs_blk, acs_skip, acs_reg, acs_dreg, acs_freg, acs_nam0, acs_nam, nones, acs_seq, acs_cond, acs_block, acs_exit, acs_ret, acs_kl, acs_loop, leave_nil, leave_code, leave_lp, leave_blk, aopsK_nil, aopsK_cons, aopsK_guard, bindR_val, bindR_need, bindR_br, bindR_call, bindR_ycall, acs_rfun, rfunG_fn, bindR_bad, drawK_nil, drawK_cons, drawK_wat, bindW_val, bindW_need, bindW_br, WatL_nil, WatL_cons, isP_ptr, drawK_ext, drawK_pur, drawK_guard, callPv_fn, drawK_purv, bindD_val, bindD_need, bindD_br, bindD_call, bindD_ycall, bindD_bad, bindX_val, bindX_need, bindX_br, bindX_call, guardD_bool, guardD_tup, grows, grows0, List.append_cancel_left_eq, List.cons.injEq, exists_eq', exists_eq, condK_bool, guardK_bool, guardK_tup, sor, r0, r1, r2, r3, rC, rB, rI, rP, rA, rT, rS, rF, rSl, rO, rbin, rcut, run1, Env.evals, Env.eval, Env.get, Env.put, Env.ins, Env.del, Env.dels, argEnv, AV.full, AV.cells, AV.cell, eqCells, Nat.reduceEqDiff, Nat.reduceLT, Nat.reduceAdd, Nat.reduceSub, Nat.reduceMul, Nat.reduceBEq, Int.reduceLT, Int.reduceAdd, Int.reduceMul, Int.reduceSub, Int.reduceToNat, Int.reduceLE, Int.reduceEq, ↓reduceIte, decide_true, decide_false, decide_eq_true_eq, decide_eq_false_iff_not, Bool.not_eq_true', Bool.not_eq_false', true_and, and_true, false_implies, true_implies, forall_const, Bool.not_true, Bool.not_false, Bool.false_eq_true, Bool.true_eq_false, List.getElem?_cons_zero, List.getElem?_cons_succ, List.length_cons, List.length_nil, List.length_append, List.all_cons, List.all_nil, Bool.and_true, Bool.and_self, implies_true, reduceCtorEq, List.append_assoc, List.cons_append, List.nil_append, List.append_nil, Int.reduceNeg, i64_in, imin_eq, imax_eq, cast3, cast0, cast1, cast2, Option.map_none, ite_self, and_false, false_and, Option.isSome_some, or_true, true_or, Int.sub_zero, Int.mul_one, Nat.sub_zero, Nat.zero_le, Int.cast_ofNat_Int, Int.natCast_nonneg, Int.toNat_natCast, ne_eq, not_false_eq_true, not_true_eq_false, strC, blkAt_app, blkAt_app0, blkAt_zero, blkAt_succ, List.set_cons_zero, List.set_cons_succ, set_app, set_app0, Option.map_some, Option.bind_some, rd, lay, rdS, szOk, rapp, ownAt, lenAt, Option.any_some, Option.getD_some, List.drop_zero, List.drop_succ_cons, List.take_succ_cons, List.take_zero, List.drop_nil, List.take_nil, Nat.reduceLeDiff, Nat.lt_irrefl, Nat.zero_add, Nat.add_zero, Nat.mul_one, Nat.one_mul, Nat.add_assoc, Option.some.injEq, eq_self,  hlt, hjL, hdv, hmv, hjn2, hq, hql, blkAt_lo, fm, hsh, and1_i64, hb, hb0, fw, fo, hp, hlen, hset, hwb, Nat.add_sub_cancel]
        exact ⟨by omega, by omega, next _ _⟩
    · rw [decide_eq_false hb] at hbit
      have hb0 : m / 2 ^ (j % 60) % 2 = 0 := by omega
      have hpl2 : pl d (j + 1) rest.length ≤ ws.length := by rw [List.length_cons, pl, hbit] at hpl; simpa using hpl
      have e : ap d (b :: rest) j ws acc = ap d rest (j + 1) ws (acc ++ [b]) := by simp [ap, hbit]
      rw [e]
      have next := fun c8 G => ih (j + 1) ws k c8 (acc ++ [b]) G (by simp at hj; omega) (by simp; omega) hd (by omega) hwl
      have hcat : (acc ++ [b]) ++ rest = acc ++ b :: rest := by simp
      rw [hcat] at next
      generalize ap d rest (j + 1) ws (acc ++ [b]) = R at *
      generalize (acc ++ b :: rest).map (AV.int .i64) = cells at *
      unfold e44 at *
      simp only [List.append_assoc, List.cons_append, List.nil_append, List.length_append, List.length_cons, List.length_nil, Nat.reduceAdd, Nat.add_assoc, Nat.zero_add, Nat.add_zero, Int.natCast_add, Int.cast_ofNat_Int, ] at next
      clear ih hpl hpl2 hd
      rw [acs_lp]; conv in Fr.code c44l0 => unfold c44l0
      simp (maxSteps := 1000000) (disch := omega) only [acs_nil, acs_blk, acs_skip, acs_reg, acs_dreg, acs_freg, acs_nam0, acs_nam, nones, acs_seq, acs_cond, acs_block, acs_exit, acs_ret, acs_kl, acs_loop, leave_nil, leave_code, leave_lp, leave_blk, aopsK_nil, aopsK_cons, aopsK_guard, bindR_val, bindR_need, bindR_br, bindR_call, bindR_ycall, acs_rfun, rfunG_fn, bindR_bad, drawK_nil, drawK_cons, drawK_wat, bindW_val, bindW_need, bindW_br, WatL_nil, WatL_cons, isP_ptr, drawK_ext, drawK_pur, drawK_guard, callPv_fn, drawK_purv, bindD_val, bindD_need, bindD_br, bindD_call, bindD_ycall, bindD_bad, bindX_val, bindX_need, bindX_br, bindX_call, guardD_bool, guardD_tup, grows, grows0, List.append_cancel_left_eq, List.cons.injEq, exists_eq', exists_eq, condK_bool, guardK_bool, guardK_tup, sor, r0, r1, r2, r3, rC, rB, rI, rP, rA, rT, rS, rF, rSl, rO, rbin, rcut, run1, Env.evals, Env.eval, Env.get, Env.put, Env.ins, Env.del, Env.dels, argEnv, AV.full, AV.cells, AV.cell, eqCells, Nat.reduceEqDiff, Nat.reduceLT, Nat.reduceAdd, Nat.reduceSub, Nat.reduceMul, Nat.reduceBEq, Int.reduceLT, Int.reduceAdd, Int.reduceMul, Int.reduceSub, Int.reduceToNat, Int.reduceLE, Int.reduceEq, ↓reduceIte, decide_true, decide_false, decide_eq_true_eq, decide_eq_false_iff_not, Bool.not_eq_true', Bool.not_eq_false', true_and, and_true, false_implies, true_implies, forall_const, Bool.not_true, Bool.not_false, Bool.false_eq_true, Bool.true_eq_false, List.getElem?_cons_zero, List.getElem?_cons_succ, List.length_cons, List.length_nil, List.length_append, List.all_cons, List.all_nil, Bool.and_true, Bool.and_self, implies_true, reduceCtorEq, List.append_assoc, List.cons_append, List.nil_append, List.append_nil, Int.reduceNeg, i64_in, imin_eq, imax_eq, cast3, cast0, cast1, cast2, Option.map_none, ite_self, and_false, false_and, Option.isSome_some, or_true, true_or, Int.sub_zero, Int.mul_one, Nat.sub_zero, Nat.zero_le, Int.cast_ofNat_Int, Int.natCast_nonneg, Int.toNat_natCast, ne_eq, not_false_eq_true, not_true_eq_false, strC, blkAt_app, blkAt_app0, blkAt_zero, blkAt_succ, List.set_cons_zero, List.set_cons_succ, set_app, set_app0, Option.map_some, Option.bind_some, rd, setCells, lay, rdS, szOk, rapp, ownAt, lenAt, Option.any_some, Option.getD_some, List.drop_zero, List.drop_succ_cons, List.take_succ_cons, List.take_zero, List.drop_nil, List.take_nil, Nat.reduceLeDiff, Nat.lt_irrefl, Nat.zero_add, Nat.add_zero, Nat.mul_one, Nat.one_mul, Nat.add_assoc, Option.some.injEq, eq_self,  hlt, hjL, hdv, hmv, hjn2, hq, hql, blkAt_lo, fm, hsh, and1_i64, hb, hb0]
      exact next _ _

/-! Contracts: deltas, whatever comes. -/
theorem call_nilres2 {P : Program} {f : FuncId} {args : List AV} {H : Heap} {sz : Nat} {v : AV} (h : ACall P f args H (.tup [.nils, v]) H) : ACall P f args H (.tup [.sl H.length 0 0 sz none, v]) (H ++ [some ⟨[], false⟩]) := by
  intro M w xs hH hv
  refine (h M w xs hH hv).mono fun e w' ⟨x, M', h1, h2, h3, h4⟩ => ⟨x, _, h1, h2.dummy, h3.dummy, ?_⟩
  have hle : M'.le (M'.put H.length ⟨0, 0, 0, false⟩) := Val.le_put (h2.dom _ (Nat.le_refl _))
  simp only [VR, VRs] at h4 ⊢
  obtain ⟨us, e, x0, xs, rfl, g1, x1, xs1, rfl, g2, rfl⟩ := h4
  exact ⟨_, e, _, _, rfl, ⟨⟨0, 0, 0, false⟩, Val.at_in (by simp [Val.put]) rfl, .inr (by simp [g1])⟩, _, _, rfl, g2.mono hle, rfl⟩
/-- What is told of a delta's row. -/
def aspec (bs d : List Int) : List Int × Int :=
  if 600 < bs.length then ([], 5) else if d.length < (bs.length + 59) / 60 then ([], 4) else if ones (d.take ((bs.length + 59) / 60)) ≠ d.length - (bs.length + 59) / 60 then ([], 2) else
    match ap d bs 0 (d.drop ((bs.length + 59) / 60)) [] with | none => ([], 2) | some R => (R, 0)
def dspec (bs ns : List Int) : List Int × Int :=
  if bs.length ≠ ns.length then ([], 9) else if 600 < bs.length then ([], 5) else (diff bs ns, 0)
def rowres (r : List Int × Int) (H : Heap) : AV := .tup [.sl H.length 0 r.1.length 1 none, .int .i64 r.2]
def rowheap (r : List Int × Int) (H : Heap) : Heap := H ++ [some ⟨r.1.map (AV.int .i64), false⟩]
/-- The bits of a row of masks hold the bits at its places. -/
theorem f44_body {bs d : List Int} {p q oq : Nat} {c1 c2 : Option Nat} {H : Heap} (hp : Sl i64 H p 0 bs) (hq : Sl i64 H q oq d) (hL : bs.length ≤ 600) (hdl : d.length ≤ 100000) (hd : (bs.length + 59) / 60 ≤ d.length) (ho : ones (d.take ((bs.length + 59) / 60)) = d.length - (bs.length + 59) / 60) (hpl : pl d 0 bs.length ≤ d.length - (bs.length + 59) / 60) :
    ac Try.prog c44 [(0, .sl p 0 bs.length 1 c1), (1, .sl q oq d.length 1 c2)] H (Q16 H (ap d bs 0 (d.drop ((bs.length + 59) / 60)) [])) := by
  have hn : ((bs.length : Int) + 59) / 60 = (((bs.length + 59) / 60 : Nat) : Int) := by omega
  have go := fun c7 c8 => f44_loop (c7 := c7) hq hd (show bs.length ≤ 60 * ((bs.length + 59) / 60) by omega) hL bs 0 (d.drop ((bs.length + 59) / 60)) 0 c8 [] [] (by simp) rfl (by simp) (by simpa using hpl) (by simp; omega)
  have g := fun H => f59 bs.length H (by omega)
  have gq := hq.take ((bs.length + 59) / 60)
  have gd := List.length_drop (i := (bs.length + 59) / 60) (l := d)
  have gt : (d.take ((bs.length + 59) / 60)).length = (bs.length + 59) / 60 := by simp; omega
  generalize hN : (bs.length + 59) / 60 = N at *
  have g20 := fun c => f65 (c := c) gq (by omega)
  rw [ho, gt] at g20
  generalize ap d bs 0 (d.drop N) [] = R at *
  rw [gd] at go
  have hNs : ((d.length : Int) - (N : Int)).toNat = d.length - N := by omega
  have h1 : ¬ (600 : Int) < (bs.length : Int) := by omega
  have h2 : ¬ (d.length : Int) < (N : Int) := by omega
  have hNd : (N : Int) ≤ (d.length : Int) := by omega
  obtain ⟨cs, o, hp, hle, hcs⟩ := hp
  rw [Nat.zero_add] at hle
  rw [List.drop_zero] at hcs
  have hrep : (List.replicate bs.length [AV.int IntKind.i64 0]).flatten = List.replicate bs.length (AV.int .i64 0) := by
    generalize bs.length = n
    induction n with
    | zero => rfl
    | succ n ih => rw [List.replicate_succ, List.replicate_succ, List.flatten_cons, ih]; rfl
  have hbig : bs.length * 8 ≤ 140737488355328 := by omega
  unfold c44
  apply acs_start
  rw [hn] at g
  simp (maxSteps := 1000000) (disch := omega) only [acs_nil, acs_blk, acs_skip, acs_reg, acs_dreg, acs_freg, acs_nam0, acs_nam, nones, acs_seq, acs_cond, acs_block, acs_exit, acs_ret, acs_kl, acs_loop, leave_nil, leave_code, leave_lp, leave_blk, aopsK_nil, aopsK_cons, aopsK_guard, bindR_val, bindR_need, bindR_br, bindR_call, bindR_ycall, acs_rfun, rfunG_fn, bindR_bad, drawK_nil, drawK_cons, drawK_wat, bindW_val, bindW_need, bindW_br, WatL_nil, WatL_cons, isP_ptr, drawK_ext, drawK_pur, drawK_guard, callPv_fn, drawK_purv, bindD_val, bindD_need, bindD_br, bindD_call, bindD_ycall, bindD_bad, bindX_val, bindX_need, bindX_br, bindX_call, guardD_bool, guardD_tup, grows, grows0, List.append_cancel_left_eq, List.cons.injEq, exists_eq', exists_eq, condK_bool, guardK_bool, guardK_tup, sor, r0, r1, r2, r3, rC, rB, rI, rP, rA, rT, rS, rF, rSl, rO, rbin, rcut, run1, Env.evals, Env.eval, Env.get, Env.put, Env.ins, Env.del, Env.dels, argEnv, AV.full, AV.cells, AV.cell, eqCells, Nat.reduceEqDiff, Nat.reduceLT, Nat.reduceAdd, Nat.reduceSub, Nat.reduceMul, Nat.reduceBEq, Int.reduceLT, Int.reduceAdd, Int.reduceMul, Int.reduceSub, Int.reduceToNat, Int.reduceLE, Int.reduceEq, ↓reduceIte, decide_true, decide_false, decide_eq_true_eq, decide_eq_false_iff_not, Bool.not_eq_true', Bool.not_eq_false', true_and, and_true, false_implies, true_implies, forall_const, Bool.not_true, Bool.not_false, Bool.false_eq_true, Bool.true_eq_false, List.getElem?_cons_zero, List.getElem?_cons_succ, List.length_cons, List.length_nil, List.length_append, List.all_cons, List.all_nil, Bool.and_true, Bool.and_self, implies_true, reduceCtorEq, List.append_assoc, List.cons_append, List.nil_append, List.append_nil, Int.reduceNeg, i64_in, imin_eq, imax_eq, cast3, cast0, cast1, cast2, Option.map_none, ite_self, and_false, false_and, Option.isSome_some, or_true, true_or, Int.sub_zero, Int.mul_one, Nat.sub_zero, Nat.zero_le, Int.cast_ofNat_Int, Int.natCast_nonneg, Int.toNat_natCast, ne_eq, not_false_eq_true, not_true_eq_false, strC, blkAt_app, blkAt_app0, blkAt_zero, blkAt_succ, List.set_cons_zero, List.set_cons_succ, set_app, set_app0, Option.map_some, Option.bind_some, rd, setCells, lay, rdS, szOk, rapp, ownAt, lenAt, Option.any_some, Option.getD_some, List.drop_zero, List.drop_succ_cons, List.take_succ_cons, List.take_zero, List.drop_nil, List.take_nil, Nat.reduceLeDiff, Nat.lt_irrefl, Nat.zero_add, Nat.add_zero, Nat.mul_one, Nat.one_mul, Nat.add_assoc, Option.some.injEq, eq_self,  h1]
  first | refine callB_intro (g _) ?_ | refine callD_intro (g _) ?_ | refine callP_intro (fun _ => (g _)) ?_ | refine callX_pure (g _) ?_
  simp (maxSteps := 1000000) (disch := omega) only [acs_nil, acs_blk, acs_skip, acs_reg, acs_dreg, acs_freg, acs_nam0, acs_nam, nones, acs_seq, acs_cond, acs_block, acs_exit, acs_ret, acs_kl, acs_loop, leave_nil, leave_code, leave_lp, leave_blk, aopsK_nil, aopsK_cons, aopsK_guard, bindR_val, bindR_need, bindR_br, bindR_call, bindR_ycall, acs_rfun, rfunG_fn, bindR_bad, drawK_nil, drawK_cons, drawK_wat, bindW_val, bindW_need, bindW_br, WatL_nil, WatL_cons, isP_ptr, drawK_ext, drawK_pur, drawK_guard, callPv_fn, drawK_purv, bindD_val, bindD_need, bindD_br, bindD_call, bindD_ycall, bindD_bad, bindX_val, bindX_need, bindX_br, bindX_call, guardD_bool, guardD_tup, grows, grows0, List.append_cancel_left_eq, List.cons.injEq, exists_eq', exists_eq, condK_bool, guardK_bool, guardK_tup, sor, r0, r1, r2, r3, rC, rB, rI, rP, rA, rT, rS, rF, rSl, rO, rbin, rcut, run1, Env.evals, Env.eval, Env.get, Env.put, Env.ins, Env.del, Env.dels, argEnv, AV.full, AV.cells, AV.cell, eqCells, Nat.reduceEqDiff, Nat.reduceLT, Nat.reduceAdd, Nat.reduceSub, Nat.reduceMul, Nat.reduceBEq, Int.reduceLT, Int.reduceAdd, Int.reduceMul, Int.reduceSub, Int.reduceToNat, Int.reduceLE, Int.reduceEq, ↓reduceIte, decide_true, decide_false, decide_eq_true_eq, decide_eq_false_iff_not, Bool.not_eq_true', Bool.not_eq_false', true_and, and_true, false_implies, true_implies, forall_const, Bool.not_true, Bool.not_false, Bool.false_eq_true, Bool.true_eq_false, List.getElem?_cons_zero, List.getElem?_cons_succ, List.length_cons, List.length_nil, List.length_append, List.all_cons, List.all_nil, Bool.and_true, Bool.and_self, implies_true, reduceCtorEq, List.append_assoc, List.cons_append, List.nil_append, List.append_nil, Int.reduceNeg, i64_in, imin_eq, imax_eq, cast3, cast0, cast1, cast2, Option.map_none, ite_self, and_false, false_and, Option.isSome_some, or_true, true_or, Int.sub_zero, Int.mul_one, Nat.sub_zero, Nat.zero_le, Int.cast_ofNat_Int, Int.natCast_nonneg, Int.toNat_natCast, ne_eq, not_false_eq_true, not_true_eq_false, strC, blkAt_app, blkAt_app0, blkAt_zero, blkAt_succ, List.set_cons_zero, List.set_cons_succ, set_app, set_app0, Option.map_some, Option.bind_some, rd, setCells, lay, rdS, szOk, rapp, ownAt, lenAt, Option.any_some, Option.getD_some, List.drop_zero, List.drop_succ_cons, List.take_succ_cons, List.take_zero, List.drop_nil, List.take_nil, Nat.reduceLeDiff, Nat.lt_irrefl, Nat.zero_add, Nat.add_zero, Nat.mul_one, Nat.one_mul, Nat.add_assoc, Option.some.injEq, eq_self,  h1, h2, hNd]
  refine ⟨Int.le_refl _, ?_⟩
  first | refine callB_intro (g20 _) ?_ | refine callD_intro (g20 _) ?_ | refine callP_intro (fun _ => (g20 _)) ?_ | refine callX_pure (g20 _) ?_
  have hpl2 := blkAt_lt hp
  have hcs2 : List.take bs.length cs = bs.map (AV.int .i64) := hcs
  have hset : setCells (List.replicate bs.length (AV.int IntKind.i64 0)) 0 (bs.map (AV.int .i64)) = bs.map (AV.int .i64) := by
    unfold setCells
    simp
  simp only [List.append_assoc, List.cons_append, List.nil_append, List.length_append, List.length_cons, List.length_nil, Nat.reduceAdd, Nat.add_assoc, Nat.zero_add, Nat.add_zero, Int.natCast_add, Int.cast_ofNat_Int, ] at go
  unfold e44 c44t c44 tl2 at go
  simp (maxSteps := 1000000) (disch := omega) only [acs_nil, acs_blk, acs_skip, acs_reg, acs_dreg, acs_freg, acs_nam0, acs_nam, nones, acs_seq, acs_cond, acs_block, acs_exit, acs_ret, acs_kl, acs_loop, leave_nil, leave_code, leave_lp, leave_blk, aopsK_nil, aopsK_cons, aopsK_guard, bindR_val, bindR_need, bindR_br, bindR_call, bindR_ycall, acs_rfun, rfunG_fn, bindR_bad, drawK_nil, drawK_cons, drawK_wat, bindW_val, bindW_need, bindW_br, WatL_nil, WatL_cons, isP_ptr, drawK_ext, drawK_pur, drawK_guard, callPv_fn, drawK_purv, bindD_val, bindD_need, bindD_br, bindD_call, bindD_ycall, bindD_bad, bindX_val, bindX_need, bindX_br, bindX_call, guardD_bool, guardD_tup, grows, grows0, List.append_cancel_left_eq, List.cons.injEq, exists_eq', exists_eq, condK_bool, guardK_bool, guardK_tup, sor, r0, r1, r2, r3, rC, rB, rI, rP, rA, rT, rS, rF, rSl, rO, rbin, rcut, run1, Env.evals, Env.eval, Env.get, Env.put, Env.ins, Env.del, Env.dels, argEnv, AV.full, AV.cells, AV.cell, eqCells, Nat.reduceEqDiff, Nat.reduceLT, Nat.reduceAdd, Nat.reduceSub, Nat.reduceMul, Nat.reduceBEq, Int.reduceLT, Int.reduceAdd, Int.reduceMul, Int.reduceSub, Int.reduceToNat, Int.reduceLE, Int.reduceEq, ↓reduceIte, decide_true, decide_false, decide_eq_true_eq, decide_eq_false_iff_not, Bool.not_eq_true', Bool.not_eq_false', true_and, and_true, false_implies, true_implies, forall_const, Bool.not_true, Bool.not_false, Bool.false_eq_true, Bool.true_eq_false, List.getElem?_cons_zero, List.getElem?_cons_succ, List.length_cons, List.length_nil, List.length_append, List.all_cons, List.all_nil, Bool.and_true, Bool.and_self, implies_true, reduceCtorEq, List.append_assoc, List.cons_append, List.nil_append, List.append_nil, Int.reduceNeg, i64_in, imin_eq, imax_eq, cast3, cast0, cast1, cast2, Option.map_none, ite_self, and_false, false_and, Option.isSome_some, or_true, true_or, Int.sub_zero, Int.mul_one, Nat.sub_zero, Nat.zero_le, Int.cast_ofNat_Int, Int.natCast_nonneg, Int.toNat_natCast, ne_eq, not_false_eq_true, not_true_eq_false, strC, blkAt_app, blkAt_app0, blkAt_zero, blkAt_succ, List.set_cons_zero, List.set_cons_succ, set_app, set_app0, Option.map_some, Option.bind_some, rd, lay, rdS, szOk, rapp, ownAt, lenAt, Option.any_some, Option.getD_some, List.drop_zero, List.drop_succ_cons, List.take_succ_cons, List.take_zero, List.drop_nil, List.take_nil, Nat.reduceLeDiff, Nat.lt_irrefl, Nat.zero_add, Nat.add_zero, Nat.mul_one, Nat.one_mul, Nat.add_assoc, Option.some.injEq, eq_self,  hNs, hrep, hp, hpl2, blkAt_lo, Nat.min_self, hle, hcs2, allMap, hset, List.length_replicate, Nat.le_refl, List.length_map]
  refine ⟨by omega, ?_⟩
  exact go _ _
end Go.Proofs.Ytbjlbcihhleclaa.Ah
