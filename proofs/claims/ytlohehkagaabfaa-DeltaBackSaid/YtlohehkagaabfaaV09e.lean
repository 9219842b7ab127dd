/- V09e: a part of the proof: contracts of functions, or plain laws. Conditions: none. -/
import Derived.Test.YtlohehkagaabfaaV09d
namespace Go.Proofs.Ytlohehkagaabfaa.Ah
open Go Go.WideShapes
attribute [local irreducible] acs aopsK drawK leave condK bindR bindD bindX guardK guardD callB callD callX callP callPv rfunG rfunK yldB yldD
set_option maxHeartbeats 4000000
set_option linter.unusedSimpArgs false
set_option linter.unusedVariables false
/-! Contracts: how many bits are 1. -/
theorem andM {a : Nat} (m : Nat) (mi : Int) (hm : mi = m) (ha : a < 18446744073709551616) (hm2 : m < 18446744073709551616) : IntKind.u64.wrap (BitVec.ofInt IntKind.u64.bits (a : Int) &&& BitVec.ofInt IntKind.u64.bits mi).toNat = ((a &&& m : Nat) : Int) := by
  subst hm
  have hle : a &&& m ≤ a := Nat.and_le_left
  have e : (BitVec.ofInt IntKind.u64.bits (a : Int) &&& BitVec.ofInt IntKind.u64.bits (m : Int)).toNat = a &&& m := by
    show (BitVec.ofInt 64 (a : Int) &&& BitVec.ofInt 64 (m : Int)).toNat = a &&& m
    rw [BitVec.toNat_and, BitVec.ofInt_natCast, BitVec.ofInt_natCast, BitVec.toNat_ofNat, BitVec.toNat_ofNat, Nat.mod_eq_of_lt (by omega), Nat.mod_eq_of_lt (by omega)]
  rw [e, u64_in]
  omega
theorem shr64 {a k : Nat} (hk : k ≤ 64) : (a : Int).fdiv (2 ^ (min k IntKind.u64.bits)) = ((a / 2 ^ k : Nat) : Int) := by
  have e : min k IntKind.u64.bits = k := by
    have : IntKind.u64.bits = 64 := rfl
    omega
  rw [e, Int.fdiv_eq_ediv_of_nonneg _ (Int.pow_nonneg (by decide))]
  simp
theorem add64 {a b : Nat} (h : a + b < 18446744073709551616) : IntKind.u64.wrap ((a : Int) + (b : Int)) = ((a + b : Nat) : Int) := by
  rw [u64_in _ (by omega)]
  omega
theorem pop_le (x : Nat) : pop x ≤ 64 := by
  have hl := dig_len 8 x
  have hB := dig_Bs 8 x
  unfold pop
  generalize dig x 8 = l at *
  match l, hl with
  | [p0, p1, p2, p3, p4, p5, p6, p7], _ =>
    have e : ∀ b, pop8 b ≤ 8 := by intro b; unfold pop8; omega
    have h0 := e p0
    have h1 := e p1
    have h2 := e p2
    have h3 := e p3
    have h4 := e p4
    have h5 := e p5
    have h6 := e p6
    have h7 := e p7
    simp only [List.map_cons, List.map_nil, List.sum_cons, List.sum_nil]
    omega
theorem and_le2 (a m : Nat) : a &&& m ≤ m := Nat.and_le_right
theorem f23 (x : Nat) (H : Heap) (hx : x < 18446744073709551616) : ACall Try.prog 23 [.int .u64 (x : Int)] H (.int .i64 (pop x : Nat)) H := by
  refine acall23 (by simp) (acs_start ?_)
  have hc := (cnt64_all hx).1
  have h1 := (cnt64_all hx).2
  unfold cnt64 at hc
  simp only at hc
  have p0 := @shr64 x 1 (by decide)
  have q0 := andM (a := x) 6148914691236517205 6148914691236517205 rfl hx (by decide)
  have q1 := andM (a := x / 2) 6148914691236517205 6148914691236517205 rfl (by omega) (by decide)
  have a1 := add64 h1
  generalize hy1 : (x / 2 &&& 6148914691236517205) + (x &&& 6148914691236517205) = y1 at *
  have p1 := @shr64 y1 2 (by decide)
  have q2 := andM (a := y1) 3689348814741910323 3689348814741910323 rfl h1 (by decide)
  have q3 := andM (a := y1 / 4) 3689348814741910323 3689348814741910323 rfl (by omega) (by decide)
  have b2 : (y1 / 4 &&& 3689348814741910323) + (y1 &&& 3689348814741910323) ≤ 7378697629483820646 := by
    have := and_le2 (y1 / 4) 3689348814741910323
    have := and_le2 y1 3689348814741910323
    omega
  have a2 := add64 (a := y1 / 4 &&& 3689348814741910323) (b := y1 &&& 3689348814741910323) (by omega)
  generalize hy2 : (y1 / 4 &&& 3689348814741910323) + (y1 &&& 3689348814741910323) = y2 at *
  have p2 := @shr64 y2 4 (by decide)
  have a3 := add64 (a := y2 / 16) (b := y2) (by omega)
  have q4 := andM (a := y2 / 16 + y2) 1085102592571150095 1085102592571150095 rfl (by omega) (by decide)
  have b3 := and_le2 (y2 / 16 + y2) 1085102592571150095
  generalize hy3 : (y2 / 16 + y2) &&& 1085102592571150095 = y3 at *
  have p3 := @shr64 y3 8 (by decide)
  have a4 := add64 (a := y3) (b := y3 / 256) (by omega)
  generalize hy4 : y3 + y3 / 256 = y4 at *
  have p4 := @shr64 y4 16 (by decide)
  have a5 := add64 (a := y4) (b := y4 / 65536) (by omega)
  generalize hy5 : y4 + y4 / 65536 = y5 at *
  have p5 := @shr64 y5 32 (by decide)
  have a6 := add64 (a := y5) (b := y5 / 4294967296) (by omega)
  generalize hy6 : y5 + y5 / 4294967296 = y6 at *
  have b6 : y6 < 9223372036854775808 := by omega
  have q7 : IntKind.i64.wrap (BitVec.ofInt IntKind.i64.bits (y6 : Int) &&& BitVec.ofInt IntKind.i64.bits 127).toNat = ((y6 % 128 : Nat) : Int) := by
    have e : (BitVec.ofInt IntKind.i64.bits (y6 : Int) &&& BitVec.ofInt IntKind.i64.bits 127).toNat = y6 % 128 := by
      show (BitVec.ofInt 64 (y6 : Int) &&& BitVec.ofInt 64 ((127 : Nat) : Int)).toNat = y6 % 128
      rw [BitVec.toNat_and, BitVec.ofInt_natCast, BitVec.ofInt_natCast, BitVec.toNat_ofNat, BitVec.toNat_ofNat, Nat.mod_eq_of_lt (by omega), Nat.mod_eq_of_lt (by omega)]
      exact Nat.and_two_pow_sub_one_eq_mod y6 7
    rw [e, i64_in]
    omega
  simp only [Nat.reducePow] at p0 p1 p2 p3 p4 p5
  clear hy1 hy2 hy3 hy4 hy5 hy6
  rw [← hc]
  unfold c23
  simp (maxSteps := 1000000) (disch := omega) only [acs_nil, acs_blk, acs_skip, acs_reg, acs_dreg, acs_freg, acs_nam0, acs_nam, nones, acs_seq, acs_cond, acs_block, acs_exit, acs_ret, acs_kl, acs_loop, leave_nil, leave_code, leave_lp, leave_blk, aopsK_nil, aopsK_cons, aopsK_guard, bindR_val, bindR_need, bindR_br, bindR_call, bindR_ycall, acs_rfun, rfunG_fn, bindR_bad, drawK_nil, drawK_cons, drawK_ext, drawK_pur, drawK_guard, callPv_fn, drawK_purv, bindD_val, bindD_need, bindD_br, bindD_call, bindD_ycall, bindD_bad, bindX_val, bindX_need, bindX_br, bindX_call, guardD_bool, guardD_tup, grows, grows0, List.append_cancel_left_eq, List.cons.injEq, exists_eq', exists_eq, condK_bool, guardK_bool, guardK_tup, sor, r0, r1, r2, r3, rC, rB, rI, rP, rA, rT, rS, rF, rSl, rO, rbin, rcut, run1, Env.evals, Env.eval, Env.get, Env.put, Env.ins, Env.del, Env.dels, argEnv, AV.full, AV.cells, AV.cell, eqCells, Nat.reduceEqDiff, Nat.reduceLT, Nat.reduceAdd, Nat.reduceSub, Nat.reduceMul, Nat.reduceBEq, Int.reduceLT, Int.reduceAdd, Int.reduceMul, Int.reduceSub, Int.reduceToNat, Int.reduceLE, Int.reduceEq, ↓reduceIte, decide_true, decide_false, decide_eq_true_eq, decide_eq_false_iff_not, Bool.not_eq_true', Bool.not_eq_false', true_and, and_true, false_implies, true_implies, forall_const, Bool.not_true, Bool.not_false, Bool.false_eq_true, Bool.true_eq_false, List.getElem?_cons_zero, List.getElem?_cons_succ, List.length_cons, List.length_nil, List.length_append, List.all_cons, List.all_nil, Bool.and_true, Bool.and_self, implies_true, reduceCtorEq, List.append_assoc, List.cons_append, List.nil_append, List.append_nil, Int.reduceNeg, i64_in, imin_eq, imax_eq, cast3, cast0, cast1, cast2, Option.map_none, ite_self, and_false, false_and, Option.isSome_some, or_true, true_or, Int.sub_zero, Int.mul_one, Nat.sub_zero, Nat.zero_le, Int.cast_ofNat_Int, Int.natCast_nonneg, Int.toNat_natCast, ne_eq, not_false_eq_true, not_true_eq_false, strC, blkAt_app, blkAt_app0, blkAt_zero, blkAt_succ, List.set_cons_zero, List.set_cons_succ, set_app, set_app0, Option.map_some, Option.bind_some, rd, setCells, lay, rdS, szOk, rapp, ownAt, lenAt, Option.any_some, Option.getD_some, List.drop_zero, List.drop_succ_cons, List.take_succ_cons, List.take_zero, List.drop_nil, List.take_nil, Nat.reduceLeDiff, Nat.lt_irrefl, Nat.zero_add, Nat.add_zero, Nat.mul_one, Nat.one_mul, Nat.add_assoc, Option.some.injEq, eq_self,  p0, q0, q1, a1, p1, q2, q3, a2, p2, a3, q4, p3, a4, p4, a5, p5, a6, q7, Nat.reducePow]
  exact fin_same (by simp) _ (by first | exact (List.append_nil _).symm | rfl) (by simp (maxSteps := 1000000) (disch := omega) only [resVal, resAll, resOne, rs23, Env.get, Nat.reduceEqDiff, Nat.reduceLT, Nat.reduceAdd, Nat.reduceSub, Nat.reduceMul, Nat.reduceBEq, Int.reduceLT, Int.reduceAdd, Int.reduceMul, Int.reduceSub, Int.reduceToNat, Int.reduceLE, Int.reduceEq, ↓reduceIte, decide_true, decide_false, decide_eq_true_eq, decide_eq_false_iff_not, Bool.not_eq_true', Bool.not_eq_false', true_and, and_true, false_implies, true_implies, forall_const, Bool.not_true, Bool.not_false, Bool.false_eq_true, Bool.true_eq_false, List.getElem?_cons_zero, List.getElem?_cons_succ, List.length_cons, List.length_nil, List.length_append, List.all_cons, List.all_nil, Bool.and_true, Bool.and_self, implies_true, reduceCtorEq, List.append_assoc, List.cons_append, List.nil_append, List.append_nil, Int.reduceNeg, i64_in, imin_eq, imax_eq, cast3, cast0, cast1, cast2, Option.map_none, ite_self, and_false, false_and, Option.isSome_some, or_true, true_or, Int.sub_zero, Int.mul_one, Nat.sub_zero, Nat.zero_le, Int.cast_ofNat_Int, Int.natCast_nonneg, Int.toNat_natCast, ne_eq, not_false_eq_true, not_true_eq_false, strC, blkAt_app, blkAt_app0, blkAt_zero, blkAt_succ, List.set_cons_zero, List.set_cons_succ, set_app, set_app0, Option.map_some, Option.bind_some, rd, setCells, lay, rdS, szOk, rapp, ownAt, lenAt, Option.any_some, Option.getD_some, List.drop_zero, List.drop_succ_cons, List.take_succ_cons, List.take_zero, List.drop_nil, List.take_nil, Nat.reduceLeDiff, Nat.lt_irrefl, Nat.zero_add, Nat.add_zero, Nat.mul_one, Nat.one_mul, Nat.add_assoc, Option.some.injEq, eq_self]) (by simp only [AV.und, AV.unds, and_self])
/-- The bits of a row of words that are 1. -/
def ones : List Int → Nat
  | [] => 0
  | n :: r => pop (u64 n) + ones r
theorem ones_le : ∀ (l : List Int), ones l ≤ 64 * l.length
  | [] => by simp [ones]
  | n :: r => by
    have := ones_le r
    have := pop_le (u64 n)
    rw [ones, List.length_cons]
    omega
theorem ones_app : ∀ (a b : List Int), ones (a ++ b) = ones a + ones b
  | [], b => by simp [ones]
  | n :: r, b => by rw [List.cons_append, ones, ones, ones_app r b]; omega
def c20t : SC := tl2 (tl2 (tl2 c20))
def e20 (p off n : Nat) (c : Option Nat) (s j : Nat) : Env := [(3, .int .i64 (s : Nat)), (6, .sl p off n 1 c), (7, .int .i64 (n : Nat)), (8, .int .i64 (j : Nat))]
theorem f20_loop {xs : List Int} {p off : Nat} {c : Option Nat} {H : Heap} (hx : Sl i64 H p off xs) (hl : xs.length ≤ 4000000) : ∀ (r : List Int) (j s : Nat), xs.drop j = r → j + r.length = xs.length → s + ones r = ones xs →
    acs Try.prog [.lp c20l0, .blk 0, .code c20t] (e20 p off xs.length c s j) H (Fin H rs20 (.int .i64 (ones xs : Nat)) H) := by
  have hb := ones_le xs
  obtain ⟨cs, o, hp, hle, hcs⟩ := hx
  intro r
  induction r with
  | nil =>
    intro j s _ hj hs
    have hlt : ¬ (j : Int) < (xs.length : Int) := by simp at hj; omega
    rw [← hs, ones]
    unfold e20
    rw [acs_lp]; conv in Fr.code c20l0 => unfold c20l0
    simp (maxSteps := 1000000) (disch := omega) only [acs_nil, acs_blk, acs_skip, acs_reg, acs_dreg, acs_freg, acs_nam0, acs_nam, nones, acs_seq, acs_cond, acs_block, acs_exit, acs_ret, acs_kl, acs_loop, leave_nil, leave_code, leave_lp, leave_blk, aopsK_nil, aopsK_cons, aopsK_guard, bindR_val, bindR_need, bindR_br, bindR_call, bindR_ycall, acs_rfun, rfunG_fn, bindR_bad, drawK_nil, drawK_cons, drawK_ext, drawK_pur, drawK_guard, callPv_fn, drawK_purv, bindD_val, bindD_need, bindD_br, bindD_call, bindD_ycall, bindD_bad, bindX_val, bindX_need, bindX_br, bindX_call, guardD_bool, guardD_tup, grows, grows0, List.append_cancel_left_eq, List.cons.injEq, exists_eq', exists_eq, condK_bool, guardK_bool, guardK_tup, sor, r0, r1, r2, r3, rC, rB, rI, rP, rA, rT, rS, rF, rSl, rO, rbin, rcut, run1, Env.evals, Env.eval, Env.get, Env.put, Env.ins, Env.del, Env.dels, argEnv, AV.full, AV.cells, AV.cell, eqCells, Nat.reduceEqDiff, Nat.reduceLT, Nat.reduceAdd, Nat.reduceSub, Nat.reduceMul, Nat.reduceBEq, Int.reduceLT, Int.reduceAdd, Int.reduceMul, Int.reduceSub, Int.reduceToNat, Int.reduceLE, Int.reduceEq, ↓reduceIte, decide_true, decide_false, decide_eq_true_eq, decide_eq_false_iff_not, Bool.not_eq_true', Bool.not_eq_false', true_and, and_true, false_implies, true_implies, forall_const, Bool.not_true, Bool.not_false, Bool.false_eq_true, Bool.true_eq_false, List.getElem?_cons_zero, List.getElem?_cons_succ, List.length_cons, List.length_nil, List.length_append, List.all_cons, List.all_nil, Bool.and_true, Bool.and_self, implies_true, reduceCtorEq, List.append_assoc, List.cons_append, List.nil_append, List.append_nil, Int.reduceNeg, i64_in, imin_eq, imax_eq, cast3, cast0, cast1, cast2, Option.map_none, ite_self, and_false, false_and, Option.isSome_some, or_true, true_or, Int.sub_zero, Int.mul_one, Nat.sub_zero, Nat.zero_le, Int.cast_ofNat_Int, Int.natCast_nonneg, Int.toNat_natCast, ne_eq, not_false_eq_true, not_true_eq_false, strC, blkAt_app, blkAt_app0, blkAt_zero, blkAt_succ, List.set_cons_zero, List.set_cons_succ, set_app, set_app0, Option.map_some, Option.bind_some, rd, setCells, lay, rdS, szOk, rapp, ownAt, lenAt, Option.any_some, Option.getD_some, List.drop_zero, List.drop_succ_cons, List.take_succ_cons, List.take_zero, List.drop_nil, List.take_nil, Nat.reduceLeDiff, Nat.lt_irrefl, Nat.zero_add, Nat.add_zero, Nat.mul_one, Nat.one_mul, Nat.add_assoc, Option.some.injEq, eq_self,  hlt]
    unfold c20t c20 tl2
    simp (maxSteps := 1000000) (disch := omega) only [acs_nil, acs_blk, acs_skip, acs_reg, acs_dreg, acs_freg, acs_nam0, acs_nam, nones, acs_seq, acs_cond, acs_block, acs_exit, acs_ret, acs_kl, acs_loop, leave_nil, leave_code, leave_lp, leave_blk, aopsK_nil, aopsK_cons, aopsK_guard, bindR_val, bindR_need, bindR_br, bindR_call, bindR_ycall, acs_rfun, rfunG_fn, bindR_bad, drawK_nil, drawK_cons, drawK_ext, drawK_pur, drawK_guard, callPv_fn, drawK_purv, bindD_val, bindD_need, bindD_br, bindD_call, bindD_ycall, bindD_bad, bindX_val, bindX_need, bindX_br, bindX_call, guardD_bool, guardD_tup, grows, grows0, List.append_cancel_left_eq, List.cons.injEq, exists_eq', exists_eq, condK_bool, guardK_bool, guardK_tup, sor, r0, r1, r2, r3, rC, rB, rI, rP, rA, rT, rS, rF, rSl, rO, rbin, rcut, run1, Env.evals, Env.eval, Env.get, Env.put, Env.ins, Env.del, Env.dels, argEnv, AV.full, AV.cells, AV.cell, eqCells, Nat.reduceEqDiff, Nat.reduceLT, Nat.reduceAdd, Nat.reduceSub, Nat.reduceMul, Nat.reduceBEq, Int.reduceLT, Int.reduceAdd, Int.reduceMul, Int.reduceSub, Int.reduceToNat, Int.reduceLE, Int.reduceEq, ↓reduceIte, decide_true, decide_false, decide_eq_true_eq, decide_eq_false_iff_not, Bool.not_eq_true', Bool.not_eq_false', true_and, and_true, false_implies, true_implies, forall_const, Bool.not_true, Bool.not_false, Bool.false_eq_true, Bool.true_eq_false, List.getElem?_cons_zero, List.getElem?_cons_succ, List.length_cons, List.length_nil, List.length_append, List.all_cons, List.all_nil, Bool.and_true, Bool.and_self, implies_true, reduceCtorEq, List.append_assoc, List.cons_append, List.nil_append, List.append_nil, Int.reduceNeg, i64_in, imin_eq, imax_eq, cast3, cast0, cast1, cast2, Option.map_none, ite_self, and_false, false_and, Option.isSome_some, or_true, true_or, Int.sub_zero, Int.mul_one, Nat.sub_zero, Nat.zero_le, Int.cast_ofNat_Int, Int.natCast_nonneg, Int.toNat_natCast, ne_eq, not_false_eq_true, not_true_eq_false, strC, blkAt_app, blkAt_app0, blkAt_zero, blkAt_succ, List.set_cons_zero, List.set_cons_succ, set_app, set_app0, Option.map_some, Option.bind_some, rd, setCells, lay, rdS, szOk, rapp, ownAt, lenAt, Option.any_some, Option.getD_some, List.drop_zero, List.drop_succ_cons, List.take_succ_cons, List.take_zero, List.drop_nil, List.take_nil, Nat.reduceLeDiff, Nat.lt_irrefl, Nat.zero_add, Nat.add_zero, Nat.mul_one, Nat.one_mul, Nat.add_assoc, Option.some.injEq, eq_self]
    exact fin_same (by simp) _ (by first | exact (List.append_nil _).symm | rfl) (by simp (maxSteps := 1000000) (disch := omega) only [resVal, resAll, resOne, rs20, Env.get, Nat.reduceEqDiff, Nat.reduceLT, Nat.reduceAdd, Nat.reduceSub, Nat.reduceMul, Nat.reduceBEq, Int.reduceLT, Int.reduceAdd, Int.reduceMul, Int.reduceSub, Int.reduceToNat, Int.reduceLE, Int.reduceEq, ↓reduceIte, decide_true, decide_false, decide_eq_true_eq, decide_eq_false_iff_not, Bool.not_eq_true', Bool.not_eq_false', true_and, and_true, false_implies, true_implies, forall_const, Bool.not_true, Bool.not_false, Bool.false_eq_true, Bool.true_eq_false, List.getElem?_cons_zero, List.getElem?_cons_succ, List.length_cons, List.length_nil, List.length_append, List.all_cons, List.all_nil, Bool.and_true, Bool.and_self, implies_true, reduceCtorEq, List.append_assoc, List.cons_append, List.nil_append, List.append_nil, Int.reduceNeg, i64_in, imin_eq, imax_eq, cast3, cast0, cast1, cast2, Option.map_none, ite_self, and_false, false_and, Option.isSome_some, or_true, true_or, Int.sub_zero, Int.mul_one, Nat.sub_zero, Nat.zero_le, Int.cast_ofNat_Int, Int.natCast_nonneg, Int.toNat_natCast, ne_eq, not_false_eq_true, not_true_eq_false, strC, blkAt_app, blkAt_app0, blkAt_zero, blkAt_succ, List.set_cons_zero, List.set_cons_succ, set_app, set_app0, Option.map_some, Option.bind_some, rd, setCells, lay, rdS, szOk, rapp, ownAt, lenAt, Option.any_some, Option.getD_some, List.drop_zero, List.drop_succ_cons, List.take_succ_cons, List.take_zero, List.drop_nil, List.take_nil, Nat.reduceLeDiff, Nat.lt_irrefl, Nat.zero_add, Nat.add_zero, Nat.mul_one, Nat.one_mul, Nat.add_assoc, Option.some.injEq, eq_self]) (by simp only [AV.und, AV.unds, and_self])
  | cons x r ih =>
    intro j s hd hj hs
    have hlt : (j : Int) < (xs.length : Int) := by simp at hj; omega
    have hx0 : xs[j]? = some x := by have := congrArg (·[0]?) hd; simpa using this
    have fx : cs[off + j]? = some (.int .i64 x) := sl_get hcs hx0
    have hd2 : xs.drop (j + 1) = r := by rw [← List.drop_drop, hd]; rfl
    rw [ones] at hs
    have next := ih (j + 1) (s + pop (u64 x)) hd2 (by simp at hj; omega) (by omega)
    have g := fun H => f23 (u64 x) H (u64_lt x)
    have e := u64_cast x
    unfold e20 at *
    simp only [List.append_assoc, List.cons_append, List.nil_append, List.length_append, List.length_cons, List.length_nil, Nat.reduceAdd, Nat.add_assoc, Nat.zero_add, Nat.add_zero, Int.natCast_add, Int.cast_ofNat_Int, ] at next
    have hsb : (s : Int) + ((pop (u64 x) : Nat) : Int) ≤ 9223372036854775807 := by omega
    clear ih hd hd2 hx0 hs
    generalize ones xs = R at *
    generalize pop (u64 x) = pp at *
    generalize u64 x = u at *
    rw [acs_lp]; conv in Fr.code c20l0 => unfold c20l0
    simp (maxSteps := 1000000) (disch := omega) only [acs_nil, acs_blk, acs_skip, acs_reg, acs_dreg, acs_freg, acs_nam0, acs_nam, nones, acs_seq, acs_cond, acs_block, acs_exit, acs_ret, acs_kl, acs_loop, leave_nil, leave_code, leave_lp, leave_blk, aopsK_nil, aopsK_cons, aopsK_guard, bindR_val, bindR_need, bindR_br, bindR_call, bindR_ycall, acs_rfun, rfunG_fn, bindR_bad, drawK_nil, drawK_cons, drawK_ext, drawK_pur, drawK_guard, callPv_fn, drawK_purv, bindD_val, bindD_need, bindD_br, bindD_call, bindD_ycall, bindD_bad, bindX_val, bindX_need, bindX_br, bindX_call, guardD_bool, guardD_tup, grows, grows0, List.append_cancel_left_eq, List.cons.injEq, exists_eq', exists_eq, condK_bool, guardK_bool, guardK_tup, sor, r0, r1, r2, r3, rC, rB, rI, rP, rA, rT, rS, rF, rSl, rO, rbin, rcut, run1, Env.evals, Env.eval, Env.get, Env.put, Env.ins, Env.del, Env.dels, argEnv, AV.full, AV.cells, AV.cell, eqCells, Nat.reduceEqDiff, Nat.reduceLT, Nat.reduceAdd, Nat.reduceSub, Nat.reduceMul, Nat.reduceBEq, Int.reduceLT, Int.reduceAdd, Int.reduceMul, Int.reduceSub, Int.reduceToNat, Int.reduceLE, Int.reduceEq, ↓reduceIte, decide_true, decide_false, decide_eq_true_eq, decide_eq_false_iff_not, Bool.not_eq_true', Bool.not_eq_false', true_and, and_true, false_implies, true_implies, forall_const, Bool.not_true, Bool.not_false, Bool.false_eq_true, Bool.true_eq_false, List.getElem?_cons_zero, List.getElem?_cons_succ, List.length_cons, List.length_nil, List.length_append, List.all_cons, List.all_nil, Bool.and_true, Bool.and_self, implies_true, reduceCtorEq, List.append_assoc, List.cons_append, List.nil_append, List.append_nil, Int.reduceNeg, i64_in, imin_eq, imax_eq, cast3, cast0, cast1, cast2, Option.map_none, ite_self, and_false, false_and, Option.isSome_some, or_true, true_or, Int.sub_zero, Int.mul_one, Nat.sub_zero, Nat.zero_le, Int.cast_ofNat_Int, Int.natCast_nonneg, Int.toNat_natCast, ne_eq, not_false_eq_true, not_true_eq_false, strC, blkAt_app, blkAt_app0, blkAt_zero, blkAt_succ, List.set_cons_zero, List.set_cons_succ, set_app, set_app0, Option.map_some, Option.bind_some, rd, setCells, lay, rdS, szOk, rapp, ownAt, lenAt, Option.any_some, Option.getD_some, List.drop_zero, List.drop_succ_cons, List.take_succ_cons, List.take_zero, List.drop_nil, List.take_nil, Nat.reduceLeDiff, Nat.lt_irrefl, Nat.zero_add, Nat.add_zero, Nat.mul_one, Nat.one_mul, Nat.add_assoc, Option.some.injEq, eq_self,  hp, hlt, fx, e]
    first | refine callB_intro (g _) ?_ | refine callD_intro (g _) ?_ | refine callP_intro (fun _ => (g _)) ?_ | refine callX_pure (g _) ?_
    simp (maxSteps := 1000000) (disch := omega) only [acs_nil, acs_blk, acs_skip, acs_reg, acs_dreg, acs_freg, acs_nam0, acs_nam, nones, acs_seq, acs_cond, acs_block, acs_exit, acs_ret, acs_kl, acs_loop, leave_nil, leave_code, leave_lp, leave_blk, aopsK_nil, aopsK_cons, aopsK_guard, bindR_val, bindR_need, bindR_br, bindR_call, bindR_ycall, acs_rfun, rfunG_fn, bindR_bad, drawK_nil, drawK_cons, drawK_ext, drawK_pur, drawK_guard, callPv_fn, drawK_purv, bindD_val, bindD_need, bindD_br, bindD_call, bindD_ycall, bindD_bad, bindX_val, bindX_need, bindX_br, bindX_call, guardD_bool, guardD_tup, grows, grows0, List.append_cancel_left_eq, List.cons.injEq, exists_eq', exists_eq, condK_bool, guardK_bool, guardK_tup, sor, r0, r1, r2, r3, rC, rB, rI, rP, rA, rT, rS, rF, rSl, rO, rbin, rcut, run1, Env.evals, Env.eval, Env.get, Env.put, Env.ins, Env.del, Env.dels, argEnv, AV.full, AV.cells, AV.cell, eqCells, Nat.reduceEqDiff, Nat.reduceLT, Nat.reduceAdd, Nat.reduceSub, Nat.reduceMul, Nat.reduceBEq, Int.reduceLT, Int.reduceAdd, Int.reduceMul, Int.reduceSub, Int.reduceToNat, Int.reduceLE, Int.reduceEq, ↓reduceIte, decide_true, decide_false, decide_eq_true_eq, decide_eq_false_iff_not, Bool.not_eq_true', Bool.not_eq_false', true_and, and_true, false_implies, true_implies, forall_const, Bool.not_true, Bool.not_false, Bool.false_eq_true, Bool.true_eq_false, List.getElem?_cons_zero, List.getElem?_cons_succ, List.length_cons, List.length_nil, List.length_append, List.all_cons, List.all_nil, Bool.and_true, Bool.and_self, implies_true, reduceCtorEq, List.append_assoc, List.cons_append, List.nil_append, List.append_nil, Int.reduceNeg, i64_in, imin_eq, imax_eq, cast3, cast0, cast1, cast2, Option.map_none, ite_self, and_false, false_and, Option.isSome_some, or_true, true_or, Int.sub_zero, Int.mul_one, Nat.sub_zero, Nat.zero_le, Int.cast_ofNat_Int, Int.natCast_nonneg, Int.toNat_natCast, ne_eq, not_false_eq_true, not_true_eq_false, strC, blkAt_app, blkAt_app0, blkAt_zero, blkAt_succ, List.set_cons_zero, List.set_cons_succ, set_app, set_app0, Option.map_some, Option.bind_some, rd, setCells, lay, rdS, szOk, rapp, ownAt, lenAt, Option.any_some, Option.getD_some, List.drop_zero, List.drop_succ_cons, List.take_succ_cons, List.take_zero, List.drop_nil, List.take_nil, Nat.reduceLeDiff, Nat.lt_irrefl, Nat.zero_add, Nat.add_zero, Nat.mul_one, Nat.one_mul, Nat.add_assoc, Option.some.injEq, eq_self,  hp, hlt, fx, e]
    exact next
theorem f20 {xs : List Int} {p off : Nat} {c : Option Nat} {H : Heap} (hx : Sl i64 H p off xs) (hl : xs.length ≤ 4000000) :
    ACall Try.prog 20 [.sl p off xs.length 1 c] H (.int .i64 (ones xs : Nat)) H := by
  refine acall20 (by simp) (acs_start ?_)
  have go := f20_loop (c := c) hx hl xs 0 0 rfl (by simp) (by simp)
  unfold e20 c20t c20 tl2 at go
  unfold c20
  simp only [List.append_assoc, List.cons_append, List.nil_append, List.length_append, List.length_cons, List.length_nil, Nat.reduceAdd, Nat.add_assoc, Nat.zero_add, Nat.add_zero, Int.natCast_add, Int.cast_ofNat_Int, ] at go
  simp (maxSteps := 1000000) (disch := omega) only [acs_nil, acs_blk, acs_skip, acs_reg, acs_dreg, acs_freg, acs_nam0, acs_nam, nones, acs_seq, acs_cond, acs_block, acs_exit, acs_ret, acs_kl, acs_loop, leave_nil, leave_code, leave_lp, leave_blk, aopsK_nil, aopsK_cons, aopsK_guard, bindR_val, bindR_need, bindR_br, bindR_call, bindR_ycall, acs_rfun, rfunG_fn, bindR_bad, drawK_nil, drawK_cons, drawK_ext, drawK_pur, drawK_guard, callPv_fn, drawK_purv, bindD_val, bindD_need, bindD_br, bindD_call, bindD_ycall, bindD_bad, bindX_val, bindX_need, bindX_br, bindX_call, guardD_bool, guardD_tup, grows, grows0, List.append_cancel_left_eq, List.cons.injEq, exists_eq', exists_eq, condK_bool, guardK_bool, guardK_tup, sor, r0, r1, r2, r3, rC, rB, rI, rP, rA, rT, rS, rF, rSl, rO, rbin, rcut, run1, Env.evals, Env.eval, Env.get, Env.put, Env.ins, Env.del, Env.dels, argEnv, AV.full, AV.cells, AV.cell, eqCells, Nat.reduceEqDiff, Nat.reduceLT, Nat.reduceAdd, Nat.reduceSub, Nat.reduceMul, Nat.reduceBEq, Int.reduceLT, Int.reduceAdd, Int.reduceMul, Int.reduceSub, Int.reduceToNat, Int.reduceLE, Int.reduceEq, ↓reduceIte, decide_true, decide_false, decide_eq_true_eq, decide_eq_false_iff_not, Bool.not_eq_true', Bool.not_eq_false', true_and, and_true, false_implies, true_implies, forall_const, Bool.not_true, Bool.not_false, Bool.false_eq_true, Bool.true_eq_false, List.getElem?_cons_zero, List.getElem?_cons_succ, List.length_cons, List.length_nil, List.length_append, List.all_cons, List.all_nil, Bool.and_true, Bool.and_self, implies_true, reduceCtorEq, List.append_assoc, List.cons_append, List.nil_append, List.append_nil, Int.reduceNeg, i64_in, imin_eq, imax_eq, cast3, cast0, cast1, cast2, Option.map_none, ite_self, and_false, false_and, Option.isSome_some, or_true, true_or, Int.sub_zero, Int.mul_one, Nat.sub_zero, Nat.zero_le, Int.cast_ofNat_Int, Int.natCast_nonneg, Int.toNat_natCast, ne_eq, not_false_eq_true, not_true_eq_false, strC, blkAt_app, blkAt_app0, blkAt_zero, blkAt_succ, List.set_cons_zero, List.set_cons_succ, set_app, set_app0, Option.map_some, Option.bind_some, rd, setCells, lay, rdS, szOk, rapp, ownAt, lenAt, Option.any_some, Option.getD_some, List.drop_zero, List.drop_succ_cons, List.take_succ_cons, List.take_zero, List.drop_nil, List.take_nil, Nat.reduceLeDiff, Nat.lt_irrefl, Nat.zero_add, Nat.add_zero, Nat.mul_one, Nat.one_mul, Nat.add_assoc, Option.some.injEq, eq_self]
  exact go
end Go.Proofs.Ytlohehkagaabfaa.Ah
