/- V03b: a part of the proof: contracts of functions, or plain laws. Conditions: none. -/
import Derived.Test.YtmlklopopokjoaaV03a
namespace Go.Proofs.Ytmlklopopokjoaa.Ah
open Go Go.WideShapes
attribute [local irreducible] acs aopsK drawK leave condK bindR bindD bindX guardK guardD callB callD callX callP callPv
set_option maxHeartbeats 4000000
set_option linter.unusedSimpArgs false
set_option linter.unusedVariables false
/-! Products of two words. -/
theorem and64 {a m : Nat} (ha : a < 18446744073709551616) (hm : m < 18446744073709551616) : IntKind.u64.wrap (BitVec.ofInt IntKind.u64.bits (a : Int) &&& BitVec.ofInt IntKind.u64.bits (m : Int)).toNat = ((a &&& m : Nat) : Int) := by
  have h : a &&& m < 2 ^ 64 := Nat.and_lt_two_pow _ (by omega)
  have e : (BitVec.ofInt IntKind.u64.bits (a : Int) &&& BitVec.ofInt IntKind.u64.bits (m : Int)).toNat = a &&& m := by
    show (BitVec.ofInt 64 (a : Int) &&& BitVec.ofInt 64 (m : Int)).toNat = a &&& m
    rw [BitVec.toNat_and, BitVec.ofInt_natCast, BitVec.ofInt_natCast, BitVec.toNat_ofNat, BitVec.toNat_ofNat, Nat.mod_eq_of_lt (by omega), Nat.mod_eq_of_lt (by omega)]
  rw [e, u64_in]
  omega
theorem or64 {a m : Nat} (ha : a < 18446744073709551616) (hm : m < 18446744073709551616) : IntKind.u64.wrap (BitVec.ofInt IntKind.u64.bits (a : Int) ||| BitVec.ofInt IntKind.u64.bits (m : Int)).toNat = ((a ||| m : Nat) : Int) := by
  have h : a ||| m < 2 ^ 64 := Nat.or_lt_two_pow (by omega) (by omega)
  have e : (BitVec.ofInt IntKind.u64.bits (a : Int) ||| BitVec.ofInt IntKind.u64.bits (m : Int)).toNat = a ||| m := by
    show (BitVec.ofInt 64 (a : Int) ||| BitVec.ofInt 64 (m : Int)).toNat = a ||| m
    rw [BitVec.toNat_or, BitVec.ofInt_natCast, BitVec.ofInt_natCast, BitVec.toNat_ofNat, BitVec.toNat_ofNat, Nat.mod_eq_of_lt (by omega), Nat.mod_eq_of_lt (by omega)]
  rw [e, u64_in]
  omega
theorem m32 {a : Nat} (ha : a < 18446744073709551616) : IntKind.u64.wrap (BitVec.ofInt IntKind.u64.bits (a : Int) &&& BitVec.ofInt IntKind.u64.bits 4294967295).toNat = ((a % 4294967296 : Nat) : Int) := by
  have := and64 ha (m := 4294967295) (by omega)
  rw [show (4294967295 : Nat) = 2 ^ 32 - 1 from rfl, Nat.and_two_pow_sub_one_eq_mod] at this
  exact this
theorem m24 {a : Nat} (ha : a < 18446744073709551616) : IntKind.u64.wrap (BitVec.ofInt IntKind.u64.bits (a : Int) &&& BitVec.ofInt IntKind.u64.bits 16777215).toNat = ((a % 16777216 : Nat) : Int) := by
  have := and64 ha (m := 16777215) (by omega)
  rw [show (16777215 : Nat) = 2 ^ 24 - 1 from rfl, Nat.and_two_pow_sub_one_eq_mod] at this
  exact this
theorem m1 {a : Nat} (ha : a < 18446744073709551616) : IntKind.u64.wrap (BitVec.ofInt IntKind.u64.bits (a : Int) &&& BitVec.ofInt IntKind.u64.bits 1).toNat = ((a % 2 : Nat) : Int) := by
  have := and64 ha (m := 1) (by omega)
  rw [Nat.and_one_is_mod] at this
  exact this
theorem sh64 {a k : Nat} (hk : k ≤ 64) : (a : Int).fdiv (2 ^ (min k IntKind.u64.bits)) = ((a / 2 ^ k : Nat) : Int) := by
  have e : min k IntKind.u64.bits = k := by
    have : IntKind.u64.bits = 64 := rfl
    omega
  rw [e, Int.fdiv_eq_ediv_of_nonneg _ (Int.pow_nonneg (by decide))]
  simp
theorem w64 {a : Nat} (h : a < 18446744073709551616) : IntKind.u64.wrap (a : Int) = (a : Int) := u64_in _ (by omega)
theorem f51 {x y : Nat} {H : Heap} (hx : x ≤ 70368744177664) (hy : y ≤ 70368744177664) : ACall Try.prog 51 [.int .u64 (x : Int), .int .u64 (y : Int)] H (.tup [.int .u64 ((x * y / 18446744073709551616 : Nat) : Int), .int .u64 ((x * y % 18446744073709551616 : Nat) : Int)]) H := by
  refine acall51 (by simp) (acs_start ?_)
  obtain ⟨x0, ex0⟩ : ∃ n, n = x % 4294967296 := ⟨_, rfl⟩
  obtain ⟨x1, ex1⟩ : ∃ n, n = x / 4294967296 := ⟨_, rfl⟩
  obtain ⟨y0, ey0⟩ : ∃ n, n = y % 4294967296 := ⟨_, rfl⟩
  obtain ⟨y1, ey1⟩ : ∃ n, n = y / 4294967296 := ⟨_, rfl⟩
  have bx : x0 ≤ 4294967295 ∧ x1 ≤ 16384 ∧ x = 4294967296 * x1 + x0 := by omega
  have bY : y0 ≤ 4294967295 ∧ y1 ≤ 16384 ∧ y = 4294967296 * y1 + y0 := by omega
  have q00 : x0 * y0 ≤ 4294967295 * 4294967295 := Nat.mul_le_mul bx.1 bY.1
  have q10 : x1 * y0 ≤ 16384 * 4294967295 := Nat.mul_le_mul bx.2.1 bY.1
  have q01 : x0 * y1 ≤ 4294967295 * 16384 := Nat.mul_le_mul bx.1 bY.2.1
  have q11 : x1 * y1 ≤ 16384 * 16384 := Nat.mul_le_mul bx.2.1 bY.2.1
  have big : x * y = x0 * y0 + 4294967296 * (x1 * y0) + 4294967296 * (x0 * y1) + 18446744073709551616 * (x1 * y1) := by
    rw [bx.2.2, bY.2.2]
    have h1 : 4294967296 * x1 * (4294967296 * y1) = 18446744073709551616 * (x1 * y1) := by rw [Nat.mul_mul_mul_comm]
    have h2 : 4294967296 * x1 * y0 = 4294967296 * (x1 * y0) := Nat.mul_assoc _ _ _
    have h3 : x0 * (4294967296 * y1) = 4294967296 * (x0 * y1) := Nat.mul_left_comm _ _ _
    rw [Nat.add_mul, Nat.mul_add, Nat.mul_add, h1, h2, h3]
    omega
  have e1 := m32 (a := x) (by omega)
  have e2 := m32 (a := y) (by omega)
  have e3 : ∀ a : Nat, (a : Int).fdiv (2 ^ (min 32 IntKind.u64.bits)) = ((a / 4294967296 : Nat) : Int) := fun a => sh64 (k := 32) (by omega)
  rw [← ex0] at e1
  rw [← ey0] at e2
  have c1 : IntKind.u64.wrap ((x0 : Int) * y0) = ((x0 * y0 : Nat) : Int) := by rw [← Int.natCast_mul]; exact w64 (by omega)
  have c2 : IntKind.u64.wrap ((x1 : Int) * y0) = ((x1 * y0 : Nat) : Int) := by rw [← Int.natCast_mul]; exact w64 (by omega)
  have c3 : IntKind.u64.wrap ((x0 : Int) * y1) = ((x0 * y1 : Nat) : Int) := by rw [← Int.natCast_mul]; exact w64 (by omega)
  have c4 : IntKind.u64.wrap ((x1 : Int) * y1) = ((x1 * y1 : Nat) : Int) := by rw [← Int.natCast_mul]; exact w64 (by omega)
  have c5 : IntKind.u64.wrap ((x : Int) * y) = ((x * y % 18446744073709551616 : Nat) : Int) := by
    rw [← Int.natCast_mul]
    simp [IntKind.wrap, IntKind.bits, IntKind.signed]
  generalize x0 * y0 = p00 at *
  generalize x1 * y0 = p10 at *
  generalize x0 * y1 = p01 at *
  generalize x1 * y1 = p11 at *
  have c6 : IntKind.u64.wrap ((p10 : Int) + ((p00 / 4294967296 : Nat) : Int)) = ((p10 + p00 / 4294967296 : Nat) : Int) := by rw [← Int.natCast_add]; exact w64 (by omega)
  obtain ⟨t, et⟩ : ∃ n, n = p10 + p00 / 4294967296 := ⟨_, rfl⟩
  rw [← et] at c6
  have e4 := m32 (a := t) (by omega)
  obtain ⟨t0, et0⟩ : ∃ n, n = t % 4294967296 := ⟨_, rfl⟩
  rw [← et0] at e4
  have c7 : IntKind.u64.wrap ((t0 : Int) + (p01 : Int)) = ((t0 + p01 : Nat) : Int) := by rw [← Int.natCast_add]; exact w64 (by omega)
  obtain ⟨w, ew⟩ : ∃ n, n = t0 + p01 := ⟨_, rfl⟩
  rw [← ew] at c7
  have c8 : IntKind.u64.wrap ((p11 : Int) + ((t / 4294967296 : Nat) : Int)) = ((p11 + t / 4294967296 : Nat) : Int) := by rw [← Int.natCast_add]; exact w64 (by omega)
  have c9 : IntKind.u64.wrap (((p11 + t / 4294967296 : Nat) : Int) + ((w / 4294967296 : Nat) : Int)) = ((x * y / 18446744073709551616 : Nat) : Int) := by
    rw [← Int.natCast_add, w64 (by omega)]
    congr 1
    omega
  have e5 := e3 x
  rw [← ex1] at e5
  have e6 := e3 y
  rw [← ey1] at e6
  have e7 := e3 p00
  have e8 := e3 t
  have e9 := e3 w
  clear e3 bx bY big q00 q10 q01 q11
  generalize x * y / 18446744073709551616 = hi at *
  generalize x * y % 18446744073709551616 = lo at *
  generalize hq1 : ((p00 / 4294967296 : Nat) : Int) = i1 at *
  generalize hq2 : ((t / 4294967296 : Nat) : Int) = i2 at *
  generalize hq3 : ((w / 4294967296 : Nat) : Int) = i3 at *
  generalize hq4 : ((p11 + t / 4294967296 : Nat) : Int) = i4 at *
  clear hq1 hq2 hq3 hq4
  unfold c51
  simp (maxSteps := 1000000) (disch := omega) only [acs_nil, acs_blk, acs_skip, acs_reg, acs_dreg, acs_freg, acs_nam0, acs_nam, nones, acs_seq, acs_cond, acs_block, acs_exit, acs_ret, acs_kl, acs_loop, leave_nil, leave_code, leave_lp, leave_blk, aopsK_nil, aopsK_cons, aopsK_guard, bindR_val, bindR_need, bindR_br, bindR_call, bindR_bad, drawK_nil, drawK_cons, drawK_ext, drawK_pur, drawK_guard, callPv_fn, drawK_purv, bindD_val, bindD_need, bindD_br, bindD_call, bindD_bad, bindX_val, bindX_need, bindX_br, bindX_call, guardD_bool, guardD_tup, grows, grows0, List.append_cancel_left_eq, List.cons.injEq, exists_eq', exists_eq, condK_bool, guardK_bool, guardK_tup, sor, r0, r1, r2, r3, rC, rB, rI, rP, rA, rT, rS, rF, rSl, rO, rbin, rcut, run1, Env.evals, Env.eval, Env.get, Env.put, Env.ins, Env.del, Env.dels, argEnv, AV.full, AV.cells, AV.cell, eqCells, Nat.reduceEqDiff, Nat.reduceLT, Nat.reduceAdd, Nat.reduceSub, Nat.reduceMul, Nat.reduceBEq, Int.reduceLT, Int.reduceAdd, Int.reduceMul, Int.reduceSub, Int.reduceToNat, Int.reduceLE, Int.reduceEq, ↓reduceIte, decide_true, decide_false, decide_eq_true_eq, decide_eq_false_iff_not, Bool.not_eq_true', Bool.not_eq_false', true_and, and_true, false_implies, true_implies, forall_const, Bool.not_true, Bool.not_false, Bool.false_eq_true, Bool.true_eq_false, List.getElem?_cons_zero, List.getElem?_cons_succ, List.length_cons, List.length_nil, List.length_append, List.all_cons, List.all_nil, Bool.and_true, Bool.and_self, implies_true, reduceCtorEq, List.append_assoc, List.cons_append, List.nil_append, List.append_nil, Int.reduceNeg, i64_in, imin_eq, imax_eq, cast3, cast0, cast1, cast2, Option.map_none, ite_self, and_false, false_and, Option.isSome_some, or_true, true_or, Int.sub_zero, Int.mul_one, Nat.sub_zero, Nat.zero_le, Int.cast_ofNat_Int, Int.natCast_nonneg, Int.toNat_natCast, ne_eq, not_false_eq_true, not_true_eq_false, strC, blkAt_app, blkAt_app0, blkAt_zero, blkAt_succ, List.set_cons_zero, List.set_cons_succ, set_app, set_app0, Option.map_some, Option.bind_some, rd, setCells, lay, rdS, szOk, rapp, ownAt, lenAt, Option.any_some, Option.getD_some, List.drop_zero, List.drop_succ_cons, List.take_succ_cons, List.take_zero, List.drop_nil, List.take_nil, Nat.reduceLeDiff, Nat.lt_irrefl, Nat.zero_add, Nat.add_zero, Nat.mul_one, Nat.one_mul, Nat.add_assoc, Option.some.injEq, eq_self,  e1, e2, e4, e5, e6, e7, e8, e9, c1, c2, c3, c4, c5, c6, c7, c8, c9]
  exact fin_same (by simp) _ (by first | exact (List.append_nil _).symm | rfl) (by simp (maxSteps := 1000000) (disch := omega) only [resVal, resAll, resOne, rs51, Env.get, Nat.reduceEqDiff, Nat.reduceLT, Nat.reduceAdd, Nat.reduceSub, Nat.reduceMul, Nat.reduceBEq, Int.reduceLT, Int.reduceAdd, Int.reduceMul, Int.reduceSub, Int.reduceToNat, Int.reduceLE, Int.reduceEq, ↓reduceIte, decide_true, decide_false, decide_eq_true_eq, decide_eq_false_iff_not, Bool.not_eq_true', Bool.not_eq_false', true_and, and_true, false_implies, true_implies, forall_const, Bool.not_true, Bool.not_false, Bool.false_eq_true, Bool.true_eq_false, List.getElem?_cons_zero, List.getElem?_cons_succ, List.length_cons, List.length_nil, List.length_append, List.all_cons, List.all_nil, Bool.and_true, Bool.and_self, implies_true, reduceCtorEq, List.append_assoc, List.cons_append, List.nil_append, List.append_nil, Int.reduceNeg, i64_in, imin_eq, imax_eq, cast3, cast0, cast1, cast2, Option.map_none, ite_self, and_false, false_and, Option.isSome_some, or_true, true_or, Int.sub_zero, Int.mul_one, Nat.sub_zero, Nat.zero_le, Int.cast_ofNat_Int, Int.natCast_nonneg, Int.toNat_natCast, ne_eq, not_false_eq_true, not_true_eq_false, strC, blkAt_app, blkAt_app0, blkAt_zero, blkAt_succ, List.set_cons_zero, List.set_cons_succ, set_app, set_app0, Option.map_some, Option.bind_some, rd, setCells, lay, rdS, szOk, rapp, ownAt, lenAt, Option.any_some, Option.getD_some, List.drop_zero, List.drop_succ_cons, List.take_succ_cons, List.take_zero, List.drop_nil, List.take_nil, Nat.reduceLeDiff, Nat.lt_irrefl, Nat.zero_add, Nat.add_zero, Nat.mul_one, Nat.one_mul, Nat.add_assoc, Option.some.injEq, eq_self]) (by simp only [AV.und, AV.unds, and_self])
end Go.Proofs.Ytmlklopopokjoaa.Ah
