/- V08F: a part of the proof: contracts of functions, or plain laws. Conditions: none. -/
import Derived.Test.YtjibphejlmiocaaV08E
namespace Go.Proofs.Ytjibphejlmiocaa.Ah
open Go Go.WideShapes
attribute [local irreducible] acs aopsK drawK leave condK bindR bindD bindX guardK guardD callB callD callX callP callPv rfunG rfunK yldB yldD
set_option maxHeartbeats 4000000
set_option linter.unusedSimpArgs false
set_option linter.unusedVariables false
/-! The law FrameBursts. -/
structure BI (H : Heap) (F : List AV) (bs : List Nat) (q : Nat) (S : List Nat) (X : Heap) : Prop where
  ext : Ext H X
  x0 : blkAt X H.length = some ⟨F, true⟩
  x1 : blkAt X (H.length + 1) = some ⟨bs.map u8, true⟩
  xq : blkAt X q = some ⟨S.map u8, true⟩
theorem BI.turn {H : Heap} {F : List AV} {bs : List Nat} {q : Nat} {S S2 : List Nat} {X : Heap} (d : BI H F bs q S X) (hq : H.length + 2 ≤ q) : BI H F bs q S2 (X.set q (some ⟨S2.map u8, true⟩)) :=
  ⟨d.ext.set (by omega) _, by rw [blkAt_set_ne (by omega)]; exact d.x0, by rw [blkAt_set_ne (by omega)]; exact d.x1, blkAt_set_self (blkAt_lt d.xq) _⟩
def e6 (H : Heap) (q L : Nat) (a : Int) (i : Nat) (sm : Bool) : Env := [(1, .int .i64 a), (3, .ptr H.length 0), (5, .ptr (H.length + 1) 0), (7, .bool true), (8, .sl q 0 L 1 none), (10, .bool sm), (11, .int .i64 (i : Nat))]
theorem f6_loop {K : List Fr} {Q : Post} {H : Heap} {F : List AV} {q L t : Nat} {s0 bs : List Nat} (hq : H.length + 2 ≤ q) (hL : s0.length = L) (ht : t < L) (hL2 : L ≤ 2004) (hb : By bs) (h4 : bs.length = 4)
    (fin : ∀ (S : List Nat) (P : Nat) (X : Heap), (∃ i, i ≤ 4 ∧ Inv s0 t i S P) → BI H F bs q S X → acs Try.prog K [(3, .ptr H.length 0), (7, .bool true), (8, .sl q 0 L 1 none), (10, .bool (!decide (P = 0)))] X Q) :
    ∀ (k i : Nat) (S : List Nat) (P : Nat) (X : Heap), i + k = 4 → Inv s0 t i S P → BI H F bs q S X →
    acs Try.prog (.lp c6l0 :: .blk 0 :: K) (e6 H q L (t : Nat) i (!decide (P = 0))) X Q := by
  intro k
  induction k with
  | zero =>
    intro i S P X hi hinv d
    obtain rfl : i = 4 := hi
    have go := fin S P X ⟨4, Nat.le_refl _, hinv⟩ d
    unfold e6
    rw [acs_lp]; conv in Fr.code c6l0 => unfold c6l0
    simp (maxSteps := 1000000) (disch := omega) only [acs_nil, acs_blk, acs_skip, acs_reg, acs_dreg, acs_freg, acs_nam0, acs_nam, nones, acs_seq, acs_cond, acs_block, acs_exit, acs_ret, acs_kl, acs_loop, leave_nil, leave_code, leave_lp, leave_blk, aopsK_nil, aopsK_cons, aopsK_guard, bindR_val, bindR_need, bindR_br, bindR_call, bindR_ycall, acs_rfun, rfunG_fn, bindR_bad, drawK_nil, drawK_cons, drawK_ext, drawK_pur, drawK_guard, callPv_fn, drawK_purv, bindD_val, bindD_need, bindD_br, bindD_call, bindD_ycall, bindD_bad, bindX_val, bindX_need, bindX_br, bindX_call, guardD_bool, guardD_tup, grows, grows0, List.append_cancel_left_eq, List.cons.injEq, exists_eq', exists_eq, condK_bool, guardK_bool, guardK_tup, sor, r0, r1, r2, r3, rC, rB, rI, rP, rA, rT, rS, rF, rSl, rO, rbin, rcut, run1, Env.evals, Env.eval, Env.get, Env.put, Env.ins, Env.del, Env.dels, argEnv, AV.full, AV.cells, AV.cell, eqCells, Nat.reduceEqDiff, Nat.reduceLT, Nat.reduceAdd, Nat.reduceSub, Nat.reduceMul, Nat.reduceBEq, Int.reduceLT, Int.reduceAdd, Int.reduceMul, Int.reduceSub, Int.reduceToNat, Int.reduceLE, Int.reduceEq, ↓reduceIte, decide_true, decide_false, decide_eq_true_eq, decide_eq_false_iff_not, Bool.not_eq_true', Bool.not_eq_false', true_and, and_true, false_implies, true_implies, forall_const, Bool.not_true, Bool.not_false, Bool.false_eq_true, Bool.true_eq_false, List.getElem?_cons_zero, List.getElem?_cons_succ, List.length_cons, List.length_nil, List.length_append, List.all_cons, List.all_nil, Bool.and_true, Bool.and_self, implies_true, reduceCtorEq, List.append_assoc, List.cons_append, List.nil_append, List.append_nil, Int.reduceNeg, i64_in, imin_eq, imax_eq, cast3, cast0, cast1, cast2, Option.map_none, ite_self, and_false, false_and, Option.isSome_some, or_true, true_or, Int.sub_zero, Int.mul_one, Nat.sub_zero, Nat.zero_le, Int.cast_ofNat_Int, Int.natCast_nonneg, Int.toNat_natCast, ne_eq, not_false_eq_true, not_true_eq_false, strC, blkAt_app, blkAt_app0, blkAt_zero, blkAt_succ, List.set_cons_zero, List.set_cons_succ, set_app, set_app0, Option.map_some, Option.bind_some, rd, setCells, lay, rdS, szOk, rapp, ownAt, lenAt, Option.any_some, Option.getD_some, List.drop_zero, List.drop_succ_cons, List.take_succ_cons, List.take_zero, List.drop_nil, List.take_nil, Nat.reduceLeDiff, Nat.lt_irrefl, Nat.zero_add, Nat.add_zero, Nat.mul_one, Nat.one_mul, Nat.add_assoc, Option.some.injEq, eq_self]
    exact go
  | succ k ih =>
    intro i S P X hi hinv d
    have hi4 : (i : Int) < 4 := by omega
    have hib : (i : Int) ≤ 4 := by omega
    have htb : (t : Int) ≤ 2004 := by omega
    have hLb : (L : Int) ≤ 2004 := by omega
    have t0 : (0 : Int) ≤ (t : Int) := by omega
    by_cases hlt : t + i < L
    · have hlt1 : (t : Int) < (L : Int) - (i : Int) := by omega
      have hlt' : (t : Int) + (i : Int) < (L : Int) := by omega
      have hge : (0 : Int) ≤ (t : Int) + (i : Int) := by omega
      have hidx : ((t : Int) + (i : Int)).toNat = t + i := by omega
      obtain ⟨x, hx⟩ : ∃ x, S[t + i]? = some x := ⟨S[t + i]'(by rw [hinv.len]; omega), by simp⟩
      obtain ⟨b, hbb⟩ : ∃ b, bs[i]? = some b := ⟨bs[i]'(by omega), by simp⟩
      have b8 := hb b (List.mem_of_getElem? hbb)
      have x8 := hinv.by8 x (List.mem_of_getElem? hx)
      have f1 : (S.map u8)[t + i]? = some (.int .u8 (x : Nat)) := getMapF (f := u8) hx
      have f2 : (bs.map u8)[i]? = some (.int .u8 (b : Nat)) := getMapF (f := u8) hbb
      have e1 := xor8 x8 b8
      have hs : setCells (S.map u8) (t + i) [.int .u8 ((x ^^^ b : Nat) : Int)] = (S.set (t + i) (x ^^^ b)).map u8 := setMapF (f := u8) (by rw [hinv.len]; omega)
      have hlen : t + (i + 1) ≤ (S.map u8).length := by rw [List.length_map, hinv.len]; omega
      have next := ih (i + 1) _ _ _ (by omega) (hinv.step (b := b) (by omega) hx b8) (d.turn (S2 := S.set (t + i) (x ^^^ b)) hq)
      have hP : (!decide (P + 2 ^ (8 * i) * b = 0)) = (!decide (P = 0) || !decide ((b : Int) = 0)) := by
        have hpos := Nat.two_pow_pos (8 * i)
        by_cases hp : P = 0
        · by_cases hb0 : b = 0
          · subst hb0; subst hp; simp
          · have h1 : ¬ (P + 2 ^ (8 * i) * b = 0) := by
              have := Nat.mul_pos hpos (Nat.pos_of_ne_zero hb0)
              omega
            have h2 : ¬ (b : Int) = 0 := by omega
            rw [decide_eq_false h1, decide_eq_false h2]
            simp
        · have h1 : ¬ (P + 2 ^ (8 * i) * b = 0) := by omega
          rw [decide_eq_false h1, decide_eq_false hp]
          rfl
      rw [hP] at next
      clear hP
      have q1 := blkAt_lt d.x1
      have q2 := blkAt_lt d.xq
      have y1 := d.x1
      have y2 := d.xq
      have y3 : blkAt (X.set q (some ⟨(S.set (t + i) (x ^^^ b)).map u8, true⟩)) (H.length + 1) = some ⟨bs.map u8, true⟩ := (d.turn (S2 := S.set (t + i) (x ^^^ b)) hq).x1
      generalize S.set (t + i) (x ^^^ b) = S' at *
      generalize x ^^^ b = w at *
      unfold e6 at *
      simp only [List.append_assoc, List.cons_append, List.nil_append, List.length_append, List.length_cons, List.length_nil, Nat.reduceAdd, Nat.add_assoc, Nat.zero_add, Nat.add_zero, Int.natCast_add, Int.cast_ofNat_Int, ] at next
      clear ih hx hbb b8 x8 hinv hi fin
      rw [acs_lp]; conv in Fr.code c6l0 => unfold c6l0
      cases hsm : decide (P = 0) with
      | true =>
        rw [hsm, Bool.not_true, Bool.false_or] at next
        simp (maxSteps := 1000000) (disch := omega) only [acs_nil, acs_blk, acs_skip, acs_reg, acs_dreg, acs_freg, acs_nam0, acs_nam, nones, acs_seq, acs_cond, acs_block, acs_exit, acs_ret, acs_kl, acs_loop, leave_nil, leave_code, leave_lp, leave_blk, aopsK_nil, aopsK_cons, aopsK_guard, bindR_val, bindR_need, bindR_br, bindR_call, bindR_ycall, acs_rfun, rfunG_fn, bindR_bad, drawK_nil, drawK_cons, drawK_ext, drawK_pur, drawK_guard, callPv_fn, drawK_purv, bindD_val, bindD_need, bindD_br, bindD_call, bindD_ycall, bindD_bad, bindX_val, bindX_need, bindX_br, bindX_call, guardD_bool, guardD_tup, grows, grows0, List.append_cancel_left_eq, List.cons.injEq, exists_eq', exists_eq, condK_bool, guardK_bool, guardK_tup, sor, r0, r1, r2, r3, rC, rB, rI, rP, rA, rT, rS, rF, rSl, rO, rbin, rcut, run1, Env.evals, Env.eval, Env.get, Env.put, Env.ins, Env.del, Env.dels, argEnv, AV.full, AV.cells, AV.cell, eqCells, Nat.reduceEqDiff, Nat.reduceLT, Nat.reduceAdd, Nat.reduceSub, Nat.reduceMul, Nat.reduceBEq, Int.reduceLT, Int.reduceAdd, Int.reduceMul, Int.reduceSub, Int.reduceToNat, Int.reduceLE, Int.reduceEq, ↓reduceIte, decide_true, decide_false, decide_eq_true_eq, decide_eq_false_iff_not, Bool.not_eq_true', Bool.not_eq_false', true_and, and_true, false_implies, true_implies, forall_const, Bool.not_true, Bool.not_false, Bool.false_eq_true, Bool.true_eq_false, List.getElem?_cons_zero, List.getElem?_cons_succ, List.length_cons, List.length_nil, List.length_append, List.all_cons, List.all_nil, Bool.and_true, Bool.and_self, implies_true, reduceCtorEq, List.append_assoc, List.cons_append, List.nil_append, List.append_nil, Int.reduceNeg, i64_in, imin_eq, imax_eq, cast3, cast0, cast1, cast2, Option.map_none, ite_self, and_false, false_and, Option.isSome_some, or_true, true_or, Int.sub_zero, Int.mul_one, Nat.sub_zero, Nat.zero_le, Int.cast_ofNat_Int, Int.natCast_nonneg, Int.toNat_natCast, ne_eq, not_false_eq_true, not_true_eq_false, strC, blkAt_app, blkAt_app0, blkAt_zero, blkAt_succ, List.set_cons_zero, List.set_cons_succ, set_app, set_app0, Option.map_some, Option.bind_some, rd, lay, rdS, szOk, rapp, ownAt, lenAt, Option.any_some, Option.getD_some, List.drop_zero, List.drop_succ_cons, List.take_succ_cons, List.take_zero, List.drop_nil, List.take_nil, Nat.reduceLeDiff, Nat.lt_irrefl, Nat.zero_add, Nat.add_zero, Nat.mul_one, Nat.one_mul, Nat.add_assoc, Option.some.injEq, eq_self,  hi4, t0, hlt1, hlt', hge, hidx, f1, f2, e1, hs, hlen, y1, y2, y3]
        exact next
      | false =>
        rw [hsm, Bool.not_false, Bool.true_or] at next
        simp (maxSteps := 1000000) (disch := omega) only [acs_nil, acs_blk, acs_skip, acs_reg, acs_dreg, acs_freg, acs_nam0, acs_nam, nones, acs_seq, acs_cond, acs_block, acs_exit, acs_ret, acs_kl, acs_loop, leave_nil, leave_code, leave_lp, leave_blk, aopsK_nil, aopsK_cons, aopsK_guard, bindR_val, bindR_need, bindR_br, bindR_call, bindR_ycall, acs_rfun, rfunG_fn, bindR_bad, drawK_nil, drawK_cons, drawK_ext, drawK_pur, drawK_guard, callPv_fn, drawK_purv, bindD_val, bindD_need, bindD_br, bindD_call, bindD_ycall, bindD_bad, bindX_val, bindX_need, bindX_br, bindX_call, guardD_bool, guardD_tup, grows, grows0, List.append_cancel_left_eq, List.cons.injEq, exists_eq', exists_eq, condK_bool, guardK_bool, guardK_tup, sor, r0, r1, r2, r3, rC, rB, rI, rP, rA, rT, rS, rF, rSl, rO, rbin, rcut, run1, Env.evals, Env.eval, Env.get, Env.put, Env.ins, Env.del, Env.dels, argEnv, AV.full, AV.cells, AV.cell, eqCells, Nat.reduceEqDiff, Nat.reduceLT, Nat.reduceAdd, Nat.reduceSub, Nat.reduceMul, Nat.reduceBEq, Int.reduceLT, Int.reduceAdd, Int.reduceMul, Int.reduceSub, Int.reduceToNat, Int.reduceLE, Int.reduceEq, ↓reduceIte, decide_true, decide_false, decide_eq_true_eq, decide_eq_false_iff_not, Bool.not_eq_true', Bool.not_eq_false', true_and, and_true, false_implies, true_implies, forall_const, Bool.not_true, Bool.not_false, Bool.false_eq_true, Bool.true_eq_false, List.getElem?_cons_zero, List.getElem?_cons_succ, List.length_cons, List.length_nil, List.length_append, List.all_cons, List.all_nil, Bool.and_true, Bool.and_self, implies_true, reduceCtorEq, List.append_assoc, List.cons_append, List.nil_append, List.append_nil, Int.reduceNeg, i64_in, imin_eq, imax_eq, cast3, cast0, cast1, cast2, Option.map_none, ite_self, and_false, false_and, Option.isSome_some, or_true, true_or, Int.sub_zero, Int.mul_one, Nat.sub_zero, Nat.zero_le, Int.cast_ofNat_Int, Int.natCast_nonneg, Int.toNat_natCast, ne_eq, not_false_eq_true, not_true_eq_false, strC, blkAt_app, blkAt_app0, blkAt_zero, blkAt_succ, List.set_cons_zero, List.set_cons_succ, set_app, set_app0, Option.map_some, Option.bind_some, rd, lay, rdS, szOk, rapp, ownAt, lenAt, Option.any_some, Option.getD_some, List.drop_zero, List.drop_succ_cons, List.take_succ_cons, List.take_zero, List.drop_nil, List.take_nil, Nat.reduceLeDiff, Nat.lt_irrefl, Nat.zero_add, Nat.add_zero, Nat.mul_one, Nat.one_mul, Nat.add_assoc, Option.some.injEq, eq_self,  hi4, t0, hlt1, hlt', hge, hidx, f1, f2, e1, hs, hlen, y1, y2, y3]
        exact next
    · have hlt' : ¬ (t : Int) < (L : Int) - (i : Int) := by omega
      have next := ih (i + 1) S P X (by omega) ⟨hinv.by8, hinv.len, hinv.mor, Nat.lt_of_lt_of_le hinv.lt (Nat.pow_le_pow_right (by omega) (by omega)), hinv.same⟩ d
      unfold e6 at *
      simp only [List.append_assoc, List.cons_append, List.nil_append, List.length_append, List.length_cons, List.length_nil, Nat.reduceAdd, Nat.add_assoc, Nat.zero_add, Nat.add_zero, Int.natCast_add, Int.cast_ofNat_Int, ] at next
      rw [acs_lp]; conv in Fr.code c6l0 => unfold c6l0
      simp (maxSteps := 1000000) (disch := omega) only [acs_nil, acs_blk, acs_skip, acs_reg, acs_dreg, acs_freg, acs_nam0, acs_nam, nones, acs_seq, acs_cond, acs_block, acs_exit, acs_ret, acs_kl, acs_loop, leave_nil, leave_code, leave_lp, leave_blk, aopsK_nil, aopsK_cons, aopsK_guard, bindR_val, bindR_need, bindR_br, bindR_call, bindR_ycall, acs_rfun, rfunG_fn, bindR_bad, drawK_nil, drawK_cons, drawK_ext, drawK_pur, drawK_guard, callPv_fn, drawK_purv, bindD_val, bindD_need, bindD_br, bindD_call, bindD_ycall, bindD_bad, bindX_val, bindX_need, bindX_br, bindX_call, guardD_bool, guardD_tup, grows, grows0, List.append_cancel_left_eq, List.cons.injEq, exists_eq', exists_eq, condK_bool, guardK_bool, guardK_tup, sor, r0, r1, r2, r3, rC, rB, rI, rP, rA, rT, rS, rF, rSl, rO, rbin, rcut, run1, Env.evals, Env.eval, Env.get, Env.put, Env.ins, Env.del, Env.dels, argEnv, AV.full, AV.cells, AV.cell, eqCells, Nat.reduceEqDiff, Nat.reduceLT, Nat.reduceAdd, Nat.reduceSub, Nat.reduceMul, Nat.reduceBEq, Int.reduceLT, Int.reduceAdd, Int.reduceMul, Int.reduceSub, Int.reduceToNat, Int.reduceLE, Int.reduceEq, ↓reduceIte, decide_true, decide_false, decide_eq_true_eq, decide_eq_false_iff_not, Bool.not_eq_true', Bool.not_eq_false', true_and, and_true, false_implies, true_implies, forall_const, Bool.not_true, Bool.not_false, Bool.false_eq_true, Bool.true_eq_false, List.getElem?_cons_zero, List.getElem?_cons_succ, List.length_cons, List.length_nil, List.length_append, List.all_cons, List.all_nil, Bool.and_true, Bool.and_self, implies_true, reduceCtorEq, List.append_assoc, List.cons_append, List.nil_append, List.append_nil, Int.reduceNeg, i64_in, imin_eq, imax_eq, cast3, cast0, cast1, cast2, Option.map_none, ite_self, and_false, false_and, Option.isSome_some, or_true, true_or, Int.sub_zero, Int.mul_one, Nat.sub_zero, Nat.zero_le, Int.cast_ofNat_Int, Int.natCast_nonneg, Int.toNat_natCast, ne_eq, not_false_eq_true, not_true_eq_false, strC, blkAt_app, blkAt_app0, blkAt_zero, blkAt_succ, List.set_cons_zero, List.set_cons_succ, set_app, set_app0, Option.map_some, Option.bind_some, rd, setCells, lay, rdS, szOk, rapp, ownAt, lenAt, Option.any_some, Option.getD_some, List.drop_zero, List.drop_succ_cons, List.take_succ_cons, List.take_zero, List.drop_nil, List.take_nil, Nat.reduceLeDiff, Nat.lt_irrefl, Nat.zero_add, Nat.add_zero, Nat.mul_one, Nat.one_mul, Nat.add_assoc, Option.some.injEq, eq_self,  hi4, t0, hlt']
      exact next
end Go.Proofs.Ytjibphejlmiocaa.Ah
