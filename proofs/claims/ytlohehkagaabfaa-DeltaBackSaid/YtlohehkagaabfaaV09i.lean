/- V09i: a part of the proof: contracts of functions, or plain laws. Conditions: none. -/
import Derived.Test.YtlohehkagaabfaaV09h
namespace Go.Proofs.Ytlohehkagaabfaa.Ah
open Go Go.WideShapes
attribute [local irreducible] acs aopsK drawK leave condK bindR bindD bindX guardK guardD callB callD callX callP callPv rfunG rfunK yldB yldD
attribute [local go_sem] acs_nil acs_blk acs_skip acs_reg acs_dreg acs_freg acs_nam0 acs_nam nones acs_seq acs_cond acs_block acs_exit acs_ret acs_kl acs_loop leave_nil leave_code leave_lp leave_blk aopsK_nil aopsK_cons aopsK_guard bindR_val bindR_need bindR_br bindR_call bindR_ycall acs_rfun rfunG_fn bindR_bad drawK_nil drawK_cons drawK_ext drawK_pur drawK_guard callPv_fn drawK_purv bindD_val bindD_need bindD_br bindD_call bindD_ycall bindD_bad bindX_val bindX_need bindX_br bindX_call guardD_bool guardD_tup grows grows0 List.append_cancel_left_eq List.cons.injEq exists_eq' exists_eq condK_bool guardK_bool guardK_tup sor r0 r1 r2 r3 rC rB rI rP rA rT rS rF rSl rO rbin rcut run1 Env.evals Env.eval Env.get Env.put Env.ins Env.del Env.dels argEnv AV.full AV.cells AV.cell eqCells decide_true decide_false decide_eq_true_eq decide_eq_false_iff_not Bool.not_eq_true' Bool.not_eq_false' true_and and_true false_implies true_implies forall_const Bool.not_true Bool.not_false Bool.false_eq_true Bool.true_eq_false List.getElem?_cons_zero List.getElem?_cons_succ List.length_cons List.length_nil List.length_append List.all_cons List.all_nil Bool.and_true Bool.and_self implies_true List.append_assoc List.cons_append List.nil_append List.append_nil i64_in imin_eq imax_eq cast3 cast0 cast1 cast2 Option.map_none ite_self and_false false_and Option.isSome_some or_true true_or Int.sub_zero Int.mul_one Nat.sub_zero Nat.zero_le Int.cast_ofNat_Int Int.natCast_nonneg Int.toNat_natCast ne_eq not_false_eq_true not_true_eq_false strC blkAt_app blkAt_app0 blkAt_zero blkAt_succ List.set_cons_zero List.set_cons_succ set_app set_app0 Option.map_some Option.bind_some rd setCells lay rdS szOk rapp ownAt lenAt Option.any_some Option.getD_some List.drop_zero List.drop_succ_cons List.take_succ_cons List.take_zero List.drop_nil List.take_nil Nat.lt_irrefl Nat.zero_add Nat.add_zero Nat.mul_one Nat.one_mul Nat.add_assoc Option.some.injEq eq_self
set_option maxHeartbeats 4000000
set_option linter.unusedSimpArgs false
set_option linter.unusedVariables false
/-! Contracts: the document's bit, rows that are the same. -/
def c21t : SC := tl2 (tl2 (tl2 c21))
theorem f21_loop (x : Int) (i : Nat) (H : Heap) (hi : i ≤ 64) : ∀ (m k : Nat), k + m = i →
    acs Try.prog [.lp c21l0, .blk 0, .code c21t] [(1, .int .i64 (i : Nat)), (5, .int .u64 ((u64 x / 2 ^ k : Nat) : Int)), (6, .int .i64 (k : Nat))] H (Fin H rs21 (.bool (wb x i)) H) := by
  have hu := u64_lt x
  intro m
  induction m with
  | zero =>
    intro k hk
    obtain rfl : k = i := by omega
    unfold wb
    have hv : u64 x / 2 ^ k < 18446744073709551616 := Nat.lt_of_le_of_lt (Nat.div_le_self _ _) hu
    generalize u64 x / 2 ^ k = v at *
    have hm : (v : Int).tmod 2 = ((v % 2 : Nat) : Int) := by rw [Int.tmod_eq_emod_of_nonneg (by omega)]; omega
    have hd : decide (((v % 2 : Nat) : Int) = 1) = decide (v % 2 = 1) := decide_eq_decide.2 (by omega)
    have e : AV.bool (decide (((v % 2 : Nat) : Int) = 1)) = AV.bool (decide (v % 2 = 1)) := by rw [hd]
    have hlt : ¬ (k : Int) < (k : Int) := by omega
    rw [acs_lp]; conv in Fr.code c21l0 => unfold c21l0
    simp (maxSteps := 1000000) (disch := omega) only [go_sem, Nat.reduceEqDiff, Nat.reduceLT, Nat.reduceAdd, Nat.reduceSub, Nat.reduceMul, Nat.reduceBEq, Int.reduceLT, Int.reduceAdd, Int.reduceMul, Int.reduceSub, Int.reduceToNat, Int.reduceLE, Int.reduceEq, ↓reduceIte, reduceCtorEq, Int.reduceNeg, Nat.reduceLeDiff,  hlt]
    unfold c21t c21 tl2
    simp (maxSteps := 1000000) (disch := omega) only [go_sem, Nat.reduceEqDiff, Nat.reduceLT, Nat.reduceAdd, Nat.reduceSub, Nat.reduceMul, Nat.reduceBEq, Int.reduceLT, Int.reduceAdd, Int.reduceMul, Int.reduceSub, Int.reduceToNat, Int.reduceLE, Int.reduceEq, ↓reduceIte, reduceCtorEq, Int.reduceNeg, Nat.reduceLeDiff,  hm, u64_in, e]
    exact fin_same (by simp) _ (by first | exact (List.append_nil _).symm | rfl) (by simp (maxSteps := 1000000) (disch := omega) only [resVal, resAll, resOne, rs21, Env.get, go_sem, Nat.reduceEqDiff, Nat.reduceLT, Nat.reduceAdd, Nat.reduceSub, Nat.reduceMul, Nat.reduceBEq, Int.reduceLT, Int.reduceAdd, Int.reduceMul, Int.reduceSub, Int.reduceToNat, Int.reduceLE, Int.reduceEq, ↓reduceIte, reduceCtorEq, Int.reduceNeg, Nat.reduceLeDiff]) (by simp only [AV.und, AV.unds, and_self])
  | succ m ih =>
    intro k hk
    have next := ih (k + 1) (by omega)
    have hlt : (k : Int) < (i : Int) := by omega
    have hv : u64 x / 2 ^ k < 18446744073709551616 := Nat.lt_of_le_of_lt (Nat.div_le_self _ _) hu
    rw [show u64 x / 2 ^ (k + 1) = u64 x / 2 ^ k / 2 by rw [Nat.div_div_eq_div_mul, Nat.pow_succ]] at next
    generalize u64 x / 2 ^ k = v at *
    have hm : (v : Int).tdiv 2 = ((v / 2 : Nat) : Int) := by rw [Int.tdiv_eq_ediv_of_nonneg (by omega)]; omega
    clear ih
    simp only [List.append_assoc, List.cons_append, List.nil_append, List.length_append, List.length_cons, List.length_nil, Nat.reduceAdd, Nat.add_assoc, Nat.zero_add, Nat.add_zero, Int.natCast_add, Int.cast_ofNat_Int, ] at next
    rw [acs_lp]; conv in Fr.code c21l0 => unfold c21l0
    simp (maxSteps := 1000000) (disch := omega) only [go_sem, Nat.reduceEqDiff, Nat.reduceLT, Nat.reduceAdd, Nat.reduceSub, Nat.reduceMul, Nat.reduceBEq, Int.reduceLT, Int.reduceAdd, Int.reduceMul, Int.reduceSub, Int.reduceToNat, Int.reduceLE, Int.reduceEq, ↓reduceIte, reduceCtorEq, Int.reduceNeg, Nat.reduceLeDiff,  hlt, hm, u64_in]
    exact next
theorem f21 (x : Int) (i : Nat) (H : Heap) (hi : i ≤ 64) : ACall Try.prog 21 [.int .i64 x, .int .i64 (i : Nat)] H (.bool (wb x i)) H := by
  refine acall21 (by simp) (acs_start ?_)
  have go := f21_loop x i H hi i 0 (by omega)
  rw [Nat.pow_zero, Nat.div_one, ← u64_cast] at go
  unfold c21t c21 tl2 at go
  unfold c21
  simp only [List.append_assoc, List.cons_append, List.nil_append, List.length_append, List.length_cons, List.length_nil, Nat.reduceAdd, Nat.add_assoc, Nat.zero_add, Nat.add_zero, Int.natCast_add, Int.cast_ofNat_Int, ] at go
  simp (maxSteps := 1000000) (disch := omega) only [go_sem, Nat.reduceEqDiff, Nat.reduceLT, Nat.reduceAdd, Nat.reduceSub, Nat.reduceMul, Nat.reduceBEq, Int.reduceLT, Int.reduceAdd, Int.reduceMul, Int.reduceSub, Int.reduceToNat, Int.reduceLE, Int.reduceEq, ↓reduceIte, reduceCtorEq, Int.reduceNeg, Nat.reduceLeDiff]
  exact go
def e14 (p q off off2 n m : Nat) (c1 c2 : Option Nat) (j : Nat) : Env := [(0, .sl p off n 1 c1), (1, .sl q off2 m 1 c2), (5, .int .i64 (j : Nat))]
def c14t : SC := tl2 (tl2 (tl2 c14))
theorem f14_loop {xs ys : List Int} {p q off off2 : Nat} {c1 c2 : Option Nat} {H : Heap} (hx : Sl i64 H p off xs) (hy : Sl i64 H q off2 ys) (he : xs.length = ys.length) (hl : xs.length ≤ 4611686018427387904) : ∀ (r s : List Int) (j : Nat), xs.drop j = r → ys.drop j = s → j + r.length = xs.length → r.length = s.length →
    acs Try.prog [.lp c14l0, .blk 0, .code c14t] (e14 p q off off2 xs.length xs.length c1 c2 j) H (Fin H rs14 (.bool (decide (r = s))) H) := by
  obtain ⟨cs, o, hp, hle, hcs⟩ := hx
  obtain ⟨ds, o2, hq, hle2, hds⟩ := hy
  intro r
  induction r with
  | nil =>
    intro s j _ _ hj hr
    obtain rfl : s = [] := List.eq_nil_of_length_eq_zero hr.symm
    have hlt : ¬ (j : Int) < (xs.length : Int) := by simp at hj; omega
    unfold e14
    rw [acs_lp]; conv in Fr.code c14l0 => unfold c14l0
    simp (maxSteps := 1000000) (disch := omega) only [go_sem, Nat.reduceEqDiff, Nat.reduceLT, Nat.reduceAdd, Nat.reduceSub, Nat.reduceMul, Nat.reduceBEq, Int.reduceLT, Int.reduceAdd, Int.reduceMul, Int.reduceSub, Int.reduceToNat, Int.reduceLE, Int.reduceEq, ↓reduceIte, reduceCtorEq, Int.reduceNeg, Nat.reduceLeDiff,  hlt]
    unfold c14t c14 tl2
    simp (maxSteps := 1000000) (disch := omega) only [go_sem, Nat.reduceEqDiff, Nat.reduceLT, Nat.reduceAdd, Nat.reduceSub, Nat.reduceMul, Nat.reduceBEq, Int.reduceLT, Int.reduceAdd, Int.reduceMul, Int.reduceSub, Int.reduceToNat, Int.reduceLE, Int.reduceEq, ↓reduceIte, reduceCtorEq, Int.reduceNeg, Nat.reduceLeDiff]
    exact fin_same (by simp) _ (by first | exact (List.append_nil _).symm | rfl) (by simp (maxSteps := 1000000) (disch := omega) only [resVal, resAll, resOne, rs14, Env.get, go_sem, Nat.reduceEqDiff, Nat.reduceLT, Nat.reduceAdd, Nat.reduceSub, Nat.reduceMul, Nat.reduceBEq, Int.reduceLT, Int.reduceAdd, Int.reduceMul, Int.reduceSub, Int.reduceToNat, Int.reduceLE, Int.reduceEq, ↓reduceIte, reduceCtorEq, Int.reduceNeg, Nat.reduceLeDiff]) (by simp only [AV.und, AV.unds, and_self])
  | cons x r ih =>
    intro s j hd hd' hj hr
    cases s with
    | nil => simp at hr
    | cons y s =>
    have hlt : (j : Int) < (xs.length : Int) := by simp at hj; omega
    have hlt2 : (j : Int) < (ys.length : Int) := by simp at hj; omega
    have hx0 : xs[j]? = some x := by have := congrArg (·[0]?) hd; simpa using this
    have hy0 : ys[j]? = some y := by have := congrArg (·[0]?) hd'; simpa using this
    have fx : cs[off + j]? = some (.int .i64 x) := sl_get hcs hx0
    have fy : ds[off2 + j]? = some (.int .i64 y) := sl_get hds hy0
    have hd2 : xs.drop (j + 1) = r := by rw [← List.drop_drop, hd]; rfl
    have hd2' : ys.drop (j + 1) = s := by rw [← List.drop_drop, hd']; rfl
    have hjb : (j : Int) ≤ 4611686018427387904 := by omega
    by_cases hxy : x = y
    · subst hxy
      have next := ih s (j + 1) hd2 hd2' (by simp at hj; omega) (by simpa using hr)
      have e0 : decide (x :: r = x :: s) = decide (r = s) := decide_eq_decide.2 (by simp)
      rw [e0]
      unfold e14 at *
      simp only [List.append_assoc, List.cons_append, List.nil_append, List.length_append, List.length_cons, List.length_nil, Nat.reduceAdd, Nat.add_assoc, Nat.zero_add, Nat.add_zero, Int.natCast_add, Int.cast_ofNat_Int, ] at next
      clear ih hd hd' hd2 hd2' hx0 hy0 hj hr
      rw [acs_lp]; conv in Fr.code c14l0 => unfold c14l0
      simp (maxSteps := 1000000) (disch := omega) only [go_sem, Nat.reduceEqDiff, Nat.reduceLT, Nat.reduceAdd, Nat.reduceSub, Nat.reduceMul, Nat.reduceBEq, Int.reduceLT, Int.reduceAdd, Int.reduceMul, Int.reduceSub, Int.reduceToNat, Int.reduceLE, Int.reduceEq, ↓reduceIte, reduceCtorEq, Int.reduceNeg, Nat.reduceLeDiff,  hp, hq, hlt, hlt2, fx, fy]
      exact next
    · have hne : ¬ x = y := hxy
      have e0 : decide (x :: r = y :: s) = false := decide_eq_false (by simp [hxy])
      rw [e0]
      unfold e14 at *
      clear ih hd hd' hd2 hd2' hx0 hy0 hj hr
      rw [acs_lp]; conv in Fr.code c14l0 => unfold c14l0
      simp (maxSteps := 1000000) (disch := omega) only [go_sem, Nat.reduceEqDiff, Nat.reduceLT, Nat.reduceAdd, Nat.reduceSub, Nat.reduceMul, Nat.reduceBEq, Int.reduceLT, Int.reduceAdd, Int.reduceMul, Int.reduceSub, Int.reduceToNat, Int.reduceLE, Int.reduceEq, ↓reduceIte, reduceCtorEq, Int.reduceNeg, Nat.reduceLeDiff,  hp, hq, hlt, hlt2, fx, fy, hne]
      exact fin_same (by simp) _ (by first | exact (List.append_nil _).symm | rfl) (by simp (maxSteps := 1000000) (disch := omega) only [resVal, resAll, resOne, rs14, Env.get, go_sem, Nat.reduceEqDiff, Nat.reduceLT, Nat.reduceAdd, Nat.reduceSub, Nat.reduceMul, Nat.reduceBEq, Int.reduceLT, Int.reduceAdd, Int.reduceMul, Int.reduceSub, Int.reduceToNat, Int.reduceLE, Int.reduceEq, ↓reduceIte, reduceCtorEq, Int.reduceNeg, Nat.reduceLeDiff]) (by simp only [AV.und, AV.unds, and_self])
theorem f14 {xs ys : List Int} {p q off off2 : Nat} {c1 c2 : Option Nat} {H : Heap} (hx : Sl i64 H p off xs) (hy : Sl i64 H q off2 ys) (hl : xs.length ≤ 4611686018427387904) :
    ACall Try.prog 14 [.sl p off xs.length 1 c1, .sl q off2 ys.length 1 c2] H (.bool (decide (xs = ys))) H := by
  refine acall14 (by simp) (acs_start ?_)
  unfold c14
  by_cases he : xs.length = ys.length
  · have go := f14_loop (c1 := c1) (c2 := c2) hx hy he hl xs ys 0 rfl rfl (by omega) he
    unfold e14 c14t c14 tl2 at go
    rw [← he]
    simp (maxSteps := 1000000) (disch := omega) only [go_sem, Nat.reduceEqDiff, Nat.reduceLT, Nat.reduceAdd, Nat.reduceSub, Nat.reduceMul, Nat.reduceBEq, Int.reduceLT, Int.reduceAdd, Int.reduceMul, Int.reduceSub, Int.reduceToNat, Int.reduceLE, Int.reduceEq, ↓reduceIte, reduceCtorEq, Int.reduceNeg, Nat.reduceLeDiff]
    exact go
  · have hne : ¬ (xs.length : Int) = (ys.length : Int) := by omega
    have e0 : decide (xs = ys) = false := decide_eq_false (fun e => he (by rw [e]))
    rw [e0]
    simp (maxSteps := 1000000) (disch := omega) only [go_sem, Nat.reduceEqDiff, Nat.reduceLT, Nat.reduceAdd, Nat.reduceSub, Nat.reduceMul, Nat.reduceBEq, Int.reduceLT, Int.reduceAdd, Int.reduceMul, Int.reduceSub, Int.reduceToNat, Int.reduceLE, Int.reduceEq, ↓reduceIte, reduceCtorEq, Int.reduceNeg, Nat.reduceLeDiff,  hne]
    exact fin_same (by simp) _ (by first | exact (List.append_nil _).symm | rfl) (by simp (maxSteps := 1000000) (disch := omega) only [resVal, resAll, resOne, rs14, Env.get, go_sem, Nat.reduceEqDiff, Nat.reduceLT, Nat.reduceAdd, Nat.reduceSub, Nat.reduceMul, Nat.reduceBEq, Int.reduceLT, Int.reduceAdd, Int.reduceMul, Int.reduceSub, Int.reduceToNat, Int.reduceLE, Int.reduceEq, ↓reduceIte, reduceCtorEq, Int.reduceNeg, Nat.reduceLeDiff]) (by simp only [AV.und, AV.unds, and_self])
end Go.Proofs.Ytlohehkagaabfaa.Ah
