/- V10j: a part of the proof: contracts of functions, or plain laws. Conditions: none. -/
import Derived.Test.YtjibcbfdfambeaaV10i
namespace Go.Proofs.Ytjibcbfdfambeaa.Ah
open Go Go.WideShapes
attribute [local irreducible] acs aopsK drawK leave condK bindR bindD bindX guardK guardD callB callD callX callP callPv
attribute [local go_sem] acs_nil acs_blk acs_skip acs_reg acs_dreg acs_freg acs_nam0 acs_nam nones acs_seq acs_cond acs_block acs_exit acs_ret acs_kl acs_loop leave_nil leave_code leave_lp leave_blk aopsK_nil aopsK_cons aopsK_guard bindR_val bindR_need bindR_br bindR_call bindR_bad drawK_nil drawK_cons drawK_ext drawK_pur drawK_guard callPv_fn drawK_purv bindD_val bindD_need bindD_br bindD_call bindD_bad bindX_val bindX_need bindX_br bindX_call guardD_bool guardD_tup grows grows0 List.append_cancel_left_eq List.cons.injEq exists_eq' exists_eq condK_bool guardK_bool guardK_tup sor r0 r1 r2 r3 rC rB rI rP rA rT rS rF rSl rO rbin rcut run1 Env.evals Env.eval Env.get Env.put Env.ins Env.del Env.dels argEnv AV.full AV.cells AV.cell eqCells decide_true decide_false decide_eq_true_eq decide_eq_false_iff_not Bool.not_eq_true' Bool.not_eq_false' true_and and_true false_implies true_implies forall_const Bool.not_true Bool.not_false Bool.false_eq_true Bool.true_eq_false List.getElem?_cons_zero List.getElem?_cons_succ List.length_cons List.length_nil List.length_append List.all_cons List.all_nil Bool.and_true Bool.and_self implies_true List.append_assoc List.cons_append List.nil_append List.append_nil i64_in imin_eq imax_eq cast3 cast0 cast1 cast2 Option.map_none ite_self and_false false_and Option.isSome_some or_true true_or Int.sub_zero Int.mul_one Nat.sub_zero Nat.zero_le Int.cast_ofNat_Int Int.natCast_nonneg Int.toNat_natCast ne_eq not_false_eq_true not_true_eq_false strC blkAt_app blkAt_app0 blkAt_zero blkAt_succ List.set_cons_zero List.set_cons_succ set_app set_app0 Option.map_some Option.bind_some rd setCells lay rdS szOk rapp ownAt lenAt Option.any_some Option.getD_some List.drop_zero List.drop_succ_cons List.take_succ_cons List.take_zero List.drop_nil List.take_nil Nat.lt_irrefl Nat.zero_add Nat.add_zero Nat.mul_one Nat.one_mul Nat.add_assoc Option.some.injEq eq_self
set_option maxHeartbeats 4000000
set_option linter.unusedSimpArgs false
set_option linter.unusedVariables false
/-! Contracts: rows of words that are the same; writing. -/
def e15 (p q off off2 n m : Nat) (c1 c2 : Option Nat) (j : Nat) : Env := [(0, .sl p off n 1 c1), (1, .sl q off2 m 1 c2), (5, .int .i64 (j : Nat))]
def c15t : SC := tl2 (tl2 (tl2 c15))
theorem f15_loop {xs ys : List Int} {p q off off2 : Nat} {c1 c2 : Option Nat} {H : Heap} (hx : Sl i64 H p off xs) (hy : Sl i64 H q off2 ys) (he : xs.length = ys.length) (hl : xs.length ≤ 4611686018427387904) : ∀ (r s : List Int) (j : Nat), xs.drop j = r → ys.drop j = s → j + r.length = xs.length → r.length = s.length →
    acs Try.prog [.lp c15l0, .blk 0, .code c15t] (e15 p q off off2 xs.length xs.length c1 c2 j) H (Fin H rs15 (.bool (decide (r = s))) H) := by
  obtain ⟨cs, o, hp, hle, hcs⟩ := hx
  obtain ⟨ds, o2, hq, hle2, hds⟩ := hy
  intro r
  induction r with
  | nil =>
    intro s j _ _ hj hr
    obtain rfl : s = [] := List.eq_nil_of_length_eq_zero hr.symm
    have hlt : ¬ (j : Int) < (xs.length : Int) := by simp at hj; omega
    unfold e15
    rw [acs_lp]; conv in Fr.code c15l0 => unfold c15l0
    simp (maxSteps := 1000000) (disch := omega) only [go_sem, Nat.reduceEqDiff, Nat.reduceLT, Nat.reduceAdd, Nat.reduceSub, Nat.reduceMul, Nat.reduceBEq, Int.reduceLT, Int.reduceAdd, Int.reduceMul, Int.reduceSub, Int.reduceToNat, Int.reduceLE, Int.reduceEq, ↓reduceIte, reduceCtorEq, Int.reduceNeg, Nat.reduceLeDiff,  hlt]
    unfold c15t c15 tl2
    simp (maxSteps := 1000000) (disch := omega) only [go_sem, Nat.reduceEqDiff, Nat.reduceLT, Nat.reduceAdd, Nat.reduceSub, Nat.reduceMul, Nat.reduceBEq, Int.reduceLT, Int.reduceAdd, Int.reduceMul, Int.reduceSub, Int.reduceToNat, Int.reduceLE, Int.reduceEq, ↓reduceIte, reduceCtorEq, Int.reduceNeg, Nat.reduceLeDiff]
    exact fin_same (by simp) _ (by first | exact (List.append_nil _).symm | rfl) (by simp (maxSteps := 1000000) (disch := omega) only [resVal, resAll, resOne, rs15, Env.get, go_sem, Nat.reduceEqDiff, Nat.reduceLT, Nat.reduceAdd, Nat.reduceSub, Nat.reduceMul, Nat.reduceBEq, Int.reduceLT, Int.reduceAdd, Int.reduceMul, Int.reduceSub, Int.reduceToNat, Int.reduceLE, Int.reduceEq, ↓reduceIte, reduceCtorEq, Int.reduceNeg, Nat.reduceLeDiff]) (by simp only [AV.und, AV.unds, and_self])
  | cons x r ih =>
    intro s j hd hd' hj hr
    cases s with
    | nil => simp at hr
    | cons y s =>
    have hlt : (j : Int) < (xs.length : Int) := by simp at hj; omega
    have hlt2 : (j : Int) < (ys.length : Int) := by simp at hj; omega
    have hx0 : xs[j]? = some x := by have := congrArg (·[0]?) hd; simpa using this
    have hy0 : ys[j]? = some y := by have := congrArg (·[0]?) hd'; simpa using this
    have fx : cs[off + j]? = some (.int .i64 x) := sl_get hcs hx0
    have fy : ds[off2 + j]? = some (.int .i64 y) := sl_get hds hy0
    have hd2 : xs.drop (j + 1) = r := by rw [← List.drop_drop, hd]; rfl
    have hd2' : ys.drop (j + 1) = s := by rw [← List.drop_drop, hd']; rfl
    have hjb : (j : Int) ≤ 4611686018427387904 := by omega
    by_cases hxy : x = y
    · subst hxy
      have next := ih s (j + 1) hd2 hd2' (by simp at hj; omega) (by simpa using hr)
      have e0 : decide (x :: r = x :: s) = decide (r = s) := decide_eq_decide.2 (by simp)
      rw [e0]
      unfold e15 at *
      simp only [List.append_assoc, List.cons_append, List.nil_append, List.length_append, List.length_cons, List.length_nil, Nat.reduceAdd, Nat.add_assoc, Nat.zero_add, Nat.add_zero, Int.natCast_add, Int.cast_ofNat_Int, ] at next
      clear ih hd hd' hd2 hd2' hx0 hy0 hj hr
      rw [acs_lp]; conv in Fr.code c15l0 => unfold c15l0
      simp (maxSteps := 1000000) (disch := omega) only [go_sem, Nat.reduceEqDiff, Nat.reduceLT, Nat.reduceAdd, Nat.reduceSub, Nat.reduceMul, Nat.reduceBEq, Int.reduceLT, Int.reduceAdd, Int.reduceMul, Int.reduceSub, Int.reduceToNat, Int.reduceLE, Int.reduceEq, ↓reduceIte, reduceCtorEq, Int.reduceNeg, Nat.reduceLeDiff,  hp, hq, hlt, hlt2, fx, fy]
      exact next
    · have hne : ¬ x = y := hxy
      have e0 : decide (x :: r = y :: s) = false := decide_eq_false (by simp [hxy])
      rw [e0]
      unfold e15 at *
      clear ih hd hd' hd2 hd2' hx0 hy0 hj hr
      rw [acs_lp]; conv in Fr.code c15l0 => unfold c15l0
      simp (maxSteps := 1000000) (disch := omega) only [go_sem, Nat.reduceEqDiff, Nat.reduceLT, Nat.reduceAdd, Nat.reduceSub, Nat.reduceMul, Nat.reduceBEq, Int.reduceLT, Int.reduceAdd, Int.reduceMul, Int.reduceSub, Int.reduceToNat, Int.reduceLE, Int.reduceEq, ↓reduceIte, reduceCtorEq, Int.reduceNeg, Nat.reduceLeDiff,  hp, hq, hlt, hlt2, fx, fy, hne]
      exact fin_same (by simp) _ (by first | exact (List.append_nil _).symm | rfl) (by simp (maxSteps := 1000000) (disch := omega) only [resVal, resAll, resOne, rs15, Env.get, go_sem, Nat.reduceEqDiff, Nat.reduceLT, Nat.reduceAdd, Nat.reduceSub, Nat.reduceMul, Nat.reduceBEq, Int.reduceLT, Int.reduceAdd, Int.reduceMul, Int.reduceSub, Int.reduceToNat, Int.reduceLE, Int.reduceEq, ↓reduceIte, reduceCtorEq, Int.reduceNeg, Nat.reduceLeDiff]) (by simp only [AV.und, AV.unds, and_self])
theorem f15 {xs ys : List Int} {p q off off2 : Nat} {c1 c2 : Option Nat} {H : Heap} (hx : Sl i64 H p off xs) (hy : Sl i64 H q off2 ys) (hl : xs.length ≤ 4611686018427387904) :
    ACall Try.prog 15 [.sl p off xs.length 1 c1, .sl q off2 ys.length 1 c2] H (.bool (decide (xs = ys))) H := by
  refine acall15 (by simp) (acs_start ?_)
  unfold c15
  by_cases he : xs.length = ys.length
  · have go := f15_loop (c1 := c1) (c2 := c2) hx hy he hl xs ys 0 rfl rfl (by omega) he
    unfold e15 c15t c15 tl2 at go
    rw [← he]
    simp (maxSteps := 1000000) (disch := omega) only [go_sem, Nat.reduceEqDiff, Nat.reduceLT, Nat.reduceAdd, Nat.reduceSub, Nat.reduceMul, Nat.reduceBEq, Int.reduceLT, Int.reduceAdd, Int.reduceMul, Int.reduceSub, Int.reduceToNat, Int.reduceLE, Int.reduceEq, ↓reduceIte, reduceCtorEq, Int.reduceNeg, Nat.reduceLeDiff]
    exact go
  · have hne : ¬ (xs.length : Int) = (ys.length : Int) := by omega
    have e0 : decide (xs = ys) = false := decide_eq_false (fun e => he (by rw [e]))
    rw [e0]
    simp (maxSteps := 1000000) (disch := omega) only [go_sem, Nat.reduceEqDiff, Nat.reduceLT, Nat.reduceAdd, Nat.reduceSub, Nat.reduceMul, Nat.reduceBEq, Int.reduceLT, Int.reduceAdd, Int.reduceMul, Int.reduceSub, Int.reduceToNat, Int.reduceLE, Int.reduceEq, ↓reduceIte, reduceCtorEq, Int.reduceNeg, Nat.reduceLeDiff,  hne]
    exact fin_same (by simp) _ (by first | exact (List.append_nil _).symm | rfl) (by simp (maxSteps := 1000000) (disch := omega) only [resVal, resAll, resOne, rs15, Env.get, go_sem, Nat.reduceEqDiff, Nat.reduceLT, Nat.reduceAdd, Nat.reduceSub, Nat.reduceMul, Nat.reduceBEq, Int.reduceLT, Int.reduceAdd, Int.reduceMul, Int.reduceSub, Int.reduceToNat, Int.reduceLE, Int.reduceEq, ↓reduceIte, reduceCtorEq, Int.reduceNeg, Nat.reduceLeDiff]) (by simp only [AV.und, AV.unds, and_self])
theorem f15_nil (H : Heap) : ACall Try.prog 15 [.nils, .nils] H (.bool true) H := by
  refine acall15 (by simp) (acs_start ?_)
  unfold c15
  simp (maxSteps := 1000000) (disch := omega) only [go_sem, Nat.reduceEqDiff, Nat.reduceLT, Nat.reduceAdd, Nat.reduceSub, Nat.reduceMul, Nat.reduceBEq, Int.reduceLT, Int.reduceAdd, Int.reduceMul, Int.reduceSub, Int.reduceToNat, Int.reduceLE, Int.reduceEq, ↓reduceIte, reduceCtorEq, Int.reduceNeg, Nat.reduceLeDiff]
  rw [acs_lp]; conv in Fr.code c15l0 => unfold c15l0
  simp (maxSteps := 1000000) (disch := omega) only [go_sem, Nat.reduceEqDiff, Nat.reduceLT, Nat.reduceAdd, Nat.reduceSub, Nat.reduceMul, Nat.reduceBEq, Int.reduceLT, Int.reduceAdd, Int.reduceMul, Int.reduceSub, Int.reduceToNat, Int.reduceLE, Int.reduceEq, ↓reduceIte, reduceCtorEq, Int.reduceNeg, Nat.reduceLeDiff]
  exact fin_same (by simp) _ (by first | exact (List.append_nil _).symm | rfl) (by simp (maxSteps := 1000000) (disch := omega) only [resVal, resAll, resOne, rs15, Env.get, go_sem, Nat.reduceEqDiff, Nat.reduceLT, Nat.reduceAdd, Nat.reduceSub, Nat.reduceMul, Nat.reduceBEq, Int.reduceLT, Int.reduceAdd, Int.reduceMul, Int.reduceSub, Int.reduceToNat, Int.reduceLE, Int.reduceEq, ↓reduceIte, reduceCtorEq, Int.reduceNeg, Nat.reduceLeDiff]) (by simp only [AV.und, AV.unds, and_self])
theorem f11 {n m k p o q o2 r o3 : Nat} {a b c : Option Nat} {c0 c1 : Int} {H : Heap} (h1 : n ≤ 281474976710656) (h2 : m ≤ 281474976710656) (h3 : k ≤ 281474976710656) :
    ACall Try.prog 11 [.agg (nvc p o n a c0 q o2 m b c1), .sl r o3 k 1 c] H (.bool (decide (n + m + k ≤ 900))) H := by
  refine acall11 (by simp) (acs_start ?_)
  have e : decide ((n : Int) + (m : Int) + (k : Int) ≤ 900) = decide (n + m + k ≤ 900) := decide_eq_decide.2 (by omega)
  unfold c11 nvc
  simp (maxSteps := 1000000) (disch := omega) only [go_sem, Nat.reduceEqDiff, Nat.reduceLT, Nat.reduceAdd, Nat.reduceSub, Nat.reduceMul, Nat.reduceBEq, Int.reduceLT, Int.reduceAdd, Int.reduceMul, Int.reduceSub, Int.reduceToNat, Int.reduceLE, Int.reduceEq, ↓reduceIte, reduceCtorEq, Int.reduceNeg, Nat.reduceLeDiff,  e]
  exact fin_same (by simp) _ (by first | exact (List.append_nil _).symm | rfl) (by simp (maxSteps := 1000000) (disch := omega) only [resVal, resAll, resOne, rs11, Env.get, go_sem, Nat.reduceEqDiff, Nat.reduceLT, Nat.reduceAdd, Nat.reduceSub, Nat.reduceMul, Nat.reduceBEq, Int.reduceLT, Int.reduceAdd, Int.reduceMul, Int.reduceSub, Int.reduceToNat, Int.reduceLE, Int.reduceEq, ↓reduceIte, reduceCtorEq, Int.reduceNeg, Nat.reduceLeDiff]) (by simp only [AV.und, AV.unds, and_self])
theorem f14_same {ws vs : List Int} {p0 o0 p1 o1 : Nat} {k0 k1 : Option Nat} {c0 c1 : Int} {H : Heap} (h0 : Sl i64 H p0 o0 ws) (h1 : Sl i64 H p1 o1 vs) (l0 : ws.length ≤ 1000) (l1 : vs.length ≤ 1000) :
    ACall Try.prog 14 [.agg (nvc p0 o0 ws.length k0 c0 p1 o1 vs.length k1 c1), .agg (nvc p0 o0 ws.length k0 c0 p1 o1 vs.length k1 c1)] H (.bool true) H := by
  refine acall14 (by simp) (acs_start ?_)
  have g0 := fun G => f15 (c1 := k0) (c2 := k0) (h0.app G) (h0.app G) (by omega)
  have g1 := fun G => f15 (c1 := k1) (c2 := k1) (h1.app G) (h1.app G) (by omega)
  simp only [decide_true] at g0 g1
  unfold nvc
  unfold c14
  simp (maxSteps := 1000000) (disch := omega) only [go_sem, Nat.reduceEqDiff, Nat.reduceLT, Nat.reduceAdd, Nat.reduceSub, Nat.reduceMul, Nat.reduceBEq, Int.reduceLT, Int.reduceAdd, Int.reduceMul, Int.reduceSub, Int.reduceToNat, Int.reduceLE, Int.reduceEq, ↓reduceIte, reduceCtorEq, Int.reduceNeg, Nat.reduceLeDiff]
  rw [acs_lp]; conv in Fr.code c14l0 => unfold c14l0
  simp (maxSteps := 1000000) (disch := omega) only [go_sem, Nat.reduceEqDiff, Nat.reduceLT, Nat.reduceAdd, Nat.reduceSub, Nat.reduceMul, Nat.reduceBEq, Int.reduceLT, Int.reduceAdd, Int.reduceMul, Int.reduceSub, Int.reduceToNat, Int.reduceLE, Int.reduceEq, ↓reduceIte, reduceCtorEq, Int.reduceNeg, Nat.reduceLeDiff]
  first | refine callB_intro (g0 _) ?_ | refine callD_intro (g0 _) ?_ | refine callP_intro (fun _ => (g0 _)) ?_ | refine callX_pure (g0 _) ?_
  simp (maxSteps := 1000000) (disch := omega) only [go_sem, Nat.reduceEqDiff, Nat.reduceLT, Nat.reduceAdd, Nat.reduceSub, Nat.reduceMul, Nat.reduceBEq, Int.reduceLT, Int.reduceAdd, Int.reduceMul, Int.reduceSub, Int.reduceToNat, Int.reduceLE, Int.reduceEq, ↓reduceIte, reduceCtorEq, Int.reduceNeg, Nat.reduceLeDiff]
  rw [acs_lp]; conv in Fr.code c14l0 => unfold c14l0
  simp (maxSteps := 1000000) (disch := omega) only [go_sem, Nat.reduceEqDiff, Nat.reduceLT, Nat.reduceAdd, Nat.reduceSub, Nat.reduceMul, Nat.reduceBEq, Int.reduceLT, Int.reduceAdd, Int.reduceMul, Int.reduceSub, Int.reduceToNat, Int.reduceLE, Int.reduceEq, ↓reduceIte, reduceCtorEq, Int.reduceNeg, Nat.reduceLeDiff]
  first | refine callB_intro (g1 _) ?_ | refine callD_intro (g1 _) ?_ | refine callP_intro (fun _ => (g1 _)) ?_ | refine callX_pure (g1 _) ?_
  simp (maxSteps := 1000000) (disch := omega) only [go_sem, Nat.reduceEqDiff, Nat.reduceLT, Nat.reduceAdd, Nat.reduceSub, Nat.reduceMul, Nat.reduceBEq, Int.reduceLT, Int.reduceAdd, Int.reduceMul, Int.reduceSub, Int.reduceToNat, Int.reduceLE, Int.reduceEq, ↓reduceIte, reduceCtorEq, Int.reduceNeg, Nat.reduceLeDiff]
  rw [acs_lp]; conv in Fr.code c14l0 => unfold c14l0
  simp (maxSteps := 1000000) (disch := omega) only [go_sem, Nat.reduceEqDiff, Nat.reduceLT, Nat.reduceAdd, Nat.reduceSub, Nat.reduceMul, Nat.reduceBEq, Int.reduceLT, Int.reduceAdd, Int.reduceMul, Int.reduceSub, Int.reduceToNat, Int.reduceLE, Int.reduceEq, ↓reduceIte, reduceCtorEq, Int.reduceNeg, Nat.reduceLeDiff]
  exact fin_same (by simp) _ (by first | exact (List.append_nil _).symm | rfl) (by simp (maxSteps := 1000000) (disch := omega) only [resVal, resAll, resOne, rs14, Env.get, go_sem, Nat.reduceEqDiff, Nat.reduceLT, Nat.reduceAdd, Nat.reduceSub, Nat.reduceMul, Nat.reduceBEq, Int.reduceLT, Int.reduceAdd, Int.reduceMul, Int.reduceSub, Int.reduceToNat, Int.reduceLE, Int.reduceEq, ↓reduceIte, reduceCtorEq, Int.reduceNeg, Nat.reduceLeDiff]) (by simp only [AV.und, AV.unds, and_self])
theorem f13_full_n {ws vs us : List Int} {p0 o0 p1 o1 q oq : Nat} {k0 k1 kq : Option Nat} {c0 c1 : Int} {H : Heap} (h0 : Sl i64 H p0 o0 ws) (h1 : Sl i64 H p1 o1 vs) (hu : Sl i64 H q oq us) (l0 : ws.length ≤ 1000) (l1 : vs.length ≤ 1000) (lu : us.length ≤ 1000) (hw : nw ws c0 vs c1 = -1) (hb : us.length ≤ 600) :
    ACall Try.prog 13 [.agg (nvc p0 o0 ws.length k0 c0 p1 o1 vs.length k1 c1), .sl q oq us.length 1 kq] H (.tup [.agg (nvc H.length 0 (us.length + 1) none (com (1 :: us)) p1 o1 vs.length k1 c1), .int .i64 0]) (H ++ [some ⟨(1 :: us).map i64, true⟩]) := by
  refine acall13 (by simp) (acs_start ?_)
  have gS := fun H => @f17 us.length q oq kq H (by omega)
  have g := fun G => f16_full_n (k0 := k0) (k1 := k1) (kq := kq) (h0.app G) (h1.app G) (hu.app G) l0 l1 lu hw hb (Int.le_refl _)
  have hu0 : ∀ n, AV.unds n ((1 :: us).map i64) := fun n => i64_und _
  have hal : ((1 :: us).map i64).length = us.length + 1 := by simp
  generalize com (1 :: us) = cc at *
  generalize (1 :: us).map i64 = AL at *
  unfold nvc at *
  unfold c13
  simp (maxSteps := 1000000) (disch := omega) only [go_sem, Nat.reduceEqDiff, Nat.reduceLT, Nat.reduceAdd, Nat.reduceSub, Nat.reduceMul, Nat.reduceBEq, Int.reduceLT, Int.reduceAdd, Int.reduceMul, Int.reduceSub, Int.reduceToNat, Int.reduceLE, Int.reduceEq, ↓reduceIte, reduceCtorEq, Int.reduceNeg, Nat.reduceLeDiff]
  first | refine callB_intro (gS _) ?_ | refine callD_intro (gS _) ?_ | refine callP_intro (fun _ => (gS _)) ?_ | refine callX_pure (gS _) ?_
  simp (maxSteps := 1000000) (disch := omega) only [go_sem, Nat.reduceEqDiff, Nat.reduceLT, Nat.reduceAdd, Nat.reduceSub, Nat.reduceMul, Nat.reduceBEq, Int.reduceLT, Int.reduceAdd, Int.reduceMul, Int.reduceSub, Int.reduceToNat, Int.reduceLE, Int.reduceEq, ↓reduceIte, reduceCtorEq, Int.reduceNeg, Nat.reduceLeDiff]
  first | refine callB_intro (g _) ?_ | refine callD_intro (g _) ?_ | refine callP_intro (fun _ => (g _)) ?_ | refine callX_pure (g _) ?_
  simp (maxSteps := 1000000) (disch := omega) only [go_sem, Nat.reduceEqDiff, Nat.reduceLT, Nat.reduceAdd, Nat.reduceSub, Nat.reduceMul, Nat.reduceBEq, Int.reduceLT, Int.reduceAdd, Int.reduceMul, Int.reduceSub, Int.reduceToNat, Int.reduceLE, Int.reduceEq, ↓reduceIte, reduceCtorEq, Int.reduceNeg, Nat.reduceLeDiff]
  exact fin_one _ 2 _ (by simp) rfl rfl (hu0 _) (by simp (disch := omega) only [resVal, resAll, resOne, rs13, Env.get, go_sem, Nat.reduceEqDiff, Nat.reduceLT, Nat.reduceAdd, Nat.reduceSub, Nat.reduceMul, Nat.reduceBEq, Int.reduceLT, Int.reduceAdd, Int.reduceMul, Int.reduceSub, Int.reduceToNat, Int.reduceLE, Int.reduceEq, ↓reduceIte, reduceCtorEq, Int.reduceNeg, Nat.reduceLeDiff]; rfl) (by simp [AV.ren, AV.rens, h0.lt, h1.lt]) (by have q0 := h0.lt; have q1 := h1.lt; simp [AV.und, AV.unds]; omega)
theorem f13_big_n {ws vs us : List Int} {p0 o0 p1 o1 q oq : Nat} {k0 k1 kq : Option Nat} {c0 c1 : Int} {H : Heap} (h0 : Sl i64 H p0 o0 ws) (h1 : Sl i64 H p1 o1 vs) (hu : Sl i64 H q oq us) (l0 : ws.length ≤ 1000) (l1 : vs.length ≤ 1000) (lu : us.length ≤ 1000) (hw : nw ws c0 vs c1 = -1) (hb : 600 < us.length) :
    ACall Try.prog 13 [.agg (nvc p0 o0 ws.length k0 c0 p1 o1 vs.length k1 c1), .sl q oq us.length 1 kq] H (.tup [.agg (nvc p0 o0 ws.length k0 c0 p1 o1 vs.length k1 c1), .int .i64 5]) H := by
  refine acall13 (by simp) (acs_start ?_)
  have gS := fun H => @f17 us.length q oq kq H (by omega)
  have g := fun G d => f16_big_n (k0 := k0) (k1 := k1) (kq := kq) (done := d) (h0.app G) (h1.app G) (hu.app G) l0 l1 lu hw hb
  unfold nvc at *
  unfold c13
  simp (maxSteps := 1000000) (disch := omega) only [go_sem, Nat.reduceEqDiff, Nat.reduceLT, Nat.reduceAdd, Nat.reduceSub, Nat.reduceMul, Nat.reduceBEq, Int.reduceLT, Int.reduceAdd, Int.reduceMul, Int.reduceSub, Int.reduceToNat, Int.reduceLE, Int.reduceEq, ↓reduceIte, reduceCtorEq, Int.reduceNeg, Nat.reduceLeDiff]
  first | refine callB_intro (gS _) ?_ | refine callD_intro (gS _) ?_ | refine callP_intro (fun _ => (gS _)) ?_ | refine callX_pure (gS _) ?_
  simp (maxSteps := 1000000) (disch := omega) only [go_sem, Nat.reduceEqDiff, Nat.reduceLT, Nat.reduceAdd, Nat.reduceSub, Nat.reduceMul, Nat.reduceBEq, Int.reduceLT, Int.reduceAdd, Int.reduceMul, Int.reduceSub, Int.reduceToNat, Int.reduceLE, Int.reduceEq, ↓reduceIte, reduceCtorEq, Int.reduceNeg, Nat.reduceLeDiff]
  first | refine callB_intro (g _ _) ?_ | refine callD_intro (g _ _) ?_ | refine callP_intro (fun _ => (g _ _)) ?_ | refine callX_pure (g _ _) ?_
  simp (maxSteps := 1000000) (disch := omega) only [go_sem, Nat.reduceEqDiff, Nat.reduceLT, Nat.reduceAdd, Nat.reduceSub, Nat.reduceMul, Nat.reduceBEq, Int.reduceLT, Int.reduceAdd, Int.reduceMul, Int.reduceSub, Int.reduceToNat, Int.reduceLE, Int.reduceEq, ↓reduceIte, reduceCtorEq, Int.reduceNeg, Nat.reduceLeDiff]
  exact fin_same (by simp) _ (by first | exact (List.append_nil _).symm | rfl) (by simp (maxSteps := 1000000) (disch := omega) only [resVal, resAll, resOne, rs13, Env.get, go_sem, Nat.reduceEqDiff, Nat.reduceLT, Nat.reduceAdd, Nat.reduceSub, Nat.reduceMul, Nat.reduceBEq, Int.reduceLT, Int.reduceAdd, Int.reduceMul, Int.reduceSub, Int.reduceToNat, Int.reduceLE, Int.reduceEq, ↓reduceIte, reduceCtorEq, Int.reduceNeg, Nat.reduceLeDiff, Nat.le_refl]) (by simp only [AV.und, AV.unds]; exact ⟨⟨h0.lt, trivial, h1.lt, trivial, trivial⟩, trivial, trivial⟩)
theorem f13_full_0 {ws vs us : List Int} {p0 o0 p1 o1 q oq : Nat} {k0 k1 kq : Option Nat} {c0 c1 : Int} {H : Heap} (h0 : Sl i64 H p0 o0 ws) (h1 : Sl i64 H p1 o1 vs) (hu : Sl i64 H q oq us) (l0 : ws.length ≤ 1000) (l1 : vs.length ≤ 1000) (lu : us.length ≤ 1000) (hw : nw ws c0 vs c1 = 0) (hn : 0 < ws.length) (hf : 0 ≤ hd0 ws ∧ hd0 ws < 4611686018427387904) (hb : us.length ≤ 600) :
    ACall Try.prog 13 [.agg (nvc p0 o0 ws.length k0 c0 p1 o1 vs.length k1 c1), .sl q oq us.length 1 kq] H (.tup [.agg (nvc p0 o0 ws.length k0 c0 H.length 0 (us.length + 1) none (com ((hd0 ws + 1) :: us))), .int .i64 0]) (H ++ [some ⟨((hd0 ws + 1) :: us).map i64, true⟩]) := by
  refine acall13 (by simp) (acs_start ?_)
  have gS := fun H => @f17 us.length q oq kq H (by omega)
  have g := fun G => f16_full_0 (k0 := k0) (k1 := k1) (kq := kq) (h0.app G) (h1.app G) (hu.app G) l0 l1 lu hw hn hb hf (Int.le_refl _)
  have hu0 : ∀ n, AV.unds n (((hd0 ws + 1) :: us).map i64) := fun n => i64_und _
  have hal : (((hd0 ws + 1) :: us).map i64).length = us.length + 1 := by simp
  generalize com ((hd0 ws + 1) :: us) = cc at *
  generalize ((hd0 ws + 1) :: us).map i64 = AL at *
  unfold nvc at *
  unfold c13
  simp (maxSteps := 1000000) (disch := omega) only [go_sem, Nat.reduceEqDiff, Nat.reduceLT, Nat.reduceAdd, Nat.reduceSub, Nat.reduceMul, Nat.reduceBEq, Int.reduceLT, Int.reduceAdd, Int.reduceMul, Int.reduceSub, Int.reduceToNat, Int.reduceLE, Int.reduceEq, ↓reduceIte, reduceCtorEq, Int.reduceNeg, Nat.reduceLeDiff]
  first | refine callB_intro (gS _) ?_ | refine callD_intro (gS _) ?_ | refine callP_intro (fun _ => (gS _)) ?_ | refine callX_pure (gS _) ?_
  simp (maxSteps := 1000000) (disch := omega) only [go_sem, Nat.reduceEqDiff, Nat.reduceLT, Nat.reduceAdd, Nat.reduceSub, Nat.reduceMul, Nat.reduceBEq, Int.reduceLT, Int.reduceAdd, Int.reduceMul, Int.reduceSub, Int.reduceToNat, Int.reduceLE, Int.reduceEq, ↓reduceIte, reduceCtorEq, Int.reduceNeg, Nat.reduceLeDiff]
  first | refine callB_intro (g _) ?_ | refine callD_intro (g _) ?_ | refine callP_intro (fun _ => (g _)) ?_ | refine callX_pure (g _) ?_
  simp (maxSteps := 1000000) (disch := omega) only [go_sem, Nat.reduceEqDiff, Nat.reduceLT, Nat.reduceAdd, Nat.reduceSub, Nat.reduceMul, Nat.reduceBEq, Int.reduceLT, Int.reduceAdd, Int.reduceMul, Int.reduceSub, Int.reduceToNat, Int.reduceLE, Int.reduceEq, ↓reduceIte, reduceCtorEq, Int.reduceNeg, Nat.reduceLeDiff]
  exact fin_one _ 2 _ (by simp) rfl rfl (hu0 _) (by simp (disch := omega) only [resVal, resAll, resOne, rs13, Env.get, go_sem, Nat.reduceEqDiff, Nat.reduceLT, Nat.reduceAdd, Nat.reduceSub, Nat.reduceMul, Nat.reduceBEq, Int.reduceLT, Int.reduceAdd, Int.reduceMul, Int.reduceSub, Int.reduceToNat, Int.reduceLE, Int.reduceEq, ↓reduceIte, reduceCtorEq, Int.reduceNeg, Nat.reduceLeDiff]; rfl) (by simp [AV.ren, AV.rens, h0.lt, h1.lt]) (by have q0 := h0.lt; have q1 := h1.lt; simp [AV.und, AV.unds]; omega)
theorem f13_big_0 {ws vs us : List Int} {p0 o0 p1 o1 q oq : Nat} {k0 k1 kq : Option Nat} {c0 c1 : Int} {H : Heap} (h0 : Sl i64 H p0 o0 ws) (h1 : Sl i64 H p1 o1 vs) (hu : Sl i64 H q oq us) (l0 : ws.length ≤ 1000) (l1 : vs.length ≤ 1000) (lu : us.length ≤ 1000) (hw : nw ws c0 vs c1 = 0) (hn : 0 < ws.length) (hb : 600 < us.length) :
    ACall Try.prog 13 [.agg (nvc p0 o0 ws.length k0 c0 p1 o1 vs.length k1 c1), .sl q oq us.length 1 kq] H (.tup [.agg (nvc p0 o0 ws.length k0 c0 p1 o1 vs.length k1 c1), .int .i64 5]) H := by
  refine acall13 (by simp) (acs_start ?_)
  have gS := fun H => @f17 us.length q oq kq H (by omega)
  have g := fun G d => f16_big_0 (k0 := k0) (k1 := k1) (kq := kq) (done := d) (h0.app G) (h1.app G) (hu.app G) l0 l1 lu hw hn hb
  unfold nvc at *
  unfold c13
  simp (maxSteps := 1000000) (disch := omega) only [go_sem, Nat.reduceEqDiff, Nat.reduceLT, Nat.reduceAdd, Nat.reduceSub, Nat.reduceMul, Nat.reduceBEq, Int.reduceLT, Int.reduceAdd, Int.reduceMul, Int.reduceSub, Int.reduceToNat, Int.reduceLE, Int.reduceEq, ↓reduceIte, reduceCtorEq, Int.reduceNeg, Nat.reduceLeDiff]
  first | refine callB_intro (gS _) ?_ | refine callD_intro (gS _) ?_ | refine callP_intro (fun _ => (gS _)) ?_ | refine callX_pure (gS _) ?_
  simp (maxSteps := 1000000) (disch := omega) only [go_sem, Nat.reduceEqDiff, Nat.reduceLT, Nat.reduceAdd, Nat.reduceSub, Nat.reduceMul, Nat.reduceBEq, Int.reduceLT, Int.reduceAdd, Int.reduceMul, Int.reduceSub, Int.reduceToNat, Int.reduceLE, Int.reduceEq, ↓reduceIte, reduceCtorEq, Int.reduceNeg, Nat.reduceLeDiff]
  first | refine callB_intro (g _ _) ?_ | refine callD_intro (g _ _) ?_ | refine callP_intro (fun _ => (g _ _)) ?_ | refine callX_pure (g _ _) ?_
  simp (maxSteps := 1000000) (disch := omega) only [go_sem, Nat.reduceEqDiff, Nat.reduceLT, Nat.reduceAdd, Nat.reduceSub, Nat.reduceMul, Nat.reduceBEq, Int.reduceLT, Int.reduceAdd, Int.reduceMul, Int.reduceSub, Int.reduceToNat, Int.reduceLE, Int.reduceEq, ↓reduceIte, reduceCtorEq, Int.reduceNeg, Nat.reduceLeDiff]
  exact fin_same (by simp) _ (by first | exact (List.append_nil _).symm | rfl) (by simp (maxSteps := 1000000) (disch := omega) only [resVal, resAll, resOne, rs13, Env.get, go_sem, Nat.reduceEqDiff, Nat.reduceLT, Nat.reduceAdd, Nat.reduceSub, Nat.reduceMul, Nat.reduceBEq, Int.reduceLT, Int.reduceAdd, Int.reduceMul, Int.reduceSub, Int.reduceToNat, Int.reduceLE, Int.reduceEq, ↓reduceIte, reduceCtorEq, Int.reduceNeg, Nat.reduceLeDiff, Nat.le_refl]) (by simp only [AV.und, AV.unds]; exact ⟨⟨h0.lt, trivial, h1.lt, trivial, trivial⟩, trivial, trivial⟩)
theorem f13_far_0 {ws vs us : List Int} {p0 o0 p1 o1 q oq : Nat} {k0 k1 kq : Option Nat} {c0 c1 : Int} {H : Heap} (h0 : Sl i64 H p0 o0 ws) (h1 : Sl i64 H p1 o1 vs) (hu : Sl i64 H q oq us) (l0 : ws.length ≤ 1000) (l1 : vs.length ≤ 1000) (lu : us.length ≤ 1000) (hw : nw ws c0 vs c1 = 0) (hn : 0 < ws.length) (hb : us.length ≤ 600) (hf : hd0 ws = 4611686018427387904) :
    ACall Try.prog 13 [.agg (nvc p0 o0 ws.length k0 c0 p1 o1 vs.length k1 c1), .sl q oq us.length 1 kq] H (.tup [.agg (nvc p0 o0 ws.length k0 c0 p1 o1 vs.length k1 c1), .int .i64 5]) H := by
  refine acall13 (by simp) (acs_start ?_)
  have gS := fun H => @f17 us.length q oq kq H (by omega)
  have g := fun G d => f16_far_0 (k0 := k0) (k1 := k1) (kq := kq) (done := d) (h0.app G) (h1.app G) (hu.app G) l0 l1 lu hw hn hb hf
  unfold nvc at *
  unfold c13
  simp (maxSteps := 1000000) (disch := omega) only [go_sem, Nat.reduceEqDiff, Nat.reduceLT, Nat.reduceAdd, Nat.reduceSub, Nat.reduceMul, Nat.reduceBEq, Int.reduceLT, Int.reduceAdd, Int.reduceMul, Int.reduceSub, Int.reduceToNat, Int.reduceLE, Int.reduceEq, ↓reduceIte, reduceCtorEq, Int.reduceNeg, Nat.reduceLeDiff]
  first | refine callB_intro (gS _) ?_ | refine callD_intro (gS _) ?_ | refine callP_intro (fun _ => (gS _)) ?_ | refine callX_pure (gS _) ?_
  simp (maxSteps := 1000000) (disch := omega) only [go_sem, Nat.reduceEqDiff, Nat.reduceLT, Nat.reduceAdd, Nat.reduceSub, Nat.reduceMul, Nat.reduceBEq, Int.reduceLT, Int.reduceAdd, Int.reduceMul, Int.reduceSub, Int.reduceToNat, Int.reduceLE, Int.reduceEq, ↓reduceIte, reduceCtorEq, Int.reduceNeg, Nat.reduceLeDiff]
  first | refine callB_intro (g _ _) ?_ | refine callD_intro (g _ _) ?_ | refine callP_intro (fun _ => (g _ _)) ?_ | refine callX_pure (g _ _) ?_
  simp (maxSteps := 1000000) (disch := omega) only [go_sem, Nat.reduceEqDiff, Nat.reduceLT, Nat.reduceAdd, Nat.reduceSub, Nat.reduceMul, Nat.reduceBEq, Int.reduceLT, Int.reduceAdd, Int.reduceMul, Int.reduceSub, Int.reduceToNat, Int.reduceLE, Int.reduceEq, ↓reduceIte, reduceCtorEq, Int.reduceNeg, Nat.reduceLeDiff]
  exact fin_same (by simp) _ (by first | exact (List.append_nil _).symm | rfl) (by simp (maxSteps := 1000000) (disch := omega) only [resVal, resAll, resOne, rs13, Env.get, go_sem, Nat.reduceEqDiff, Nat.reduceLT, Nat.reduceAdd, Nat.reduceSub, Nat.reduceMul, Nat.reduceBEq, Int.reduceLT, Int.reduceAdd, Int.reduceMul, Int.reduceSub, Int.reduceToNat, Int.reduceLE, Int.reduceEq, ↓reduceIte, reduceCtorEq, Int.reduceNeg, Nat.reduceLeDiff, Nat.le_refl]) (by simp only [AV.und, AV.unds]; exact ⟨⟨h0.lt, trivial, h1.lt, trivial, trivial⟩, trivial, trivial⟩)
theorem f13_full_1 {ws vs us : List Int} {p0 o0 p1 o1 q oq : Nat} {k0 k1 kq : Option Nat} {c0 c1 : Int} {H : Heap} (h0 : Sl i64 H p0 o0 ws) (h1 : Sl i64 H p1 o1 vs) (hu : Sl i64 H q oq us) (l0 : ws.length ≤ 1000) (l1 : vs.length ≤ 1000) (lu : us.length ≤ 1000) (hw : nw ws c0 vs c1 = 1) (hn : 0 < vs.length) (hf : 0 ≤ hd0 vs ∧ hd0 vs < 4611686018427387904) (hb : us.length ≤ 600) :
    ACall Try.prog 13 [.agg (nvc p0 o0 ws.length k0 c0 p1 o1 vs.length k1 c1), .sl q oq us.length 1 kq] H (.tup [.agg (nvc H.length 0 (us.length + 1) none (com ((hd0 vs + 1) :: us)) p1 o1 vs.length k1 c1), .int .i64 0]) (H ++ [some ⟨((hd0 vs + 1) :: us).map i64, true⟩]) := by
  refine acall13 (by simp) (acs_start ?_)
  have gS := fun H => @f17 us.length q oq kq H (by omega)
  have g := fun G => f16_full_1 (k0 := k0) (k1 := k1) (kq := kq) (h0.app G) (h1.app G) (hu.app G) l0 l1 lu hw hn hb hf (Int.le_refl _)
  have hu0 : ∀ n, AV.unds n (((hd0 vs + 1) :: us).map i64) := fun n => i64_und _
  have hal : (((hd0 vs + 1) :: us).map i64).length = us.length + 1 := by simp
  generalize com ((hd0 vs + 1) :: us) = cc at *
  generalize ((hd0 vs + 1) :: us).map i64 = AL at *
  unfold nvc at *
  unfold c13
  simp (maxSteps := 1000000) (disch := omega) only [go_sem, Nat.reduceEqDiff, Nat.reduceLT, Nat.reduceAdd, Nat.reduceSub, Nat.reduceMul, Nat.reduceBEq, Int.reduceLT, Int.reduceAdd, Int.reduceMul, Int.reduceSub, Int.reduceToNat, Int.reduceLE, Int.reduceEq, ↓reduceIte, reduceCtorEq, Int.reduceNeg, Nat.reduceLeDiff]
  first | refine callB_intro (gS _) ?_ | refine callD_intro (gS _) ?_ | refine callP_intro (fun _ => (gS _)) ?_ | refine callX_pure (gS _) ?_
  simp (maxSteps := 1000000) (disch := omega) only [go_sem, Nat.reduceEqDiff, Nat.reduceLT, Nat.reduceAdd, Nat.reduceSub, Nat.reduceMul, Nat.reduceBEq, Int.reduceLT, Int.reduceAdd, Int.reduceMul, Int.reduceSub, Int.reduceToNat, Int.reduceLE, Int.reduceEq, ↓reduceIte, reduceCtorEq, Int.reduceNeg, Nat.reduceLeDiff]
  first | refine callB_intro (g _) ?_ | refine callD_intro (g _) ?_ | refine callP_intro (fun _ => (g _)) ?_ | refine callX_pure (g _) ?_
  simp (maxSteps := 1000000) (disch := omega) only [go_sem, Nat.reduceEqDiff, Nat.reduceLT, Nat.reduceAdd, Nat.reduceSub, Nat.reduceMul, Nat.reduceBEq, Int.reduceLT, Int.reduceAdd, Int.reduceMul, Int.reduceSub, Int.reduceToNat, Int.reduceLE, Int.reduceEq, ↓reduceIte, reduceCtorEq, Int.reduceNeg, Nat.reduceLeDiff]
  exact fin_one _ 2 _ (by simp) rfl rfl (hu0 _) (by simp (disch := omega) only [resVal, resAll, resOne, rs13, Env.get, go_sem, Nat.reduceEqDiff, Nat.reduceLT, Nat.reduceAdd, Nat.reduceSub, Nat.reduceMul, Nat.reduceBEq, Int.reduceLT, Int.reduceAdd, Int.reduceMul, Int.reduceSub, Int.reduceToNat, Int.reduceLE, Int.reduceEq, ↓reduceIte, reduceCtorEq, Int.reduceNeg, Nat.reduceLeDiff]; rfl) (by simp [AV.ren, AV.rens, h0.lt, h1.lt]) (by have q0 := h0.lt; have q1 := h1.lt; simp [AV.und, AV.unds]; omega)
theorem f13_big_1 {ws vs us : List Int} {p0 o0 p1 o1 q oq : Nat} {k0 k1 kq : Option Nat} {c0 c1 : Int} {H : Heap} (h0 : Sl i64 H p0 o0 ws) (h1 : Sl i64 H p1 o1 vs) (hu : Sl i64 H q oq us) (l0 : ws.length ≤ 1000) (l1 : vs.length ≤ 1000) (lu : us.length ≤ 1000) (hw : nw ws c0 vs c1 = 1) (hn : 0 < vs.length) (hb : 600 < us.length) :
    ACall Try.prog 13 [.agg (nvc p0 o0 ws.length k0 c0 p1 o1 vs.length k1 c1), .sl q oq us.length 1 kq] H (.tup [.agg (nvc p0 o0 ws.length k0 c0 p1 o1 vs.length k1 c1), .int .i64 5]) H := by
  refine acall13 (by simp) (acs_start ?_)
  have gS := fun H => @f17 us.length q oq kq H (by omega)
  have g := fun G d => f16_big_1 (k0 := k0) (k1 := k1) (kq := kq) (done := d) (h0.app G) (h1.app G) (hu.app G) l0 l1 lu hw hn hb
  unfold nvc at *
  unfold c13
  simp (maxSteps := 1000000) (disch := omega) only [go_sem, Nat.reduceEqDiff, Nat.reduceLT, Nat.reduceAdd, Nat.reduceSub, Nat.reduceMul, Nat.reduceBEq, Int.reduceLT, Int.reduceAdd, Int.reduceMul, Int.reduceSub, Int.reduceToNat, Int.reduceLE, Int.reduceEq, ↓reduceIte, reduceCtorEq, Int.reduceNeg, Nat.reduceLeDiff]
  first | refine callB_intro (gS _) ?_ | refine callD_intro (gS _) ?_ | refine callP_intro (fun _ => (gS _)) ?_ | refine callX_pure (gS _) ?_
  simp (maxSteps := 1000000) (disch := omega) only [go_sem, Nat.reduceEqDiff, Nat.reduceLT, Nat.reduceAdd, Nat.reduceSub, Nat.reduceMul, Nat.reduceBEq, Int.reduceLT, Int.reduceAdd, Int.reduceMul, Int.reduceSub, Int.reduceToNat, Int.reduceLE, Int.reduceEq, ↓reduceIte, reduceCtorEq, Int.reduceNeg, Nat.reduceLeDiff]
  first | refine callB_intro (g _ _) ?_ | refine callD_intro (g _ _) ?_ | refine callP_intro (fun _ => (g _ _)) ?_ | refine callX_pure (g _ _) ?_
  simp (maxSteps := 1000000) (disch := omega) only [go_sem, Nat.reduceEqDiff, Nat.reduceLT, Nat.reduceAdd, Nat.reduceSub, Nat.reduceMul, Nat.reduceBEq, Int.reduceLT, Int.reduceAdd, Int.reduceMul, Int.reduceSub, Int.reduceToNat, Int.reduceLE, Int.reduceEq, ↓reduceIte, reduceCtorEq, Int.reduceNeg, Nat.reduceLeDiff]
  exact fin_same (by simp) _ (by first | exact (List.append_nil _).symm | rfl) (by simp (maxSteps := 1000000) (disch := omega) only [resVal, resAll, resOne, rs13, Env.get, go_sem, Nat.reduceEqDiff, Nat.reduceLT, Nat.reduceAdd, Nat.reduceSub, Nat.reduceMul, Nat.reduceBEq, Int.reduceLT, Int.reduceAdd, Int.reduceMul, Int.reduceSub, Int.reduceToNat, Int.reduceLE, Int.reduceEq, ↓reduceIte, reduceCtorEq, Int.reduceNeg, Nat.reduceLeDiff, Nat.le_refl]) (by simp only [AV.und, AV.unds]; exact ⟨⟨h0.lt, trivial, h1.lt, trivial, trivial⟩, trivial, trivial⟩)
theorem f13_far_1 {ws vs us : List Int} {p0 o0 p1 o1 q oq : Nat} {k0 k1 kq : Option Nat} {c0 c1 : Int} {H : Heap} (h0 : Sl i64 H p0 o0 ws) (h1 : Sl i64 H p1 o1 vs) (hu : Sl i64 H q oq us) (l0 : ws.length ≤ 1000) (l1 : vs.length ≤ 1000) (lu : us.length ≤ 1000) (hw : nw ws c0 vs c1 = 1) (hn : 0 < vs.length) (hb : us.length ≤ 600) (hf : hd0 vs = 4611686018427387904) :
    ACall Try.prog 13 [.agg (nvc p0 o0 ws.length k0 c0 p1 o1 vs.length k1 c1), .sl q oq us.length 1 kq] H (.tup [.agg (nvc p0 o0 ws.length k0 c0 p1 o1 vs.length k1 c1), .int .i64 5]) H := by
  refine acall13 (by simp) (acs_start ?_)
  have gS := fun H => @f17 us.length q oq kq H (by omega)
  have g := fun G d => f16_far_1 (k0 := k0) (k1 := k1) (kq := kq) (done := d) (h0.app G) (h1.app G) (hu.app G) l0 l1 lu hw hn hb hf
  unfold nvc at *
  unfold c13
  simp (maxSteps := 1000000) (disch := omega) only [go_sem, Nat.reduceEqDiff, Nat.reduceLT, Nat.reduceAdd, Nat.reduceSub, Nat.reduceMul, Nat.reduceBEq, Int.reduceLT, Int.reduceAdd, Int.reduceMul, Int.reduceSub, Int.reduceToNat, Int.reduceLE, Int.reduceEq, ↓reduceIte, reduceCtorEq, Int.reduceNeg, Nat.reduceLeDiff]
  first | refine callB_intro (gS _) ?_ | refine callD_intro (gS _) ?_ | refine callP_intro (fun _ => (gS _)) ?_ | refine callX_pure (gS _) ?_
  simp (maxSteps := 1000000) (disch := omega) only [go_sem, Nat.reduceEqDiff, Nat.reduceLT, Nat.reduceAdd, Nat.reduceSub, Nat.reduceMul, Nat.reduceBEq, Int.reduceLT, Int.reduceAdd, Int.reduceMul, Int.reduceSub, Int.reduceToNat, Int.reduceLE, Int.reduceEq, ↓reduceIte, reduceCtorEq, Int.reduceNeg, Nat.reduceLeDiff]
  first | refine callB_intro (g _ _) ?_ | refine callD_intro (g _ _) ?_ | refine callP_intro (fun _ => (g _ _)) ?_ | refine callX_pure (g _ _) ?_
  simp (maxSteps := 1000000) (disch := omega) only [go_sem, Nat.reduceEqDiff, Nat.reduceLT, Nat.reduceAdd, Nat.reduceSub, Nat.reduceMul, Nat.reduceBEq, Int.reduceLT, Int.reduceAdd, Int.reduceMul, Int.reduceSub, Int.reduceToNat, Int.reduceLE, Int.reduceEq, ↓reduceIte, reduceCtorEq, Int.reduceNeg, Nat.reduceLeDiff]
  exact fin_same (by simp) _ (by first | exact (List.append_nil _).symm | rfl) (by simp (maxSteps := 1000000) (disch := omega) only [resVal, resAll, resOne, rs13, Env.get, go_sem, Nat.reduceEqDiff, Nat.reduceLT, Nat.reduceAdd, Nat.reduceSub, Nat.reduceMul, Nat.reduceBEq, Int.reduceLT, Int.reduceAdd, Int.reduceMul, Int.reduceSub, Int.reduceToNat, Int.reduceLE, Int.reduceEq, ↓reduceIte, reduceCtorEq, Int.reduceNeg, Nat.reduceLeDiff, Nat.le_refl]) (by simp only [AV.und, AV.unds]; exact ⟨⟨h0.lt, trivial, h1.lt, trivial, trivial⟩, trivial, trivial⟩)
end Go.Proofs.Ytjibcbfdfambeaa.Ah
