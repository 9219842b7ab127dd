/- V09v: a part of the proof: contracts of functions, or plain laws. Conditions: none. -/
import Derived.Test.YtlohehkagaabfaaV09u
namespace Go.Proofs.Ytlohehkagaabfaa.Ah
open Go Go.WideShapes
attribute [local irreducible] acs aopsK drawK leave condK bindR bindD bindX guardK guardD callB callD callX callP callPv rfunG rfunK yldB yldD
attribute [local go_sem] acs_nil acs_blk acs_skip acs_reg acs_dreg acs_freg acs_nam0 acs_nam nones acs_seq acs_cond acs_block acs_exit acs_ret acs_kl acs_loop leave_nil leave_code leave_lp leave_blk aopsK_nil aopsK_cons aopsK_guard bindR_val bindR_need bindR_br bindR_call bindR_ycall acs_rfun rfunG_fn bindR_bad drawK_nil drawK_cons drawK_ext drawK_pur drawK_guard callPv_fn drawK_purv bindD_val bindD_need bindD_br bindD_call bindD_ycall bindD_bad bindX_val bindX_need bindX_br bindX_call guardD_bool guardD_tup grows grows0 List.append_cancel_left_eq List.cons.injEq exists_eq' exists_eq condK_bool guardK_bool guardK_tup sor r0 r1 r2 r3 rC rB rI rP rA rT rS rF rSl rO rbin rcut run1 Env.evals Env.eval Env.get Env.put Env.ins Env.del Env.dels argEnv AV.full AV.cells AV.cell eqCells decide_true decide_false decide_eq_true_eq decide_eq_false_iff_not Bool.not_eq_true' Bool.not_eq_false' true_and and_true false_implies true_implies forall_const Bool.not_true Bool.not_false Bool.false_eq_true Bool.true_eq_false List.getElem?_cons_zero List.getElem?_cons_succ List.length_cons List.length_nil List.length_append List.all_cons List.all_nil Bool.and_true Bool.and_self implies_true List.append_assoc List.cons_append List.nil_append List.append_nil i64_in imin_eq imax_eq cast3 cast0 cast1 cast2 Option.map_none ite_self and_false false_and Option.isSome_some or_true true_or Int.sub_zero Int.mul_one Nat.sub_zero Nat.zero_le Int.cast_ofNat_Int Int.natCast_nonneg Int.toNat_natCast ne_eq not_false_eq_true not_true_eq_false strC blkAt_app blkAt_app0 blkAt_zero blkAt_succ List.set_cons_zero List.set_cons_succ set_app set_app0 Option.map_some Option.bind_some rd setCells lay rdS szOk rapp ownAt lenAt Option.any_some Option.getD_some List.drop_zero List.drop_succ_cons List.take_succ_cons List.take_zero List.drop_nil List.take_nil Nat.lt_irrefl Nat.zero_add Nat.add_zero Nat.mul_one Nat.one_mul Nat.add_assoc Option.some.injEq eq_self
set_option maxHeartbeats 4000000
set_option linter.unusedSimpArgs false
set_option linter.unusedVariables false
/-! The law DeltaCuts. -/
def c4t : SC := tl2 (tl2 (tl2 (tl2 (tl2 (tl2 c4)))))
def c4e (p L q K : Nat) (cp : Option Nat) (w : AV) (k : Nat) : Env := [(0, .sl p 0 L 1 cp), (3, .bool true), (4, w), (5, .int .i64 (k : Int))]
theorem f4_loop {l : List Int} {p q K : Nat} {cp : Option Nat} {X : Heap} {Q : Post} {fs : List Fr} {o o' : Bool} (hp : blkAt X p = some ⟨l.map (AV.int .i64), o⟩) (hq : blkAt X q = some ⟨(pc l K).map (AV.int .i64), o'⟩) (hl : l.length ≤ 1000) (hK : K = (l.length + 7) / 8)
    (hn : leave Try.prog 0 fs [(0, .sl p 0 l.length 1 cp), (3, .bool true), (4, .sl q 0 K 8 none)] X Q) :
    ∀ (r k : Nat), k + r = 8 * K → acs Try.prog (.lp c4l0 :: fs) (c4e p l.length q K cp (.sl q 0 K 8 none) k) X Q := by
  intro r
  unfold c4e
  induction r with
  | zero =>
    intro k hr
    have hge : ¬ (k : Int) < 8 * (K : Int) := by omega
    rw [acs_lp]; conv in Fr.code c4l0 => unfold c4l0
    simp (maxSteps := 1000000) (disch := omega) only [go_sem, Nat.reduceEqDiff, Nat.reduceLT, Nat.reduceAdd, Nat.reduceSub, Nat.reduceMul, Nat.reduceBEq, Int.reduceLT, Int.reduceAdd, Int.reduceMul, Int.reduceSub, Int.reduceToNat, Int.reduceLE, Int.reduceEq, ↓reduceIte, reduceCtorEq, Int.reduceNeg, Nat.reduceLeDiff,  hge]
    exact hn
  | succ r ih =>
    intro k hr
    have hlt : (k : Int) < 8 * (K : Int) := by omega
    have hd : (k : Int).tdiv 8 = ((k / 8 : Nat) : Int) := by rw [Int.tdiv_eq_ediv_of_nonneg (by omega)]; omega
    have hm : (k : Int).tmod 8 = ((k % 8 : Nat) : Int) := by rw [Int.tmod_eq_emod_of_nonneg (by omega)]; omega
    have fk := getMap (k := .i64) (pc_get l (k := K) (i := k) (by omega))
    have hdK : ((k / 8 : Nat) : Int) < (K : Int) := by omega
    have hm8 : ((k % 8 : Nat) : Int) < 8 := by omega
    have ek : k / 8 * 8 + k % 8 = k := by omega
    by_cases hkl : k < l.length
    · have hkl' : (k : Int) < (l.length : Int) := by omega
      have fl := getMap (k := .i64) (show l[k]? = some (l.getD k 0) by simp [List.getD_eq_getElem?_getD, List.getElem?_eq_getElem hkl])
      generalize l.getD k 0 = x at *
      rw [acs_lp]; conv in Fr.code c4l0 => unfold c4l0
      simp (maxSteps := 1000000) (disch := omega) only [go_sem, Nat.reduceEqDiff, Nat.reduceLT, Nat.reduceAdd, Nat.reduceSub, Nat.reduceMul, Nat.reduceBEq, Int.reduceLT, Int.reduceAdd, Int.reduceMul, Int.reduceSub, Int.reduceToNat, Int.reduceLE, Int.reduceEq, ↓reduceIte, reduceCtorEq, Int.reduceNeg, Nat.reduceLeDiff,  hlt, hkl', hp, hq, fl, hd, hm, hdK, hm8, ek, fk]
      exact ih (k + 1) (by omega)
    · have hkl' : ¬ (k : Int) < (l.length : Int) := by omega
      have fl : l.getD k 0 = 0 := by simp [List.getD_eq_getElem?_getD, List.getElem?_eq_none (Nat.le_of_not_lt hkl)]
      rw [fl] at fk
      rw [acs_lp]; conv in Fr.code c4l0 => unfold c4l0
      simp (maxSteps := 1000000) (disch := omega) only [go_sem, Nat.reduceEqDiff, Nat.reduceLT, Nat.reduceAdd, Nat.reduceSub, Nat.reduceMul, Nat.reduceBEq, Int.reduceLT, Int.reduceAdd, Int.reduceMul, Int.reduceSub, Int.reduceToNat, Int.reduceLE, Int.reduceEq, ↓reduceIte, reduceCtorEq, Int.reduceNeg, Nat.reduceLeDiff,  hlt, hkl', hp, hq, hd, hm, hdK, hm8, ek, fk]
      exact ih (k + 1) (by omega)
theorem pc_take {l : List Int} {K : Nat} (h : l.length ≤ 8 * K) : (pc l K).take l.length = l := by
  apply List.ext_getElem?
  intro i
  by_cases hi : i < l.length
  · rw [List.getElem?_take_of_lt hi, pc_get l (by omega), List.getD_eq_getElem?_getD, List.getElem?_eq_getElem hi]
    rfl
  · rw [List.getElem?_eq_none (by rw [List.length_take]; omega), List.getElem?_eq_none (by omega)]
theorem pc_rest {l : List Int} {K : Nat} : ∀ z ∈ (pc l K).drop l.length, z = 0 := by
  intro z hz
  obtain ⟨i, hi⟩ := List.mem_iff_getElem?.1 hz
  rw [List.getElem?_drop] at hi
  have hlt : l.length + i < 8 * K := by
    have := (List.getElem?_eq_some_iff.1 hi).1
    rwa [pc_len] at this
  rw [pc_get l hlt, List.getD_eq_getElem?_getD, List.getElem?_eq_none (by omega)] at hi
  simpa using hi.symm
theorem f4 (l : List Int) (p : Nat) (cp : Option Nat) (o : Bool) (H : Heap) (hp : blkAt H p = some ⟨l.map (AV.int .i64), o⟩) (hL : l.length ≤ 2000000000000000000) :
    ACall Try.prog 4 [.sl p 0 l.length 1 cp] H (.bool true) H := by
  refine acall4 (by simp) (acs_start ?_)
  unfold c4
  simp (maxSteps := 1000000) (disch := omega) only [go_sem, Nat.reduceEqDiff, Nat.reduceLT, Nat.reduceAdd, Nat.reduceSub, Nat.reduceMul, Nat.reduceBEq, Int.reduceLT, Int.reduceAdd, Int.reduceMul, Int.reduceSub, Int.reduceToNat, Int.reduceLE, Int.reduceEq, ↓reduceIte, reduceCtorEq, Int.reduceNeg, Nat.reduceLeDiff]
  first | refine callB_intro (f9 _) ?_ | refine callD_intro (f9 _) ?_ | refine callP_intro (fun _ => (f9 _)) ?_ | refine callX_pure (f9 _) ?_
  by_cases hb : 1000 < l.length
  · have hb' : (1000 : Int) < (l.length : Int) := by omega
    simp (maxSteps := 1000000) (disch := omega) only [go_sem, Nat.reduceEqDiff, Nat.reduceLT, Nat.reduceAdd, Nat.reduceSub, Nat.reduceMul, Nat.reduceBEq, Int.reduceLT, Int.reduceAdd, Int.reduceMul, Int.reduceSub, Int.reduceToNat, Int.reduceLE, Int.reduceEq, ↓reduceIte, reduceCtorEq, Int.reduceNeg, Nat.reduceLeDiff,  hb']
    exact fin_ext (by simp) ((Ext.refl _)) (by simp (maxSteps := 1000000) (disch := omega) only [resVal, resAll, resOne, rs4, Env.get, go_sem, Nat.reduceEqDiff, Nat.reduceLT, Nat.reduceAdd, Nat.reduceSub, Nat.reduceMul, Nat.reduceBEq, Int.reduceLT, Int.reduceAdd, Int.reduceMul, Int.reduceSub, Int.reduceToNat, Int.reduceLE, Int.reduceEq, ↓reduceIte, reduceCtorEq, Int.reduceNeg, Nat.reduceLeDiff]) (by simp only [AV.und, AV.unds, and_self])
  have hb' : ¬ (1000 : Int) < (l.length : Int) := by omega
  have hs : Sl i64 H p 0 l := Sl.whole (o := o) hp
  have g12 := fun G => f12 (l.length : Int) G (by omega)
  have e12 : ((l.length : Int) + 7) / 8 = (((l.length + 7) / 8 : Nat) : Int) := by omega
  rw [e12] at g12
  by_cases h0 : l.length = 0
  · obtain rfl := List.eq_nil_of_length_eq_zero h0
    have g13 := fun (q K : Nat) (hK : K ≠ 0) (X : Heap) => f13_err (H := X) (K := K) (N := 0) (p := q) (cp := none) (by omega) (by omega)
    simp (maxSteps := 1000000) (disch := omega) only [go_sem, Nat.reduceEqDiff, Nat.reduceLT, Nat.reduceAdd, Nat.reduceSub, Nat.reduceMul, Nat.reduceBEq, Int.reduceLT, Int.reduceAdd, Int.reduceMul, Int.reduceSub, Int.reduceToNat, Int.reduceLE, Int.reduceEq, ↓reduceIte, reduceCtorEq, Int.reduceNeg, Nat.reduceLeDiff,  hb']
    refine callBE f11_nil ?_
    rintro v X he rfl
    have g0 : ∀ G, ACall Try.prog 12 [.int .i64 0] G (.int .i64 0) G := fun G => by
      have := f12 0 G (by omega)
      rwa [show ((0 : Int) + 7) / 8 = 0 by decide] at this
    simp (maxSteps := 1000000) (disch := omega) only [go_sem, Nat.reduceEqDiff, Nat.reduceLT, Nat.reduceAdd, Nat.reduceSub, Nat.reduceMul, Nat.reduceBEq, Int.reduceLT, Int.reduceAdd, Int.reduceMul, Int.reduceSub, Int.reduceToNat, Int.reduceLE, Int.reduceEq, ↓reduceIte, reduceCtorEq, Int.reduceNeg, Nat.reduceLeDiff]
    first | refine callB_intro (g0 _) ?_ | refine callD_intro (g0 _) ?_ | refine callP_intro (fun _ => (g0 _)) ?_ | refine callX_pure (g0 _) ?_
    simp (maxSteps := 1000000) (disch := omega) only [go_sem, Nat.reduceEqDiff, Nat.reduceLT, Nat.reduceAdd, Nat.reduceSub, Nat.reduceMul, Nat.reduceBEq, Int.reduceLT, Int.reduceAdd, Int.reduceMul, Int.reduceSub, Int.reduceToNat, Int.reduceLE, Int.reduceEq, ↓reduceIte, reduceCtorEq, Int.reduceNeg, Nat.reduceLeDiff]
    rw [acs_lp]; conv in Fr.code c4l0 => unfold c4l0
    simp (maxSteps := 1000000) (disch := omega) only [go_sem, Nat.reduceEqDiff, Nat.reduceLT, Nat.reduceAdd, Nat.reduceSub, Nat.reduceMul, Nat.reduceBEq, Int.reduceLT, Int.reduceAdd, Int.reduceMul, Int.reduceSub, Int.reduceToNat, Int.reduceLE, Int.reduceEq, ↓reduceIte, reduceCtorEq, Int.reduceNeg, Nat.reduceLeDiff]
    refine callBE f13_nil ?_
    rintro v X2 he2 rfl
    simp (maxSteps := 1000000) (disch := omega) only [go_sem, Nat.reduceEqDiff, Nat.reduceLT, Nat.reduceAdd, Nat.reduceSub, Nat.reduceMul, Nat.reduceBEq, Int.reduceLT, Int.reduceAdd, Int.reduceMul, Int.reduceSub, Int.reduceToNat, Int.reduceLE, Int.reduceEq, ↓reduceIte, reduceCtorEq, Int.reduceNeg, Nat.reduceLeDiff]
    refine callBE (g13 _ _ (by omega) _) ?_
    rintro v X3 he3 rfl
    have hx3 := (he.trans (he2.to _)).trans he3
    have gn := call_nil (pre := []) (f14 (xs := []) (ys := []) (p := X3.length) (q := p) (off := 0) (off2 := 0) (c1 := none) (c2 := cp) (H := X3 ++ [some ⟨[], false⟩]) ⟨[], false, by rw [blkAt_app0]; rfl, by simp, by simp⟩ ((hx3.sl hs).app _) (by simp))
    simp only [List.length_nil, List.nil_append, decide_true] at gn
    simp (maxSteps := 1000000) (disch := omega) only [go_sem, Nat.reduceEqDiff, Nat.reduceLT, Nat.reduceAdd, Nat.reduceSub, Nat.reduceMul, Nat.reduceBEq, Int.reduceLT, Int.reduceAdd, Int.reduceMul, Int.reduceSub, Int.reduceToNat, Int.reduceLE, Int.reduceEq, ↓reduceIte, reduceCtorEq, Int.reduceNeg, Nat.reduceLeDiff]
    first | refine callB_intro (gn) ?_ | refine callD_intro (gn) ?_ | refine callP_intro (fun _ => (gn)) ?_ | refine callX_pure (gn) ?_
    simp (maxSteps := 1000000) (disch := omega) only [go_sem, Nat.reduceEqDiff, Nat.reduceLT, Nat.reduceAdd, Nat.reduceSub, Nat.reduceMul, Nat.reduceBEq, Int.reduceLT, Int.reduceAdd, Int.reduceMul, Int.reduceSub, Int.reduceToNat, Int.reduceLE, Int.reduceEq, ↓reduceIte, reduceCtorEq, Int.reduceNeg, Nat.reduceLeDiff]
    exact fin_ext (by simp) ((hx3.to _)) (by simp (maxSteps := 1000000) (disch := omega) only [resVal, resAll, resOne, rs4, Env.get, go_sem, Nat.reduceEqDiff, Nat.reduceLT, Nat.reduceAdd, Nat.reduceSub, Nat.reduceMul, Nat.reduceBEq, Int.reduceLT, Int.reduceAdd, Int.reduceMul, Int.reduceSub, Int.reduceToNat, Int.reduceLE, Int.reduceEq, ↓reduceIte, reduceCtorEq, Int.reduceNeg, Nat.reduceLeDiff]) (by simp only [AV.und, AV.unds, and_self])
  simp (maxSteps := 1000000) (disch := omega) only [go_sem, Nat.reduceEqDiff, Nat.reduceLT, Nat.reduceAdd, Nat.reduceSub, Nat.reduceMul, Nat.reduceBEq, Int.reduceLT, Int.reduceAdd, Int.reduceMul, Int.reduceSub, Int.reduceToNat, Int.reduceLE, Int.reduceEq, ↓reduceIte, reduceCtorEq, Int.reduceNeg, Nat.reduceLeDiff,  hb']
  refine callBE (f11 hs (by omega) (by omega)) ?_
  rintro v X he ⟨q, rfl, hq, hqH⟩
  simp (maxSteps := 1000000) (disch := omega) only [go_sem, Nat.reduceEqDiff, Nat.reduceLT, Nat.reduceAdd, Nat.reduceSub, Nat.reduceMul, Nat.reduceBEq, Int.reduceLT, Int.reduceAdd, Int.reduceMul, Int.reduceSub, Int.reduceToNat, Int.reduceLE, Int.reduceEq, ↓reduceIte, reduceCtorEq, Int.reduceNeg, Nat.reduceLeDiff]
  first | refine callB_intro (g12 _) ?_ | refine callD_intro (g12 _) ?_ | refine callP_intro (fun _ => (g12 _)) ?_ | refine callX_pure (g12 _) ?_
  simp (maxSteps := 1000000) (disch := omega) only [go_sem, Nat.reduceEqDiff, Nat.reduceLT, Nat.reduceAdd, Nat.reduceSub, Nat.reduceMul, Nat.reduceBEq, Int.reduceLT, Int.reduceAdd, Int.reduceMul, Int.reduceSub, Int.reduceToNat, Int.reduceLE, Int.reduceEq, ↓reduceIte, reduceCtorEq, Int.reduceNeg, Nat.reduceLeDiff]
  refine f4_loop (K := (l.length + 7) / 8) (he.blk hp) hq (by omega) rfl ?_ (8 * ((l.length + 7) / 8)) 0 (by omega)
  have hle : l.length ≤ 8 * ((l.length + 7) / 8) := by omega
  have g13 := f13 (cp := none) (N := l.length) hq (pc_len _ _) (by omega) rfl (by omega) pc_rest
  rw [pc_take hle] at g13
  have g13e := fun (q : Nat) (X : Heap) => f13_err (H := X) (K := (l.length + 7) / 8 + 1) (N := l.length) (p := q) (cp := none) (by omega) (by omega)
  have hbig : ((l.length + 7) / 8 + 1) * 64 ≤ 140737488355328 := by omega
  have hlP : ((pc l ((l.length + 7) / 8)).map (AV.int .i64)).length = (l.length + 7) / 8 * 8 := by simp [pc]; omega
  have hP0 : List.take ((l.length + 7) / 8 * 8) ((pc l ((l.length + 7) / 8)).map (AV.int .i64)) = (pc l ((l.length + 7) / 8)).map (AV.int .i64) := by rw [List.take_of_length_le (by rw [hlP]; exact Nat.le_refl _)]
  generalize (l.length + 7) / 8 = K at *
  generalize (pc l K).map (AV.int .i64) = P at *
  simp (maxSteps := 1000000) (disch := omega) only [go_sem, Nat.reduceEqDiff, Nat.reduceLT, Nat.reduceAdd, Nat.reduceSub, Nat.reduceMul, Nat.reduceBEq, Int.reduceLT, Int.reduceAdd, Int.reduceMul, Int.reduceSub, Int.reduceToNat, Int.reduceLE, Int.reduceEq, ↓reduceIte, reduceCtorEq, Int.reduceNeg, Nat.reduceLeDiff]
  refine callBE g13 ?_
  rintro v X2 he2 ⟨q2, c2, rfl, hs2, hq2⟩
  have hqX := he2.blk hq
  have lq := blkAt_lt hqX
  have lqX := blkAt_lt hq
  simp (maxSteps := 1000000) (disch := omega) only [go_sem, Nat.reduceEqDiff, Nat.reduceLT, Nat.reduceAdd, Nat.reduceSub, Nat.reduceMul, Nat.reduceBEq, Int.reduceLT, Int.reduceAdd, Int.reduceMul, Int.reduceSub, Int.reduceToNat, Int.reduceLE, Int.reduceEq, ↓reduceIte, reduceCtorEq, Int.reduceNeg, Nat.reduceLeDiff,  hqX, lq, blkAt_lo, hbig, hlP, hP0, Nat.le_refl]
  refine callBE (g13e _ _) ?_
  rintro v X3 he3 rfl
  have s1 : Sl i64 X3 q2 0 l := he3.sl (((hs2.app _).set (b := q) (by omega) none).app _)
  have s2 : Sl i64 X3 p 0 l := he3.sl (((((he.trans he2).sl hs).app _).set (b := q) (by have := hs.lt; omega) none).app _)
  have gi := f14 (c1 := c2) (c2 := cp) s1 s2 (by omega)
  rw [decide_eq_true rfl] at gi
  simp (maxSteps := 1000000) (disch := omega) only [go_sem, Nat.reduceEqDiff, Nat.reduceLT, Nat.reduceAdd, Nat.reduceSub, Nat.reduceMul, Nat.reduceBEq, Int.reduceLT, Int.reduceAdd, Int.reduceMul, Int.reduceSub, Int.reduceToNat, Int.reduceLE, Int.reduceEq, ↓reduceIte, reduceCtorEq, Int.reduceNeg, Nat.reduceLeDiff]
  first | refine callB_intro (gi) ?_ | refine callD_intro (gi) ?_ | refine callP_intro (fun _ => (gi)) ?_ | refine callX_pure (gi) ?_
  simp (maxSteps := 1000000) (disch := omega) only [go_sem, Nat.reduceEqDiff, Nat.reduceLT, Nat.reduceAdd, Nat.reduceSub, Nat.reduceMul, Nat.reduceBEq, Int.reduceLT, Int.reduceAdd, Int.reduceMul, Int.reduceSub, Int.reduceToNat, Int.reduceLE, Int.reduceEq, ↓reduceIte, reduceCtorEq, Int.reduceNeg, Nat.reduceLeDiff]
  exact fin_ext (by simp) (((((((he.trans he2).to _).set (by omega) _).to _).trans he3))) (by simp (maxSteps := 1000000) (disch := omega) only [resVal, resAll, resOne, rs4, Env.get, go_sem, Nat.reduceEqDiff, Nat.reduceLT, Nat.reduceAdd, Nat.reduceSub, Nat.reduceMul, Nat.reduceBEq, Int.reduceLT, Int.reduceAdd, Int.reduceMul, Int.reduceSub, Int.reduceToNat, Int.reduceLE, Int.reduceEq, ↓reduceIte, reduceCtorEq, Int.reduceNeg, Nat.reduceLeDiff]) (by simp only [AV.und, AV.unds, and_self])
end Go.Proofs.Ytlohehkagaabfaa.Ah
