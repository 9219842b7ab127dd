/- V09t: a part of the proof: contracts of functions, or plain laws. Conditions: none. -/
import Derived.Test.YtlohehkagaabfaaV09s
namespace Go.Proofs.Ytlohehkagaabfaa.Ah
open Go Go.WideShapes
attribute [local irreducible] acs aopsK drawK leave condK bindR bindD bindX guardK guardD callB callD callX callP callPv rfunG rfunK yldB yldD
attribute [local go_sem] acs_nil acs_blk acs_skip acs_reg acs_dreg acs_freg acs_nam0 acs_nam nones acs_seq acs_cond acs_block acs_exit acs_ret acs_kl acs_loop leave_nil leave_code leave_lp leave_blk aopsK_nil aopsK_cons aopsK_guard bindR_val bindR_need bindR_br bindR_call bindR_ycall acs_rfun rfunG_fn bindR_bad drawK_nil drawK_cons drawK_ext drawK_pur drawK_guard callPv_fn drawK_purv bindD_val bindD_need bindD_br bindD_call bindD_ycall bindD_bad bindX_val bindX_need bindX_br bindX_call guardD_bool guardD_tup grows grows0 List.append_cancel_left_eq List.cons.injEq exists_eq' exists_eq condK_bool guardK_bool guardK_tup sor r0 r1 r2 r3 rC rB rI rP rA rT rS rF rSl rO rbin rcut run1 Env.evals Env.eval Env.get Env.put Env.ins Env.del Env.dels argEnv AV.full AV.cells AV.cell eqCells decide_true decide_false decide_eq_true_eq decide_eq_false_iff_not Bool.not_eq_true' Bool.not_eq_false' true_and and_true false_implies true_implies forall_const Bool.not_true Bool.not_false Bool.false_eq_true Bool.true_eq_false List.getElem?_cons_zero List.getElem?_cons_succ List.length_cons List.length_nil List.length_append List.all_cons List.all_nil Bool.and_true Bool.and_self implies_true List.append_assoc List.cons_append List.nil_append List.append_nil i64_in imin_eq imax_eq cast3 cast0 cast1 cast2 Option.map_none ite_self and_false false_and Option.isSome_some or_true true_or Int.sub_zero Int.mul_one Nat.sub_zero Nat.zero_le Int.cast_ofNat_Int Int.natCast_nonneg Int.toNat_natCast ne_eq not_false_eq_true not_true_eq_false strC blkAt_app blkAt_app0 blkAt_zero blkAt_succ List.set_cons_zero List.set_cons_succ set_app set_app0 Option.map_some Option.bind_some rd setCells lay rdS szOk rapp ownAt lenAt Option.any_some Option.getD_some List.drop_zero List.drop_succ_cons List.take_succ_cons List.take_zero List.drop_nil List.take_nil Nat.lt_irrefl Nat.zero_add Nat.add_zero Nat.mul_one Nat.one_mul Nat.add_assoc Option.some.injEq eq_self
set_option maxHeartbeats 4000000
set_option linter.unusedSimpArgs false
set_option linter.unusedVariables false
/-! A row's parts: a round. -/
theorem f11_body {H : Heap} {S L : AV} {l : List Int} {k p off m : Nat} {X : Heap} {Q : Post} (d : PI H S L l k X) (hs : Sl i64 H p off l) (hk : 8 * k < l.length) (hm : m = min 8 (l.length - 8 * k)) (hl : l.length ≤ 1000000) (hq : ∀ T' X', PI H S L l (k + 1) X' → Q .normal T' X') :
    acs Try.prog [.code c11l0] [(3, .ptr H.length 0), (4, .sl p (off + 8 * k) m 1 (some m))] X Q := by
  obtain ⟨w, h1, h2⟩ := d.b0
  have lt1 := blkAt_lt h1
  have l3 := blkAt_lt d.b3
  have hs2 := (d.ext.sl hs).drop (n := 8 * k) (by omega)
  have hs3 := hs2.take 8
  obtain ⟨cs, o, hp, hle, hcs⟩ := hs3
  have lp := blkAt_lt hp
  have hrl : ((l.drop (8 * k)).take 8).length = m := by simp; omega
  rw [hrl] at hle hcs
  have hm0 : ¬ m = 0 := by omega
  have hm8 : m ≤ 8 := by omega
  have hset := row8_set l k
  obtain ⟨y0, y1, y2, y3, y4, y5, y6, y7, hy⟩ : ∃ y0 y1 y2 y3 y4 y5 y6 y7, row8 l k = [y0, y1, y2, y3, y4, y5, y6, y7] := ⟨_, _, _, _, _, _, _, _, rfl⟩
  have hpc := pc_succ l k
  rw [hy] at hpc
  rw [hy, show ((l.drop (8 * k)).take 8).map (AV.int .i64) = List.take m (List.drop (off + 8 * k) cs) from hcs.symm] at hset
  have hall : (List.take m (List.drop (off + 8 * k) cs)).all AV.cell = true := by rw [hcs]; exact allMap _
  generalize hx : List.take m (List.drop (off + 8 * k) cs) = x at *
  unfold setCells at hset
  simp only [List.take_zero, List.nil_append, Nat.zero_add, List.replicate, List.map_cons, List.map_nil] at hset
  have hmin2 : min m 8 = m := by omega
  have hmin : min 8 m = m := by omega
  have hbig : (k + 1) * 64 ≤ 140737488355328 := by omega
  unfold c11l0
  rcases h2 with ⟨rfl, rfl⟩ | ⟨q, h3, rfl, h5⟩
  · simp only [Nat.mul_zero, Nat.add_zero] at *
    simp (maxSteps := 1000000) (disch := omega) only [go_sem, Nat.reduceEqDiff, Nat.reduceLT, Nat.reduceAdd, Nat.reduceSub, Nat.reduceMul, Nat.reduceBEq, Int.reduceLT, Int.reduceAdd, Int.reduceMul, Int.reduceSub, Int.reduceToNat, Int.reduceLE, Int.reduceEq, ↓reduceIte, reduceCtorEq, Int.reduceNeg, Nat.reduceLeDiff,  h1, lt1, hp, lp, blkAt_lo, set_lo, hm0, hle, hx, hall, hm8, hset, hmin2, hmin, Nat.le_refl, hbig]
    refine hq _ _ (d.next (q := X.length + 2) ((d.ext.set (by omega) _).to _) (fun i h6 h7 => ?_) (by omega) ?_ ?_)
    · rw [blkAt_lo _ (by rw [List.length_set]; omega), blkAt_set_ne (by omega)]
    · rw [blkAt_lo _ (by rw [List.length_set]; omega), blkAt_set_self lt1]
    · have := blkAt_app (X.set H.length (some ⟨[AV.sl (X.length + 2) 0 1 8 none], true⟩)) [some ⟨[AV.int .i64 y0, AV.int .i64 y1, AV.int .i64 y2, AV.int .i64 y3, AV.int .i64 y4, AV.int .i64 y5, AV.int .i64 y6, AV.int .i64 y7], true⟩, some ⟨[AV.int .i64 y0, AV.int .i64 y1, AV.int .i64 y2, AV.int .i64 y3, AV.int .i64 y4, AV.int .i64 y5, AV.int .i64 y6, AV.int .i64 y7], true⟩, some ⟨[AV.int .i64 y0, AV.int .i64 y1, AV.int .i64 y2, AV.int .i64 y3, AV.int .i64 y4, AV.int .i64 y5, AV.int .i64 y6, AV.int .i64 y7], true⟩] 2
      rw [List.length_set] at this
      rw [this, hpc]
      rfl
  · have lq := blkAt_lt h5
    have hle' : off + (8 * k + m) ≤ cs.length := by omega
    have hlP : ((pc l k).map (AV.int .i64)).length = k * 8 := by simp [pc]; omega
    have hP0 : List.take (k * 8) ((pc l k).map (AV.int .i64)) = (pc l k).map (AV.int .i64) := by rw [List.take_of_length_le (by rw [hlP]; exact Nat.le_refl _)]
    have hpc2 : (pc l (k + 1)).map (AV.int .i64) = (pc l k).map (AV.int .i64) ++ [AV.int .i64 y0, AV.int .i64 y1, AV.int .i64 y2, AV.int .i64 y3, AV.int .i64 y4, AV.int .i64 y5, AV.int .i64 y6, AV.int .i64 y7] := by rw [hpc, List.map_append]; rfl
    have h1' : ∀ G, blkAt (X.set q none ++ G) H.length = some ⟨[.sl q 0 k 8 none], true⟩ := fun G => by rw [blkAt_lo _ (by rw [List.length_set]; omega), blkAt_set_ne (by omega)]; exact h1
    generalize (pc l k).map (AV.int .i64) = P at *
    simp (maxSteps := 1000000) (disch := omega) only [go_sem, Nat.reduceEqDiff, Nat.reduceLT, Nat.reduceAdd, Nat.reduceSub, Nat.reduceMul, Nat.reduceBEq, Int.reduceLT, Int.reduceAdd, Int.reduceMul, Int.reduceSub, Int.reduceToNat, Int.reduceLE, Int.reduceEq, ↓reduceIte, reduceCtorEq, Int.reduceNeg, Nat.reduceLeDiff,  h1, lt1, hp, lp, h5, lq, blkAt_lo, set_lo, hm0, hle', hx, hall, hm8, hset, hmin2, hmin, Nat.le_refl, hbig, hlP, hP0, h1', List.length_set]
    refine hq _ _ (d.next (q := X.length + 2) (Ext.set (b := H.length) ((Ext.set (b := q) d.ext (by omega) none).to _) (by omega) _) (fun i h6 h7 => ?_) (by omega) ?_ ?_)
    · rw [blkAt_set_ne (by omega), blkAt_lo _ (by simp only [List.length_set]; omega), blkAt_set_ne (by omega)]
    · rw [blkAt_set_self (by simp only [List.length_append, List.length_set]; omega)]
    · have := blkAt_app (X.set q none) [some ⟨[AV.int .i64 y0, AV.int .i64 y1, AV.int .i64 y2, AV.int .i64 y3, AV.int .i64 y4, AV.int .i64 y5, AV.int .i64 y6, AV.int .i64 y7], true⟩, some ⟨[AV.int .i64 y0, AV.int .i64 y1, AV.int .i64 y2, AV.int .i64 y3, AV.int .i64 y4, AV.int .i64 y5, AV.int .i64 y6, AV.int .i64 y7], true⟩, some ⟨P ++ [AV.int .i64 y0, AV.int .i64 y1, AV.int .i64 y2, AV.int .i64 y3, AV.int .i64 y4, AV.int .i64 y5, AV.int .i64 y6, AV.int .i64 y7], true⟩] 2
      rw [List.length_set] at this
      rw [blkAt_set_ne (by omega), this, hpc2]
      rfl
theorem f11_nil {p off : Nat} {cp : Option Nat} {H : Heap} : ACallE Try.prog 11 [.sl p off 0 1 cp] H fun v H' => v = .nils := by
  refine acallE (fun v Hf h => acallK11 (by simp) h) (acs_start ?_)
  unfold c11
  simp (maxSteps := 1000000) (disch := omega) only [go_sem, Nat.reduceEqDiff, Nat.reduceLT, Nat.reduceAdd, Nat.reduceSub, Nat.reduceMul, Nat.reduceBEq, Int.reduceLT, Int.reduceAdd, Int.reduceMul, Int.reduceSub, Int.reduceToNat, Int.reduceLE, Int.reduceEq, ↓reduceIte, reduceCtorEq, Int.reduceNeg, Nat.reduceLeDiff]
  first | refine callB_intro (f19) ?_ | refine callD_intro (f19) ?_ | refine callP_intro (fun _ => (f19)) ?_ | refine callX_pure (f19) ?_
  simp (maxSteps := 1000000) (disch := omega) only [go_sem, Nat.reduceEqDiff, Nat.reduceLT, Nat.reduceAdd, Nat.reduceSub, Nat.reduceMul, Nat.reduceBEq, Int.reduceLT, Int.reduceAdd, Int.reduceMul, Int.reduceSub, Int.reduceToNat, Int.reduceLE, Int.reduceEq, ↓reduceIte, reduceCtorEq, Int.reduceNeg, Nat.reduceLeDiff]
  generalize loopB Try.prog 17 [8] c11l1 c11l0 _ = L at *
  refine ⟨hb22, rfunX (f22 (Inv := fun j X => PI H (.sl p off 0 1 cp) L [] j X) (L := 0) (fun j X d => ⟨⟨_, d.b1⟩, _, d.b2⟩) (by omega) (fun k X hk => absurd hk (by omega)) ?_) ?_⟩
  · exact ⟨(Ext.app _ _).to _, ⟨_, by simp only [go_sem, Nat.reduceEqDiff, Nat.reduceLT, Nat.reduceAdd, Nat.reduceSub, Nat.reduceMul, Nat.reduceBEq, Int.reduceLT, Int.reduceAdd, Int.reduceMul, Int.reduceSub, Int.reduceToNat, Int.reduceLE, Int.reduceEq, ↓reduceIte, reduceCtorEq, Int.reduceNeg, Nat.reduceLeDiff], .inl ⟨rfl, rfl⟩⟩, by simp only [go_sem, Nat.reduceEqDiff, Nat.reduceLT, Nat.reduceAdd, Nat.reduceSub, Nat.reduceMul, Nat.reduceBEq, Int.reduceLT, Int.reduceAdd, Int.reduceMul, Int.reduceSub, Int.reduceToNat, Int.reduceLE, Int.reduceEq, ↓reduceIte, reduceCtorEq, Int.reduceNeg, Nat.reduceLeDiff], by simp only [go_sem, Nat.reduceEqDiff, Nat.reduceLT, Nat.reduceAdd, Nat.reduceSub, Nat.reduceMul, Nat.reduceBEq, Int.reduceLT, Int.reduceAdd, Int.reduceMul, Int.reduceSub, Int.reduceToNat, Int.reduceLE, Int.reduceEq, ↓reduceIte, reduceCtorEq, Int.reduceNeg, Nat.reduceLeDiff], by simp only [go_sem, Nat.reduceEqDiff, Nat.reduceLT, Nat.reduceAdd, Nat.reduceSub, Nat.reduceMul, Nat.reduceBEq, Int.reduceLT, Int.reduceAdd, Int.reduceMul, Int.reduceSub, Int.reduceToNat, Int.reduceLE, Int.reduceEq, ↓reduceIte, reduceCtorEq, Int.reduceNeg, Nat.reduceLeDiff]⟩
  rintro v X ⟨rfl, d⟩
  obtain ⟨w, h2, h3⟩ := d.b0
  rcases h3 with ⟨_, rfl⟩ | ⟨q, h3, rfl, h5⟩
  · simp only [List.length_append, List.length_cons, List.length_nil, Nat.reduceAdd, Nat.zero_add]
    refine ⟨d.b3, ?_⟩
    have k0 : blkAt (X.set (H.length + 3) none) H.length = some ⟨[.nils], true⟩ := by rw [blkAt_set_ne (by omega)]; exact h2
    have kx : Ext H (X.set (H.length + 3) none) := d.ext.set (by omega) _
    generalize X.set (H.length + 3) none = Y at *
    simp (maxSteps := 1000000) (disch := omega) only [go_sem, Nat.reduceEqDiff, Nat.reduceLT, Nat.reduceAdd, Nat.reduceSub, Nat.reduceMul, Nat.reduceBEq, Int.reduceLT, Int.reduceAdd, Int.reduceMul, Int.reduceSub, Int.reduceToNat, Int.reduceLE, Int.reduceEq, ↓reduceIte, reduceCtorEq, Int.reduceNeg, Nat.reduceLeDiff,  k0]
    refine fin_e (by simp) (by simp (maxSteps := 1000000) (disch := omega) only [resVal, resAll, resOne, rs11, Env.get, go_sem, Nat.reduceEqDiff, Nat.reduceLT, Nat.reduceAdd, Nat.reduceSub, Nat.reduceMul, Nat.reduceBEq, Int.reduceLT, Int.reduceAdd, Int.reduceMul, Int.reduceSub, Int.reduceToNat, Int.reduceLE, Int.reduceEq, ↓reduceIte, reduceCtorEq, Int.reduceNeg, Nat.reduceLeDiff, ] <;> rfl) kx rfl
  · exact absurd h3.1 (by decide)
theorem f11 {l : List Int} {p off : Nat} {cp : Option Nat} {H : Heap} (hs : Sl i64 H p off l) (hl : l.length ≤ 1000000) (h0 : 0 < l.length) :
    ACallE Try.prog 11 [.sl p off l.length 1 cp] H fun v H' => ∃ q, v = .sl q 0 ((l.length + 7) / 8) 8 none ∧ blkAt H' q = some ⟨(pc l ((l.length + 7) / 8)).map (AV.int .i64), true⟩ ∧ H.length ≤ q := by
  refine acallE (fun v Hf h => acallK11 (by simp) h) (acs_start ?_)
  unfold c11
  simp (maxSteps := 1000000) (disch := omega) only [go_sem, Nat.reduceEqDiff, Nat.reduceLT, Nat.reduceAdd, Nat.reduceSub, Nat.reduceMul, Nat.reduceBEq, Int.reduceLT, Int.reduceAdd, Int.reduceMul, Int.reduceSub, Int.reduceToNat, Int.reduceLE, Int.reduceEq, ↓reduceIte, reduceCtorEq, Int.reduceNeg, Nat.reduceLeDiff]
  first | refine callB_intro (f19) ?_ | refine callD_intro (f19) ?_ | refine callP_intro (fun _ => (f19)) ?_ | refine callX_pure (f19) ?_
  simp (maxSteps := 1000000) (disch := omega) only [go_sem, Nat.reduceEqDiff, Nat.reduceLT, Nat.reduceAdd, Nat.reduceSub, Nat.reduceMul, Nat.reduceBEq, Int.reduceLT, Int.reduceAdd, Int.reduceMul, Int.reduceSub, Int.reduceToNat, Int.reduceLE, Int.reduceEq, ↓reduceIte, reduceCtorEq, Int.reduceNeg, Nat.reduceLeDiff]
  have hyl : ∀ (L : AV) (T : Env), T = [(3, .ptr H.length 0), (7, .fn (.func 22) [] [.ptr (H.length + 1) 0, .ptr (H.length + 2) 0])] → L = loopB Try.prog 17 [8] c11l1 c11l0 T → ∀ j X, 8 * j < l.length → PI H (.sl p off l.length 1 cp) L l j X →
      ∃ X', AYield Try.prog (H.length + 3) [.sl p (off + 8 * j) (min 8 (l.length - 8 * j)) 1 (some (min 8 (l.length - 8 * j)))] X (.bool true) X' ∧ PI H (.sl p off l.length 1 cp) L l (j + 1) X' := by
    rintro L T hT rfl j X hj d
    refine ayieldX d.b3 (by rw [hT]; rfl) rfl rfl rfl rfl (acs_start ?_)
    rw [hT]
    conv in Fr.code c11l1 => unfold c11l1
    simp (maxSteps := 1000000) (disch := omega) only [go_sem, Nat.reduceEqDiff, Nat.reduceLT, Nat.reduceAdd, Nat.reduceSub, Nat.reduceMul, Nat.reduceBEq, Int.reduceLT, Int.reduceAdd, Int.reduceMul, Int.reduceSub, Int.reduceToNat, Int.reduceLE, Int.reduceEq, ↓reduceIte, reduceCtorEq, Int.reduceNeg, Nat.reduceLeDiff,  puts]
    refine ⟨rfl, by rw [d.b3, hT], acs_start ?_⟩
    have d2 := d.turn (L2 := loopB Try.prog 17 [8] c11l1 c11l0 T false)
    rw [hT] at d2
    refine f11_body d2 hs hj rfl hl ?_
    intro T' X' d3
    refine ⟨rfl, d3.b3, ?_⟩
    rw [← hT]
    exact d3.turn
  have hy := hyl _ _ rfl rfl
  generalize loopB Try.prog 17 [8] c11l1 c11l0 _ = L at *
  refine ⟨hb22, rfunX (f22 (Inv := fun j X => PI H (.sl p off l.length 1 cp) L l j X) (L := l.length) (cp := cp) (fun j X d => ⟨⟨_, d.b1⟩, _, d.b2⟩) (by omega) hy ?_) ?_⟩
  · exact ⟨(Ext.app _ _).to _, ⟨_, by simp only [go_sem, Nat.reduceEqDiff, Nat.reduceLT, Nat.reduceAdd, Nat.reduceSub, Nat.reduceMul, Nat.reduceBEq, Int.reduceLT, Int.reduceAdd, Int.reduceMul, Int.reduceSub, Int.reduceToNat, Int.reduceLE, Int.reduceEq, ↓reduceIte, reduceCtorEq, Int.reduceNeg, Nat.reduceLeDiff], .inl ⟨rfl, rfl⟩⟩, by simp only [go_sem, Nat.reduceEqDiff, Nat.reduceLT, Nat.reduceAdd, Nat.reduceSub, Nat.reduceMul, Nat.reduceBEq, Int.reduceLT, Int.reduceAdd, Int.reduceMul, Int.reduceSub, Int.reduceToNat, Int.reduceLE, Int.reduceEq, ↓reduceIte, reduceCtorEq, Int.reduceNeg, Nat.reduceLeDiff], by simp only [go_sem, Nat.reduceEqDiff, Nat.reduceLT, Nat.reduceAdd, Nat.reduceSub, Nat.reduceMul, Nat.reduceBEq, Int.reduceLT, Int.reduceAdd, Int.reduceMul, Int.reduceSub, Int.reduceToNat, Int.reduceLE, Int.reduceEq, ↓reduceIte, reduceCtorEq, Int.reduceNeg, Nat.reduceLeDiff], by simp only [go_sem, Nat.reduceEqDiff, Nat.reduceLT, Nat.reduceAdd, Nat.reduceSub, Nat.reduceMul, Nat.reduceBEq, Int.reduceLT, Int.reduceAdd, Int.reduceMul, Int.reduceSub, Int.reduceToNat, Int.reduceLE, Int.reduceEq, ↓reduceIte, reduceCtorEq, Int.reduceNeg, Nat.reduceLeDiff]⟩
  rintro v X ⟨rfl, d⟩
  obtain ⟨w, h2, h3⟩ := d.b0
  rcases h3 with ⟨h3, _⟩ | ⟨q, h3, rfl, h5⟩
  · omega
  simp only [List.length_append, List.length_cons, List.length_nil, Nat.reduceAdd, Nat.zero_add]
  refine ⟨d.b3, ?_⟩
  have k0 : blkAt (X.set (H.length + 3) none) H.length = some ⟨[.sl q 0 ((l.length + 7) / 8) 8 none], true⟩ := by rw [blkAt_set_ne (by omega)]; exact h2
  have k5 : blkAt (X.set (H.length + 3) none) q = some ⟨(pc l ((l.length + 7) / 8)).map (AV.int .i64), true⟩ := by rw [blkAt_set_ne (by omega)]; exact h5
  have kx : Ext H (X.set (H.length + 3) none) := d.ext.set (by omega) _
  generalize X.set (H.length + 3) none = Y at *
  simp (maxSteps := 1000000) (disch := omega) only [go_sem, Nat.reduceEqDiff, Nat.reduceLT, Nat.reduceAdd, Nat.reduceSub, Nat.reduceMul, Nat.reduceBEq, Int.reduceLT, Int.reduceAdd, Int.reduceMul, Int.reduceSub, Int.reduceToNat, Int.reduceLE, Int.reduceEq, ↓reduceIte, reduceCtorEq, Int.reduceNeg, Nat.reduceLeDiff,  k0]
  refine fin_e (by simp) (by simp (maxSteps := 1000000) (disch := omega) only [resVal, resAll, resOne, rs11, Env.get, go_sem, Nat.reduceEqDiff, Nat.reduceLT, Nat.reduceAdd, Nat.reduceSub, Nat.reduceMul, Nat.reduceBEq, Int.reduceLT, Int.reduceAdd, Int.reduceMul, Int.reduceSub, Int.reduceToNat, Int.reduceLE, Int.reduceEq, ↓reduceIte, reduceCtorEq, Int.reduceNeg, Nat.reduceLeDiff, ] <;> rfl) kx ⟨_, rfl, k5, by omega⟩
end Go.Proofs.Ytlohehkagaabfaa.Ah
