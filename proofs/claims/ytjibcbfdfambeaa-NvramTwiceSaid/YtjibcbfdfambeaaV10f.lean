/- V10f: a part of the proof: contracts of functions, or plain laws. Conditions: none. -/
import Derived.Test.YtjibcbfdfambeaaV10e
namespace Go.Proofs.Ytjibcbfdfambeaa.Ah
open Go
attribute [local irreducible] acs aopsK drawK leave condK bindR bindD bindX guardK guardD callB callD callX callP callPv
attribute [local go_sem] acs_nil acs_blk acs_skip acs_reg acs_dreg acs_freg acs_nam0 acs_nam nones acs_seq acs_cond acs_block acs_exit acs_ret acs_kl acs_loop leave_nil leave_code leave_lp leave_blk aopsK_nil aopsK_cons aopsK_guard bindR_val bindR_need bindR_br bindR_call bindR_bad drawK_nil drawK_cons drawK_ext drawK_pur drawK_guard callPv_fn drawK_purv bindD_val bindD_need bindD_br bindD_call bindD_bad bindX_val bindX_need bindX_br bindX_call guardD_bool guardD_tup grows grows0 List.append_cancel_left_eq List.cons.injEq exists_eq' exists_eq condK_bool guardK_bool guardK_tup sor r0 r1 r2 r3 rC rB rI rP rA rT rS rF rSl rO rbin rcut run1 Env.evals Env.eval Env.get Env.put Env.ins Env.del Env.dels argEnv AV.full AV.cells AV.cell eqCells decide_true decide_false decide_eq_true_eq decide_eq_false_iff_not Bool.not_eq_true' Bool.not_eq_false' true_and and_true false_implies true_implies forall_const Bool.not_true Bool.not_false Bool.false_eq_true Bool.true_eq_false List.getElem?_cons_zero List.getElem?_cons_succ List.length_cons List.length_nil List.length_append List.all_cons List.all_nil Bool.and_true Bool.and_self implies_true List.append_assoc List.cons_append List.nil_append List.append_nil i64_in imin_eq imax_eq cast3 cast0 cast1 cast2 Option.map_none ite_self and_false false_and Option.isSome_some or_true true_or Int.sub_zero Int.mul_one Nat.sub_zero Nat.zero_le Int.cast_ofNat_Int Int.natCast_nonneg Int.toNat_natCast ne_eq not_false_eq_true not_true_eq_false strC blkAt_app blkAt_app0 blkAt_zero blkAt_succ List.set_cons_zero List.set_cons_succ set_app set_app0 Option.map_some Option.bind_some rd setCells lay rdS szOk rapp ownAt lenAt Option.any_some Option.getD_some List.drop_zero List.drop_succ_cons List.take_succ_cons List.take_zero List.drop_nil List.take_nil Nat.lt_irrefl Nat.zero_add Nat.add_zero Nat.mul_one Nat.one_mul Nat.add_assoc Option.some.injEq eq_self
set_option maxHeartbeats 4000000
set_option linter.unusedSimpArgs false
set_option linter.unusedVariables false
/-! Contracts: copies of words, joined words. -/
theorem f26_nil (H : Heap) : ACall Try.prog 26 [.nils] H .nils H := by
  refine acall26 (by simp) (acs_start ?_)
  unfold c26
  simp (maxSteps := 1000000) (disch := omega) only [go_sem, Nat.reduceEqDiff, Nat.reduceLT, Nat.reduceAdd, Nat.reduceSub, Nat.reduceMul, Nat.reduceBEq, Int.reduceLT, Int.reduceAdd, Int.reduceMul, Int.reduceSub, Int.reduceToNat, Int.reduceLE, Int.reduceEq, ↓reduceIte, reduceCtorEq, Int.reduceNeg, Nat.reduceLeDiff]
  exact fin_same (by simp) _ (by first | exact (List.append_nil _).symm | rfl) (by simp (maxSteps := 1000000) (disch := omega) only [resVal, resAll, resOne, rs26, Env.get, go_sem, Nat.reduceEqDiff, Nat.reduceLT, Nat.reduceAdd, Nat.reduceSub, Nat.reduceMul, Nat.reduceBEq, Int.reduceLT, Int.reduceAdd, Int.reduceMul, Int.reduceSub, Int.reduceToNat, Int.reduceLE, Int.reduceEq, ↓reduceIte, reduceCtorEq, Int.reduceNeg, Nat.reduceLeDiff]) (by simp only [AV.und, AV.unds, and_self])
theorem f26_sl {xs : List Int} {p off : Nat} {c1 : Option Nat} {H : Heap} (hx : Sl i64 H p off xs) (hn : 0 < xs.length) (hl : xs.length ≤ 5000) :
    ACall Try.prog 26 [.sl p off xs.length 1 c1] H (.sl H.length 0 xs.length 1 none) (H ++ [some ⟨xs.map i64, false⟩]) := by
  refine acall26 (by simp) (acs_start ?_)
  have hpl := hx.lt
  obtain ⟨cs, o, hp, hle, hcs⟩ := hx
  have hz : ¬ xs.length = 0 := by omega
  unfold c26
  simp (maxSteps := 1000000) (disch := omega) only [go_sem, Nat.reduceEqDiff, Nat.reduceLT, Nat.reduceAdd, Nat.reduceSub, Nat.reduceMul, Nat.reduceBEq, Int.reduceLT, Int.reduceAdd, Int.reduceMul, Int.reduceSub, Int.reduceToNat, Int.reduceLE, Int.reduceEq, ↓reduceIte, reduceCtorEq, Int.reduceNeg, Nat.reduceLeDiff,  blkAt_lo, hpl, hp, hle, hcs, hn, true_or, hz]
  exact ⟨by omega, fin_oneF [some ⟨[], true⟩, some ⟨xs.map i64, true⟩] 1 _ (by simp) rfl rfl (undMapF (fun z => by simp [i64, AV.und]) _) (by simp only [resVal, resAll, resOne, rs26, Env.get, go_sem, Nat.reduceEqDiff, Nat.reduceLT, Nat.reduceAdd, Nat.reduceSub, Nat.reduceMul, Nat.reduceBEq, Int.reduceLT, Int.reduceAdd, Int.reduceMul, Int.reduceSub, Int.reduceToNat, Int.reduceLE, Int.reduceEq, ↓reduceIte, reduceCtorEq, Int.reduceNeg, Nat.reduceLeDiff]; rfl) (by simp [AV.ren]) (by simp [AV.und])⟩
theorem f26_emp {p off k : Nat} {H : Heap} {o : Bool} {cs : List AV} (hp : blkAt H p = some ⟨cs, o⟩) (hle : off ≤ cs.length) : ACall Try.prog 26 [.sl p off 0 1 (some k)] H (.sl H.length 0 0 1 none) (H ++ [some ⟨[], false⟩]) := by
  refine acallW (fun v' h => acall26 (by simp) h) (acs_start ?_)
  have hpl := blkAt_lt hp
  unfold c26
  simp (maxSteps := 1000000) (disch := omega) only [go_sem, Nat.reduceEqDiff, Nat.reduceLT, Nat.reduceAdd, Nat.reduceSub, Nat.reduceMul, Nat.reduceBEq, Int.reduceLT, Int.reduceAdd, Int.reduceMul, Int.reduceSub, Int.reduceToNat, Int.reduceLE, Int.reduceEq, ↓reduceIte, reduceCtorEq, Int.reduceNeg, Nat.reduceLeDiff,  blkAt_lo, hpl, hp, hle, Option.isSome_some, or_true]
  exact ⟨.sl H.length 0 0 1 (some 0), sl_weak, fin_oneF [some ⟨[], true⟩] 0 _ (by simp) rfl rfl trivial (by simp only [resVal, resAll, resOne, rs26, Env.get, go_sem, Nat.reduceEqDiff, Nat.reduceLT, Nat.reduceAdd, Nat.reduceSub, Nat.reduceMul, Nat.reduceBEq, Int.reduceLT, Int.reduceAdd, Int.reduceMul, Int.reduceSub, Int.reduceToNat, Int.reduceLE, Int.reduceEq, ↓reduceIte, reduceCtorEq, Int.reduceNeg, Nat.reduceLeDiff]; rfl) (by simp [AV.ren]) (by simp [AV.und])⟩
theorem f26 {xs : List Int} {p off : Nat} {H : Heap} (c1 : Option Nat) (hx : Sl i64 H p off xs) (hl : xs.length ≤ 5000) :
    ACall Try.prog 26 [.sl p off xs.length 1 c1] H (.sl H.length 0 xs.length 1 none) (H ++ [some ⟨xs.map i64, false⟩]) := by
  by_cases hn : 0 < xs.length
  · exact f26_sl hx hn hl
  · obtain rfl : xs = [] := List.eq_nil_of_length_eq_zero (by omega)
    obtain ⟨cs, o, hp, hle, _⟩ := hx
    simp only [List.length_nil, List.map_nil]
    cases c1 with
    | some k => exact f26_emp hp (by simpa using hle)
    | none => exact call_empty (call_nilres (f26_nil H)) (fun k => f26_emp hp (by simpa using hle))
theorem f36 {n : Nat} {H : Heap} (hn : 0 < n) (hl : n ≤ 5000) : ACall Try.prog 36 [.nils, .int .i64 (n : Nat)] H (.sl H.length 0 0 1 none) (H ++ [some ⟨List.replicate n (.int .i64 0), true⟩]) := by
  refine acall36 (by simp) (acs_start ?_)
  have h1 : ¬ (n : Int) < 0 := by omega
  have h2 : (0 : Int) < (n : Int) := by omega
  have h3 : (n : Int) * 8 ≤ 140737488355328 := by omega
  have hrep : (List.replicate n [AV.int IntKind.i64 0]).flatten = List.replicate n (AV.int .i64 0) := by
    clear hn hl h1 h2 h3
    induction n with
    | zero => rfl
    | succ n ih => rw [List.replicate_succ, List.replicate_succ, List.flatten_cons, ih]; rfl
  unfold c36
  simp (maxSteps := 1000000) (disch := omega) only [go_sem, Nat.reduceEqDiff, Nat.reduceLT, Nat.reduceAdd, Nat.reduceSub, Nat.reduceMul, Nat.reduceBEq, Int.reduceLT, Int.reduceAdd, Int.reduceMul, Int.reduceSub, Int.reduceToNat, Int.reduceLE, Int.reduceEq, ↓reduceIte, reduceCtorEq, Int.reduceNeg, Nat.reduceLeDiff,  h1, h2, h3, hrep]
  exact fin_one [some _] 0 _ (by simp) rfl rfl (AV.unds_of_get fun j v hv => by
    rw [List.getElem?_replicate] at hv
    split at hv
    · cases hv; trivial
    · cases hv) (by simp only [resVal, resAll, resOne, rs36, Env.get, go_sem, Nat.reduceEqDiff, Nat.reduceLT, Nat.reduceAdd, Nat.reduceSub, Nat.reduceMul, Nat.reduceBEq, Int.reduceLT, Int.reduceAdd, Int.reduceMul, Int.reduceSub, Int.reduceToNat, Int.reduceLE, Int.reduceEq, ↓reduceIte, reduceCtorEq, Int.reduceNeg, Nat.reduceLeDiff]; rfl) (by simp [AV.ren]) (by simp [AV.und])
theorem f27 {xs ys : List Int} {p off q off2 : Nat} {c1 c2 c3 : Option Nat} {r : Nat} {o : Bool} {H : Heap} (hx : Sl i64 H p off xs) (hy : Sl i64 H q off2 ys) (hr : blkAt H r = some ⟨[.sl p off xs.length 1 c1, .sl q off2 ys.length 1 c2], o⟩) (hn : 0 < xs.length) (hl : xs.length ≤ 2000) (hl2 : ys.length ≤ 2000) :
    ACall Try.prog 27 [.sl r 0 2 1 c3] H (.sl H.length 0 (xs.length + ys.length) 1 none) (H ++ [some ⟨(xs ++ ys).map i64, true⟩]) := by
  refine acall27 (by simp) (acs_start ?_)
  have hpl := hx.lt
  have hql := hy.lt
  have hrl := blkAt_lt hr
  have g := fun H => f36 (H := H) (n := xs.length + ys.length) (by omega) (by omega)
  simp only [List.append_assoc, List.cons_append, List.nil_append, List.length_append, List.length_cons, List.length_nil, Nat.reduceAdd, Nat.add_assoc, Nat.zero_add, Nat.add_zero, Int.natCast_add, Int.cast_ofNat_Int, ] at g
  obtain ⟨cs, o1, hp, hle, hcs⟩ := hx
  obtain ⟨ds, o2, hq, hle2, hds⟩ := hy
  have h0 : ¬ xs.length = 0 := by omega
  have n1 : ¬ (xs.length : Int) < 0 := by omega
  have n2 : ¬ (xs.length : Int) + (ys.length : Int) < 0 := by omega
  have hall : (ys.map i64).all AV.cell = true := by simp [i64, AV.cell]
  have hall2 : (xs.map i64).all AV.cell = true := by simp [i64, AV.cell]
  have n3 : xs.length * 8 ≤ 140737488355328 := by omega
  have n4 : (xs.length + ys.length) * 8 ≤ 140737488355328 := by omega
  have htk : List.take xs.length (List.map i64 xs) = List.map i64 xs := takeMapF xs
  unfold c27
  simp (maxSteps := 1000000) (disch := omega) only [go_sem, Nat.reduceEqDiff, Nat.reduceLT, Nat.reduceAdd, Nat.reduceSub, Nat.reduceMul, Nat.reduceBEq, Int.reduceLT, Int.reduceAdd, Int.reduceMul, Int.reduceSub, Int.reduceToNat, Int.reduceLE, Int.reduceEq, ↓reduceIte, reduceCtorEq, Int.reduceNeg, Nat.reduceLeDiff,  hr]
  rw [acs_lp]; conv in Fr.code c27l1 => unfold c27l1
  simp (maxSteps := 1000000) (disch := omega) only [go_sem, Nat.reduceEqDiff, Nat.reduceLT, Nat.reduceAdd, Nat.reduceSub, Nat.reduceMul, Nat.reduceBEq, Int.reduceLT, Int.reduceAdd, Int.reduceMul, Int.reduceSub, Int.reduceToNat, Int.reduceLE, Int.reduceEq, ↓reduceIte, reduceCtorEq, Int.reduceNeg, Nat.reduceLeDiff,  hr, n1, Int.zero_add]
  rw [acs_lp]; conv in Fr.code c27l1 => unfold c27l1
  simp (maxSteps := 1000000) (disch := omega) only [go_sem, Nat.reduceEqDiff, Nat.reduceLT, Nat.reduceAdd, Nat.reduceSub, Nat.reduceMul, Nat.reduceBEq, Int.reduceLT, Int.reduceAdd, Int.reduceMul, Int.reduceSub, Int.reduceToNat, Int.reduceLE, Int.reduceEq, ↓reduceIte, reduceCtorEq, Int.reduceNeg, Nat.reduceLeDiff,  hr, n2]
  rw [acs_lp]; conv in Fr.code c27l1 => unfold c27l1
  simp (maxSteps := 1000000) (disch := omega) only [go_sem, Nat.reduceEqDiff, Nat.reduceLT, Nat.reduceAdd, Nat.reduceSub, Nat.reduceMul, Nat.reduceBEq, Int.reduceLT, Int.reduceAdd, Int.reduceMul, Int.reduceSub, Int.reduceToNat, Int.reduceLE, Int.reduceEq, ↓reduceIte, reduceCtorEq, Int.reduceNeg, Nat.reduceLeDiff,  hr]
  first | refine callB_intro (g _) ?_ | refine callD_intro (g _) ?_ | refine callP_intro (fun _ => (g _)) ?_ | refine callX_pure (g _) ?_
  simp (maxSteps := 1000000) (disch := omega) only [go_sem, Nat.reduceEqDiff, Nat.reduceLT, Nat.reduceAdd, Nat.reduceSub, Nat.reduceMul, Nat.reduceBEq, Int.reduceLT, Int.reduceAdd, Int.reduceMul, Int.reduceSub, Int.reduceToNat, Int.reduceLE, Int.reduceEq, ↓reduceIte, reduceCtorEq, Int.reduceNeg, Nat.reduceLeDiff]
  rw [acs_lp]; conv in Fr.code c27l0 => unfold c27l0
  simp (maxSteps := 1000000) (disch := omega) only [go_sem, Nat.reduceEqDiff, Nat.reduceLT, Nat.reduceAdd, Nat.reduceSub, Nat.reduceMul, Nat.reduceBEq, Int.reduceLT, Int.reduceAdd, Int.reduceMul, Int.reduceSub, Int.reduceToNat, Int.reduceLE, Int.reduceEq, ↓reduceIte, reduceCtorEq, Int.reduceNeg, Nat.reduceLeDiff,  blkAt_lo, hrl, hpl, hr, hp, hle, hcs, h0, hall2, n3]
  rw [acs_lp]; conv in Fr.code c27l0 => unfold c27l0
  simp (maxSteps := 1000000) (disch := omega) only [go_sem, Nat.reduceEqDiff, Nat.reduceLT, Nat.reduceAdd, Nat.reduceSub, Nat.reduceMul, Nat.reduceBEq, Int.reduceLT, Int.reduceAdd, Int.reduceMul, Int.reduceSub, Int.reduceToNat, Int.reduceLE, Int.reduceEq, ↓reduceIte, reduceCtorEq, Int.reduceNeg, Nat.reduceLeDiff,  blkAt_lo, hrl, hql, hr, hq, hle2, hds, hall, List.length_map, Nat.le_refl, htk, n4]
  refine ⟨fun h1 => ?_, fun h1 => ?_⟩
  · obtain rfl : ys = [] := List.eq_nil_of_length_eq_zero h1
    rw [acs_lp]; conv in Fr.code c27l0 => unfold c27l0
    simp (maxSteps := 1000000) (disch := omega) only [go_sem, Nat.reduceEqDiff, Nat.reduceLT, Nat.reduceAdd, Nat.reduceSub, Nat.reduceMul, Nat.reduceBEq, Int.reduceLT, Int.reduceAdd, Int.reduceMul, Int.reduceSub, Int.reduceToNat, Int.reduceLE, Int.reduceEq, ↓reduceIte, reduceCtorEq, Int.reduceNeg, Nat.reduceLeDiff]
    exact fin_one _ 1 _ (by simp) rfl (by simp) (undMapF (fun z => by simp [i64, AV.und]) _) (by simp only [resVal, resAll, resOne, rs27, Env.get, go_sem, Nat.reduceEqDiff, Nat.reduceLT, Nat.reduceAdd, Nat.reduceSub, Nat.reduceMul, Nat.reduceBEq, Int.reduceLT, Int.reduceAdd, Int.reduceMul, Int.reduceSub, Int.reduceToNat, Int.reduceLE, Int.reduceEq, ↓reduceIte, reduceCtorEq, Int.reduceNeg, Nat.reduceLeDiff]; rfl) (by simp [AV.ren]) (by simp [AV.und])
  · rw [acs_lp]; conv in Fr.code c27l0 => unfold c27l0
    simp (maxSteps := 1000000) (disch := omega) only [go_sem, Nat.reduceEqDiff, Nat.reduceLT, Nat.reduceAdd, Nat.reduceSub, Nat.reduceMul, Nat.reduceBEq, Int.reduceLT, Int.reduceAdd, Int.reduceMul, Int.reduceSub, Int.reduceToNat, Int.reduceLE, Int.reduceEq, ↓reduceIte, reduceCtorEq, Int.reduceNeg, Nat.reduceLeDiff]
    exact fin_one _ 2 _ (by simp) rfl (by simp) (undMapF (fun z => by simp [i64, AV.und]) _) (by simp only [resVal, resAll, resOne, rs27, Env.get, go_sem, Nat.reduceEqDiff, Nat.reduceLT, Nat.reduceAdd, Nat.reduceSub, Nat.reduceMul, Nat.reduceBEq, Int.reduceLT, Int.reduceAdd, Int.reduceMul, Int.reduceSub, Int.reduceToNat, Int.reduceLE, Int.reduceEq, ↓reduceIte, reduceCtorEq, Int.reduceNeg, Nat.reduceLeDiff]; rfl) (by simp [AV.ren]) (by simp [AV.und])
end Go.Proofs.Ytjibcbfdfambeaa.Ah
