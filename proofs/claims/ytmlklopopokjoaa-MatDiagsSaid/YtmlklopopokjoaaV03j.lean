/- V03j: a part of the proof: contracts of functions, or plain laws. Conditions: none. -/
import Derived.Test.YtmlklopopokjoaaV03i
namespace Go.Proofs.Ytmlklopopokjoaa.Ah
open Go Go.WideShapes
attribute [local irreducible] acs aopsK drawK leave condK bindR bindD bindX guardK guardD callB callD callX callP callPv
attribute [local go_sem] acs_nil acs_blk acs_skip acs_reg acs_dreg acs_freg acs_nam0 acs_nam nones acs_seq acs_cond acs_block acs_exit acs_ret acs_kl acs_loop leave_nil leave_code leave_lp leave_blk aopsK_nil aopsK_cons aopsK_guard bindR_val bindR_need bindR_br bindR_call bindR_bad drawK_nil drawK_cons drawK_ext drawK_pur drawK_guard callPv_fn drawK_purv bindD_val bindD_need bindD_br bindD_call bindD_bad bindX_val bindX_need bindX_br bindX_call guardD_bool guardD_tup grows grows0 List.append_cancel_left_eq List.cons.injEq exists_eq' exists_eq condK_bool guardK_bool guardK_tup sor r0 r1 r2 r3 rC rB rI rP rA rT rS rF rSl rO rbin rcut run1 Env.evals Env.eval Env.get Env.put Env.ins Env.del Env.dels argEnv AV.full AV.cells AV.cell eqCells decide_true decide_false decide_eq_true_eq decide_eq_false_iff_not Bool.not_eq_true' Bool.not_eq_false' true_and and_true false_implies true_implies forall_const Bool.not_true Bool.not_false Bool.false_eq_true Bool.true_eq_false List.getElem?_cons_zero List.getElem?_cons_succ List.length_cons List.length_nil List.length_append List.all_cons List.all_nil Bool.and_true Bool.and_self implies_true List.append_assoc List.cons_append List.nil_append List.append_nil i64_in imin_eq imax_eq cast3 cast0 cast1 cast2 Option.map_none ite_self and_false false_and Option.isSome_some or_true true_or Int.sub_zero Int.mul_one Nat.sub_zero Nat.zero_le Int.cast_ofNat_Int Int.natCast_nonneg Int.toNat_natCast ne_eq not_false_eq_true not_true_eq_false strC blkAt_app blkAt_app0 blkAt_zero blkAt_succ List.set_cons_zero List.set_cons_succ set_app set_app0 Option.map_some Option.bind_some rd setCells lay rdS szOk rapp ownAt lenAt Option.any_some Option.getD_some List.drop_zero List.drop_succ_cons List.take_succ_cons List.take_zero List.drop_nil List.take_nil Nat.lt_irrefl Nat.zero_add Nat.add_zero Nat.mul_one Nat.one_mul Nat.add_assoc Option.some.injEq eq_self
set_option maxHeartbeats 4000000
set_option linter.unusedSimpArgs false
set_option linter.unusedVariables false
/-! The example. -/
theorem Sl.fill {α : Type} {f : α → AV} {H : Heap} {p off b : Nat} {zs : List α} (hs : Sl f H p off zs) (hb : H[b]? = some none) (x : Option Blk) : Sl f (H.set b x) p off zs := by
  have : H.set b none = H := by
    apply List.ext_getElem?
    intro i
    by_cases h : b = i
    · subst h
      rw [List.getElem?_set_self (List.getElem?_eq_some_iff.1 hb).1, hb]
    · rw [List.getElem?_set_ne h]
  refine Sl.unset ?_ x
  rw [this]
  exact hs
theorem matL_in {q : Nat → Nat → Int} {c : Nat} : ∀ {r : Nat}, (∀ i k, i < r → k < c → InB (q i k)) → ∀ x ∈ matL q r c, InB x := by
  intro r h x hx
  unfold matL rowL at hx
  simp only [List.mem_flatMap, List.mem_range, List.mem_map] at hx
  obtain ⟨i, hi, k, hk, rfl⟩ := hx
  exact h i k hi hk
def exM (p : Nat) (k : Option Nat) : Mx := ⟨1, 2, [16777216, 33554432], p, 0, k⟩
theorem ex_t : matL (fun i k => ([16777216, 33554432] : List Int).getD (k * 2 + i) 0) 2 1 = [16777216, 33554432] := by decide +kernel
theorem ex_m : matL (fun i k => (dot (fun j => ([16777216, 33554432] : List Int).getD (i * 2 + j) 0) (fun j => ([16777216, 33554432] : List Int).getD (j * 1 + k) 0) 2).1) 1 1 = [83886080] := by decide +kernel
theorem ex_o : matO (fun i k => (dot (fun j => ([16777216, 33554432] : List Int).getD (i * 2 + j) 0) (fun j => ([16777216, 33554432] : List Int).getD (j * 1 + k) 0) 2).2) 1 1 = false := by decide +kernel
theorem ex_r : rightB 1 1 [83886080] = true := by decide +kernel
theorem f9 {H : Heap} : ACall Try.prog 9 [] H (.bool true) H := by
  refine acall9 (by simp) (acs_start ?_)
  have h0 : ∀ G : Heap, (exM H.length (some 2)).ok (H ++ (some ⟨[.int .i64 16777216, .int .i64 33554432], true⟩ :: G)) := by
    intro G
    refine ⟨⟨Nat.zero_lt_one, show 1 ≤ 8 by decide⟩, ⟨show 0 < 2 by decide, show 2 ≤ 8 by decide⟩, rfl, ?_, Sl.whole (o := true) (by simp only [exM, go_sem, Nat.reduceEqDiff, Nat.reduceLT, Nat.reduceAdd, Nat.reduceSub, Nat.reduceMul, Nat.reduceBEq, Int.reduceLT, Int.reduceAdd, Int.reduceMul, Int.reduceSub, Int.reduceToNat, Int.reduceLE, Int.reduceEq, ↓reduceIte, reduceCtorEq, Int.reduceNeg, Nat.reduceLeDiff]; rfl)⟩
    intro x hx
    simp only [exM, List.mem_cons, List.not_mem_nil, or_false] at hx
    rcases hx with rfl | rfl <;> exact ⟨by decide, by decide⟩
  have e1 : matL (fun i k => (exM H.length (some 2)).at k i) (exM H.length (some 2)).c (exM H.length (some 2)).r = [16777216, 33554432] := ex_t
  have g17 : ∀ G : Heap, ACallE Try.prog 17 [.agg [.int .i64 1, .int .i64 2, .sl H.length 0 2 1 (some 2)]] (H ++ (some ⟨[.int .i64 16777216, .int .i64 33554432], true⟩ :: G)) (fun v H' => ∃ w, v = .agg [.int .i64 2, .int .i64 1, w] ∧ Rw i64 H' w [16777216, 33554432]) := fun G => by
    have := f17 (h0 G)
    rw [e1] at this
    exact this
  unfold c9
  simp (maxSteps := 1000000) (disch := omega) only [go_sem, Nat.reduceEqDiff, Nat.reduceLT, Nat.reduceAdd, Nat.reduceSub, Nat.reduceMul, Nat.reduceBEq, Int.reduceLT, Int.reduceAdd, Int.reduceMul, Int.reduceSub, Int.reduceToNat, Int.reduceLE, Int.reduceEq, ↓reduceIte, reduceCtorEq, Int.reduceNeg, Nat.reduceLeDiff]
  first | refine callBE (g17 _) ?_ | refine callDE (g17 _) ?_ | refine callXE (g17 _) ?_
  rintro v H1 ⟨G1, rfl⟩ ⟨w, rfl, p, off, kk, rfl, hs⟩
  have hn : Mx.ok ⟨2, 1, [16777216, 33554432], p, off, kk⟩ (H ++ (some ⟨[.int .i64 16777216, .int .i64 33554432], true⟩ :: some ⟨[.int .i64 1, .int .i64 2, .sl H.length 0 2 1 (some 2)], true⟩ :: none :: G1)) := by
    refine ⟨⟨show 0 < 2 by decide, show 2 ≤ 8 by decide⟩, ⟨show 0 < 1 by decide, show 1 ≤ 8 by decide⟩, rfl, ?_, by simpa using hs⟩
    intro x hx
    simp only [List.mem_cons, List.not_mem_nil, or_false] at hx
    rcases hx with rfl | rfl <;> exact ⟨by decide, by decide⟩
  have g20 := f20 (h0 _) hn rfl
  have e2 : mulL (exM H.length (some 2)) ⟨2, 1, [16777216, 33554432], p, off, kk⟩ = [83886080] := ex_m
  have e3 : mulO (exM H.length (some 2)) ⟨2, 1, [16777216, 33554432], p, off, kk⟩ = false := ex_o
  rw [e2, e3] at g20
  have g20' : ACallE Try.prog 20 [.agg [.int .i64 1, .int .i64 2, .sl H.length 0 2 1 (some 2)], .agg [.int .i64 2, .int .i64 1, .sl p off 2 1 kk]] (H ++ (some ⟨[.int .i64 16777216, .int .i64 33554432], true⟩ :: some ⟨[.int .i64 1, .int .i64 2, .sl H.length 0 2 1 (some 2)], true⟩ :: none :: G1)) (fun z H' => ∃ w, z = .tup [.agg [.int .i64 1, .int .i64 1, w], .bool false, .int .i64 0] ∧ Rw i64 H' w [83886080]) := g20
  simp (maxSteps := 1000000) (disch := omega) only [go_sem, Nat.reduceEqDiff, Nat.reduceLT, Nat.reduceAdd, Nat.reduceSub, Nat.reduceMul, Nat.reduceBEq, Int.reduceLT, Int.reduceAdd, Int.reduceMul, Int.reduceSub, Int.reduceToNat, Int.reduceLE, Int.reduceEq, ↓reduceIte, reduceCtorEq, Int.reduceNeg, Nat.reduceLeDiff]
  first | refine callBE (g20') ?_ | refine callDE (g20') ?_ | refine callXE (g20') ?_
  rintro v H2 ⟨G2, rfl⟩ ⟨w, rfl, p2, o2, k2, rfl, hs2⟩
  have hs3 := fun x => Sl.fill hs2 (b := H.length + 2) (by simp) x
  simp only [go_sem, Nat.reduceEqDiff, Nat.reduceLT, Nat.reduceAdd, Nat.reduceSub, Nat.reduceMul, Nat.reduceBEq, Int.reduceLT, Int.reduceAdd, Int.reduceMul, Int.reduceSub, Int.reduceToNat, Int.reduceLE, Int.reduceEq, ↓reduceIte, reduceCtorEq, Int.reduceNeg, Nat.reduceLeDiff] at hs3
  have g24 := fun x => f24 (R := 1) (C := 1) (k := k2) (hs3 x) (by decide)
  rw [ex_r] at g24
  obtain ⟨cs, oo, hp, hle, hcs⟩ := hs3 (some ⟨[.int .i64 1, .int .i64 1, .sl p2 o2 1 1 k2], true⟩)
  have fx : cs[o2]? = some (.int .i64 83886080) := by have := sl_get hcs (j := 0) (z := 83886080) rfl; rwa [Nat.add_zero] at this
  simp only [go_sem, Nat.reduceEqDiff, Nat.reduceLT, Nat.reduceAdd, Nat.reduceSub, Nat.reduceMul, Nat.reduceBEq, Int.reduceLT, Int.reduceAdd, Int.reduceMul, Int.reduceSub, Int.reduceToNat, Int.reduceLE, Int.reduceEq, ↓reduceIte, reduceCtorEq, Int.reduceNeg, Nat.reduceLeDiff] at hp g24
  simp (maxSteps := 1000000) (disch := omega) only [go_sem, Nat.reduceEqDiff, Nat.reduceLT, Nat.reduceAdd, Nat.reduceSub, Nat.reduceMul, Nat.reduceBEq, Int.reduceLT, Int.reduceAdd, Int.reduceMul, Int.reduceSub, Int.reduceToNat, Int.reduceLE, Int.reduceEq, ↓reduceIte, reduceCtorEq, Int.reduceNeg, Nat.reduceLeDiff,  hp, fx]
  first | refine callB_intro (g24 _) ?_ | refine callD_intro (g24 _) ?_ | refine callP_intro (fun _ => (g24 _)) ?_ | refine callX_pure (g24 _) ?_
  simp (maxSteps := 1000000) (disch := omega) only [go_sem, Nat.reduceEqDiff, Nat.reduceLT, Nat.reduceAdd, Nat.reduceSub, Nat.reduceMul, Nat.reduceBEq, Int.reduceLT, Int.reduceAdd, Int.reduceMul, Int.reduceSub, Int.reduceToNat, Int.reduceLE, Int.reduceEq, ↓reduceIte, reduceCtorEq, Int.reduceNeg, Nat.reduceLeDiff]
  exact fin_same (by simp) _ (by first | exact (List.append_nil _).symm | rfl) (by simp (maxSteps := 1000000) (disch := omega) only [resVal, resAll, resOne, rs9, Env.get, go_sem, Nat.reduceEqDiff, Nat.reduceLT, Nat.reduceAdd, Nat.reduceSub, Nat.reduceMul, Nat.reduceBEq, Int.reduceLT, Int.reduceAdd, Int.reduceMul, Int.reduceSub, Int.reduceToNat, Int.reduceLE, Int.reduceEq, ↓reduceIte, reduceCtorEq, Int.reduceNeg, Nat.reduceLeDiff]) (by simp only [AV.und, AV.unds, and_self])
end Go.Proofs.Ytmlklopopokjoaa.Ah
