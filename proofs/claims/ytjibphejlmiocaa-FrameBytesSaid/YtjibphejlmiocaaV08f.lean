/- V08f: a part of the proof: contracts of functions, or plain laws. Conditions: none. -/
import Derived.Test.YtjibphejlmiocaaV08e
namespace Go.Proofs.Ytjibphejlmiocaa.Ah
open Go
attribute [local irreducible] acs aopsK drawK leave condK bindR bindD bindX guardK guardD callB callD callX callP callPv rfunG rfunK yldB yldD
attribute [local go_sem] acs_nil acs_blk acs_skip acs_reg acs_dreg acs_freg acs_nam0 acs_nam nones acs_seq acs_cond acs_block acs_exit acs_ret acs_kl acs_loop leave_nil leave_code leave_lp leave_blk aopsK_nil aopsK_cons aopsK_guard bindR_val bindR_need bindR_br bindR_call bindR_ycall acs_rfun rfunG_fn bindR_bad drawK_nil drawK_cons drawK_ext drawK_pur drawK_guard callPv_fn drawK_purv bindD_val bindD_need bindD_br bindD_call bindD_ycall bindD_bad bindX_val bindX_need bindX_br bindX_call guardD_bool guardD_tup grows grows0 List.append_cancel_left_eq List.cons.injEq exists_eq' exists_eq condK_bool guardK_bool guardK_tup sor r0 r1 r2 r3 rC rB rI rP rA rT rS rF rSl rO rbin rcut run1 Env.evals Env.eval Env.get Env.put Env.ins Env.del Env.dels argEnv AV.full AV.cells AV.cell eqCells decide_true decide_false decide_eq_true_eq decide_eq_false_iff_not Bool.not_eq_true' Bool.not_eq_false' true_and and_true false_implies true_implies forall_const Bool.not_true Bool.not_false Bool.false_eq_true Bool.true_eq_false List.getElem?_cons_zero List.getElem?_cons_succ List.length_cons List.length_nil List.length_append List.all_cons List.all_nil Bool.and_true Bool.and_self implies_true List.append_assoc List.cons_append List.nil_append List.append_nil i64_in imin_eq imax_eq cast3 cast0 cast1 cast2 Option.map_none ite_self and_false false_and Option.isSome_some or_true true_or Int.sub_zero Int.mul_one Nat.sub_zero Nat.zero_le Int.cast_ofNat_Int Int.natCast_nonneg Int.toNat_natCast ne_eq not_false_eq_true not_true_eq_false strC blkAt_app blkAt_app0 blkAt_zero blkAt_succ List.set_cons_zero List.set_cons_succ set_app set_app0 Option.map_some Option.bind_some rd setCells lay rdS szOk rapp ownAt lenAt Option.any_some Option.getD_some List.drop_zero List.drop_succ_cons List.take_succ_cons List.take_zero List.drop_nil List.take_nil Nat.lt_irrefl Nat.zero_add Nat.add_zero Nat.mul_one Nat.one_mul Nat.add_assoc Option.some.injEq eq_self
set_option maxHeartbeats 4000000
set_option linter.unusedSimpArgs false
set_option linter.unusedVariables false
/-! Contracts: opening. -/
theorem tup2_weakl {u u' v : AV} (h1 : ∀ M x, VR M u x → VR M u' x) : ∀ (M : Val) (x : Value), VR M (.tup [u, v]) x → VR M (.tup [u', v]) x := tup2_weak h1 (fun _ _ h => h)
theorem u8_und {n : Nat} (zs : List Nat) : AV.unds n (zs.map u8) := undMapF (fun z => by simp [u8, AV.und]) _
theorem f33_short {zs : List Nat} {p off : Nat} {cp : Option Nat} {H : Heap} (hn : zs.length < 4) : ACall Try.prog 33 [.sl p off zs.length 1 cp] H (.tup [.nils, .int .i64 4]) H := by
  refine acall33 (by simp) (acs_start ?_)
  have h1 : (zs.length : Int) - 4 < 0 := by omega
  unfold c33
  simp (maxSteps := 1000000) (disch := omega) only [go_sem, Nat.reduceEqDiff, Nat.reduceLT, Nat.reduceAdd, Nat.reduceSub, Nat.reduceMul, Nat.reduceBEq, Int.reduceLT, Int.reduceAdd, Int.reduceMul, Int.reduceSub, Int.reduceToNat, Int.reduceLE, Int.reduceEq, ↓reduceIte, reduceCtorEq, Int.reduceNeg, Nat.reduceLeDiff,  h1]
  exact fin_same (by simp) _ (by first | exact (List.append_nil _).symm | rfl) (by simp (maxSteps := 1000000) (disch := omega) only [resVal, resAll, resOne, rs33, Env.get, go_sem, Nat.reduceEqDiff, Nat.reduceLT, Nat.reduceAdd, Nat.reduceSub, Nat.reduceMul, Nat.reduceBEq, Int.reduceLT, Int.reduceAdd, Int.reduceMul, Int.reduceSub, Int.reduceToNat, Int.reduceLE, Int.reduceEq, ↓reduceIte, reduceCtorEq, Int.reduceNeg, Nat.reduceLeDiff]) (by simp only [AV.und, AV.unds, and_self])
theorem f37_short {zs : List Nat} {p off : Nat} {cp : Option Nat} {H : Heap} (hn : zs.length < 4) : ACall Try.prog 37 [.sl p off zs.length 1 cp] H (.tup [.nils, .int .i64 4]) H := by
  refine acall37 (by simp) (acs_start ?_)
  have h1 : (zs.length : Int) < 4 := by omega
  unfold c37
  simp (maxSteps := 1000000) (disch := omega) only [go_sem, Nat.reduceEqDiff, Nat.reduceLT, Nat.reduceAdd, Nat.reduceSub, Nat.reduceMul, Nat.reduceBEq, Int.reduceLT, Int.reduceAdd, Int.reduceMul, Int.reduceSub, Int.reduceToNat, Int.reduceLE, Int.reduceEq, ↓reduceIte, reduceCtorEq, Int.reduceNeg, Nat.reduceLeDiff,  h1]
  exact fin_same (by simp) _ (by first | exact (List.append_nil _).symm | rfl) (by simp (maxSteps := 1000000) (disch := omega) only [resVal, resAll, resOne, rs37, Env.get, go_sem, Nat.reduceEqDiff, Nat.reduceLT, Nat.reduceAdd, Nat.reduceSub, Nat.reduceMul, Nat.reduceBEq, Int.reduceLT, Int.reduceAdd, Int.reduceMul, Int.reduceSub, Int.reduceToNat, Int.reduceLE, Int.reduceEq, ↓reduceIte, reduceCtorEq, Int.reduceNeg, Nat.reduceLeDiff]) (by simp only [AV.und, AV.unds, and_self])
def whole (zs : List Nat) (m : Nat) : Bool := decide (tail4 (zs.take m) = zs.drop m)
theorem f33_bad {zs : List Nat} {p off m : Nat} {cp : Option Nat} {H : Heap} (hs : Sl u8 H p off zs) (hz : By zs) (hn : zs.length = m + 4) (hl : zs.length ≤ 35184372088832) (hw : whole zs m = false) :
    ACall Try.prog 33 [.sl p off zs.length 1 cp] H (.tup [.nils, .int .i64 3]) H := by
  refine acall33 (by simp) (acs_start ?_)
  have e1 : (zs.length : Int) - 4 = (m : Int) := by omega
  have e2 : ¬ (m : Int) < 0 := by omega
  have e3 : (m : Int) ≤ (zs.length : Int) := by omega
  have hz1 : By (zs.take m) := fun x hx => hz x (List.mem_of_mem_take hx)
  have hz2 : By (zs.drop m) := fun x hx => hz x (List.mem_of_mem_drop hx)
  have l1 : (zs.take m).length = m := by rw [List.length_take]; omega
  have l2 : (zs.drop m).length = zs.length - m := List.length_drop
  have g1 := fun cp => f39 (cp := cp) (hs.take m) hz1 (by omega)
  have g2 := fun c1 c2 => f40 (H := H ++ [some ⟨(tail4 (zs.take m)).map u8, true⟩]) (c1 := c1) (c2 := c2) (Sl.whole (o := true) (p := H.length) (zs := tail4 (zs.take m)) (by simp only [go_sem, Nat.reduceEqDiff, Nat.reduceLT, Nat.reduceAdd, Nat.reduceSub, Nat.reduceMul, Nat.reduceBEq, Int.reduceLT, Int.reduceAdd, Int.reduceMul, Int.reduceSub, Int.reduceToNat, Int.reduceLE, Int.reduceEq, ↓reduceIte, reduceCtorEq, Int.reduceNeg, Nat.reduceLeDiff])) ((hs.drop (n := m) (by omega)).app _) (by unfold tail4 By; intro x hx; simp at hx; omega) hz2
  have l3 : (tail4 (zs.take m)).length = 4 := rfl
  unfold whole at hw
  rw [l1] at g1
  rw [l2, l3, hw] at g2
  clear hw hz hz1 hz2
  unfold c33
  simp (maxSteps := 1000000) (disch := omega) only [go_sem, Nat.reduceEqDiff, Nat.reduceLT, Nat.reduceAdd, Nat.reduceSub, Nat.reduceMul, Nat.reduceBEq, Int.reduceLT, Int.reduceAdd, Int.reduceMul, Int.reduceSub, Int.reduceToNat, Int.reduceLE, Int.reduceEq, ↓reduceIte, reduceCtorEq, Int.reduceNeg, Nat.reduceLeDiff,  e1, e2, e3]
  first | refine callB_intro (g1 _) ?_ | refine callD_intro (g1 _) ?_ | refine callP_intro (fun _ => (g1 _)) ?_ | refine callX_pure (g1 _) ?_
  simp (maxSteps := 1000000) (disch := omega) only [go_sem, Nat.reduceEqDiff, Nat.reduceLT, Nat.reduceAdd, Nat.reduceSub, Nat.reduceMul, Nat.reduceBEq, Int.reduceLT, Int.reduceAdd, Int.reduceMul, Int.reduceSub, Int.reduceToNat, Int.reduceLE, Int.reduceEq, ↓reduceIte, reduceCtorEq, Int.reduceNeg, Nat.reduceLeDiff,  e1, e2, e3]
  first | refine callB_intro (g2 _ _) ?_ | refine callD_intro (g2 _ _) ?_ | refine callP_intro (fun _ => (g2 _ _)) ?_ | refine callX_pure (g2 _ _) ?_
  simp (maxSteps := 1000000) (disch := omega) only [go_sem, Nat.reduceEqDiff, Nat.reduceLT, Nat.reduceAdd, Nat.reduceSub, Nat.reduceMul, Nat.reduceBEq, Int.reduceLT, Int.reduceAdd, Int.reduceMul, Int.reduceSub, Int.reduceToNat, Int.reduceLE, Int.reduceEq, ↓reduceIte, reduceCtorEq, Int.reduceNeg, Nat.reduceLeDiff]
  exact fin_same (by simp) _ (by first | exact (List.append_nil _).symm | rfl) (by simp (maxSteps := 1000000) (disch := omega) only [resVal, resAll, resOne, rs33, Env.get, go_sem, Nat.reduceEqDiff, Nat.reduceLT, Nat.reduceAdd, Nat.reduceSub, Nat.reduceMul, Nat.reduceBEq, Int.reduceLT, Int.reduceAdd, Int.reduceMul, Int.reduceSub, Int.reduceToNat, Int.reduceLE, Int.reduceEq, ↓reduceIte, reduceCtorEq, Int.reduceNeg, Nat.reduceLeDiff]) (by simp only [AV.und, AV.unds, and_self])
theorem f33_ok {zs : List Nat} {p off m : Nat} {cp : Option Nat} {H : Heap} (hs : Sl u8 H p off zs) (hz : By zs) (hn : zs.length = m + 4) (hl : zs.length ≤ 35184372088832) (hw : whole zs m = true) :
    ACall Try.prog 33 [.sl p off zs.length 1 cp] H (.tup [.sl H.length 0 m 1 none, .int .i64 0]) (H ++ [some ⟨(zs.take m).map u8, false⟩]) := by
  refine acall33 (by simp) (acs_start ?_)
  have e1 : (zs.length : Int) - 4 = (m : Int) := by omega
  have e2 : ¬ (m : Int) < 0 := by omega
  have e3 : (m : Int) ≤ (zs.length : Int) := by omega
  have hz1 : By (zs.take m) := fun x hx => hz x (List.mem_of_mem_take hx)
  have hz2 : By (zs.drop m) := fun x hx => hz x (List.mem_of_mem_drop hx)
  have l1 : (zs.take m).length = m := by rw [List.length_take]; omega
  have l2 : (zs.drop m).length = zs.length - m := List.length_drop
  have g1 := fun cp => f39 (cp := cp) (hs.take m) hz1 (by omega)
  have g2 := fun c1 c2 => f40 (H := H ++ [some ⟨(tail4 (zs.take m)).map u8, true⟩]) (c1 := c1) (c2 := c2) (Sl.whole (o := true) (p := H.length) (zs := tail4 (zs.take m)) (by simp only [go_sem, Nat.reduceEqDiff, Nat.reduceLT, Nat.reduceAdd, Nat.reduceSub, Nat.reduceMul, Nat.reduceBEq, Int.reduceLT, Int.reduceAdd, Int.reduceMul, Int.reduceSub, Int.reduceToNat, Int.reduceLE, Int.reduceEq, ↓reduceIte, reduceCtorEq, Int.reduceNeg, Nat.reduceLeDiff])) ((hs.drop (n := m) (by omega)).app _) (by unfold tail4 By; intro x hx; simp at hx; omega) hz2
  have l3 : (tail4 (zs.take m)).length = 4 := rfl
  have g3 := fun c1 => f41 c1 ((hs.take m).app [some ⟨(tail4 (zs.take m)).map u8, true⟩]) (by omega)
  unfold whole at hw
  rw [l1] at g1 g3
  rw [l2, l3, hw] at g2
  clear hw hz hz1 hz2
  unfold c33
  simp (maxSteps := 1000000) (disch := omega) only [go_sem, Nat.reduceEqDiff, Nat.reduceLT, Nat.reduceAdd, Nat.reduceSub, Nat.reduceMul, Nat.reduceBEq, Int.reduceLT, Int.reduceAdd, Int.reduceMul, Int.reduceSub, Int.reduceToNat, Int.reduceLE, Int.reduceEq, ↓reduceIte, reduceCtorEq, Int.reduceNeg, Nat.reduceLeDiff,  e1, e2, e3]
  first | refine callB_intro (g1 _) ?_ | refine callD_intro (g1 _) ?_ | refine callP_intro (fun _ => (g1 _)) ?_ | refine callX_pure (g1 _) ?_
  simp (maxSteps := 1000000) (disch := omega) only [go_sem, Nat.reduceEqDiff, Nat.reduceLT, Nat.reduceAdd, Nat.reduceSub, Nat.reduceMul, Nat.reduceBEq, Int.reduceLT, Int.reduceAdd, Int.reduceMul, Int.reduceSub, Int.reduceToNat, Int.reduceLE, Int.reduceEq, ↓reduceIte, reduceCtorEq, Int.reduceNeg, Nat.reduceLeDiff,  e1, e2, e3]
  first | refine callB_intro (g2 _ _) ?_ | refine callD_intro (g2 _ _) ?_ | refine callP_intro (fun _ => (g2 _ _)) ?_ | refine callX_pure (g2 _ _) ?_
  simp (maxSteps := 1000000) (disch := omega) only [go_sem, Nat.reduceEqDiff, Nat.reduceLT, Nat.reduceAdd, Nat.reduceSub, Nat.reduceMul, Nat.reduceBEq, Int.reduceLT, Int.reduceAdd, Int.reduceMul, Int.reduceSub, Int.reduceToNat, Int.reduceLE, Int.reduceEq, ↓reduceIte, reduceCtorEq, Int.reduceNeg, Nat.reduceLeDiff,  e3]
  first | refine callB_intro (g3 _) ?_ | refine callD_intro (g3 _) ?_ | refine callP_intro (fun _ => (g3 _)) ?_ | refine callX_pure (g3 _) ?_
  simp (maxSteps := 1000000) (disch := omega) only [go_sem, Nat.reduceEqDiff, Nat.reduceLT, Nat.reduceAdd, Nat.reduceSub, Nat.reduceMul, Nat.reduceBEq, Int.reduceLT, Int.reduceAdd, Int.reduceMul, Int.reduceSub, Int.reduceToNat, Int.reduceLE, Int.reduceEq, ↓reduceIte, reduceCtorEq, Int.reduceNeg, Nat.reduceLeDiff]
  exact fin_oneF _ 1 _ (by simp) rfl rfl (u8_und _) (by simp only [resVal, resAll, resOne, rs33, Env.get, go_sem, Nat.reduceEqDiff, Nat.reduceLT, Nat.reduceAdd, Nat.reduceSub, Nat.reduceMul, Nat.reduceBEq, Int.reduceLT, Int.reduceAdd, Int.reduceMul, Int.reduceSub, Int.reduceToNat, Int.reduceLE, Int.reduceEq, ↓reduceIte, reduceCtorEq, Int.reduceNeg, Nat.reduceLeDiff]; rfl) (by simp [AV.ren, AV.rens]) (by simp [AV.und, AV.unds])
def t4 (s : Nat) : List Nat := [s % 256, s / 256 % 256, s / 65536 % 256, s / 16777216 % 256]
/-- The document's seal: what is behind the first append. -/
theorem f36_rest {H G : Heap} {zs : List Nat} {s : Nat} {c : Option Nat} (hs : s < 4294967296) (hl : zs.length ≤ 35184372088832) (hc : c = none ∨ c = some zs.length) :
    acs Try.prog [.lp c36l0, .blk 0, .code (tl2 (tl2 (tl2 (tl2 c36))))] [(3, .sl (H.length + G.length) 0 zs.length 1 c), (4, .int .u32 (s : Nat)), (5, .int .i64 0)] (H ++ (G ++ [some ⟨zs.map u8, true⟩]))
      (FinW H rs36 (.sl H.length 0 (zs.length + 4) 1 none) (H ++ [some ⟨(zs ++ t4 s).map u8, true⟩])) := by
  have m0 : (s : Int).tmod 256 = ((s % 256 : Nat) : Int) := by rw [Int.tmod_eq_emod_of_nonneg (by omega)]; omega
  have d0 : (s : Int).tdiv 256 = ((s / 256 : Nat) : Int) := by rw [Int.tdiv_eq_ediv_of_nonneg (by omega)]; omega
  have m1 : ((s / 256 : Nat) : Int).tmod 256 = ((s / 256 % 256 : Nat) : Int) := by rw [Int.tmod_eq_emod_of_nonneg (by omega)]; omega
  have d1 : ((s / 256 : Nat) : Int).tdiv 256 = ((s / 65536 : Nat) : Int) := by rw [Int.tdiv_eq_ediv_of_nonneg (by omega)]; omega
  have m2 : ((s / 65536 : Nat) : Int).tmod 256 = ((s / 65536 % 256 : Nat) : Int) := by rw [Int.tmod_eq_emod_of_nonneg (by omega)]; omega
  have d2 : ((s / 65536 : Nat) : Int).tdiv 256 = ((s / 16777216 : Nat) : Int) := by rw [Int.tdiv_eq_ediv_of_nonneg (by omega)]; omega
  have m3 : ((s / 16777216 : Nat) : Int).tmod 256 = ((s / 16777216 % 256 : Nat) : Int) := by rw [Int.tmod_eq_emod_of_nonneg (by omega)]; omega
  have d3 : ((s / 16777216 : Nat) : Int).tdiv 256 = ((s / 16777216 / 256 : Nat) : Int) := by rw [Int.tdiv_eq_ediv_of_nonneg (by omega)]; omega
  have b0 := wrap8 (s % 256)
  have b1 := wrap8 (s / 256 % 256)
  have b2 := wrap8 (s / 65536 % 256)
  have b3 := wrap8 (s / 16777216 % 256)
  rw [Nat.mod_mod] at b0 b1 b2 b3
  have i0 : s / 256 < 4294967296 := by omega
  have i1 : s / 65536 < 4294967296 := by omega
  have i2 : s / 16777216 < 4294967296 := by omega
  have i3 : s / 16777216 / 256 < 4294967296 := by omega
  have hall : (zs.map u8).all AV.cell = true := by simp [u8, AV.cell]
  unfold t4
  generalize s % 256 = x0 at *
  generalize s / 256 % 256 = x1 at *
  generalize s / 65536 % 256 = x2 at *
  generalize s / 16777216 % 256 = x3 at *
  generalize s / 16777216 / 256 = y3 at *
  generalize s / 256 = y0 at *
  generalize s / 65536 = y1 at *
  generalize s / 16777216 = y2 at *
  have htk : List.take zs.length (List.map u8 zs) = List.map u8 zs := takeMapF zs
  have k1 : List.take (zs.length + 1) (List.map u8 zs ++ [AV.int .u8 (x0 : Nat)]) = List.map u8 zs ++ [AV.int .u8 (x0 : Nat)] := List.take_of_length_le (by simp)
  have k2 : List.take (zs.length + 2) (List.map u8 zs ++ [AV.int .u8 (x0 : Nat), .int .u8 (x1 : Nat)]) = List.map u8 zs ++ [AV.int .u8 (x0 : Nat), .int .u8 (x1 : Nat)] := List.take_of_length_le (by simp)
  have k3 : List.take (zs.length + 3) (List.map u8 zs ++ [AV.int .u8 (x0 : Nat), .int .u8 (x1 : Nat), .int .u8 (x2 : Nat)]) = List.map u8 zs ++ [AV.int .u8 (x0 : Nat), .int .u8 (x1 : Nat), .int .u8 (x2 : Nat)] := List.take_of_length_le (by simp)
  have n1 : (zs.length + 1) * 1 ≤ 140737488355328 := by omega
  have n2 : zs.length + 1 ≤ 140737488355328 := by omega
  have n3 : zs.length + 2 ≤ 140737488355328 := by omega
  have n4 : zs.length + 3 ≤ 140737488355328 := by omega
  have n5 : zs.length + 4 ≤ 140737488355328 := by omega
  have last : List.map u8 (zs ++ [x0, x1, x2, x3]) = List.map u8 zs ++ [AV.int .u8 (x0 : Nat), .int .u8 (x1 : Nat), .int .u8 (x2 : Nat), .int .u8 (x3 : Nat)] := by simp [u8]
  have last2 := last
  rw [last]
  clear last
  rcases hc with rfl | rfl
  · rw [acs_lp]; conv in Fr.code c36l0 => unfold c36l0
    simp (maxSteps := 1000000) (disch := omega) only [go_sem, Nat.reduceEqDiff, Nat.reduceLT, Nat.reduceAdd, Nat.reduceSub, Nat.reduceMul, Nat.reduceBEq, Int.reduceLT, Int.reduceAdd, Int.reduceMul, Int.reduceSub, Int.reduceToNat, Int.reduceLE, Int.reduceEq, ↓reduceIte, reduceCtorEq, Int.reduceNeg, Nat.reduceLeDiff,  m0, d0, b0, u32_in, htk, n1, n2, List.length_map, Nat.le_refl]
    rw [acs_lp]; conv in Fr.code c36l0 => unfold c36l0
    simp (maxSteps := 1000000) (disch := omega) only [go_sem, Nat.reduceEqDiff, Nat.reduceLT, Nat.reduceAdd, Nat.reduceSub, Nat.reduceMul, Nat.reduceBEq, Int.reduceLT, Int.reduceAdd, Int.reduceMul, Int.reduceSub, Int.reduceToNat, Int.reduceLE, Int.reduceEq, ↓reduceIte, reduceCtorEq, Int.reduceNeg, Nat.reduceLeDiff,  m1, d1, b1, u32_in, k1, n3, List.length_map, Nat.le_refl]
    rw [acs_lp]; conv in Fr.code c36l0 => unfold c36l0
    simp (maxSteps := 1000000) (disch := omega) only [go_sem, Nat.reduceEqDiff, Nat.reduceLT, Nat.reduceAdd, Nat.reduceSub, Nat.reduceMul, Nat.reduceBEq, Int.reduceLT, Int.reduceAdd, Int.reduceMul, Int.reduceSub, Int.reduceToNat, Int.reduceLE, Int.reduceEq, ↓reduceIte, reduceCtorEq, Int.reduceNeg, Nat.reduceLeDiff,  m2, d2, b2, u32_in, k2, n4, List.length_map, Nat.le_refl]
    rw [acs_lp]; conv in Fr.code c36l0 => unfold c36l0
    simp (maxSteps := 1000000) (disch := omega) only [go_sem, Nat.reduceEqDiff, Nat.reduceLT, Nat.reduceAdd, Nat.reduceSub, Nat.reduceMul, Nat.reduceBEq, Int.reduceLT, Int.reduceAdd, Int.reduceMul, Int.reduceSub, Int.reduceToNat, Int.reduceLE, Int.reduceEq, ↓reduceIte, reduceCtorEq, Int.reduceNeg, Nat.reduceLeDiff,  m3, d3, b3, u32_in, k3, n5, List.length_map, Nat.le_refl]
    rw [acs_lp]; conv in Fr.code c36l0 => unfold c36l0
    simp (maxSteps := 1000000) (disch := omega) only [go_sem, Nat.reduceEqDiff, Nat.reduceLT, Nat.reduceAdd, Nat.reduceSub, Nat.reduceMul, Nat.reduceBEq, Int.reduceLT, Int.reduceAdd, Int.reduceMul, Int.reduceSub, Int.reduceToNat, Int.reduceLE, Int.reduceEq, ↓reduceIte, reduceCtorEq, Int.reduceNeg, Nat.reduceLeDiff]
    unfold c36 tl2
    simp (maxSteps := 1000000) (disch := omega) only [go_sem, Nat.reduceEqDiff, Nat.reduceLT, Nat.reduceAdd, Nat.reduceSub, Nat.reduceMul, Nat.reduceBEq, Int.reduceLT, Int.reduceAdd, Int.reduceMul, Int.reduceSub, Int.reduceToNat, Int.reduceLE, Int.reduceEq, ↓reduceIte, reduceCtorEq, Int.reduceNeg, Nat.reduceLeDiff]
    exact ⟨.sl H.length 0 (zs.length + 4) 1 none, fun _ _ h => h, fin_one _ (G.length + 8) _ (by simp) rfl (by simp) (by rw [← last2]; exact u8_und _) (by simp only [resVal, resAll, resOne, rs36, Env.get, go_sem, Nat.reduceEqDiff, Nat.reduceLT, Nat.reduceAdd, Nat.reduceSub, Nat.reduceMul, Nat.reduceBEq, Int.reduceLT, Int.reduceAdd, Int.reduceMul, Int.reduceSub, Int.reduceToNat, Int.reduceLE, Int.reduceEq, ↓reduceIte, reduceCtorEq, Int.reduceNeg, Nat.reduceLeDiff]; rfl) (by simp [AV.ren]) (by simp [AV.und])⟩
  · rw [acs_lp]; conv in Fr.code c36l0 => unfold c36l0
    simp (maxSteps := 1000000) (disch := omega) only [go_sem, Nat.reduceEqDiff, Nat.reduceLT, Nat.reduceAdd, Nat.reduceSub, Nat.reduceMul, Nat.reduceBEq, Int.reduceLT, Int.reduceAdd, Int.reduceMul, Int.reduceSub, Int.reduceToNat, Int.reduceLE, Int.reduceEq, ↓reduceIte, reduceCtorEq, Int.reduceNeg, Nat.reduceLeDiff,  m0, d0, b0, u32_in, htk, n1, n2, List.length_map, Nat.le_refl, Nat.lt_succ_self]
    rw [acs_lp]; conv in Fr.code c36l0 => unfold c36l0
    simp (maxSteps := 1000000) (disch := omega) only [go_sem, Nat.reduceEqDiff, Nat.reduceLT, Nat.reduceAdd, Nat.reduceSub, Nat.reduceMul, Nat.reduceBEq, Int.reduceLT, Int.reduceAdd, Int.reduceMul, Int.reduceSub, Int.reduceToNat, Int.reduceLE, Int.reduceEq, ↓reduceIte, reduceCtorEq, Int.reduceNeg, Nat.reduceLeDiff,  m1, d1, b1, u32_in, k1, n3, List.length_map, Nat.le_refl]
    rw [acs_lp]; conv in Fr.code c36l0 => unfold c36l0
    simp (maxSteps := 1000000) (disch := omega) only [go_sem, Nat.reduceEqDiff, Nat.reduceLT, Nat.reduceAdd, Nat.reduceSub, Nat.reduceMul, Nat.reduceBEq, Int.reduceLT, Int.reduceAdd, Int.reduceMul, Int.reduceSub, Int.reduceToNat, Int.reduceLE, Int.reduceEq, ↓reduceIte, reduceCtorEq, Int.reduceNeg, Nat.reduceLeDiff,  m2, d2, b2, u32_in, k2, n4, List.length_map, Nat.le_refl]
    rw [acs_lp]; conv in Fr.code c36l0 => unfold c36l0
    simp (maxSteps := 1000000) (disch := omega) only [go_sem, Nat.reduceEqDiff, Nat.reduceLT, Nat.reduceAdd, Nat.reduceSub, Nat.reduceMul, Nat.reduceBEq, Int.reduceLT, Int.reduceAdd, Int.reduceMul, Int.reduceSub, Int.reduceToNat, Int.reduceLE, Int.reduceEq, ↓reduceIte, reduceCtorEq, Int.reduceNeg, Nat.reduceLeDiff,  m3, d3, b3, u32_in, k3, n5, List.length_map, Nat.le_refl]
    rw [acs_lp]; conv in Fr.code c36l0 => unfold c36l0
    simp (maxSteps := 1000000) (disch := omega) only [go_sem, Nat.reduceEqDiff, Nat.reduceLT, Nat.reduceAdd, Nat.reduceSub, Nat.reduceMul, Nat.reduceBEq, Int.reduceLT, Int.reduceAdd, Int.reduceMul, Int.reduceSub, Int.reduceToNat, Int.reduceLE, Int.reduceEq, ↓reduceIte, reduceCtorEq, Int.reduceNeg, Nat.reduceLeDiff]
    unfold c36 tl2
    simp (maxSteps := 1000000) (disch := omega) only [go_sem, Nat.reduceEqDiff, Nat.reduceLT, Nat.reduceAdd, Nat.reduceSub, Nat.reduceMul, Nat.reduceBEq, Int.reduceLT, Int.reduceAdd, Int.reduceMul, Int.reduceSub, Int.reduceToNat, Int.reduceLE, Int.reduceEq, ↓reduceIte, reduceCtorEq, Int.reduceNeg, Nat.reduceLeDiff]
    exact ⟨.sl H.length 0 (zs.length + 4) 1 none, fun _ _ h => h, fin_one _ (G.length + 8) _ (by simp) rfl (by simp) (by rw [← last2]; exact u8_und _) (by simp only [resVal, resAll, resOne, rs36, Env.get, go_sem, Nat.reduceEqDiff, Nat.reduceLT, Nat.reduceAdd, Nat.reduceSub, Nat.reduceMul, Nat.reduceBEq, Int.reduceLT, Int.reduceAdd, Int.reduceMul, Int.reduceSub, Int.reduceToNat, Int.reduceLE, Int.reduceEq, ↓reduceIte, reduceCtorEq, Int.reduceNeg, Nat.reduceLeDiff]; rfl) (by simp [AV.ren]) (by simp [AV.und])⟩
theorem f36 {zs : List Nat} {p off : Nat} {cp : Option Nat} {H : Heap} (hs : Sl u8 H p off zs) (hz : By zs) (hl : zs.length ≤ 35184372088832) :
    ACall Try.prog 36 [.sl p off zs.length 1 cp] H (.sl H.length 0 (zs.length + 4) 1 none) (H ++ [some ⟨(zs ++ tail4 zs).map u8, true⟩]) := by
  refine acallW (fun v' h => acall36 (by simp) h) (acs_start ?_)
  have e4 : tail4 zs = t4 (sof zs) := rfl
  rw [e4]
  have hsof := sof_lt (b := zs)
  have hpl := hs.lt
  have hall : (zs.map u8).all AV.cell = true := by simp [u8, AV.cell]
  have g := fun G => f43 (cp := cp) (hs.app G) hz (by omega)
  obtain ⟨cs, o, hp, hle, hcs⟩ := hs
  have r0 := fun G c hc => @f36_rest H G zs (sof zs) c hsof hl hc
  generalize sof zs = s at *
  unfold c36 tl2 at r0
  unfold c36
  simp (maxSteps := 1000000) (disch := omega) only [go_sem, Nat.reduceEqDiff, Nat.reduceLT, Nat.reduceAdd, Nat.reduceSub, Nat.reduceMul, Nat.reduceBEq, Int.reduceLT, Int.reduceAdd, Int.reduceMul, Int.reduceSub, Int.reduceToNat, Int.reduceLE, Int.reduceEq, ↓reduceIte, reduceCtorEq, Int.reduceNeg, Nat.reduceLeDiff,  blkAt_lo, hp, hpl, hle, hcs, hall]
  refine ⟨fun h0 => ?_, fun h0 => ?_⟩
  · obtain rfl : zs = [] := List.eq_nil_of_length_eq_zero h0
    first | refine callB_intro (g _) ?_ | refine callD_intro (g _) ?_ | refine callP_intro (fun _ => (g _)) ?_ | refine callX_pure (g _) ?_
    simp (maxSteps := 1000000) (disch := omega) only [go_sem, Nat.reduceEqDiff, Nat.reduceLT, Nat.reduceAdd, Nat.reduceSub, Nat.reduceMul, Nat.reduceBEq, Int.reduceLT, Int.reduceAdd, Int.reduceMul, Int.reduceSub, Int.reduceToNat, Int.reduceLE, Int.reduceEq, ↓reduceIte, reduceCtorEq, Int.reduceNeg, Nat.reduceLeDiff]
    have := r0 [] (some 0) (.inr rfl)
    simp only [List.append_assoc, List.cons_append, List.nil_append, List.length_append, List.length_cons, List.length_nil, Nat.reduceAdd, Nat.add_assoc, Nat.zero_add, Nat.add_zero, Int.natCast_add, Int.cast_ofNat_Int, List.map_nil] at this
    exact this
  · refine ⟨by omega, fun _ => ?_, fun h => absurd (by omega) h⟩
    first | refine callB_intro (g _) ?_ | refine callD_intro (g _) ?_ | refine callP_intro (fun _ => (g _)) ?_ | refine callX_pure (g _) ?_
    simp (maxSteps := 1000000) (disch := omega) only [go_sem, Nat.reduceEqDiff, Nat.reduceLT, Nat.reduceAdd, Nat.reduceSub, Nat.reduceMul, Nat.reduceBEq, Int.reduceLT, Int.reduceAdd, Int.reduceMul, Int.reduceSub, Int.reduceToNat, Int.reduceLE, Int.reduceEq, ↓reduceIte, reduceCtorEq, Int.reduceNeg, Nat.reduceLeDiff]
    have := r0 [some ⟨[], true⟩] none (.inl rfl)
    simp only [List.append_assoc, List.cons_append, List.nil_append, List.length_append, List.length_cons, List.length_nil, Nat.reduceAdd, Nat.add_assoc, Nat.zero_add, Nat.add_zero, Int.natCast_add, Int.cast_ofNat_Int, ] at this
    exact this
theorem tail4_By (b : List Nat) : By (tail4 b) := by unfold tail4 By; intro x hx; simp at hx; omega
theorem u8_all (zs : List Nat) : (zs.map u8).all AV.cell = true := by simp [u8, AV.cell]
theorem f37_bad {zs : List Nat} {p off m : Nat} {cp : Option Nat} {H : Heap} (hs : Sl u8 H p off zs) (hz : By zs) (hn : zs.length = m + 4) (hl : zs.length ≤ 35184372088832) (hw : whole zs m = false) :
    ACall Try.prog 37 [.sl p off zs.length 1 cp] H (.tup [.nils, .int .i64 3]) H := by
  refine acall37 (by simp) (acs_start ?_)
  have e0 : ¬ (zs.length : Int) < 4 := by omega
  have e1 : (zs.length : Int) - 4 = (m : Int) := by omega
  have e3 : (m : Int) ≤ (zs.length : Int) := by omega
  have hz1 : By (zs.take m) := fun x hx => hz x (List.mem_of_mem_take hx)
  have l1 : (zs.take m).length = m := by rw [List.length_take]; omega
  have hq : decide (zs.take m ++ tail4 (zs.take m) = zs) = false := by
    rw [← hw]
    unfold whole
    refine decide_eq_decide.2 ⟨fun h => ?_, fun h => ?_⟩
    · have := congrArg (List.drop m) h
      rw [List.drop_append_of_le_length (by omega), List.drop_of_length_le (by omega)] at this
      simpa using this
    · rw [h, List.take_append_drop]
  have hsm := hs.take m
  have hpl := hsm.lt
  have hall : ((zs.take m).map u8).all AV.cell = true := u8_all _
  have g1 := fun G q c (h : blkAt (H ++ G) q = some ⟨(zs.take m).map u8, true⟩) => f36 (cp := c) (Sl.whole h) hz1 (by omega)
  have g2 := fun G r c c2 (h : blkAt (H ++ G) r = some ⟨(zs.take m ++ tail4 (zs.take m)).map u8, true⟩) => f24 (c1 := c) (c2 := c2) (Sl.whole h) (hs.app G) (by rw [List.length_append, l1]; show m + 4 ≤ _; omega)
  have l4 : (zs.take m ++ tail4 (zs.take m)).length = m + 4 := by rw [List.length_append, l1]; rfl
  simp only [l1] at g1
  simp only [l4, hq] at g2
  obtain ⟨cs, o, hp, hle, hcs⟩ := hsm
  rw [l1] at hle hcs
  generalize tail4 (zs.take m) = tt at *
  unfold c37
  simp (maxSteps := 1000000) (disch := omega) only [go_sem, Nat.reduceEqDiff, Nat.reduceLT, Nat.reduceAdd, Nat.reduceSub, Nat.reduceMul, Nat.reduceBEq, Int.reduceLT, Int.reduceAdd, Int.reduceMul, Int.reduceSub, Int.reduceToNat, Int.reduceLE, Int.reduceEq, ↓reduceIte, reduceCtorEq, Int.reduceNeg, Nat.reduceLeDiff,  e0, e1, e3, blkAt_lo, hpl, hp, hle, hcs, hall]
  refine ⟨fun h0 => ?_, fun h0 => ?_⟩
  · have h9 : zs.take m = [] := List.eq_nil_of_length_eq_zero (by omega)
    rw [h9] at g1 g2
    obtain rfl := h0
    refine callB_intro (g1 [some ⟨[], true⟩] _ _ (by simp only [go_sem, Nat.reduceEqDiff, Nat.reduceLT, Nat.reduceAdd, Nat.reduceSub, Nat.reduceMul, Nat.reduceBEq, Int.reduceLT, Int.reduceAdd, Int.reduceMul, Int.reduceSub, Int.reduceToNat, Int.reduceLE, Int.reduceEq, ↓reduceIte, reduceCtorEq, Int.reduceNeg, Nat.reduceLeDiff, List.map_nil])) ?_
    simp (maxSteps := 1000000) (disch := omega) only [go_sem, Nat.reduceEqDiff, Nat.reduceLT, Nat.reduceAdd, Nat.reduceSub, Nat.reduceMul, Nat.reduceBEq, Int.reduceLT, Int.reduceAdd, Int.reduceMul, Int.reduceSub, Int.reduceToNat, Int.reduceLE, Int.reduceEq, ↓reduceIte, reduceCtorEq, Int.reduceNeg, Nat.reduceLeDiff]
    refine callB_intro (g2 [some ⟨[], true⟩, some ⟨([] ++ tt).map u8, true⟩] _ _ _ (by simp only [go_sem, Nat.reduceEqDiff, Nat.reduceLT, Nat.reduceAdd, Nat.reduceSub, Nat.reduceMul, Nat.reduceBEq, Int.reduceLT, Int.reduceAdd, Int.reduceMul, Int.reduceSub, Int.reduceToNat, Int.reduceLE, Int.reduceEq, ↓reduceIte, reduceCtorEq, Int.reduceNeg, Nat.reduceLeDiff])) ?_
    simp (maxSteps := 1000000) (disch := omega) only [go_sem, Nat.reduceEqDiff, Nat.reduceLT, Nat.reduceAdd, Nat.reduceSub, Nat.reduceMul, Nat.reduceBEq, Int.reduceLT, Int.reduceAdd, Int.reduceMul, Int.reduceSub, Int.reduceToNat, Int.reduceLE, Int.reduceEq, ↓reduceIte, reduceCtorEq, Int.reduceNeg, Nat.reduceLeDiff]
    exact fin_same (by simp) _ (by first | exact (List.append_nil _).symm | rfl) (by simp (maxSteps := 1000000) (disch := omega) only [resVal, resAll, resOne, rs37, Env.get, go_sem, Nat.reduceEqDiff, Nat.reduceLT, Nat.reduceAdd, Nat.reduceSub, Nat.reduceMul, Nat.reduceBEq, Int.reduceLT, Int.reduceAdd, Int.reduceMul, Int.reduceSub, Int.reduceToNat, Int.reduceLE, Int.reduceEq, ↓reduceIte, reduceCtorEq, Int.reduceNeg, Nat.reduceLeDiff]) (by simp only [AV.und, AV.unds, and_self])
  · refine ⟨by omega, fun _ => ?_, fun h => absurd (by omega) h⟩
    refine callB_intro (g1 [some ⟨[], true⟩, some ⟨(zs.take m).map u8, true⟩] _ _ (by simp only [go_sem, Nat.reduceEqDiff, Nat.reduceLT, Nat.reduceAdd, Nat.reduceSub, Nat.reduceMul, Nat.reduceBEq, Int.reduceLT, Int.reduceAdd, Int.reduceMul, Int.reduceSub, Int.reduceToNat, Int.reduceLE, Int.reduceEq, ↓reduceIte, reduceCtorEq, Int.reduceNeg, Nat.reduceLeDiff])) ?_
    simp (maxSteps := 1000000) (disch := omega) only [go_sem, Nat.reduceEqDiff, Nat.reduceLT, Nat.reduceAdd, Nat.reduceSub, Nat.reduceMul, Nat.reduceBEq, Int.reduceLT, Int.reduceAdd, Int.reduceMul, Int.reduceSub, Int.reduceToNat, Int.reduceLE, Int.reduceEq, ↓reduceIte, reduceCtorEq, Int.reduceNeg, Nat.reduceLeDiff]
    refine callB_intro (g2 [some ⟨[], true⟩, some ⟨(zs.take m).map u8, true⟩, some ⟨(zs.take m ++ tt).map u8, true⟩] _ _ _ (by simp only [go_sem, Nat.reduceEqDiff, Nat.reduceLT, Nat.reduceAdd, Nat.reduceSub, Nat.reduceMul, Nat.reduceBEq, Int.reduceLT, Int.reduceAdd, Int.reduceMul, Int.reduceSub, Int.reduceToNat, Int.reduceLE, Int.reduceEq, ↓reduceIte, reduceCtorEq, Int.reduceNeg, Nat.reduceLeDiff])) ?_
    simp (maxSteps := 1000000) (disch := omega) only [go_sem, Nat.reduceEqDiff, Nat.reduceLT, Nat.reduceAdd, Nat.reduceSub, Nat.reduceMul, Nat.reduceBEq, Int.reduceLT, Int.reduceAdd, Int.reduceMul, Int.reduceSub, Int.reduceToNat, Int.reduceLE, Int.reduceEq, ↓reduceIte, reduceCtorEq, Int.reduceNeg, Nat.reduceLeDiff]
    exact fin_same (by simp) _ (by first | exact (List.append_nil _).symm | rfl) (by simp (maxSteps := 1000000) (disch := omega) only [resVal, resAll, resOne, rs37, Env.get, go_sem, Nat.reduceEqDiff, Nat.reduceLT, Nat.reduceAdd, Nat.reduceSub, Nat.reduceMul, Nat.reduceBEq, Int.reduceLT, Int.reduceAdd, Int.reduceMul, Int.reduceSub, Int.reduceToNat, Int.reduceLE, Int.reduceEq, ↓reduceIte, reduceCtorEq, Int.reduceNeg, Nat.reduceLeDiff]) (by simp only [AV.und, AV.unds, and_self])
theorem f37_ok {zs : List Nat} {p off m : Nat} {cp : Option Nat} {H : Heap} (hs : Sl u8 H p off zs) (hz : By zs) (hn : zs.length = m + 4) (hl : zs.length ≤ 35184372088832) (hw : whole zs m = true) :
    ACall Try.prog 37 [.sl p off zs.length 1 cp] H (.tup [.sl H.length 0 m 1 none, .int .i64 0]) (H ++ [some ⟨(zs.take m).map u8, false⟩]) := by
  refine acallW (fun v' h => acall37 (by simp) h) (acs_start ?_)
  have e0 : ¬ (zs.length : Int) < 4 := by omega
  have e1 : (zs.length : Int) - 4 = (m : Int) := by omega
  have e3 : (m : Int) ≤ (zs.length : Int) := by omega
  have hz1 : By (zs.take m) := fun x hx => hz x (List.mem_of_mem_take hx)
  have l1 : (zs.take m).length = m := by rw [List.length_take]; omega
  have hq : decide (zs.take m ++ tail4 (zs.take m) = zs) = true := by
    rw [← hw]
    unfold whole
    refine decide_eq_decide.2 ⟨fun h => ?_, fun h => ?_⟩
    · have := congrArg (List.drop m) h
      rw [List.drop_append_of_le_length (by omega), List.drop_of_length_le (by omega)] at this
      simpa using this
    · rw [h, List.take_append_drop]
  have hsm := hs.take m
  have hpl := hsm.lt
  have hall : ((zs.take m).map u8).all AV.cell = true := u8_all _
  have g1 := fun G q c (h : blkAt (H ++ G) q = some ⟨(zs.take m).map u8, true⟩) => f36 (cp := c) (Sl.whole h) hz1 (by omega)
  have g2 := fun G r c c2 (h : blkAt (H ++ G) r = some ⟨(zs.take m ++ tail4 (zs.take m)).map u8, true⟩) => f24 (c1 := c) (c2 := c2) (Sl.whole h) (hs.app G) (by rw [List.length_append, l1]; show m + 4 ≤ _; omega)
  have l4 : (zs.take m ++ tail4 (zs.take m)).length = m + 4 := by rw [List.length_append, l1]; rfl
  simp only [l1] at g1
  simp only [l4, hq] at g2
  obtain ⟨cs, o, hp, hle, hcs⟩ := hsm
  rw [l1] at hle hcs
  generalize tail4 (zs.take m) = tt at *
  unfold c37
  simp (maxSteps := 1000000) (disch := omega) only [go_sem, Nat.reduceEqDiff, Nat.reduceLT, Nat.reduceAdd, Nat.reduceSub, Nat.reduceMul, Nat.reduceBEq, Int.reduceLT, Int.reduceAdd, Int.reduceMul, Int.reduceSub, Int.reduceToNat, Int.reduceLE, Int.reduceEq, ↓reduceIte, reduceCtorEq, Int.reduceNeg, Nat.reduceLeDiff,  e0, e1, e3, blkAt_lo, hpl, hp, hle, hcs, hall]
  refine ⟨fun h0 => ?_, fun h0 => ?_⟩
  · have h9 : zs.take m = [] := List.eq_nil_of_length_eq_zero (by omega)
    rw [h9] at g1 g2
    obtain rfl := h0
    refine callB_intro (g1 [some ⟨[], true⟩] _ _ (by simp only [go_sem, Nat.reduceEqDiff, Nat.reduceLT, Nat.reduceAdd, Nat.reduceSub, Nat.reduceMul, Nat.reduceBEq, Int.reduceLT, Int.reduceAdd, Int.reduceMul, Int.reduceSub, Int.reduceToNat, Int.reduceLE, Int.reduceEq, ↓reduceIte, reduceCtorEq, Int.reduceNeg, Nat.reduceLeDiff, List.map_nil])) ?_
    simp (maxSteps := 1000000) (disch := omega) only [go_sem, Nat.reduceEqDiff, Nat.reduceLT, Nat.reduceAdd, Nat.reduceSub, Nat.reduceMul, Nat.reduceBEq, Int.reduceLT, Int.reduceAdd, Int.reduceMul, Int.reduceSub, Int.reduceToNat, Int.reduceLE, Int.reduceEq, ↓reduceIte, reduceCtorEq, Int.reduceNeg, Nat.reduceLeDiff]
    refine callB_intro (g2 [some ⟨[], true⟩, some ⟨([] ++ tt).map u8, true⟩] _ _ _ (by simp only [go_sem, Nat.reduceEqDiff, Nat.reduceLT, Nat.reduceAdd, Nat.reduceSub, Nat.reduceMul, Nat.reduceBEq, Int.reduceLT, Int.reduceAdd, Int.reduceMul, Int.reduceSub, Int.reduceToNat, Int.reduceLE, Int.reduceEq, ↓reduceIte, reduceCtorEq, Int.reduceNeg, Nat.reduceLeDiff])) ?_
    simp (maxSteps := 1000000) (disch := omega) only [go_sem, Nat.reduceEqDiff, Nat.reduceLT, Nat.reduceAdd, Nat.reduceSub, Nat.reduceMul, Nat.reduceBEq, Int.reduceLT, Int.reduceAdd, Int.reduceMul, Int.reduceSub, Int.reduceToNat, Int.reduceLE, Int.reduceEq, ↓reduceIte, reduceCtorEq, Int.reduceNeg, Nat.reduceLeDiff]
    exact ⟨.tup [.sl H.length 0 0 1 (some 0), .int .i64 0], tup2_weakl sl_weak, fin_oneF _ 0 _ (by simp) rfl rfl trivial (by simp only [resVal, resAll, resOne, rs37, Env.get, go_sem, Nat.reduceEqDiff, Nat.reduceLT, Nat.reduceAdd, Nat.reduceSub, Nat.reduceMul, Nat.reduceBEq, Int.reduceLT, Int.reduceAdd, Int.reduceMul, Int.reduceSub, Int.reduceToNat, Int.reduceLE, Int.reduceEq, ↓reduceIte, reduceCtorEq, Int.reduceNeg, Nat.reduceLeDiff]; rfl) (by simp [AV.ren, AV.rens]) (by simp [AV.und, AV.unds])⟩
  · refine ⟨by omega, fun _ => ?_, fun h => absurd (by omega) h⟩
    refine callB_intro (g1 [some ⟨[], true⟩, some ⟨(zs.take m).map u8, true⟩] _ _ (by simp only [go_sem, Nat.reduceEqDiff, Nat.reduceLT, Nat.reduceAdd, Nat.reduceSub, Nat.reduceMul, Nat.reduceBEq, Int.reduceLT, Int.reduceAdd, Int.reduceMul, Int.reduceSub, Int.reduceToNat, Int.reduceLE, Int.reduceEq, ↓reduceIte, reduceCtorEq, Int.reduceNeg, Nat.reduceLeDiff])) ?_
    simp (maxSteps := 1000000) (disch := omega) only [go_sem, Nat.reduceEqDiff, Nat.reduceLT, Nat.reduceAdd, Nat.reduceSub, Nat.reduceMul, Nat.reduceBEq, Int.reduceLT, Int.reduceAdd, Int.reduceMul, Int.reduceSub, Int.reduceToNat, Int.reduceLE, Int.reduceEq, ↓reduceIte, reduceCtorEq, Int.reduceNeg, Nat.reduceLeDiff]
    refine callB_intro (g2 [some ⟨[], true⟩, some ⟨(zs.take m).map u8, true⟩, some ⟨(zs.take m ++ tt).map u8, true⟩] _ _ _ (by simp only [go_sem, Nat.reduceEqDiff, Nat.reduceLT, Nat.reduceAdd, Nat.reduceSub, Nat.reduceMul, Nat.reduceBEq, Int.reduceLT, Int.reduceAdd, Int.reduceMul, Int.reduceSub, Int.reduceToNat, Int.reduceLE, Int.reduceEq, ↓reduceIte, reduceCtorEq, Int.reduceNeg, Nat.reduceLeDiff])) ?_
    simp (maxSteps := 1000000) (disch := omega) only [go_sem, Nat.reduceEqDiff, Nat.reduceLT, Nat.reduceAdd, Nat.reduceSub, Nat.reduceMul, Nat.reduceBEq, Int.reduceLT, Int.reduceAdd, Int.reduceMul, Int.reduceSub, Int.reduceToNat, Int.reduceLE, Int.reduceEq, ↓reduceIte, reduceCtorEq, Int.reduceNeg, Nat.reduceLeDiff]
    exact ⟨.tup [.sl H.length 0 m 1 none, .int .i64 0], fun _ _ h => h, fin_oneF _ 1 _ (by simp) rfl rfl (u8_und _) (by simp only [resVal, resAll, resOne, rs37, Env.get, go_sem, Nat.reduceEqDiff, Nat.reduceLT, Nat.reduceAdd, Nat.reduceSub, Nat.reduceMul, Nat.reduceBEq, Int.reduceLT, Int.reduceAdd, Int.reduceMul, Int.reduceSub, Int.reduceToNat, Int.reduceLE, Int.reduceEq, ↓reduceIte, reduceCtorEq, Int.reduceNeg, Nat.reduceLeDiff]; rfl) (by simp [AV.ren, AV.rens]) (by simp [AV.und, AV.unds])⟩
end Go.Proofs.Ytjibphejlmiocaa.Ah
