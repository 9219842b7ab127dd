/- V10k: a part of the proof: contracts of functions, or plain laws. Conditions: none. -/
import Derived.Test.YtjibcbfdfambeaaV10j
namespace Go.Proofs.Ytjibcbfdfambeaa.Ah
open Go Go.WideShapes
attribute [local irreducible] acs aopsK drawK leave condK bindR bindD bindX guardK guardD callB callD callX callP callPv
attribute [local go_sem] acs_nil acs_blk acs_skip acs_reg acs_dreg acs_freg acs_nam0 acs_nam nones acs_seq acs_cond acs_block acs_exit acs_ret acs_kl acs_loop leave_nil leave_code leave_lp leave_blk aopsK_nil aopsK_cons aopsK_guard bindR_val bindR_need bindR_br bindR_call bindR_bad drawK_nil drawK_cons drawK_ext drawK_pur drawK_guard callPv_fn drawK_purv bindD_val bindD_need bindD_br bindD_call bindD_bad bindX_val bindX_need bindX_br bindX_call guardD_bool guardD_tup grows grows0 List.append_cancel_left_eq List.cons.injEq exists_eq' exists_eq condK_bool guardK_bool guardK_tup sor r0 r1 r2 r3 rC rB rI rP rA rT rS rF rSl rO rbin rcut run1 Env.evals Env.eval Env.get Env.put Env.ins Env.del Env.dels argEnv AV.full AV.cells AV.cell eqCells decide_true decide_false decide_eq_true_eq decide_eq_false_iff_not Bool.not_eq_true' Bool.not_eq_false' true_and and_true false_implies true_implies forall_const Bool.not_true Bool.not_false Bool.false_eq_true Bool.true_eq_false List.getElem?_cons_zero List.getElem?_cons_succ List.length_cons List.length_nil List.length_append List.all_cons List.all_nil Bool.and_true Bool.and_self implies_true List.append_assoc List.cons_append List.nil_append List.append_nil i64_in imin_eq imax_eq cast3 cast0 cast1 cast2 Option.map_none ite_self and_false false_and Option.isSome_some or_true true_or Int.sub_zero Int.mul_one Nat.sub_zero Nat.zero_le Int.cast_ofNat_Int Int.natCast_nonneg Int.toNat_natCast ne_eq not_false_eq_true not_true_eq_false strC blkAt_app blkAt_app0 blkAt_zero blkAt_succ List.set_cons_zero List.set_cons_succ set_app set_app0 Option.map_some Option.bind_some rd setCells lay rdS szOk rapp ownAt lenAt Option.any_some Option.getD_some List.drop_zero List.drop_succ_cons List.take_succ_cons List.take_zero List.drop_nil List.take_nil Nat.lt_irrefl Nat.zero_add Nat.add_zero Nat.mul_one Nat.one_mul Nat.add_assoc Option.some.injEq eq_self
set_option maxHeartbeats 4000000
set_option linter.unusedSimpArgs false
set_option linter.unusedVariables false
/-! Plain laws of slots; the example; the law NvramSums. -/
theorem com_in (ws : List Int) : 4294967296 ≤ com ws ∧ com ws < 8589934592 := by
  have := sof_lt (b := bytes ws)
  unfold com
  omega
theorem wh_zero (ws : List Int) : wh ws 0 = false := by
  have := com_in ws
  refine decide_eq_false fun h => ?_
  omega
theorem wh_new {w : Int} {us : List Int} (h : 0 ≤ w ∧ w ≤ 4611686018427387904) : wh (w :: us) (com (w :: us)) = true :=
  decide_eq_true ⟨by simp, h.1, h.2, rfl⟩
theorem wh_hd {ws : List Int} {c : Int} (h : wh ws c = true) : 0 ≤ hd0 ws ∧ hd0 ws ≤ 4611686018427387904 := by
  have := of_decide_eq_true h
  omega
theorem nw_cases (ws : List Int) (c0 : Int) (vs : List Int) (c1 : Int) : (nw ws c0 vs c1 = -1 ∧ wh ws c0 = false ∧ wh vs c1 = false) ∨ (nw ws c0 vs c1 = 0 ∧ wh ws c0 = true ∧ (wh vs c1 = false ∨ hd0 vs ≤ hd0 ws)) ∨ (nw ws c0 vs c1 = 1 ∧ wh vs c1 = true ∧ ¬ (wh ws c0 = true ∧ hd0 vs ≤ hd0 ws)) := by
  unfold nw
  by_cases h : wh ws c0 = true ∧ (wh vs c1 = false ∨ hd0 vs ≤ hd0 ws)
  · rw [if_pos h]
    exact .inr (.inl ⟨rfl, h.1, h.2⟩)
  · rw [if_neg h]
    cases h1 : wh vs c1 with
    | true =>
      rw [if_pos rfl]
      refine .inr (.inr ⟨rfl, rfl, fun h2 => h ⟨h2.1, .inr h2.2⟩⟩)
    | false =>
      rw [if_neg (by simp)]
      refine .inl ⟨rfl, ?_, rfl⟩
      cases h0 : wh ws c0 with
      | false => rfl
      | true => exact absurd ⟨h0, .inl h1⟩ h
theorem nw_f {ws vs : List Int} {c0 c1 : Int} (h0 : wh ws c0 = false) (h1 : wh vs c1 = false) : nw ws c0 vs c1 = -1 := by
  unfold nw
  rw [if_neg (by simp [h0]), if_neg (by simp [h1])]
theorem nw_0 {ws vs : List Int} {c0 c1 : Int} (h0 : wh ws c0 = true) (h1 : wh vs c1 = false ∨ hd0 vs ≤ hd0 ws) : nw ws c0 vs c1 = 0 := by
  unfold nw
  rw [if_pos ⟨h0, h1⟩]
theorem nw_1 {ws vs : List Int} {c0 c1 : Int} (h1 : wh vs c1 = true) (h0 : wh ws c0 = false ∨ hd0 ws < hd0 vs) : nw ws c0 vs c1 = 1 := by
  unfold nw
  rw [if_neg (by
    rintro ⟨h2, h3⟩
    rcases h0 with h | h
    · rw [h2] at h; cases h
    · rcases h3 with h3 | h3
      · rw [h1] at h3; cases h3
      · omega), if_pos h1]
theorem call_dummy {P : Program} {f : FuncId} {args args' : List AV} {H H' : Heap} {v : AV} (himp : ∀ (M : Val) xs, M H.length = some ⟨0, 0, 0⟩ → VRs M args xs → VRs M args' xs) (hm : ∀ M M' : Val, M.le M' → ∀ xs, VRs M args xs → VRs M' args xs) (h : ACall P f args' (H ++ [some ⟨[], false⟩]) v H') : ACall P f args H v H' := by
  intro M w xs hH hv
  have hle : M.le (M.put H.length ⟨0, 0, 0⟩) := Val.le_put (hH.dom _ (Nat.le_refl _))
  refine (h _ w xs hH.dummy (himp _ xs (by simp [Val.put]) (hm _ _ hle xs hv))).mono fun e w' ⟨x, M', h1, h2, h3, h4⟩ => ⟨x, M', h1, h2, ?_, h4⟩
  exact (Kept.refl M H w).dummy.trans h3
def nv0 : AV := .agg [.nils, .int .i64 0, .nils, .int .i64 0]
/-- Into an empty store. -/
theorem f13_first {us : List Int} {q oq : Nat} {kq : Option Nat} {H : Heap} (hu : Sl i64 H q oq us) (lu : us.length ≤ 600) :
    ACall Try.prog 13 [nv0, .sl q oq us.length 1 kq] H (.tup [.agg (nvc (H.length + 1) 0 (us.length + 1) none (com (1 :: us)) H.length 0 0 none 0), .int .i64 0]) (H ++ [some ⟨[], false⟩, some ⟨(1 :: us).map i64, true⟩]) := by
  have hs : Sl i64 (H ++ [some ⟨[], false⟩]) H.length 0 [] := Sl.whole (o := false) (by simp only [go_sem, Nat.reduceEqDiff, Nat.reduceLT, Nat.reduceAdd, Nat.reduceSub, Nat.reduceMul, Nat.reduceBEq, Int.reduceLT, Int.reduceAdd, Int.reduceMul, Int.reduceSub, Int.reduceToNat, Int.reduceLE, Int.reduceEq, ↓reduceIte, reduceCtorEq, Int.reduceNeg, Nat.reduceLeDiff, List.map_nil])
  have g := f13_full_n (k0 := none) (k1 := none) (kq := kq) (c0 := 0) (c1 := 0) hs hs (hu.app _) (by decide) (by decide) (by omega) (nw_f (wh_zero _) (wh_zero _)) lu
  simp only [List.length_append, List.length_cons, List.length_nil, Nat.zero_add, List.append_assoc, List.cons_append, List.nil_append] at g
  refine call_dummy (args' := [.agg (nvc H.length 0 0 none 0 H.length 0 0 none 0), .sl q oq us.length 1 kq]) ?_ (fun M M' hle xs h => h.mono hle) g
  intro M xs hM h
  have nil : ∀ x, VR M .nils x → VR M (.sl H.length 0 0 1 none) x := by
    intro x hx
    simp only [VR] at hx ⊢
    exact ⟨_, hM, .inr (by simp [hx])⟩
  unfold nv0 at h
  simp only [VRs] at h ⊢
  obtain ⟨x, r, rfl, h1, h2⟩ := h
  refine ⟨x, r, rfl, ?_, h2⟩
  unfold nvc
  simp only [VR] at h1 ⊢
  obtain ⟨us', e, h1⟩ := h1
  refine ⟨us', e, ?_⟩
  simp only [VRs] at h1 ⊢
  obtain ⟨a, r1, e1, ha, b, r2, e2, hb, c, r3, e3, hc, d, r4, e4, hd, e5⟩ := h1
  exact ⟨a, r1, e1, nil a ha, b, r2, e2, hb, c, r3, e3, nil c hc, d, r4, e4, hd, e5⟩
theorem f10 (H : Heap) : ACall Try.prog 10 [] H (.bool true) H := by
  refine acall10 (by simp) (acs_start ?_)
  have gW := fun G q c (h : blkAt (H ++ G) q = some ⟨([5] : List Int).map i64, true⟩) => f13_first (kq := c) (Sl.whole h) (by decide)
  have gR := fun G p r (h : blkAt (H ++ G) p = some ⟨([1, 5] : List Int).map i64, true⟩) (h2 : blkAt (H ++ G) r = some ⟨([] : List Int).map i64, false⟩) => f12_0 (k0 := none) (k1 := none) (c0 := com [1, 5]) (c1 := 0) (Sl.whole h) (Sl.whole h2) (by decide) (by decide) (nw_0 (wh_new (by decide)) (.inl (wh_zero _))) (by decide)
  have gS := fun H => @f17 1 H.length 0 none H (by decide)
  have gS2 := fun p c H => @f17 1 p 0 c H (by decide)
  have m1 : ([5] : List Int).map i64 = [.int .i64 5] := rfl
  have m2 : ([1, 5] : List Int).map i64 = [.int .i64 1, .int .i64 5] := rfl
  have m3 : hd0 [1, 5] = 1 := rfl
  simp only [m1, m2, List.length_cons, List.length_nil, Nat.reduceAdd, Nat.zero_add] at gW
  simp only [m2, m3, m1, List.map_nil, List.drop_succ_cons, List.drop_zero, List.length_cons, List.length_nil, Nat.reduceAdd, Nat.zero_add, Nat.reduceSub] at gR
  generalize com [1, 5] = cc at *
  unfold nv0 nvc at *
  unfold c10
  simp (maxSteps := 1000000) (disch := omega) only [go_sem, Nat.reduceEqDiff, Nat.reduceLT, Nat.reduceAdd, Nat.reduceSub, Nat.reduceMul, Nat.reduceBEq, Int.reduceLT, Int.reduceAdd, Int.reduceMul, Int.reduceSub, Int.reduceToNat, Int.reduceLE, Int.reduceEq, ↓reduceIte, reduceCtorEq, Int.reduceNeg, Nat.reduceLeDiff]
  refine callB_intro (gW _ H.length _ (by simp only [go_sem, Nat.reduceEqDiff, Nat.reduceLT, Nat.reduceAdd, Nat.reduceSub, Nat.reduceMul, Nat.reduceBEq, Int.reduceLT, Int.reduceAdd, Int.reduceMul, Int.reduceSub, Int.reduceToNat, Int.reduceLE, Int.reduceEq, ↓reduceIte, reduceCtorEq, Int.reduceNeg, Nat.reduceLeDiff])) ?_
  simp (maxSteps := 1000000) (disch := omega) only [go_sem, Nat.reduceEqDiff, Nat.reduceLT, Nat.reduceAdd, Nat.reduceSub, Nat.reduceMul, Nat.reduceBEq, Int.reduceLT, Int.reduceAdd, Int.reduceMul, Int.reduceSub, Int.reduceToNat, Int.reduceLE, Int.reduceEq, ↓reduceIte, reduceCtorEq, Int.reduceNeg, Nat.reduceLeDiff]
  refine callB_intro (gR _ (H.length + 2) (H.length + 1) (by simp only [go_sem, Nat.reduceEqDiff, Nat.reduceLT, Nat.reduceAdd, Nat.reduceSub, Nat.reduceMul, Nat.reduceBEq, Int.reduceLT, Int.reduceAdd, Int.reduceMul, Int.reduceSub, Int.reduceToNat, Int.reduceLE, Int.reduceEq, ↓reduceIte, reduceCtorEq, Int.reduceNeg, Nat.reduceLeDiff]) (by simp only [go_sem, Nat.reduceEqDiff, Nat.reduceLT, Nat.reduceAdd, Nat.reduceSub, Nat.reduceMul, Nat.reduceBEq, Int.reduceLT, Int.reduceAdd, Int.reduceMul, Int.reduceSub, Int.reduceToNat, Int.reduceLE, Int.reduceEq, ↓reduceIte, reduceCtorEq, Int.reduceNeg, Nat.reduceLeDiff])) ?_
  simp (maxSteps := 1000000) (disch := omega) only [go_sem, Nat.reduceEqDiff, Nat.reduceLT, Nat.reduceAdd, Nat.reduceSub, Nat.reduceMul, Nat.reduceBEq, Int.reduceLT, Int.reduceAdd, Int.reduceMul, Int.reduceSub, Int.reduceToNat, Int.reduceLE, Int.reduceEq, ↓reduceIte, reduceCtorEq, Int.reduceNeg, Nat.reduceLeDiff]
  first | refine callB_intro (gS2 _ _ _) ?_ | refine callD_intro (gS2 _ _ _) ?_ | refine callP_intro (fun _ => (gS2 _ _ _)) ?_ | refine callX_pure (gS2 _ _ _) ?_
  simp (maxSteps := 1000000) (disch := omega) only [go_sem, Nat.reduceEqDiff, Nat.reduceLT, Nat.reduceAdd, Nat.reduceSub, Nat.reduceMul, Nat.reduceBEq, Int.reduceLT, Int.reduceAdd, Int.reduceMul, Int.reduceSub, Int.reduceToNat, Int.reduceLE, Int.reduceEq, ↓reduceIte, reduceCtorEq, Int.reduceNeg, Nat.reduceLeDiff]
  exact fin_same (by simp) _ (by first | exact (List.append_nil _).symm | rfl) (by simp (maxSteps := 1000000) (disch := omega) only [resVal, resAll, resOne, rs10, Env.get, go_sem, Nat.reduceEqDiff, Nat.reduceLT, Nat.reduceAdd, Nat.reduceSub, Nat.reduceMul, Nat.reduceBEq, Int.reduceLT, Int.reduceAdd, Int.reduceMul, Int.reduceSub, Int.reduceToNat, Int.reduceLE, Int.reduceEq, ↓reduceIte, reduceCtorEq, Int.reduceNeg, Nat.reduceLeDiff]) (by simp only [AV.und, AV.unds, and_self])
theorem bytes_eq_com {a b : List Int} (h : a = b) : com a = com b := by rw [h]
theorem f7 (xs ys : List Int) (p q o1 o2 : Nat) (k1 k2 : Option Nat) (H : Heap) (hx : Sl i64 H p o1 xs) (hy : Sl i64 H q o2 ys) (l1 : xs.length ≤ 140737488351232) (l2 : ys.length ≤ 140737488351232) :
    ACall Try.prog 7 [.sl p o1 xs.length 1 k1, .sl q o2 ys.length 1 k2] H (.bool true) H := by
  refine acall7 (by simp) (acs_start ?_)
  have g0 := f10
  unfold c7
  by_cases hl : 500 < xs.length + ys.length
  · have hl' : (500 : Int) < (xs.length : Int) + (ys.length : Int) := by omega
    simp (maxSteps := 1000000) (disch := omega) only [go_sem, Nat.reduceEqDiff, Nat.reduceLT, Nat.reduceAdd, Nat.reduceSub, Nat.reduceMul, Nat.reduceBEq, Int.reduceLT, Int.reduceAdd, Int.reduceMul, Int.reduceSub, Int.reduceToNat, Int.reduceLE, Int.reduceEq, ↓reduceIte, reduceCtorEq, Int.reduceNeg, Nat.reduceLeDiff]
    first | refine callB_intro (g0 _) ?_ | refine callD_intro (g0 _) ?_ | refine callP_intro (fun _ => (g0 _)) ?_ | refine callX_pure (g0 _) ?_
    simp (maxSteps := 1000000) (disch := omega) only [go_sem, Nat.reduceEqDiff, Nat.reduceLT, Nat.reduceAdd, Nat.reduceSub, Nat.reduceMul, Nat.reduceBEq, Int.reduceLT, Int.reduceAdd, Int.reduceMul, Int.reduceSub, Int.reduceToNat, Int.reduceLE, Int.reduceEq, ↓reduceIte, reduceCtorEq, Int.reduceNeg, Nat.reduceLeDiff,  hl']
    exact fin_same (by simp) _ (by first | exact (List.append_nil _).symm | rfl) (by simp (maxSteps := 1000000) (disch := omega) only [resVal, resAll, resOne, rs7, Env.get, go_sem, Nat.reduceEqDiff, Nat.reduceLT, Nat.reduceAdd, Nat.reduceSub, Nat.reduceMul, Nat.reduceBEq, Int.reduceLT, Int.reduceAdd, Int.reduceMul, Int.reduceSub, Int.reduceToNat, Int.reduceLE, Int.reduceEq, ↓reduceIte, reduceCtorEq, Int.reduceNeg, Nat.reduceLeDiff]) (by simp only [AV.und, AV.unds, and_self])
  have hl' : ¬ (500 : Int) < (xs.length : Int) + (ys.length : Int) := by omega
  have gx := fun G => f19 (cp := k1) (hx.app G) (by omega)
  have gy := fun G => f19 (cp := k2) (hy.app G) (by omega)
  have gE := fun G => f15 (c1 := k1) (c2 := k2) (hx.app G) (hy.app G) (by omega)
  have gS := fun H => @f17 xs.length p o1 k1 H (by omega)
  have cx := com_in xs
  have b1 : com xs < 8589934592 := cx.2
  have b2 : (4294967296 : Int) ≤ com xs := cx.1
  have e0 := @bytes_eq_com xs ys
  have gx0 := gx []
  have gy0 := gy []
  have gE0 := gE []
  simp only [List.append_nil] at gx0 gy0 gE0
  generalize com xs = cxx at *
  generalize com ys = cyy at *
  clear gx gy gE
  simp (maxSteps := 1000000) (disch := omega) only [go_sem, Nat.reduceEqDiff, Nat.reduceLT, Nat.reduceAdd, Nat.reduceSub, Nat.reduceMul, Nat.reduceBEq, Int.reduceLT, Int.reduceAdd, Int.reduceMul, Int.reduceSub, Int.reduceToNat, Int.reduceLE, Int.reduceEq, ↓reduceIte, reduceCtorEq, Int.reduceNeg, Nat.reduceLeDiff]
  first | refine callB_intro (g0 _) ?_ | refine callD_intro (g0 _) ?_ | refine callP_intro (fun _ => (g0 _)) ?_ | refine callX_pure (g0 _) ?_
  simp (maxSteps := 1000000) (disch := omega) only [go_sem, Nat.reduceEqDiff, Nat.reduceLT, Nat.reduceAdd, Nat.reduceSub, Nat.reduceMul, Nat.reduceBEq, Int.reduceLT, Int.reduceAdd, Int.reduceMul, Int.reduceSub, Int.reduceToNat, Int.reduceLE, Int.reduceEq, ↓reduceIte, reduceCtorEq, Int.reduceNeg, Nat.reduceLeDiff,  hl']
  first | refine callB_intro (gx0) ?_ | refine callD_intro (gx0) ?_ | refine callP_intro (fun _ => (gx0)) ?_ | refine callX_pure (gx0) ?_
  simp (maxSteps := 1000000) (disch := omega) only [go_sem, Nat.reduceEqDiff, Nat.reduceLT, Nat.reduceAdd, Nat.reduceSub, Nat.reduceMul, Nat.reduceBEq, Int.reduceLT, Int.reduceAdd, Int.reduceMul, Int.reduceSub, Int.reduceToNat, Int.reduceLE, Int.reduceEq, ↓reduceIte, reduceCtorEq, Int.reduceNeg, Nat.reduceLeDiff]
  first | refine callB_intro (gy0) ?_ | refine callD_intro (gy0) ?_ | refine callP_intro (fun _ => (gy0)) ?_ | refine callX_pure (gy0) ?_
  by_cases hc : cxx = cyy
  · subst hc
    simp (maxSteps := 1000000) (disch := omega) only [go_sem, Nat.reduceEqDiff, Nat.reduceLT, Nat.reduceAdd, Nat.reduceSub, Nat.reduceMul, Nat.reduceBEq, Int.reduceLT, Int.reduceAdd, Int.reduceMul, Int.reduceSub, Int.reduceToNat, Int.reduceLE, Int.reduceEq, ↓reduceIte, reduceCtorEq, Int.reduceNeg, Nat.reduceLeDiff,  b1, b2]
    first | refine callB_intro (gS _) ?_ | refine callD_intro (gS _) ?_ | refine callP_intro (fun _ => (gS _)) ?_ | refine callX_pure (gS _) ?_
    simp (maxSteps := 1000000) (disch := omega) only [go_sem, Nat.reduceEqDiff, Nat.reduceLT, Nat.reduceAdd, Nat.reduceSub, Nat.reduceMul, Nat.reduceBEq, Int.reduceLT, Int.reduceAdd, Int.reduceMul, Int.reduceSub, Int.reduceToNat, Int.reduceLE, Int.reduceEq, ↓reduceIte, reduceCtorEq, Int.reduceNeg, Nat.reduceLeDiff]
    exact fin_same (by simp) _ (by first | exact (List.append_nil _).symm | rfl) (by simp (maxSteps := 1000000) (disch := omega) only [resVal, resAll, resOne, rs7, Env.get, go_sem, Nat.reduceEqDiff, Nat.reduceLT, Nat.reduceAdd, Nat.reduceSub, Nat.reduceMul, Nat.reduceBEq, Int.reduceLT, Int.reduceAdd, Int.reduceMul, Int.reduceSub, Int.reduceToNat, Int.reduceLE, Int.reduceEq, ↓reduceIte, reduceCtorEq, Int.reduceNeg, Nat.reduceLeDiff]) (by simp only [AV.und, AV.unds, and_self])
  · have hne : decide (xs = ys) = false := decide_eq_false fun e => hc (e0 e)
    rw [hne] at gE0
    simp (maxSteps := 1000000) (disch := omega) only [go_sem, Nat.reduceEqDiff, Nat.reduceLT, Nat.reduceAdd, Nat.reduceSub, Nat.reduceMul, Nat.reduceBEq, Int.reduceLT, Int.reduceAdd, Int.reduceMul, Int.reduceSub, Int.reduceToNat, Int.reduceLE, Int.reduceEq, ↓reduceIte, reduceCtorEq, Int.reduceNeg, Nat.reduceLeDiff,  b1, b2, hc]
    first | refine callB_intro (gE0) ?_ | refine callD_intro (gE0) ?_ | refine callP_intro (fun _ => (gE0)) ?_ | refine callX_pure (gE0) ?_
    simp (maxSteps := 1000000) (disch := omega) only [go_sem, Nat.reduceEqDiff, Nat.reduceLT, Nat.reduceAdd, Nat.reduceSub, Nat.reduceMul, Nat.reduceBEq, Int.reduceLT, Int.reduceAdd, Int.reduceMul, Int.reduceSub, Int.reduceToNat, Int.reduceLE, Int.reduceEq, ↓reduceIte, reduceCtorEq, Int.reduceNeg, Nat.reduceLeDiff]
    first | refine callB_intro (gS _) ?_ | refine callD_intro (gS _) ?_ | refine callP_intro (fun _ => (gS _)) ?_ | refine callX_pure (gS _) ?_
    simp (maxSteps := 1000000) (disch := omega) only [go_sem, Nat.reduceEqDiff, Nat.reduceLT, Nat.reduceAdd, Nat.reduceSub, Nat.reduceMul, Nat.reduceBEq, Int.reduceLT, Int.reduceAdd, Int.reduceMul, Int.reduceSub, Int.reduceToNat, Int.reduceLE, Int.reduceEq, ↓reduceIte, reduceCtorEq, Int.reduceNeg, Nat.reduceLeDiff]
    exact fin_same (by simp) _ (by first | exact (List.append_nil _).symm | rfl) (by simp (maxSteps := 1000000) (disch := omega) only [resVal, resAll, resOne, rs7, Env.get, go_sem, Nat.reduceEqDiff, Nat.reduceLT, Nat.reduceAdd, Nat.reduceSub, Nat.reduceMul, Nat.reduceBEq, Int.reduceLT, Int.reduceAdd, Int.reduceMul, Int.reduceSub, Int.reduceToNat, Int.reduceLE, Int.reduceEq, ↓reduceIte, reduceCtorEq, Int.reduceNeg, Nat.reduceLeDiff]) (by simp only [AV.und, AV.unds, and_self])
end Go.Proofs.Ytjibcbfdfambeaa.Ah
