/- V03q: a part of the proof: contracts of functions, or plain laws. Conditions: none. -/
import Derived.Test.YtmlklopopokjoaaV03p
namespace Go.Proofs.Ytmlklopopokjoaa.Ah
open Go Go.WideShapes
attribute [local irreducible] acs aopsK drawK leave condK bindR bindD bindX guardK guardD callB callD callX callP callPv
attribute [local go_sem] acs_nil acs_blk acs_skip acs_reg acs_dreg acs_freg acs_nam0 acs_nam nones acs_seq acs_cond acs_block acs_exit acs_ret acs_kl acs_loop leave_nil leave_code leave_lp leave_blk aopsK_nil aopsK_cons aopsK_guard bindR_val bindR_need bindR_br bindR_call bindR_bad drawK_nil drawK_cons drawK_ext drawK_pur drawK_guard callPv_fn drawK_purv bindD_val bindD_need bindD_br bindD_call bindD_bad bindX_val bindX_need bindX_br bindX_call guardD_bool guardD_tup grows grows0 List.append_cancel_left_eq List.cons.injEq exists_eq' exists_eq condK_bool guardK_bool guardK_tup sor r0 r1 r2 r3 rC rB rI rP rA rT rS rF rSl rO rbin rcut run1 Env.evals Env.eval Env.get Env.put Env.ins Env.del Env.dels argEnv AV.full AV.cells AV.cell eqCells decide_true decide_false decide_eq_true_eq decide_eq_false_iff_not Bool.not_eq_true' Bool.not_eq_false' true_and and_true false_implies true_implies forall_const Bool.not_true Bool.not_false Bool.false_eq_true Bool.true_eq_false List.getElem?_cons_zero List.getElem?_cons_succ List.length_cons List.length_nil List.length_append List.all_cons List.all_nil Bool.and_true Bool.and_self implies_true List.append_assoc List.cons_append List.nil_append List.append_nil i64_in imin_eq imax_eq cast3 cast0 cast1 cast2 Option.map_none ite_self and_false false_and Option.isSome_some or_true true_or Int.sub_zero Int.mul_one Nat.sub_zero Nat.zero_le Int.cast_ofNat_Int Int.natCast_nonneg Int.toNat_natCast ne_eq not_false_eq_true not_true_eq_false strC blkAt_app blkAt_app0 blkAt_zero blkAt_succ List.set_cons_zero List.set_cons_succ set_app set_app0 Option.map_some Option.bind_some rd setCells lay rdS szOk rapp ownAt lenAt Option.any_some Option.getD_some List.drop_zero List.drop_succ_cons List.take_succ_cons List.take_zero List.drop_nil List.take_nil Nat.lt_irrefl Nat.zero_add Nat.add_zero Nat.mul_one Nat.one_mul Nat.add_assoc Option.some.injEq eq_self
set_option maxHeartbeats 4000000
set_option linter.unusedSimpArgs false
set_option linter.unusedVariables false
/-! Diagonals. -/
def dg (l : List Int) (i k : Nat) : Int := if i = k then l.getD i 0 else 0
def dgL (l : List Int) : List Int := matL (dg l) l.length l.length
theorem f49 {l : List Int} {i k b p off : Nat} {kk : Option Nat} {o : Bool} {H : Heap} (hs : Sl i64 H p off l) (hi : i < l.length) (h8 : l.length ≤ 8) (hb : blkAt H b = some ⟨[.sl p off l.length 1 kk], o⟩) : ACall Try.prog 49 [.int .i64 (i : Nat), .int .i64 (k : Nat), .ptr b 0] H (.tup [.int .i64 (dg l i k), .bool false]) H := by
  refine acall49 (by simp) (acs_start ?_)
  obtain ⟨cs, oo, hp, hle, hcs⟩ := hs
  have hpl := blkAt_lt hp
  have bl := blkAt_lt hb
  have hg : l[i]? = some (l.getD i 0) := by rw [List.getD_eq_getElem?_getD, List.getElem?_eq_getElem hi]; rfl
  have fx : cs[off + i]? = some (.int .i64 (l.getD i 0)) := sl_get hcs hg
  have hil : (i : Int) < (l.length : Int) := by omega
  unfold c49
  by_cases h : i = k
  · have e : dg l i k = l.getD i 0 := by unfold dg; rw [if_pos h]
    have h' : (i : Int) = (k : Int) := by omega
    have hd : decide ((i : Int) = (k : Int)) = true := decide_eq_true h'
    rw [e]
    generalize l.getD i 0 = x at *
    simp (maxSteps := 1000000) (disch := omega) only [go_sem, Nat.reduceEqDiff, Nat.reduceLT, Nat.reduceAdd, Nat.reduceSub, Nat.reduceMul, Nat.reduceBEq, Int.reduceLT, Int.reduceAdd, Int.reduceMul, Int.reduceSub, Int.reduceToNat, Int.reduceLE, Int.reduceEq, ↓reduceIte, reduceCtorEq, Int.reduceNeg, Nat.reduceLeDiff,  hd, hil, bl, hb, hpl, hp, fx]
    exact fin_same (by simp) _ (by first | exact (List.append_nil _).symm | rfl) (by simp (maxSteps := 1000000) (disch := omega) only [resVal, resAll, resOne, rs49, Env.get, go_sem, Nat.reduceEqDiff, Nat.reduceLT, Nat.reduceAdd, Nat.reduceSub, Nat.reduceMul, Nat.reduceBEq, Int.reduceLT, Int.reduceAdd, Int.reduceMul, Int.reduceSub, Int.reduceToNat, Int.reduceLE, Int.reduceEq, ↓reduceIte, reduceCtorEq, Int.reduceNeg, Nat.reduceLeDiff]) (by simp only [AV.und, AV.unds, and_self])
  · have e : dg l i k = 0 := by unfold dg; rw [if_neg h]
    have h' : ¬ (i : Int) = (k : Int) := by omega
    rw [e]
    simp (maxSteps := 1000000) (disch := omega) only [go_sem, Nat.reduceEqDiff, Nat.reduceLT, Nat.reduceAdd, Nat.reduceSub, Nat.reduceMul, Nat.reduceBEq, Int.reduceLT, Int.reduceAdd, Int.reduceMul, Int.reduceSub, Int.reduceToNat, Int.reduceLE, Int.reduceEq, ↓reduceIte, reduceCtorEq, Int.reduceNeg, Nat.reduceLeDiff,  h']
    exact fin_same (by simp) _ (by first | exact (List.append_nil _).symm | rfl) (by simp (maxSteps := 1000000) (disch := omega) only [resVal, resAll, resOne, rs49, Env.get, go_sem, Nat.reduceEqDiff, Nat.reduceLT, Nat.reduceAdd, Nat.reduceSub, Nat.reduceMul, Nat.reduceBEq, Int.reduceLT, Int.reduceAdd, Int.reduceMul, Int.reduceSub, Int.reduceToNat, Int.reduceLE, Int.reduceEq, ↓reduceIte, reduceCtorEq, Int.reduceNeg, Nat.reduceLeDiff]) (by simp only [AV.und, AV.unds, and_self])
theorem hb49 : hasBody Try.prog 49 = true := by kernel_rfl
theorem f25 {l : List Int} {p off : Nat} {kk : Option Nat} {H : Heap} (hs : Sl i64 H p off l) (h1 : 0 < l.length) (h8 : l.length ≤ 8) (hb : ∀ x ∈ l, InB x) :
    ACallE Try.prog 25 [.sl p off l.length 1 kk] H fun v H' => ∃ w, v = .tup [.agg [.int .i64 (l.length : Nat), .int .i64 (l.length : Nat), w], .int .i64 0] ∧ Rw i64 H' w (dgL l) := by
  refine acallE (fun v Hf h => acallK25 (by simp) h) (acs_start ?_)
  have u1 : ¬ (l.length : Int) < 1 := by omega
  have u2 : ¬ (8 : Int) < (l.length : Int) := by omega
  have er : rightB 1 (l.length : Nat) l = true := by
    unfold rightB
    rw [decide_eq_true ⟨by omega, by omega, by omega, by omega, by omega⟩, Bool.true_and, List.all_eq_true]
    exact fun x hx => inb_iff.2 (hb x hx)
  have g24 := fun G => f24 (R := 1) (C := (l.length : Nat)) (k := kk) (hs.app G) (by omega)
  rw [er] at g24
  have g27 := fun (G : Heap) => f27 (f := 49) (H := (H ++ (some ⟨[.sl p off l.length 1 kk], true⟩ :: G)).set (H.length + 1) none) (ys := [.ptr H.length 0]) (q := dg l) (b := fun _ _ => false) ⟨h1, h8⟩ ⟨h1, h8⟩ hb49
    (fun H' i k hx hi hk => f49 (o := true) (kk := kk) (hx.sl (hs.app_set (by omega) _)) hi h8 (hx.blk (by rw [blkAt_set_ne (by omega)]; simp only [go_sem, Nat.reduceEqDiff, Nat.reduceLT, Nat.reduceAdd, Nat.reduceSub, Nat.reduceMul, Nat.reduceBEq, Int.reduceLT, Int.reduceAdd, Int.reduceMul, Int.reduceSub, Int.reduceToNat, Int.reduceLE, Int.reduceEq, ↓reduceIte, reduceCtorEq, Int.reduceNeg, Nat.reduceLeDiff])))
  unfold c25
  simp (maxSteps := 1000000) (disch := omega) only [go_sem, Nat.reduceEqDiff, Nat.reduceLT, Nat.reduceAdd, Nat.reduceSub, Nat.reduceMul, Nat.reduceBEq, Int.reduceLT, Int.reduceAdd, Int.reduceMul, Int.reduceSub, Int.reduceToNat, Int.reduceLE, Int.reduceEq, ↓reduceIte, reduceCtorEq, Int.reduceNeg, Nat.reduceLeDiff,  u1, u2]
  first | refine callB_intro (g24 _) ?_ | refine callD_intro (g24 _) ?_ | refine callP_intro (fun _ => (g24 _)) ?_ | refine callX_pure (g24 _) ?_
  simp (maxSteps := 1000000) (disch := omega) only [go_sem, Nat.reduceEqDiff, Nat.reduceLT, Nat.reduceAdd, Nat.reduceSub, Nat.reduceMul, Nat.reduceBEq, Int.reduceLT, Int.reduceAdd, Int.reduceMul, Int.reduceSub, Int.reduceToNat, Int.reduceLE, Int.reduceEq, ↓reduceIte, reduceCtorEq, Int.reduceNeg, Nat.reduceLeDiff]
  first | refine callBE (ACallE.frame (b := H.length + 1) (x := ⟨[.int .i64 0, .int .i64 0, .nils], true⟩) (by simp only [go_sem, Nat.reduceEqDiff, Nat.reduceLT, Nat.reduceAdd, Nat.reduceSub, Nat.reduceMul, Nat.reduceBEq, Int.reduceLT, Int.reduceAdd, Int.reduceMul, Int.reduceSub, Int.reduceToNat, Int.reduceLE, Int.reduceEq, ↓reduceIte, reduceCtorEq, Int.reduceNeg, Nat.reduceLeDiff]) rfl (g27 _)) ?_ | refine callDE (ACallE.frame (b := H.length + 1) (x := ⟨[.int .i64 0, .int .i64 0, .nils], true⟩) (by simp only [go_sem, Nat.reduceEqDiff, Nat.reduceLT, Nat.reduceAdd, Nat.reduceSub, Nat.reduceMul, Nat.reduceBEq, Int.reduceLT, Int.reduceAdd, Int.reduceMul, Int.reduceSub, Int.reduceToNat, Int.reduceLE, Int.reduceEq, ↓reduceIte, reduceCtorEq, Int.reduceNeg, Nat.reduceLeDiff]) rfl (g27 _)) ?_ | refine callXE (ACallE.frame (b := H.length + 1) (x := ⟨[.int .i64 0, .int .i64 0, .nils], true⟩) (by simp only [go_sem, Nat.reduceEqDiff, Nat.reduceLT, Nat.reduceAdd, Nat.reduceSub, Nat.reduceMul, Nat.reduceBEq, Int.reduceLT, Int.reduceAdd, Int.reduceMul, Int.reduceSub, Int.reduceToNat, Int.reduceLE, Int.reduceEq, ↓reduceIte, reduceCtorEq, Int.reduceNeg, Nat.reduceLeDiff]) rfl (g27 _)) ?_
  rintro v H1 hx ⟨b1, w, rfl, hw⟩
  obtain ⟨p1, o1, k1, rfl, hs1⟩ := hw
  have bl1 := blkAt_lt b1
  have ok2 := fun y => hs1.unset (some ⟨y, true⟩)
  simp (maxSteps := 1000000) (disch := omega) only [go_sem, Nat.reduceEqDiff, Nat.reduceLT, Nat.reduceAdd, Nat.reduceSub, Nat.reduceMul, Nat.reduceBEq, Int.reduceLT, Int.reduceAdd, Int.reduceMul, Int.reduceSub, Int.reduceToNat, Int.reduceLE, Int.reduceEq, ↓reduceIte, reduceCtorEq, Int.reduceNeg, Nat.reduceLeDiff,  b1, bl1, blkAt_lo, set_lo, List.length_set]
  refine fin_e (by simp) (by simp (maxSteps := 1000000) (disch := omega) only [resVal, resAll, resOne, rs25, Env.get, go_sem, Nat.reduceEqDiff, Nat.reduceLT, Nat.reduceAdd, Nat.reduceSub, Nat.reduceMul, Nat.reduceBEq, Int.reduceLT, Int.reduceAdd, Int.reduceMul, Int.reduceSub, Int.reduceToNat, Int.reduceLE, Int.reduceEq, ↓reduceIte, reduceCtorEq, Int.reduceNeg, Nat.reduceLeDiff, b1, bl1, blkAt_los, blkAt_lo, set_lo, List.length_set, blkAt_set_self] <;> rfl) ((((Ext.app _ _).trans hx).set (by omega) _).to _) ⟨_, rfl, (Rw.mk _ (ok2 _)).app _⟩
def eyL (n : Nat) : List Int := matL (fun i k => if i = k then 16777216 else 0) n n
theorem ey_eq (n : Nat) : dgL (List.replicate n 16777216) = eyL n := by
  unfold dgL eyL
  rw [List.length_replicate]
  refine matL_congr fun i k hi hk => ?_
  unfold dg
  by_cases h : i = k
  · rw [if_pos h, if_pos h, List.getD_eq_getElem?_getD, List.getElem?_replicate, if_pos hi]
    rfl
  · rw [if_neg h, if_neg h]
theorem f23 {n : Nat} {H : Heap} (hn : 0 < n ∧ n ≤ 8) : ACallE Try.prog 23 [.int .i64 (n : Nat)] H fun v H' => ∃ w, v = .tup [.agg [.int .i64 (n : Nat), .int .i64 (n : Nat), w], .int .i64 0] ∧ Rw i64 H' w (eyL n) := by
  refine acallE (fun v Hf h => acallK23 (by simp) h) (acs_start ?_)
  have u1 : ¬ (n : Int) < 1 := by omega
  have u2 : ¬ (8 : Int) < (n : Int) := by omega
  have g46 := fun (G : Heap) (k : Option Nat) => f46 (n := n) (k := k) (o := true) (p := H.length + 1) (H := (H ++ (some ⟨[.int .i64 0, .int .i64 0, .nils], true⟩ :: some ⟨[.int .i64 16777216], true⟩ :: G)).set H.length none) (by omega) (by rw [blkAt_set_ne (by omega)]; simp only [go_sem, Nat.reduceEqDiff, Nat.reduceLT, Nat.reduceAdd, Nat.reduceSub, Nat.reduceMul, Nat.reduceBEq, Int.reduceLT, Int.reduceAdd, Int.reduceMul, Int.reduceSub, Int.reduceToNat, Int.reduceLE, Int.reduceEq, ↓reduceIte, reduceCtorEq, Int.reduceNeg, Nat.reduceLeDiff])
  unfold c23
  simp (maxSteps := 1000000) (disch := omega) only [go_sem, Nat.reduceEqDiff, Nat.reduceLT, Nat.reduceAdd, Nat.reduceSub, Nat.reduceMul, Nat.reduceBEq, Int.reduceLT, Int.reduceAdd, Int.reduceMul, Int.reduceSub, Int.reduceToNat, Int.reduceLE, Int.reduceEq, ↓reduceIte, reduceCtorEq, Int.reduceNeg, Nat.reduceLeDiff,  u1, u2]
  first | refine callBE (ACallE.frame (b := H.length) (x := ⟨[.int .i64 0, .int .i64 0, .nils], true⟩) (by simp only [go_sem, Nat.reduceEqDiff, Nat.reduceLT, Nat.reduceAdd, Nat.reduceSub, Nat.reduceMul, Nat.reduceBEq, Int.reduceLT, Int.reduceAdd, Int.reduceMul, Int.reduceSub, Int.reduceToNat, Int.reduceLE, Int.reduceEq, ↓reduceIte, reduceCtorEq, Int.reduceNeg, Nat.reduceLeDiff]) rfl (g46 _ _)) ?_ | refine callDE (ACallE.frame (b := H.length) (x := ⟨[.int .i64 0, .int .i64 0, .nils], true⟩) (by simp only [go_sem, Nat.reduceEqDiff, Nat.reduceLT, Nat.reduceAdd, Nat.reduceSub, Nat.reduceMul, Nat.reduceBEq, Int.reduceLT, Int.reduceAdd, Int.reduceMul, Int.reduceSub, Int.reduceToNat, Int.reduceLE, Int.reduceEq, ↓reduceIte, reduceCtorEq, Int.reduceNeg, Nat.reduceLeDiff]) rfl (g46 _ _)) ?_ | refine callXE (ACallE.frame (b := H.length) (x := ⟨[.int .i64 0, .int .i64 0, .nils], true⟩) (by simp only [go_sem, Nat.reduceEqDiff, Nat.reduceLT, Nat.reduceAdd, Nat.reduceSub, Nat.reduceMul, Nat.reduceBEq, Int.reduceLT, Int.reduceAdd, Int.reduceMul, Int.reduceSub, Int.reduceToNat, Int.reduceLE, Int.reduceEq, ↓reduceIte, reduceCtorEq, Int.reduceNeg, Nat.reduceLeDiff]) rfl (g46 _ _)) ?_
  rintro v H1 hx ⟨b1, p1, o1, k1, rfl, hs1⟩
  have g25 := f25 (kk := k1) hs1 (by simp; omega) (by simp; omega) (fun x hx => by rw [(List.mem_replicate.1 hx).2]; exact ⟨by decide, by decide⟩)
  rw [ey_eq] at g25
  have lr : (List.replicate n (16777216 : Int)).length = n := List.length_replicate
  rw [lr] at g25 ⊢
  simp (maxSteps := 1000000) (disch := omega) only [go_sem, Nat.reduceEqDiff, Nat.reduceLT, Nat.reduceAdd, Nat.reduceSub, Nat.reduceMul, Nat.reduceBEq, Int.reduceLT, Int.reduceAdd, Int.reduceMul, Int.reduceSub, Int.reduceToNat, Int.reduceLE, Int.reduceEq, ↓reduceIte, reduceCtorEq, Int.reduceNeg, Nat.reduceLeDiff]
  first | refine callBE (ACallE.frame b1 rfl g25) ?_ | refine callDE (ACallE.frame b1 rfl g25) ?_ | refine callXE (ACallE.frame b1 rfl g25) ?_
  rintro v H2 hx2 ⟨b2, w, rfl, p2, o2, k2, rfl, hs2⟩
  have bl2 := blkAt_lt b2
  have ok2 := fun y => hs2.unset (some ⟨y, true⟩)
  simp (maxSteps := 1000000) (disch := omega) only [go_sem, Nat.reduceEqDiff, Nat.reduceLT, Nat.reduceAdd, Nat.reduceSub, Nat.reduceMul, Nat.reduceBEq, Int.reduceLT, Int.reduceAdd, Int.reduceMul, Int.reduceSub, Int.reduceToNat, Int.reduceLE, Int.reduceEq, ↓reduceIte, reduceCtorEq, Int.reduceNeg, Nat.reduceLeDiff,  b2, bl2, blkAt_lo, set_lo, List.length_set]
  refine fin_e (by simp) (by simp (maxSteps := 1000000) (disch := omega) only [resVal, resAll, resOne, rs23, Env.get, go_sem, Nat.reduceEqDiff, Nat.reduceLT, Nat.reduceAdd, Nat.reduceSub, Nat.reduceMul, Nat.reduceBEq, Int.reduceLT, Int.reduceAdd, Int.reduceMul, Int.reduceSub, Int.reduceToNat, Int.reduceLE, Int.reduceEq, ↓reduceIte, reduceCtorEq, Int.reduceNeg, Nat.reduceLeDiff, b2, bl2, blkAt_los, blkAt_lo, set_lo, List.length_set, blkAt_set_self] <;> rfl) ((((Ext.app _ _).trans hx).trans hx2).set (Nat.le_refl _) _) ⟨_, rfl, Rw.mk _ (ok2 _)⟩
end Go.Proofs.Ytmlklopopokjoaa.Ah
