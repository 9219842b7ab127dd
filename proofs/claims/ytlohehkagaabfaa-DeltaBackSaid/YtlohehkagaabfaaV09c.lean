/- V09c: a part of the proof: contracts of functions, or plain laws. Conditions: none. -/
import Derived.Test.YtlohehkagaabfaaV09b
namespace Go.Proofs.Ytlohehkagaabfaa.Ah
open Go
attribute [local irreducible] acs aopsK drawK leave condK bindR bindD bindX guardK guardD callB callD callX callP callPv rfunG rfunK yldB yldD
attribute [local go_sem] acs_nil acs_blk acs_skip acs_reg acs_dreg acs_freg acs_nam0 acs_nam nones acs_seq acs_cond acs_block acs_exit acs_ret acs_kl acs_loop leave_nil leave_code leave_lp leave_blk aopsK_nil aopsK_cons aopsK_guard bindR_val bindR_need bindR_br bindR_call bindR_ycall acs_rfun rfunG_fn bindR_bad drawK_nil drawK_cons drawK_ext drawK_pur drawK_guard callPv_fn drawK_purv bindD_val bindD_need bindD_br bindD_call bindD_ycall bindD_bad bindX_val bindX_need bindX_br bindX_call guardD_bool guardD_tup grows grows0 List.append_cancel_left_eq List.cons.injEq exists_eq' exists_eq condK_bool guardK_bool guardK_tup sor r0 r1 r2 r3 rC rB rI rP rA rT rS rF rSl rO rbin rcut run1 Env.evals Env.eval Env.get Env.put Env.ins Env.del Env.dels argEnv AV.full AV.cells AV.cell eqCells decide_true decide_false decide_eq_true_eq decide_eq_false_iff_not Bool.not_eq_true' Bool.not_eq_false' true_and and_true false_implies true_implies forall_const Bool.not_true Bool.not_false Bool.false_eq_true Bool.true_eq_false List.getElem?_cons_zero List.getElem?_cons_succ List.length_cons List.length_nil List.length_append List.all_cons List.all_nil Bool.and_true Bool.and_self implies_true List.append_assoc List.cons_append List.nil_append List.append_nil i64_in imin_eq imax_eq cast3 cast0 cast1 cast2 Option.map_none ite_self and_false false_and Option.isSome_some or_true true_or Int.sub_zero Int.mul_one Nat.sub_zero Nat.zero_le Int.cast_ofNat_Int Int.natCast_nonneg Int.toNat_natCast ne_eq not_false_eq_true not_true_eq_false strC blkAt_app blkAt_app0 blkAt_zero blkAt_succ List.set_cons_zero List.set_cons_succ set_app set_app0 Option.map_some Option.bind_some rd setCells lay rdS szOk rapp ownAt lenAt Option.any_some Option.getD_some List.drop_zero List.drop_succ_cons List.take_succ_cons List.take_zero List.drop_nil List.take_nil Nat.lt_irrefl Nat.zero_add Nat.add_zero Nat.mul_one Nat.one_mul Nat.add_assoc Option.some.injEq eq_self
set_option maxHeartbeats 4000000
set_option linter.unusedSimpArgs false
set_option linter.unusedVariables false
/-! The law DeltaLong. -/
def tl : SC → SC | .seq _ b => b | s => s
def cnt : List Int → List Int → Nat
  | b :: bs, n :: ns => (if b = n then 0 else 1) + cnt bs ns
  | _, _ => 0
theorem dif_length : ∀ (bs ns : List Int) (cur : List Int) (j : Nat), (dif (cur, j) bs ns).length = cur.length + cnt bs ns
  | [], [], cur, j => by simp [dif, cnt]
  | [], _ :: _, cur, j => by simp [dif, cnt]
  | _ :: _, [], cur, j => by simp [dif, cnt]
  | b :: bs, n :: ns, cur, j => by
    rw [dif, dif_length, cnt]
    by_cases h : n = b
    · simp [h]
    · have h' : ¬ b = n := fun e => h e.symm
      simp [h, h']
      omega
theorem cnt_le : ∀ (bs ns : List Int), cnt bs ns ≤ ns.length
  | [], [] => by simp [cnt]
  | [], _ :: _ => by simp [cnt]
  | _ :: _, [] => by simp [cnt]
  | b :: bs, n :: ns => by
    have := cnt_le bs ns
    rw [cnt]
    split <;> simp <;> omega
def c3t : SC := tl (tl (tl (tl (tl c3))))
def e3 (p q L : Nat) (c1 c2 : Option Nat) (n : Int) (j : Nat) : Env := [(0, .sl p 0 L 1 c1), (1, .sl q 0 L 1 c2), (5, .bool true), (6, .int .i64 n), (7, .int .i64 (j : Int))]
theorem f3_loop {c1 c2 : Option Nat} {bs ns : List Int} {p q : Nat} {o o' : Bool} {H : Heap} (hp : blkAt H p = some ⟨bs.map (AV.int .i64), o⟩) (hq : blkAt H q = some ⟨ns.map (AV.int .i64), o'⟩) (hl : bs.length = ns.length) (hL : ns.length ≤ 600) :
    ∀ (rb rn : List Int) (j m : Nat), bs.drop j = rb → ns.drop j = rn → j + rn.length = ns.length → rb.length = rn.length → m + cnt rb rn = (diff bs ns).length → m ≤ j + 100 →
    acs Try.prog [.lp c3l0, .blk 0, .code c3t] (e3 p q ns.length c1 c2 (m : Int) j) H (Fin H rs3 (.bool true) H) := by
  have hpl := blkAt_lt hp
  have hql := blkAt_lt hq
  intro rb rn
  induction rn generalizing rb with
  | nil =>
    intro j m _ _ hj hr hm hm2
    obtain rfl := List.eq_nil_of_length_eq_zero hr
    have hlt : ¬ (j : Int) < (ns.length : Int) := by simp at hj; omega
    have hm3 : (diff bs ns).length = m := by rw [← hm]; rfl
    have g := f10 bs ns p q c1 c2 o o' H hp hq hl hL
    rw [hl, hm3] at g
    clear hm hm3
    unfold e3
    rw [acs_lp]; conv in Fr.code c3l0 => unfold c3l0
    simp (maxSteps := 1000000) (disch := omega) only [go_sem, Nat.reduceEqDiff, Nat.reduceLT, Nat.reduceAdd, Nat.reduceSub, Nat.reduceMul, Nat.reduceBEq, Int.reduceLT, Int.reduceAdd, Int.reduceMul, Int.reduceSub, Int.reduceToNat, Int.reduceLE, Int.reduceEq, ↓reduceIte, reduceCtorEq, Int.reduceNeg, Nat.reduceLeDiff,  hlt]
    unfold c3t c3 tl
    simp (maxSteps := 1000000) (disch := omega) only [go_sem, Nat.reduceEqDiff, Nat.reduceLT, Nat.reduceAdd, Nat.reduceSub, Nat.reduceMul, Nat.reduceBEq, Int.reduceLT, Int.reduceAdd, Int.reduceMul, Int.reduceSub, Int.reduceToNat, Int.reduceLE, Int.reduceEq, ↓reduceIte, reduceCtorEq, Int.reduceNeg, Nat.reduceLeDiff]
    first | refine callB_intro (g) ?_ | refine callD_intro (g) ?_ | refine callP_intro (fun _ => (g)) ?_ | refine callX_pure (g) ?_
    simp (maxSteps := 1000000) (disch := omega) only [go_sem, Nat.reduceEqDiff, Nat.reduceLT, Nat.reduceAdd, Nat.reduceSub, Nat.reduceMul, Nat.reduceBEq, Int.reduceLT, Int.reduceAdd, Int.reduceMul, Int.reduceSub, Int.reduceToNat, Int.reduceLE, Int.reduceEq, ↓reduceIte, reduceCtorEq, Int.reduceNeg, Nat.reduceLeDiff]
    exact fin_same (by simp) _ (by first | exact (List.append_nil _).symm | rfl) (by simp (maxSteps := 1000000) (disch := omega) only [resVal, resAll, resOne, rs3, Env.get, go_sem, Nat.reduceEqDiff, Nat.reduceLT, Nat.reduceAdd, Nat.reduceSub, Nat.reduceMul, Nat.reduceBEq, Int.reduceLT, Int.reduceAdd, Int.reduceMul, Int.reduceSub, Int.reduceToNat, Int.reduceLE, Int.reduceEq, ↓reduceIte, reduceCtorEq, Int.reduceNeg, Nat.reduceLeDiff]) (by simp only [AV.und, AV.unds, and_self])
  | cons n rn ih =>
    intro j m hb hn hj hr hm hm2
    cases rb with
    | nil => simp at hr
    | cons b rb =>
    have hlt : (j : Int) < (ns.length : Int) := by simp at hj; omega
    have hb0 : bs[j]? = some b := by have := congrArg (·[0]?) hb; simpa using this
    have hn0 : ns[j]? = some n := by have := congrArg (·[0]?) hn; simpa using this
    have fb := getMap (k := .i64) hb0
    have fn := getMap (k := .i64) hn0
    have hb2 : bs.drop (j + 1) = rb := by rw [← List.drop_drop, hb]; rfl
    have hn2 : ns.drop (j + 1) = rn := by rw [← List.drop_drop, hn]; rfl
    rw [cnt] at hm
    by_cases he : b = n
    · rw [if_pos he] at hm
      have next := ih rb (j + 1) m hb2 hn2 (by simp at hj; omega) (by simpa using hr) (by omega) (by omega)
      unfold e3 at *
      simp only [List.append_assoc, List.cons_append, List.nil_append, List.length_append, List.length_cons, List.length_nil, Nat.reduceAdd, Nat.add_assoc, Nat.zero_add, Nat.add_zero, Int.natCast_add, Int.cast_ofNat_Int, ] at next
      clear ih hm
      subst he
      rw [acs_lp]; conv in Fr.code c3l0 => unfold c3l0
      simp (maxSteps := 1000000) (disch := omega) only [go_sem, Nat.reduceEqDiff, Nat.reduceLT, Nat.reduceAdd, Nat.reduceSub, Nat.reduceMul, Nat.reduceBEq, Int.reduceLT, Int.reduceAdd, Int.reduceMul, Int.reduceSub, Int.reduceToNat, Int.reduceLE, Int.reduceEq, ↓reduceIte, reduceCtorEq, Int.reduceNeg, Nat.reduceLeDiff,  hp, hq, hlt, fb, fn]
      exact next
    · rw [if_neg he] at hm
      have next := ih rb (j + 1) (m + 1) hb2 hn2 (by simp at hj; omega) (by simpa using hr) (by omega) (by omega)
      unfold e3 at *
      simp only [List.append_assoc, List.cons_append, List.nil_append, List.length_append, List.length_cons, List.length_nil, Nat.reduceAdd, Nat.add_assoc, Nat.zero_add, Nat.add_zero, Int.natCast_add, Int.cast_ofNat_Int, ] at next
      clear ih hm
      rw [acs_lp]; conv in Fr.code c3l0 => unfold c3l0
      simp (maxSteps := 1000000) (disch := omega) only [go_sem, Nat.reduceEqDiff, Nat.reduceLT, Nat.reduceAdd, Nat.reduceSub, Nat.reduceMul, Nat.reduceBEq, Int.reduceLT, Int.reduceAdd, Int.reduceMul, Int.reduceSub, Int.reduceToNat, Int.reduceLE, Int.reduceEq, ↓reduceIte, reduceCtorEq, Int.reduceNeg, Nat.reduceLeDiff,  hp, hq, hlt, fb, fn, he]
      exact next
theorem f3 (bs ns : List Int) (p q : Nat) (c1 c2 : Option Nat) (o o' : Bool) (H : Heap) (hp : blkAt H p = some ⟨bs.map (AV.int .i64), o⟩) (hq : blkAt H q = some ⟨ns.map (AV.int .i64), o'⟩) :
    ACall Try.prog 3 [.sl p 0 bs.length 1 c1, .sl q 0 ns.length 1 c2] H (.bool true) H := by
  refine acall3 (by simp) (acs_start ?_)
  unfold c3
  simp (maxSteps := 1000000) (disch := omega) only [go_sem, Nat.reduceEqDiff, Nat.reduceLT, Nat.reduceAdd, Nat.reduceSub, Nat.reduceMul, Nat.reduceBEq, Int.reduceLT, Int.reduceAdd, Int.reduceMul, Int.reduceSub, Int.reduceToNat, Int.reduceLE, Int.reduceEq, ↓reduceIte, reduceCtorEq, Int.reduceNeg, Nat.reduceLeDiff]
  first | refine callB_intro (f9 _) ?_ | refine callD_intro (f9 _) ?_ | refine callP_intro (fun _ => (f9 _)) ?_ | refine callX_pure (f9 _) ?_
  by_cases hl : bs.length = ns.length
  · by_cases hL : ns.length ≤ 600
    · have hd : ((ns.length : Int) + 59).tdiv 60 = (((ns.length + 59) / 60 : Nat) : Int) := by rw [Int.tdiv_eq_ediv_of_nonneg (by omega)]; omega
      have hL' : ¬ (600 : Int) < (ns.length : Int) := by omega
      have hc := cnt_le bs ns
      have go := f3_loop (c1 := c1) (c2 := c2) hp hq hl hL bs ns 0 ((ns.length + 59) / 60) rfl rfl (by omega) hl (by unfold diff; rw [dif_length]; simp) (by omega)
      unfold e3 at go
      simp (maxSteps := 1000000) (disch := omega) only [go_sem, Nat.reduceEqDiff, Nat.reduceLT, Nat.reduceAdd, Nat.reduceSub, Nat.reduceMul, Nat.reduceBEq, Int.reduceLT, Int.reduceAdd, Int.reduceMul, Int.reduceSub, Int.reduceToNat, Int.reduceLE, Int.reduceEq, ↓reduceIte, reduceCtorEq, Int.reduceNeg, Nat.reduceLeDiff,  hl, hL', hd]
      exact go
    · have hL' : (600 : Int) < (ns.length : Int) := by omega
      simp (maxSteps := 1000000) (disch := omega) only [go_sem, Nat.reduceEqDiff, Nat.reduceLT, Nat.reduceAdd, Nat.reduceSub, Nat.reduceMul, Nat.reduceBEq, Int.reduceLT, Int.reduceAdd, Int.reduceMul, Int.reduceSub, Int.reduceToNat, Int.reduceLE, Int.reduceEq, ↓reduceIte, reduceCtorEq, Int.reduceNeg, Nat.reduceLeDiff,  hl, hL']
      exact fin_same (by simp) _ (by first | exact (List.append_nil _).symm | rfl) (by simp (maxSteps := 1000000) (disch := omega) only [resVal, resAll, resOne, rs3, Env.get, go_sem, Nat.reduceEqDiff, Nat.reduceLT, Nat.reduceAdd, Nat.reduceSub, Nat.reduceMul, Nat.reduceBEq, Int.reduceLT, Int.reduceAdd, Int.reduceMul, Int.reduceSub, Int.reduceToNat, Int.reduceLE, Int.reduceEq, ↓reduceIte, reduceCtorEq, Int.reduceNeg, Nat.reduceLeDiff]) (by simp only [AV.und, AV.unds, and_self])
  · have hl' : ¬ (bs.length : Int) = (ns.length : Int) := by omega
    simp (maxSteps := 1000000) (disch := omega) only [go_sem, Nat.reduceEqDiff, Nat.reduceLT, Nat.reduceAdd, Nat.reduceSub, Nat.reduceMul, Nat.reduceBEq, Int.reduceLT, Int.reduceAdd, Int.reduceMul, Int.reduceSub, Int.reduceToNat, Int.reduceLE, Int.reduceEq, ↓reduceIte, reduceCtorEq, Int.reduceNeg, Nat.reduceLeDiff,  hl']
    exact fin_same (by simp) _ (by first | exact (List.append_nil _).symm | rfl) (by simp (maxSteps := 1000000) (disch := omega) only [resVal, resAll, resOne, rs3, Env.get, go_sem, Nat.reduceEqDiff, Nat.reduceLT, Nat.reduceAdd, Nat.reduceSub, Nat.reduceMul, Nat.reduceBEq, Int.reduceLT, Int.reduceAdd, Int.reduceMul, Int.reduceSub, Int.reduceToNat, Int.reduceLE, Int.reduceEq, ↓reduceIte, reduceCtorEq, Int.reduceNeg, Nat.reduceLeDiff]) (by simp only [AV.und, AV.unds, and_self])
end Go.Proofs.Ytlohehkagaabfaa.Ah
