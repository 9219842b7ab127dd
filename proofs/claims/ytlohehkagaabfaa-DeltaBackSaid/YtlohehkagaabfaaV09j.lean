/- V09j: a part of the proof: contracts of functions, or plain laws. Conditions: none. -/
import Derived.Test.YtlohehkagaabfaaV09i
namespace Go.Proofs.Ytlohehkagaabfaa.Ah
open Go Go.WideShapes
attribute [local irreducible] acs aopsK drawK leave condK bindR bindD bindX guardK guardD callB callD callX callP callPv rfunG rfunK yldB yldD
attribute [local go_sem] acs_nil acs_blk acs_skip acs_reg acs_dreg acs_freg acs_nam0 acs_nam nones acs_seq acs_cond acs_block acs_exit acs_ret acs_kl acs_loop leave_nil leave_code leave_lp leave_blk aopsK_nil aopsK_cons aopsK_guard bindR_val bindR_need bindR_br bindR_call bindR_ycall acs_rfun rfunG_fn bindR_bad drawK_nil drawK_cons drawK_ext drawK_pur drawK_guard callPv_fn drawK_purv bindD_val bindD_need bindD_br bindD_call bindD_ycall bindD_bad bindX_val bindX_need bindX_br bindX_call guardD_bool guardD_tup grows grows0 List.append_cancel_left_eq List.cons.injEq exists_eq' exists_eq condK_bool guardK_bool guardK_tup sor r0 r1 r2 r3 rC rB rI rP rA rT rS rF rSl rO rbin rcut run1 Env.evals Env.eval Env.get Env.put Env.ins Env.del Env.dels argEnv AV.full AV.cells AV.cell eqCells decide_true decide_false decide_eq_true_eq decide_eq_false_iff_not Bool.not_eq_true' Bool.not_eq_false' true_and and_true false_implies true_implies forall_const Bool.not_true Bool.not_false Bool.false_eq_true Bool.true_eq_false List.getElem?_cons_zero List.getElem?_cons_succ List.length_cons List.length_nil List.length_append List.all_cons List.all_nil Bool.and_true Bool.and_self implies_true List.append_assoc List.cons_append List.nil_append List.append_nil i64_in imin_eq imax_eq cast3 cast0 cast1 cast2 Option.map_none ite_self and_false false_and Option.isSome_some or_true true_or Int.sub_zero Int.mul_one Nat.sub_zero Nat.zero_le Int.cast_ofNat_Int Int.natCast_nonneg Int.toNat_natCast ne_eq not_false_eq_true not_true_eq_false strC blkAt_app blkAt_app0 blkAt_zero blkAt_succ List.set_cons_zero List.set_cons_succ set_app set_app0 Option.map_some Option.bind_some rd setCells lay rdS szOk rapp ownAt lenAt Option.any_some Option.getD_some List.drop_zero List.drop_succ_cons List.take_succ_cons List.take_zero List.drop_nil List.take_nil Nat.lt_irrefl Nat.zero_add Nat.add_zero Nat.mul_one Nat.one_mul Nat.add_assoc Option.some.injEq eq_self
set_option maxHeartbeats 4000000
set_option linter.unusedSimpArgs false
set_option linter.unusedVariables false
/-! Contracts: the document's row of a delta. -/
def rp (bs d : List Int) : Nat → Nat → Nat → List Int → Option (List Int)
  | 0, _, at', out => if at' < d.length then none else some out
  | m + 1, i, at', out =>
    if 60 ≤ i % 64 ∨ bs.length ≤ 60 * (i / 64) + i % 64 then (if wb (d.getD (i / 64) 0) (i % 64) then none else rp bs d m (i + 1) at' out)
    else if wb (d.getD (i / 64) 0) (i % 64) then (if d.length ≤ at' ∨ d.getD at' 0 = bs.getD (60 * (i / 64) + i % 64) 0 then none else rp bs d m (i + 1) (at' + 1) (out ++ [d.getD at' 0]))
    else rp bs d m (i + 1) at' (out ++ [bs.getD (60 * (i / 64) + i % 64) 0])
/-- A row that is nil as long as it has nothing. -/
def Grow (H G' : Heap) (v : AV) (out : List Int) : Prop :=
  (v = .nils ∧ out = []) ∨ (out ≠ [] ∧ ∃ G, G' = G ++ [some ⟨out.map (AV.int .i64), true⟩] ∧ v = .sl (H.length + G.length) 0 out.length 1 none)
def Q17 (H : Heap) : Option (List Int) → Post
  | none => Fin H rs17 (.tup [.nils, .int .i64 2]) H
  | some [] => Fin H rs17 (.tup [.nils, .int .i64 0]) H
  | some R => FinW H rs17 (.tup [.sl H.length 0 R.length 1 none, .int .i64 0]) (H ++ [some ⟨R.map (AV.int .i64), false⟩])
def e17 (p q oq L m : Nat) (c1 c2 : Option Nat) (n : Nat) (v : AV) (a i : Nat) : Env := [(0, .sl p 0 L 1 c1), (1, .sl q oq m 1 c2), (6, .int .i64 (n : Nat)), (7, v), (8, .int .i64 (a : Nat)), (9, .int .i64 (i : Nat))]
def c17t : SC := tl2 (tl2 (tl2 (tl2 (tl2 (tl2 (tl2 c17))))))
theorem f17_end {bs d : List Int} {p q oq n : Nat} {c1 c2 : Option Nat} {H : Heap} (hdl : d.length ≤ 100000) (hn : n ≤ 10) {a i : Nat} {v : AV} {out : List Int} {G' : Heap} (hi : i = 64 * n) (ha : a ≤ d.length) (hG : Grow H G' v out) :
    acs Try.prog [.lp c17l0, .blk 0, .code c17t] (e17 p q oq bs.length d.length c1 c2 n v a i) (H ++ G') (Q17 H (rp bs d 0 i a out)) := by
  have hlt : ¬ (i : Int) < 64 * (n : Int) := by omega
  unfold rp
  by_cases h : a < d.length
  · rw [if_pos h]
    have h' : (a : Int) < (d.length : Int) := by omega
    unfold e17 Q17
    rw [acs_lp]; conv in Fr.code c17l0 => unfold c17l0
    simp (maxSteps := 1000000) (disch := omega) only [go_sem, Nat.reduceEqDiff, Nat.reduceLT, Nat.reduceAdd, Nat.reduceSub, Nat.reduceMul, Nat.reduceBEq, Int.reduceLT, Int.reduceAdd, Int.reduceMul, Int.reduceSub, Int.reduceToNat, Int.reduceLE, Int.reduceEq, ↓reduceIte, reduceCtorEq, Int.reduceNeg, Nat.reduceLeDiff,  hlt]
    unfold c17t c17 tl2
    simp (maxSteps := 1000000) (disch := omega) only [go_sem, Nat.reduceEqDiff, Nat.reduceLT, Nat.reduceAdd, Nat.reduceSub, Nat.reduceMul, Nat.reduceBEq, Int.reduceLT, Int.reduceAdd, Int.reduceMul, Int.reduceSub, Int.reduceToNat, Int.reduceLE, Int.reduceEq, ↓reduceIte, reduceCtorEq, Int.reduceNeg, Nat.reduceLeDiff,  h']
    exact fin_same (by simp) _ (by first | exact (List.append_nil _).symm | rfl) (by simp (maxSteps := 1000000) (disch := omega) only [resVal, resAll, resOne, rs17, Env.get, go_sem, Nat.reduceEqDiff, Nat.reduceLT, Nat.reduceAdd, Nat.reduceSub, Nat.reduceMul, Nat.reduceBEq, Int.reduceLT, Int.reduceAdd, Int.reduceMul, Int.reduceSub, Int.reduceToNat, Int.reduceLE, Int.reduceEq, ↓reduceIte, reduceCtorEq, Int.reduceNeg, Nat.reduceLeDiff]) (by simp only [AV.und, AV.unds, and_self])
  · rw [if_neg h]
    have h' : ¬ (a : Int) < (d.length : Int) := by omega
    unfold e17
    rw [acs_lp]; conv in Fr.code c17l0 => unfold c17l0
    rcases hG with ⟨rfl, rfl⟩ | ⟨hne, G, rfl, rfl⟩
    · unfold Q17
      simp (maxSteps := 1000000) (disch := omega) only [go_sem, Nat.reduceEqDiff, Nat.reduceLT, Nat.reduceAdd, Nat.reduceSub, Nat.reduceMul, Nat.reduceBEq, Int.reduceLT, Int.reduceAdd, Int.reduceMul, Int.reduceSub, Int.reduceToNat, Int.reduceLE, Int.reduceEq, ↓reduceIte, reduceCtorEq, Int.reduceNeg, Nat.reduceLeDiff,  hlt]
      unfold c17t c17 tl2
      simp (maxSteps := 1000000) (disch := omega) only [go_sem, Nat.reduceEqDiff, Nat.reduceLT, Nat.reduceAdd, Nat.reduceSub, Nat.reduceMul, Nat.reduceBEq, Int.reduceLT, Int.reduceAdd, Int.reduceMul, Int.reduceSub, Int.reduceToNat, Int.reduceLE, Int.reduceEq, ↓reduceIte, reduceCtorEq, Int.reduceNeg, Nat.reduceLeDiff,  h']
      exact fin_same (by simp) _ (by first | exact (List.append_nil _).symm | rfl) (by simp (maxSteps := 1000000) (disch := omega) only [resVal, resAll, resOne, rs17, Env.get, go_sem, Nat.reduceEqDiff, Nat.reduceLT, Nat.reduceAdd, Nat.reduceSub, Nat.reduceMul, Nat.reduceBEq, Int.reduceLT, Int.reduceAdd, Int.reduceMul, Int.reduceSub, Int.reduceToNat, Int.reduceLE, Int.reduceEq, ↓reduceIte, reduceCtorEq, Int.reduceNeg, Nat.reduceLeDiff]) (by simp only [AV.und, AV.unds, and_self])
    · cases out with
      | nil => exact absurd rfl hne
      | cons x r =>
        unfold Q17
        generalize x :: r = out at *
        simp (maxSteps := 1000000) (disch := omega) only [go_sem, Nat.reduceEqDiff, Nat.reduceLT, Nat.reduceAdd, Nat.reduceSub, Nat.reduceMul, Nat.reduceBEq, Int.reduceLT, Int.reduceAdd, Int.reduceMul, Int.reduceSub, Int.reduceToNat, Int.reduceLE, Int.reduceEq, ↓reduceIte, reduceCtorEq, Int.reduceNeg, Nat.reduceLeDiff,  hlt]
        unfold c17t c17 tl2
        simp (maxSteps := 1000000) (disch := omega) only [go_sem, Nat.reduceEqDiff, Nat.reduceLT, Nat.reduceAdd, Nat.reduceSub, Nat.reduceMul, Nat.reduceBEq, Int.reduceLT, Int.reduceAdd, Int.reduceMul, Int.reduceSub, Int.reduceToNat, Int.reduceLE, Int.reduceEq, ↓reduceIte, reduceCtorEq, Int.reduceNeg, Nat.reduceLeDiff,  h']
        refine ⟨.tup [.sl H.length 0 out.length 1 none, .int .i64 0], (fun _ _ h => h), fin_oneF (o := true) (G ++ [some ⟨out.map (AV.int .i64), true⟩]) G.length (out.map (AV.int .i64)) (by simp) rfl (by simp) (undMap _) (by simp only [resVal, resAll, resOne, rs17, Env.get, go_sem, Nat.reduceEqDiff, Nat.reduceLT, Nat.reduceAdd, Nat.reduceSub, Nat.reduceMul, Nat.reduceBEq, Int.reduceLT, Int.reduceAdd, Int.reduceMul, Int.reduceSub, Int.reduceToNat, Int.reduceLE, Int.reduceEq, ↓reduceIte, reduceCtorEq, Int.reduceNeg, Nat.reduceLeDiff]; rfl) (by simp [AV.ren, AV.rens]) (by simp [AV.und, AV.unds])⟩
theorem f17_loop {bs d : List Int} {p q oq n : Nat} {c1 c2 : Option Nat} {H : Heap} (hp : Sl i64 H p 0 bs) (hq : Sl i64 H q oq d) (hdl : d.length ≤ 100000) (hn : n ≤ 10) (hnd : n ≤ d.length) :
    ∀ (m i a : Nat) (v : AV) (out : List Int) (G' : Heap), i + m = 64 * n → a ≤ d.length → out.length ≤ i → Grow H G' v out →
    acs Try.prog [.lp c17l0, .blk 0, .code c17t] (e17 p q oq bs.length d.length c1 c2 n v a i) (H ++ G') (Q17 H (rp bs d m i a out)) := by
  intro m
  induction m with
  | zero =>
    intro i a v out G' hi ha _ hG
    exact f17_end hdl hn (by omega) ha hG
  | succ m ih =>
    intro i a v out G' hi ha ho hG
    have hpl := hp.lt
    have hql := hq.lt
    obtain ⟨cs, o, hp, hle, hcs⟩ := hp
    obtain ⟨ds, o2, hq, hle2, hds⟩ := hq
    have hlt : (i : Int) < 64 * (n : Int) := by omega
    have hd : (i : Int).tdiv 64 = ((i / 64 : Nat) : Int) := by rw [Int.tdiv_eq_ediv_of_nonneg (by omega)]; omega
    have hm : (i : Int).tmod 64 = ((i % 64 : Nat) : Int) := by rw [Int.tmod_eq_emod_of_nonneg (by omega)]; omega
    have hi64 : ((i / 64 : Nat) : Int) < (d.length : Int) := by omega
    have fm : ds[oq + i / 64]? = some (.int .i64 (d.getD (i / 64) 0)) := sl_get hds (by rw [List.getD_eq_getElem?_getD, List.getElem?_eq_getElem (by omega)]; simp)
    have g := fun H => f21 (d.getD (i / 64) 0) (i % 64) H (by omega)
    rw [rp]
    generalize d.getD (i / 64) 0 = mm at *
    generalize wb mm (i % 64) = w at *
    by_cases hs : 60 ≤ i % 64 ∨ bs.length ≤ 60 * (i / 64) + i % 64
    · rw [if_pos hs]
      have hs' : (60 : Int) ≤ ((i % 64 : Nat) : Int) ∨ (¬ (60 : Int) ≤ ((i % 64 : Nat) : Int) ∧ (bs.length : Int) ≤ 60 * ((i / 64 : Nat) : Int) + ((i % 64 : Nat) : Int)) := by omega
      have hb60 : 60 * ((i / 64 : Nat) : Int) + ((i % 64 : Nat) : Int) ≤ 100000 := by omega
      cases w with
      | true =>
        simp only [if_true]
        unfold e17 Q17
        clear ih hG
        generalize i / 64 = i1 at *
        generalize i % 64 = i2 at *
        rcases hs' with h | ⟨h, h2⟩
        · rw [acs_lp]; conv in Fr.code c17l0 => unfold c17l0
          simp (maxSteps := 1000000) (disch := omega) only [go_sem, Nat.reduceEqDiff, Nat.reduceLT, Nat.reduceAdd, Nat.reduceSub, Nat.reduceMul, Nat.reduceBEq, Int.reduceLT, Int.reduceAdd, Int.reduceMul, Int.reduceSub, Int.reduceToNat, Int.reduceLE, Int.reduceEq, ↓reduceIte, reduceCtorEq, Int.reduceNeg, Nat.reduceLeDiff,  hlt, hd, hm, hi64, hql, hq, blkAt_lo, fm]
          first | refine callB_intro (g _) ?_ | refine callD_intro (g _) ?_ | refine callP_intro (fun _ => (g _)) ?_ | refine callX_pure (g _) ?_
          simp (maxSteps := 1000000) (disch := omega) only [go_sem, Nat.reduceEqDiff, Nat.reduceLT, Nat.reduceAdd, Nat.reduceSub, Nat.reduceMul, Nat.reduceBEq, Int.reduceLT, Int.reduceAdd, Int.reduceMul, Int.reduceSub, Int.reduceToNat, Int.reduceLE, Int.reduceEq, ↓reduceIte, reduceCtorEq, Int.reduceNeg, Nat.reduceLeDiff,  h]
          exact fin_same (by simp) _ (by first | exact (List.append_nil _).symm | rfl) (by simp (maxSteps := 1000000) (disch := omega) only [resVal, resAll, resOne, rs17, Env.get, go_sem, Nat.reduceEqDiff, Nat.reduceLT, Nat.reduceAdd, Nat.reduceSub, Nat.reduceMul, Nat.reduceBEq, Int.reduceLT, Int.reduceAdd, Int.reduceMul, Int.reduceSub, Int.reduceToNat, Int.reduceLE, Int.reduceEq, ↓reduceIte, reduceCtorEq, Int.reduceNeg, Nat.reduceLeDiff]) (by simp only [AV.und, AV.unds, and_self])
        · rw [acs_lp]; conv in Fr.code c17l0 => unfold c17l0
          simp (maxSteps := 1000000) (disch := omega) only [go_sem, Nat.reduceEqDiff, Nat.reduceLT, Nat.reduceAdd, Nat.reduceSub, Nat.reduceMul, Nat.reduceBEq, Int.reduceLT, Int.reduceAdd, Int.reduceMul, Int.reduceSub, Int.reduceToNat, Int.reduceLE, Int.reduceEq, ↓reduceIte, reduceCtorEq, Int.reduceNeg, Nat.reduceLeDiff,  hlt, hd, hm, hi64, hql, hq, blkAt_lo, fm]
          first | refine callB_intro (g _) ?_ | refine callD_intro (g _) ?_ | refine callP_intro (fun _ => (g _)) ?_ | refine callX_pure (g _) ?_
          simp (maxSteps := 1000000) (disch := omega) only [go_sem, Nat.reduceEqDiff, Nat.reduceLT, Nat.reduceAdd, Nat.reduceSub, Nat.reduceMul, Nat.reduceBEq, Int.reduceLT, Int.reduceAdd, Int.reduceMul, Int.reduceSub, Int.reduceToNat, Int.reduceLE, Int.reduceEq, ↓reduceIte, reduceCtorEq, Int.reduceNeg, Nat.reduceLeDiff,  h, h2]
          exact fin_same (by simp) _ (by first | exact (List.append_nil _).symm | rfl) (by simp (maxSteps := 1000000) (disch := omega) only [resVal, resAll, resOne, rs17, Env.get, go_sem, Nat.reduceEqDiff, Nat.reduceLT, Nat.reduceAdd, Nat.reduceSub, Nat.reduceMul, Nat.reduceBEq, Int.reduceLT, Int.reduceAdd, Int.reduceMul, Int.reduceSub, Int.reduceToNat, Int.reduceLE, Int.reduceEq, ↓reduceIte, reduceCtorEq, Int.reduceNeg, Nat.reduceLeDiff]) (by simp only [AV.und, AV.unds, and_self])
      | false =>
        have next := ih (i + 1) a v out G' (by omega) ha (by omega) hG
        simp only [Bool.false_eq_true, if_false]
        generalize rp bs d m (i + 1) a out = R at *
        unfold e17 at *
        simp only [List.append_assoc, List.cons_append, List.nil_append, List.length_append, List.length_cons, List.length_nil, Nat.reduceAdd, Nat.add_assoc, Nat.zero_add, Nat.add_zero, Int.natCast_add, Int.cast_ofNat_Int, ] at next
        clear ih hG
        generalize i / 64 = i1 at *
        generalize i % 64 = i2 at *
        rcases hs' with h | ⟨h, h2⟩
        · rw [acs_lp]; conv in Fr.code c17l0 => unfold c17l0
          simp (maxSteps := 1000000) (disch := omega) only [go_sem, Nat.reduceEqDiff, Nat.reduceLT, Nat.reduceAdd, Nat.reduceSub, Nat.reduceMul, Nat.reduceBEq, Int.reduceLT, Int.reduceAdd, Int.reduceMul, Int.reduceSub, Int.reduceToNat, Int.reduceLE, Int.reduceEq, ↓reduceIte, reduceCtorEq, Int.reduceNeg, Nat.reduceLeDiff,  hlt, hd, hm, hi64, hql, hq, blkAt_lo, fm]
          first | refine callB_intro (g _) ?_ | refine callD_intro (g _) ?_ | refine callP_intro (fun _ => (g _)) ?_ | refine callX_pure (g _) ?_
          simp (maxSteps := 1000000) (disch := omega) only [go_sem, Nat.reduceEqDiff, Nat.reduceLT, Nat.reduceAdd, Nat.reduceSub, Nat.reduceMul, Nat.reduceBEq, Int.reduceLT, Int.reduceAdd, Int.reduceMul, Int.reduceSub, Int.reduceToNat, Int.reduceLE, Int.reduceEq, ↓reduceIte, reduceCtorEq, Int.reduceNeg, Nat.reduceLeDiff,  h]
          exact next
        · rw [acs_lp]; conv in Fr.code c17l0 => unfold c17l0
          simp (maxSteps := 1000000) (disch := omega) only [go_sem, Nat.reduceEqDiff, Nat.reduceLT, Nat.reduceAdd, Nat.reduceSub, Nat.reduceMul, Nat.reduceBEq, Int.reduceLT, Int.reduceAdd, Int.reduceMul, Int.reduceSub, Int.reduceToNat, Int.reduceLE, Int.reduceEq, ↓reduceIte, reduceCtorEq, Int.reduceNeg, Nat.reduceLeDiff,  hlt, hd, hm, hi64, hql, hq, blkAt_lo, fm]
          first | refine callB_intro (g _) ?_ | refine callD_intro (g _) ?_ | refine callP_intro (fun _ => (g _)) ?_ | refine callX_pure (g _) ?_
          simp (maxSteps := 1000000) (disch := omega) only [go_sem, Nat.reduceEqDiff, Nat.reduceLT, Nat.reduceAdd, Nat.reduceSub, Nat.reduceMul, Nat.reduceBEq, Int.reduceLT, Int.reduceAdd, Int.reduceMul, Int.reduceSub, Int.reduceToNat, Int.reduceLE, Int.reduceEq, ↓reduceIte, reduceCtorEq, Int.reduceNeg, Nat.reduceLeDiff,  h, h2]
          exact next
    · rw [if_neg hs]
      have h1 : ¬ (60 : Int) ≤ ((i % 64 : Nat) : Int) := by omega
      have h2 : ¬ (bs.length : Int) ≤ 60 * ((i / 64 : Nat) : Int) + ((i % 64 : Nat) : Int) := by omega
      have h3 : 60 * ((i / 64 : Nat) : Int) + ((i % 64 : Nat) : Int) < (bs.length : Int) := by omega
      have fb : cs[60 * (i / 64) + i % 64]? = some (.int .i64 (bs.getD (60 * (i / 64) + i % 64) 0)) := by
        have := sl_get hcs (j := 60 * (i / 64) + i % 64) (z := bs.getD (60 * (i / 64) + i % 64) 0) (by rw [List.getD_eq_getElem?_getD, List.getElem?_eq_getElem (by omega)]; simp)
        rwa [Nat.zero_add] at this
      have hto : (60 * ((i / 64 : Nat) : Int) + ((i % 64 : Nat) : Int)).toNat = 60 * (i / 64) + i % 64 := by omega
      have hb60 : 60 * ((i / 64 : Nat) : Int) + ((i % 64 : Nat) : Int) ≤ 100000 := by omega
      have hge : 0 ≤ 60 * ((i / 64 : Nat) : Int) + ((i % 64 : Nat) : Int) := by omega
      have hob : (out.length + 1) * 8 ≤ 140737488355328 := by omega
      have nextK := fun v G' => ih (i + 1) a v (out ++ [bs.getD (60 * (i / 64) + i % 64) 0]) G' (by omega) ha (by simp; omega)
      have nextW := fun h v G' => ih (i + 1) (a + 1) v (out ++ [d.getD a 0]) G' (by omega) h (by simp; omega)
      clear ih
      generalize bs.getD (60 * (i / 64) + i % 64) 0 = b at *
      generalize 60 * (i / 64) + i % 64 = place at *
      cases w with
      | false =>
        simp only [Bool.false_eq_true, if_false]
        generalize rp bs d m (i + 1) a (out ++ [b]) = R at *
        rcases hG with ⟨rfl, rfl⟩ | ⟨hne, G, rfl, rfl⟩
        · have nx := nextK (.sl (H.length + (G' ++ ([some (Blk.mk [.int .i64 b] true)] : Heap)).length) 0 1 1 none) ((G' ++ [some ⟨[.int .i64 b], true⟩]) ++ [some ⟨[.int .i64 b], true⟩]) (.inr ⟨by simp, _, rfl, rfl⟩)
          clear nextK nextW
          unfold e17 at *
          simp only [List.append_assoc, List.cons_append, List.nil_append, List.length_append, List.length_cons, List.length_nil, Nat.reduceAdd, Nat.add_assoc, Nat.zero_add, Nat.add_zero, Int.natCast_add, Int.cast_ofNat_Int, ] at nx
          rw [acs_lp]; conv in Fr.code c17l0 => unfold c17l0
          simp (maxSteps := 1000000) (disch := omega) only [go_sem, Nat.reduceEqDiff, Nat.reduceLT, Nat.reduceAdd, Nat.reduceSub, Nat.reduceMul, Nat.reduceBEq, Int.reduceLT, Int.reduceAdd, Int.reduceMul, Int.reduceSub, Int.reduceToNat, Int.reduceLE, Int.reduceEq, ↓reduceIte, reduceCtorEq, Int.reduceNeg, Nat.reduceLeDiff,  hlt, hd, hm, hi64, hql, hq, blkAt_lo, fm]
          first | refine callB_intro (g _) ?_ | refine callD_intro (g _) ?_ | refine callP_intro (fun _ => (g _)) ?_ | refine callX_pure (g _) ?_
          simp (maxSteps := 1000000) (disch := omega) only [go_sem, Nat.reduceEqDiff, Nat.reduceLT, Nat.reduceAdd, Nat.reduceSub, Nat.reduceMul, Nat.reduceBEq, Int.reduceLT, Int.reduceAdd, Int.reduceMul, Int.reduceSub, Int.reduceToNat, Int.reduceLE, Int.reduceEq, ↓reduceIte, reduceCtorEq, Int.reduceNeg, Nat.reduceLeDiff,  h1, h2, h3, hto, hge, hpl, hp, blkAt_lo, fb]
          exact nx
        · have nx := nextK (.sl (H.length + (G ++ ([none, some (Blk.mk [.int .i64 b] true)] : Heap)).length) 0 (out ++ [b]).length 1 none) ((G ++ [none, some ⟨[.int .i64 b], true⟩]) ++ [some ⟨(out ++ [b]).map (AV.int .i64), true⟩]) (.inr ⟨by simp, _, rfl, rfl⟩)
          clear nextK nextW
          have tk : List.take out.length (out.map (AV.int .i64)) = out.map (AV.int .i64) := takeMap out
          unfold e17 at *
          simp only [List.append_assoc, List.cons_append, List.nil_append, List.length_append, List.length_cons, List.length_nil, Nat.reduceAdd, Nat.add_assoc, Nat.zero_add, Nat.add_zero, Int.natCast_add, Int.cast_ofNat_Int, List.map_append, List.map_cons, List.map_nil] at nx
          rw [acs_lp]; conv in Fr.code c17l0 => unfold c17l0
          simp (maxSteps := 1000000) (disch := omega) only [go_sem, Nat.reduceEqDiff, Nat.reduceLT, Nat.reduceAdd, Nat.reduceSub, Nat.reduceMul, Nat.reduceBEq, Int.reduceLT, Int.reduceAdd, Int.reduceMul, Int.reduceSub, Int.reduceToNat, Int.reduceLE, Int.reduceEq, ↓reduceIte, reduceCtorEq, Int.reduceNeg, Nat.reduceLeDiff,  hlt, hd, hm, hi64, hql, hq, blkAt_lo, fm]
          first | refine callB_intro (g _) ?_ | refine callD_intro (g _) ?_ | refine callP_intro (fun _ => (g _)) ?_ | refine callX_pure (g _) ?_
          simp (maxSteps := 1000000) (disch := omega) only [go_sem, Nat.reduceEqDiff, Nat.reduceLT, Nat.reduceAdd, Nat.reduceSub, Nat.reduceMul, Nat.reduceBEq, Int.reduceLT, Int.reduceAdd, Int.reduceMul, Int.reduceSub, Int.reduceToNat, Int.reduceLE, Int.reduceEq, ↓reduceIte, reduceCtorEq, Int.reduceNeg, Nat.reduceLeDiff,  h1, h2, h3, hto, hge, hpl, hp, blkAt_lo, fb, tk, hob, List.length_map, Nat.le_refl]
          exact nx
      | true =>
        simp only [if_true]
        by_cases had : d.length ≤ a
        · rw [if_pos (.inl had)]
          have had' : (d.length : Int) ≤ (a : Int) := by omega
          clear nextK nextW hG
          unfold e17 Q17
          rw [acs_lp]; conv in Fr.code c17l0 => unfold c17l0
          simp (maxSteps := 1000000) (disch := omega) only [go_sem, Nat.reduceEqDiff, Nat.reduceLT, Nat.reduceAdd, Nat.reduceSub, Nat.reduceMul, Nat.reduceBEq, Int.reduceLT, Int.reduceAdd, Int.reduceMul, Int.reduceSub, Int.reduceToNat, Int.reduceLE, Int.reduceEq, ↓reduceIte, reduceCtorEq, Int.reduceNeg, Nat.reduceLeDiff,  hlt, hd, hm, hi64, hql, hq, blkAt_lo, fm]
          first | refine callB_intro (g _) ?_ | refine callD_intro (g _) ?_ | refine callP_intro (fun _ => (g _)) ?_ | refine callX_pure (g _) ?_
          simp (maxSteps := 1000000) (disch := omega) only [go_sem, Nat.reduceEqDiff, Nat.reduceLT, Nat.reduceAdd, Nat.reduceSub, Nat.reduceMul, Nat.reduceBEq, Int.reduceLT, Int.reduceAdd, Int.reduceMul, Int.reduceSub, Int.reduceToNat, Int.reduceLE, Int.reduceEq, ↓reduceIte, reduceCtorEq, Int.reduceNeg, Nat.reduceLeDiff,  h1, h2, had']
          exact fin_same (by simp) _ (by first | exact (List.append_nil _).symm | rfl) (by simp (maxSteps := 1000000) (disch := omega) only [resVal, resAll, resOne, rs17, Env.get, go_sem, Nat.reduceEqDiff, Nat.reduceLT, Nat.reduceAdd, Nat.reduceSub, Nat.reduceMul, Nat.reduceBEq, Int.reduceLT, Int.reduceAdd, Int.reduceMul, Int.reduceSub, Int.reduceToNat, Int.reduceLE, Int.reduceEq, ↓reduceIte, reduceCtorEq, Int.reduceNeg, Nat.reduceLeDiff]) (by simp only [AV.und, AV.unds, and_self])
        · have had' : ¬ (d.length : Int) ≤ (a : Int) := by omega
          have had2 : (a : Int) < (d.length : Int) := by omega
          have fw : ds[oq + a]? = some (.int .i64 (d.getD a 0)) := sl_get hds (by rw [List.getD_eq_getElem?_getD, List.getElem?_eq_getElem (by omega)]; simp)
          have nextW := nextW (by omega)
          generalize d.getD a 0 = wd at *
          by_cases hwb : wd = b
          · rw [if_pos (.inr hwb)]
            clear nextK nextW hG
            subst hwb
            unfold e17 Q17
            rw [acs_lp]; conv in Fr.code c17l0 => unfold c17l0
            simp (maxSteps := 1000000) (disch := omega) only [go_sem, Nat.reduceEqDiff, Nat.reduceLT, Nat.reduceAdd, Nat.reduceSub, Nat.reduceMul, Nat.reduceBEq, Int.reduceLT, Int.reduceAdd, Int.reduceMul, Int.reduceSub, Int.reduceToNat, Int.reduceLE, Int.reduceEq, ↓reduceIte, reduceCtorEq, Int.reduceNeg, Nat.reduceLeDiff,  hlt, hd, hm, hi64, hql, hq, blkAt_lo, fm]
            first | refine callB_intro (g _) ?_ | refine callD_intro (g _) ?_ | refine callP_intro (fun _ => (g _)) ?_ | refine callX_pure (g _) ?_
            simp (maxSteps := 1000000) (disch := omega) only [go_sem, Nat.reduceEqDiff, Nat.reduceLT, Nat.reduceAdd, Nat.reduceSub, Nat.reduceMul, Nat.reduceBEq, Int.reduceLT, Int.reduceAdd, Int.reduceMul, Int.reduceSub, Int.reduceToNat, Int.reduceLE, Int.reduceEq, ↓reduceIte, reduceCtorEq, Int.reduceNeg, Nat.reduceLeDiff,  h1, h2, h3, hto, hge, hpl, hp, hql, hq, blkAt_lo, fb, had', had2, fw]
            exact fin_same (by simp) _ (by first | exact (List.append_nil _).symm | rfl) (by simp (maxSteps := 1000000) (disch := omega) only [resVal, resAll, resOne, rs17, Env.get, go_sem, Nat.reduceEqDiff, Nat.reduceLT, Nat.reduceAdd, Nat.reduceSub, Nat.reduceMul, Nat.reduceBEq, Int.reduceLT, Int.reduceAdd, Int.reduceMul, Int.reduceSub, Int.reduceToNat, Int.reduceLE, Int.reduceEq, ↓reduceIte, reduceCtorEq, Int.reduceNeg, Nat.reduceLeDiff]) (by simp only [AV.und, AV.unds, and_self])
          · rw [if_neg (by rintro (h | h) <;> contradiction)]
            generalize rp bs d m (i + 1) (a + 1) (out ++ [wd]) = R at *
            rcases hG with ⟨rfl, rfl⟩ | ⟨hne, G, rfl, rfl⟩
            · have nx := nextW (.sl (H.length + (G' ++ ([some (Blk.mk [.int .i64 wd] true)] : Heap)).length) 0 1 1 none) ((G' ++ [some ⟨[.int .i64 wd], true⟩]) ++ [some ⟨[.int .i64 wd], true⟩]) (.inr ⟨by simp, _, rfl, rfl⟩)
              clear nextK nextW
              unfold e17 at *
              simp only [List.append_assoc, List.cons_append, List.nil_append, List.length_append, List.length_cons, List.length_nil, Nat.reduceAdd, Nat.add_assoc, Nat.zero_add, Nat.add_zero, Int.natCast_add, Int.cast_ofNat_Int, ] at nx
              rw [acs_lp]; conv in Fr.code c17l0 => unfold c17l0
              simp (maxSteps := 1000000) (disch := omega) only [go_sem, Nat.reduceEqDiff, Nat.reduceLT, Nat.reduceAdd, Nat.reduceSub, Nat.reduceMul, Nat.reduceBEq, Int.reduceLT, Int.reduceAdd, Int.reduceMul, Int.reduceSub, Int.reduceToNat, Int.reduceLE, Int.reduceEq, ↓reduceIte, reduceCtorEq, Int.reduceNeg, Nat.reduceLeDiff,  hlt, hd, hm, hi64, hql, hq, blkAt_lo, fm]
              first | refine callB_intro (g _) ?_ | refine callD_intro (g _) ?_ | refine callP_intro (fun _ => (g _)) ?_ | refine callX_pure (g _) ?_
              simp (maxSteps := 1000000) (disch := omega) only [go_sem, Nat.reduceEqDiff, Nat.reduceLT, Nat.reduceAdd, Nat.reduceSub, Nat.reduceMul, Nat.reduceBEq, Int.reduceLT, Int.reduceAdd, Int.reduceMul, Int.reduceSub, Int.reduceToNat, Int.reduceLE, Int.reduceEq, ↓reduceIte, reduceCtorEq, Int.reduceNeg, Nat.reduceLeDiff,  h1, h2, h3, hto, hge, hpl, hp, hql, hq, blkAt_lo, fb, had', had2, fw, hwb]
              exact nx
            · have nx := nextW (.sl (H.length + (G ++ ([none, some (Blk.mk [.int .i64 wd] true)] : Heap)).length) 0 (out ++ [wd]).length 1 none) ((G ++ [none, some ⟨[.int .i64 wd], true⟩]) ++ [some ⟨(out ++ [wd]).map (AV.int .i64), true⟩]) (.inr ⟨by simp, _, rfl, rfl⟩)
              clear nextK nextW
              have tk : List.take out.length (out.map (AV.int .i64)) = out.map (AV.int .i64) := takeMap out
              unfold e17 at *
              simp only [List.append_assoc, List.cons_append, List.nil_append, List.length_append, List.length_cons, List.length_nil, Nat.reduceAdd, Nat.add_assoc, Nat.zero_add, Nat.add_zero, Int.natCast_add, Int.cast_ofNat_Int, List.map_append, List.map_cons, List.map_nil] at nx
              rw [acs_lp]; conv in Fr.code c17l0 => unfold c17l0
              simp (maxSteps := 1000000) (disch := omega) only [go_sem, Nat.reduceEqDiff, Nat.reduceLT, Nat.reduceAdd, Nat.reduceSub, Nat.reduceMul, Nat.reduceBEq, Int.reduceLT, Int.reduceAdd, Int.reduceMul, Int.reduceSub, Int.reduceToNat, Int.reduceLE, Int.reduceEq, ↓reduceIte, reduceCtorEq, Int.reduceNeg, Nat.reduceLeDiff,  hlt, hd, hm, hi64, hql, hq, blkAt_lo, fm]
              first | refine callB_intro (g _) ?_ | refine callD_intro (g _) ?_ | refine callP_intro (fun _ => (g _)) ?_ | refine callX_pure (g _) ?_
              simp (maxSteps := 1000000) (disch := omega) only [go_sem, Nat.reduceEqDiff, Nat.reduceLT, Nat.reduceAdd, Nat.reduceSub, Nat.reduceMul, Nat.reduceBEq, Int.reduceLT, Int.reduceAdd, Int.reduceMul, Int.reduceSub, Int.reduceToNat, Int.reduceLE, Int.reduceEq, ↓reduceIte, reduceCtorEq, Int.reduceNeg, Nat.reduceLeDiff,  h1, h2, h3, hto, hge, hpl, hp, hql, hq, blkAt_lo, fb, had', had2, fw, hwb, tk, hob, List.length_map, Nat.le_refl]
              exact nx
/-- What the document tells of a delta's row. -/
def arow (bs d : List Int) : List Int × Int :=
  if 600 < bs.length then ([], 5) else if d.length < (bs.length + 59) / 60 then ([], 4) else
    match rp bs d (64 * ((bs.length + 59) / 60)) 0 ((bs.length + 59) / 60) [] with | none => ([], 2) | some R => (R, 0)
theorem f17_less {bs d : List Int} {p q oq N : Nat} {c1 c2 : Option Nat} {H : Heap} (hdiv : ((bs.length : Int) + 59).tdiv 60 = (N : Int)) (h1 : bs.length ≤ 600) (h2 : d.length < N) (hN : N ≤ 10) :
    ac Try.prog c17 [(0, .sl p 0 bs.length 1 c1), (1, .sl q oq d.length 1 c2)] H (Fin H rs17 (.tup [.nils, .int .i64 4]) H) := by
  have h1' : ¬ (600 : Int) < (bs.length : Int) := by omega
  have h2' : (d.length : Int) < (N : Int) := by omega
  refine acs_start ?_
  unfold c17
  simp (maxSteps := 1000000) (disch := omega) only [go_sem, Nat.reduceEqDiff, Nat.reduceLT, Nat.reduceAdd, Nat.reduceSub, Nat.reduceMul, Nat.reduceBEq, Int.reduceLT, Int.reduceAdd, Int.reduceMul, Int.reduceSub, Int.reduceToNat, Int.reduceLE, Int.reduceEq, ↓reduceIte, reduceCtorEq, Int.reduceNeg, Nat.reduceLeDiff,  h1', hdiv, h2']
  exact fin_same (by simp) _ (by first | exact (List.append_nil _).symm | rfl) (by simp (maxSteps := 1000000) (disch := omega) only [resVal, resAll, resOne, rs17, Env.get, go_sem, Nat.reduceEqDiff, Nat.reduceLT, Nat.reduceAdd, Nat.reduceSub, Nat.reduceMul, Nat.reduceBEq, Int.reduceLT, Int.reduceAdd, Int.reduceMul, Int.reduceSub, Int.reduceToNat, Int.reduceLE, Int.reduceEq, ↓reduceIte, reduceCtorEq, Int.reduceNeg, Nat.reduceLeDiff]) (by simp only [AV.und, AV.unds, and_self])
theorem f17_run {bs d : List Int} {p q oq N : Nat} {c1 c2 : Option Nat} {H : Heap} {Q : Post} (hdiv : ((bs.length : Int) + 59).tdiv 60 = (N : Int)) (h1 : bs.length ≤ 600) (h2 : N ≤ d.length) (hN : N ≤ 10) (go : acs Try.prog [.lp c17l0, .blk 0, .code c17t] (e17 p q oq bs.length d.length c1 c2 N .nils N 0) (H ++ []) Q) :
    ac Try.prog c17 [(0, .sl p 0 bs.length 1 c1), (1, .sl q oq d.length 1 c2)] H Q := by
  have h1' : ¬ (600 : Int) < (bs.length : Int) := by omega
  have h2' : ¬ (d.length : Int) < (N : Int) := by omega
  unfold e17 c17t c17 tl2 at go
  refine acs_start ?_
  unfold c17
  simp only [List.append_assoc, List.cons_append, List.nil_append, List.length_append, List.length_cons, List.length_nil, Nat.reduceAdd, Nat.add_assoc, Nat.zero_add, Nat.add_zero, Int.natCast_add, Int.cast_ofNat_Int, List.append_nil] at go
  simp (maxSteps := 1000000) (disch := omega) only [go_sem, Nat.reduceEqDiff, Nat.reduceLT, Nat.reduceAdd, Nat.reduceSub, Nat.reduceMul, Nat.reduceBEq, Int.reduceLT, Int.reduceAdd, Int.reduceMul, Int.reduceSub, Int.reduceToNat, Int.reduceLE, Int.reduceEq, ↓reduceIte, reduceCtorEq, Int.reduceNeg, Nat.reduceLeDiff,  h1', hdiv, h2']
  exact go
theorem f17_any {bs d : List Int} {p q oq : Nat} {c1 c2 : Option Nat} {H : Heap} (hp : Sl i64 H p 0 bs) (hq : Sl i64 H q oq d) (hdl : d.length ≤ 100000) (hbl : bs.length ≤ 100000) :
    ACall Try.prog 17 [.sl p 0 bs.length 1 c1, .sl q oq d.length 1 c2] H (rowres (arow bs d) H) (rowheap (arow bs d) H) := by
  unfold arow rowres rowheap
  have hdiv : ((bs.length : Int) + 59).tdiv 60 = (((bs.length + 59) / 60 : Nat) : Int) := by rw [Int.tdiv_eq_ediv_of_nonneg (by omega)]; omega
  by_cases h1 : 600 < bs.length
  · rw [if_pos h1]
    refine call_nilres2 (acall17 (by simp) (acs_start ?_))
    have h1' : (600 : Int) < (bs.length : Int) := by omega
    unfold c17
    simp (maxSteps := 1000000) (disch := omega) only [go_sem, Nat.reduceEqDiff, Nat.reduceLT, Nat.reduceAdd, Nat.reduceSub, Nat.reduceMul, Nat.reduceBEq, Int.reduceLT, Int.reduceAdd, Int.reduceMul, Int.reduceSub, Int.reduceToNat, Int.reduceLE, Int.reduceEq, ↓reduceIte, reduceCtorEq, Int.reduceNeg, Nat.reduceLeDiff,  h1']
    exact fin_same (by simp) _ (by first | exact (List.append_nil _).symm | rfl) (by simp (maxSteps := 1000000) (disch := omega) only [resVal, resAll, resOne, rs17, Env.get, go_sem, Nat.reduceEqDiff, Nat.reduceLT, Nat.reduceAdd, Nat.reduceSub, Nat.reduceMul, Nat.reduceBEq, Int.reduceLT, Int.reduceAdd, Int.reduceMul, Int.reduceSub, Int.reduceToNat, Int.reduceLE, Int.reduceEq, ↓reduceIte, reduceCtorEq, Int.reduceNeg, Nat.reduceLeDiff]) (by simp only [AV.und, AV.unds, and_self])
  rw [if_neg h1]
  by_cases h2 : d.length < (bs.length + 59) / 60
  · rw [if_pos h2]
    exact call_nilres2 (acall17 (by simp) (f17_less hdiv (by omega) h2 (by omega)))
  rw [if_neg h2]
  have go := f17_run hdiv (by omega) (by omega) (by omega) (f17_loop (n := (bs.length + 59) / 60) (c1 := c1) (c2 := c2) hp hq hdl (by omega) (by omega) (64 * ((bs.length + 59) / 60)) 0 ((bs.length + 59) / 60) .nils [] [] (by omega) (by omega) (by simp) (.inl ⟨rfl, rfl⟩))
  cases hR : rp bs d (64 * ((bs.length + 59) / 60)) 0 ((bs.length + 59) / 60) [] with
  | none =>
    rw [hR] at go
    exact call_nilres2 (acall17 (by simp) go)
  | some R =>
    rw [hR] at go
    cases R with
    | nil => exact call_nilres2 (acall17 (by simp) go)
    | cons x r => exact acallW (fun v' h => acall17 (by simp) h) go
end Go.Proofs.Ytlohehkagaabfaa.Ah
