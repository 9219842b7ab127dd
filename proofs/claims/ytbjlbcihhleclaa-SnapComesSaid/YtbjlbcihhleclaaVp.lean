/- Vp: a part of the proof: contracts of functions, or plain laws. Conditions: none. -/
import Derived.Test.YtbjlbcihhleclaaVo
namespace Go.Proofs.Ytbjlbcihhleclaa.Ah
open Go Go.WideShapes
attribute [local irreducible] acs aopsK drawK leave condK bindR bindD bindX guardK guardD callB callD callX callP callPv rfunG rfunK yldB yldD
attribute [local go_sem] mop mget mfind mput mres keyed AV.isAgg beq_self_eq_true Bool.true_and Option.isSome_some List.set_cons_zero acs_nil acs_blk acs_skip acs_reg acs_dreg acs_freg acs_nam0 acs_nam nones acs_seq acs_cond acs_block acs_exit acs_ret acs_kl acs_loop leave_nil leave_code leave_lp leave_blk aopsK_nil aopsK_cons aopsK_guard bindR_val bindR_need bindR_br bindR_call bindR_ycall acs_rfun rfunG_fn bindR_bad drawK_nil drawK_cons drawK_wat bindW_val bindW_need bindW_br WatL_nil WatL_cons isP_ptr drawK_ext drawK_pur drawK_guard callPv_fn drawK_purv bindD_val bindD_need bindD_br bindD_call bindD_ycall bindD_bad bindX_val bindX_need bindX_br bindX_call guardD_bool guardD_tup grows grows0 List.append_cancel_left_eq List.cons.injEq exists_eq' exists_eq condK_bool guardK_bool guardK_tup sor r0 r1 r2 r3 rC rB rI rP rA rT rS rF rSl rO rbin rcut run1 Env.evals Env.eval Env.get Env.put Env.ins Env.del Env.dels argEnv AV.full AV.cells AV.cell eqCells decide_true decide_false decide_eq_true_eq decide_eq_false_iff_not Bool.not_eq_true' Bool.not_eq_false' true_and and_true false_implies true_implies forall_const Bool.not_true Bool.not_false Bool.false_eq_true Bool.true_eq_false List.getElem?_cons_zero List.getElem?_cons_succ List.length_cons List.length_nil List.length_append List.all_cons List.all_nil Bool.and_true Bool.and_self implies_true List.append_assoc List.cons_append List.nil_append List.append_nil i64_in imin_eq imax_eq cast3 cast0 cast1 cast2 Option.map_none ite_self and_false false_and Option.isSome_some or_true true_or Int.sub_zero Int.mul_one Nat.sub_zero Nat.zero_le Int.cast_ofNat_Int Int.natCast_nonneg Int.toNat_natCast ne_eq not_false_eq_true not_true_eq_false strC blkAt_app blkAt_app0 blkAt_zero blkAt_succ List.set_cons_zero List.set_cons_succ set_app set_app0 Option.map_some Option.bind_some rd setCells lay rdS szOk rapp ownAt lenAt Option.any_some Option.getD_some List.drop_zero List.drop_succ_cons List.take_succ_cons List.take_zero List.drop_nil List.take_nil Nat.lt_irrefl Nat.zero_add Nat.add_zero Nat.mul_one Nat.one_mul Nat.add_assoc Option.some.injEq eq_self
set_option maxHeartbeats 4000000
set_option linter.unusedSimpArgs false
set_option linter.unusedVariables false
/-! The law SnapComes: a round. -/
def e8 (b3 b4 b5 b11 b12 q n p off m : Nat) (cp : Option Nat) (many i : Nat) : Env := [(3, .ptr b3 0), (4, .ptr b4 0), (5, .ptr b5 0), (6, .sl p off m 1 cp), (7, .bool true), (8, .sl q 0 n 8 none), (11, .ptr b11 0), (12, .ptr b12 0), (13, .int .i64 (many : Int)), (14, .int .i64 (i : Int))]
theorem f8_round {H X : Heap} {b3 b4 b5 b11 b12 q n p off m i many : Nat} {cp : Option Nat} {y0 y1 y2 y3 y4 y5 a b c z : Int} {e : Es} {ord : List Int} {A : Nat → Bool} {s : Sn} {fs : List Fr} {Q : Post} (d : CI H b3 b4 b5 b11 b12 q n y0 y1 y2 y3 y4 y5 a b c e A s X)
    (hok : e.ok H) (ho : Sl i64 H p off ord) (hz : ord[i]? = some z) (hlen : m = ord.length) (hm40 : m ≤ 40) (hmy : mayB y0 y1 y2 y3 y4 y5 = true) (he : estB e = true) (hk : mrkB a b c ((dlt e).length : Int) = true) (hn : ((dlt e).length + 7) / 8 = n) (nb : b3 < b11 ∧ b4 < b11 ∧ b5 < b11 ∧ q < b11 ∧ b11 < b12) (hH : H.length ≤ b11) (hmn : many = cn A n)
    (hq : ∀ A' s' X' many', CI H b3 b4 b5 b11 b12 q n y0 y1 y2 y3 y4 y5 a b c e A' s' X' → many' = cn A' n → acs Try.prog (.lp c8l0 :: fs) (e8 b3 b4 b5 b11 b12 q n p off m cp many' (i + 1)) X' Q) :
    acs Try.prog (.lp c8l0 :: fs) (e8 b3 b4 b5 b11 b12 q n p off m cp many i) X Q := by
  have d39 := mrkB_d39 hk
  have hiL : i < ord.length := by
    rcases Nat.lt_or_ge i ord.length with h | h
    · exact h
    · rw [List.getElem?_eq_none h] at hz; cases hz
  have hi : (i : Int) < (m : Int) := by omega
  have im : i < m := by omega
  have i1 : (i : Int) + 1 = ((i + 1 : Nat) : Int) := by omega
  obtain ⟨cs, o, hp, hle, hcs⟩ := d.ext.sl ho
  have fz : cs[off + i]? = some (.int .i64 z) := sl_get hcs hz
  have skip := hq A s X many d hmn
  unfold e8 at *
  by_cases z0 : z < 0
  · rw [acs_lp]; conv in Fr.code c8l0 => unfold c8l0
    simp (maxSteps := 1000000) (disch := omega) only [go_sem, Nat.reduceEqDiff, Nat.reduceLT, Nat.reduceAdd, Nat.reduceSub, Nat.reduceMul, Nat.reduceBEq, Int.reduceLT, Int.reduceAdd, Int.reduceMul, Int.reduceSub, Int.reduceToNat, Int.reduceLE, Int.reduceEq, ↓reduceIte, reduceCtorEq, Int.reduceNeg, Nat.reduceLeDiff,  hi, im, hp, fz, z0, i1]
    exact skip
  by_cases z1 : (n : Int) ≤ z
  · rw [acs_lp]; conv in Fr.code c8l0 => unfold c8l0
    simp (maxSteps := 1000000) (disch := omega) only [go_sem, Nat.reduceEqDiff, Nat.reduceLT, Nat.reduceAdd, Nat.reduceSub, Nat.reduceMul, Nat.reduceBEq, Int.reduceLT, Int.reduceAdd, Int.reduceMul, Int.reduceSub, Int.reduceToNat, Int.reduceLE, Int.reduceEq, ↓reduceIte, reduceCtorEq, Int.reduceNeg, Nat.reduceLeDiff,  hi, im, hp, fz, z0, z1, i1]
    exact skip
  obtain ⟨k, rfl⟩ : ∃ k : Nat, z = (k : Int) := ⟨z.toNat, by omega⟩
  have kn : k < n := by omega
  have k5 : k < 5 := by omega
  have z5 : (k : Int) < 5 := by omega
  have zn : (k : Int) < (n : Int) := by omega
  have z5' : ¬ (5 : Int) ≤ (k : Int) := by omega
  have hs := d.got.ok
  have len := Sn.len hs
  have all := s.all
  have tk := Sn.tk hs
  have drp := Sn.drp hs
  have hg2 := d.got.step hk hn kn
  have lenT := Sn.len hg2.ok
  have fullT := (takeS s a b c ((dlt e).length : Int) (k : Int) (row8 (dlt e) k)).full
  have allT := (takeS s a b c ((dlt e).length : Int) (k : Int) (row8 (dlt e) k)).all
  have tkT := Sn.tk hg2.ok
  have hrow := pc_row8 (dlt e) (n := n) (k := k) kn
  have hle2 : k * 8 + 8 ≤ 8 * n := by omega
  have lpc : ((pc (dlt e) n).map (AV.int .i64)).length = 8 * n := by rw [List.length_map, pc_len]
  have allr := all_int (row8 (dlt e) k)
  have d2 := d.next hg2 nb hH
  have g18 := fun (G : Heap) => f18 (a := a) (b := b) (c := c) (d := ((dlt e).length : Int)) (i := (k : Int)) (q := row8 (dlt e) k) (H := G) hs (row8_len (dlt e) k)
  have hst := cn_step A k n
  have hbs := hb_set A k5
  have hbg := hb_get A k5
  have lhb : ∀ B, (hb B).length = 5 := fun _ => rfl
  have k51 : k + 1 ≤ 5 := by omega
  obtain ⟨h3, h4, h5, hQ, h11, h12, _, _⟩ := d
  obtain ⟨m3, m4, m5, mq, m12⟩ := nb
  have l11 := blkAt_lt h11
  have e5 : ∀ x, blkAt (X.set b11 x) b5 = some ⟨[.int .i64 a, .int .i64 b, .int .i64 c, .int .i64 ((dlt e).length : Int)], true⟩ := fun x => (blkAt_set_ne (by omega) x).trans h5
  have e12 : ∀ x, blkAt (X.set b11 x) b12 = some ⟨hb A, true⟩ := fun x => (blkAt_set_ne (by omega) x).trans h12
  have hall := cn_all (fun j => A j || decide (j = k)) n
  generalize takeS s a b c ((dlt e).length : Int) (k : Int) (row8 (dlt e) k) = s2 at *
  have dH := d2.ext
  have w3 := d2.h3
  have w4 := d2.h4
  have w11 := d2.h11
  have w12 := d2.h12
  have okE := hok.ext dH
  have fullE : (AV.agg e.av).full = true := rfl
  have lenE : e.av.length = 29 := rfl
  have allE : e.av.all AV.cell = true := rfl
  have tkE : List.take 29 e.av = e.av := rfl
  have drpE : List.drop 29 e.av = [] := rfl
  have fullZ : (AV.agg zEs).full = true := rfl
  have lenZ : zEs.length = 29 := rfl
  have allZ : zEs.all AV.cell = true := rfl
  have fullF : ∀ f : Es, (AV.agg f.av).full = true := fun _ => rfl
  have lenF : ∀ f : Es, f.av.length = 29 := fun _ => rfl
  have allF : ∀ f : Es, f.av.all AV.cell = true := fun _ => rfl
  have tkF : ∀ f : Es, List.take 29 f.av = f.av := fun _ => rfl
  have drpF : ∀ f : Es, List.drop 29 f.av = [] := fun _ => rfl
  cases hA : A k with
  | true =>
    rw [if_neg (by rw [hA]; simp)] at hst
    rw [hA] at hbg
    rw [acs_lp]; conv in Fr.code c8l0 => unfold c8l0
    simp (maxSteps := 1000000) (disch := omega) only [go_sem, Nat.reduceEqDiff, Nat.reduceLT, Nat.reduceAdd, Nat.reduceSub, Nat.reduceMul, Nat.reduceBEq, Int.reduceLT, Int.reduceAdd, Int.reduceMul, Int.reduceSub, Int.reduceToNat, Int.reduceLE, Int.reduceEq, ↓reduceIte, reduceCtorEq, Int.reduceNeg, Nat.reduceLeDiff,  hi, im, hp, fz, z0, z1, z5, z5', zn, h11, h5, hQ, lpc, len, tk, all, hrow, hle2, allr]
    first | refine callB_intro (g18 _) ?_ | refine callD_intro (g18 _) ?_ | refine callP_intro (fun _ => (g18 _)) ?_ | refine callX_pure (g18 _) ?_
    simp (maxSteps := 1000000) (disch := omega) only [go_sem, Nat.reduceEqDiff, Nat.reduceLT, Nat.reduceAdd, Nat.reduceSub, Nat.reduceMul, Nat.reduceBEq, Int.reduceLT, Int.reduceAdd, Int.reduceMul, Int.reduceSub, Int.reduceToNat, Int.reduceLE, Int.reduceEq, ↓reduceIte, reduceCtorEq, Int.reduceNeg, Nat.reduceLeDiff,  h11, len, lenT, fullT, allT, drp, e12, hbg, lhb, hbs, z5, k51]
    generalize (X.set b11 (some ⟨s2.av, true⟩)).set b12 (some ⟨hb fun j => A j || decide (j = k), true⟩) = Y at *
    by_cases ha : ∀ j, j < n → (A j || decide (j = k)) = true
    · have mny := eq_true (show ((many : Int) : Int) = (n : Int) by
        have := hall.2 ha
        omega)
      simp (maxSteps := 1000000) (disch := omega) only [go_sem, Nat.reduceEqDiff, Nat.reduceLT, Nat.reduceAdd, Nat.reduceSub, Nat.reduceMul, Nat.reduceBEq, Int.reduceLT, Int.reduceAdd, Int.reduceMul, Int.reduceSub, Int.reduceToNat, Int.reduceLE, Int.reduceEq, ↓reduceIte, reduceCtorEq, Int.reduceNeg, Nat.reduceLeDiff,  w3, w11, lenT, tkT, allT]
      first | refine callBE (f21_all hmy he hk hn hg2 ha) ?_ | refine callDE (f21_all hmy he hk hn hg2 ha) ?_ | refine callXE (f21_all hmy he hk hn hg2 ha) ?_
      rintro v Z hz ⟨f, rfl, hf, hfo⟩
      have x4 := hz.blk w4
      have lx4 := blkAt_lt x4
      have okZ := okE.ext hz
      have g13 := fun (G2 : Heap) => f13 (H := Z ++ G2) (hfo.app G2) (okZ.app G2) hf
      simp (maxSteps := 1000000) (disch := omega) only [go_sem, Nat.reduceEqDiff, Nat.reduceLT, Nat.reduceAdd, Nat.reduceSub, Nat.reduceMul, Nat.reduceBEq, Int.reduceLT, Int.reduceAdd, Int.reduceMul, Int.reduceSub, Int.reduceToNat, Int.reduceLE, Int.reduceEq, ↓reduceIte, reduceCtorEq, Int.reduceNeg, Nat.reduceLeDiff,  fullF, lenF, allF, tkF, drpF, x4, lx4, lenE, tkE, allE, mny, blkAt_lo, i1]
      first | refine callB_intro (g13 _) ?_ | refine callD_intro (g13 _) ?_ | refine callP_intro (fun _ => (g13 _)) ?_ | refine callX_pure (g13 _) ?_
      simp (maxSteps := 1000000) (disch := omega) only [go_sem, Nat.reduceEqDiff, Nat.reduceLT, Nat.reduceAdd, Nat.reduceSub, Nat.reduceMul, Nat.reduceBEq, Int.reduceLT, Int.reduceAdd, Int.reduceMul, Int.reduceSub, Int.reduceToNat, Int.reduceLE, Int.reduceEq, ↓reduceIte, reduceCtorEq, Int.reduceNeg, Nat.reduceLeDiff,  mny, i1]
      refine (hq _ s2 _ many (d2.grow (hz.to _)) (by omega))
    · have mny : ¬ (((many : Int) : Int) = (n : Int)) := fun hh => ha (hall.1 (by omega))
      have hno : ∃ j, j < n ∧ (A j || decide (j = k)) = false := by
        apply Classical.byContradiction
        intro hno
        refine ha fun j hj => ?_
        cases hv : (A j || decide (j = k)) with
        | true => rfl
        | false => exact (hno ⟨j, hj, hv⟩).elim
      simp (maxSteps := 1000000) (disch := omega) only [go_sem, Nat.reduceEqDiff, Nat.reduceLT, Nat.reduceAdd, Nat.reduceSub, Nat.reduceMul, Nat.reduceBEq, Int.reduceLT, Int.reduceAdd, Int.reduceMul, Int.reduceSub, Int.reduceToNat, Int.reduceLE, Int.reduceEq, ↓reduceIte, reduceCtorEq, Int.reduceNeg, Nat.reduceLeDiff,  w3, w11, lenT, tkT, allT]
      first | refine callBE (f21_got hmy he hk hn hg2 hno) ?_ | refine callDE (f21_got hmy he hk hn hg2 hno) ?_ | refine callXE (f21_got hmy he hk hn hg2 hno) ?_
      rintro v Z hz rfl
      simp (maxSteps := 1000000) (disch := omega) only [go_sem, Nat.reduceEqDiff, Nat.reduceLT, Nat.reduceAdd, Nat.reduceSub, Nat.reduceMul, Nat.reduceBEq, Int.reduceLT, Int.reduceAdd, Int.reduceMul, Int.reduceSub, Int.reduceToNat, Int.reduceLE, Int.reduceEq, ↓reduceIte, reduceCtorEq, Int.reduceNeg, Nat.reduceLeDiff,  fullZ, lenZ, allZ, mny, i1]
      refine (hq _ s2 _ many (d2.grow (hz.to _)) (by omega))
  | false =>
    rw [if_pos ⟨kn, hA⟩] at hst
    rw [hA] at hbg
    have mle := cn_le A n
    have mw : IntKind.i64.wrap ((many : Int) + 1) = ((many + 1 : Nat) : Int) := by rw [i64_in _ (by omega)]; omega
    rw [acs_lp]; conv in Fr.code c8l0 => unfold c8l0
    simp (maxSteps := 1000000) (disch := omega) only [go_sem, Nat.reduceEqDiff, Nat.reduceLT, Nat.reduceAdd, Nat.reduceSub, Nat.reduceMul, Nat.reduceBEq, Int.reduceLT, Int.reduceAdd, Int.reduceMul, Int.reduceSub, Int.reduceToNat, Int.reduceLE, Int.reduceEq, ↓reduceIte, reduceCtorEq, Int.reduceNeg, Nat.reduceLeDiff,  hi, im, hp, fz, z0, z1, z5, z5', zn, h11, h5, hQ, lpc, len, tk, all, hrow, hle2, allr]
    first | refine callB_intro (g18 _) ?_ | refine callD_intro (g18 _) ?_ | refine callP_intro (fun _ => (g18 _)) ?_ | refine callX_pure (g18 _) ?_
    simp (maxSteps := 1000000) (disch := omega) only [go_sem, Nat.reduceEqDiff, Nat.reduceLT, Nat.reduceAdd, Nat.reduceSub, Nat.reduceMul, Nat.reduceBEq, Int.reduceLT, Int.reduceAdd, Int.reduceMul, Int.reduceSub, Int.reduceToNat, Int.reduceLE, Int.reduceEq, ↓reduceIte, reduceCtorEq, Int.reduceNeg, Nat.reduceLeDiff,  h11, len, lenT, fullT, allT, drp, e12, hbg, lhb, hbs, z5, k51, mw]
    generalize (X.set b11 (some ⟨s2.av, true⟩)).set b12 (some ⟨hb fun j => A j || decide (j = k), true⟩) = Y at *
    by_cases ha : ∀ j, j < n → (A j || decide (j = k)) = true
    · have mny := eq_true (show ((many + 1 : Nat) : Int) = (n : Int) by
        have := hall.2 ha
        omega)
      simp (maxSteps := 1000000) (disch := omega) only [go_sem, Nat.reduceEqDiff, Nat.reduceLT, Nat.reduceAdd, Nat.reduceSub, Nat.reduceMul, Nat.reduceBEq, Int.reduceLT, Int.reduceAdd, Int.reduceMul, Int.reduceSub, Int.reduceToNat, Int.reduceLE, Int.reduceEq, ↓reduceIte, reduceCtorEq, Int.reduceNeg, Nat.reduceLeDiff,  w3, w11, lenT, tkT, allT]
      first | refine callBE (f21_all hmy he hk hn hg2 ha) ?_ | refine callDE (f21_all hmy he hk hn hg2 ha) ?_ | refine callXE (f21_all hmy he hk hn hg2 ha) ?_
      rintro v Z hz ⟨f, rfl, hf, hfo⟩
      have x4 := hz.blk w4
      have lx4 := blkAt_lt x4
      have okZ := okE.ext hz
      have g13 := fun (G2 : Heap) => f13 (H := Z ++ G2) (hfo.app G2) (okZ.app G2) hf
      simp (maxSteps := 1000000) (disch := omega) only [go_sem, Nat.reduceEqDiff, Nat.reduceLT, Nat.reduceAdd, Nat.reduceSub, Nat.reduceMul, Nat.reduceBEq, Int.reduceLT, Int.reduceAdd, Int.reduceMul, Int.reduceSub, Int.reduceToNat, Int.reduceLE, Int.reduceEq, ↓reduceIte, reduceCtorEq, Int.reduceNeg, Nat.reduceLeDiff,  fullF, lenF, allF, tkF, drpF, x4, lx4, lenE, tkE, allE, mny, mw, blkAt_lo, i1]
      first | refine callB_intro (g13 _) ?_ | refine callD_intro (g13 _) ?_ | refine callP_intro (fun _ => (g13 _)) ?_ | refine callX_pure (g13 _) ?_
      simp (maxSteps := 1000000) (disch := omega) only [go_sem, Nat.reduceEqDiff, Nat.reduceLT, Nat.reduceAdd, Nat.reduceSub, Nat.reduceMul, Nat.reduceBEq, Int.reduceLT, Int.reduceAdd, Int.reduceMul, Int.reduceSub, Int.reduceToNat, Int.reduceLE, Int.reduceEq, ↓reduceIte, reduceCtorEq, Int.reduceNeg, Nat.reduceLeDiff,  mny, mw, i1]
      refine (hq _ s2 _ (many + 1) (d2.grow (hz.to _)) (by omega))
    · have mny : ¬ (((many + 1 : Nat) : Int) = (n : Int)) := fun hh => ha (hall.1 (by omega))
      have hno : ∃ j, j < n ∧ (A j || decide (j = k)) = false := by
        apply Classical.byContradiction
        intro hno
        refine ha fun j hj => ?_
        cases hv : (A j || decide (j = k)) with
        | true => rfl
        | false => exact (hno ⟨j, hj, hv⟩).elim
      simp (maxSteps := 1000000) (disch := omega) only [go_sem, Nat.reduceEqDiff, Nat.reduceLT, Nat.reduceAdd, Nat.reduceSub, Nat.reduceMul, Nat.reduceBEq, Int.reduceLT, Int.reduceAdd, Int.reduceMul, Int.reduceSub, Int.reduceToNat, Int.reduceLE, Int.reduceEq, ↓reduceIte, reduceCtorEq, Int.reduceNeg, Nat.reduceLeDiff,  w3, w11, lenT, tkT, allT]
      first | refine callBE (f21_got hmy he hk hn hg2 hno) ?_ | refine callDE (f21_got hmy he hk hn hg2 hno) ?_ | refine callXE (f21_got hmy he hk hn hg2 hno) ?_
      rintro v Z hz rfl
      simp (maxSteps := 1000000) (disch := omega) only [go_sem, Nat.reduceEqDiff, Nat.reduceLT, Nat.reduceAdd, Nat.reduceSub, Nat.reduceMul, Nat.reduceBEq, Int.reduceLT, Int.reduceAdd, Int.reduceMul, Int.reduceSub, Int.reduceToNat, Int.reduceLE, Int.reduceEq, ↓reduceIte, reduceCtorEq, Int.reduceNeg, Nat.reduceLeDiff,  fullZ, lenZ, allZ, mny, mw, i1]
      refine (hq _ s2 _ (many + 1) (d2.grow (hz.to _)) (by omega))

/-! The law SnapComes, joined. -/
theorem cn0 : ∀ n, cn (fun _ => false) n = 0
  | 0 => rfl
  | n + 1 => by rw [cn, cn0 n]; rfl
theorem f8_loop {H : Heap} {b3 b4 b5 b11 b12 q n p off m : Nat} {cp : Option Nat} {y0 y1 y2 y3 y4 y5 a b c : Int} {e : Es} {ord : List Int} {fs : List Fr} {Q : Post}
    (hok : e.ok H) (ho : Sl i64 H p off ord) (hlen : m = ord.length) (hm40 : m ≤ 40) (hmy : mayB y0 y1 y2 y3 y4 y5 = true) (he : estB e = true) (hk : mrkB a b c ((dlt e).length : Int) = true) (hn : ((dlt e).length + 7) / 8 = n) (nb : b3 < b11 ∧ b4 < b11 ∧ b5 < b11 ∧ q < b11 ∧ b11 < b12) (hH : H.length ≤ b11)
    (hQ : ∀ A s X, CI H b3 b4 b5 b11 b12 q n y0 y1 y2 y3 y4 y5 a b c e A s X → leave Try.prog 0 fs [(7, .bool true)] X Q) :
    ∀ (r i : Nat) (A : Nat → Bool) (s : Sn) (X : Heap) (many : Nat), i + r = m → CI H b3 b4 b5 b11 b12 q n y0 y1 y2 y3 y4 y5 a b c e A s X → many = cn A n → acs Try.prog (.lp c8l0 :: fs) (e8 b3 b4 b5 b11 b12 q n p off m cp many i) X Q := by
  intro r
  induction r with
  | zero =>
    intro i A s X many hi d hmn
    have hge : ¬ (i : Int) < (m : Int) := by omega
    unfold e8
    rw [acs_lp]; conv in Fr.code c8l0 => unfold c8l0
    simp (maxSteps := 1000000) (disch := omega) only [go_sem, Nat.reduceEqDiff, Nat.reduceLT, Nat.reduceAdd, Nat.reduceSub, Nat.reduceMul, Nat.reduceBEq, Int.reduceLT, Int.reduceAdd, Int.reduceMul, Int.reduceSub, Int.reduceToNat, Int.reduceLE, Int.reduceEq, ↓reduceIte, reduceCtorEq, Int.reduceNeg, Nat.reduceLeDiff,  hge]
    exact hQ A s X d
  | succ r ih =>
    intro i A s X many hi d hmn
    exact f8_round d hok ho (z := ord[i]'(by omega)) (List.getElem?_eq_getElem (by omega)) hlen hm40 hmy he hk hn nb hH hmn fun A' s' X' many' d' hm' => ih (i + 1) A' s' X' many' (by omega) d' hm'
theorem f8 {y0 y1 y2 y3 y4 y5 a b c d : Int} {e : Es} {ord : List Int} {p off : Nat} {cp : Option Nat} {H : Heap} (hok : e.ok H) (ho : Sl i64 H p off ord) (hol : ord.length ≤ 4611686018427387904) : ACall Try.prog 8 [.agg (p9 y0 y1 y2 y3 y4 y5 e [.int .i64 a, .int .i64 b, .int .i64 c, .int .i64 d, .sl p off ord.length 1 cp])] H (.bool true) H := by
  refine acall8 (by simp) (acs_start ?_)
  have full : (AV.agg e.av).full = true := rfl
  have len : e.av.length = 29 := rfl
  have all : e.av.all AV.cell = true := rfl
  have tk : List.take 29 e.av = e.av := rfl
  have drp : List.drop 29 e.av = [] := rfl
  have t6 := p9_t6 y0 y1 y2 y3 y4 y5 e [.int .i64 a, .int .i64 b, .int .i64 c, .int .i64 d, .sl p off ord.length 1 cp]
  have t29 := p9_t29 y0 y1 y2 y3 y4 y5 e [.int .i64 a, .int .i64 b, .int .i64 c, .int .i64 d, .sl p off ord.length 1 cp]
  have d35 := p9_d35 y0 y1 y2 y3 y4 y5 e [.int .i64 a, .int .i64 b, .int .i64 c, .int .i64 d, .sl p off ord.length 1 cp]
  have lp : (p9 y0 y1 y2 y3 y4 y5 e [.int .i64 a, .int .i64 b, .int .i64 c, .int .i64 d, .sl p off ord.length 1 cp]).length = 40 := p9_len _ _ _ _ _ _ _ _
  have ap : (p9 y0 y1 y2 y3 y4 y5 e [.int .i64 a, .int .i64 b, .int .i64 c, .int .i64 d, .sl p off ord.length 1 cp]).all AV.cell = true := by unfold p9; rw [List.all_append, List.all_append, all]; rfl
  have fp : (AV.agg (p9 y0 y1 y2 y3 y4 y5 e [.int .i64 a, .int .i64 b, .int .i64 c, .int .i64 d, .sl p off ord.length 1 cp])).full = true := ap
  have z39 : (p9 y0 y1 y2 y3 y4 y5 e [.int .i64 a, .int .i64 b, .int .i64 c, .int .i64 d, .sl p off ord.length 1 cp])[39]? = some (.sl p off ord.length 1 cp) := rfl
  have g14 := fun G => f14 (a := y0) (b := y1) (c := y2) (d := y3) (e := y4) (f := y5) (H := H ++ G)
  have g11 := fun G => f11 (hok.app G)
  generalize p9 y0 y1 y2 y3 y4 y5 e [.int .i64 a, .int .i64 b, .int .i64 c, .int .i64 d, .sl p off ord.length 1 cp] = P9 at *
  unfold c8
  simp (maxSteps := 1000000) (disch := omega) only [go_sem, Nat.reduceEqDiff, Nat.reduceLT, Nat.reduceAdd, Nat.reduceSub, Nat.reduceMul, Nat.reduceBEq, Int.reduceLT, Int.reduceAdd, Int.reduceMul, Int.reduceSub, Int.reduceToNat, Int.reduceLE, Int.reduceEq, ↓reduceIte, reduceCtorEq, Int.reduceNeg, Nat.reduceLeDiff,  lp, ap, fp, t6, t29, d35, z39, full, len, all, tk, drp]
  first | refine callB_intro (f10) ?_ | refine callD_intro (f10) ?_ | refine callP_intro (fun _ => (f10)) ?_ | refine callX_pure (f10) ?_
  simp (maxSteps := 1000000) (disch := omega) only [go_sem, Nat.reduceEqDiff, Nat.reduceLT, Nat.reduceAdd, Nat.reduceSub, Nat.reduceMul, Nat.reduceBEq, Int.reduceLT, Int.reduceAdd, Int.reduceMul, Int.reduceSub, Int.reduceToNat, Int.reduceLE, Int.reduceEq, ↓reduceIte, reduceCtorEq, Int.reduceNeg, Nat.reduceLeDiff,  full, len, all, tk, drp]
  first | refine callB_intro (g14 _) ?_ | refine callD_intro (g14 _) ?_ | refine callP_intro (fun _ => (g14 _)) ?_ | refine callX_pure (g14 _) ?_
  cases hm : mayB y0 y1 y2 y3 y4 y5 with
  | false =>
    simp (maxSteps := 1000000) (disch := omega) only [go_sem, Nat.reduceEqDiff, Nat.reduceLT, Nat.reduceAdd, Nat.reduceSub, Nat.reduceMul, Nat.reduceBEq, Int.reduceLT, Int.reduceAdd, Int.reduceMul, Int.reduceSub, Int.reduceToNat, Int.reduceLE, Int.reduceEq, ↓reduceIte, reduceCtorEq, Int.reduceNeg, Nat.reduceLeDiff]
    exact fin_ext (by simp) (Ext.app _ _) (by simp (maxSteps := 1000000) (disch := omega) only [resVal, resAll, resOne, rs8, Env.get, go_sem, Nat.reduceEqDiff, Nat.reduceLT, Nat.reduceAdd, Nat.reduceSub, Nat.reduceMul, Nat.reduceBEq, Int.reduceLT, Int.reduceAdd, Int.reduceMul, Int.reduceSub, Int.reduceToNat, Int.reduceLE, Int.reduceEq, ↓reduceIte, reduceCtorEq, Int.reduceNeg, Nat.reduceLeDiff]) (by simp only [AV.und, AV.unds, and_self])
  | true =>
    simp (maxSteps := 1000000) (disch := omega) only [go_sem, Nat.reduceEqDiff, Nat.reduceLT, Nat.reduceAdd, Nat.reduceSub, Nat.reduceMul, Nat.reduceBEq, Int.reduceLT, Int.reduceAdd, Int.reduceMul, Int.reduceSub, Int.reduceToNat, Int.reduceLE, Int.reduceEq, ↓reduceIte, reduceCtorEq, Int.reduceNeg, Nat.reduceLeDiff,  full, len, all, tk, drp]
    first | refine callB_intro (g11 _) ?_ | refine callD_intro (g11 _) ?_ | refine callP_intro (fun _ => (g11 _)) ?_ | refine callX_pure (g11 _) ?_
    cases he : estB e with
    | false =>
      simp (maxSteps := 1000000) (disch := omega) only [go_sem, Nat.reduceEqDiff, Nat.reduceLT, Nat.reduceAdd, Nat.reduceSub, Nat.reduceMul, Nat.reduceBEq, Int.reduceLT, Int.reduceAdd, Int.reduceMul, Int.reduceSub, Int.reduceToNat, Int.reduceLE, Int.reduceEq, ↓reduceIte, reduceCtorEq, Int.reduceNeg, Nat.reduceLeDiff]
      exact fin_ext (by simp) (Ext.app _ _) (by simp (maxSteps := 1000000) (disch := omega) only [resVal, resAll, resOne, rs8, Env.get, go_sem, Nat.reduceEqDiff, Nat.reduceLT, Nat.reduceAdd, Nat.reduceSub, Nat.reduceMul, Nat.reduceBEq, Int.reduceLT, Int.reduceAdd, Int.reduceMul, Int.reduceSub, Int.reduceToNat, Int.reduceLE, Int.reduceEq, ↓reduceIte, reduceCtorEq, Int.reduceNeg, Nat.reduceLeDiff]) (by simp only [AV.und, AV.unds, and_self])
    | true =>
      by_cases m40 : (40 : Int) < (ord.length : Int)
      · simp (maxSteps := 1000000) (disch := omega) only [go_sem, Nat.reduceEqDiff, Nat.reduceLT, Nat.reduceAdd, Nat.reduceSub, Nat.reduceMul, Nat.reduceBEq, Int.reduceLT, Int.reduceAdd, Int.reduceMul, Int.reduceSub, Int.reduceToNat, Int.reduceLE, Int.reduceEq, ↓reduceIte, reduceCtorEq, Int.reduceNeg, Nat.reduceLeDiff,  m40]
        exact fin_ext (by simp) (Ext.app _ _) (by simp (maxSteps := 1000000) (disch := omega) only [resVal, resAll, resOne, rs8, Env.get, go_sem, Nat.reduceEqDiff, Nat.reduceLT, Nat.reduceAdd, Nat.reduceSub, Nat.reduceMul, Nat.reduceBEq, Int.reduceLT, Int.reduceAdd, Int.reduceMul, Int.reduceSub, Int.reduceToNat, Int.reduceLE, Int.reduceEq, ↓reduceIte, reduceCtorEq, Int.reduceNeg, Nat.reduceLeDiff]) (by simp only [AV.und, AV.unds, and_self])
      have m40' : ord.length ≤ 40 := by omega
      simp (maxSteps := 1000000) (disch := omega) only [go_sem, Nat.reduceEqDiff, Nat.reduceLT, Nat.reduceAdd, Nat.reduceSub, Nat.reduceMul, Nat.reduceBEq, Int.reduceLT, Int.reduceAdd, Int.reduceMul, Int.reduceSub, Int.reduceToNat, Int.reduceLE, Int.reduceEq, ↓reduceIte, reduceCtorEq, Int.reduceNeg, Nat.reduceLeDiff,  m40, full, len, all, tk, drp]
      first | refine callBE (f16 hm he (hok.app _)) ?_ | refine callDE (f16 hm he (hok.app _)) ?_ | refine callXE (f16 hm he (hok.app _)) ?_
      rintro v Y hy ⟨q, rfl, hq, hl⟩
      obtain ⟨D0, D1⟩ := dlt_len he
      obtain ⟨n, hn⟩ : ∃ n, ((dlt e).length + 7) / 8 = n := ⟨_, rfl⟩
      rw [hn] at hq ⊢
      have hHY : Ext H Y := (Ext.app _ _).trans hy
      have b3 : blkAt Y (H.length + 1) = some ⟨[.int .i64 y0, .int .i64 y1, .int .i64 y2, .int .i64 y3, .int .i64 y4, .int .i64 y5], true⟩ := hy.blk (by simp only [go_sem, Nat.reduceEqDiff, Nat.reduceLT, Nat.reduceAdd, Nat.reduceSub, Nat.reduceMul, Nat.reduceBEq, Int.reduceLT, Int.reduceAdd, Int.reduceMul, Int.reduceSub, Int.reduceToNat, Int.reduceLE, Int.reduceEq, ↓reduceIte, reduceCtorEq, Int.reduceNeg, Nat.reduceLeDiff])
      have b4 : blkAt Y (H.length + 2) = some ⟨e.av, true⟩ := hy.blk (by simp only [go_sem, Nat.reduceEqDiff, Nat.reduceLT, Nat.reduceAdd, Nat.reduceSub, Nat.reduceMul, Nat.reduceBEq, Int.reduceLT, Int.reduceAdd, Int.reduceMul, Int.reduceSub, Int.reduceToNat, Int.reduceLE, Int.reduceEq, ↓reduceIte, reduceCtorEq, Int.reduceNeg, Nat.reduceLeDiff])
      have b5 : blkAt Y (H.length + 3) = some ⟨[.int .i64 a, .int .i64 b, .int .i64 c, .int .i64 d], true⟩ := hy.blk (by simp only [go_sem, Nat.reduceEqDiff, Nat.reduceLT, Nat.reduceAdd, Nat.reduceSub, Nat.reduceMul, Nat.reduceBEq, Int.reduceLT, Int.reduceAdd, Int.reduceMul, Int.reduceSub, Int.reduceToNat, Int.reduceLE, Int.reduceEq, ↓reduceIte, reduceCtorEq, Int.reduceNeg, Nat.reduceLeDiff])
      have l5 := blkAt_lt b5
      have lq := blkAt_lt hq
      simp only [List.length_append, List.length_cons, List.length_nil] at hl
      have n0 : ¬ n = 0 := by omega
      have n0i : ¬ (n : Int) = 0 := by omega
      have D2 : ¬ ((dlt e).length : Int) < 1 := by omega
      have D3 : ¬ (39 : Int) < ((dlt e).length : Int) := by omega
      simp (maxSteps := 1000000) (disch := omega) only [go_sem, Nat.reduceEqDiff, Nat.reduceLT, Nat.reduceAdd, Nat.reduceSub, Nat.reduceMul, Nat.reduceBEq, Int.reduceLT, Int.reduceAdd, Int.reduceMul, Int.reduceSub, Int.reduceToNat, Int.reduceLE, Int.reduceEq, ↓reduceIte, reduceCtorEq, Int.reduceNeg, Nat.reduceLeDiff,  b3, b4, b5, l5, len, tk, n0, n0i, D2, D3]
      have hY5 : ∀ x, blkAt (Y.set (H.length + 3) x) (H.length + 3) = x := fun x => blkAt_set_self l5 x
      simp (maxSteps := 1000000) (disch := omega) only [go_sem, Nat.reduceEqDiff, Nat.reduceLT, Nat.reduceAdd, Nat.reduceSub, Nat.reduceMul, Nat.reduceBEq, Int.reduceLT, Int.reduceAdd, Int.reduceMul, Int.reduceSub, Int.reduceToNat, Int.reduceLE, Int.reduceEq, ↓reduceIte, reduceCtorEq, Int.reduceNeg, Nat.reduceLeDiff,  hY5]
      have hZ : Ext H (Y.set (H.length + 3) (some ⟨[.int .i64 a, .int .i64 b, .int .i64 c, .int .i64 ((dlt e).length : Int)], true⟩)) := hHY.set (by omega) _
      have c3 := (blkAt_set_ne (H := Y) (b := H.length + 3) (c := H.length + 1) (by omega) (some ⟨[.int .i64 a, .int .i64 b, .int .i64 c, .int .i64 ((dlt e).length : Int)], true⟩)).trans b3
      have c4 := (blkAt_set_ne (H := Y) (b := H.length + 3) (c := H.length + 2) (by omega) (some ⟨[.int .i64 a, .int .i64 b, .int .i64 c, .int .i64 ((dlt e).length : Int)], true⟩)).trans b4
      have c5 := hY5 (some ⟨[.int .i64 a, .int .i64 b, .int .i64 c, .int .i64 ((dlt e).length : Int)], true⟩)
      have cq := (blkAt_set_ne (H := Y) (b := H.length + 3) (c := q) (by omega) (some ⟨[.int .i64 a, .int .i64 b, .int .i64 c, .int .i64 ((dlt e).length : Int)], true⟩)).trans hq
      generalize Y.set (H.length + 3) (some ⟨[.int .i64 a, .int .i64 b, .int .i64 c, .int .i64 ((dlt e).length : Int)], true⟩) = Z at *
      have g19 := fun (G : Heap) => f19 (a := a) (b := b) (c := c) (d := ((dlt e).length : Int)) (H := G)
      first | refine callB_intro (g19 _) ?_ | refine callD_intro (g19 _) ?_ | refine callP_intro (fun _ => (g19 _)) ?_ | refine callX_pure (g19 _) ?_
      cases hk : mrkB a b c ((dlt e).length : Int) with
      | false =>
        simp (maxSteps := 1000000) (disch := omega) only [go_sem, Nat.reduceEqDiff, Nat.reduceLT, Nat.reduceAdd, Nat.reduceSub, Nat.reduceMul, Nat.reduceBEq, Int.reduceLT, Int.reduceAdd, Int.reduceMul, Int.reduceSub, Int.reduceToNat, Int.reduceLE, Int.reduceEq, ↓reduceIte, reduceCtorEq, Int.reduceNeg, Nat.reduceLeDiff]
        exact fin_ext (by simp) hZ (by simp (maxSteps := 1000000) (disch := omega) only [resVal, resAll, resOne, rs8, Env.get, go_sem, Nat.reduceEqDiff, Nat.reduceLT, Nat.reduceAdd, Nat.reduceSub, Nat.reduceMul, Nat.reduceBEq, Int.reduceLT, Int.reduceAdd, Int.reduceMul, Int.reduceSub, Int.reduceToNat, Int.reduceLE, Int.reduceEq, ↓reduceIte, reduceCtorEq, Int.reduceNeg, Nat.reduceLeDiff]) (by simp only [AV.und, AV.unds, and_self])
      | true =>
        have m3 := blkAt_lt c3
        have m4 := blkAt_lt c4
        have m5 := blkAt_lt c5
        have mq := blkAt_lt cq
        simp (maxSteps := 1000000) (disch := omega) only [go_sem, Nat.reduceEqDiff, Nat.reduceLT, Nat.reduceAdd, Nat.reduceSub, Nat.reduceMul, Nat.reduceBEq, Int.reduceLT, Int.reduceAdd, Int.reduceMul, Int.reduceSub, Int.reduceToNat, Int.reduceLE, Int.reduceEq, ↓reduceIte, reduceCtorEq, Int.reduceNeg, Nat.reduceLeDiff]
        refine f8_loop (H := H) (n := n) (a := a) (b := b) (c := c) (y0 := y0) (y1 := y1) (y2 := y2) (y3 := y3) (y4 := y4) (y5 := y5) (e := e) (ord := ord) hok ho rfl m40' hm he hk hn ⟨by omega, by omega, by omega, by omega, by omega⟩ (by have := hZ.len; omega) ?_ ord.length 0 (fun _ => false) (Sn.new 0 0 0 0) _ 0 (by omega) ⟨by rw [blkAt_lo _ m3]; exact c3, by rw [blkAt_lo _ m4]; exact c4, by rw [blkAt_lo _ m5]; exact c5, by rw [blkAt_lo _ mq]; exact cq, by simp only [go_sem, Nat.reduceEqDiff, Nat.reduceLT, Nat.reduceAdd, Nat.reduceSub, Nat.reduceMul, Nat.reduceBEq, Int.reduceLT, Int.reduceAdd, Int.reduceMul, Int.reduceSub, Int.reduceToNat, Int.reduceLE, Int.reduceEq, ↓reduceIte, reduceCtorEq, Int.reduceNeg, Nat.reduceLeDiff]; rfl, by simp only [go_sem, Nat.reduceEqDiff, Nat.reduceLT, Nat.reduceAdd, Nat.reduceSub, Nat.reduceMul, Nat.reduceBEq, Int.reduceLT, Int.reduceAdd, Int.reduceMul, Int.reduceSub, Int.reduceToNat, Int.reduceLE, Int.reduceEq, ↓reduceIte, reduceCtorEq, Int.reduceNeg, Nat.reduceLeDiff]; rfl, Got.zero a b c (dlt e) n, hZ.to _⟩ (cn0 n).symm
        intro A s X d
        simp (maxSteps := 1000000) (disch := omega) only [go_sem, Nat.reduceEqDiff, Nat.reduceLT, Nat.reduceAdd, Nat.reduceSub, Nat.reduceMul, Nat.reduceBEq, Int.reduceLT, Int.reduceAdd, Int.reduceMul, Int.reduceSub, Int.reduceToNat, Int.reduceLE, Int.reduceEq, ↓reduceIte, reduceCtorEq, Int.reduceNeg, Nat.reduceLeDiff]
        exact fin_ext (by simp) d.ext (by simp (maxSteps := 1000000) (disch := omega) only [resVal, resAll, resOne, rs8, Env.get, go_sem, Nat.reduceEqDiff, Nat.reduceLT, Nat.reduceAdd, Nat.reduceSub, Nat.reduceMul, Nat.reduceBEq, Int.reduceLT, Int.reduceAdd, Int.reduceMul, Int.reduceSub, Int.reduceToNat, Int.reduceLE, Int.reduceEq, ↓reduceIte, reduceCtorEq, Int.reduceNeg, Nat.reduceLeDiff]) (by simp only [AV.und, AV.unds, and_self])
end Go.Proofs.Ytbjlbcihhleclaa.Ah
