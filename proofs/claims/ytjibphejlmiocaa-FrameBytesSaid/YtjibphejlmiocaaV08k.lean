/- V08k: a part of the proof: contracts of functions, or plain laws. Conditions: none. -/
import Derived.Test.YtjibphejlmiocaaV08j
namespace Go.Proofs.Ytjibphejlmiocaa.Ah
open Go Go.WideShapes
attribute [local irreducible] acs aopsK drawK leave condK bindR bindD bindX guardK guardD callB callD callX callP callPv rfunG rfunK yldB yldD
attribute [local go_sem] acs_nil acs_blk acs_skip acs_reg acs_dreg acs_freg acs_nam0 acs_nam nones acs_seq acs_cond acs_block acs_exit acs_ret acs_kl acs_loop leave_nil leave_code leave_lp leave_blk aopsK_nil aopsK_cons aopsK_guard bindR_val bindR_need bindR_br bindR_call bindR_ycall acs_rfun rfunG_fn bindR_bad drawK_nil drawK_cons drawK_ext drawK_pur drawK_guard callPv_fn drawK_purv bindD_val bindD_need bindD_br bindD_call bindD_ycall bindD_bad bindX_val bindX_need bindX_br bindX_call guardD_bool guardD_tup grows grows0 List.append_cancel_left_eq List.cons.injEq exists_eq' exists_eq condK_bool guardK_bool guardK_tup sor r0 r1 r2 r3 rC rB rI rP rA rT rS rF rSl rO rbin rcut run1 Env.evals Env.eval Env.get Env.put Env.ins Env.del Env.dels argEnv AV.full AV.cells AV.cell eqCells decide_true decide_false decide_eq_true_eq decide_eq_false_iff_not Bool.not_eq_true' Bool.not_eq_false' true_and and_true false_implies true_implies forall_const Bool.not_true Bool.not_false Bool.false_eq_true Bool.true_eq_false List.getElem?_cons_zero List.getElem?_cons_succ List.length_cons List.length_nil List.length_append List.all_cons List.all_nil Bool.and_true Bool.and_self implies_true List.append_assoc List.cons_append List.nil_append List.append_nil i64_in imin_eq imax_eq cast3 cast0 cast1 cast2 Option.map_none ite_self and_false false_and Option.isSome_some or_true true_or Int.sub_zero Int.mul_one Nat.sub_zero Nat.zero_le Int.cast_ofNat_Int Int.natCast_nonneg Int.toNat_natCast ne_eq not_false_eq_true not_true_eq_false strC blkAt_app blkAt_app0 blkAt_zero blkAt_succ List.set_cons_zero List.set_cons_succ set_app set_app0 Option.map_some Option.bind_some rd setCells lay rdS szOk rapp ownAt lenAt Option.any_some Option.getD_some List.drop_zero List.drop_succ_cons List.take_succ_cons List.take_zero List.drop_nil List.take_nil Nat.lt_irrefl Nat.zero_add Nat.add_zero Nat.mul_one Nat.one_mul Nat.add_assoc Option.some.injEq eq_self
set_option maxHeartbeats 4000000
set_option linter.unusedSimpArgs false
set_option linter.unusedVariables false
/-! A sample as words: the program's. -/
theorem Out.app {b q : Nat} {ws : List Int} {H : Heap} (h : Out b q ws H) (G : Heap) : Out b q ws (H ++ G) := by
  obtain ⟨h1, h2, h3⟩ := h
  refine ⟨by simp; omega, h2, ?_⟩
  rcases h3 with ⟨h3, h4⟩ | ⟨h3, h4⟩
  · exact .inl ⟨h3, by rw [blkAt_lo _ h1]; exact h4⟩
  · exact .inr ⟨by rw [blkAt_lo _ h1]; exact h3, by rw [blkAt_lo _ (blkAt_lt h4)]; exact h4⟩
/-- What is laid behind so far. -/
def PkI (H : Heap) (s : Smp) (ws : List Int) (Hk : Heap) : Prop := (∃ q, H.length + 2 ≤ q ∧ Out (H.length + 1) q ws Hk) ∧ Keep2 (H.length + 2) (H.length + 1) (H.length + 2) (H ++ [some ⟨s.av, true⟩, some ⟨[.nils], true⟩]) Hk
theorem PkI.smp {H : Heap} {s : Smp} {ws : List Int} {Hk : Heap} (h : PkI H s ws Hk) : blkAt Hk H.length = some ⟨s.av, true⟩ := by
  rw [h.2.blk (by omega) (by omega) (by omega)]
  simp only [go_sem, Nat.reduceEqDiff, Nat.reduceLT, Nat.reduceAdd, Nat.reduceSub, Nat.reduceMul, Nat.reduceBEq, Int.reduceLT, Int.reduceAdd, Int.reduceMul, Int.reduceSub, Int.reduceToNat, Int.reduceLE, Int.reduceEq, ↓reduceIte, reduceCtorEq, Int.reduceNeg, Nat.reduceLeDiff]
theorem PkI.go {H : Heap} {s : Smp} {ws : List Int} {Hk Hn : Heap} {q : Nat} {us : List Int} (h : PkI H s ws Hk) (hq : H.length + 2 ≤ q) (h' : (∃ q', (q' = q ∨ Hk.length ≤ q') ∧ Out (H.length + 1) q' us Hn) ∧ Keep2 Hk.length (H.length + 1) q Hk Hn) : PkI H s us Hn := by
  obtain ⟨⟨q', h1, h2⟩, h3⟩ := h'
  have hl := h.2.1
  exact ⟨⟨q', by omega, h2⟩, h.2.trans h3 hl (.inr hq)⟩
theorem PkI.is {H : Heap} {s : Smp} {ws : List Int} {Hk : Heap} (h : PkI H s ws Hk) (hl : ws.length ≤ 100) (t : Bool) : ACallX Try.prog 29 [.bool t, .ptr (H.length + 1) 0] Hk fun v H' => v = .tup [] ∧ PkI H s (ws ++ [one t]) H' := by
  obtain ⟨q, hq, ho⟩ := h.1
  refine (f29 (t := t) ho hl).mono fun v H' ⟨h1, ⟨q', h2, h3⟩, h4⟩ => ⟨h1, h.go hq ⟨⟨q', .inr h2, h3⟩, h4⟩⟩
theorem PkI.lay {H : Heap} {s : Smp} {ws : List Int} {Hk : Heap} (h : PkI H s ws Hk) {zs : List Int} {off : Nat} (cp : Option Nat) (hl : ws.length + zs.length ≤ 100) (hz : off + zs.length ≤ 13) (he : (s.av.drop off).take zs.length = zs.map i64) : ACallX Try.prog 30 [.sl H.length off zs.length 1 cp, .ptr (H.length + 1) 0] Hk fun v H' => v = .tup [] ∧ PkI H s (ws ++ zs) H' := by
  obtain ⟨q, hq, ho⟩ := h.1
  refine (f30 (cp := cp) (zs := zs) ⟨_, _, h.smp, hz, he⟩ (by omega) (by omega) ho hl).mono fun v H' ⟨h1, h2, h4⟩ => ⟨h1, h.go hq ⟨h2, h4⟩⟩
theorem PkI.lay1 {H : Heap} {s : Smp} {ws : List Int} {Hk : Heap} (h : PkI H s ws Hk) (hw : ws ≠ []) (hl : ws.length + 1 ≤ 100) (x : Int) (cp : Option Nat) : ACallX Try.prog 30 [.sl Hk.length 0 1 1 cp, .ptr (H.length + 1) 0] (Hk ++ [some ⟨[.int .i64 x], true⟩]) fun v H' => v = .tup [] ∧ PkI H s (ws ++ [x]) H' := by
  obtain ⟨q, hq, ho⟩ := h.1
  have hlq : q < Hk.length := by
    rcases ho.2.2 with ⟨h1, _⟩ | ⟨_, h2⟩
    · exact absurd h1 hw
    · exact blkAt_lt h2
  have h2 : PkI H s ws (Hk ++ [some ⟨[.int .i64 x], true⟩]) := ⟨⟨q, hq, ho.app _⟩, h.2.app _⟩
  refine (f30 (cp := cp) (zs := [x]) (off := 0) (Sl.whole (o := true) (by simp only [go_sem, Nat.reduceEqDiff, Nat.reduceLT, Nat.reduceAdd, Nat.reduceSub, Nat.reduceMul, Nat.reduceBEq, Int.reduceLT, Int.reduceAdd, Int.reduceMul, Int.reduceSub, Int.reduceToNat, Int.reduceLE, Int.reduceEq, ↓reduceIte, reduceCtorEq, Int.reduceNeg, Nat.reduceLeDiff]; rfl)) (by have := ho.1; omega) (by omega) (ho.app _) hl).mono fun v H' ⟨h1, h3, h4⟩ => ⟨h1, h2.go hq ⟨h3, h4⟩⟩
theorem f15 (s : Smp) (H : Heap) : ACallE Try.prog 15 [.agg s.av] H fun v H' => Rw i64 H' v (pk s) := by
  refine acallE (fun v Hf h => acallK15 (by simp) h) (acs_start ?_)
  have av1 : s.av.length = 13 := rfl
  have av2 : s.av.all AV.cell = true := rfl
  have x0 : s.av[0]? = some (.bool s.m) := rfl
  have x7 : s.av[7]? = some (.bool s.hb) := rfl
  have x8 : s.av[8]? = some (.int .i64 s.b) := rfl
  have x9 : s.av[9]? = some (.bool s.hg) := rfl
  have i0 : PkI H s [] (H ++ [some ⟨s.av, true⟩, some ⟨[.nils], true⟩]) := ⟨⟨H.length + 2, by omega, by simp, by omega, .inl ⟨rfl, by simp only [go_sem, Nat.reduceEqDiff, Nat.reduceLT, Nat.reduceAdd, Nat.reduceSub, Nat.reduceMul, Nat.reduceBEq, Int.reduceLT, Int.reduceAdd, Int.reduceMul, Int.reduceSub, Int.reduceToNat, Int.reduceLE, Int.reduceEq, ↓reduceIte, reduceCtorEq, Int.reduceNeg, Nat.reduceLeDiff]⟩⟩, Keep2.refl (by simp)⟩
  unfold c15
  simp (maxSteps := 1000000) (disch := omega) only [go_sem, Nat.reduceEqDiff, Nat.reduceLT, Nat.reduceAdd, Nat.reduceSub, Nat.reduceMul, Nat.reduceBEq, Int.reduceLT, Int.reduceAdd, Int.reduceMul, Int.reduceSub, Int.reduceToNat, Int.reduceLE, Int.reduceEq, ↓reduceIte, reduceCtorEq, Int.reduceNeg, Nat.reduceLeDiff,  av1, av2, x0, hb29, hb30]
  first | refine callBX (i0.is (by simp) s.m) ?_ | refine callDX (i0.is (by simp) s.m) ?_
  rintro v1 H1 ⟨rfl, i1⟩
  have b1 := i1.smp
  have l1 := blkAt_lt b1
  simp (maxSteps := 1000000) (disch := omega) only [go_sem, Nat.reduceEqDiff, Nat.reduceLT, Nat.reduceAdd, Nat.reduceSub, Nat.reduceMul, Nat.reduceBEq, Int.reduceLT, Int.reduceAdd, Int.reduceMul, Int.reduceSub, Int.reduceToNat, Int.reduceLE, Int.reduceEq, ↓reduceIte, reduceCtorEq, Int.reduceNeg, Nat.reduceLeDiff,  av1, av2, b1, l1, x7, x8, x9, hb29, hb30]
  first | refine callBX (i1.lay (off := 1) (zs := [s.g0, s.g1, s.g2]) (some 3) (by simp) (by simp) rfl) ?_ | refine callDX (i1.lay (off := 1) (zs := [s.g0, s.g1, s.g2]) (some 3) (by simp) (by simp) rfl) ?_
  rintro v2 H2 ⟨rfl, i2⟩
  have b2 := i2.smp
  have l2 := blkAt_lt b2
  simp (maxSteps := 1000000) (disch := omega) only [go_sem, Nat.reduceEqDiff, Nat.reduceLT, Nat.reduceAdd, Nat.reduceSub, Nat.reduceMul, Nat.reduceBEq, Int.reduceLT, Int.reduceAdd, Int.reduceMul, Int.reduceSub, Int.reduceToNat, Int.reduceLE, Int.reduceEq, ↓reduceIte, reduceCtorEq, Int.reduceNeg, Nat.reduceLeDiff,  av1, av2, b2, l2, x7, x8, x9, hb29, hb30]
  first | refine callBX (i2.lay (off := 4) (zs := [s.a0, s.a1, s.a2]) (some 3) (by simp) (by simp) rfl) ?_ | refine callDX (i2.lay (off := 4) (zs := [s.a0, s.a1, s.a2]) (some 3) (by simp) (by simp) rfl) ?_
  rintro v3 H3 ⟨rfl, i3⟩
  have b3 := i3.smp
  have l3 := blkAt_lt b3
  simp (maxSteps := 1000000) (disch := omega) only [go_sem, Nat.reduceEqDiff, Nat.reduceLT, Nat.reduceAdd, Nat.reduceSub, Nat.reduceMul, Nat.reduceBEq, Int.reduceLT, Int.reduceAdd, Int.reduceMul, Int.reduceSub, Int.reduceToNat, Int.reduceLE, Int.reduceEq, ↓reduceIte, reduceCtorEq, Int.reduceNeg, Nat.reduceLeDiff,  av1, av2, b3, l3, x7, x8, x9, hb29, hb30]
  first | refine callBX (i3.is (by simp) s.hb) ?_ | refine callDX (i3.is (by simp) s.hb) ?_
  rintro v4 H4 ⟨rfl, i4⟩
  have b4 := i4.smp
  have l4 := blkAt_lt b4
  simp (maxSteps := 1000000) (disch := omega) only [go_sem, Nat.reduceEqDiff, Nat.reduceLT, Nat.reduceAdd, Nat.reduceSub, Nat.reduceMul, Nat.reduceBEq, Int.reduceLT, Int.reduceAdd, Int.reduceMul, Int.reduceSub, Int.reduceToNat, Int.reduceLE, Int.reduceEq, ↓reduceIte, reduceCtorEq, Int.reduceNeg, Nat.reduceLeDiff,  av1, av2, b4, l4, x7, x8, x9, hb29, hb30]
  first | refine callBX (i4.lay1 (by simp) (by simp) s.b (some 1)) ?_ | refine callDX (i4.lay1 (by simp) (by simp) s.b (some 1)) ?_
  rintro v5 H5 ⟨rfl, i5⟩
  have b5 := i5.smp
  have l5 := blkAt_lt b5
  simp (maxSteps := 1000000) (disch := omega) only [go_sem, Nat.reduceEqDiff, Nat.reduceLT, Nat.reduceAdd, Nat.reduceSub, Nat.reduceMul, Nat.reduceBEq, Int.reduceLT, Int.reduceAdd, Int.reduceMul, Int.reduceSub, Int.reduceToNat, Int.reduceLE, Int.reduceEq, ↓reduceIte, reduceCtorEq, Int.reduceNeg, Nat.reduceLeDiff,  av1, av2, b5, l5, x7, x8, x9, hb29, hb30]
  first | refine callBX (i5.is (by simp) s.hg) ?_ | refine callDX (i5.is (by simp) s.hg) ?_
  rintro v6 H6 ⟨rfl, i6⟩
  have b6 := i6.smp
  have l6 := blkAt_lt b6
  simp (maxSteps := 1000000) (disch := omega) only [go_sem, Nat.reduceEqDiff, Nat.reduceLT, Nat.reduceAdd, Nat.reduceSub, Nat.reduceMul, Nat.reduceBEq, Int.reduceLT, Int.reduceAdd, Int.reduceMul, Int.reduceSub, Int.reduceToNat, Int.reduceLE, Int.reduceEq, ↓reduceIte, reduceCtorEq, Int.reduceNeg, Nat.reduceLeDiff,  av1, av2, b6, l6, x7, x8, x9, hb29, hb30]
  first | refine callBX (i6.lay (off := 10) (zs := [s.n0, s.n1, s.n2]) (some 3) (by simp) (by simp) rfl) ?_ | refine callDX (i6.lay (off := 10) (zs := [s.n0, s.n1, s.n2]) (some 3) (by simp) (by simp) rfl) ?_
  rintro v7 H7 ⟨rfl, i7⟩
  obtain ⟨⟨q, hq, h1, h2, h3⟩, hk⟩ := i7
  rcases h3 with ⟨h3, _⟩ | ⟨h3, h4⟩
  · simp at h3
  · simp (maxSteps := 1000000) (disch := omega) only [go_sem, Nat.reduceEqDiff, Nat.reduceLT, Nat.reduceAdd, Nat.reduceSub, Nat.reduceMul, Nat.reduceBEq, Int.reduceLT, Int.reduceAdd, Int.reduceMul, Int.reduceSub, Int.reduceToNat, Int.reduceLE, Int.reduceEq, ↓reduceIte, reduceCtorEq, Int.reduceNeg, Nat.reduceLeDiff,  h3]
    refine fin_e (by simp) (by simp (maxSteps := 1000000) (disch := omega) only [resVal, resAll, resOne, rs15, Env.get, go_sem, Nat.reduceEqDiff, Nat.reduceLT, Nat.reduceAdd, Nat.reduceSub, Nat.reduceMul, Nat.reduceBEq, Int.reduceLT, Int.reduceAdd, Int.reduceMul, Int.reduceSub, Int.reduceToNat, Int.reduceLE, Int.reduceEq, ↓reduceIte, reduceCtorEq, Int.reduceNeg, Nat.reduceLeDiff, ] <;> rfl) (ext_of_get (by have := hk.1; omega) (fun p hp => by rw [hk.2 p (by omega) (by omega) (by omega), List.getElem?_append_left hp])) ⟨q, 0, none, rfl, Sl.whole h4⟩
end Go.Proofs.Ytjibphejlmiocaa.Ah
