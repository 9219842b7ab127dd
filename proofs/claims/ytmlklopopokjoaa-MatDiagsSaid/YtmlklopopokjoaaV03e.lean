/- V03e: a part of the proof: contracts of functions, or plain laws. Conditions: none. -/
import Derived.Test.YtmlklopopokjoaaV03d
namespace Go.Proofs.Ytmlklopopokjoaa.Ah
open Go Go.WideShapes
attribute [local irreducible] acs aopsK drawK leave condK bindR bindD bindX guardK guardD callB callD callX callP callPv
attribute [local go_sem] acs_nil acs_blk acs_skip acs_reg acs_dreg acs_freg acs_nam0 acs_nam nones acs_seq acs_cond acs_block acs_exit acs_ret acs_kl acs_loop leave_nil leave_code leave_lp leave_blk aopsK_nil aopsK_cons aopsK_guard bindR_val bindR_need bindR_br bindR_call bindR_bad drawK_nil drawK_cons drawK_ext drawK_pur drawK_guard callPv_fn drawK_purv bindD_val bindD_need bindD_br bindD_call bindD_bad bindX_val bindX_need bindX_br bindX_call guardD_bool guardD_tup grows grows0 List.append_cancel_left_eq List.cons.injEq exists_eq' exists_eq condK_bool guardK_bool guardK_tup sor r0 r1 r2 r3 rC rB rI rP rA rT rS rF rSl rO rbin rcut run1 Env.evals Env.eval Env.get Env.put Env.ins Env.del Env.dels argEnv AV.full AV.cells AV.cell eqCells decide_true decide_false decide_eq_true_eq decide_eq_false_iff_not Bool.not_eq_true' Bool.not_eq_false' true_and and_true false_implies true_implies forall_const Bool.not_true Bool.not_false Bool.false_eq_true Bool.true_eq_false List.getElem?_cons_zero List.getElem?_cons_succ List.length_cons List.length_nil List.length_append List.all_cons List.all_nil Bool.and_true Bool.and_self implies_true List.append_assoc List.cons_append List.nil_append List.append_nil i64_in imin_eq imax_eq cast3 cast0 cast1 cast2 Option.map_none ite_self and_false false_and Option.isSome_some or_true true_or Int.sub_zero Int.mul_one Nat.sub_zero Nat.zero_le Int.cast_ofNat_Int Int.natCast_nonneg Int.toNat_natCast ne_eq not_false_eq_true not_true_eq_false strC blkAt_app blkAt_app0 blkAt_zero blkAt_succ List.set_cons_zero List.set_cons_succ set_app set_app0 Option.map_some Option.bind_some rd setCells lay rdS szOk rapp ownAt lenAt Option.any_some Option.getD_some List.drop_zero List.drop_succ_cons List.take_succ_cons List.take_zero List.drop_nil List.take_nil Nat.lt_irrefl Nat.zero_add Nat.add_zero Nat.mul_one Nat.one_mul Nat.add_assoc Option.some.injEq eq_self
set_option maxHeartbeats 4000000
set_option linter.unusedSimpArgs false
set_option linter.unusedVariables false
/-! Right matrices. -/
structure Mx where
  r : Nat
  c : Nat
  l : List Int
  p : Nat
  off : Nat
  k : Option Nat
def Mx.av (m : Mx) : List AV := [.int .i64 (m.r : Nat), .int .i64 (m.c : Nat), .sl m.p m.off m.l.length 1 m.k]
structure Mx.ok (m : Mx) (H : Heap) : Prop where
  hr : 0 < m.r ∧ m.r ≤ 8
  hc : 0 < m.c ∧ m.c ≤ 8
  hl : m.l.length = m.r * m.c
  hb : ∀ x ∈ m.l, InB x
  hs : Sl i64 H m.p m.off m.l
theorem Mx.ok.ext {m : Mx} {H H' : Heap} (h : m.ok H) (hx : Ext H H') : m.ok H' := ⟨h.hr, h.hc, h.hl, h.hb, hx.sl h.hs⟩
theorem Mx.ok.app {m : Mx} {H : Heap} (h : m.ok H) (G : Heap) : m.ok (H ++ G) := h.ext (.app _ _)
theorem mav_len (m : Mx) : m.av.length = 3 := rfl
theorem mav_all (m : Mx) : m.av.all AV.cell = true := rfl
theorem mav_take (m : Mx) : List.take 3 m.av = m.av := rfl
def Mx.at (m : Mx) (i k : Nat) : Int := m.l.getD (i * m.c + k) 0
theorem ix_lt {i k r c : Nat} (hi : i < r) (hk : k < c) : i * c + k < r * c := by
  have h1 : (i + 1) * c ≤ r * c := Nat.mul_le_mul_right c (by omega)
  rw [Nat.succ_mul] at h1
  omega
theorem ix_le {r c : Nat} (hr : r ≤ 8) (hc : c ≤ 8) : r * c ≤ 64 := Nat.mul_le_mul hr hc
theorem Mx.at_in {m : Mx} {H : Heap} (h : m.ok H) {i k : Nat} (hi : i < m.r) (hk : k < m.c) : InB (m.at i k) := by
  have hlt : i * m.c + k < m.l.length := by rw [h.hl]; exact ix_lt hi hk
  unfold Mx.at
  rw [List.getD_eq_getElem?_getD, List.getElem?_eq_getElem hlt]
  exact h.hb _ (List.getElem_mem hlt)
theorem f31 {m : Mx} {i k : Nat} {H : Heap} (h : m.ok H) (hi : i < m.r) (hk : k < m.c) : ACall Try.prog 31 [.agg m.av, .int .i64 (i : Nat), .int .i64 (k : Nat)] H (.int .i64 (m.at i k)) H := by
  refine acall31 (by simp) (acs_start ?_)
  have hlt : i * m.c + k < m.l.length := by rw [h.hl]; exact ix_lt hi hk
  have h64 : m.l.length ≤ 64 := by rw [h.hl]; exact ix_le h.hr.2 h.hc.2
  have e1 : IntKind.i64.wrap ((i : Int) * (m.c : Int)) = ((i * m.c : Nat) : Int) := by rw [← Int.natCast_mul]; exact i64_in _ (by omega)
  have e2 : IntKind.i64.wrap (((i * m.c : Nat) : Int) + (k : Int)) = ((i * m.c + k : Nat) : Int) := by rw [← Int.natCast_add]; exact i64_in _ (by omega)
  obtain ⟨cs, o, hp, hle, hcs⟩ := h.hs
  have hpl := blkAt_lt hp
  have fx : cs[m.off + (i * m.c + k)]? = some (.int .i64 (m.at i k)) := by
    have hg : m.l[i * m.c + k]? = some (m.at i k) := by
      unfold Mx.at
      rw [List.getD_eq_getElem?_getD, List.getElem?_eq_getElem hlt]
      rfl
    exact sl_get hcs hg
  have hix : ((i * m.c + k : Nat) : Int) < (m.l.length : Int) := by omega
  have a1 := mav_len m
  have a2 := mav_all m
  have a3 : m.av[2]? = some (.sl m.p m.off m.l.length 1 m.k) := rfl
  have a4 : m.av[1]? = some (.int .i64 (m.c : Nat)) := rfl
  generalize i * m.c + k = n at *
  unfold c31
  simp (maxSteps := 1000000) (disch := omega) only [go_sem, Nat.reduceEqDiff, Nat.reduceLT, Nat.reduceAdd, Nat.reduceSub, Nat.reduceMul, Nat.reduceBEq, Int.reduceLT, Int.reduceAdd, Int.reduceMul, Int.reduceSub, Int.reduceToNat, Int.reduceLE, Int.reduceEq, ↓reduceIte, reduceCtorEq, Int.reduceNeg, Nat.reduceLeDiff,  a1, a2, a3, a4, e1, e2, hix, blkAt_lo, hpl, hp, fx]
  exact fin_same (by simp) _ (by first | exact (List.append_nil _).symm | rfl) (by simp (maxSteps := 1000000) (disch := omega) only [resVal, resAll, resOne, rs31, Env.get, go_sem, Nat.reduceEqDiff, Nat.reduceLT, Nat.reduceAdd, Nat.reduceSub, Nat.reduceMul, Nat.reduceBEq, Int.reduceLT, Int.reduceAdd, Int.reduceMul, Int.reduceSub, Int.reduceToNat, Int.reduceLE, Int.reduceEq, ↓reduceIte, reduceCtorEq, Int.reduceNeg, Nat.reduceLeDiff]) (by simp only [AV.und, AV.unds, and_self])
theorem f28 {m : Mx} {H : Heap} : ACall Try.prog 28 [.agg m.av] H (.agg [.int .i64 (m.r : Nat), .int .i64 (m.c : Nat)]) H := by
  refine acall28 (by simp) (acs_start ?_)
  unfold c28 Mx.av
  simp (maxSteps := 1000000) (disch := omega) only [go_sem, Nat.reduceEqDiff, Nat.reduceLT, Nat.reduceAdd, Nat.reduceSub, Nat.reduceMul, Nat.reduceBEq, Int.reduceLT, Int.reduceAdd, Int.reduceMul, Int.reduceSub, Int.reduceToNat, Int.reduceLE, Int.reduceEq, ↓reduceIte, reduceCtorEq, Int.reduceNeg, Nat.reduceLeDiff]
  exact fin_same (by simp) _ (by first | exact (List.append_nil _).symm | rfl) (by simp (maxSteps := 1000000) (disch := omega) only [resVal, resAll, resOne, rs28, Env.get, go_sem, Nat.reduceEqDiff, Nat.reduceLT, Nat.reduceAdd, Nat.reduceSub, Nat.reduceMul, Nat.reduceBEq, Int.reduceLT, Int.reduceAdd, Int.reduceMul, Int.reduceSub, Int.reduceToNat, Int.reduceLE, Int.reduceEq, ↓reduceIte, reduceCtorEq, Int.reduceNeg, Nat.reduceLeDiff]) (by simp only [AV.und, AV.unds, and_self])
theorem f40 {m : Mx} {i k b : Nat} {o : Bool} {H : Heap} (h : m.ok H) (hi : i < m.c) (hk : k < m.r) (hb : blkAt H b = some ⟨m.av, o⟩) : ACall Try.prog 40 [.int .i64 (i : Nat), .int .i64 (k : Nat), .ptr b 0] H (.tup [.int .i64 (m.at k i), .bool false]) H := by
  refine acall40 (by simp) (acs_start ?_)
  have g := fun G => f31 (h.app G) hk hi
  have a1 := mav_len m
  have a2 := mav_all m
  have a3 := mav_take m
  have bl := blkAt_lt hb
  have g0 := f31 h hk hi
  unfold c40
  simp (maxSteps := 1000000) (disch := omega) only [go_sem, Nat.reduceEqDiff, Nat.reduceLT, Nat.reduceAdd, Nat.reduceSub, Nat.reduceMul, Nat.reduceBEq, Int.reduceLT, Int.reduceAdd, Int.reduceMul, Int.reduceSub, Int.reduceToNat, Int.reduceLE, Int.reduceEq, ↓reduceIte, reduceCtorEq, Int.reduceNeg, Nat.reduceLeDiff,  a1, a2, a3, bl, hb]
  first | refine callB_intro (g0) ?_ | refine callD_intro (g0) ?_ | refine callP_intro (fun _ => (g0)) ?_ | refine callX_pure (g0) ?_
  simp (maxSteps := 1000000) (disch := omega) only [go_sem, Nat.reduceEqDiff, Nat.reduceLT, Nat.reduceAdd, Nat.reduceSub, Nat.reduceMul, Nat.reduceBEq, Int.reduceLT, Int.reduceAdd, Int.reduceMul, Int.reduceSub, Int.reduceToNat, Int.reduceLE, Int.reduceEq, ↓reduceIte, reduceCtorEq, Int.reduceNeg, Nat.reduceLeDiff]
  exact fin_same (by simp) _ (by first | exact (List.append_nil _).symm | rfl) (by simp (maxSteps := 1000000) (disch := omega) only [resVal, resAll, resOne, rs40, Env.get, go_sem, Nat.reduceEqDiff, Nat.reduceLT, Nat.reduceAdd, Nat.reduceSub, Nat.reduceMul, Nat.reduceBEq, Int.reduceLT, Int.reduceAdd, Int.reduceMul, Int.reduceSub, Int.reduceToNat, Int.reduceLE, Int.reduceEq, ↓reduceIte, reduceCtorEq, Int.reduceNeg, Nat.reduceLeDiff]) (by simp only [AV.und, AV.unds, and_self])
theorem hb40 : hasBody Try.prog 40 = true := by kernel_rfl
theorem Sl.app_set {α : Type} {f : α → AV} {H : Heap} {p off : Nat} {zs : List α} (hs : Sl f H p off zs) {G : Heap} {b : Nat} (hb : H.length ≤ b) (x : Option Blk) : Sl f ((H ++ G).set b x) p off zs :=
  (hs.app G).set (by have := hs.lt; omega) x
theorem Mx.ok.app_set {m : Mx} {H : Heap} (h : m.ok H) {G : Heap} {b : Nat} (hb : H.length ≤ b) (x : Option Blk) : m.ok ((H ++ G).set b x) := ⟨h.hr, h.hc, h.hl, h.hb, h.hs.app_set hb x⟩
theorem blkAt_los {p b : Nat} {H : Heap} (G : Heap) (x : Option Blk) (h : p < H.length) : blkAt (H.set b x ++ G) p = blkAt (H.set b x) p := blkAt_lo G (by rw [List.length_set]; exact h)
theorem Rw.unset {α : Type} {f : α → AV} {H : Heap} {b : Nat} {v : AV} {zs : List α} (h : Rw f (H.set b none) v zs) (x : Option Blk) : Rw f (H.set b x) v zs := by
  obtain ⟨p, off, c, rfl, hs⟩ := h
  exact ⟨p, off, c, rfl, hs.unset x⟩
theorem Rw.app {α : Type} {f : α → AV} {H : Heap} {v : AV} {zs : List α} (h : Rw f H v zs) (G : Heap) : Rw f (H ++ G) v zs := h.ext (.app _ _)
theorem f17 {m : Mx} {H : Heap} (h : m.ok H) : ACallE Try.prog 17 [.agg m.av] H fun v H' => ∃ w, v = .agg [.int .i64 (m.c : Nat), .int .i64 (m.r : Nat), w] ∧ Rw i64 H' w (matL (fun i k => m.at k i) m.c m.r) := by
  refine acallE (fun v Hf h => acallK17 (by simp) h) (acs_start ?_)
  have a1 := mav_len m
  have a2 := mav_all m
  have a3 : m.av[0]? = some (.int .i64 (m.r : Nat)) := rfl
  have a4 : m.av[1]? = some (.int .i64 (m.c : Nat)) := rfl
  have g27 := fun (G : Heap) => f27 (f := 40) (H := (H ++ (some ⟨m.av, true⟩ :: G)).set (H.length + 1) none) (ys := [.ptr H.length 0]) (q := fun i k => m.at k i) (b := fun _ _ => false) h.hc h.hr hb40
    (fun H' i k hx hi hk => f40 (o := true) ((h.app_set (by omega) _).ext hx) hi hk (hx.blk (by rw [blkAt_set_ne (by omega)]; simp only [go_sem, Nat.reduceEqDiff, Nat.reduceLT, Nat.reduceAdd, Nat.reduceSub, Nat.reduceMul, Nat.reduceBEq, Int.reduceLT, Int.reduceAdd, Int.reduceMul, Int.reduceSub, Int.reduceToNat, Int.reduceLE, Int.reduceEq, ↓reduceIte, reduceCtorEq, Int.reduceNeg, Nat.reduceLeDiff])))
  unfold c17
  simp (maxSteps := 1000000) (disch := omega) only [go_sem, Nat.reduceEqDiff, Nat.reduceLT, Nat.reduceAdd, Nat.reduceSub, Nat.reduceMul, Nat.reduceBEq, Int.reduceLT, Int.reduceAdd, Int.reduceMul, Int.reduceSub, Int.reduceToNat, Int.reduceLE, Int.reduceEq, ↓reduceIte, reduceCtorEq, Int.reduceNeg, Nat.reduceLeDiff,  a1, a2, a3, a4]
  first | refine callBE (ACallE.frame (b := H.length + 1) (x := ⟨[.int .i64 0, .int .i64 0, .nils], true⟩) (by simp only [go_sem, Nat.reduceEqDiff, Nat.reduceLT, Nat.reduceAdd, Nat.reduceSub, Nat.reduceMul, Nat.reduceBEq, Int.reduceLT, Int.reduceAdd, Int.reduceMul, Int.reduceSub, Int.reduceToNat, Int.reduceLE, Int.reduceEq, ↓reduceIte, reduceCtorEq, Int.reduceNeg, Nat.reduceLeDiff]) rfl (g27 _)) ?_ | refine callDE (ACallE.frame (b := H.length + 1) (x := ⟨[.int .i64 0, .int .i64 0, .nils], true⟩) (by simp only [go_sem, Nat.reduceEqDiff, Nat.reduceLT, Nat.reduceAdd, Nat.reduceSub, Nat.reduceMul, Nat.reduceBEq, Int.reduceLT, Int.reduceAdd, Int.reduceMul, Int.reduceSub, Int.reduceToNat, Int.reduceLE, Int.reduceEq, ↓reduceIte, reduceCtorEq, Int.reduceNeg, Nat.reduceLeDiff]) rfl (g27 _)) ?_ | refine callXE (ACallE.frame (b := H.length + 1) (x := ⟨[.int .i64 0, .int .i64 0, .nils], true⟩) (by simp only [go_sem, Nat.reduceEqDiff, Nat.reduceLT, Nat.reduceAdd, Nat.reduceSub, Nat.reduceMul, Nat.reduceBEq, Int.reduceLT, Int.reduceAdd, Int.reduceMul, Int.reduceSub, Int.reduceToNat, Int.reduceLE, Int.reduceEq, ↓reduceIte, reduceCtorEq, Int.reduceNeg, Nat.reduceLeDiff]) rfl (g27 _)) ?_
  rintro v H1 hx ⟨b1, w, rfl, hw⟩
  obtain ⟨p, off, kk, rfl, hs⟩ := hw
  have bl1 := blkAt_lt b1
  have ok2 := fun y => hs.unset (some ⟨y, true⟩)
  simp (maxSteps := 1000000) (disch := omega) only [go_sem, Nat.reduceEqDiff, Nat.reduceLT, Nat.reduceAdd, Nat.reduceSub, Nat.reduceMul, Nat.reduceBEq, Int.reduceLT, Int.reduceAdd, Int.reduceMul, Int.reduceSub, Int.reduceToNat, Int.reduceLE, Int.reduceEq, ↓reduceIte, reduceCtorEq, Int.reduceNeg, Nat.reduceLeDiff,  b1, bl1, blkAt_lo, set_lo, List.length_set]
  refine fin_e (by simp) (by simp (maxSteps := 1000000) (disch := omega) only [resVal, resAll, resOne, rs17, Env.get, go_sem, Nat.reduceEqDiff, Nat.reduceLT, Nat.reduceAdd, Nat.reduceSub, Nat.reduceMul, Nat.reduceBEq, Int.reduceLT, Int.reduceAdd, Int.reduceMul, Int.reduceSub, Int.reduceToNat, Int.reduceLE, Int.reduceEq, ↓reduceIte, reduceCtorEq, Int.reduceNeg, Nat.reduceLeDiff, b1, bl1, blkAt_los, blkAt_lo, set_lo, List.length_set, blkAt_set_self] <;> rfl) ((((Ext.app _ _).trans hx).set (by omega) _).to _) ⟨_, rfl, (Rw.mk _ (ok2 _)).app _⟩
end Go.Proofs.Ytmlklopopokjoaa.Ah
