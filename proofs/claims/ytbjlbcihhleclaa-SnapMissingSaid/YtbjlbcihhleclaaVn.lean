/- Vn: a part of the proof: contracts of functions, or plain laws. Conditions: none. -/
import Derived.Test.YtbjlbcihhleclaaVm
namespace Go.Proofs.Ytbjlbcihhleclaa.Ah
open Go Go.WideShapes
attribute [local irreducible] acs aopsK drawK leave condK bindR bindD bindX guardK guardD callB callD callX callP callPv rfunG rfunK yldB yldD
attribute [local go_sem] mop mget mfind mput mres keyed AV.isAgg beq_self_eq_true Bool.true_and Option.isSome_some List.set_cons_zero acs_nil acs_blk acs_skip acs_reg acs_dreg acs_freg acs_nam0 acs_nam nones acs_seq acs_cond acs_block acs_exit acs_ret acs_kl acs_loop leave_nil leave_code leave_lp leave_blk aopsK_nil aopsK_cons aopsK_guard bindR_val bindR_need bindR_br bindR_call bindR_ycall acs_rfun rfunG_fn bindR_bad drawK_nil drawK_cons drawK_wat bindW_val bindW_need bindW_br WatL_nil WatL_cons isP_ptr drawK_ext drawK_pur drawK_guard callPv_fn drawK_purv bindD_val bindD_need bindD_br bindD_call bindD_ycall bindD_bad bindX_val bindX_need bindX_br bindX_call guardD_bool guardD_tup grows grows0 List.append_cancel_left_eq List.cons.injEq exists_eq' exists_eq condK_bool guardK_bool guardK_tup sor r0 r1 r2 r3 rC rB rI rP rA rT rS rF rSl rO rbin rcut run1 Env.evals Env.eval Env.get Env.put Env.ins Env.del Env.dels argEnv AV.full AV.cells AV.cell eqCells decide_true decide_false decide_eq_true_eq decide_eq_false_iff_not Bool.not_eq_true' Bool.not_eq_false' true_and and_true false_implies true_implies forall_const Bool.not_true Bool.not_false Bool.false_eq_true Bool.true_eq_false List.getElem?_cons_zero List.getElem?_cons_succ List.length_cons List.length_nil List.length_append List.all_cons List.all_nil Bool.and_true Bool.and_self implies_true List.append_assoc List.cons_append List.nil_append List.append_nil i64_in imin_eq imax_eq cast3 cast0 cast1 cast2 Option.map_none ite_self and_false false_and Option.isSome_some or_true true_or Int.sub_zero Int.mul_one Nat.sub_zero Nat.zero_le Int.cast_ofNat_Int Int.natCast_nonneg Int.toNat_natCast ne_eq not_false_eq_true not_true_eq_false strC blkAt_app blkAt_app0 blkAt_zero blkAt_succ List.set_cons_zero List.set_cons_succ set_app set_app0 Option.map_some Option.bind_some rd setCells lay rdS szOk rapp ownAt lenAt Option.any_some Option.getD_some List.drop_zero List.drop_succ_cons List.take_succ_cons List.take_zero List.drop_nil List.take_nil Nat.lt_irrefl Nat.zero_add Nat.add_zero Nat.mul_one Nat.one_mul Nat.add_assoc Option.some.injEq eq_self
set_option maxHeartbeats 4000000
set_option linter.unusedSimpArgs false
set_option linter.unusedVariables false
/-! Whether all parts are there. -/
def fi (f : Nat → Bool) : Nat → Nat → Int
  | _, 0 => -1
  | k, r + 1 => if f k then fi f (k + 1) r else (k : Int)
theorem fi_all (f : Nat → Bool) : ∀ (r k : Nat), (∀ j, k ≤ j → j < k + r → f j = true) → fi f k r = -1
  | 0, _, _ => rfl
  | r + 1, k, h => by
    rw [fi, if_pos (h k (by omega) (by omega))]
    exact fi_all f r (k + 1) fun j h1 h2 => h j (by omega) (by omega)
theorem fi_some (f : Nat → Bool) : ∀ (r k : Nat), (∃ j, k ≤ j ∧ j < k + r ∧ f j = false) → 0 ≤ fi f k r
  | 0, k, ⟨j, h1, h2, _⟩ => by omega
  | r + 1, k, ⟨j, h1, h2, h3⟩ => by
    rw [fi]
    split
    · rename_i hk
      refine fi_some f r (k + 1) ⟨j, ?_, by omega, h3⟩
      rcases Nat.lt_or_ge k j with h | h
      · omega
      · obtain rfl : j = k := by omega
        rw [hk] at h3; cases h3
    · omega
def c64t : SC := tl2 (tl2 c64)
theorem f64_loop {b off n : Nat} {cp : Option Nat} {cs : List AV} {o : Bool} {f : Nat → Bool} {H : Heap} (hb : blkAt H b = some ⟨cs, o⟩) (hf : ∀ j, j < n → cs[off + j]? = some (.bool (f j))) (hn : n ≤ 1000) : ∀ (r k : Nat), k + r = n →
    acs Try.prog [.lp c64l0, .blk 0, .code c64t] [(0, .sl b off n 1 cp), (1, .bool false), (7, .int .i64 (n : Int)), (8, .int .i64 (k : Int))] H (Fin H rs64 (.int .i64 (fi f k r)) H) := by
  intro r
  induction r with
  | zero =>
    intro k hk
    have hge : ¬ (k : Int) < (n : Int) := by omega
    rw [show fi f k 0 = -1 from rfl]
    rw [acs_lp]; conv in Fr.code c64l0 => unfold c64l0
    simp (maxSteps := 1000000) (disch := omega) only [go_sem, Nat.reduceEqDiff, Nat.reduceLT, Nat.reduceAdd, Nat.reduceSub, Nat.reduceMul, Nat.reduceBEq, Int.reduceLT, Int.reduceAdd, Int.reduceMul, Int.reduceSub, Int.reduceToNat, Int.reduceLE, Int.reduceEq, ↓reduceIte, reduceCtorEq, Int.reduceNeg, Nat.reduceLeDiff,  hge]
    unfold c64t c64 tl2
    simp (maxSteps := 1000000) (disch := omega) only [go_sem, Nat.reduceEqDiff, Nat.reduceLT, Nat.reduceAdd, Nat.reduceSub, Nat.reduceMul, Nat.reduceBEq, Int.reduceLT, Int.reduceAdd, Int.reduceMul, Int.reduceSub, Int.reduceToNat, Int.reduceLE, Int.reduceEq, ↓reduceIte, reduceCtorEq, Int.reduceNeg, Nat.reduceLeDiff]
    exact fin_ext (by simp) (Ext.refl _) (by simp (maxSteps := 1000000) (disch := omega) only [resVal, resAll, resOne, rs64, Env.get, go_sem, Nat.reduceEqDiff, Nat.reduceLT, Nat.reduceAdd, Nat.reduceSub, Nat.reduceMul, Nat.reduceBEq, Int.reduceLT, Int.reduceAdd, Int.reduceMul, Int.reduceSub, Int.reduceToNat, Int.reduceLE, Int.reduceEq, ↓reduceIte, reduceCtorEq, Int.reduceNeg, Nat.reduceLeDiff]) (by simp only [AV.und, AV.unds, and_self])
  | succ r ih =>
    intro k hk
    have hlt : (k : Int) < (n : Int) := by omega
    have hlt2 : k < n := by omega
    have fk := hf k hlt2
    have k1 : (k : Int) + 1 = ((k + 1 : Nat) : Int) := by omega
    have next := ih (k + 1) (by omega)
    rw [fi]
    cases hv : f k with
    | true =>
      rw [hv] at fk
      simp only [if_true]
      rw [acs_lp]; conv in Fr.code c64l0 => unfold c64l0
      simp (maxSteps := 1000000) (disch := omega) only [go_sem, Nat.reduceEqDiff, Nat.reduceLT, Nat.reduceAdd, Nat.reduceSub, Nat.reduceMul, Nat.reduceBEq, Int.reduceLT, Int.reduceAdd, Int.reduceMul, Int.reduceSub, Int.reduceToNat, Int.reduceLE, Int.reduceEq, ↓reduceIte, reduceCtorEq, Int.reduceNeg, Nat.reduceLeDiff,  hlt, hlt2, hb, fk, k1, Bool.false_eq_true]
      exact next
    | false =>
      rw [hv] at fk
      simp only [Bool.false_eq_true, if_false]
      rw [acs_lp]; conv in Fr.code c64l0 => unfold c64l0
      simp (maxSteps := 1000000) (disch := omega) only [go_sem, Nat.reduceEqDiff, Nat.reduceLT, Nat.reduceAdd, Nat.reduceSub, Nat.reduceMul, Nat.reduceBEq, Int.reduceLT, Int.reduceAdd, Int.reduceMul, Int.reduceSub, Int.reduceToNat, Int.reduceLE, Int.reduceEq, ↓reduceIte, reduceCtorEq, Int.reduceNeg, Nat.reduceLeDiff,  hlt, hlt2, hb, fk]
      exact fin_ext (by simp) (Ext.refl _) (by simp (maxSteps := 1000000) (disch := omega) only [resVal, resAll, resOne, rs64, Env.get, go_sem, Nat.reduceEqDiff, Nat.reduceLT, Nat.reduceAdd, Nat.reduceSub, Nat.reduceMul, Nat.reduceBEq, Int.reduceLT, Int.reduceAdd, Int.reduceMul, Int.reduceSub, Int.reduceToNat, Int.reduceLE, Int.reduceEq, ↓reduceIte, reduceCtorEq, Int.reduceNeg, Nat.reduceLeDiff]) (by simp only [AV.und, AV.unds, and_self])
theorem f64 {b off n : Nat} {cp : Option Nat} {cs : List AV} {o : Bool} {f : Nat → Bool} {H : Heap} (hb : blkAt H b = some ⟨cs, o⟩) (hf : ∀ j, j < n → cs[off + j]? = some (.bool (f j))) (hn : n ≤ 1000) : ACall Try.prog 64 [.sl b off n 1 cp, .bool false] H (.int .i64 (fi f 0 n)) H := by
  refine acall64 (by simp) (acs_start ?_)
  have go := f64_loop (cp := cp) hb hf hn n 0 (by omega)
  unfold c64t c64 tl2 at go
  unfold c64
  simp (maxSteps := 1000000) (disch := omega) only [go_sem, Nat.reduceEqDiff, Nat.reduceLT, Nat.reduceAdd, Nat.reduceSub, Nat.reduceMul, Nat.reduceBEq, Int.reduceLT, Int.reduceAdd, Int.reduceMul, Int.reduceSub, Int.reduceToNat, Int.reduceLE, Int.reduceEq, ↓reduceIte, reduceCtorEq, Int.reduceNeg, Nat.reduceLeDiff]
  exact go
theorem f42_yes {b off n : Nat} {cp : Option Nat} {cs : List AV} {o : Bool} {f : Nat → Bool} {H : Heap} (hb : blkAt H b = some ⟨cs, o⟩) (hf : ∀ j, j < n → cs[off + j]? = some (.bool (f j))) (hn : n ≤ 1000) (ha : ∀ j, j < n → f j = true) : ACall Try.prog 42 [.sl b off n 1 cp, .bool false] H (.bool false) H := by
  refine acall42 (by simp) (acs_start ?_)
  have g := f64 (cp := cp) hb hf hn
  rw [fi_all f n 0 (fun j _ h => ha j (by omega))] at g
  unfold c42
  simp (maxSteps := 1000000) (disch := omega) only [go_sem, Nat.reduceEqDiff, Nat.reduceLT, Nat.reduceAdd, Nat.reduceSub, Nat.reduceMul, Nat.reduceBEq, Int.reduceLT, Int.reduceAdd, Int.reduceMul, Int.reduceSub, Int.reduceToNat, Int.reduceLE, Int.reduceEq, ↓reduceIte, reduceCtorEq, Int.reduceNeg, Nat.reduceLeDiff]
  first | refine callB_intro (g) ?_ | refine callD_intro (g) ?_ | refine callP_intro (fun _ => (g)) ?_ | refine callX_pure (g) ?_
  simp (maxSteps := 1000000) (disch := omega) only [go_sem, Nat.reduceEqDiff, Nat.reduceLT, Nat.reduceAdd, Nat.reduceSub, Nat.reduceMul, Nat.reduceBEq, Int.reduceLT, Int.reduceAdd, Int.reduceMul, Int.reduceSub, Int.reduceToNat, Int.reduceLE, Int.reduceEq, ↓reduceIte, reduceCtorEq, Int.reduceNeg, Nat.reduceLeDiff]
  exact fin_ext (by simp) (Ext.refl _) (by simp (maxSteps := 1000000) (disch := omega) only [resVal, resAll, resOne, rs42, Env.get, go_sem, Nat.reduceEqDiff, Nat.reduceLT, Nat.reduceAdd, Nat.reduceSub, Nat.reduceMul, Nat.reduceBEq, Int.reduceLT, Int.reduceAdd, Int.reduceMul, Int.reduceSub, Int.reduceToNat, Int.reduceLE, Int.reduceEq, ↓reduceIte, reduceCtorEq, Int.reduceNeg, Nat.reduceLeDiff]) (by simp only [AV.und, AV.unds, and_self])
theorem f42_no {b off n : Nat} {cp : Option Nat} {cs : List AV} {o : Bool} {f : Nat → Bool} {H : Heap} (hb : blkAt H b = some ⟨cs, o⟩) (hf : ∀ j, j < n → cs[off + j]? = some (.bool (f j))) (hn : n ≤ 1000) (ha : ∃ j, j < n ∧ f j = false) : ACall Try.prog 42 [.sl b off n 1 cp, .bool false] H (.bool true) H := by
  refine acall42 (by simp) (acs_start ?_)
  have g := f64 (cp := cp) hb hf hn
  have h0 : 0 ≤ fi f 0 n := by
    obtain ⟨j, h1, h2⟩ := ha
    exact fi_some f n 0 ⟨j, by omega, by omega, h2⟩
  generalize fi f 0 n = z at *
  unfold c42
  simp (maxSteps := 1000000) (disch := omega) only [go_sem, Nat.reduceEqDiff, Nat.reduceLT, Nat.reduceAdd, Nat.reduceSub, Nat.reduceMul, Nat.reduceBEq, Int.reduceLT, Int.reduceAdd, Int.reduceMul, Int.reduceSub, Int.reduceToNat, Int.reduceLE, Int.reduceEq, ↓reduceIte, reduceCtorEq, Int.reduceNeg, Nat.reduceLeDiff]
  first | refine callB_intro (g) ?_ | refine callD_intro (g) ?_ | refine callP_intro (fun _ => (g)) ?_ | refine callX_pure (g) ?_
  simp (maxSteps := 1000000) (disch := omega) only [go_sem, Nat.reduceEqDiff, Nat.reduceLT, Nat.reduceAdd, Nat.reduceSub, Nat.reduceMul, Nat.reduceBEq, Int.reduceLT, Int.reduceAdd, Int.reduceMul, Int.reduceSub, Int.reduceToNat, Int.reduceLE, Int.reduceEq, ↓reduceIte, reduceCtorEq, Int.reduceNeg, Nat.reduceLeDiff,  h0]
  exact fin_ext (by simp) (Ext.refl _) (by simp (maxSteps := 1000000) (disch := omega) only [resVal, resAll, resOne, rs42, Env.get, go_sem, Nat.reduceEqDiff, Nat.reduceLT, Nat.reduceAdd, Nat.reduceSub, Nat.reduceMul, Nat.reduceBEq, Int.reduceLT, Int.reduceAdd, Int.reduceMul, Int.reduceSub, Int.reduceToNat, Int.reduceLE, Int.reduceEq, ↓reduceIte, reduceCtorEq, Int.reduceNeg, Nat.reduceLeDiff]) (by simp only [AV.und, AV.unds, and_self])

/-! What is done. -/
def zEs : List AV := [.int .i64 0, .int .i64 0, .int .i64 0, .int .i64 0, .int .i64 0, .int .i64 0, .nils, .int .i64 0, .int .i64 0, .nils, .int .i64 0, .int .i64 0, .nils, .int .i64 0, .int .i64 0, .nils, .int .i64 0, .int .i64 0, .nils, .int .i64 0, .int .i64 0, .nils, .int .i64 0, .int .i64 0, .int .i64 0, .int .i64 0, .int .i64 0, .int .i64 0, .bool false]
theorem f21_no {c0 c1 c2 c3 c4 c5 : Int} {s : Sn} {H : Heap} (hm : mayB c0 c1 c2 c3 c4 c5 = true) (hs : s.ok) (hk : mrkB s.a s.b s.c s.d = true) (hn : ∃ j : Nat, (j : Int) < (s.d + 7) / 8 ∧ s.h.getD j false = false) :
    ACallE Try.prog 21 [.agg [.int .i64 c0, .int .i64 c1, .int .i64 c2, .int .i64 c3, .int .i64 c4, .int .i64 c5], .agg s.av] H fun v H' => v = .tup [.agg zEs, .bool false] := by
  refine acallE (fun v Hf h => acallK21 (by simp) h) (acs_start ?_)
  have len := Sn.len hs
  have full := s.full
  have all := s.all
  have tk := Sn.tk hs
  have drp := Sn.drp hs
  have t4 : List.take 4 s.av = [.int .i64 s.a, .int .i64 s.b, .int .i64 s.c, .int .i64 s.d] := rfl
  have d39 := mrkB_d39 hk
  obtain ⟨n, hnn⟩ : ∃ n : Nat, (s.d + 7) / 8 = (n : Int) := ⟨((s.d + 7) / 8).toNat, by omega⟩
  have n5 : n ≤ 5 := by omega
  have n5' : (n : Int) ≤ 5 := by omega
  have g17 := fun (G : Heap) => f17 (a := s.a) (b := s.b) (c := s.c) (d := s.d) (H := G)
  rw [hk] at g17
  have g38 := fun (G : Heap) => f38 (a := s.a) (b := s.b) (c := s.c) (d := s.d) (H := G) d39
  rw [hnn] at g38
  unfold c21
  simp (maxSteps := 1000000) (disch := omega) only [go_sem, Nat.reduceEqDiff, Nat.reduceLT, Nat.reduceAdd, Nat.reduceSub, Nat.reduceMul, Nat.reduceBEq, Int.reduceLT, Int.reduceAdd, Int.reduceMul, Int.reduceSub, Int.reduceToNat, Int.reduceLE, Int.reduceEq, ↓reduceIte, reduceCtorEq, Int.reduceNeg, Nat.reduceLeDiff,  full, len, all, tk, drp]
  first | refine callBE (f31 hm) ?_ | refine callDE (f31 hm) ?_ | refine callXE (f31 hm) ?_
  rintro v X hx ⟨q, rfl, hq, hql⟩
  have hX : Ext H X := (Ext.app _ _).trans hx
  have b1 : blkAt X (H.length + 1) = some ⟨s.av, true⟩ := hx.blk (by simp only [go_sem, Nat.reduceEqDiff, Nat.reduceLT, Nat.reduceAdd, Nat.reduceSub, Nat.reduceMul, Nat.reduceBEq, Int.reduceLT, Int.reduceAdd, Int.reduceMul, Int.reduceSub, Int.reduceToNat, Int.reduceLE, Int.reduceEq, ↓reduceIte, reduceCtorEq, Int.reduceNeg, Nat.reduceLeDiff])
  have b2 : blkAt X (H.length + 2) = some ⟨zEs, true⟩ := hx.blk (by simp only [go_sem, Nat.reduceEqDiff, Nat.reduceLT, Nat.reduceAdd, Nat.reduceSub, Nat.reduceMul, Nat.reduceBEq, Int.reduceLT, Int.reduceAdd, Int.reduceMul, Int.reduceSub, Int.reduceToNat, Int.reduceLE, Int.reduceEq, ↓reduceIte, reduceCtorEq, Int.reduceNeg, Nat.reduceLeDiff]; rfl)
  have l1 := blkAt_lt b1
  have l2 := blkAt_lt b2
  have g42 := fun (cp : Option Nat) => f42_no (b := H.length + 1) (off := 4) (n := n) (cp := cp) (cs := s.av) (o := true) (f := fun j => s.h.getD j false) (H := X) b1 (fun j hj => Sn.has hs (by omega)) (by omega) (by
    obtain ⟨j, h1, h2⟩ := hn
    exact ⟨j, by omega, h2⟩)
  simp (maxSteps := 1000000) (disch := omega) only [go_sem, Nat.reduceEqDiff, Nat.reduceLT, Nat.reduceAdd, Nat.reduceSub, Nat.reduceMul, Nat.reduceBEq, Int.reduceLT, Int.reduceAdd, Int.reduceMul, Int.reduceSub, Int.reduceToNat, Int.reduceLE, Int.reduceEq, ↓reduceIte, reduceCtorEq, Int.reduceNeg, Nat.reduceLeDiff,  b1, l1, len, t4, blkAt_lo]
  first | refine callB_intro (g17 _) ?_ | refine callD_intro (g17 _) ?_ | refine callP_intro (fun _ => (g17 _)) ?_ | refine callX_pure (g17 _) ?_
  simp (maxSteps := 1000000) (disch := omega) only [go_sem, Nat.reduceEqDiff, Nat.reduceLT, Nat.reduceAdd, Nat.reduceSub, Nat.reduceMul, Nat.reduceBEq, Int.reduceLT, Int.reduceAdd, Int.reduceMul, Int.reduceSub, Int.reduceToNat, Int.reduceLE, Int.reduceEq, ↓reduceIte, reduceCtorEq, Int.reduceNeg, Nat.reduceLeDiff,  b1, l1, len, t4, blkAt_lo]
  first | refine callB_intro (g38 _) ?_ | refine callD_intro (g38 _) ?_ | refine callP_intro (fun _ => (g38 _)) ?_ | refine callX_pure (g38 _) ?_
  simp (maxSteps := 1000000) (disch := omega) only [go_sem, Nat.reduceEqDiff, Nat.reduceLT, Nat.reduceAdd, Nat.reduceSub, Nat.reduceMul, Nat.reduceBEq, Int.reduceLT, Int.reduceAdd, Int.reduceMul, Int.reduceSub, Int.reduceToNat, Int.reduceLE, Int.reduceEq, ↓reduceIte, reduceCtorEq, Int.reduceNeg, Nat.reduceLeDiff,  b1, l1, len, t4, blkAt_lo, n5, n5']
  first | refine callB_intro (g42 _) ?_ | refine callD_intro (g42 _) ?_ | refine callP_intro (fun _ => (g42 _)) ?_ | refine callX_pure (g42 _) ?_
  have z29 : zEs.length = 29 := rfl
  have zd : List.drop 29 zEs = [] := rfl
  simp (maxSteps := 1000000) (disch := omega) only [go_sem, Nat.reduceEqDiff, Nat.reduceLT, Nat.reduceAdd, Nat.reduceSub, Nat.reduceMul, Nat.reduceBEq, Int.reduceLT, Int.reduceAdd, Int.reduceMul, Int.reduceSub, Int.reduceToNat, Int.reduceLE, Int.reduceEq, ↓reduceIte, reduceCtorEq, Int.reduceNeg, Nat.reduceLeDiff,  b1, l1, b2, l2, z29, zd]
  refine fin_e (by simp) (by simp (maxSteps := 1000000) (disch := omega) only [resVal, resAll, resOne, rs21, Env.get, go_sem, Nat.reduceEqDiff, Nat.reduceLT, Nat.reduceAdd, Nat.reduceSub, Nat.reduceMul, Nat.reduceBEq, Int.reduceLT, Int.reduceAdd, Int.reduceMul, Int.reduceSub, Int.reduceToNat, Int.reduceLE, Int.reduceEq, ↓reduceIte, reduceCtorEq, Int.reduceNeg, Nat.reduceLeDiff, blkAt_set_self l2] <;> rfl) (hX.set (by omega) _) rfl

/-! What is done, when all is there. -/
theorem pc_chunks {p D : List Int} {n : Nat} (hl : p.length = 40) (hn : n ≤ 5) (h : ∀ j, j < n → chunk p j = row8 D j) : p.take (8 * n) = pc D n := by
  apply List.ext_getElem?
  intro i
  by_cases hi : i < 8 * n
  · rw [List.getElem?_take_of_lt hi, pc_get D hi]
    have hj : i / 8 < n := by omega
    have h1 : (chunk p (i / 8))[i % 8]? = (row8 D (i / 8))[i % 8]? := by rw [h _ hj]
    unfold chunk row8 at h1
    rw [List.getElem?_take_of_lt (by omega), List.getElem?_drop, List.getElem?_map, List.getElem?_range (by omega)] at h1
    rw [show i / 8 * 8 + i % 8 = i by omega] at h1
    rw [h1]
    simp only [Option.map_some]
    rw [show 8 * (i / 8) + i % 8 = i by omega]
  · rw [List.getElem?_eq_none (by rw [List.length_take]; omega), List.getElem?_eq_none (by rw [pc_len]; omega)]
theorem pc_zero {D : List Int} {n : Nat} : ∀ z ∈ (pc D n).drop D.length, z = 0 := by
  intro z hz
  obtain ⟨i, hi⟩ := List.mem_iff_getElem?.1 hz
  rw [List.getElem?_drop] at hi
  rcases Nat.lt_or_ge (D.length + i) (8 * n) with h | h
  · rw [pc_get D h] at hi
    have : D.getD (D.length + i) 0 = 0 := by simp [List.getD]
    rw [this] at hi
    exact (Option.some.inj hi).symm
  · rw [List.getElem?_eq_none (by rw [pc_len]; omega)] at hi
    cases hi
theorem pc_row {D : List Int} {n : Nat} (h : D.length ≤ 8 * n) : (pc D n).take D.length = D := by
  apply List.ext_getElem?
  intro i
  by_cases hi : i < D.length
  · rw [List.getElem?_take_of_lt hi, pc_get D (by omega)]
    simp [List.getD, List.getElem?_eq_getElem hi]
  · rw [List.getElem?_eq_none (by rw [List.length_take]; omega), List.getElem?_eq_none (by omega)]
theorem Sn.parts {s : Sn} (h : s.ok) {D : List Int} {n : Nat} (hn : n ≤ 5) (hc : ∀ j, j < n → chunk s.p j = row8 D j) : (s.av.drop 9).take (8 * n) = (pc D n).map (AV.int .i64) := by
  unfold Sn.av
  have hl : (s.h.map AV.bool).length = 5 := by simp [h.h]
  rw [show (9 : Nat) = 5 + 1 + 1 + 1 + 1 from rfl]
  simp only [List.drop_succ_cons]
  rw [← hl, List.drop_left, ← List.map_take, pc_chunks h.p hn hc]
theorem f21_yes {c0 c1 c2 c3 c4 c5 : Int} {e : Es} {s : Sn} {n : Nat} {H : Heap} (hm : mayB c0 c1 c2 c3 c4 c5 = true) (he : estB e = true) (hs : s.ok) (hk : mrkB s.a s.b s.c s.d = true) (hd : s.d = ((dlt e).length : Int)) (hn : ((dlt e).length + 7) / 8 = n) (hh : ∀ j, j < n → s.h.getD j false = true) (hc : ∀ j, j < n → chunk s.p j = row8 (dlt e) j) :
    ACallE Try.prog 21 [.agg [.int .i64 c0, .int .i64 c1, .int .i64 c2, .int .i64 c3, .int .i64 c4, .int .i64 c5], .agg s.av] H fun v H' => ∃ f : Es, v = .tup [.agg f.av, .bool true] ∧ f.eqv e ∧ f.ok H' := by
  refine acallE (fun v Hf h => acallK21 (by simp) h) (acs_start ?_)
  have len := Sn.len hs
  have full := s.full
  have all := s.all
  have tk := Sn.tk hs
  have drp := Sn.drp hs
  have t4 : List.take 4 s.av = [.int .i64 s.a, .int .i64 s.b, .int .i64 s.c, .int .i64 s.d] := rfl
  have z3 : s.av[3]? = some (.int .i64 s.d) := rfl
  have d39 := mrkB_d39 hk
  obtain ⟨D0, D1⟩ := dlt_len he
  have hnn : (s.d + 7) / 8 = (n : Int) := by omega
  have n5 : n ≤ 5 := by omega
  have n5' : (n : Int) ≤ 5 := by omega
  have n0 : 0 < n := by omega
  have hp := Sn.parts hs n5 hc
  have g17 := fun (G : Heap) => f17 (a := s.a) (b := s.b) (c := s.c) (d := s.d) (H := G)
  rw [hk] at g17
  have g38 := fun (G : Heap) => f38 (a := s.a) (b := s.b) (c := s.c) (d := s.d) (H := G) d39
  rw [hnn] at g38
  have lw := wds_len he
  have ad : aspec w0 (dlt e) = (wds e, 0) := aspec_diff (by rw [lw]; rfl) (by decide)
  unfold c21
  simp (maxSteps := 1000000) (disch := omega) only [go_sem, Nat.reduceEqDiff, Nat.reduceLT, Nat.reduceAdd, Nat.reduceSub, Nat.reduceMul, Nat.reduceBEq, Int.reduceLT, Int.reduceAdd, Int.reduceMul, Int.reduceSub, Int.reduceToNat, Int.reduceLE, Int.reduceEq, ↓reduceIte, reduceCtorEq, Int.reduceNeg, Nat.reduceLeDiff,  full, len, all, tk, drp]
  first | refine callBE (f31 hm) ?_ | refine callDE (f31 hm) ?_ | refine callXE (f31 hm) ?_
  rintro v X hx ⟨q, rfl, hq, hql⟩
  have hX : Ext H X := (Ext.app _ _).trans hx
  have b1 : blkAt X (H.length + 1) = some ⟨s.av, true⟩ := hx.blk (by simp only [go_sem, Nat.reduceEqDiff, Nat.reduceLT, Nat.reduceAdd, Nat.reduceSub, Nat.reduceMul, Nat.reduceBEq, Int.reduceLT, Int.reduceAdd, Int.reduceMul, Int.reduceSub, Int.reduceToNat, Int.reduceLE, Int.reduceEq, ↓reduceIte, reduceCtorEq, Int.reduceNeg, Nat.reduceLeDiff])
  have b2 : blkAt X (H.length + 2) = some ⟨zEs, true⟩ := hx.blk (by simp only [go_sem, Nat.reduceEqDiff, Nat.reduceLT, Nat.reduceAdd, Nat.reduceSub, Nat.reduceMul, Nat.reduceBEq, Int.reduceLT, Int.reduceAdd, Int.reduceMul, Int.reduceSub, Int.reduceToNat, Int.reduceLE, Int.reduceEq, ↓reduceIte, reduceCtorEq, Int.reduceNeg, Nat.reduceLeDiff]; rfl)
  have l1 := blkAt_lt b1
  have l2 := blkAt_lt b2
  have g42 := fun (cp : Option Nat) => f42_yes (b := H.length + 1) (off := 4) (n := n) (cp := cp) (cs := s.av) (o := true) (f := fun j => s.h.getD j false) (H := X) b1 (fun j hj => Sn.has hs (by omega)) (by omega) hh
  have g43 := fun (cp : Option Nat) => f43 (H := X) (ws := pc (dlt e) n) (K := n) (p := H.length + 1) (N := (dlt e).length) (off := 9) (cs := s.av) (cp := cp) (o := true) b1 hp (pc_len _ _) (by omega) hn D0 pc_zero
  rw [← hd, pc_row (by omega)] at g43
  simp (maxSteps := 1000000) (disch := omega) only [go_sem, Nat.reduceEqDiff, Nat.reduceLT, Nat.reduceAdd, Nat.reduceSub, Nat.reduceMul, Nat.reduceBEq, Int.reduceLT, Int.reduceAdd, Int.reduceMul, Int.reduceSub, Int.reduceToNat, Int.reduceLE, Int.reduceEq, ↓reduceIte, reduceCtorEq, Int.reduceNeg, Nat.reduceLeDiff,  b1, l1, len, t4, blkAt_lo]
  first | refine callB_intro (g17 _) ?_ | refine callD_intro (g17 _) ?_ | refine callP_intro (fun _ => (g17 _)) ?_ | refine callX_pure (g17 _) ?_
  simp (maxSteps := 1000000) (disch := omega) only [go_sem, Nat.reduceEqDiff, Nat.reduceLT, Nat.reduceAdd, Nat.reduceSub, Nat.reduceMul, Nat.reduceBEq, Int.reduceLT, Int.reduceAdd, Int.reduceMul, Int.reduceSub, Int.reduceToNat, Int.reduceLE, Int.reduceEq, ↓reduceIte, reduceCtorEq, Int.reduceNeg, Nat.reduceLeDiff,  b1, l1, len, t4, blkAt_lo]
  first | refine callB_intro (g38 _) ?_ | refine callD_intro (g38 _) ?_ | refine callP_intro (fun _ => (g38 _)) ?_ | refine callX_pure (g38 _) ?_
  simp (maxSteps := 1000000) (disch := omega) only [go_sem, Nat.reduceEqDiff, Nat.reduceLT, Nat.reduceAdd, Nat.reduceSub, Nat.reduceMul, Nat.reduceBEq, Int.reduceLT, Int.reduceAdd, Int.reduceMul, Int.reduceSub, Int.reduceToNat, Int.reduceLE, Int.reduceEq, ↓reduceIte, reduceCtorEq, Int.reduceNeg, Nat.reduceLeDiff,  b1, l1, len, t4, blkAt_lo, n5, n5']
  first | refine callB_intro (g42 _) ?_ | refine callD_intro (g42 _) ?_ | refine callP_intro (fun _ => (g42 _)) ?_ | refine callX_pure (g42 _) ?_
  simp (maxSteps := 1000000) (disch := omega) only [go_sem, Nat.reduceEqDiff, Nat.reduceLT, Nat.reduceAdd, Nat.reduceSub, Nat.reduceMul, Nat.reduceBEq, Int.reduceLT, Int.reduceAdd, Int.reduceMul, Int.reduceSub, Int.reduceToNat, Int.reduceLE, Int.reduceEq, ↓reduceIte, reduceCtorEq, Int.reduceNeg, Nat.reduceLeDiff,  b1, l1, len, t4, z3, blkAt_lo, n5, n5']
  first | refine callBE (g43 _) ?_ | refine callDE (g43 _) ?_ | refine callXE (g43 _) ?_
  rintro v Y hy ⟨w, rfl, r, off, cp, rfl, hr⟩
  have c1 := hy.blk b1
  have c2 := hy.blk b2
  have hqY := hy.blk hq
  simp (maxSteps := 1000000) (disch := omega) only [go_sem, Nat.reduceEqDiff, Nat.reduceLT, Nat.reduceAdd, Nat.reduceSub, Nat.reduceMul, Nat.reduceBEq, Int.reduceLT, Int.reduceAdd, Int.reduceMul, Int.reduceSub, Int.reduceToNat, Int.reduceLE, Int.reduceEq, ↓reduceIte, reduceCtorEq, Int.reduceNeg, Nat.reduceLeDiff,  c1, c2, len]
  have g44 := f44_any (c1 := none) (c2 := cp) (Sl.whole (o := true) hqY) hr (by omega) (by rw [w0_len]; omega)
  rw [ad, w0_len] at g44
  unfold rowres rowheap at g44
  simp only [lw] at g44
  first | refine callB_intro (g44) ?_ | refine callD_intro (g44) ?_ | refine callP_intro (fun _ => (g44)) ?_ | refine callX_pure (g44) ?_
  simp (maxSteps := 1000000) (disch := omega) only [go_sem, Nat.reduceEqDiff, Nat.reduceLT, Nat.reduceAdd, Nat.reduceSub, Nat.reduceMul, Nat.reduceBEq, Int.reduceLT, Int.reduceAdd, Int.reduceMul, Int.reduceSub, Int.reduceToNat, Int.reduceLE, Int.reduceEq, ↓reduceIte, reduceCtorEq, Int.reduceNeg, Nat.reduceLeDiff,  c1, c2, len]
  have l3 := blkAt_lt c2
  first | refine callBE (f45 he rfl (Sl.whole (o := false) (by rw [blkAt_app0]; rfl))) ?_ | refine callDE (f45 he rfl (Sl.whole (o := false) (by rw [blkAt_app0]; rfl))) ?_ | refine callXE (f45 he rfl (Sl.whole (o := false) (by rw [blkAt_app0]; rfl))) ?_
  rintro v Z hz ⟨f, rfl, hf, hfo, hff⟩
  have fullF : (AV.agg f.av).full = true := rfl
  have lenF : f.av.length = 29 := rfl
  have allF : f.av.all AV.cell = true := rfl
  have tkF : List.take 29 f.av = f.av := rfl
  have drpF : List.drop 29 f.av = [] := rfl
  have hYZ : Ext Y Z := (Ext.app _ _).trans hz
  have d2 := hYZ.blk c2
  have l4 := blkAt_lt d2
  have z29 : zEs.length = 29 := rfl
  have zd : List.drop 29 zEs = [] := rfl
  simp (maxSteps := 1000000) (disch := omega) only [go_sem, Nat.reduceEqDiff, Nat.reduceLT, Nat.reduceAdd, Nat.reduceSub, Nat.reduceMul, Nat.reduceBEq, Int.reduceLT, Int.reduceAdd, Int.reduceMul, Int.reduceSub, Int.reduceToNat, Int.reduceLE, Int.reduceEq, ↓reduceIte, reduceCtorEq, Int.reduceNeg, Nat.reduceLeDiff,  d2, l4, fullF, lenF, allF, tkF, drpF, z29, zd, blkAt_lo, set_lo]
  rw [List.length_append] at hff
  have lYX := hy.len
  refine fin_e (by simp) (by simp (maxSteps := 1000000) (disch := omega) only [resVal, resAll, resOne, rs21, Env.get, go_sem, Nat.reduceEqDiff, Nat.reduceLT, Nat.reduceAdd, Nat.reduceSub, Nat.reduceMul, Nat.reduceBEq, Int.reduceLT, Int.reduceAdd, Int.reduceMul, Int.reduceSub, Int.reduceToNat, Int.reduceLE, Int.reduceEq, ↓reduceIte, reduceCtorEq, Int.reduceNeg, Nat.reduceLeDiff, blkAt_set_self l4, blkAt_los] <;> rfl) ((((hX.trans hy).trans hYZ).set (b := H.length + 2) (by omega) _).to _) ⟨f, rfl, hf, (hfo.setF (b := H.length + 2) hff (by omega) _).app _⟩

/-! Parts that come: what is there. -/
theorem row8_len (D : List Int) (k : Nat) : (row8 D k).length = 8 := by simp [row8]
theorem pc_row8 (D : List Int) {n k : Nat} (hk : k < n) : List.take 8 (List.drop (k * 8) ((pc D n).map (AV.int .i64))) = (row8 D k).map (AV.int .i64) := by
  rw [← List.map_drop, ← List.map_take]
  congr 1
  apply List.ext_getElem?
  intro i
  by_cases hi : i < 8
  · rw [List.getElem?_take_of_lt hi, List.getElem?_drop, pc_get D (by omega)]
    unfold row8
    rw [List.getElem?_map, List.getElem?_range hi]
    simp only [Option.map_some]
    rw [show k * 8 + i = 8 * k + i by omega]
  · rw [List.getElem?_eq_none (by rw [List.length_take]; omega), List.getElem?_eq_none (by rw [row8_len]; omega)]
structure Got (a b c : Int) (D : List Int) (n : Nat) (A : Nat → Bool) (s : Sn) : Prop where
  ok : s.ok
  mrk : ((∀ j, j < n → A j = false) ∧ s = Sn.new 0 0 0 0) ∨ (s.a = a ∧ s.b = b ∧ s.c = c ∧ s.d = (D.length : Int))
  has : ∀ j, j < 5 → s.h.getD j false = A j
  part : ∀ j, j < n → A j = true → chunk s.p j = row8 D j
theorem Got.zero (a b c : Int) (D : List Int) (n : Nat) : Got a b c D n (fun _ => false) (Sn.new 0 0 0 0) :=
  ⟨Sn.new_ok _ _ _ _, .inl ⟨fun _ _ => rfl, rfl⟩, fun j _ => Sn.new_has 0 0 0 0 j, fun _ _ h => by cases h⟩
theorem mrkB_c0 {a b c d : Int} (h : mrkB a b c d = true) : 0 ≤ c := by
  unfold mrkB okM at h
  simp only [Bool.and_eq_true, decide_eq_true_eq] at h
  exact h.1.2.1
theorem Got.put {a b c : Int} {D : List Int} {n : Nat} {A : Nat → Bool} {s : Sn} (h : s.ok) (hn5 : n ≤ 5) {i : Nat} (hi : i < n) (ha : s.a = a ∧ s.b = b ∧ s.c = c ∧ s.d = (D.length : Int)) (hh : ∀ j, j < 5 → s.h.getD j false = A j) (hp : ∀ j, j < n → A j = true → chunk s.p j = row8 D j) :
    Got a b c D n (fun j => A j || decide (j = i)) (s.put i (row8 D i)) := by
  refine ⟨Sn.put_ok h (by omega) (row8_len D i), .inr ha, fun j hj => ?_, fun j hj hA => ?_⟩
  · rw [put_has h hj (by omega), hh j hj]
    by_cases e : j = i
    · simp [e]
    · simp [e]
  · have e1 : chunk (s.put i (row8 D i)).p j = if j = i then row8 D i else chunk s.p j := chunk_put h.p (row8_len D i) (by omega) (by omega)
    rw [e1]
    by_cases e : j = i
    · rw [if_pos e, e]
    · rw [if_neg e]
      exact hp j hj (by simpa [e] using hA)
theorem Got.step {a b c : Int} {D : List Int} {n : Nat} {A : Nat → Bool} {s : Sn} (h : Got a b c D n A s) (hm : mrkB a b c (D.length : Int) = true) (hn : (D.length + 7) / 8 = n) {i : Nat} (hi : i < n) :
    Got a b c D n (fun j => A j || decide (j = i)) (takeS s a b c (D.length : Int) (i : Int) (row8 D i)) := by
  have d39 := mrkB_d39 hm
  have c0 := mrkB_c0 hm
  have n5 : n ≤ 5 := by omega
  unfold takeS
  rw [if_pos ⟨hm, by omega, by omega⟩, Int.toNat_natCast]
  rcases h.mrk with ⟨h1, h2⟩ | h1
  · have z : s.a = 0 ∧ s.b = 0 ∧ s.c = 0 ∧ s.d = 0 := by rw [h2]; exact ⟨rfl, rfl, rfl, rfl⟩
    obtain ⟨z1, z2, z3, z4⟩ := z
    rw [if_neg (by rw [z4]; omega), if_neg (by rw [z3]; omega)]
    have hA : ∀ j, j < 5 → A j = false := fun j hj => by rw [← h.has j hj, h2]; exact Sn.new_has 0 0 0 0 j
    refine Got.put (Sn.new_ok _ _ _ _) n5 hi ⟨rfl, rfl, rfl, rfl⟩ (fun j hj => ?_) (fun j hj hj2 => ?_)
    · rw [Sn.new_has, hA j hj]
    · rw [hA j (by omega)] at hj2; cases hj2
  · obtain ⟨z1, z2, z3, z4⟩ := h1
    rw [if_pos ⟨z1.symm, z2.symm, z3.symm, z4.symm⟩]
    exact Got.put h.ok n5 hi ⟨z1, z2, z3, z4⟩ h.has h.part
theorem Got.congr {a b c : Int} {D : List Int} {n : Nat} {A B : Nat → Bool} {s : Sn} (h : Got a b c D n A s) (hAB : ∀ j, A j = B j) : Got a b c D n B s := by
  have : A = B := funext hAB
  rw [← this]
  exact h
theorem f21_bad {c0 c1 c2 c3 c4 c5 : Int} {s : Sn} {H : Heap} (hm : mayB c0 c1 c2 c3 c4 c5 = true) (hs : s.ok) (hk : mrkB s.a s.b s.c s.d = false) :
    ACallE Try.prog 21 [.agg [.int .i64 c0, .int .i64 c1, .int .i64 c2, .int .i64 c3, .int .i64 c4, .int .i64 c5], .agg s.av] H fun v H' => v = .tup [.agg zEs, .bool false] := by
  refine acallE (fun v Hf h => acallK21 (by simp) h) (acs_start ?_)
  have len := Sn.len hs
  have full := s.full
  have all := s.all
  have tk := Sn.tk hs
  have drp := Sn.drp hs
  have t4 : List.take 4 s.av = [.int .i64 s.a, .int .i64 s.b, .int .i64 s.c, .int .i64 s.d] := rfl
  have g17 := fun (G : Heap) => f17 (a := s.a) (b := s.b) (c := s.c) (d := s.d) (H := G)
  rw [hk] at g17
  unfold c21
  simp (maxSteps := 1000000) (disch := omega) only [go_sem, Nat.reduceEqDiff, Nat.reduceLT, Nat.reduceAdd, Nat.reduceSub, Nat.reduceMul, Nat.reduceBEq, Int.reduceLT, Int.reduceAdd, Int.reduceMul, Int.reduceSub, Int.reduceToNat, Int.reduceLE, Int.reduceEq, ↓reduceIte, reduceCtorEq, Int.reduceNeg, Nat.reduceLeDiff,  full, len, all, tk, drp]
  first | refine callBE (f31 hm) ?_ | refine callDE (f31 hm) ?_ | refine callXE (f31 hm) ?_
  rintro v X hx ⟨q, rfl, hq, hql⟩
  have hX : Ext H X := (Ext.app _ _).trans hx
  have b1 : blkAt X (H.length + 1) = some ⟨s.av, true⟩ := hx.blk (by simp only [go_sem, Nat.reduceEqDiff, Nat.reduceLT, Nat.reduceAdd, Nat.reduceSub, Nat.reduceMul, Nat.reduceBEq, Int.reduceLT, Int.reduceAdd, Int.reduceMul, Int.reduceSub, Int.reduceToNat, Int.reduceLE, Int.reduceEq, ↓reduceIte, reduceCtorEq, Int.reduceNeg, Nat.reduceLeDiff])
  have b2 : blkAt X (H.length + 2) = some ⟨zEs, true⟩ := hx.blk (by simp only [go_sem, Nat.reduceEqDiff, Nat.reduceLT, Nat.reduceAdd, Nat.reduceSub, Nat.reduceMul, Nat.reduceBEq, Int.reduceLT, Int.reduceAdd, Int.reduceMul, Int.reduceSub, Int.reduceToNat, Int.reduceLE, Int.reduceEq, ↓reduceIte, reduceCtorEq, Int.reduceNeg, Nat.reduceLeDiff]; rfl)
  have l1 := blkAt_lt b1
  have l2 := blkAt_lt b2
  simp (maxSteps := 1000000) (disch := omega) only [go_sem, Nat.reduceEqDiff, Nat.reduceLT, Nat.reduceAdd, Nat.reduceSub, Nat.reduceMul, Nat.reduceBEq, Int.reduceLT, Int.reduceAdd, Int.reduceMul, Int.reduceSub, Int.reduceToNat, Int.reduceLE, Int.reduceEq, ↓reduceIte, reduceCtorEq, Int.reduceNeg, Nat.reduceLeDiff,  b1, l1, len, t4, blkAt_lo]
  first | refine callB_intro (g17 _) ?_ | refine callD_intro (g17 _) ?_ | refine callP_intro (fun _ => (g17 _)) ?_ | refine callX_pure (g17 _) ?_
  have z29 : zEs.length = 29 := rfl
  have zd : List.drop 29 zEs = [] := rfl
  simp (maxSteps := 1000000) (disch := omega) only [go_sem, Nat.reduceEqDiff, Nat.reduceLT, Nat.reduceAdd, Nat.reduceSub, Nat.reduceMul, Nat.reduceBEq, Int.reduceLT, Int.reduceAdd, Int.reduceMul, Int.reduceSub, Int.reduceToNat, Int.reduceLE, Int.reduceEq, ↓reduceIte, reduceCtorEq, Int.reduceNeg, Nat.reduceLeDiff,  b1, l1, b2, l2, z29, zd]
  refine fin_e (by simp) (by simp (maxSteps := 1000000) (disch := omega) only [resVal, resAll, resOne, rs21, Env.get, go_sem, Nat.reduceEqDiff, Nat.reduceLT, Nat.reduceAdd, Nat.reduceSub, Nat.reduceMul, Nat.reduceBEq, Int.reduceLT, Int.reduceAdd, Int.reduceMul, Int.reduceSub, Int.reduceToNat, Int.reduceLE, Int.reduceEq, ↓reduceIte, reduceCtorEq, Int.reduceNeg, Nat.reduceLeDiff, blkAt_set_self l2] <;> rfl) (hX.set (by omega) _) rfl
/-- What is done with parts that came: nothing, or all. -/
theorem f21_got {c0 c1 c2 c3 c4 c5 a b c : Int} {e : Es} {s : Sn} {n : Nat} {A : Nat → Bool} {H : Heap} (hm : mayB c0 c1 c2 c3 c4 c5 = true) (he : estB e = true) (hk : mrkB a b c ((dlt e).length : Int) = true) (hn : ((dlt e).length + 7) / 8 = n) (hg : Got a b c (dlt e) n A s) (hA : ∃ j, j < n ∧ A j = false) :
    ACallE Try.prog 21 [.agg [.int .i64 c0, .int .i64 c1, .int .i64 c2, .int .i64 c3, .int .i64 c4, .int .i64 c5], .agg s.av] H fun v H' => v = .tup [.agg zEs, .bool false] := by
  have d39 := mrkB_d39 hk
  rcases hg.mrk with ⟨h1, h2⟩ | ⟨z1, z2, z3, z4⟩
  · refine f21_bad hm hg.ok ?_
    rw [h2]
    rfl
  · rw [← z1, ← z2, ← z3, ← z4] at hk
    obtain ⟨j, j1, j2⟩ := hA
    exact f21_no hm hg.ok hk ⟨j, by omega, by rw [hg.has j (by omega)]; exact j2⟩
theorem f21_all {c0 c1 c2 c3 c4 c5 a b c : Int} {e : Es} {s : Sn} {n : Nat} {A : Nat → Bool} {H : Heap} (hm : mayB c0 c1 c2 c3 c4 c5 = true) (he : estB e = true) (hk : mrkB a b c ((dlt e).length : Int) = true) (hn : ((dlt e).length + 7) / 8 = n) (hg : Got a b c (dlt e) n A s) (hA : ∀ j, j < n → A j = true) :
    ACallE Try.prog 21 [.agg [.int .i64 c0, .int .i64 c1, .int .i64 c2, .int .i64 c3, .int .i64 c4, .int .i64 c5], .agg s.av] H fun v H' => ∃ f : Es, v = .tup [.agg f.av, .bool true] ∧ f.eqv e ∧ f.ok H' := by
  have d39 := mrkB_d39 hk
  rcases hg.mrk with ⟨h1, h2⟩ | ⟨z1, z2, z3, z4⟩
  · have := h1 0 (by omega)
    rw [hA 0 (by omega)] at this
    cases this
  · rw [← z1, ← z2, ← z3, ← z4] at hk
    exact f21_yes hm he hg.ok hk z4 hn (fun j hj => by rw [hg.has j (by omega)]; exact hA j hj) (fun j hj => hg.part j hj (hA j hj))

/-! The law SnapMissing. -/
theorem set_same {H : Heap} {b : Nat} {k : Blk} (h : blkAt H b = some k) : H.set b (some k) = H := by
  have hl := blkAt_lt h
  apply List.ext_getElem?
  intro i
  by_cases e : b = i
  · subst e
    rw [List.getElem?_set_self hl]
    unfold blkAt at h
    rw [List.getElem?_eq_getElem hl] at h ⊢
    simp at h
    rw [h]
  · rw [List.getElem?_set_ne e]
theorem f9_loop {X0 : Heap} {b3 b4 b5 b11 q n o : Nat} {a b c : Int} {D : List Int} {fs : List Fr} {Q : Post} (h5 : blkAt X0 b5 = some ⟨[.int .i64 a, .int .i64 b, .int .i64 c, .int .i64 (D.length : Int)], true⟩) (hq : blkAt X0 q = some ⟨(pc D n).map (AV.int .i64), true⟩) (l11 : b11 < X0.length) (n5 : b11 ≠ b5) (nq : b11 ≠ q)
    (hm : mrkB a b c (D.length : Int) = true) (hn : (D.length + 7) / 8 = n) (ho : o < n)
    (hQ : ∀ s, Got a b c D n (fun j => decide (j < n) && decide (j ≠ o)) s → leave Try.prog 0 fs [(3, .ptr b3 0), (4, .ptr b4 0), (5, .ptr b5 0), (6, .int .i64 (o : Int)), (7, .bool true), (8, .sl q 0 n 8 none), (11, .ptr b11 0)] (X0.set b11 (some ⟨s.av, true⟩)) Q) :
    ∀ (r k : Nat) (s : Sn) (X : Heap), k + r = n → Got a b c D n (fun j => decide (j < k) && decide (j ≠ o)) s → X = X0.set b11 (some ⟨s.av, true⟩) → acs Try.prog (.lp c9l0 :: fs) [(3, .ptr b3 0), (4, .ptr b4 0), (5, .ptr b5 0), (6, .int .i64 (o : Int)), (7, .bool true), (8, .sl q 0 n 8 none), (11, .ptr b11 0), (12, .int .i64 (k : Int))] X Q := by
  have d39 := mrkB_d39 hm
  have e11 : ∀ x, blkAt (X0.set b11 x) b11 = x := fun x => blkAt_set_self l11 x
  have e5 : ∀ x, blkAt (X0.set b11 x) b5 = some ⟨[.int .i64 a, .int .i64 b, .int .i64 c, .int .i64 (D.length : Int)], true⟩ := fun x => (blkAt_set_ne n5 x).trans h5
  have eq : ∀ x, blkAt (X0.set b11 x) q = some ⟨(pc D n).map (AV.int .i64), true⟩ := fun x => (blkAt_set_ne nq x).trans hq
  have lpc : ((pc D n).map (AV.int .i64)).length = 8 * n := by rw [List.length_map, pc_len]
  intro r
  induction r with
  | zero =>
    intro k s X hk hg hX
    subst hX
    obtain rfl : k = n := by omega
    have hge : ¬ (k : Int) < (k : Int) := by omega
    rw [acs_lp]; conv in Fr.code c9l0 => unfold c9l0
    simp (maxSteps := 1000000) (disch := omega) only [go_sem, Nat.reduceEqDiff, Nat.reduceLT, Nat.reduceAdd, Nat.reduceSub, Nat.reduceMul, Nat.reduceBEq, Int.reduceLT, Int.reduceAdd, Int.reduceMul, Int.reduceSub, Int.reduceToNat, Int.reduceLE, Int.reduceEq, ↓reduceIte, reduceCtorEq, Int.reduceNeg, Nat.reduceLeDiff,  hge]
    exact hQ s hg
  | succ r ih =>
    intro k s X hk hg hX
    subst hX
    have hlt : (k : Int) < (n : Int) := by omega
    have k1 : (k : Int) + 1 = ((k + 1 : Nat) : Int) := by omega
    by_cases hko : k = o
    · subst hko
      have next := ih (k + 1) s _ (by omega) (hg.congr fun j => by
        by_cases e : j = k
        · simp [e]
        · have : (j < k + 1) = (j < k) := by simp; omega
          simp [e, this]) rfl
      rw [acs_lp]; conv in Fr.code c9l0 => unfold c9l0
      simp (maxSteps := 1000000) (disch := omega) only [go_sem, Nat.reduceEqDiff, Nat.reduceLT, Nat.reduceAdd, Nat.reduceSub, Nat.reduceMul, Nat.reduceBEq, Int.reduceLT, Int.reduceAdd, Int.reduceMul, Int.reduceSub, Int.reduceToNat, Int.reduceLE, Int.reduceEq, ↓reduceIte, reduceCtorEq, Int.reduceNeg, Nat.reduceLeDiff,  hlt, k1]
      exact next
    · have hko2 : ¬ (k : Int) = (o : Int) := by omega
      have hg2 := hg.step hm hn (i := k) (by omega)
      have next := ih (k + 1) _ _ (by omega) (hg2.congr fun j => by
        by_cases e : j = k
        · subst e; simp [hko]
        · have : (j < k + 1) = (j < k) := by simp; omega
          simp [e, this]) rfl
      have hs := hg.ok
      have len := Sn.len hs
      have full := s.full
      have all := s.all
      have tk := Sn.tk hs
      have drp := Sn.drp hs
      have lenT := Sn.len hg2.ok
      have fullT := (takeS s a b c (D.length : Int) (k : Int) (row8 D k)).full
      have allT := (takeS s a b c (D.length : Int) (k : Int) (row8 D k)).all
      have hrow := pc_row8 D (n := n) (k := k) (by omega)
      have hle : k * 8 + 8 ≤ 8 * n := by omega
      have allr := all_int (row8 D k)
      have g18 := fun (G : Heap) => f18 (a := a) (b := b) (c := c) (d := (D.length : Int)) (i := (k : Int)) (q := row8 D k) (H := G) hs (row8_len D k)
      generalize takeS s a b c (D.length : Int) (k : Int) (row8 D k) = s2 at *
      rw [acs_lp]; conv in Fr.code c9l0 => unfold c9l0
      simp (maxSteps := 1000000) (disch := omega) only [go_sem, Nat.reduceEqDiff, Nat.reduceLT, Nat.reduceAdd, Nat.reduceSub, Nat.reduceMul, Nat.reduceBEq, Int.reduceLT, Int.reduceAdd, Int.reduceMul, Int.reduceSub, Int.reduceToNat, Int.reduceLE, Int.reduceEq, ↓reduceIte, reduceCtorEq, Int.reduceNeg, Nat.reduceLeDiff,  hlt, hko2, e11, e5, eq, lpc, len, tk, all, hrow, hle, allr]
      first | refine callB_intro (g18 _) ?_ | refine callD_intro (g18 _) ?_ | refine callP_intro (fun _ => (g18 _)) ?_ | refine callX_pure (g18 _) ?_
      simp (maxSteps := 1000000) (disch := omega) only [go_sem, Nat.reduceEqDiff, Nat.reduceLT, Nat.reduceAdd, Nat.reduceSub, Nat.reduceMul, Nat.reduceBEq, Int.reduceLT, Int.reduceAdd, Int.reduceMul, Int.reduceSub, Int.reduceToNat, Int.reduceLE, Int.reduceEq, ↓reduceIte, reduceCtorEq, Int.reduceNeg, Nat.reduceLeDiff,  e11, e5, eq, len, lenT, fullT, allT, drp, k1, List.set_set]
      exact next

/-! The law SnapMissing, joined. -/
theorem Es.ok.fill {e : Es} {H : Heap} {b : Nat} (h : e.ok H) (hb : H[b]? = some none) (x : Option Blk) : e.ok (H.set b x) :=
  ⟨⟨h.ha.hx.fill hb x, h.ha.hp.fill hb x, h.ha.lx, h.ha.lp⟩, ⟨h.hb.hx.fill hb x, h.hb.hp.fill hb x, h.hb.lx, h.hb.lp⟩, ⟨h.hc.hx.fill hb x, h.hc.hp.fill hb x, h.hc.lx, h.hc.lp⟩⟩
def p9 (y0 y1 y2 y3 y4 y5 : Int) (e : Es) (l : List AV) : List AV := [.int .i64 y0, .int .i64 y1, .int .i64 y2, .int .i64 y3, .int .i64 y4, .int .i64 y5] ++ (e.av ++ l)
theorem p9_t6 (y0 y1 y2 y3 y4 y5 : Int) (e : Es) (l : List AV) : List.take 6 (p9 y0 y1 y2 y3 y4 y5 e l) = [.int .i64 y0, .int .i64 y1, .int .i64 y2, .int .i64 y3, .int .i64 y4, .int .i64 y5] := rfl
theorem p9_t29 (y0 y1 y2 y3 y4 y5 : Int) (e : Es) (l : List AV) : List.take 29 (List.drop 6 (p9 y0 y1 y2 y3 y4 y5 e l)) = e.av := rfl
theorem p9_d35 (y0 y1 y2 y3 y4 y5 : Int) (e : Es) (l : List AV) : List.drop 35 (p9 y0 y1 y2 y3 y4 y5 e l) = l := rfl
theorem p9_len (y0 y1 y2 y3 y4 y5 : Int) (e : Es) (l : List AV) : (p9 y0 y1 y2 y3 y4 y5 e l).length = 35 + l.length := by
  have : e.av.length = 29 := rfl
  unfold p9
  simp [this]
  omega
theorem f9 {y0 y1 y2 y3 y4 y5 a b c d out : Int} {e : Es} {H : Heap} (hok : e.ok H) : ACall Try.prog 9 [.agg (p9 y0 y1 y2 y3 y4 y5 e [.int .i64 a, .int .i64 b, .int .i64 c, .int .i64 d, .int .i64 out])] H (.bool true) H := by
  refine acall9 (by simp) (acs_start ?_)
  have full : (AV.agg e.av).full = true := rfl
  have len : e.av.length = 29 := rfl
  have all : e.av.all AV.cell = true := rfl
  have tk : List.take 29 e.av = e.av := rfl
  have drp : List.drop 29 e.av = [] := rfl
  have t6 := p9_t6 y0 y1 y2 y3 y4 y5 e [.int .i64 a, .int .i64 b, .int .i64 c, .int .i64 d, .int .i64 out]
  have t29 := p9_t29 y0 y1 y2 y3 y4 y5 e [.int .i64 a, .int .i64 b, .int .i64 c, .int .i64 d, .int .i64 out]
  have d35 := p9_d35 y0 y1 y2 y3 y4 y5 e [.int .i64 a, .int .i64 b, .int .i64 c, .int .i64 d, .int .i64 out]
  have lp : (p9 y0 y1 y2 y3 y4 y5 e [.int .i64 a, .int .i64 b, .int .i64 c, .int .i64 d, .int .i64 out]).length = 40 := p9_len _ _ _ _ _ _ _ _
  have ap : (p9 y0 y1 y2 y3 y4 y5 e [.int .i64 a, .int .i64 b, .int .i64 c, .int .i64 d, .int .i64 out]).all AV.cell = true := by unfold p9; rw [List.all_append, List.all_append, all]; rfl
  have fp : (AV.agg (p9 y0 y1 y2 y3 y4 y5 e [.int .i64 a, .int .i64 b, .int .i64 c, .int .i64 d, .int .i64 out])).full = true := ap
  have z39 : (p9 y0 y1 y2 y3 y4 y5 e [.int .i64 a, .int .i64 b, .int .i64 c, .int .i64 d, .int .i64 out])[39]? = some (.int .i64 out) := rfl
  have g14 := fun G => f14 (a := y0) (b := y1) (c := y2) (d := y3) (e := y4) (f := y5) (H := H ++ G)
  have g11 := fun G => f11 (hok.app G)
  generalize p9 y0 y1 y2 y3 y4 y5 e [.int .i64 a, .int .i64 b, .int .i64 c, .int .i64 d, .int .i64 out] = P9 at *
  unfold c9
  simp (maxSteps := 1000000) (disch := omega) only [go_sem, Nat.reduceEqDiff, Nat.reduceLT, Nat.reduceAdd, Nat.reduceSub, Nat.reduceMul, Nat.reduceBEq, Int.reduceLT, Int.reduceAdd, Int.reduceMul, Int.reduceSub, Int.reduceToNat, Int.reduceLE, Int.reduceEq, ↓reduceIte, reduceCtorEq, Int.reduceNeg, Nat.reduceLeDiff,  lp, ap, fp, t6, t29, d35, z39, full, len, all, tk, drp]
  first | refine callB_intro (f10) ?_ | refine callD_intro (f10) ?_ | refine callP_intro (fun _ => (f10)) ?_ | refine callX_pure (f10) ?_
  simp (maxSteps := 1000000) (disch := omega) only [go_sem, Nat.reduceEqDiff, Nat.reduceLT, Nat.reduceAdd, Nat.reduceSub, Nat.reduceMul, Nat.reduceBEq, Int.reduceLT, Int.reduceAdd, Int.reduceMul, Int.reduceSub, Int.reduceToNat, Int.reduceLE, Int.reduceEq, ↓reduceIte, reduceCtorEq, Int.reduceNeg, Nat.reduceLeDiff,  full, len, all, tk, drp]
  first | refine callB_intro (g14 _) ?_ | refine callD_intro (g14 _) ?_ | refine callP_intro (fun _ => (g14 _)) ?_ | refine callX_pure (g14 _) ?_
  cases hm : mayB y0 y1 y2 y3 y4 y5 with
  | false =>
    simp (maxSteps := 1000000) (disch := omega) only [go_sem, Nat.reduceEqDiff, Nat.reduceLT, Nat.reduceAdd, Nat.reduceSub, Nat.reduceMul, Nat.reduceBEq, Int.reduceLT, Int.reduceAdd, Int.reduceMul, Int.reduceSub, Int.reduceToNat, Int.reduceLE, Int.reduceEq, ↓reduceIte, reduceCtorEq, Int.reduceNeg, Nat.reduceLeDiff]
    exact fin_ext (by simp) (Ext.app _ _) (by simp (maxSteps := 1000000) (disch := omega) only [resVal, resAll, resOne, rs9, Env.get, go_sem, Nat.reduceEqDiff, Nat.reduceLT, Nat.reduceAdd, Nat.reduceSub, Nat.reduceMul, Nat.reduceBEq, Int.reduceLT, Int.reduceAdd, Int.reduceMul, Int.reduceSub, Int.reduceToNat, Int.reduceLE, Int.reduceEq, ↓reduceIte, reduceCtorEq, Int.reduceNeg, Nat.reduceLeDiff]) (by simp only [AV.und, AV.unds, and_self])
  | true =>
    simp (maxSteps := 1000000) (disch := omega) only [go_sem, Nat.reduceEqDiff, Nat.reduceLT, Nat.reduceAdd, Nat.reduceSub, Nat.reduceMul, Nat.reduceBEq, Int.reduceLT, Int.reduceAdd, Int.reduceMul, Int.reduceSub, Int.reduceToNat, Int.reduceLE, Int.reduceEq, ↓reduceIte, reduceCtorEq, Int.reduceNeg, Nat.reduceLeDiff,  full, len, all, tk, drp]
    first | refine callB_intro (g11 _) ?_ | refine callD_intro (g11 _) ?_ | refine callP_intro (fun _ => (g11 _)) ?_ | refine callX_pure (g11 _) ?_
    cases he : estB e with
    | false =>
      simp (maxSteps := 1000000) (disch := omega) only [go_sem, Nat.reduceEqDiff, Nat.reduceLT, Nat.reduceAdd, Nat.reduceSub, Nat.reduceMul, Nat.reduceBEq, Int.reduceLT, Int.reduceAdd, Int.reduceMul, Int.reduceSub, Int.reduceToNat, Int.reduceLE, Int.reduceEq, ↓reduceIte, reduceCtorEq, Int.reduceNeg, Nat.reduceLeDiff]
      exact fin_ext (by simp) (Ext.app _ _) (by simp (maxSteps := 1000000) (disch := omega) only [resVal, resAll, resOne, rs9, Env.get, go_sem, Nat.reduceEqDiff, Nat.reduceLT, Nat.reduceAdd, Nat.reduceSub, Nat.reduceMul, Nat.reduceBEq, Int.reduceLT, Int.reduceAdd, Int.reduceMul, Int.reduceSub, Int.reduceToNat, Int.reduceLE, Int.reduceEq, ↓reduceIte, reduceCtorEq, Int.reduceNeg, Nat.reduceLeDiff]) (by simp only [AV.und, AV.unds, and_self])
    | true =>
      simp (maxSteps := 1000000) (disch := omega) only [go_sem, Nat.reduceEqDiff, Nat.reduceLT, Nat.reduceAdd, Nat.reduceSub, Nat.reduceMul, Nat.reduceBEq, Int.reduceLT, Int.reduceAdd, Int.reduceMul, Int.reduceSub, Int.reduceToNat, Int.reduceLE, Int.reduceEq, ↓reduceIte, reduceCtorEq, Int.reduceNeg, Nat.reduceLeDiff,  full, len, all, tk, drp]
      first | refine callBE (f16 hm he (hok.app _)) ?_ | refine callDE (f16 hm he (hok.app _)) ?_ | refine callXE (f16 hm he (hok.app _)) ?_
      rintro v Y hy ⟨q, rfl, hq, hl⟩
      obtain ⟨D0, D1⟩ := dlt_len he
      obtain ⟨n, hn⟩ : ∃ n, ((dlt e).length + 7) / 8 = n := ⟨_, rfl⟩
      rw [hn] at hq ⊢
      have hHY : Ext H Y := (Ext.app _ _).trans hy
      have b3 : blkAt Y (H.length + 1) = some ⟨[.int .i64 y0, .int .i64 y1, .int .i64 y2, .int .i64 y3, .int .i64 y4, .int .i64 y5], true⟩ := hy.blk (by simp only [go_sem, Nat.reduceEqDiff, Nat.reduceLT, Nat.reduceAdd, Nat.reduceSub, Nat.reduceMul, Nat.reduceBEq, Int.reduceLT, Int.reduceAdd, Int.reduceMul, Int.reduceSub, Int.reduceToNat, Int.reduceLE, Int.reduceEq, ↓reduceIte, reduceCtorEq, Int.reduceNeg, Nat.reduceLeDiff])
      have b4 : blkAt Y (H.length + 2) = some ⟨e.av, true⟩ := hy.blk (by simp only [go_sem, Nat.reduceEqDiff, Nat.reduceLT, Nat.reduceAdd, Nat.reduceSub, Nat.reduceMul, Nat.reduceBEq, Int.reduceLT, Int.reduceAdd, Int.reduceMul, Int.reduceSub, Int.reduceToNat, Int.reduceLE, Int.reduceEq, ↓reduceIte, reduceCtorEq, Int.reduceNeg, Nat.reduceLeDiff])
      have b5 : blkAt Y (H.length + 3) = some ⟨[.int .i64 a, .int .i64 b, .int .i64 c, .int .i64 d], true⟩ := hy.blk (by simp only [go_sem, Nat.reduceEqDiff, Nat.reduceLT, Nat.reduceAdd, Nat.reduceSub, Nat.reduceMul, Nat.reduceBEq, Int.reduceLT, Int.reduceAdd, Int.reduceMul, Int.reduceSub, Int.reduceToNat, Int.reduceLE, Int.reduceEq, ↓reduceIte, reduceCtorEq, Int.reduceNeg, Nat.reduceLeDiff])
      have l5 := blkAt_lt b5
      have lq := blkAt_lt hq
      simp only [List.length_append, List.length_cons, List.length_nil] at hl
      have n0 : ¬ n = 0 := by omega
      have n0i : ¬ (n : Int) = 0 := by omega
      simp (maxSteps := 1000000) (disch := omega) only [go_sem, Nat.reduceEqDiff, Nat.reduceLT, Nat.reduceAdd, Nat.reduceSub, Nat.reduceMul, Nat.reduceBEq, Int.reduceLT, Int.reduceAdd, Int.reduceMul, Int.reduceSub, Int.reduceToNat, Int.reduceLE, Int.reduceEq, ↓reduceIte, reduceCtorEq, Int.reduceNeg, Nat.reduceLeDiff,  b3, b4, b5, l5, len, tk, n0, n0i]
      have hY5 : ∀ x, blkAt (Y.set (H.length + 3) x) (H.length + 3) = x := fun x => blkAt_set_self l5 x
      simp (maxSteps := 1000000) (disch := omega) only [go_sem, Nat.reduceEqDiff, Nat.reduceLT, Nat.reduceAdd, Nat.reduceSub, Nat.reduceMul, Nat.reduceBEq, Int.reduceLT, Int.reduceAdd, Int.reduceMul, Int.reduceSub, Int.reduceToNat, Int.reduceLE, Int.reduceEq, ↓reduceIte, reduceCtorEq, Int.reduceNeg, Nat.reduceLeDiff,  hY5]
      have hZ : Ext H (Y.set (H.length + 3) (some ⟨[.int .i64 a, .int .i64 b, .int .i64 c, .int .i64 ((dlt e).length : Int)], true⟩)) := hHY.set (by omega) _
      have c3 := (blkAt_set_ne (H := Y) (b := H.length + 3) (c := H.length + 1) (by omega) (some ⟨[.int .i64 a, .int .i64 b, .int .i64 c, .int .i64 ((dlt e).length : Int)], true⟩)).trans b3
      have c4 := (blkAt_set_ne (H := Y) (b := H.length + 3) (c := H.length + 2) (by omega) (some ⟨[.int .i64 a, .int .i64 b, .int .i64 c, .int .i64 ((dlt e).length : Int)], true⟩)).trans b4
      have c5 := hY5 (some ⟨[.int .i64 a, .int .i64 b, .int .i64 c, .int .i64 ((dlt e).length : Int)], true⟩)
      have cq := (blkAt_set_ne (H := Y) (b := H.length + 3) (c := q) (by omega) (some ⟨[.int .i64 a, .int .i64 b, .int .i64 c, .int .i64 ((dlt e).length : Int)], true⟩)).trans hq
      generalize Y.set (H.length + 3) (some ⟨[.int .i64 a, .int .i64 b, .int .i64 c, .int .i64 ((dlt e).length : Int)], true⟩) = Z at *
      have g19 := fun (G : Heap) => f19 (a := a) (b := b) (c := c) (d := ((dlt e).length : Int)) (H := G)
      first | refine callB_intro (g19 _) ?_ | refine callD_intro (g19 _) ?_ | refine callP_intro (fun _ => (g19 _)) ?_ | refine callX_pure (g19 _) ?_
      cases hk : mrkB a b c ((dlt e).length : Int) with
      | false =>
        simp (maxSteps := 1000000) (disch := omega) only [go_sem, Nat.reduceEqDiff, Nat.reduceLT, Nat.reduceAdd, Nat.reduceSub, Nat.reduceMul, Nat.reduceBEq, Int.reduceLT, Int.reduceAdd, Int.reduceMul, Int.reduceSub, Int.reduceToNat, Int.reduceLE, Int.reduceEq, ↓reduceIte, reduceCtorEq, Int.reduceNeg, Nat.reduceLeDiff]
        exact fin_ext (by simp) hZ (by simp (maxSteps := 1000000) (disch := omega) only [resVal, resAll, resOne, rs9, Env.get, go_sem, Nat.reduceEqDiff, Nat.reduceLT, Nat.reduceAdd, Nat.reduceSub, Nat.reduceMul, Nat.reduceBEq, Int.reduceLT, Int.reduceAdd, Int.reduceMul, Int.reduceSub, Int.reduceToNat, Int.reduceLE, Int.reduceEq, ↓reduceIte, reduceCtorEq, Int.reduceNeg, Nat.reduceLeDiff]) (by simp only [AV.und, AV.unds, and_self])
      | true =>
        by_cases o0 : out < 0
        · simp (maxSteps := 1000000) (disch := omega) only [go_sem, Nat.reduceEqDiff, Nat.reduceLT, Nat.reduceAdd, Nat.reduceSub, Nat.reduceMul, Nat.reduceBEq, Int.reduceLT, Int.reduceAdd, Int.reduceMul, Int.reduceSub, Int.reduceToNat, Int.reduceLE, Int.reduceEq, ↓reduceIte, reduceCtorEq, Int.reduceNeg, Nat.reduceLeDiff,  o0]
          exact fin_ext (by simp) hZ (by simp (maxSteps := 1000000) (disch := omega) only [resVal, resAll, resOne, rs9, Env.get, go_sem, Nat.reduceEqDiff, Nat.reduceLT, Nat.reduceAdd, Nat.reduceSub, Nat.reduceMul, Nat.reduceBEq, Int.reduceLT, Int.reduceAdd, Int.reduceMul, Int.reduceSub, Int.reduceToNat, Int.reduceLE, Int.reduceEq, ↓reduceIte, reduceCtorEq, Int.reduceNeg, Nat.reduceLeDiff]) (by simp only [AV.und, AV.unds, and_self])
        by_cases o1 : (n : Int) ≤ out
        · simp (maxSteps := 1000000) (disch := omega) only [go_sem, Nat.reduceEqDiff, Nat.reduceLT, Nat.reduceAdd, Nat.reduceSub, Nat.reduceMul, Nat.reduceBEq, Int.reduceLT, Int.reduceAdd, Int.reduceMul, Int.reduceSub, Int.reduceToNat, Int.reduceLE, Int.reduceEq, ↓reduceIte, reduceCtorEq, Int.reduceNeg, Nat.reduceLeDiff,  o0, o1]
          exact fin_ext (by simp) hZ (by simp (maxSteps := 1000000) (disch := omega) only [resVal, resAll, resOne, rs9, Env.get, go_sem, Nat.reduceEqDiff, Nat.reduceLT, Nat.reduceAdd, Nat.reduceSub, Nat.reduceMul, Nat.reduceBEq, Int.reduceLT, Int.reduceAdd, Int.reduceMul, Int.reduceSub, Int.reduceToNat, Int.reduceLE, Int.reduceEq, ↓reduceIte, reduceCtorEq, Int.reduceNeg, Nat.reduceLeDiff]) (by simp only [AV.und, AV.unds, and_self])
        obtain ⟨o, rfl⟩ : ∃ o : Nat, out = (o : Int) := ⟨out.toNat, by omega⟩
        have on : o < n := by omega
        have m3 := blkAt_lt c3
        have m4 := blkAt_lt c4
        have m5 := blkAt_lt c5
        have mq := blkAt_lt cq
        have d39 := mrkB_d39 hk
        simp (maxSteps := 1000000) (disch := omega) only [go_sem, Nat.reduceEqDiff, Nat.reduceLT, Nat.reduceAdd, Nat.reduceSub, Nat.reduceMul, Nat.reduceBEq, Int.reduceLT, Int.reduceAdd, Int.reduceMul, Int.reduceSub, Int.reduceToNat, Int.reduceLE, Int.reduceEq, ↓reduceIte, reduceCtorEq, Int.reduceNeg, Nat.reduceLeDiff,  o0, o1]
        refine f9_loop (X0 := _) (n := n) (D := dlt e) (a := a) (b := b) (c := c) (o := o) (by rw [blkAt_lo _ m5]; exact c5) (by rw [blkAt_lo _ mq]; exact cq) (by simp) (by omega) (by omega) hk hn on ?_ n 0 (Sn.new 0 0 0 0) _ (by omega) ((Got.zero a b c (dlt e) n).congr fun j => by simp) (set_same (by simp only [go_sem, Nat.reduceEqDiff, Nat.reduceLT, Nat.reduceAdd, Nat.reduceSub, Nat.reduceMul, Nat.reduceBEq, Int.reduceLT, Int.reduceAdd, Int.reduceMul, Int.reduceSub, Int.reduceToNat, Int.reduceLE, Int.reduceEq, ↓reduceIte, reduceCtorEq, Int.reduceNeg, Nat.reduceLeDiff]; rfl)).symm
        intro s hg
        have hs := hg.ok
        have lenS := Sn.len hs
        have fullS := s.full
        have allS := s.all
        have tkS := Sn.tk hs
        have hX0 : blkAt ((Z ++ [(some ⟨(Sn.new 0 0 0 0).av, true⟩ : Option Blk)]).set Z.length (some ⟨s.av, true⟩)) Z.length = some ⟨s.av, true⟩ := blkAt_set_self (by simp) _
        have lo : ∀ (b : Nat) (k : Blk), blkAt Z b = some k → blkAt ((Z ++ [(some ⟨(Sn.new 0 0 0 0).av, true⟩ : Option Blk)]).set Z.length (some ⟨s.av, true⟩)) b = some k := fun b k hb => by
          have := blkAt_lt hb
          rw [blkAt_set_ne (by omega), blkAt_lo _ this]
          exact hb
        have w3 := lo _ _ c3
        have w4 := lo _ _ c4
        have w5 := lo _ _ c5
        have wq := lo _ _ cq
        have hW : Ext H ((Z ++ [(some ⟨(Sn.new 0 0 0 0).av, true⟩ : Option Blk)]).set Z.length (some ⟨s.av, true⟩)) := (hZ.to _).set (by have := hZ.len; omega) _
        change leave Try.prog 0 _ _ ((Z ++ [(some ⟨(Sn.new 0 0 0 0).av, true⟩ : Option Blk)]).set Z.length (some ⟨s.av, true⟩)) _
        generalize (Z ++ [(some ⟨(Sn.new 0 0 0 0).av, true⟩ : Option Blk)]).set Z.length (some ⟨s.av, true⟩) = W at *
        generalize Z.length = b11 at *
        have hA : ∃ j, j < n ∧ (decide (j < n) && decide (j ≠ o)) = false := ⟨o, on, by simp⟩
        simp (maxSteps := 1000000) (disch := omega) only [go_sem, Nat.reduceEqDiff, Nat.reduceLT, Nat.reduceAdd, Nat.reduceSub, Nat.reduceMul, Nat.reduceBEq, Int.reduceLT, Int.reduceAdd, Int.reduceMul, Int.reduceSub, Int.reduceToNat, Int.reduceLE, Int.reduceEq, ↓reduceIte, reduceCtorEq, Int.reduceNeg, Nat.reduceLeDiff,  w3, hX0, lenS, tkS, allS]
        first | refine callBE (f21_got hm he hk hn hg hA) ?_ | refine callDE (f21_got hm he hk hn hg hA) ?_ | refine callXE (f21_got hm he hk hn hg hA) ?_
        rintro v V hv rfl
        have fullZ : (AV.agg zEs).full = true := rfl
        have lenZ : zEs.length = 29 := rfl
        have allZ : zEs.all AV.cell = true := rfl
        have v3 := hv.blk w3
        have v4 := hv.blk w4
        have v5 := hv.blk w5
        have vq := hv.blk wq
        have v11 := hv.blk hX0
        have n3 := blkAt_lt v3
        have n4 := blkAt_lt v4
        have n5 := blkAt_lt v5
        have nq := blkAt_lt vq
        have n11 := blkAt_lt v11
        have hrow := pc_row8 (dlt e) (n := n) (k := o) on
        have hle : o * 8 + 8 ≤ 8 * n := by omega
        have lpc : ((pc (dlt e) n).map (AV.int .i64)).length = 8 * n := by rw [List.length_map, pc_len]
        have allr := all_int (row8 (dlt e) o)
        have oi : (o : Int) < (n : Int) := by omega
        have hg2 := hg.step hk hn on
        have lenT := Sn.len hg2.ok
        have fullT := (takeS s a b c ((dlt e).length : Int) (o : Int) (row8 (dlt e) o)).full
        have allT := (takeS s a b c ((dlt e).length : Int) (o : Int) (row8 (dlt e) o)).all
        have g18 := fun (G : Heap) => f18 (a := a) (b := b) (c := c) (d := ((dlt e).length : Int)) (i := (o : Int)) (q := row8 (dlt e) o) (H := G) hs (row8_len (dlt e) o)
        have hA2 : ∀ j, j < n → ((decide (j < n) && decide (j ≠ o)) || decide (j = o)) = true := fun j hj => by
          by_cases e : j = o
          · simp [e]
          · simp [e, hj]
        generalize takeS s a b c ((dlt e).length : Int) (o : Int) (row8 (dlt e) o) = s2 at *
        simp (maxSteps := 1000000) (disch := omega) only [go_sem, Nat.reduceEqDiff, Nat.reduceLT, Nat.reduceAdd, Nat.reduceSub, Nat.reduceMul, Nat.reduceBEq, Int.reduceLT, Int.reduceAdd, Int.reduceMul, Int.reduceSub, Int.reduceToNat, Int.reduceLE, Int.reduceEq, ↓reduceIte, reduceCtorEq, Int.reduceNeg, Nat.reduceLeDiff,  v3, v4, v5, vq, v11, n3, n4, n5, nq, n11, fullZ, lenZ, allZ, lenS, tkS, allS, hrow, hle, lpc, allr, oi, blkAt_lo]
        first | refine callB_intro (g18 _) ?_ | refine callD_intro (g18 _) ?_ | refine callP_intro (fun _ => (g18 _)) ?_ | refine callX_pure (g18 _) ?_
        simp (maxSteps := 1000000) (disch := omega) only [go_sem, Nat.reduceEqDiff, Nat.reduceLT, Nat.reduceAdd, Nat.reduceSub, Nat.reduceMul, Nat.reduceBEq, Int.reduceLT, Int.reduceAdd, Int.reduceMul, Int.reduceSub, Int.reduceToNat, Int.reduceLE, Int.reduceEq, ↓reduceIte, reduceCtorEq, Int.reduceNeg, Nat.reduceLeDiff,  fullT, lenT, allT]
        first | refine callBE (f21_all hm he hk hn hg2 hA2) ?_ | refine callDE (f21_all hm he hk hn hg2 hA2) ?_ | refine callXE (f21_all hm he hk hn hg2 hA2) ?_
        rintro v U ⟨G, rfl⟩ ⟨f, rfl, hf, hfo⟩
        have fullF : (AV.agg f.av).full = true := rfl
        have lenF : f.av.length = 29 := rfl
        have allF : f.av.all AV.cell = true := rfl
        have tkF : List.take 29 f.av = f.av := rfl
        have drpF : List.drop 29 f.av = [] := rfl
        have hF := fun x => hfo.fill (b := V.length + 1) (by simp) x
        simp only [go_sem, Nat.reduceEqDiff, Nat.reduceLT, Nat.reduceAdd, Nat.reduceSub, Nat.reduceMul, Nat.reduceBEq, Int.reduceLT, Int.reduceAdd, Int.reduceMul, Int.reduceSub, Int.reduceToNat, Int.reduceLE, Int.reduceEq, ↓reduceIte, reduceCtorEq, Int.reduceNeg, Nat.reduceLeDiff] at hF
        have okE := hok.ext (hW.trans hv)
        have g13 := fun (G2 : Heap) (h : f.ok (V ++ G2)) => f13 (H := V ++ G2) h (okE.app G2) hf
        simp (maxSteps := 1000000) (disch := omega) only [go_sem, Nat.reduceEqDiff, Nat.reduceLT, Nat.reduceAdd, Nat.reduceSub, Nat.reduceMul, Nat.reduceBEq, Int.reduceLT, Int.reduceAdd, Int.reduceMul, Int.reduceSub, Int.reduceToNat, Int.reduceLE, Int.reduceEq, ↓reduceIte, reduceCtorEq, Int.reduceNeg, Nat.reduceLeDiff,  v4, n4, fullF, lenF, allF, tkF, drpF, len, tk, all, blkAt_lo]
        first | refine callB_intro (g13 _ (hF _)) ?_ | refine callD_intro (g13 _ (hF _)) ?_ | refine callP_intro (fun _ => (g13 _ (hF _))) ?_ | refine callX_pure (g13 _ (hF _)) ?_
        simp (maxSteps := 1000000) (disch := omega) only [go_sem, Nat.reduceEqDiff, Nat.reduceLT, Nat.reduceAdd, Nat.reduceSub, Nat.reduceMul, Nat.reduceBEq, Int.reduceLT, Int.reduceAdd, Int.reduceMul, Int.reduceSub, Int.reduceToNat, Int.reduceLE, Int.reduceEq, ↓reduceIte, reduceCtorEq, Int.reduceNeg, Nat.reduceLeDiff]
        exact fin_ext (by simp) ((hW.trans hv).to _) (by simp (maxSteps := 1000000) (disch := omega) only [resVal, resAll, resOne, rs9, Env.get, go_sem, Nat.reduceEqDiff, Nat.reduceLT, Nat.reduceAdd, Nat.reduceSub, Nat.reduceMul, Nat.reduceBEq, Int.reduceLT, Int.reduceAdd, Int.reduceMul, Int.reduceSub, Int.reduceToNat, Int.reduceLE, Int.reduceEq, ↓reduceIte, reduceCtorEq, Int.reduceNeg, Nat.reduceLeDiff]) (by simp only [AV.und, AV.unds, and_self])
end Go.Proofs.Ytbjlbcihhleclaa.Ah
