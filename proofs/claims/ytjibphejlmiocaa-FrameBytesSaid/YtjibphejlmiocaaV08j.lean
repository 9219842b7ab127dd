/- V08j: a part of the proof: contracts of functions, or plain laws. Conditions: none. -/
import Derived.Test.YtjibphejlmiocaaV08h
namespace Go.Proofs.Ytjibphejlmiocaa.Ah
open Go Go.WideShapes
attribute [local irreducible] acs aopsK drawK leave condK bindR bindD bindX guardK guardD callB callD callX callP callPv rfunG rfunK yldB yldD
attribute [local go_sem] acs_nil acs_blk acs_skip acs_reg acs_dreg acs_freg acs_nam0 acs_nam nones acs_seq acs_cond acs_block acs_exit acs_ret acs_kl acs_loop leave_nil leave_code leave_lp leave_blk aopsK_nil aopsK_cons aopsK_guard bindR_val bindR_need bindR_br bindR_call bindR_ycall acs_rfun rfunG_fn bindR_bad drawK_nil drawK_cons drawK_ext drawK_pur drawK_guard callPv_fn drawK_purv bindD_val bindD_need bindD_br bindD_call bindD_ycall bindD_bad bindX_val bindX_need bindX_br bindX_call guardD_bool guardD_tup grows grows0 List.append_cancel_left_eq List.cons.injEq exists_eq' exists_eq condK_bool guardK_bool guardK_tup sor r0 r1 r2 r3 rC rB rI rP rA rT rS rF rSl rO rbin rcut run1 Env.evals Env.eval Env.get Env.put Env.ins Env.del Env.dels argEnv AV.full AV.cells AV.cell eqCells decide_true decide_false decide_eq_true_eq decide_eq_false_iff_not Bool.not_eq_true' Bool.not_eq_false' true_and and_true false_implies true_implies forall_const Bool.not_true Bool.not_false Bool.false_eq_true Bool.true_eq_false List.getElem?_cons_zero List.getElem?_cons_succ List.length_cons List.length_nil List.length_append List.all_cons List.all_nil Bool.and_true Bool.and_self implies_true List.append_assoc List.cons_append List.nil_append List.append_nil i64_in imin_eq imax_eq cast3 cast0 cast1 cast2 Option.map_none ite_self and_false false_and Option.isSome_some or_true true_or Int.sub_zero Int.mul_one Nat.sub_zero Nat.zero_le Int.cast_ofNat_Int Int.natCast_nonneg Int.toNat_natCast ne_eq not_false_eq_true not_true_eq_false strC blkAt_app blkAt_app0 blkAt_zero blkAt_succ List.set_cons_zero List.set_cons_succ set_app set_app0 Option.map_some Option.bind_some rd setCells lay rdS szOk rapp ownAt lenAt Option.any_some Option.getD_some List.drop_zero List.drop_succ_cons List.take_succ_cons List.take_zero List.drop_nil List.take_nil Nat.lt_irrefl Nat.zero_add Nat.add_zero Nat.mul_one Nat.one_mul Nat.add_assoc Option.some.injEq eq_self
set_option maxHeartbeats 4000000
set_option linter.unusedSimpArgs false
set_option linter.unusedVariables false
/-! A sample as words. -/
structure Smp where
  m : Bool
  g0 : Int
  g1 : Int
  g2 : Int
  a0 : Int
  a1 : Int
  a2 : Int
  hb : Bool
  b : Int
  hg : Bool
  n0 : Int
  n1 : Int
  n2 : Int
  deriving DecidableEq
def Smp.av (s : Smp) : List AV := [.bool s.m, .int .i64 s.g0, .int .i64 s.g1, .int .i64 s.g2, .int .i64 s.a0, .int .i64 s.a1, .int .i64 s.a2, .bool s.hb, .int .i64 s.b, .bool s.hg, .int .i64 s.n0, .int .i64 s.n1, .int .i64 s.n2]
def one (b : Bool) : Int := if b then 1 else 0
def pk (s : Smp) : List Int := [one s.m, s.g0, s.g1, s.g2, s.a0, s.a1, s.a2, one s.hb, s.b, one s.hg, s.n0, s.n1, s.n2]
theorem f32 (b : Bool) (H : Heap) : ACall Try.prog 32 [.bool b] H (.int .i64 (one b)) H := by
  refine acall32 (by simp) (acs_start ?_)
  unfold c32 one
  cases b
  · simp (maxSteps := 1000000) (disch := omega) only [go_sem, Nat.reduceEqDiff, Nat.reduceLT, Nat.reduceAdd, Nat.reduceSub, Nat.reduceMul, Nat.reduceBEq, Int.reduceLT, Int.reduceAdd, Int.reduceMul, Int.reduceSub, Int.reduceToNat, Int.reduceLE, Int.reduceEq, ↓reduceIte, reduceCtorEq, Int.reduceNeg, Nat.reduceLeDiff]
    exact fin_same (by simp) _ (by first | exact (List.append_nil _).symm | rfl) (by simp (maxSteps := 1000000) (disch := omega) only [resVal, resAll, resOne, rs32, Env.get, go_sem, Nat.reduceEqDiff, Nat.reduceLT, Nat.reduceAdd, Nat.reduceSub, Nat.reduceMul, Nat.reduceBEq, Int.reduceLT, Int.reduceAdd, Int.reduceMul, Int.reduceSub, Int.reduceToNat, Int.reduceLE, Int.reduceEq, ↓reduceIte, reduceCtorEq, Int.reduceNeg, Nat.reduceLeDiff]) (by simp only [AV.und, AV.unds, and_self])
  · simp (maxSteps := 1000000) (disch := omega) only [go_sem, Nat.reduceEqDiff, Nat.reduceLT, Nat.reduceAdd, Nat.reduceSub, Nat.reduceMul, Nat.reduceBEq, Int.reduceLT, Int.reduceAdd, Int.reduceMul, Int.reduceSub, Int.reduceToNat, Int.reduceLE, Int.reduceEq, ↓reduceIte, reduceCtorEq, Int.reduceNeg, Nat.reduceLeDiff]
    exact fin_same (by simp) _ (by first | exact (List.append_nil _).symm | rfl) (by simp (maxSteps := 1000000) (disch := omega) only [resVal, resAll, resOne, rs32, Env.get, go_sem, Nat.reduceEqDiff, Nat.reduceLT, Nat.reduceAdd, Nat.reduceSub, Nat.reduceMul, Nat.reduceBEq, Int.reduceLT, Int.reduceAdd, Int.reduceMul, Int.reduceSub, Int.reduceToNat, Int.reduceLE, Int.reduceEq, ↓reduceIte, reduceCtorEq, Int.reduceNeg, Nat.reduceLeDiff]) (by simp only [AV.und, AV.unds, and_self])
theorem f19 (s : Smp) (H : Heap) : ACallE Try.prog 19 [.agg s.av] H fun v H' => Rw i64 H' v (pk s) := by
  refine acallE (fun v Hf h => acallK19 (by simp) h) (acs_start ?_)
  have g0 := f32 s.m
  have g1 := f32 s.hb
  have g2 := f32 s.hg
  unfold Smp.av
  unfold c19
  simp (maxSteps := 1000000) (disch := omega) only [go_sem, Nat.reduceEqDiff, Nat.reduceLT, Nat.reduceAdd, Nat.reduceSub, Nat.reduceMul, Nat.reduceBEq, Int.reduceLT, Int.reduceAdd, Int.reduceMul, Int.reduceSub, Int.reduceToNat, Int.reduceLE, Int.reduceEq, ↓reduceIte, reduceCtorEq, Int.reduceNeg, Nat.reduceLeDiff]
  first | refine callB_intro (g0 _) ?_ | refine callD_intro (g0 _) ?_ | refine callP_intro (fun _ => (g0 _)) ?_ | refine callX_pure (g0 _) ?_
  simp (maxSteps := 1000000) (disch := omega) only [go_sem, Nat.reduceEqDiff, Nat.reduceLT, Nat.reduceAdd, Nat.reduceSub, Nat.reduceMul, Nat.reduceBEq, Int.reduceLT, Int.reduceAdd, Int.reduceMul, Int.reduceSub, Int.reduceToNat, Int.reduceLE, Int.reduceEq, ↓reduceIte, reduceCtorEq, Int.reduceNeg, Nat.reduceLeDiff]
  rw [acs_lp]; conv in Fr.code c19l2 => unfold c19l2
  simp (maxSteps := 1000000) (disch := omega) only [go_sem, Nat.reduceEqDiff, Nat.reduceLT, Nat.reduceAdd, Nat.reduceSub, Nat.reduceMul, Nat.reduceBEq, Int.reduceLT, Int.reduceAdd, Int.reduceMul, Int.reduceSub, Int.reduceToNat, Int.reduceLE, Int.reduceEq, ↓reduceIte, reduceCtorEq, Int.reduceNeg, Nat.reduceLeDiff]
  rw [acs_lp]; conv in Fr.code c19l2 => unfold c19l2
  simp (maxSteps := 1000000) (disch := omega) only [go_sem, Nat.reduceEqDiff, Nat.reduceLT, Nat.reduceAdd, Nat.reduceSub, Nat.reduceMul, Nat.reduceBEq, Int.reduceLT, Int.reduceAdd, Int.reduceMul, Int.reduceSub, Int.reduceToNat, Int.reduceLE, Int.reduceEq, ↓reduceIte, reduceCtorEq, Int.reduceNeg, Nat.reduceLeDiff]
  rw [acs_lp]; conv in Fr.code c19l2 => unfold c19l2
  simp (maxSteps := 1000000) (disch := omega) only [go_sem, Nat.reduceEqDiff, Nat.reduceLT, Nat.reduceAdd, Nat.reduceSub, Nat.reduceMul, Nat.reduceBEq, Int.reduceLT, Int.reduceAdd, Int.reduceMul, Int.reduceSub, Int.reduceToNat, Int.reduceLE, Int.reduceEq, ↓reduceIte, reduceCtorEq, Int.reduceNeg, Nat.reduceLeDiff]
  rw [acs_lp]; conv in Fr.code c19l2 => unfold c19l2
  simp (maxSteps := 1000000) (disch := omega) only [go_sem, Nat.reduceEqDiff, Nat.reduceLT, Nat.reduceAdd, Nat.reduceSub, Nat.reduceMul, Nat.reduceBEq, Int.reduceLT, Int.reduceAdd, Int.reduceMul, Int.reduceSub, Int.reduceToNat, Int.reduceLE, Int.reduceEq, ↓reduceIte, reduceCtorEq, Int.reduceNeg, Nat.reduceLeDiff]
  rw [acs_lp]; conv in Fr.code c19l1 => unfold c19l1
  simp (maxSteps := 1000000) (disch := omega) only [go_sem, Nat.reduceEqDiff, Nat.reduceLT, Nat.reduceAdd, Nat.reduceSub, Nat.reduceMul, Nat.reduceBEq, Int.reduceLT, Int.reduceAdd, Int.reduceMul, Int.reduceSub, Int.reduceToNat, Int.reduceLE, Int.reduceEq, ↓reduceIte, reduceCtorEq, Int.reduceNeg, Nat.reduceLeDiff]
  rw [acs_lp]; conv in Fr.code c19l1 => unfold c19l1
  simp (maxSteps := 1000000) (disch := omega) only [go_sem, Nat.reduceEqDiff, Nat.reduceLT, Nat.reduceAdd, Nat.reduceSub, Nat.reduceMul, Nat.reduceBEq, Int.reduceLT, Int.reduceAdd, Int.reduceMul, Int.reduceSub, Int.reduceToNat, Int.reduceLE, Int.reduceEq, ↓reduceIte, reduceCtorEq, Int.reduceNeg, Nat.reduceLeDiff]
  rw [acs_lp]; conv in Fr.code c19l1 => unfold c19l1
  simp (maxSteps := 1000000) (disch := omega) only [go_sem, Nat.reduceEqDiff, Nat.reduceLT, Nat.reduceAdd, Nat.reduceSub, Nat.reduceMul, Nat.reduceBEq, Int.reduceLT, Int.reduceAdd, Int.reduceMul, Int.reduceSub, Int.reduceToNat, Int.reduceLE, Int.reduceEq, ↓reduceIte, reduceCtorEq, Int.reduceNeg, Nat.reduceLeDiff]
  rw [acs_lp]; conv in Fr.code c19l1 => unfold c19l1
  simp (maxSteps := 1000000) (disch := omega) only [go_sem, Nat.reduceEqDiff, Nat.reduceLT, Nat.reduceAdd, Nat.reduceSub, Nat.reduceMul, Nat.reduceBEq, Int.reduceLT, Int.reduceAdd, Int.reduceMul, Int.reduceSub, Int.reduceToNat, Int.reduceLE, Int.reduceEq, ↓reduceIte, reduceCtorEq, Int.reduceNeg, Nat.reduceLeDiff]
  first | refine callB_intro (g1 _) ?_ | refine callD_intro (g1 _) ?_ | refine callP_intro (fun _ => (g1 _)) ?_ | refine callX_pure (g1 _) ?_
  simp (maxSteps := 1000000) (disch := omega) only [go_sem, Nat.reduceEqDiff, Nat.reduceLT, Nat.reduceAdd, Nat.reduceSub, Nat.reduceMul, Nat.reduceBEq, Int.reduceLT, Int.reduceAdd, Int.reduceMul, Int.reduceSub, Int.reduceToNat, Int.reduceLE, Int.reduceEq, ↓reduceIte, reduceCtorEq, Int.reduceNeg, Nat.reduceLeDiff]
  first | refine callB_intro (g2 _) ?_ | refine callD_intro (g2 _) ?_ | refine callP_intro (fun _ => (g2 _)) ?_ | refine callX_pure (g2 _) ?_
  simp (maxSteps := 1000000) (disch := omega) only [go_sem, Nat.reduceEqDiff, Nat.reduceLT, Nat.reduceAdd, Nat.reduceSub, Nat.reduceMul, Nat.reduceBEq, Int.reduceLT, Int.reduceAdd, Int.reduceMul, Int.reduceSub, Int.reduceToNat, Int.reduceLE, Int.reduceEq, ↓reduceIte, reduceCtorEq, Int.reduceNeg, Nat.reduceLeDiff]
  rw [acs_lp]; conv in Fr.code c19l0 => unfold c19l0
  simp (maxSteps := 1000000) (disch := omega) only [go_sem, Nat.reduceEqDiff, Nat.reduceLT, Nat.reduceAdd, Nat.reduceSub, Nat.reduceMul, Nat.reduceBEq, Int.reduceLT, Int.reduceAdd, Int.reduceMul, Int.reduceSub, Int.reduceToNat, Int.reduceLE, Int.reduceEq, ↓reduceIte, reduceCtorEq, Int.reduceNeg, Nat.reduceLeDiff]
  rw [acs_lp]; conv in Fr.code c19l0 => unfold c19l0
  simp (maxSteps := 1000000) (disch := omega) only [go_sem, Nat.reduceEqDiff, Nat.reduceLT, Nat.reduceAdd, Nat.reduceSub, Nat.reduceMul, Nat.reduceBEq, Int.reduceLT, Int.reduceAdd, Int.reduceMul, Int.reduceSub, Int.reduceToNat, Int.reduceLE, Int.reduceEq, ↓reduceIte, reduceCtorEq, Int.reduceNeg, Nat.reduceLeDiff]
  rw [acs_lp]; conv in Fr.code c19l0 => unfold c19l0
  simp (maxSteps := 1000000) (disch := omega) only [go_sem, Nat.reduceEqDiff, Nat.reduceLT, Nat.reduceAdd, Nat.reduceSub, Nat.reduceMul, Nat.reduceBEq, Int.reduceLT, Int.reduceAdd, Int.reduceMul, Int.reduceSub, Int.reduceToNat, Int.reduceLE, Int.reduceEq, ↓reduceIte, reduceCtorEq, Int.reduceNeg, Nat.reduceLeDiff]
  rw [acs_lp]; conv in Fr.code c19l0 => unfold c19l0
  simp (maxSteps := 1000000) (disch := omega) only [go_sem, Nat.reduceEqDiff, Nat.reduceLT, Nat.reduceAdd, Nat.reduceSub, Nat.reduceMul, Nat.reduceBEq, Int.reduceLT, Int.reduceAdd, Int.reduceMul, Int.reduceSub, Int.reduceToNat, Int.reduceLE, Int.reduceEq, ↓reduceIte, reduceCtorEq, Int.reduceNeg, Nat.reduceLeDiff]
  refine fin_e (by simp) (by simp (maxSteps := 1000000) (disch := omega) only [resVal, resAll, resOne, rs19, Env.get, go_sem, Nat.reduceEqDiff, Nat.reduceLT, Nat.reduceAdd, Nat.reduceSub, Nat.reduceMul, Nat.reduceBEq, Int.reduceLT, Int.reduceAdd, Int.reduceMul, Int.reduceSub, Int.reduceToNat, Int.reduceLE, Int.reduceEq, ↓reduceIte, reduceCtorEq, Int.reduceNeg, Nat.reduceLeDiff, ] <;> rfl) ⟨_, rfl⟩ ⟨_, _, _, rfl, Sl.whole (o := true) (by simp only [go_sem, Nat.reduceEqDiff, Nat.reduceLT, Nat.reduceAdd, Nat.reduceSub, Nat.reduceMul, Nat.reduceBEq, Int.reduceLT, Int.reduceAdd, Int.reduceMul, Int.reduceSub, Int.reduceToNat, Int.reduceLE, Int.reduceEq, ↓reduceIte, reduceCtorEq, Int.reduceNeg, Nat.reduceLeDiff]; rfl)⟩
/-! What is laid behind, through a pointer. -/
def Out (b q : Nat) (ws : List Int) (H : Heap) : Prop := b < H.length ∧ b ≠ q ∧ ((ws = [] ∧ blkAt H b = some ⟨[.nils], true⟩) ∨ (blkAt H b = some ⟨[.sl q 0 ws.length 1 none], true⟩ ∧ blkAt H q = some ⟨ws.map i64, true⟩))
def Keep2 (n b q : Nat) (H H' : Heap) : Prop := n ≤ H'.length ∧ ∀ p, p < n → p ≠ b → p ≠ q → H'[p]? = H[p]?
theorem Keep2.refl {n b q : Nat} {H : Heap} (h : n ≤ H.length) : Keep2 n b q H H := ⟨h, fun _ _ _ _ => rfl⟩
theorem Keep2.set {n b q : Nat} {H H' : Heap} (h : Keep2 n b q H H') {c : Nat} (hc : c = b ∨ c = q ∨ n ≤ c) (x : Option Blk) : Keep2 n b q H (H'.set c x) := by
  refine ⟨by simpa using h.1, fun p h1 h2 h3 => ?_⟩
  rw [List.getElem?_set_ne (by rcases hc with rfl | rfl | hc <;> omega)]
  exact h.2 p h1 h2 h3
theorem Keep2.app {n b q : Nat} {H H' : Heap} (h : Keep2 n b q H H') (G : Heap) : Keep2 n b q H (H' ++ G) := by
  refine ⟨by have := h.1; simp; omega, fun p h1 h2 h3 => ?_⟩
  rw [List.getElem?_append_left (by have := h.1; omega)]
  exact h.2 p h1 h2 h3
theorem Keep2.blk {n b q : Nat} {H H' : Heap} (h : Keep2 n b q H H') {p : Nat} (h1 : p < n) (h2 : p ≠ b) (h3 : p ≠ q) : blkAt H' p = blkAt H p := by
  unfold blkAt
  rw [h.2 p h1 h2 h3]
theorem ext_of_get {H H' : Heap} (hl : H.length ≤ H'.length) (h : ∀ p, p < H.length → H'[p]? = H[p]?) : Ext H H' := by
  refine ⟨H'.drop H.length, ?_⟩
  refine List.ext_getElem? fun p => ?_
  by_cases hp : p < H.length
  · rw [List.getElem?_append_left hp, h p hp]
  · rw [List.getElem?_append_right (by omega), List.getElem?_drop]
    congr 1
    omega
theorem blkAt_setapp {H G : Heap} {q k : Nat} {x : Option Blk} : blkAt (H.set q x ++ G) (H.length + k) = blkAt G k := by
  have := blkAt_app (H.set q x) G k
  rwa [List.length_set] at this
/-- One word. -/
theorem f29 {t : Bool} {b q : Nat} {ws : List Int} {H : Heap} (ho : Out b q ws H) (hl : ws.length ≤ 100) :
    ACallX Try.prog 29 [.bool t, .ptr b 0] H fun v H' => v = .tup [] ∧ (∃ q', H.length ≤ q' ∧ Out b q' (ws ++ [one t]) H') ∧ Keep2 H.length b q H H' := by
  refine acallX (fun v Hf h => acallK29 (by simp) h) (acs_start ?_)
  obtain ⟨hbl, hbq, hc⟩ := ho
  have h1 : ws.length + 1 ≤ 140737488355328 := by omega
  have h2 : (ws.length + 1) * 8 ≤ 140737488355328 := by omega
  have htk : List.take ws.length (List.map i64 ws) = List.map i64 ws := takeMapF ws
  unfold c29
  have k0 := (Keep2.refl (n := H.length) (b := b) (q := q) (H := H) (Nat.le_refl _))
  rcases hc with ⟨rfl, hb⟩ | ⟨hb, hq⟩
  · have fin : ∀ w : Int, Out b (H.length + 1) ([] ++ [w]) (H.set b (some ⟨[.sl (H.length + 1) 0 1 1 none], true⟩) ++ [some ⟨[.int .i64 w], true⟩, some ⟨[.int .i64 w], true⟩]) := by
      intro w
      refine ⟨by simp; omega, by omega, .inr ⟨?_, ?_⟩⟩
      · rw [blkAt_lo _ (by simpa using hbl), blkAt_set_self hbl]; rfl
      · rw [blkAt_setapp]; rfl
    cases t
    · simp (maxSteps := 1000000) (disch := omega) only [go_sem, Nat.reduceEqDiff, Nat.reduceLT, Nat.reduceAdd, Nat.reduceSub, Nat.reduceMul, Nat.reduceBEq, Int.reduceLT, Int.reduceAdd, Int.reduceMul, Int.reduceSub, Int.reduceToNat, Int.reduceLE, Int.reduceEq, ↓reduceIte, reduceCtorEq, Int.reduceNeg, Nat.reduceLeDiff,  hb, hbl, blkAt_lo, set_lo, blkAt_set_self]
      refine fin_x (by simp) (by simp (maxSteps := 1000000) (disch := omega) only [resVal, resAll, resOne, rs29, Env.get, go_sem, Nat.reduceEqDiff, Nat.reduceLT, Nat.reduceAdd, Nat.reduceSub, Nat.reduceMul, Nat.reduceBEq, Int.reduceLT, Int.reduceAdd, Int.reduceMul, Int.reduceSub, Int.reduceToNat, Int.reduceLE, Int.reduceEq, ↓reduceIte, reduceCtorEq, Int.reduceNeg, Nat.reduceLeDiff, ] <;> rfl) ⟨rfl, ⟨_, by omega, fin 0⟩, (k0.set (.inl rfl) _).app _⟩
    · simp (maxSteps := 1000000) (disch := omega) only [go_sem, Nat.reduceEqDiff, Nat.reduceLT, Nat.reduceAdd, Nat.reduceSub, Nat.reduceMul, Nat.reduceBEq, Int.reduceLT, Int.reduceAdd, Int.reduceMul, Int.reduceSub, Int.reduceToNat, Int.reduceLE, Int.reduceEq, ↓reduceIte, reduceCtorEq, Int.reduceNeg, Nat.reduceLeDiff,  hb, hbl, blkAt_lo, set_lo, blkAt_set_self]
      refine fin_x (by simp) (by simp (maxSteps := 1000000) (disch := omega) only [resVal, resAll, resOne, rs29, Env.get, go_sem, Nat.reduceEqDiff, Nat.reduceLT, Nat.reduceAdd, Nat.reduceSub, Nat.reduceMul, Nat.reduceBEq, Int.reduceLT, Int.reduceAdd, Int.reduceMul, Int.reduceSub, Int.reduceToNat, Int.reduceLE, Int.reduceEq, ↓reduceIte, reduceCtorEq, Int.reduceNeg, Nat.reduceLeDiff, ] <;> rfl) ⟨rfl, ⟨_, by omega, fin 1⟩, (k0.set (.inl rfl) _).app _⟩
  · have hql := blkAt_lt hq
    have hbl2 : b < (H.set q none).length := by simpa using hbl
    have hb2 : blkAt (H.set q none) b = some ⟨[.sl q 0 ws.length 1 none], true⟩ := by rw [blkAt_set_ne (by omega)]; exact hb
    have fin : ∀ w : Int, Out b (H.length + 1) (ws ++ [w]) ((H.set q none).set b (some ⟨[.sl (H.length + 1) 0 (ws.length + 1) 1 none], true⟩) ++ [some ⟨[.int .i64 w], true⟩, some ⟨ws.map i64 ++ [.int .i64 w], true⟩]) := by
      intro w
      refine ⟨by simp; omega, by omega, .inr ⟨?_, ?_⟩⟩
      · rw [blkAt_lo _ (by simpa using hbl), blkAt_set_self hbl2, List.length_append]; rfl
      · have := blkAt_setapp (H := H.set q none) (G := [some ⟨[.int .i64 w], true⟩, some ⟨ws.map i64 ++ [.int .i64 w], true⟩]) (q := b) (k := 1) (x := some ⟨[.sl (H.length + 1) 0 (ws.length + 1) 1 none], true⟩)
        rw [List.length_set] at this
        rw [this, List.map_append]
        rfl
    cases t
    · simp (maxSteps := 1000000) (disch := omega) only [go_sem, Nat.reduceEqDiff, Nat.reduceLT, Nat.reduceAdd, Nat.reduceSub, Nat.reduceMul, Nat.reduceBEq, Int.reduceLT, Int.reduceAdd, Int.reduceMul, Int.reduceSub, Int.reduceToNat, Int.reduceLE, Int.reduceEq, ↓reduceIte, reduceCtorEq, Int.reduceNeg, Nat.reduceLeDiff,  hb, hbl, hbl2, hb2, hq, hql, h1, h2, htk, blkAt_lo, set_lo, List.length_map, Nat.le_refl]
      refine fin_x (by simp) (by simp (maxSteps := 1000000) (disch := omega) only [resVal, resAll, resOne, rs29, Env.get, go_sem, Nat.reduceEqDiff, Nat.reduceLT, Nat.reduceAdd, Nat.reduceSub, Nat.reduceMul, Nat.reduceBEq, Int.reduceLT, Int.reduceAdd, Int.reduceMul, Int.reduceSub, Int.reduceToNat, Int.reduceLE, Int.reduceEq, ↓reduceIte, reduceCtorEq, Int.reduceNeg, Nat.reduceLeDiff, ] <;> rfl) ⟨rfl, ⟨_, by omega, fin 0⟩, ((k0.set (.inr (.inl rfl)) _).set (.inl rfl) _).app _⟩
    · simp (maxSteps := 1000000) (disch := omega) only [go_sem, Nat.reduceEqDiff, Nat.reduceLT, Nat.reduceAdd, Nat.reduceSub, Nat.reduceMul, Nat.reduceBEq, Int.reduceLT, Int.reduceAdd, Int.reduceMul, Int.reduceSub, Int.reduceToNat, Int.reduceLE, Int.reduceEq, ↓reduceIte, reduceCtorEq, Int.reduceNeg, Nat.reduceLeDiff,  hb, hbl, hbl2, hb2, hq, hql, h1, h2, htk, blkAt_lo, set_lo, List.length_map, Nat.le_refl]
      refine fin_x (by simp) (by simp (maxSteps := 1000000) (disch := omega) only [resVal, resAll, resOne, rs29, Env.get, go_sem, Nat.reduceEqDiff, Nat.reduceLT, Nat.reduceAdd, Nat.reduceSub, Nat.reduceMul, Nat.reduceBEq, Int.reduceLT, Int.reduceAdd, Int.reduceMul, Int.reduceSub, Int.reduceToNat, Int.reduceLE, Int.reduceEq, ↓reduceIte, reduceCtorEq, Int.reduceNeg, Nat.reduceLeDiff, ] <;> rfl) ⟨rfl, ⟨_, by omega, fin 1⟩, ((k0.set (.inr (.inl rfl)) _).set (.inl rfl) _).app _⟩
theorem Keep2.trans {n m b q r : Nat} {H H' H'' : Heap} (h : Keep2 n b q H H') (h' : Keep2 m b r H' H'') (hn : n ≤ m) (hr : r = q ∨ n ≤ r) : Keep2 n b q H H'' := by
  refine ⟨Nat.le_trans hn h'.1, fun p h1 h2 h3 => ?_⟩
  rw [h'.2 p (by omega) h2 (by rcases hr with rfl | hr <;> omega)]
  exact h.2 p h1 h2 h3
/-- Some words. -/
theorem f30 {zs : List Int} {p off : Nat} {cp : Option Nat} {b q : Nat} {ws : List Int} {H : Heap} (hs : Sl i64 H p off zs) (hpb : p ≠ b) (hpq : p ≠ q) (ho : Out b q ws H) (hl : ws.length + zs.length ≤ 100) :
    ACallX Try.prog 30 [.sl p off zs.length 1 cp, .ptr b 0] H fun v H' => v = .tup [] ∧ (∃ q', (q' = q ∨ H.length ≤ q') ∧ Out b q' (ws ++ zs) H') ∧ Keep2 H.length b q H H' := by
  refine acallX (fun v Hf h => acallK30 (by simp) h) (acs_start ?_)
  have hpl := hs.lt
  unfold c30
  simp (maxSteps := 1000000) (disch := omega) only [go_sem, Nat.reduceEqDiff, Nat.reduceLT, Nat.reduceAdd, Nat.reduceSub, Nat.reduceMul, Nat.reduceBEq, Int.reduceLT, Int.reduceAdd, Int.reduceMul, Int.reduceSub, Int.reduceToNat, Int.reduceLE, Int.reduceEq, ↓reduceIte, reduceCtorEq, Int.reduceNeg, Nat.reduceLeDiff]
  refine loop_list (fun r T H' => ∃ (j q' : Nat), T = [(1, .ptr b 0), (5, .sl p off zs.length 1 cp), (6, .int .i64 (zs.length : Nat)), (7, .int .i64 (j : Nat))] ∧ zs.drop j = r ∧ j + r.length = zs.length ∧ (q' = q ∨ H.length ≤ q') ∧ Out b q' (ws ++ zs.take j) H' ∧ Keep2 H.length b q H H') ?_ ?_ zs _ _ ⟨0, q, rfl, rfl, by simp, .inl rfl, by simpa using ho, Keep2.refl (Nat.le_refl _)⟩
  · rintro x r T H' ⟨j, q', rfl, hd, hj, hq', ⟨hbl, hbq, hc⟩, hk⟩ next
    obtain ⟨g1, g2, g3⟩ := drop_cons hd
    obtain ⟨cs, o, hp, hle, hcs⟩ := hs
    rw [← hk.blk hpl hpb hpq] at hp
    have hpl' := blkAt_lt hp
    have fx := sl_get hcs g1
    simp only [i64] at fx
    have hlt : (j : Int) < (zs.length : Int) := by omega
    have hj2 : (j : Int) ≤ 100 := by omega
    have hw : (ws ++ zs.take j).length = ws.length + j := by rw [List.length_append, List.length_take]; omega
    have ht : ws ++ zs.take j ++ [x] = ws ++ zs.take (j + 1) := by rw [List.append_assoc, List.take_add_one, g1]; rfl
    have h1 : ws.length + j + 1 ≤ 140737488355328 := by omega
    have h2 : (ws.length + j + 1) * 8 ≤ 140737488355328 := by omega
    have hn := hk.1
    generalize hW : ws ++ zs.take j = W at *
    rw [← hw] at h1 h2
    have htk : List.take W.length (List.map i64 W) = List.map i64 W := takeMapF W
    rcases hc with ⟨hW0, hb⟩ | ⟨hb, hq⟩
    · subst hW0
      rw [acs_lp]; conv in Fr.code c30l0 => unfold c30l0
      simp (maxSteps := 1000000) (disch := omega) only [go_sem, Nat.reduceEqDiff, Nat.reduceLT, Nat.reduceAdd, Nat.reduceSub, Nat.reduceMul, Nat.reduceBEq, Int.reduceLT, Int.reduceAdd, Int.reduceMul, Int.reduceSub, Int.reduceToNat, Int.reduceLE, Int.reduceEq, ↓reduceIte, reduceCtorEq, Int.reduceNeg, Nat.reduceLeDiff,  hlt, hp, hpl', fx, hb, hbl, blkAt_lo, set_lo, blkAt_set_self]
      refine next _ _ ⟨j + 1, H'.length + 1, by simp, g2, by simp at hj; omega, .inr (by omega), ?_, (hk.set (.inl rfl) _).app _⟩
      rw [← ht]
      refine ⟨by simp; omega, by omega, .inr ⟨?_, ?_⟩⟩
      · rw [blkAt_lo _ (by simpa using hbl), blkAt_set_self hbl]; rfl
      · rw [blkAt_setapp]; rfl
    · have hql := blkAt_lt hq
      have hbl2 : b < (H'.set q' none).length := by simpa using hbl
      have hb2 : blkAt (H'.set q' none) b = some ⟨[.sl q' 0 W.length 1 none], true⟩ := by rw [blkAt_set_ne (by omega)]; exact hb
      rw [acs_lp]; conv in Fr.code c30l0 => unfold c30l0
      simp (maxSteps := 1000000) (disch := omega) only [go_sem, Nat.reduceEqDiff, Nat.reduceLT, Nat.reduceAdd, Nat.reduceSub, Nat.reduceMul, Nat.reduceBEq, Int.reduceLT, Int.reduceAdd, Int.reduceMul, Int.reduceSub, Int.reduceToNat, Int.reduceLE, Int.reduceEq, ↓reduceIte, reduceCtorEq, Int.reduceNeg, Nat.reduceLeDiff,  hlt, hp, hpl', fx, hb, hbl, hbl2, hb2, hq, hql, h1, h2, htk, blkAt_lo, set_lo, List.length_map, Nat.le_refl]
      refine next _ _ ⟨j + 1, H'.length + 1, by simp, g2, by simp at hj; omega, .inr (by omega), ?_, ((hk.set (by omega) _).set (.inl rfl) _).app _⟩
      rw [← ht]
      refine ⟨by simp; omega, by omega, .inr ⟨?_, ?_⟩⟩
      · rw [blkAt_lo _ (by simpa using hbl), blkAt_set_self hbl2, List.length_append]; rfl
      · have := blkAt_setapp (H := H'.set q' none) (G := [some ⟨[.int .i64 x], true⟩, some ⟨W.map i64 ++ [.int .i64 x], true⟩]) (q := b) (k := 1) (x := some ⟨[.sl (H'.length + 1) 0 (W.length + 1) 1 none], true⟩)
        rw [List.length_set] at this
        rw [this, List.map_append]
        rfl
  · rintro T H' ⟨j, q', rfl, hd, hj, hq', ho', hk⟩
    have hjn : j = zs.length := by simpa using hj
    have hlt : ¬ (j : Int) < (zs.length : Int) := by omega
    rw [hjn, List.take_length] at ho'
    rw [acs_lp]; conv in Fr.code c30l0 => unfold c30l0
    simp (maxSteps := 1000000) (disch := omega) only [go_sem, Nat.reduceEqDiff, Nat.reduceLT, Nat.reduceAdd, Nat.reduceSub, Nat.reduceMul, Nat.reduceBEq, Int.reduceLT, Int.reduceAdd, Int.reduceMul, Int.reduceSub, Int.reduceToNat, Int.reduceLE, Int.reduceEq, ↓reduceIte, reduceCtorEq, Int.reduceNeg, Nat.reduceLeDiff,  hlt]
    refine fin_x (by simp) (by simp (maxSteps := 1000000) (disch := omega) only [resVal, resAll, resOne, rs30, Env.get, go_sem, Nat.reduceEqDiff, Nat.reduceLT, Nat.reduceAdd, Nat.reduceSub, Nat.reduceMul, Nat.reduceBEq, Int.reduceLT, Int.reduceAdd, Int.reduceMul, Int.reduceSub, Int.reduceToNat, Int.reduceLE, Int.reduceEq, ↓reduceIte, reduceCtorEq, Int.reduceNeg, Nat.reduceLeDiff, ] <;> rfl) ⟨rfl, ⟨q', hq', ho'⟩, hk⟩
theorem hb29 : hasBody Try.prog 29 = true := by kernel_rfl
theorem hb30 : hasBody Try.prog 30 = true := by kernel_rfl
end Go.Proofs.Ytjibphejlmiocaa.Ah
