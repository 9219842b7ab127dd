/- Vd: a part of the proof: contracts of functions, or plain laws. Conditions: none. -/
import Derived.Test.YtbjlbcihhleclaaVc
import Derived.WideShapes4
namespace Go.Proofs.Ytbjlbcihhleclaa.Ah
open Go Go.WideShapes
attribute [local irreducible] acs aopsK drawK leave condK bindR bindD bindX guardK guardD callB callD callX callP callPv rfunG rfunK yldB yldD
attribute [local go_sem] mop mget mfind mput mres keyed AV.isAgg beq_self_eq_true Bool.true_and Option.isSome_some List.set_cons_zero acs_nil acs_blk acs_skip acs_reg acs_dreg acs_freg acs_nam0 acs_nam nones acs_seq acs_cond acs_block acs_exit acs_ret acs_kl acs_loop leave_nil leave_code leave_lp leave_blk aopsK_nil aopsK_cons aopsK_guard bindR_val bindR_need bindR_br bindR_call bindR_ycall acs_rfun rfunG_fn bindR_bad drawK_nil drawK_cons drawK_wat bindW_val bindW_need bindW_br WatL_nil WatL_cons isP_ptr drawK_ext drawK_pur drawK_guard callPv_fn drawK_purv bindD_val bindD_need bindD_br bindD_call bindD_ycall bindD_bad bindX_val bindX_need bindX_br bindX_call guardD_bool guardD_tup grows grows0 List.append_cancel_left_eq List.cons.injEq exists_eq' exists_eq condK_bool guardK_bool guardK_tup sor r0 r1 r2 r3 rC rB rI rP rA rT rS rF rSl rO rbin rcut run1 Env.evals Env.eval Env.get Env.put Env.ins Env.del Env.dels argEnv AV.full AV.cells AV.cell eqCells decide_true decide_false decide_eq_true_eq decide_eq_false_iff_not Bool.not_eq_true' Bool.not_eq_false' true_and and_true false_implies true_implies forall_const Bool.not_true Bool.not_false Bool.false_eq_true Bool.true_eq_false List.getElem?_cons_zero List.getElem?_cons_succ List.length_cons List.length_nil List.length_append List.all_cons List.all_nil Bool.and_true Bool.and_self implies_true List.append_assoc List.cons_append List.nil_append List.append_nil i64_in imin_eq imax_eq cast3 cast0 cast1 cast2 Option.map_none ite_self and_false false_and Option.isSome_some or_true true_or Int.sub_zero Int.mul_one Nat.sub_zero Nat.zero_le Int.cast_ofNat_Int Int.natCast_nonneg Int.toNat_natCast ne_eq not_false_eq_true not_true_eq_false strC blkAt_app blkAt_app0 blkAt_zero blkAt_succ List.set_cons_zero List.set_cons_succ set_app set_app0 Option.map_some Option.bind_some rd setCells lay rdS szOk rapp ownAt lenAt Option.any_some Option.getD_some List.drop_zero List.drop_succ_cons List.take_succ_cons List.take_zero List.drop_nil List.take_nil Nat.lt_irrefl Nat.zero_add Nat.add_zero Nat.mul_one Nat.one_mul Nat.add_assoc Option.some.injEq eq_self
set_option maxHeartbeats 8000000
set_option linter.unusedSimpArgs false
set_option linter.unusedVariables false
/-! Deltas: how long. -/
def cnt : List Int → List Int → Nat
  | b :: bs, n :: ns => (if b = n then 0 else 1) + cnt bs ns
  | _, _ => 0
theorem dif_length : ∀ (bs ns : List Int) (cur : List Int) (j : Nat), (dif (cur, j) bs ns).length = cur.length + cnt bs ns
  | [], [], cur, j => by simp [dif, cnt]
  | [], _ :: _, cur, j => by simp [dif, cnt]
  | _ :: _, [], cur, j => by simp [dif, cnt]
  | b :: bs, n :: ns, cur, j => by
    rw [dif, dif_length, cnt]
    by_cases h : n = b
    · simp [h]
    · have h' : ¬ b = n := fun e => h e.symm
      simp [h, h']
      omega
theorem cnt_le : ∀ (bs ns : List Int), cnt bs ns ≤ ns.length
  | [], [] => by simp [cnt]
  | [], _ :: _ => by simp [cnt]
  | _ :: _, [] => by simp [cnt]
  | b :: bs, n :: ns => by
    have := cnt_le bs ns
    rw [cnt]
    split <;> simp <;> omega
theorem dif_same : ∀ (l : List Int) (cur : List Int) (j : Nat), dif (cur, j) l l = cur
  | [], cur, j => by simp [dif]
  | x :: l, cur, j => by rw [dif, if_pos rfl, dif_same l]
theorem diff_same (l : List Int) : diff l l = List.replicate ((l.length + 59) / 60) 0 := dif_same l _ _
theorem diff_pos {bs ns : List Int} (h : 0 < ns.length) : 0 < (diff bs ns).length := by
  unfold diff
  rw [dif_length, List.length_replicate]
  omega
theorem diff_le {bs ns : List Int} (h : ns.length ≤ 600) : (diff bs ns).length ≤ 1000 := by
  unfold diff
  rw [dif_length, List.length_replicate]
  have := cnt_le bs ns
  omega

/-! slices.Chunk: the function that is ranged over. -/
theorem f75_loop {b bs bn p off L : Nat} {cp : Option Nat} {Inv : Nat → Heap → Prop} {Q : Post} (hs : ∀ k H, Inv k H → (∃ o, blkAt H bs = some ⟨[.sl p off L 1 cp], o⟩) ∧ ∃ o, blkAt H bn = some ⟨[.int .i64 8], o⟩) (hL : L ≤ 4611686018427387904)
    (hy : ∀ k H, 8 * k < L → Inv k H → ∃ H', AYield Try.prog b [.sl p (off + 8 * k) (min 8 (L - 8 * k)) 1 (some (min 8 (L - 8 * k)))] H (.bool true) H' ∧ Inv (k + 1) H')
    (hq : ∀ T H, Inv ((L + 7) / 8) H → Q .normal T H) : ∀ (r k : Nat) (H : Heap), (L + 7) / 8 = k + r → Inv k H →
    acs Try.prog [.lp c75l0, .blk 0] [(0, .yld b), (1, .ptr bs 0), (2, .ptr bn 0), (4, .int .i64 ((8 * k : Nat) : Int))] H Q := by
  intro r
  induction r with
  | zero =>
    intro k H hr h
    obtain ⟨⟨o1, b1⟩, o2, b2⟩ := hs k H h
    have hge : ¬ ((8 * k : Nat) : Int) < (L : Int) := by omega
    have hk : (L + 7) / 8 = k := by omega
    rw [hk] at hq
    rw [acs_lp]; conv in Fr.code c75l0 => unfold c75l0
    simp (maxSteps := 1000000) (disch := omega) only [go_sem, Nat.reduceEqDiff, Nat.reduceLT, Nat.reduceAdd, Nat.reduceSub, Nat.reduceMul, Nat.reduceBEq, Int.reduceLT, Int.reduceAdd, Int.reduceMul, Int.reduceSub, Int.reduceToNat, Int.reduceLE, Int.reduceEq, ↓reduceIte, reduceCtorEq, Int.reduceNeg, Nat.reduceLeDiff,  b1, hge]
    exact hq _ _ h
  | succ r ih =>
    intro k H hr h
    obtain ⟨⟨o1, b1⟩, o2, b2⟩ := hs k H h
    have hlt : ((8 * k : Nat) : Int) < (L : Int) := by omega
    have hkL : 8 * k < L := by omega
    have y := hy k H hkL h
    rw [acs_lp]; conv in Fr.code c75l0 => unfold c75l0
    generalize hi : (8 * k : Nat) = i at *
    have u1 : (i : Int) ≤ (L : Int) := by omega
    have hL0 : ¬ (L = 0) := by omega
    have z := ih (k + 1)
    by_cases hc : 8 ≤ L - i
    · have e1 : min 8 (L - i) = 8 := by omega
      have e2 : imin 8 ((L - i : Nat) : Int) = 8 := by unfold imin; rw [if_neg (by omega)]
      have e3 : IntKind.i64.wrap ((i : Int) + 8) = ((i + 8 : Nat) : Int) := by rw [i64_in _ (by omega)]; omega
      have e4 : i + 8 - i = 8 := by omega
      have e5 : i + 8 ≤ L := by omega
      have e6 : 8 * (k + 1) = i + 8 := by omega
      rw [e1] at y
      rw [e6] at z
      simp (maxSteps := 1000000) (disch := omega) only [go_sem, Nat.reduceEqDiff, Nat.reduceLT, Nat.reduceAdd, Nat.reduceSub, Nat.reduceMul, Nat.reduceBEq, Int.reduceLT, Int.reduceAdd, Int.reduceMul, Int.reduceSub, Int.reduceToNat, Int.reduceLE, Int.reduceEq, ↓reduceIte, reduceCtorEq, Int.reduceNeg, Nat.reduceLeDiff,  b1, b2, hlt, u1, e2, e3, e4, hL0, Int.ofNat_le, e5, Nat.le_add_right, Nat.le_refl]
      refine yldBX y ?_
      intro H' h'
      obtain ⟨⟨o3, b3⟩, o4, b4⟩ := hs _ H' h'
      simp (maxSteps := 1000000) (disch := omega) only [go_sem, Nat.reduceEqDiff, Nat.reduceLT, Nat.reduceAdd, Nat.reduceSub, Nat.reduceMul, Nat.reduceBEq, Int.reduceLT, Int.reduceAdd, Int.reduceMul, Int.reduceSub, Int.reduceToNat, Int.reduceLE, Int.reduceEq, ↓reduceIte, reduceCtorEq, Int.reduceNeg, Nat.reduceLeDiff,  b3, b4, e3]
      exact z H' (by omega) h'
    · have e1 : min 8 (L - i) = L - i := by omega
      have e2 : imin 8 ((L - i : Nat) : Int) = ((L - i : Nat) : Int) := by unfold imin; rw [if_pos (by omega)]
      have e3 : IntKind.i64.wrap ((i : Int) + ((L - i : Nat) : Int)) = (L : Int) := by rw [i64_in _ (by omega)]; omega
      have e5 : IntKind.i64.wrap ((i : Int) + 8) = ((8 * (k + 1) : Nat) : Int) := by rw [i64_in _ (by omega)]; omega
      rw [e1] at y
      simp (maxSteps := 1000000) (disch := omega) only [go_sem, Nat.reduceEqDiff, Nat.reduceLT, Nat.reduceAdd, Nat.reduceSub, Nat.reduceMul, Nat.reduceBEq, Int.reduceLT, Int.reduceAdd, Int.reduceMul, Int.reduceSub, Int.reduceToNat, Int.reduceLE, Int.reduceEq, ↓reduceIte, reduceCtorEq, Int.reduceNeg, Nat.reduceLeDiff,  b1, b2, hlt, u1, e2, e3, hL0, Nat.le_refl, Int.le_refl]
      refine yldBX y ?_
      intro H' h'
      obtain ⟨⟨o3, b3⟩, o4, b4⟩ := hs _ H' h'
      simp (maxSteps := 1000000) (disch := omega) only [go_sem, Nat.reduceEqDiff, Nat.reduceLT, Nat.reduceAdd, Nat.reduceSub, Nat.reduceMul, Nat.reduceBEq, Int.reduceLT, Int.reduceAdd, Int.reduceMul, Int.reduceSub, Int.reduceToNat, Int.reduceLE, Int.reduceEq, ↓reduceIte, reduceCtorEq, Int.reduceNeg, Nat.reduceLeDiff,  b3, b4, e5]
      exact z H' (by omega) h'
theorem f75 {b bs bn p off L : Nat} {cp : Option Nat} {Inv : Nat → Heap → Prop} {H : Heap} (hs : ∀ k H, Inv k H → (∃ o, blkAt H bs = some ⟨[.sl p off L 1 cp], o⟩) ∧ ∃ o, blkAt H bn = some ⟨[.int .i64 8], o⟩) (hL : L ≤ 4611686018427387904)
    (hy : ∀ k H, 8 * k < L → Inv k H → ∃ H', AYield Try.prog b [.sl p (off + 8 * k) (min 8 (L - 8 * k)) 1 (some (min 8 (L - 8 * k)))] H (.bool true) H' ∧ Inv (k + 1) H') (h0 : Inv 0 H) :
    ACallX Try.prog 75 [.yld b, .ptr bs 0, .ptr bn 0] H fun v H' => v = .tup [] ∧ Inv ((L + 7) / 8) H' := by
  refine acallX (fun v Hf h => acallK75 (by simp) h) (acs_start ?_)
  unfold c75
  simp (maxSteps := 1000000) (disch := omega) only [go_sem, Nat.reduceEqDiff, Nat.reduceLT, Nat.reduceAdd, Nat.reduceSub, Nat.reduceMul, Nat.reduceBEq, Int.reduceLT, Int.reduceAdd, Int.reduceMul, Int.reduceSub, Int.reduceToNat, Int.reduceLE, Int.reduceEq, ↓reduceIte, reduceCtorEq, Int.reduceNeg, Nat.reduceLeDiff]
  refine f75_loop hs hL hy ?_ ((L + 7) / 8) 0 H (by omega) h0
  intro T H' h'
  refine fin_x (by simp) (by simp (maxSteps := 1000000) (disch := omega) only [resVal, resAll, resOne, rs75, Env.get, go_sem, Nat.reduceEqDiff, Nat.reduceLT, Nat.reduceAdd, Nat.reduceSub, Nat.reduceMul, Nat.reduceBEq, Int.reduceLT, Int.reduceAdd, Int.reduceMul, Int.reduceSub, Int.reduceToNat, Int.reduceLE, Int.reduceEq, ↓reduceIte, reduceCtorEq, Int.reduceNeg, Nat.reduceLeDiff, ] <;> rfl) ⟨rfl, h'⟩
theorem hb75 : hasBody Try.prog 75 = true := by kernel_rfl
theorem f61 {p off L : Nat} {cp : Option Nat} {H : Heap} : ACall Try.prog 61 [.sl p off L 1 cp, .int .i64 8] H (.fn (.func 75) [] [.ptr H.length 0, .ptr (H.length + 1) 0]) (H ++ [some ⟨[.sl p off L 1 cp], true⟩, some ⟨[.int .i64 8], true⟩]) := by
  refine acallK61 (by simp) (acs_start ?_)
  unfold c61
  simp (maxSteps := 1000000) (disch := omega) only [go_sem, Nat.reduceEqDiff, Nat.reduceLT, Nat.reduceAdd, Nat.reduceSub, Nat.reduceMul, Nat.reduceBEq, Int.reduceLT, Int.reduceAdd, Int.reduceMul, Int.reduceSub, Int.reduceToNat, Int.reduceLE, Int.reduceEq, ↓reduceIte, reduceCtorEq, Int.reduceNeg, Nat.reduceLeDiff]
  refine ⟨by simp, rfl, ?_⟩
  simp only [resVal, resAll, resOne, rs61, Env.get, go_sem, Nat.reduceEqDiff, Nat.reduceLT, Nat.reduceAdd, Nat.reduceSub, Nat.reduceMul, Nat.reduceBEq, Int.reduceLT, Int.reduceAdd, Int.reduceMul, Int.reduceSub, Int.reduceToNat, Int.reduceLE, Int.reduceEq, ↓reduceIte, reduceCtorEq, Int.reduceNeg, Nat.reduceLeDiff]

/-! Contracts: a row's parts. -/
/-- The words of the first k parts. -/
def pc (l : List Int) (k : Nat) : List Int := (List.range (8 * k)).map fun i => l.getD i 0
def row8 (l : List Int) (k : Nat) : List Int := (List.range 8).map fun j => l.getD (8 * k + j) 0
theorem pc_succ (l : List Int) (k : Nat) : pc l (k + 1) = pc l k ++ row8 l k := by
  unfold pc row8
  rw [show 8 * (k + 1) = 8 * k + 8 by omega, List.range_add, List.map_append, List.map_map]
  rfl
theorem pc_len (l : List Int) (k : Nat) : (pc l k).length = 8 * k := by simp [pc]
theorem pc_get (l : List Int) {k i : Nat} (h : i < 8 * k) : (pc l k)[i]? = some (l.getD i 0) := by simp [pc, h]
theorem row8_set (l : List Int) (k : Nat) : setCells (List.replicate 8 (AV.int .i64 0)) 0 (((l.drop (8 * k)).take 8).map (AV.int .i64)) = (row8 l k).map (AV.int .i64) := by
  unfold setCells row8
  apply List.ext_getElem?
  intro i
  by_cases hi : i < 8
  · by_cases h : 8 * k + i < l.length
    · simp [List.getElem?_append, List.getElem?_drop, List.getElem?_take, hi]
      have : i < min 8 (l.length - 8 * k) := by omega
      simp [this, List.getElem?_eq_getElem h]
    · have : ¬ i < min 8 (l.length - 8 * k) := by omega
      simp [List.getElem?_append, List.getElem?_drop, List.getElem?_take, hi, this]
      have h2 : l[8 * k + i]? = none := by simp; omega
      simp [h2, List.getElem?_replicate]
      rw [show min 8 (l.length - 8 * k) + (i - min 8 (l.length - 8 * k)) = i by omega]
      exact List.getElem?_replicate_of_lt (n := 8) hi
  · simp [List.getElem?_append, List.getElem?_drop, List.getElem?_take, hi]
    omega
/-- What stands on the way. -/
structure PI (H : Heap) (S L : AV) (l : List Int) (k : Nat) (X : Heap) : Prop where
  ext : Ext H X
  b0 : ∃ w, blkAt X H.length = some ⟨[w], true⟩ ∧ (k = 0 ∧ w = .nils ∨ ∃ q, (0 < k ∧ H.length + 3 < q) ∧ w = .sl q 0 k 8 none ∧ blkAt X q = some ⟨(pc l k).map (AV.int .i64), true⟩)
  b1 : blkAt X (H.length + 1) = some ⟨[S], true⟩
  b2 : blkAt X (H.length + 2) = some ⟨[.int .i64 8], true⟩
  b3 : blkAt X (H.length + 3) = some ⟨[L], true⟩
theorem PI.turn {H : Heap} {S L L2 : AV} {l : List Int} {k : Nat} {X : Heap} (d : PI H S L l k X) : PI H S L2 l k (X.set (H.length + 3) (some ⟨[L2], true⟩)) := by
  obtain ⟨w, h1, h2⟩ := d.b0
  refine ⟨d.ext.set (by omega) _, ⟨w, ?_, ?_⟩, ?_, ?_, blkAt_set_self (blkAt_lt d.b3) _⟩
  · rw [blkAt_set_ne (by omega)]; exact h1
  · rcases h2 with h2 | ⟨q, h3, h4, h5⟩
    · exact .inl h2
    · exact .inr ⟨q, h3, h4, by rw [blkAt_set_ne (by omega)]; exact h5⟩
  · rw [blkAt_set_ne (by omega)]; exact d.b1
  · rw [blkAt_set_ne (by omega)]; exact d.b2
theorem PI.next {H : Heap} {S L : AV} {l : List Int} {k : Nat} {X Y : Heap} (d : PI H S L l k X) (he : Ext H Y) (hs : ∀ i, i ≤ 3 → i ≠ 0 → blkAt Y (H.length + i) = blkAt X (H.length + i)) {q : Nat} (hq : H.length + 3 < q)
    (h2 : blkAt Y H.length = some ⟨[.sl q 0 (k + 1) 8 none], true⟩) (h5 : blkAt Y q = some ⟨(pc l (k + 1)).map (AV.int .i64), true⟩) : PI H S L l (k + 1) Y :=
  ⟨he, ⟨_, h2, .inr ⟨q, ⟨by omega, hq⟩, rfl, h5⟩⟩, by rw [← d.b1]; exact hs 1 (by omega) (by omega), by rw [← d.b2]; exact hs 2 (by omega) (by omega), by rw [← d.b3]; exact hs 3 (by omega) (by omega)⟩

/-! A row's parts: a round. -/
theorem f35_body {H : Heap} {S L : AV} {l : List Int} {k p off m : Nat} {X : Heap} {Q : Post} (d : PI H S L l k X) (hs : Sl i64 H p off l) (hk : 8 * k < l.length) (hm : m = min 8 (l.length - 8 * k)) (hl : l.length ≤ 1000000) (hq : ∀ T' X', PI H S L l (k + 1) X' → Q .normal T' X') :
    acs Try.prog [.code c35l0] [(3, .ptr H.length 0), (4, .sl p (off + 8 * k) m 1 (some m))] X Q := by
  obtain ⟨w, h1, h2⟩ := d.b0
  have lt1 := blkAt_lt h1
  have l3 := blkAt_lt d.b3
  have hs2 := (d.ext.sl hs).drop (n := 8 * k) (by omega)
  have hs3 := hs2.take 8
  obtain ⟨cs, o, hp, hle, hcs⟩ := hs3
  have lp := blkAt_lt hp
  have hrl : ((l.drop (8 * k)).take 8).length = m := by simp; omega
  rw [hrl] at hle hcs
  have hm0 : ¬ m = 0 := by omega
  have hm8 : m ≤ 8 := by omega
  have hset := row8_set l k
  obtain ⟨y0, y1, y2, y3, y4, y5, y6, y7, hy⟩ : ∃ y0 y1 y2 y3 y4 y5 y6 y7, row8 l k = [y0, y1, y2, y3, y4, y5, y6, y7] := ⟨_, _, _, _, _, _, _, _, rfl⟩
  have hpc := pc_succ l k
  rw [hy] at hpc
  rw [hy, show ((l.drop (8 * k)).take 8).map (AV.int .i64) = List.take m (List.drop (off + 8 * k) cs) from hcs.symm] at hset
  have hall : (List.take m (List.drop (off + 8 * k) cs)).all AV.cell = true := by rw [hcs]; exact allMap _
  generalize hx : List.take m (List.drop (off + 8 * k) cs) = x at *
  unfold setCells at hset
  simp only [List.take_zero, List.nil_append, Nat.zero_add, List.replicate, List.map_cons, List.map_nil] at hset
  have hmin2 : min m 8 = m := by omega
  have hmin : min 8 m = m := by omega
  have hbig : (k + 1) * 64 ≤ 140737488355328 := by omega
  unfold c35l0
  rcases h2 with ⟨rfl, rfl⟩ | ⟨q, h3, rfl, h5⟩
  · simp only [Nat.mul_zero, Nat.add_zero] at *
    simp (maxSteps := 1000000) (disch := omega) only [go_sem, Nat.reduceEqDiff, Nat.reduceLT, Nat.reduceAdd, Nat.reduceSub, Nat.reduceMul, Nat.reduceBEq, Int.reduceLT, Int.reduceAdd, Int.reduceMul, Int.reduceSub, Int.reduceToNat, Int.reduceLE, Int.reduceEq, ↓reduceIte, reduceCtorEq, Int.reduceNeg, Nat.reduceLeDiff,  h1, lt1, hp, lp, blkAt_lo, set_lo, hm0, hle, hx, hall, hm8, hset, hmin2, hmin, Nat.le_refl, hbig]
    refine hq _ _ (d.next (q := X.length + 2) ((d.ext.set (by omega) _).to _) (fun i h6 h7 => ?_) (by omega) ?_ ?_)
    · rw [blkAt_lo _ (by rw [List.length_set]; omega), blkAt_set_ne (by omega)]
    · rw [blkAt_lo _ (by rw [List.length_set]; omega), blkAt_set_self lt1]
    · have := blkAt_app (X.set H.length (some ⟨[AV.sl (X.length + 2) 0 1 8 none], true⟩)) [some ⟨[AV.int .i64 y0, AV.int .i64 y1, AV.int .i64 y2, AV.int .i64 y3, AV.int .i64 y4, AV.int .i64 y5, AV.int .i64 y6, AV.int .i64 y7], true⟩, some ⟨[AV.int .i64 y0, AV.int .i64 y1, AV.int .i64 y2, AV.int .i64 y3, AV.int .i64 y4, AV.int .i64 y5, AV.int .i64 y6, AV.int .i64 y7], true⟩, some ⟨[AV.int .i64 y0, AV.int .i64 y1, AV.int .i64 y2, AV.int .i64 y3, AV.int .i64 y4, AV.int .i64 y5, AV.int .i64 y6, AV.int .i64 y7], true⟩] 2
      rw [List.length_set] at this
      rw [this, hpc]
      rfl
  · have lq := blkAt_lt h5
    have hle' : off + (8 * k + m) ≤ cs.length := by omega
    have hlP : ((pc l k).map (AV.int .i64)).length = k * 8 := by simp [pc]; omega
    have hP0 : List.take (k * 8) ((pc l k).map (AV.int .i64)) = (pc l k).map (AV.int .i64) := by rw [List.take_of_length_le (by rw [hlP]; exact Nat.le_refl _)]
    have hpc2 : (pc l (k + 1)).map (AV.int .i64) = (pc l k).map (AV.int .i64) ++ [AV.int .i64 y0, AV.int .i64 y1, AV.int .i64 y2, AV.int .i64 y3, AV.int .i64 y4, AV.int .i64 y5, AV.int .i64 y6, AV.int .i64 y7] := by rw [hpc, List.map_append]; rfl
    have h1' : ∀ G, blkAt (X.set q none ++ G) H.length = some ⟨[.sl q 0 k 8 none], true⟩ := fun G => by rw [blkAt_lo _ (by rw [List.length_set]; omega), blkAt_set_ne (by omega)]; exact h1
    generalize (pc l k).map (AV.int .i64) = P at *
    simp (maxSteps := 1000000) (disch := omega) only [go_sem, Nat.reduceEqDiff, Nat.reduceLT, Nat.reduceAdd, Nat.reduceSub, Nat.reduceMul, Nat.reduceBEq, Int.reduceLT, Int.reduceAdd, Int.reduceMul, Int.reduceSub, Int.reduceToNat, Int.reduceLE, Int.reduceEq, ↓reduceIte, reduceCtorEq, Int.reduceNeg, Nat.reduceLeDiff,  h1, lt1, hp, lp, h5, lq, blkAt_lo, set_lo, hm0, hle', hx, hall, hm8, hset, hmin2, hmin, Nat.le_refl, hbig, hlP, hP0, h1', List.length_set]
    refine hq _ _ (d.next (q := X.length + 2) (Ext.set (b := H.length) ((Ext.set (b := q) d.ext (by omega) none).to _) (by omega) _) (fun i h6 h7 => ?_) (by omega) ?_ ?_)
    · rw [blkAt_set_ne (by omega), blkAt_lo _ (by simp only [List.length_set]; omega), blkAt_set_ne (by omega)]
    · rw [blkAt_set_self (by simp only [List.length_append, List.length_set]; omega)]
    · have := blkAt_app (X.set q none) [some ⟨[AV.int .i64 y0, AV.int .i64 y1, AV.int .i64 y2, AV.int .i64 y3, AV.int .i64 y4, AV.int .i64 y5, AV.int .i64 y6, AV.int .i64 y7], true⟩, some ⟨[AV.int .i64 y0, AV.int .i64 y1, AV.int .i64 y2, AV.int .i64 y3, AV.int .i64 y4, AV.int .i64 y5, AV.int .i64 y6, AV.int .i64 y7], true⟩, some ⟨P ++ [AV.int .i64 y0, AV.int .i64 y1, AV.int .i64 y2, AV.int .i64 y3, AV.int .i64 y4, AV.int .i64 y5, AV.int .i64 y6, AV.int .i64 y7], true⟩] 2
      rw [List.length_set] at this
      rw [blkAt_set_ne (by omega), this, hpc2]
      rfl
theorem f35 {l : List Int} {p off : Nat} {cp : Option Nat} {H : Heap} (hs : Sl i64 H p off l) (hl : l.length ≤ 1000000) (h0 : 0 < l.length) :
    ACallE Try.prog 35 [.sl p off l.length 1 cp] H fun v H' => ∃ q, v = .sl q 0 ((l.length + 7) / 8) 8 none ∧ blkAt H' q = some ⟨(pc l ((l.length + 7) / 8)).map (AV.int .i64), true⟩ ∧ H.length ≤ q := by
  refine acallE (fun v Hf h => acallK35 (by simp) h) (acs_start ?_)
  unfold c35
  simp (maxSteps := 1000000) (disch := omega) only [go_sem, Nat.reduceEqDiff, Nat.reduceLT, Nat.reduceAdd, Nat.reduceSub, Nat.reduceMul, Nat.reduceBEq, Int.reduceLT, Int.reduceAdd, Int.reduceMul, Int.reduceSub, Int.reduceToNat, Int.reduceLE, Int.reduceEq, ↓reduceIte, reduceCtorEq, Int.reduceNeg, Nat.reduceLeDiff]
  first | refine callB_intro (f61) ?_ | refine callD_intro (f61) ?_ | refine callP_intro (fun _ => (f61)) ?_ | refine callX_pure (f61) ?_
  simp (maxSteps := 1000000) (disch := omega) only [go_sem, Nat.reduceEqDiff, Nat.reduceLT, Nat.reduceAdd, Nat.reduceSub, Nat.reduceMul, Nat.reduceBEq, Int.reduceLT, Int.reduceAdd, Int.reduceMul, Int.reduceSub, Int.reduceToNat, Int.reduceLE, Int.reduceEq, ↓reduceIte, reduceCtorEq, Int.reduceNeg, Nat.reduceLeDiff]
  have hyl : ∀ (L : AV) (T : Env), T = [(3, .ptr H.length 0), (7, .fn (.func 75) [] [.ptr (H.length + 1) 0, .ptr (H.length + 2) 0])] → L = loopB Try.prog 17 [8] c35l1 c35l0 T → ∀ j X, 8 * j < l.length → PI H (.sl p off l.length 1 cp) L l j X →
      ∃ X', AYield Try.prog (H.length + 3) [.sl p (off + 8 * j) (min 8 (l.length - 8 * j)) 1 (some (min 8 (l.length - 8 * j)))] X (.bool true) X' ∧ PI H (.sl p off l.length 1 cp) L l (j + 1) X' := by
    rintro L T hT rfl j X hj d
    refine ayieldX d.b3 (by rw [hT]; rfl) rfl rfl rfl rfl (acs_start ?_)
    rw [hT]
    conv in Fr.code c35l1 => unfold c35l1
    simp (maxSteps := 1000000) (disch := omega) only [go_sem, Nat.reduceEqDiff, Nat.reduceLT, Nat.reduceAdd, Nat.reduceSub, Nat.reduceMul, Nat.reduceBEq, Int.reduceLT, Int.reduceAdd, Int.reduceMul, Int.reduceSub, Int.reduceToNat, Int.reduceLE, Int.reduceEq, ↓reduceIte, reduceCtorEq, Int.reduceNeg, Nat.reduceLeDiff,  puts]
    refine ⟨rfl, by rw [d.b3, hT], acs_start ?_⟩
    have d2 := d.turn (L2 := loopB Try.prog 17 [8] c35l1 c35l0 T false)
    rw [hT] at d2
    refine f35_body d2 hs hj rfl hl ?_
    intro T' X' d3
    refine ⟨rfl, d3.b3, ?_⟩
    rw [← hT]
    exact d3.turn
  have hy := hyl _ _ rfl rfl
  generalize loopB Try.prog 17 [8] c35l1 c35l0 _ = L at *
  refine ⟨hb75, rfunX (f75 (Inv := fun j X => PI H (.sl p off l.length 1 cp) L l j X) (L := l.length) (cp := cp) (fun j X d => ⟨⟨_, d.b1⟩, _, d.b2⟩) (by omega) hy ?_) ?_⟩
  · exact ⟨(Ext.app _ _).to _, ⟨_, by simp only [go_sem, Nat.reduceEqDiff, Nat.reduceLT, Nat.reduceAdd, Nat.reduceSub, Nat.reduceMul, Nat.reduceBEq, Int.reduceLT, Int.reduceAdd, Int.reduceMul, Int.reduceSub, Int.reduceToNat, Int.reduceLE, Int.reduceEq, ↓reduceIte, reduceCtorEq, Int.reduceNeg, Nat.reduceLeDiff], .inl ⟨rfl, rfl⟩⟩, by simp only [go_sem, Nat.reduceEqDiff, Nat.reduceLT, Nat.reduceAdd, Nat.reduceSub, Nat.reduceMul, Nat.reduceBEq, Int.reduceLT, Int.reduceAdd, Int.reduceMul, Int.reduceSub, Int.reduceToNat, Int.reduceLE, Int.reduceEq, ↓reduceIte, reduceCtorEq, Int.reduceNeg, Nat.reduceLeDiff], by simp only [go_sem, Nat.reduceEqDiff, Nat.reduceLT, Nat.reduceAdd, Nat.reduceSub, Nat.reduceMul, Nat.reduceBEq, Int.reduceLT, Int.reduceAdd, Int.reduceMul, Int.reduceSub, Int.reduceToNat, Int.reduceLE, Int.reduceEq, ↓reduceIte, reduceCtorEq, Int.reduceNeg, Nat.reduceLeDiff], by simp only [go_sem, Nat.reduceEqDiff, Nat.reduceLT, Nat.reduceAdd, Nat.reduceSub, Nat.reduceMul, Nat.reduceBEq, Int.reduceLT, Int.reduceAdd, Int.reduceMul, Int.reduceSub, Int.reduceToNat, Int.reduceLE, Int.reduceEq, ↓reduceIte, reduceCtorEq, Int.reduceNeg, Nat.reduceLeDiff]⟩
  rintro v X ⟨rfl, d⟩
  obtain ⟨w, h2, h3⟩ := d.b0
  rcases h3 with ⟨h3, _⟩ | ⟨q, h3, rfl, h5⟩
  · omega
  simp only [List.length_append, List.length_cons, List.length_nil, Nat.reduceAdd, Nat.zero_add]
  refine ⟨d.b3, ?_⟩
  have k0 : blkAt (X.set (H.length + 3) none) H.length = some ⟨[.sl q 0 ((l.length + 7) / 8) 8 none], true⟩ := by rw [blkAt_set_ne (by omega)]; exact h2
  have k5 : blkAt (X.set (H.length + 3) none) q = some ⟨(pc l ((l.length + 7) / 8)).map (AV.int .i64), true⟩ := by rw [blkAt_set_ne (by omega)]; exact h5
  have kx : Ext H (X.set (H.length + 3) none) := d.ext.set (by omega) _
  generalize X.set (H.length + 3) none = Y at *
  simp (maxSteps := 1000000) (disch := omega) only [go_sem, Nat.reduceEqDiff, Nat.reduceLT, Nat.reduceAdd, Nat.reduceSub, Nat.reduceMul, Nat.reduceBEq, Int.reduceLT, Int.reduceAdd, Int.reduceMul, Int.reduceSub, Int.reduceToNat, Int.reduceLE, Int.reduceEq, ↓reduceIte, reduceCtorEq, Int.reduceNeg, Nat.reduceLeDiff,  k0]
  refine fin_e (by simp) (by simp (maxSteps := 1000000) (disch := omega) only [resVal, resAll, resOne, rs35, Env.get, go_sem, Nat.reduceEqDiff, Nat.reduceLT, Nat.reduceAdd, Nat.reduceSub, Nat.reduceMul, Nat.reduceBEq, Int.reduceLT, Int.reduceAdd, Int.reduceMul, Int.reduceSub, Int.reduceToNat, Int.reduceLE, Int.reduceEq, ↓reduceIte, reduceCtorEq, Int.reduceNeg, Nat.reduceLeDiff, ] <;> rfl) kx ⟨_, rfl, k5, by omega⟩

/-! An offer. -/
def w0 : List Int := [16777216, 0, 0, 0] ++ (x0L ++ [1677721600, 0, 0, 167772160, 0, 16777216]) ++ (x0L ++ [1677721600, 0, 0, 167772160, 0, 16777216]) ++ (x0L ++ [1677721600, 0, 0, 167772160, 0, 16777216]) ++ [0, 0, 0, 0, 0, 0, 0]
theorem T0.three {t : Tk} (h : T0 t) : t.three := ⟨by rw [h.xl]; rfl, by rw [h.pl]; rfl⟩
theorem T0.axW {t : Tk} (h : T0 t) : Ah.axW t = x0L ++ [1677721600, 0, 0, 167772160, 0, 16777216] := by
  unfold Ah.axW
  rw [h.xl, h.pl]
  rfl
theorem E0.wds {e : Es} (h : E0 e) : Ah.wds e = w0 := by
  unfold Ah.wds w0
  rw [h.a.axW, h.b.axW, h.c.axW, h.t.1, h.t.2.1, h.t.2.2.1, h.t.2.2.2, h.n.1, h.n.2.1, h.n.2.2.1, h.n.2.2.2.1, h.n.2.2.2.2.1, h.n.2.2.2.2.2.1, h.n.2.2.2.2.2.2]
  rfl
theorem f31 {c0 c1 c2 c3 c4 c5 : Int} {H : Heap} (hm : mayB c0 c1 c2 c3 c4 c5 = true) :
    ACallE Try.prog 31 [.agg [.int .i64 c0, .int .i64 c1, .int .i64 c2, .int .i64 c3, .int .i64 c4, .int .i64 c5]] H fun v H' => ∃ q, v = .tup [.sl q 0 38 1 none, .int .i64 0] ∧ blkAt H' q = some ⟨w0.map (AV.int .i64), true⟩ ∧ H.length ≤ q := by
  refine acallE (fun v Hf h => acallK31 (by simp) h) (acs_start ?_)
  have g54 := fun G => f54 (H := H ++ G) hm
  unfold c31
  simp (maxSteps := 1000000) (disch := omega) only [go_sem, Nat.reduceEqDiff, Nat.reduceLT, Nat.reduceAdd, Nat.reduceSub, Nat.reduceMul, Nat.reduceBEq, Int.reduceLT, Int.reduceAdd, Int.reduceMul, Int.reduceSub, Int.reduceToNat, Int.reduceLE, Int.reduceEq, ↓reduceIte, reduceCtorEq, Int.reduceNeg, Nat.reduceLeDiff]
  first | refine callBE (g54 _) ?_ | refine callDE (g54 _) ?_ | refine callXE (g54 _) ?_
  rintro v X hx ⟨e, rfl, he, hok⟩
  have g34 := fun G => f34 (hok.app G) he.a.three he.b.three he.c.three
  rw [he.wds] at g34
  have full : (AV.agg e.av).full = true := rfl
  have len : e.av.length = 29 := rfl
  have all : e.av.all AV.cell = true := rfl
  have drp : e.av.drop 29 = [] := rfl
  have tk : List.take 29 e.av = e.av := rfl
  have hX : Ext H X := (Ext.app _ _).trans hx
  simp (maxSteps := 1000000) (disch := omega) only [go_sem, Nat.reduceEqDiff, Nat.reduceLT, Nat.reduceAdd, Nat.reduceSub, Nat.reduceMul, Nat.reduceBEq, Int.reduceLT, Int.reduceAdd, Int.reduceMul, Int.reduceSub, Int.reduceToNat, Int.reduceLE, Int.reduceEq, ↓reduceIte, reduceCtorEq, Int.reduceNeg, Nat.reduceLeDiff,  full, len, all, drp, tk]
  first | refine callBE (g34 _) ?_ | refine callDE (g34 _) ?_ | refine callXE (g34 _) ?_
  rintro v Y hy ⟨q, rfl, hq, hl⟩
  simp (maxSteps := 1000000) (disch := omega) only [go_sem, Nat.reduceEqDiff, Nat.reduceLT, Nat.reduceAdd, Nat.reduceSub, Nat.reduceMul, Nat.reduceBEq, Int.reduceLT, Int.reduceAdd, Int.reduceMul, Int.reduceSub, Int.reduceToNat, Int.reduceLE, Int.reduceEq, ↓reduceIte, reduceCtorEq, Int.reduceNeg, Nat.reduceLeDiff]
  have := hX.len
  refine fin_e (by simp) (by simp (maxSteps := 1000000) (disch := omega) only [resVal, resAll, resOne, rs31, Env.get, go_sem, Nat.reduceEqDiff, Nat.reduceLT, Nat.reduceAdd, Nat.reduceSub, Nat.reduceMul, Nat.reduceBEq, Int.reduceLT, Int.reduceAdd, Int.reduceMul, Int.reduceSub, Int.reduceToNat, Int.reduceLE, Int.reduceEq, ↓reduceIte, reduceCtorEq, Int.reduceNeg, Nat.reduceLeDiff, ] <;> rfl) ((hX.to _).trans hy) ⟨q, rfl, hq, by rw [List.length_append] at hl; omega⟩
theorem three_a {e : Es} (h : estB e = true) : e.a.three ∧ e.b.three ∧ e.c.three := by
  unfold estB at h
  simp only [Bool.and_eq_true, decide_eq_true_eq] at h
  obtain ⟨⟨⟨⟨_, a1, a2⟩, b1, b2⟩, c1, c2⟩, _⟩ := h
  exact ⟨Tk.three_of a1 a2, Tk.three_of b1 b2, Tk.three_of c1 c2⟩
theorem wds_len {e : Es} (h : estB e = true) : (wds e).length = 38 := by
  obtain ⟨a, b, c⟩ := three_a h
  unfold wds axW
  simp [a.x, a.p, b.x, b.p, c.x, c.p]
theorem w0_len : w0.length = 38 := rfl
def dlt (e : Es) : List Int := diff w0 (wds e)
theorem f16 {c0 c1 c2 c3 c4 c5 : Int} {e : Es} {H : Heap} (hm : mayB c0 c1 c2 c3 c4 c5 = true) (he : estB e = true) (hok : e.ok H) :
    ACallE Try.prog 16 [.agg [.int .i64 c0, .int .i64 c1, .int .i64 c2, .int .i64 c3, .int .i64 c4, .int .i64 c5], .agg e.av] H fun v H' => ∃ q, v = .tup [.sl q 0 (((dlt e).length + 7) / 8) 8 none, .int .i64 ((dlt e).length : Int), .int .i64 0] ∧ blkAt H' q = some ⟨(pc (dlt e) (((dlt e).length + 7) / 8)).map (AV.int .i64), true⟩ ∧ H.length ≤ q := by
  refine acallE (fun v Hf h => acallK16 (by simp) h) (acs_start ?_)
  have g31 := fun G => f31 (H := H ++ G) hm
  have full : (AV.agg e.av).full = true := rfl
  have len : e.av.length = 29 := rfl
  have all : e.av.all AV.cell = true := rfl
  have tk : List.take 29 e.av = e.av := rfl
  obtain ⟨ta, tb, tc⟩ := three_a he
  have lw := wds_len he
  unfold c16
  simp (maxSteps := 1000000) (disch := omega) only [go_sem, Nat.reduceEqDiff, Nat.reduceLT, Nat.reduceAdd, Nat.reduceSub, Nat.reduceMul, Nat.reduceBEq, Int.reduceLT, Int.reduceAdd, Int.reduceMul, Int.reduceSub, Int.reduceToNat, Int.reduceLE, Int.reduceEq, ↓reduceIte, reduceCtorEq, Int.reduceNeg, Nat.reduceLeDiff,  full, len, all, tk]
  first | refine callBE (g31 _) ?_ | refine callDE (g31 _) ?_ | refine callXE (g31 _) ?_
  rintro v X hx ⟨q, rfl, hq, hl⟩
  have hX : Ext H X := (Ext.app _ _).trans hx
  have h3 : blkAt X (H.length + 1) = some ⟨e.av, true⟩ := hx.blk (by simp only [go_sem, Nat.reduceEqDiff, Nat.reduceLT, Nat.reduceAdd, Nat.reduceSub, Nat.reduceMul, Nat.reduceBEq, Int.reduceLT, Int.reduceAdd, Int.reduceMul, Int.reduceSub, Int.reduceToNat, Int.reduceLE, Int.reduceEq, ↓reduceIte, reduceCtorEq, Int.reduceNeg, Nat.reduceLeDiff])
  have g32 := fun G => f32 ((hok.ext hX).app G)
  rw [he] at g32
  simp (maxSteps := 1000000) (disch := omega) only [go_sem, Nat.reduceEqDiff, Nat.reduceLT, Nat.reduceAdd, Nat.reduceSub, Nat.reduceMul, Nat.reduceBEq, Int.reduceLT, Int.reduceAdd, Int.reduceMul, Int.reduceSub, Int.reduceToNat, Int.reduceLE, Int.reduceEq, ↓reduceIte, reduceCtorEq, Int.reduceNeg, Nat.reduceLeDiff,  h3, len, tk]
  first | refine callB_intro (f32 (hok.ext hX)) ?_ | refine callD_intro (f32 (hok.ext hX)) ?_ | refine callP_intro (fun _ => (f32 (hok.ext hX))) ?_ | refine callX_pure (f32 (hok.ext hX)) ?_
  rw [he]
  simp (maxSteps := 1000000) (disch := omega) only [go_sem, Nat.reduceEqDiff, Nat.reduceLT, Nat.reduceAdd, Nat.reduceSub, Nat.reduceMul, Nat.reduceBEq, Int.reduceLT, Int.reduceAdd, Int.reduceMul, Int.reduceSub, Int.reduceToNat, Int.reduceLE, Int.reduceEq, ↓reduceIte, reduceCtorEq, Int.reduceNeg, Nat.reduceLeDiff,  h3, len, tk]
  first | refine callBE (f34 (hok.ext hX) ta tb tc) ?_ | refine callDE (f34 (hok.ext hX) ta tb tc) ?_ | refine callXE (f34 (hok.ext hX) ta tb tc) ?_
  rintro v Y hy ⟨q2, rfl, hq2, hl2⟩
  have hqY := hy.blk hq
  have g33 := f33 w0 (wds e) q q2 none none true true Y hqY hq2 (by rw [lw]; rfl) (by rw [lw]; decide)
  rw [lw, w0_len] at g33
  have hXY := hX.trans hy
  simp (maxSteps := 1000000) (disch := omega) only [go_sem, Nat.reduceEqDiff, Nat.reduceLT, Nat.reduceAdd, Nat.reduceSub, Nat.reduceMul, Nat.reduceBEq, Int.reduceLT, Int.reduceAdd, Int.reduceMul, Int.reduceSub, Int.reduceToNat, Int.reduceLE, Int.reduceEq, ↓reduceIte, reduceCtorEq, Int.reduceNeg, Nat.reduceLeDiff]
  first | refine callB_intro (g33) ?_ | refine callD_intro (g33) ?_ | refine callP_intro (fun _ => (g33)) ?_ | refine callX_pure (g33) ?_
  have hd0 : 0 < (diff w0 (wds e)).length := diff_pos (by rw [lw]; decide)
  have hd1 : (diff w0 (wds e)).length ≤ 1000 := diff_le (by rw [lw]; decide)
  have hsD : Sl i64 (Y ++ [some ⟨(diff w0 (wds e)).map (AV.int .i64), true⟩]) Y.length 0 (diff w0 (wds e)) := Sl.whole (o := true) (by rw [blkAt_app0]; rfl)
  have hlY := hXY.len
  change 0 < (dlt e).length at hd0
  change (dlt e).length ≤ 1000 at hd1
  change Sl i64 (Y ++ [some ⟨(dlt e).map (AV.int .i64), true⟩]) Y.length 0 (dlt e) at hsD
  have ed : diff w0 (wds e) = dlt e := rfl
  rw [ed]
  generalize dlt e = D at *
  simp (maxSteps := 1000000) (disch := omega) only [go_sem, Nat.reduceEqDiff, Nat.reduceLT, Nat.reduceAdd, Nat.reduceSub, Nat.reduceMul, Nat.reduceBEq, Int.reduceLT, Int.reduceAdd, Int.reduceMul, Int.reduceSub, Int.reduceToNat, Int.reduceLE, Int.reduceEq, ↓reduceIte, reduceCtorEq, Int.reduceNeg, Nat.reduceLeDiff]
  refine callBE (f35 hsD (by omega) hd0) ?_
  rintro v Z hz ⟨q3, rfl, hq3, hl3⟩
  rw [List.length_append] at hl3
  simp (maxSteps := 1000000) (disch := omega) only [go_sem, Nat.reduceEqDiff, Nat.reduceLT, Nat.reduceAdd, Nat.reduceSub, Nat.reduceMul, Nat.reduceBEq, Int.reduceLT, Int.reduceAdd, Int.reduceMul, Int.reduceSub, Int.reduceToNat, Int.reduceLE, Int.reduceEq, ↓reduceIte, reduceCtorEq, Int.reduceNeg, Nat.reduceLeDiff]
  refine fin_e (by simp) (by simp (maxSteps := 1000000) (disch := omega) only [resVal, resAll, resOne, rs16, Env.get, go_sem, Nat.reduceEqDiff, Nat.reduceLT, Nat.reduceAdd, Nat.reduceSub, Nat.reduceMul, Nat.reduceBEq, Int.reduceLT, Int.reduceAdd, Int.reduceMul, Int.reduceSub, Int.reduceToNat, Int.reduceLE, Int.reduceEq, ↓reduceIte, reduceCtorEq, Int.reduceNeg, Nat.reduceLeDiff, ] <;> rfl) ((hXY.to _).trans hz) ⟨q3, rfl, hq3, by omega⟩

/-! States that are kept, estimators that are the same, marks. -/
theorem f28_nil {H : Heap} : ACall Try.prog 28 [.nilm] H .nilm H := by
  refine acall28 (by simp) (acs_start ?_)
  unfold c28
  simp (maxSteps := 1000000) (disch := omega) only [go_sem, Nat.reduceEqDiff, Nat.reduceLT, Nat.reduceAdd, Nat.reduceSub, Nat.reduceMul, Nat.reduceBEq, Int.reduceLT, Int.reduceAdd, Int.reduceMul, Int.reduceSub, Int.reduceToNat, Int.reduceLE, Int.reduceEq, ↓reduceIte, reduceCtorEq, Int.reduceNeg, Nat.reduceLeDiff]
  exact fin_ext (by simp) (Ext.refl _) (by simp (maxSteps := 1000000) (disch := omega) only [resVal, resAll, resOne, rs28, Env.get, go_sem, Nat.reduceEqDiff, Nat.reduceLT, Nat.reduceAdd, Nat.reduceSub, Nat.reduceMul, Nat.reduceBEq, Int.reduceLT, Int.reduceAdd, Int.reduceMul, Int.reduceSub, Int.reduceToNat, Int.reduceLE, Int.reduceEq, ↓reduceIte, reduceCtorEq, Int.reduceNeg, Nat.reduceLeDiff]) (by simp only [AV.und, AV.unds, and_self])
theorem f12_nil {a b c d : Int} {e : Es} {H : Heap} : ACallE Try.prog 12 [.nilm, .agg [.int .i64 a, .int .i64 b, .int .i64 c, .int .i64 d], .agg e.av] H fun v H' => ∃ p, v = .mapp p ∧ blkAt H' p = some ⟨[.mapo [.agg [.int .i64 a, .int .i64 b, .int .i64 c, .int .i64 d]] [.agg e.av]], true⟩ ∧ H.length ≤ p := by
  refine acallE (fun v Hf h => acallK12 (by simp) h) (acs_start ?_)
  have full : (AV.agg e.av).full = true := rfl
  have len : e.av.length = 29 := rfl
  have all : e.av.all AV.cell = true := rfl
  have tk : List.take 29 e.av = e.av := rfl
  unfold c12
  simp (maxSteps := 1000000) (disch := omega) only [go_sem, Nat.reduceEqDiff, Nat.reduceLT, Nat.reduceAdd, Nat.reduceSub, Nat.reduceMul, Nat.reduceBEq, Int.reduceLT, Int.reduceAdd, Int.reduceMul, Int.reduceSub, Int.reduceToNat, Int.reduceLE, Int.reduceEq, ↓reduceIte, reduceCtorEq, Int.reduceNeg, Nat.reduceLeDiff,  full, len, all, tk]
  first | refine callB_intro (f28_nil) ?_ | refine callD_intro (f28_nil) ?_ | refine callP_intro (fun _ => (f28_nil)) ?_ | refine callX_pure (f28_nil) ?_
  simp (maxSteps := 1000000) (disch := omega) only [go_sem, Nat.reduceEqDiff, Nat.reduceLT, Nat.reduceAdd, Nat.reduceSub, Nat.reduceMul, Nat.reduceBEq, Int.reduceLT, Int.reduceAdd, Int.reduceMul, Int.reduceSub, Int.reduceToNat, Int.reduceLE, Int.reduceEq, ↓reduceIte, reduceCtorEq, Int.reduceNeg, Nat.reduceLeDiff,  full, len, all, tk]
  refine fin_e (by simp) (by simp (maxSteps := 1000000) (disch := omega) only [resVal, resAll, resOne, rs12, Env.get, go_sem, Nat.reduceEqDiff, Nat.reduceLT, Nat.reduceAdd, Nat.reduceSub, Nat.reduceMul, Nat.reduceBEq, Int.reduceLT, Int.reduceAdd, Int.reduceMul, Int.reduceSub, Int.reduceToNat, Int.reduceLE, Int.reduceEq, ↓reduceIte, reduceCtorEq, Int.reduceNeg, Nat.reduceLeDiff, ] <;> rfl) (Ext.app _ _) ⟨H.length + 2, rfl, by simp only [go_sem, Nat.reduceEqDiff, Nat.reduceLT, Nat.reduceAdd, Nat.reduceSub, Nat.reduceMul, Nat.reduceBEq, Int.reduceLT, Int.reduceAdd, Int.reduceMul, Int.reduceSub, Int.reduceToNat, Int.reduceLE, Int.reduceEq, ↓reduceIte, reduceCtorEq, Int.reduceNeg, Nat.reduceLeDiff], by omega⟩
structure Tk.eqv (t u : Tk) : Prop where
  xr : t.xr = u.xr
  xc : t.xc = u.xc
  xl : t.xl = u.xl
  pr : t.pr = u.pr
  pc : t.pc = u.pc
  pl : t.pl = u.pl
theorem Tk.eqv.refl (t : Tk) : t.eqv t := ⟨rfl, rfl, rfl, rfl, rfl, rfl⟩
structure Es.eqv (e f : Es) : Prop where
  t : e.t0 = f.t0 ∧ e.t1 = f.t1 ∧ e.t2 = f.t2 ∧ e.t3 = f.t3
  a : e.a.eqv f.a
  b : e.b.eqv f.b
  c : e.c.eqv f.c
  n : e.st = f.st ∧ e.co = f.co ∧ e.o0 = f.o0 ∧ e.o1 = f.o1 ∧ e.o2 = f.o2 ∧ e.o3 = f.o3 ∧ e.sat = f.sat
theorem Es.eqv.refl (e : Es) : e.eqv e := ⟨⟨rfl, rfl, rfl, rfl⟩, .refl _, .refl _, .refl _, rfl, rfl, rfl, rfl, rfl, rfl, rfl⟩
theorem f29 {t u : Tk} {H : Heap} (h : t.ok H) (h2 : u.ok H) (hq : t.eqv u) : ACall Try.prog 29 [.agg t.av, .agg u.av] H (.bool true) H := by
  refine acall29 (by simp) (acs_start ?_)
  obtain ⟨xr, xc, xl, xp, xo, xk, pr, pc, pl, pp, po, pk⟩ := t
  obtain ⟨yr, yc, yl, yp, yo, yk, qr, qc, ql, qp, qo, qk⟩ := u
  obtain ⟨rfl, rfl, rfl, rfl, rfl, rfl⟩ := hq
  obtain ⟨hx, hp, lx, lp⟩ := h
  obtain ⟨hy, hv, _, _⟩ := h2
  simp only at hx hp lx lp hy hv
  have g1 := fun (G : Heap) => f52 (R1 := xr) (C1 := xc) (R2 := xr) (C2 := xc) (k1 := xk) (k2 := yk) (hx.app G) (hy.app G) lx
  have g2 := fun (G : Heap) => f52 (R1 := pr) (C1 := pc) (R2 := pr) (C2 := pc) (k1 := pk) (k2 := qk) (hp.app G) (hv.app G) lp
  have e1 : sameB xr xc xl xr xc xl = true := by unfold sameB; simp
  have e2 : sameB pr pc pl pr pc pl = true := by unfold sameB; simp
  rw [e1] at g1
  rw [e2] at g2
  unfold Tk.av c29
  simp (maxSteps := 1000000) (disch := omega) only [go_sem, Nat.reduceEqDiff, Nat.reduceLT, Nat.reduceAdd, Nat.reduceSub, Nat.reduceMul, Nat.reduceBEq, Int.reduceLT, Int.reduceAdd, Int.reduceMul, Int.reduceSub, Int.reduceToNat, Int.reduceLE, Int.reduceEq, ↓reduceIte, reduceCtorEq, Int.reduceNeg, Nat.reduceLeDiff]
  first | refine callB_intro (g1 _) ?_ | refine callD_intro (g1 _) ?_ | refine callP_intro (fun _ => (g1 _)) ?_ | refine callX_pure (g1 _) ?_
  simp (maxSteps := 1000000) (disch := omega) only [go_sem, Nat.reduceEqDiff, Nat.reduceLT, Nat.reduceAdd, Nat.reduceSub, Nat.reduceMul, Nat.reduceBEq, Int.reduceLT, Int.reduceAdd, Int.reduceMul, Int.reduceSub, Int.reduceToNat, Int.reduceLE, Int.reduceEq, ↓reduceIte, reduceCtorEq, Int.reduceNeg, Nat.reduceLeDiff]
  first | refine callB_intro (g2 _) ?_ | refine callD_intro (g2 _) ?_ | refine callP_intro (fun _ => (g2 _)) ?_ | refine callX_pure (g2 _) ?_
  simp (maxSteps := 1000000) (disch := omega) only [go_sem, Nat.reduceEqDiff, Nat.reduceLT, Nat.reduceAdd, Nat.reduceSub, Nat.reduceMul, Nat.reduceBEq, Int.reduceLT, Int.reduceAdd, Int.reduceMul, Int.reduceSub, Int.reduceToNat, Int.reduceLE, Int.reduceEq, ↓reduceIte, reduceCtorEq, Int.reduceNeg, Nat.reduceLeDiff]
  exact fin_ext (by simp) (Ext.app _ _) (by simp (maxSteps := 1000000) (disch := omega) only [resVal, resAll, resOne, rs29, Env.get, go_sem, Nat.reduceEqDiff, Nat.reduceLT, Nat.reduceAdd, Nat.reduceSub, Nat.reduceMul, Nat.reduceBEq, Int.reduceLT, Int.reduceAdd, Int.reduceMul, Int.reduceSub, Int.reduceToNat, Int.reduceLE, Int.reduceEq, ↓reduceIte, reduceCtorEq, Int.reduceNeg, Nat.reduceLeDiff]) (by simp only [AV.und, AV.unds, and_self])
theorem f13 {e f : Es} {H : Heap} (h : e.ok H) (h2 : f.ok H) (hq : e.eqv f) : ACall Try.prog 13 [.agg e.av, .agg f.av] H (.bool true) H := by
  refine acall13 (by simp) (acs_start ?_)
  have ga := fun (G : Heap) => f29 (h.app G).ha (h2.app G).ha hq.a
  have gb := fun (G : Heap) => f29 (h.app G).hb (h2.app G).hb hq.b
  have gc := fun (G : Heap) => f29 (h.app G).hc (h2.app G).hc hq.c
  obtain ⟨⟨a1, a2, a3, a4⟩, _, _, _, b1, b2, b3, b4, b5, b6, b7⟩ := hq
  unfold Tk.av at ga gb gc
  unfold Es.av c13
  simp (maxSteps := 1000000) (disch := omega) only [go_sem, Nat.reduceEqDiff, Nat.reduceLT, Nat.reduceAdd, Nat.reduceSub, Nat.reduceMul, Nat.reduceBEq, Int.reduceLT, Int.reduceAdd, Int.reduceMul, Int.reduceSub, Int.reduceToNat, Int.reduceLE, Int.reduceEq, ↓reduceIte, reduceCtorEq, Int.reduceNeg, Nat.reduceLeDiff]
  first | refine callB_intro (ga _) ?_ | refine callD_intro (ga _) ?_ | refine callP_intro (fun _ => (ga _)) ?_ | refine callX_pure (ga _) ?_
  simp (maxSteps := 1000000) (disch := omega) only [go_sem, Nat.reduceEqDiff, Nat.reduceLT, Nat.reduceAdd, Nat.reduceSub, Nat.reduceMul, Nat.reduceBEq, Int.reduceLT, Int.reduceAdd, Int.reduceMul, Int.reduceSub, Int.reduceToNat, Int.reduceLE, Int.reduceEq, ↓reduceIte, reduceCtorEq, Int.reduceNeg, Nat.reduceLeDiff]
  first | refine callB_intro (gb _) ?_ | refine callD_intro (gb _) ?_ | refine callP_intro (fun _ => (gb _)) ?_ | refine callX_pure (gb _) ?_
  simp (maxSteps := 1000000) (disch := omega) only [go_sem, Nat.reduceEqDiff, Nat.reduceLT, Nat.reduceAdd, Nat.reduceSub, Nat.reduceMul, Nat.reduceBEq, Int.reduceLT, Int.reduceAdd, Int.reduceMul, Int.reduceSub, Int.reduceToNat, Int.reduceLE, Int.reduceEq, ↓reduceIte, reduceCtorEq, Int.reduceNeg, Nat.reduceLeDiff]
  first | refine callB_intro (gc _) ?_ | refine callD_intro (gc _) ?_ | refine callP_intro (fun _ => (gc _)) ?_ | refine callX_pure (gc _) ?_
  simp (maxSteps := 1000000) (disch := omega) only [go_sem, Nat.reduceEqDiff, Nat.reduceLT, Nat.reduceAdd, Nat.reduceSub, Nat.reduceMul, Nat.reduceBEq, Int.reduceLT, Int.reduceAdd, Int.reduceMul, Int.reduceSub, Int.reduceToNat, Int.reduceLE, Int.reduceEq, ↓reduceIte, reduceCtorEq, Int.reduceNeg, Nat.reduceLeDiff,  a1, a2, a3, a4, b1, b2, b3, b4, b5, b6, b7]
  exact fin_ext (by simp) (Ext.app _ _) (by simp (maxSteps := 1000000) (disch := omega) only [resVal, resAll, resOne, rs13, Env.get, go_sem, Nat.reduceEqDiff, Nat.reduceLT, Nat.reduceAdd, Nat.reduceSub, Nat.reduceMul, Nat.reduceBEq, Int.reduceLT, Int.reduceAdd, Int.reduceMul, Int.reduceSub, Int.reduceToNat, Int.reduceLE, Int.reduceEq, ↓reduceIte, reduceCtorEq, Int.reduceNeg, Nat.reduceLeDiff]) (by simp only [AV.und, AV.unds, and_self])
def okM (n : Int) : Bool := decide (0 ≤ n) && decide (n ≤ 4611686018427387904)
theorem f36 {a : Int} {H : Heap} : ACall Try.prog 36 [.int .i64 a] H (.bool (!okM a)) H := by
  refine acall36 (by simp) (acs_start ?_)
  unfold c36
  by_cases h : a < 0
  · have e : okM a = false := by unfold okM; simp; omega
    rw [e]
    simp (maxSteps := 1000000) (disch := omega) only [go_sem, Nat.reduceEqDiff, Nat.reduceLT, Nat.reduceAdd, Nat.reduceSub, Nat.reduceMul, Nat.reduceBEq, Int.reduceLT, Int.reduceAdd, Int.reduceMul, Int.reduceSub, Int.reduceToNat, Int.reduceLE, Int.reduceEq, ↓reduceIte, reduceCtorEq, Int.reduceNeg, Nat.reduceLeDiff,  h]
    exact fin_ext (by simp) (Ext.refl _) (by simp (maxSteps := 1000000) (disch := omega) only [resVal, resAll, resOne, rs36, Env.get, go_sem, Nat.reduceEqDiff, Nat.reduceLT, Nat.reduceAdd, Nat.reduceSub, Nat.reduceMul, Nat.reduceBEq, Int.reduceLT, Int.reduceAdd, Int.reduceMul, Int.reduceSub, Int.reduceToNat, Int.reduceLE, Int.reduceEq, ↓reduceIte, reduceCtorEq, Int.reduceNeg, Nat.reduceLeDiff]) (by simp only [AV.und, AV.unds, and_self])
  · by_cases h2 : 4611686018427387904 < a
    · have e : okM a = false := by unfold okM; simp; omega
      rw [e]
      simp (maxSteps := 1000000) (disch := omega) only [go_sem, Nat.reduceEqDiff, Nat.reduceLT, Nat.reduceAdd, Nat.reduceSub, Nat.reduceMul, Nat.reduceBEq, Int.reduceLT, Int.reduceAdd, Int.reduceMul, Int.reduceSub, Int.reduceToNat, Int.reduceLE, Int.reduceEq, ↓reduceIte, reduceCtorEq, Int.reduceNeg, Nat.reduceLeDiff,  h, h2]
      exact fin_ext (by simp) (Ext.refl _) (by simp (maxSteps := 1000000) (disch := omega) only [resVal, resAll, resOne, rs36, Env.get, go_sem, Nat.reduceEqDiff, Nat.reduceLT, Nat.reduceAdd, Nat.reduceSub, Nat.reduceMul, Nat.reduceBEq, Int.reduceLT, Int.reduceAdd, Int.reduceMul, Int.reduceSub, Int.reduceToNat, Int.reduceLE, Int.reduceEq, ↓reduceIte, reduceCtorEq, Int.reduceNeg, Nat.reduceLeDiff]) (by simp only [AV.und, AV.unds, and_self])
    · have e : okM a = true := by unfold okM; simp; omega
      rw [e]
      simp (maxSteps := 1000000) (disch := omega) only [go_sem, Nat.reduceEqDiff, Nat.reduceLT, Nat.reduceAdd, Nat.reduceSub, Nat.reduceMul, Nat.reduceBEq, Int.reduceLT, Int.reduceAdd, Int.reduceMul, Int.reduceSub, Int.reduceToNat, Int.reduceLE, Int.reduceEq, ↓reduceIte, reduceCtorEq, Int.reduceNeg, Nat.reduceLeDiff,  h, h2]
      exact fin_ext (by simp) (Ext.refl _) (by simp (maxSteps := 1000000) (disch := omega) only [resVal, resAll, resOne, rs36, Env.get, go_sem, Nat.reduceEqDiff, Nat.reduceLT, Nat.reduceAdd, Nat.reduceSub, Nat.reduceMul, Nat.reduceBEq, Int.reduceLT, Int.reduceAdd, Int.reduceMul, Int.reduceSub, Int.reduceToNat, Int.reduceLE, Int.reduceEq, ↓reduceIte, reduceCtorEq, Int.reduceNeg, Nat.reduceLeDiff]) (by simp only [AV.und, AV.unds, and_self])
theorem hb36 : hasBody Try.prog 36 = true := by kernel_rfl
def okN (n : Int) : Bool := decide (1 ≤ n) && decide (n ≤ 39)
def mrkB (a b c d : Int) : Bool := okM a && okM b && okM c && okN d
theorem f17 {a b c d : Int} {H : Heap} : ACall Try.prog 17 [.agg [.int .i64 a, .int .i64 b, .int .i64 c, .int .i64 d]] H (.bool (mrkB a b c d)) H := by
  refine acall17 (by simp) (acs_start ?_)
  have g37 := fun (X : Heap) (p : Nat) (h : blkAt X p = some ⟨[.int .i64 a, .int .i64 b, .int .i64 c], true⟩) => f37p (odd := fun n => !okM n) (k := some 3) hb36 (fun _ _ => f36) (l := [a, b, c]) (p := p) (off := 0) (H := X) (Sl.whole (o := true) h) (by simp)
  simp only [List.length_cons, List.length_nil, Nat.reduceAdd, List.any_cons, List.any_nil, Bool.or_false] at g37
  have fin : (!(!okM a || (!okM b || !okM c))) = (okM a && okM b && okM c) := by
    cases okM a <;> cases okM b <;> cases okM c <;> rfl
  unfold c17 mrkB okN
  simp (maxSteps := 1000000) (disch := omega) only [go_sem, Nat.reduceEqDiff, Nat.reduceLT, Nat.reduceAdd, Nat.reduceSub, Nat.reduceMul, Nat.reduceBEq, Int.reduceLT, Int.reduceAdd, Int.reduceMul, Int.reduceSub, Int.reduceToNat, Int.reduceLE, Int.reduceEq, ↓reduceIte, reduceCtorEq, Int.reduceNeg, Nat.reduceLeDiff]
  first | refine callB_intro (g37 _ _ (by simp only [go_sem, Nat.reduceEqDiff, Nat.reduceLT, Nat.reduceAdd, Nat.reduceSub, Nat.reduceMul, Nat.reduceBEq, Int.reduceLT, Int.reduceAdd, Int.reduceMul, Int.reduceSub, Int.reduceToNat, Int.reduceLE, Int.reduceEq, ↓reduceIte, reduceCtorEq, Int.reduceNeg, Nat.reduceLeDiff])) ?_ | refine callD_intro (g37 _ _ (by simp only [go_sem, Nat.reduceEqDiff, Nat.reduceLT, Nat.reduceAdd, Nat.reduceSub, Nat.reduceMul, Nat.reduceBEq, Int.reduceLT, Int.reduceAdd, Int.reduceMul, Int.reduceSub, Int.reduceToNat, Int.reduceLE, Int.reduceEq, ↓reduceIte, reduceCtorEq, Int.reduceNeg, Nat.reduceLeDiff])) ?_ | refine callP_intro (fun _ => (g37 _ _ (by simp only [go_sem, Nat.reduceEqDiff, Nat.reduceLT, Nat.reduceAdd, Nat.reduceSub, Nat.reduceMul, Nat.reduceBEq, Int.reduceLT, Int.reduceAdd, Int.reduceMul, Int.reduceSub, Int.reduceToNat, Int.reduceLE, Int.reduceEq, ↓reduceIte, reduceCtorEq, Int.reduceNeg, Nat.reduceLeDiff]))) ?_ | refine callX_pure (g37 _ _ (by simp only [go_sem, Nat.reduceEqDiff, Nat.reduceLT, Nat.reduceAdd, Nat.reduceSub, Nat.reduceMul, Nat.reduceBEq, Int.reduceLT, Int.reduceAdd, Int.reduceMul, Int.reduceSub, Int.reduceToNat, Int.reduceLE, Int.reduceEq, ↓reduceIte, reduceCtorEq, Int.reduceNeg, Nat.reduceLeDiff])) ?_
  simp (maxSteps := 1000000) (disch := omega) only [go_sem, Nat.reduceEqDiff, Nat.reduceLT, Nat.reduceAdd, Nat.reduceSub, Nat.reduceMul, Nat.reduceBEq, Int.reduceLT, Int.reduceAdd, Int.reduceMul, Int.reduceSub, Int.reduceToNat, Int.reduceLE, Int.reduceEq, ↓reduceIte, reduceCtorEq, Int.reduceNeg, Nat.reduceLeDiff,  fin]
  cases hm : okM a && okM b && okM c with
  | false =>
    simp only [Bool.false_and]
    simp (maxSteps := 1000000) (disch := omega) only [go_sem, Nat.reduceEqDiff, Nat.reduceLT, Nat.reduceAdd, Nat.reduceSub, Nat.reduceMul, Nat.reduceBEq, Int.reduceLT, Int.reduceAdd, Int.reduceMul, Int.reduceSub, Int.reduceToNat, Int.reduceLE, Int.reduceEq, ↓reduceIte, reduceCtorEq, Int.reduceNeg, Nat.reduceLeDiff]
    exact fin_ext (by simp) (Ext.app _ _) (by simp (maxSteps := 1000000) (disch := omega) only [resVal, resAll, resOne, rs17, Env.get, go_sem, Nat.reduceEqDiff, Nat.reduceLT, Nat.reduceAdd, Nat.reduceSub, Nat.reduceMul, Nat.reduceBEq, Int.reduceLT, Int.reduceAdd, Int.reduceMul, Int.reduceSub, Int.reduceToNat, Int.reduceLE, Int.reduceEq, ↓reduceIte, reduceCtorEq, Int.reduceNeg, Nat.reduceLeDiff]) (by simp only [AV.und, AV.unds, and_self])
  | true =>
    by_cases h1 : 1 ≤ d
    · simp (maxSteps := 1000000) (disch := omega) only [go_sem, Nat.reduceEqDiff, Nat.reduceLT, Nat.reduceAdd, Nat.reduceSub, Nat.reduceMul, Nat.reduceBEq, Int.reduceLT, Int.reduceAdd, Int.reduceMul, Int.reduceSub, Int.reduceToNat, Int.reduceLE, Int.reduceEq, ↓reduceIte, reduceCtorEq, Int.reduceNeg, Nat.reduceLeDiff,  h1]
      exact fin_ext (by simp) (Ext.app _ _) (by simp (maxSteps := 1000000) (disch := omega) only [resVal, resAll, resOne, rs17, Env.get, go_sem, Nat.reduceEqDiff, Nat.reduceLT, Nat.reduceAdd, Nat.reduceSub, Nat.reduceMul, Nat.reduceBEq, Int.reduceLT, Int.reduceAdd, Int.reduceMul, Int.reduceSub, Int.reduceToNat, Int.reduceLE, Int.reduceEq, ↓reduceIte, reduceCtorEq, Int.reduceNeg, Nat.reduceLeDiff]) (by simp only [AV.und, AV.unds, and_self])
    · simp (maxSteps := 1000000) (disch := omega) only [go_sem, Nat.reduceEqDiff, Nat.reduceLT, Nat.reduceAdd, Nat.reduceSub, Nat.reduceMul, Nat.reduceBEq, Int.reduceLT, Int.reduceAdd, Int.reduceMul, Int.reduceSub, Int.reduceToNat, Int.reduceLE, Int.reduceEq, ↓reduceIte, reduceCtorEq, Int.reduceNeg, Nat.reduceLeDiff,  h1, Bool.false_and]
      exact fin_ext (by simp) (Ext.app _ _) (by simp (maxSteps := 1000000) (disch := omega) only [resVal, resAll, resOne, rs17, Env.get, go_sem, Nat.reduceEqDiff, Nat.reduceLT, Nat.reduceAdd, Nat.reduceSub, Nat.reduceMul, Nat.reduceBEq, Int.reduceLT, Int.reduceAdd, Int.reduceMul, Int.reduceSub, Int.reduceToNat, Int.reduceLE, Int.reduceEq, ↓reduceIte, reduceCtorEq, Int.reduceNeg, Nat.reduceLeDiff]) (by simp only [AV.und, AV.unds, and_self])
theorem f25 {H : Heap} : ACall Try.prog 25 [] H (.agg [.int .i64 2097152, .int .i64 16777216, .int .i64 262144, .int .i64 16777216, .int .i64 16777216, .int .i64 268435456]) H := by
  refine acall25 (by simp) (acs_start ?_)
  unfold c25
  simp (maxSteps := 1000000) (disch := omega) only [go_sem, Nat.reduceEqDiff, Nat.reduceLT, Nat.reduceAdd, Nat.reduceSub, Nat.reduceMul, Nat.reduceBEq, Int.reduceLT, Int.reduceAdd, Int.reduceMul, Int.reduceSub, Int.reduceToNat, Int.reduceLE, Int.reduceEq, ↓reduceIte, reduceCtorEq, Int.reduceNeg, Nat.reduceLeDiff]
  exact fin_ext (by simp) (Ext.app _ _) (by simp (maxSteps := 1000000) (disch := omega) only [resVal, resAll, resOne, rs25, Env.get, go_sem, Nat.reduceEqDiff, Nat.reduceLT, Nat.reduceAdd, Nat.reduceSub, Nat.reduceMul, Nat.reduceBEq, Int.reduceLT, Int.reduceAdd, Int.reduceMul, Int.reduceSub, Int.reduceToNat, Int.reduceLE, Int.reduceEq, ↓reduceIte, reduceCtorEq, Int.reduceNeg, Nat.reduceLeDiff]) (by simp only [AV.und, AV.unds, and_self])
theorem dlt0 {e : Es} (h : E0 e) : dlt e = [0] := by
  unfold dlt
  rw [h.wds, diff_same]
  rfl
theorem pc0 : pc [0] 1 = [0, 0, 0, 0, 0, 0, 0, 0] := rfl
theorem f10 {H : Heap} : ACall Try.prog 10 [] H (.bool true) H := by
  refine acall10 (by simp) (acs_start ?_)
  have hm : mayB 2097152 16777216 262144 16777216 16777216 268435456 = true := by decide
  unfold c10
  simp (maxSteps := 1000000) (disch := omega) only [go_sem, Nat.reduceEqDiff, Nat.reduceLT, Nat.reduceAdd, Nat.reduceSub, Nat.reduceMul, Nat.reduceBEq, Int.reduceLT, Int.reduceAdd, Int.reduceMul, Int.reduceSub, Int.reduceToNat, Int.reduceLE, Int.reduceEq, ↓reduceIte, reduceCtorEq, Int.reduceNeg, Nat.reduceLeDiff]
  first | refine callB_intro (f25) ?_ | refine callD_intro (f25) ?_ | refine callP_intro (fun _ => (f25)) ?_ | refine callX_pure (f25) ?_
  simp (maxSteps := 1000000) (disch := omega) only [go_sem, Nat.reduceEqDiff, Nat.reduceLT, Nat.reduceAdd, Nat.reduceSub, Nat.reduceMul, Nat.reduceBEq, Int.reduceLT, Int.reduceAdd, Int.reduceMul, Int.reduceSub, Int.reduceToNat, Int.reduceLE, Int.reduceEq, ↓reduceIte, reduceCtorEq, Int.reduceNeg, Nat.reduceLeDiff]
  first | refine callBE (f15 hm) ?_ | refine callDE (f15 hm) ?_ | refine callXE (f15 hm) ?_
  rintro v X hx ⟨e, rfl, he, hok⟩
  have full : (AV.agg e.av).full = true := rfl
  have len : e.av.length = 29 := rfl
  have all : e.av.all AV.cell = true := rfl
  have tk : List.take 29 e.av = e.av := rfl
  have drp : List.drop 29 e.av = [] := rfl
  have g16 := fun G => f16 hm he.right (hok.app G)
  rw [dlt0 he] at g16
  simp only [List.length_cons, List.length_nil, Nat.reduceAdd, Nat.reduceDiv] at g16
  rw [pc0] at g16
  simp (maxSteps := 1000000) (disch := omega) only [go_sem, Nat.reduceEqDiff, Nat.reduceLT, Nat.reduceAdd, Nat.reduceSub, Nat.reduceMul, Nat.reduceBEq, Int.reduceLT, Int.reduceAdd, Int.reduceMul, Int.reduceSub, Int.reduceToNat, Int.reduceLE, Int.reduceEq, ↓reduceIte, reduceCtorEq, Int.reduceNeg, Nat.reduceLeDiff,  full, len, all, tk, drp]
  first | refine callB_intro (f25) ?_ | refine callD_intro (f25) ?_ | refine callP_intro (fun _ => (f25)) ?_ | refine callX_pure (f25) ?_
  simp (maxSteps := 1000000) (disch := omega) only [go_sem, Nat.reduceEqDiff, Nat.reduceLT, Nat.reduceAdd, Nat.reduceSub, Nat.reduceMul, Nat.reduceBEq, Int.reduceLT, Int.reduceAdd, Int.reduceMul, Int.reduceSub, Int.reduceToNat, Int.reduceLE, Int.reduceEq, ↓reduceIte, reduceCtorEq, Int.reduceNeg, Nat.reduceLeDiff,  full, len, all, tk, drp]
  first | refine callBE (g16 _) ?_ | refine callDE (g16 _) ?_ | refine callXE (g16 _) ?_
  rintro v Y hy ⟨q, rfl, hq, hl⟩
  have hXY : Ext X Y := (Ext.app _ _).trans hy
  have b1 : blkAt Y X.length = some ⟨e.av, true⟩ := hy.blk (by simp only [go_sem, Nat.reduceEqDiff, Nat.reduceLT, Nat.reduceAdd, Nat.reduceSub, Nat.reduceMul, Nat.reduceBEq, Int.reduceLT, Int.reduceAdd, Int.reduceMul, Int.reduceSub, Int.reduceToNat, Int.reduceLE, Int.reduceEq, ↓reduceIte, reduceCtorEq, Int.reduceNeg, Nat.reduceLeDiff])
  simp only [List.map_cons, List.map_nil] at hq
  simp (maxSteps := 1000000) (disch := omega) only [go_sem, Nat.reduceEqDiff, Nat.reduceLT, Nat.reduceAdd, Nat.reduceSub, Nat.reduceMul, Nat.reduceBEq, Int.reduceLT, Int.reduceAdd, Int.reduceMul, Int.reduceSub, Int.reduceToNat, Int.reduceLE, Int.reduceEq, ↓reduceIte, reduceCtorEq, Int.reduceNeg, Nat.reduceLeDiff,  b1, len, tk]
  refine callBE f12_nil ?_
  rintro v Z hz ⟨p, rfl, hp, hpl⟩
  have b2 := hz.blk b1
  have q2 := hz.blk hq
  have okZ := (hok.ext hXY).ext hz
  have l2 := blkAt_lt b2
  have lq := blkAt_lt q2
  have lp := blkAt_lt hp
  have g13 := fun G => f13 (okZ.app G) (okZ.app G) (.refl e)
  have m17 : mrkB 0 0 0 39 = true := by decide
  have g17 := fun (G : Heap) => f17 (a := 0) (b := 0) (c := 0) (d := 39) (H := G)
  rw [m17] at g17
  simp (maxSteps := 1000000) (disch := omega) only [go_sem, Nat.reduceEqDiff, Nat.reduceLT, Nat.reduceAdd, Nat.reduceSub, Nat.reduceMul, Nat.reduceBEq, Int.reduceLT, Int.reduceAdd, Int.reduceMul, Int.reduceSub, Int.reduceToNat, Int.reduceLE, Int.reduceEq, ↓reduceIte, reduceCtorEq, Int.reduceNeg, Nat.reduceLeDiff,  hp, full, len, all, tk, drp, b2, q2, l2, lq, lp, blkAt_lo]
  first | refine callB_intro (g13 _) ?_ | refine callD_intro (g13 _) ?_ | refine callP_intro (fun _ => (g13 _)) ?_ | refine callX_pure (g13 _) ?_
  simp (maxSteps := 1000000) (disch := omega) only [go_sem, Nat.reduceEqDiff, Nat.reduceLT, Nat.reduceAdd, Nat.reduceSub, Nat.reduceMul, Nat.reduceBEq, Int.reduceLT, Int.reduceAdd, Int.reduceMul, Int.reduceSub, Int.reduceToNat, Int.reduceLE, Int.reduceEq, ↓reduceIte, reduceCtorEq, Int.reduceNeg, Nat.reduceLeDiff]
  first | refine callB_intro (g17 _) ?_ | refine callD_intro (g17 _) ?_ | refine callP_intro (fun _ => (g17 _)) ?_ | refine callX_pure (g17 _) ?_
  simp (maxSteps := 1000000) (disch := omega) only [go_sem, Nat.reduceEqDiff, Nat.reduceLT, Nat.reduceAdd, Nat.reduceSub, Nat.reduceMul, Nat.reduceBEq, Int.reduceLT, Int.reduceAdd, Int.reduceMul, Int.reduceSub, Int.reduceToNat, Int.reduceLE, Int.reduceEq, ↓reduceIte, reduceCtorEq, Int.reduceNeg, Nat.reduceLeDiff]
  exact fin_ext (by simp) ((((hx.trans hXY).trans hz).to _)) (by simp (maxSteps := 1000000) (disch := omega) only [resVal, resAll, resOne, rs10, Env.get, go_sem, Nat.reduceEqDiff, Nat.reduceLT, Nat.reduceAdd, Nat.reduceSub, Nat.reduceMul, Nat.reduceBEq, Int.reduceLT, Int.reduceAdd, Int.reduceMul, Int.reduceSub, Int.reduceToNat, Int.reduceLE, Int.reduceEq, ↓reduceIte, reduceCtorEq, Int.reduceNeg, Nat.reduceLeDiff]) (by simp only [AV.und, AV.unds, and_self])

/-! The law SnapMarks. -/

/-! The law SnapBeginning. -/

/-! A part is taken. -/
structure Sn where
  a : Int
  b : Int
  c : Int
  d : Int
  h : List Bool
  p : List Int
structure Sn.ok (s : Sn) : Prop where
  h : s.h.length = 5
  p : s.p.length = 40
def Sn.av (s : Sn) : List AV := .int .i64 s.a :: .int .i64 s.b :: .int .i64 s.c :: .int .i64 s.d :: (s.h.map AV.bool ++ s.p.map (AV.int .i64))
theorem all_int (l : List Int) : (l.map (AV.int .i64)).all AV.cell = true := by simp only [List.all_map, List.all_eq_true]; intro x _; rfl
theorem all_bool (l : List Bool) : (l.map AV.bool).all AV.cell = true := by simp only [List.all_map, List.all_eq_true]; intro x _; rfl
theorem unds_int (n : Nat) : ∀ l : List Int, AV.unds n (l.map (AV.int .i64))
  | [] => by simp only [List.map_nil, AV.unds]
  | x :: l => by simp only [List.map_cons, AV.unds, AV.und, true_and]; exact unds_int n l
theorem unds_bool (n : Nat) {r : List AV} (hr : AV.unds n r) : ∀ l : List Bool, AV.unds n (l.map AV.bool ++ r)
  | [] => hr
  | x :: l => by simp only [List.map_cons, List.cons_append, AV.unds, AV.und, true_and]; exact unds_bool n hr l
theorem Sn.unds' (n : Nat) (s : Sn) : AV.unds n s.av := by
  unfold Sn.av
  simp only [AV.unds, AV.und, true_and]
  exact unds_bool n (unds_int n _) _
theorem Sn.unds (n : Nat) (s : Sn) : AV.und n (.agg s.av) := by
  simp only [AV.und]
  exact Sn.unds' n s
theorem Sn.len {s : Sn} (h : s.ok) : s.av.length = 49 := by simp [Sn.av, h.h, h.p]
theorem Sn.all (s : Sn) : s.av.all AV.cell = true := by
  unfold Sn.av
  simp only [List.all_cons, List.all_append, all_int, all_bool]
  rfl
theorem Sn.full (s : Sn) : (AV.agg s.av).full = true := s.all
theorem Sn.tk {s : Sn} (h : s.ok) : List.take 49 s.av = s.av := List.take_of_length_le (by rw [Sn.len h]; omega)
theorem Sn.drp {s : Sn} (h : s.ok) : List.drop 49 s.av = [] := List.drop_of_length_le (by rw [Sn.len h]; omega)
def Sn.put (s : Sn) (k : Nat) (q : List Int) : Sn := { s with h := s.h.set k true, p := s.p.take (k * 8) ++ q ++ s.p.drop (k * 8 + 8) }
theorem Sn.put_ok {s : Sn} (h : s.ok) {k : Nat} (hk : k < 5) {q : List Int} (hq : q.length = 8) : (s.put k q).ok := by
  refine ⟨by simp [Sn.put, h.h], ?_⟩
  simp [Sn.put, h.p, hq]
  omega
def Sn.new (a b c d : Int) : Sn := ⟨a, b, c, d, List.replicate 5 false, List.replicate 40 0⟩
theorem Sn.new_ok (a b c d : Int) : (Sn.new a b c d).ok := ⟨rfl, rfl⟩
def takeS (s : Sn) (a b c d i : Int) (q : List Int) : Sn :=
  if mrkB a b c d = true ∧ 0 ≤ i ∧ i < (d + 7) / 8 then
    if a = s.a ∧ b = s.b ∧ c = s.c ∧ d = s.d then s.put i.toNat q
    else if a = s.a ∧ b = s.b ∧ c < s.c then s
    else (Sn.new a b c d).put i.toNat q
  else s
theorem mrkB_d39 {a b c d : Int} (h : mrkB a b c d = true) : 1 ≤ d ∧ d ≤ 39 := by
  unfold mrkB okN at h
  simp only [Bool.and_eq_true, decide_eq_true_eq] at h
  exact h.2

/-! The law SnapParts. -/
theorem eqInt : ∀ p : List Int, eqCells (List.replicate p.length .int) (p.map (AV.int .i64)) (p.map (AV.int .i64)) = some true
  | [] => rfl
  | x :: p => by
    have := eqInt p
    simp [List.replicate_succ, eqCells, this]
theorem eqBool {ks : List LK} {l : List AV} (h : eqCells ks l l = some true) : ∀ p : List Bool, eqCells (List.replicate p.length .bool ++ ks) (p.map AV.bool ++ l) (p.map AV.bool ++ l) = some true
  | [] => h
  | x :: p => by
    have := eqBool h p
    simp [List.replicate_succ, eqCells, this]
theorem Sn.eqs {s : Sn} (h : s.ok) : eqCells [.int, .int, .int, .int, .bool, .bool, .bool, .bool, .bool, .int, .int, .int, .int, .int, .int, .int, .int, .int, .int, .int, .int, .int, .int, .int, .int, .int, .int, .int, .int, .int, .int, .int, .int, .int, .int, .int, .int, .int, .int, .int, .int, .int, .int, .int, .int, .int, .int, .int, .int] s.av s.av = some true := by
  have h1 := eqInt s.p
  have h2 := eqBool h1 s.h
  rw [h.h, h.p] at h2
  have e : ∀ (ks : List LK) (l : List AV), eqCells ks l l = some true → eqCells (.int :: .int :: .int :: .int :: ks) (.int .i64 s.a :: .int .i64 s.b :: .int .i64 s.c :: .int .i64 s.d :: l) (.int .i64 s.a :: .int .i64 s.b :: .int .i64 s.c :: .int .i64 s.d :: l) = some true := by
    intro ks l hl
    simp [eqCells, hl]
  exact e _ _ h2
theorem Sn.has {s : Sn} (h : s.ok) {j : Nat} (hj : j < 5) : s.av[4 + j]? = some (.bool (s.h.getD j false)) := by
  unfold Sn.av
  have hl : j < (s.h.map AV.bool).length := by simp [h.h, hj]
  have hl2 : j < s.h.length := by rw [h.h]; exact hj
  rw [show 4 + j = j + 1 + 1 + 1 + 1 by omega]
  simp only [List.getElem?_cons_succ]
  rw [List.getElem?_append_left hl, List.getElem?_map, List.getElem?_eq_getElem hl2]
  simp [List.getD, List.getElem?_eq_getElem hl2]
def chunk (p : List Int) (j : Nat) : List Int := (p.drop (j * 8)).take 8
theorem Sn.part {s : Sn} (h : s.ok) (j : Nat) : List.take 8 (List.drop (9 + j * 8) s.av) = (chunk s.p j).map (AV.int .i64) := by
  unfold Sn.av chunk
  have hl : (s.h.map AV.bool).length = 5 := by simp [h.h]
  rw [show 9 + j * 8 = (5 + j * 8) + 1 + 1 + 1 + 1 by omega]
  simp only [List.drop_succ_cons]
  rw [← hl, List.drop_length_add_append, ← List.map_drop, ← List.map_take]
theorem chunk_put {p q : List Int} (h : p.length = 40) (hq : q.length = 8) {j k : Nat} (hj : j < 5) (hk : k < 5) : chunk (p.take (k * 8) ++ q ++ p.drop (k * 8 + 8)) j = if j = k then q else chunk p j := by
  unfold chunk
  apply List.ext_getElem?
  intro m
  by_cases hm : m < 8
  · rw [List.getElem?_take_of_lt hm, List.getElem?_drop, List.append_assoc, List.getElem?_append, List.length_take, h]
    by_cases e : j = k
    · subst e
      rw [if_pos rfl, if_neg (by omega), List.getElem?_append, if_pos (by omega)]
      congr 1
      omega
    · rw [if_neg e, List.getElem?_take_of_lt hm, List.getElem?_drop]
      by_cases h2 : j < k
      · rw [if_pos (by omega), List.getElem?_take_of_lt (by omega)]
      · rw [if_neg (by omega), List.getElem?_append, if_neg (by omega), List.getElem?_drop]
        congr 1
        omega
  · rw [List.getElem?_eq_none (by rw [List.length_take]; omega), List.getElem?_eq_none]
    split
    · omega
    · rw [List.length_take]; omega
theorem put_has {s : Sn} (h : s.ok) {j k : Nat} (hj : j < 5) (hk : k < 5) (q : List Int) : (s.put k q).h.getD j false = if j = k then true else s.h.getD j false := by
  unfold Sn.put
  simp only [List.getD, List.getElem?_set, h.h]
  by_cases e : k = j
  · subst e; simp [hk]
  · have e2 : ¬ j = k := fun x => e x.symm
    rw [if_neg e, if_neg e2]

/-! The law SnapParts, joined. -/
theorem Sn.new_has (a b c d : Int) (j : Nat) : (Sn.new a b c d).h.getD j false = false := by
  unfold Sn.new
  simp only [List.getD, List.getElem?_replicate]
  split <;> rfl

/-! How many bits are 1. -/
def u64 (n : Int) : Nat := (IntKind.u64.wrap n).toNat
def D : List Nat → Nat
  | [] => 0
  | b :: r => b + 256 * D r
def g1 (b : Nat) : Nat := (b / 2 &&& 85) + (b &&& 85)
def g2 (b : Nat) : Nat := (b / 4 &&& 51) + (b &&& 51)
def M (m : Nat) : Nat → Nat
  | 0 => 0
  | k + 1 => m + 256 * M m k
end Go.Proofs.Ytbjlbcihhleclaa.Ah
