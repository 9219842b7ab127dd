/- V03d: a part of the proof: contracts of functions, or plain laws. Conditions: none. -/
import Derived.Test.YtmlklopopokjoaaV03c
namespace Go.Proofs.Ytmlklopopokjoaa.Ah
open Go Go.WideShapes
attribute [local irreducible] acs aopsK drawK leave condK bindR bindD bindX guardK guardD callB callD callX callP callPv
attribute [local go_sem] acs_nil acs_blk acs_skip acs_reg acs_dreg acs_freg acs_nam0 acs_nam nones acs_seq acs_cond acs_block acs_exit acs_ret acs_kl acs_loop leave_nil leave_code leave_lp leave_blk aopsK_nil aopsK_cons aopsK_guard bindR_val bindR_need bindR_br bindR_call bindR_bad drawK_nil drawK_cons drawK_ext drawK_pur drawK_guard callPv_fn drawK_purv bindD_val bindD_need bindD_br bindD_call bindD_bad bindX_val bindX_need bindX_br bindX_call guardD_bool guardD_tup grows grows0 List.append_cancel_left_eq List.cons.injEq exists_eq' exists_eq condK_bool guardK_bool guardK_tup sor r0 r1 r2 r3 rC rB rI rP rA rT rS rF rSl rO rbin rcut run1 Env.evals Env.eval Env.get Env.put Env.ins Env.del Env.dels argEnv AV.full AV.cells AV.cell eqCells decide_true decide_false decide_eq_true_eq decide_eq_false_iff_not Bool.not_eq_true' Bool.not_eq_false' true_and and_true false_implies true_implies forall_const Bool.not_true Bool.not_false Bool.false_eq_true Bool.true_eq_false List.getElem?_cons_zero List.getElem?_cons_succ List.length_cons List.length_nil List.length_append List.all_cons List.all_nil Bool.and_true Bool.and_self implies_true List.append_assoc List.cons_append List.nil_append List.append_nil i64_in imin_eq imax_eq cast3 cast0 cast1 cast2 Option.map_none ite_self and_false false_and Option.isSome_some or_true true_or Int.sub_zero Int.mul_one Nat.sub_zero Nat.zero_le Int.cast_ofNat_Int Int.natCast_nonneg Int.toNat_natCast ne_eq not_false_eq_true not_true_eq_false strC blkAt_app blkAt_app0 blkAt_zero blkAt_succ List.set_cons_zero List.set_cons_succ set_app set_app0 Option.map_some Option.bind_some rd setCells lay rdS szOk rapp ownAt lenAt Option.any_some Option.getD_some List.drop_zero List.drop_succ_cons List.take_succ_cons List.take_zero List.drop_nil List.take_nil Nat.lt_irrefl Nat.zero_add Nat.add_zero Nat.mul_one Nat.one_mul Nat.add_assoc Option.some.injEq eq_self
set_option maxHeartbeats 4000000
set_option linter.unusedSimpArgs false
set_option linter.unusedVariables false
/-! A matrix whose numbers are told. -/
def rowL (q : Nat → Nat → Int) (c i : Nat) : List Int := (List.range c).map (q i)
def matL (q : Nat → Nat → Int) (r c : Nat) : List Int := (List.range r).flatMap (rowL q c)
def rowO (b : Nat → Nat → Bool) (c i : Nat) : Bool := (List.range c).any (b i)
def matO (b : Nat → Nat → Bool) (r c : Nat) : Bool := (List.range r).any (rowO b c)
def Md (H : Heap) (R C : Int) (l : List Int) (H' : Heap) : Prop := Ext H H' ∧ blkAt H' H.length = some ⟨[.int .i64 R, .int .i64 C], true⟩ ∧ blkAt H' (H.length + 1) = some ⟨[.int .i64 0, .int .i64 0, .nils], true⟩ ∧
  ∃ w, blkAt H' (H.length + 2) = some ⟨[.int .i64 R, .int .i64 C, w], true⟩ ∧ ((l = [] ∧ w = .nils) ∨ ∃ p, w = .sl p 0 l.length 1 none ∧ H.length + 3 ≤ p ∧ blkAt H' p = some ⟨l.map i64, true⟩)
theorem rowL_succ (q : Nat → Nat → Int) (c i : Nat) : rowL q (c + 1) i = rowL q c i ++ [q i c] := by unfold rowL; rw [List.range_succ, List.map_append]; rfl
theorem matL_succ (q : Nat → Nat → Int) (r c : Nat) : matL q (r + 1) c = matL q r c ++ rowL q c r := by unfold matL; rw [List.range_succ, List.flatMap_append]; simp
theorem rowO_succ (b : Nat → Nat → Bool) (c i : Nat) : rowO b (c + 1) i = (rowO b c i || b i c) := by unfold rowO; rw [List.range_succ, List.any_append]; simp
theorem matO_succ (b : Nat → Nat → Bool) (r c : Nat) : matO b (r + 1) c = (matO b r c || rowO b c r) := by unfold matO; rw [List.range_succ, List.any_append]; simp
theorem rowL_len (q : Nat → Nat → Int) (c i : Nat) : (rowL q c i).length = c := by simp [rowL]
theorem matL_len (q : Nat → Nat → Int) (r c : Nat) : (matL q r c).length = r * c := by
  induction r with
  | zero => simp [matL]
  | succ r ih => rw [matL_succ, List.length_append, ih, rowL_len, Nat.succ_mul]
theorem takeMapI (l : List Int) : List.take l.length (l.map i64) = l.map i64 := by rw [List.take_of_length_le]; simp
theorem Md.step0 {H H' : Heap} {R C x : Int} (h : Md H R C [] H') : Md H R C [x] (H'.set (H.length + 2) (some ⟨[.int .i64 R, .int .i64 C, .sl (H'.length + 1) 0 1 1 none], true⟩) ++ [some ⟨[.int .i64 x], true⟩, some ⟨[.int .i64 x], true⟩]) := by
  obtain ⟨hx, m0, m1, w, m2, hw⟩ := h
  have b0 := blkAt_lt m0
  have b1 := blkAt_lt m1
  have b2 := blkAt_lt m2
  refine ⟨(hx.set (by omega) _).to _, ?_, ?_, _, ?_, .inr ⟨H'.length + 1, rfl, by omega, ?_⟩⟩
  · rw [blkAt_lo _ (by rw [List.length_set]; exact b0), blkAt_set_ne (by omega)]; exact m0
  · rw [blkAt_lo _ (by rw [List.length_set]; exact b1), blkAt_set_ne (by omega)]; exact m1
  · rw [blkAt_lo _ (by rw [List.length_set]; exact b2), blkAt_set_self b2]; rfl
  · have := blkAt_app (H'.set (H.length + 2) (some ⟨[.int .i64 R, .int .i64 C, .sl (H'.length + 1) 0 1 1 none], true⟩)) [some ⟨[.int .i64 x], true⟩, some ⟨[.int .i64 x], true⟩] 1
    rw [List.length_set] at this
    rw [this]
    rfl
theorem Md.step {H H' : Heap} {R C x : Int} {l : List Int} {p : Nat} {A : Option Blk} (hx : Ext H H') (m0 : blkAt H' H.length = some ⟨[.int .i64 R, .int .i64 C], true⟩) (m1 : blkAt H' (H.length + 1) = some ⟨[.int .i64 0, .int .i64 0, .nils], true⟩) (b2 : H.length + 2 < H'.length) (hp : H.length + 3 ≤ p) :
    Md H R C (l ++ [x]) ((H'.set p none).set (H.length + 2) (some ⟨[.int .i64 R, .int .i64 C, .sl (H'.length + 1) 0 (l.length + 1) 1 none], true⟩) ++ [A, some ⟨l.map i64 ++ [.int .i64 x], true⟩]) := by
  have b0 := blkAt_lt m0
  have b1 := blkAt_lt m1
  refine ⟨((hx.set (by omega) _).set (by omega) _).to _, ?_, ?_, _, ?_, .inr ⟨H'.length + 1, rfl, by omega, ?_⟩⟩
  · rw [blkAt_lo _ (by rw [List.length_set, List.length_set]; exact b0), blkAt_set_ne (by omega), blkAt_set_ne (by omega)]; exact m0
  · rw [blkAt_lo _ (by rw [List.length_set, List.length_set]; exact b1), blkAt_set_ne (by omega), blkAt_set_ne (by omega)]; exact m1
  · rw [blkAt_lo _ (by rw [List.length_set, List.length_set]; exact b2), blkAt_set_self (by rw [List.length_set]; exact b2)]; rw [List.length_append]; rfl
  · have := blkAt_app ((H'.set p none).set (H.length + 2) (some ⟨[.int .i64 R, .int .i64 C, .sl (H'.length + 1) 0 (l.length + 1) 1 none], true⟩)) [A, some ⟨l.map i64 ++ [.int .i64 x], true⟩] 1
    rw [List.length_set, List.length_set] at this
    rw [this, List.map_append]
    rfl
abbrev e27 (f r : Nat) (ys : List AV) (L : Nat) (o : Bool) (i : Nat) : Env := [(1, .fn (.func f) [] ys), (2, .ptr L 0), (4, .ptr (L + 1) 0), (6, .ptr (L + 2) 0), (7, .bool o), (18, .int .i64 (r : Nat)), (19, .int .i64 (i : Nat))]
theorem f27_in {r c f : Nat} {ys : List AV} {q : Nat → Nat → Int} {b : Nat → Nat → Bool} {H : Heap} {K : List Fr} {Q : Post} (hr : 0 < r ∧ r ≤ 8) (hc : 0 < c ∧ c ≤ 8) (hf : hasBody Try.prog f = true)
    (ht : ∀ H' i k, Ext H H' → i < r → k < c → ACall Try.prog f (.int .i64 (i : Nat) :: .int .i64 (k : Nat) :: ys) H' (.tup [.int .i64 (q i k), .bool (b i k)]) H')
    {i : Nat} (hi : i < r) {o0 : Bool} {l0 : List Int} (hl0 : l0.length ≤ 1000)
    (next : ∀ H', Md H r c (l0 ++ rowL q c i) H' → acs Try.prog K (e27 f r ys H.length (o0 || rowO b c i) i) H' Q) (H' : Heap) (hm : Md H r c l0 H') :
    acs Try.prog (.lp c27l0 :: .blk 2 :: K) [(1, .fn (.func f) [] ys), (2, .ptr H.length 0), (4, .ptr (H.length + 1) 0), (6, .ptr (H.length + 2) 0), (7, .bool o0), (8, .int .i64 (i : Nat)), (18, .int .i64 (r : Nat)), (19, .int .i64 (i : Nat)), (23, .int .i64 (c : Nat)), (24, .int .i64 0)] H' Q := by
  refine loop_nat (fun k T H' => ∃ j : Nat, T = [(1, .fn (.func f) [] ys), (2, .ptr H.length 0), (4, .ptr (H.length + 1) 0), (6, .ptr (H.length + 2) 0), (7, .bool (o0 || rowO b j i)), (8, .int .i64 (i : Nat)), (18, .int .i64 (r : Nat)), (19, .int .i64 (i : Nat)), (23, .int .i64 (c : Nat)), (24, .int .i64 (j : Nat))] ∧ j + k = c ∧ Md H r c (l0 ++ rowL q j i) H') ?_ ?_ c _ _ ⟨0, by simp [rowO], by omega, by simpa [rowL] using hm⟩
  · rintro k T H' ⟨j, rfl, hj, hx, m0, m1, w, m2, hw⟩ nx
    have hjc : (j : Int) < (c : Int) := by omega
    have g := fun G => ht (H' ++ G) i j (hx.to G) hi (by omega)
    have b0 := blkAt_lt m0
    have b1 := blkAt_lt m1
    have b2 := blkAt_lt m2
    have so : (o0 || rowO b (j + 1) i) = ((o0 || rowO b j i) || b i j) := by rw [rowO_succ, Bool.or_assoc]
    have sl : l0 ++ rowL q (j + 1) i = (l0 ++ rowL q j i) ++ [q i j] := by rw [rowL_succ, List.append_assoc]
    have ll : (l0 ++ rowL q j i).length ≤ 1010 := by rw [List.length_append, rowL_len]; omega
    generalize l0 ++ rowL q j i = l at *
    generalize (o0 || rowO b j i) = o at *
    rcases hw with ⟨rfl, rfl⟩ | ⟨p, rfl, hp, hb⟩
    · rw [acs_lp]; conv in Fr.code c27l0 => unfold c27l0
      simp (maxSteps := 1000000) (disch := omega) only [go_sem, Nat.reduceEqDiff, Nat.reduceLT, Nat.reduceAdd, Nat.reduceSub, Nat.reduceMul, Nat.reduceBEq, Int.reduceLT, Int.reduceAdd, Int.reduceMul, Int.reduceSub, Int.reduceToNat, Int.reduceLE, Int.reduceEq, ↓reduceIte, reduceCtorEq, Int.reduceNeg, Nat.reduceLeDiff,  hjc, hf]
      have g0 := g []
      rw [List.append_nil] at g0
      first | refine callB_intro (g0) ?_ | refine callD_intro (g0) ?_ | refine callP_intro (fun _ => (g0)) ?_ | refine callX_pure (g0) ?_
      have big : 1 * 8 ≤ 140737488355328 := by omega
      cases o
      all_goals
        simp (maxSteps := 1000000) (disch := omega) only [go_sem, Nat.reduceEqDiff, Nat.reduceLT, Nat.reduceAdd, Nat.reduceSub, Nat.reduceMul, Nat.reduceBEq, Int.reduceLT, Int.reduceAdd, Int.reduceMul, Int.reduceSub, Int.reduceToNat, Int.reduceLE, Int.reduceEq, ↓reduceIte, reduceCtorEq, Int.reduceNeg, Nat.reduceLeDiff,  m2, b2, blkAt_lo, set_lo, List.length_set]
        refine nx _ _ ⟨j + 1, ?_, by omega, ?_⟩
        · rw [so]; simp
        rw [sl]
        exact Md.step0 ⟨hx, m0, m1, _, m2, .inl ⟨rfl, rfl⟩⟩
    · rw [acs_lp]; conv in Fr.code c27l0 => unfold c27l0
      simp (maxSteps := 1000000) (disch := omega) only [go_sem, Nat.reduceEqDiff, Nat.reduceLT, Nat.reduceAdd, Nat.reduceSub, Nat.reduceMul, Nat.reduceBEq, Int.reduceLT, Int.reduceAdd, Int.reduceMul, Int.reduceSub, Int.reduceToNat, Int.reduceLE, Int.reduceEq, ↓reduceIte, reduceCtorEq, Int.reduceNeg, Nat.reduceLeDiff,  hjc, hf]
      have g0 := g []
      rw [List.append_nil] at g0
      first | refine callB_intro (g0) ?_ | refine callD_intro (g0) ?_ | refine callP_intro (fun _ => (g0)) ?_ | refine callX_pure (g0) ?_
      have bp := blkAt_lt hb
      have big : (l.length + 1) * 8 ≤ 140737488355328 := by omega
      have htk := takeMapI l
      have m2' : blkAt (H'.set p none) (H.length + 2) = some ⟨[.int .i64 (r : Nat), .int .i64 (c : Nat), .sl p 0 l.length 1 none], true⟩ := by rw [blkAt_set_ne (by omega)]; exact m2
      have b2' : H.length + 2 < (H'.set p none).length := by rw [List.length_set]; exact b2
      cases o
      all_goals
        simp (maxSteps := 1000000) (disch := omega) only [go_sem, Nat.reduceEqDiff, Nat.reduceLT, Nat.reduceAdd, Nat.reduceSub, Nat.reduceMul, Nat.reduceBEq, Int.reduceLT, Int.reduceAdd, Int.reduceMul, Int.reduceSub, Int.reduceToNat, Int.reduceLE, Int.reduceEq, ↓reduceIte, reduceCtorEq, Int.reduceNeg, Nat.reduceLeDiff,  m2, m2', b2, hb, bp, big, htk, blkAt_lo, set_lo, List.length_set, List.length_map, Nat.le_refl]
        refine nx _ _ ⟨j + 1, ?_, by omega, ?_⟩
        · rw [so]; simp
        rw [sl]
        exact Md.step hx m0 m1 b2 hp
  · rintro T H' ⟨j, rfl, hj, hm⟩
    obtain rfl : j = c := hj
    have go := next H' hm
    rw [acs_lp]; conv in Fr.code c27l0 => unfold c27l0
    simp (maxSteps := 1000000) (disch := omega) only [go_sem, Nat.reduceEqDiff, Nat.reduceLT, Nat.reduceAdd, Nat.reduceSub, Nat.reduceMul, Nat.reduceBEq, Int.reduceLT, Int.reduceAdd, Int.reduceMul, Int.reduceSub, Int.reduceToNat, Int.reduceLE, Int.reduceEq, ↓reduceIte, reduceCtorEq, Int.reduceNeg, Nat.reduceLeDiff,  Int.lt_irrefl]
    exact go
theorem f27 {r c f : Nat} {ys : List AV} {q : Nat → Nat → Int} {b : Nat → Nat → Bool} {H : Heap} (hr : 0 < r ∧ r ≤ 8) (hc : 0 < c ∧ c ≤ 8) (hf : hasBody Try.prog f = true)
    (ht : ∀ H' i k, Ext H H' → i < r → k < c → ACall Try.prog f (.int .i64 (i : Nat) :: .int .i64 (k : Nat) :: ys) H' (.tup [.int .i64 (q i k), .bool (b i k)]) H') :
    ACallE Try.prog 27 [.agg [.int .i64 (r : Nat), .int .i64 (c : Nat)], .fn (.func f) [] ys] H fun v H' => ∃ w, v = .tup [.agg [.int .i64 (r : Nat), .int .i64 (c : Nat), w], .bool (matO b r c)] ∧ Rw i64 H' w (matL q r c) := by
  refine acallE (fun v Hf h => acallK27 (by simp) h) (acs_start ?_)
  unfold c27
  simp (maxSteps := 1000000) (disch := omega) only [go_sem, Nat.reduceEqDiff, Nat.reduceLT, Nat.reduceAdd, Nat.reduceSub, Nat.reduceMul, Nat.reduceBEq, Int.reduceLT, Int.reduceAdd, Int.reduceMul, Int.reduceSub, Int.reduceToNat, Int.reduceLE, Int.reduceEq, ↓reduceIte, reduceCtorEq, Int.reduceNeg, Nat.reduceLeDiff]
  refine loop_nat (fun k T H' => ∃ i : Nat, T = e27 f r ys H.length (matO b i c) i ∧ i + k = r ∧ Md H r c (matL q i c) H') ?_ ?_ r _ _ ⟨0, by simp [e27, matO], by omega, ?_⟩
  · rintro k T H' ⟨i, rfl, hi, hm⟩ nx
    have hir : (i : Int) < (r : Int) := by omega
    have hl : (matL q i c).length ≤ 1000 := by
      rw [matL_len]
      have : i * c ≤ 8 * 8 := Nat.mul_le_mul (by omega) (by omega)
      omega
    have go := fun K Q nn => f27_in (K := K) (Q := Q) hr hc hf ht (i := i) (by omega) (o0 := matO b i c) hl nn H' hm
    obtain ⟨hx, m0, m1, w, m2, hw⟩ := hm
    have b0 := blkAt_lt m0
    unfold e27
    rw [acs_lp]; conv in Fr.code c27l1 => unfold c27l1
    simp (maxSteps := 1000000) (disch := omega) only [go_sem, Nat.reduceEqDiff, Nat.reduceLT, Nat.reduceAdd, Nat.reduceSub, Nat.reduceMul, Nat.reduceBEq, Int.reduceLT, Int.reduceAdd, Int.reduceMul, Int.reduceSub, Int.reduceToNat, Int.reduceLE, Int.reduceEq, ↓reduceIte, reduceCtorEq, Int.reduceNeg, Nat.reduceLeDiff,  hir, m0, b0]
    refine go _ _ fun H2 hm2 => ?_
    unfold e27
    simp (maxSteps := 1000000) (disch := omega) only [go_sem, Nat.reduceEqDiff, Nat.reduceLT, Nat.reduceAdd, Nat.reduceSub, Nat.reduceMul, Nat.reduceBEq, Int.reduceLT, Int.reduceAdd, Int.reduceMul, Int.reduceSub, Int.reduceToNat, Int.reduceLE, Int.reduceEq, ↓reduceIte, reduceCtorEq, Int.reduceNeg, Nat.reduceLeDiff]
    refine nx _ _ ⟨i + 1, ?_, by omega, ?_⟩
    · rw [matO_succ]; simp [e27]
    · rw [matL_succ]; exact hm2
  · rintro T H' ⟨i, rfl, hi, hm⟩
    obtain rfl : i = r := hi
    obtain ⟨hx, m0, m1, w, m2, hw⟩ := hm
    have b1 := blkAt_lt m1
    have b2 := blkAt_lt m2
    have hl : 0 < (matL q i c).length := by rw [matL_len]; exact Nat.mul_pos hr.1 hc.1
    rcases hw with ⟨h, _⟩ | ⟨p, rfl, hp, hb⟩
    · rw [h] at hl; simp at hl
    unfold e27
    rw [acs_lp]; conv in Fr.code c27l1 => unfold c27l1
    simp (maxSteps := 1000000) (disch := omega) only [go_sem, Nat.reduceEqDiff, Nat.reduceLT, Nat.reduceAdd, Nat.reduceSub, Nat.reduceMul, Nat.reduceBEq, Int.reduceLT, Int.reduceAdd, Int.reduceMul, Int.reduceSub, Int.reduceToNat, Int.reduceLE, Int.reduceEq, ↓reduceIte, reduceCtorEq, Int.reduceNeg, Nat.reduceLeDiff,  Int.lt_irrefl, m1, b1, m2, b2]
    refine fin_e (by simp) (by simp (maxSteps := 1000000) (disch := omega) only [resVal, resAll, resOne, rs27, Env.get, go_sem, Nat.reduceEqDiff, Nat.reduceLT, Nat.reduceAdd, Nat.reduceSub, Nat.reduceMul, Nat.reduceBEq, Int.reduceLT, Int.reduceAdd, Int.reduceMul, Int.reduceSub, Int.reduceToNat, Int.reduceLE, Int.reduceEq, ↓reduceIte, reduceCtorEq, Int.reduceNeg, Nat.reduceLeDiff, blkAt_set_self b1] <;> rfl) (hx.set (by omega) _) ⟨_, rfl, Rw.mk _ (Sl.whole (o := true) (by rw [blkAt_set_ne (by omega)]; exact hb))⟩
  · refine ⟨⟨_, rfl⟩, ?_, ?_, .nils, ?_, .inl ⟨rfl, rfl⟩⟩
    · simp only [go_sem, Nat.reduceEqDiff, Nat.reduceLT, Nat.reduceAdd, Nat.reduceSub, Nat.reduceMul, Nat.reduceBEq, Int.reduceLT, Int.reduceAdd, Int.reduceMul, Int.reduceSub, Int.reduceToNat, Int.reduceLE, Int.reduceEq, ↓reduceIte, reduceCtorEq, Int.reduceNeg, Nat.reduceLeDiff]
    · simp only [go_sem, Nat.reduceEqDiff, Nat.reduceLT, Nat.reduceAdd, Nat.reduceSub, Nat.reduceMul, Nat.reduceBEq, Int.reduceLT, Int.reduceAdd, Int.reduceMul, Int.reduceSub, Int.reduceToNat, Int.reduceLE, Int.reduceEq, ↓reduceIte, reduceCtorEq, Int.reduceNeg, Nat.reduceLeDiff]
    · simp only [go_sem, Nat.reduceEqDiff, Nat.reduceLT, Nat.reduceAdd, Nat.reduceSub, Nat.reduceMul, Nat.reduceBEq, Int.reduceLT, Int.reduceAdd, Int.reduceMul, Int.reduceSub, Int.reduceToNat, Int.reduceLE, Int.reduceEq, ↓reduceIte, reduceCtorEq, Int.reduceNeg, Nat.reduceLeDiff]
end Go.Proofs.Ytmlklopopokjoaa.Ah
