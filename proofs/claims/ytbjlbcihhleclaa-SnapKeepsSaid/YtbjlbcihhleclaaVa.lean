/- Va: a part of the proof: contracts of functions, or plain laws. Conditions: none. -/
import Derived.Test.YtbjlbcihhleclaaG15
namespace Go.Proofs.Ytbjlbcihhleclaa.Ah
open Go Go.WideShapes
attribute [local irreducible] acs aopsK drawK leave condK bindR bindD bindX guardK guardD callB callD callX callP callPv rfunG rfunK yldB yldD
attribute [local go_sem] mop mget mfind mput mres keyed AV.isAgg beq_self_eq_true Bool.true_and Option.isSome_some List.set_cons_zero acs_nil acs_blk acs_skip acs_reg acs_dreg acs_freg acs_nam0 acs_nam nones acs_seq acs_cond acs_block acs_exit acs_ret acs_kl acs_loop leave_nil leave_code leave_lp leave_blk aopsK_nil aopsK_cons aopsK_guard bindR_val bindR_need bindR_br bindR_call bindR_ycall acs_rfun rfunG_fn bindR_bad drawK_nil drawK_cons drawK_wat bindW_val bindW_need bindW_br WatL_nil WatL_cons isP_ptr drawK_ext drawK_pur drawK_guard callPv_fn drawK_purv bindD_val bindD_need bindD_br bindD_call bindD_ycall bindD_bad bindX_val bindX_need bindX_br bindX_call guardD_bool guardD_tup grows grows0 List.append_cancel_left_eq List.cons.injEq exists_eq' exists_eq condK_bool guardK_bool guardK_tup sor r0 r1 r2 r3 rC rB rI rP rA rT rS rF rSl rO rbin rcut run1 Env.evals Env.eval Env.get Env.put Env.ins Env.del Env.dels argEnv AV.full AV.cells AV.cell eqCells decide_true decide_false decide_eq_true_eq decide_eq_false_iff_not Bool.not_eq_true' Bool.not_eq_false' true_and and_true false_implies true_implies forall_const Bool.not_true Bool.not_false Bool.false_eq_true Bool.true_eq_false List.getElem?_cons_zero List.getElem?_cons_succ List.length_cons List.length_nil List.length_append List.all_cons List.all_nil Bool.and_true Bool.and_self implies_true List.append_assoc List.cons_append List.nil_append List.append_nil i64_in imin_eq imax_eq cast3 cast0 cast1 cast2 Option.map_none ite_self and_false false_and Option.isSome_some or_true true_or Int.sub_zero Int.mul_one Nat.sub_zero Nat.zero_le Int.cast_ofNat_Int Int.natCast_nonneg Int.toNat_natCast ne_eq not_false_eq_true not_true_eq_false strC blkAt_app blkAt_app0 blkAt_zero blkAt_succ List.set_cons_zero List.set_cons_succ set_app set_app0 Option.map_some Option.bind_some rd setCells lay rdS szOk rapp ownAt lenAt Option.any_some Option.getD_some List.drop_zero List.drop_succ_cons List.take_succ_cons List.take_zero List.drop_nil List.take_nil Nat.lt_irrefl Nat.zero_add Nat.add_zero Nat.mul_one Nat.one_mul Nat.add_assoc Option.some.injEq eq_self
set_option maxHeartbeats 8000000
set_option linter.unusedSimpArgs false
set_option linter.unusedVariables false
/-! Numbers in bounds: sums. -/
def i64 (n : Int) : AV := .int .i64 n
def InB (a : Int) : Prop := -70368744177664 ≤ a ∧ a ≤ 70368744177663
def inb (a : Int) : Bool := decide (-70368744177664 ≤ a ∧ a ≤ 70368744177663)
theorem inb_iff {a : Int} : inb a = true ↔ InB a := by unfold inb InB; exact decide_eq_true_iff
def cl (a : Int) : Int := if a < -70368744177664 then -70368744177664 else if 70368744177663 < a then 70368744177663 else a
def ov (a : Int) : Bool := !decide (cl a = a)
theorem f50 {a : Int} {H : Heap} : ACall Try.prog 50 [.int .i64 a] H (.bool (inb a)) H := by
  refine acall50 (by simp) (acs_start ?_)
  unfold c50
  by_cases h : -70368744177664 ≤ a
  · simp (maxSteps := 1000000) (disch := omega) only [go_sem, Nat.reduceEqDiff, Nat.reduceLT, Nat.reduceAdd, Nat.reduceSub, Nat.reduceMul, Nat.reduceBEq, Int.reduceLT, Int.reduceAdd, Int.reduceMul, Int.reduceSub, Int.reduceToNat, Int.reduceLE, Int.reduceEq, ↓reduceIte, reduceCtorEq, Int.reduceNeg, Nat.reduceLeDiff,  h]
    exact fin_b _ (by first | exact (List.append_nil _).symm | rfl) (by simp) (by simp (maxSteps := 1000000) (disch := omega) only [resVal, resAll, resOne, rs50, Env.get, go_sem, Nat.reduceEqDiff, Nat.reduceLT, Nat.reduceAdd, Nat.reduceSub, Nat.reduceMul, Nat.reduceBEq, Int.reduceLT, Int.reduceAdd, Int.reduceMul, Int.reduceSub, Int.reduceToNat, Int.reduceLE, Int.reduceEq, ↓reduceIte, reduceCtorEq, Int.reduceNeg, Nat.reduceLeDiff] <;> rfl) (by unfold inb; rw [Bool.eq_iff_iff]; (try simp only [decide_eq_true_eq, Bool.and_eq_true, Bool.or_eq_true, Bool.not_eq_true', decide_eq_false_iff_not, Bool.true_eq_false, Bool.false_eq_true, true_iff, iff_true, false_iff, iff_false, not_false_eq_true, not_true_eq_false]); first | done | omega | (simp; done) | (rw [Bool.eq_iff_iff]; (try simp only [decide_eq_true_eq, Bool.and_eq_true, Bool.or_eq_true, Bool.not_eq_true', decide_eq_false_iff_not, Bool.true_eq_false, Bool.false_eq_true, true_iff, iff_true, false_iff, iff_false, not_false_eq_true, not_true_eq_false]); omega) | (simp; omega))
  · simp (maxSteps := 1000000) (disch := omega) only [go_sem, Nat.reduceEqDiff, Nat.reduceLT, Nat.reduceAdd, Nat.reduceSub, Nat.reduceMul, Nat.reduceBEq, Int.reduceLT, Int.reduceAdd, Int.reduceMul, Int.reduceSub, Int.reduceToNat, Int.reduceLE, Int.reduceEq, ↓reduceIte, reduceCtorEq, Int.reduceNeg, Nat.reduceLeDiff,  h]
    exact fin_b _ (by first | exact (List.append_nil _).symm | rfl) (by simp) (by simp (maxSteps := 1000000) (disch := omega) only [resVal, resAll, resOne, rs50, Env.get, go_sem, Nat.reduceEqDiff, Nat.reduceLT, Nat.reduceAdd, Nat.reduceSub, Nat.reduceMul, Nat.reduceBEq, Int.reduceLT, Int.reduceAdd, Int.reduceMul, Int.reduceSub, Int.reduceToNat, Int.reduceLE, Int.reduceEq, ↓reduceIte, reduceCtorEq, Int.reduceNeg, Nat.reduceLeDiff] <;> rfl) (by unfold inb; rw [Bool.eq_iff_iff]; (try simp only [decide_eq_true_eq, Bool.and_eq_true, Bool.or_eq_true, Bool.not_eq_true', decide_eq_false_iff_not, Bool.true_eq_false, Bool.false_eq_true, true_iff, iff_true, false_iff, iff_false, not_false_eq_true, not_true_eq_false]); first | done | omega | (simp; done) | (rw [Bool.eq_iff_iff]; (try simp only [decide_eq_true_eq, Bool.and_eq_true, Bool.or_eq_true, Bool.not_eq_true', decide_eq_false_iff_not, Bool.true_eq_false, Bool.false_eq_true, true_iff, iff_true, false_iff, iff_false, not_false_eq_true, not_true_eq_false]); omega) | (simp; omega))
theorem f81 {a : Int} {H : Heap} : ACall Try.prog 81 [.int .i64 a] H (.bool (!inb a)) H := by
  refine acall81 (by simp) (acs_start ?_)
  unfold c81
  by_cases h : a < -70368744177664
  · simp (maxSteps := 1000000) (disch := omega) only [go_sem, Nat.reduceEqDiff, Nat.reduceLT, Nat.reduceAdd, Nat.reduceSub, Nat.reduceMul, Nat.reduceBEq, Int.reduceLT, Int.reduceAdd, Int.reduceMul, Int.reduceSub, Int.reduceToNat, Int.reduceLE, Int.reduceEq, ↓reduceIte, reduceCtorEq, Int.reduceNeg, Nat.reduceLeDiff,  h]
    exact fin_b _ (by first | exact (List.append_nil _).symm | rfl) (by simp) (by simp (maxSteps := 1000000) (disch := omega) only [resVal, resAll, resOne, rs81, Env.get, go_sem, Nat.reduceEqDiff, Nat.reduceLT, Nat.reduceAdd, Nat.reduceSub, Nat.reduceMul, Nat.reduceBEq, Int.reduceLT, Int.reduceAdd, Int.reduceMul, Int.reduceSub, Int.reduceToNat, Int.reduceLE, Int.reduceEq, ↓reduceIte, reduceCtorEq, Int.reduceNeg, Nat.reduceLeDiff] <;> rfl) (by unfold inb; rw [Bool.eq_iff_iff]; (try simp only [decide_eq_true_eq, Bool.and_eq_true, Bool.or_eq_true, Bool.not_eq_true', decide_eq_false_iff_not, Bool.true_eq_false, Bool.false_eq_true, true_iff, iff_true, false_iff, iff_false, not_false_eq_true, not_true_eq_false]); first | done | omega | (simp; done) | (rw [Bool.eq_iff_iff]; (try simp only [decide_eq_true_eq, Bool.and_eq_true, Bool.or_eq_true, Bool.not_eq_true', decide_eq_false_iff_not, Bool.true_eq_false, Bool.false_eq_true, true_iff, iff_true, false_iff, iff_false, not_false_eq_true, not_true_eq_false]); omega) | (simp; omega))
  · simp (maxSteps := 1000000) (disch := omega) only [go_sem, Nat.reduceEqDiff, Nat.reduceLT, Nat.reduceAdd, Nat.reduceSub, Nat.reduceMul, Nat.reduceBEq, Int.reduceLT, Int.reduceAdd, Int.reduceMul, Int.reduceSub, Int.reduceToNat, Int.reduceLE, Int.reduceEq, ↓reduceIte, reduceCtorEq, Int.reduceNeg, Nat.reduceLeDiff,  h]
    exact fin_b _ (by first | exact (List.append_nil _).symm | rfl) (by simp) (by simp (maxSteps := 1000000) (disch := omega) only [resVal, resAll, resOne, rs81, Env.get, go_sem, Nat.reduceEqDiff, Nat.reduceLT, Nat.reduceAdd, Nat.reduceSub, Nat.reduceMul, Nat.reduceBEq, Int.reduceLT, Int.reduceAdd, Int.reduceMul, Int.reduceSub, Int.reduceToNat, Int.reduceLE, Int.reduceEq, ↓reduceIte, reduceCtorEq, Int.reduceNeg, Nat.reduceLeDiff] <;> rfl) (by unfold inb; rw [Bool.eq_iff_iff]; (try simp only [decide_eq_true_eq, Bool.and_eq_true, Bool.or_eq_true, Bool.not_eq_true', decide_eq_false_iff_not, Bool.true_eq_false, Bool.false_eq_true, true_iff, iff_true, false_iff, iff_false, not_false_eq_true, not_true_eq_false]); first | done | omega | (simp; done) | (rw [Bool.eq_iff_iff]; (try simp only [decide_eq_true_eq, Bool.and_eq_true, Bool.or_eq_true, Bool.not_eq_true', decide_eq_false_iff_not, Bool.true_eq_false, Bool.false_eq_true, true_iff, iff_true, false_iff, iff_false, not_false_eq_true, not_true_eq_false]); omega) | (simp; omega))

/-! A matrix whose numbers are told. -/
def rowL (q : Nat → Nat → Int) (c i : Nat) : List Int := (List.range c).map (q i)
def matL (q : Nat → Nat → Int) (r c : Nat) : List Int := (List.range r).flatMap (rowL q c)
def rowO (b : Nat → Nat → Bool) (c i : Nat) : Bool := (List.range c).any (b i)
def matO (b : Nat → Nat → Bool) (r c : Nat) : Bool := (List.range r).any (rowO b c)
def Md (H : Heap) (R C : Int) (l : List Int) (H' : Heap) : Prop := Ext H H' ∧ blkAt H' H.length = some ⟨[.int .i64 R, .int .i64 C], true⟩ ∧ blkAt H' (H.length + 1) = some ⟨[.int .i64 0, .int .i64 0, .nils], true⟩ ∧
  ∃ w, blkAt H' (H.length + 2) = some ⟨[.int .i64 R, .int .i64 C, w], true⟩ ∧ ((l = [] ∧ w = .nils) ∨ ∃ p, w = .sl p 0 l.length 1 none ∧ H.length + 3 ≤ p ∧ blkAt H' p = some ⟨l.map i64, true⟩)
theorem rowL_succ (q : Nat → Nat → Int) (c i : Nat) : rowL q (c + 1) i = rowL q c i ++ [q i c] := by unfold rowL; rw [List.range_succ, List.map_append]; rfl
theorem matL_succ (q : Nat → Nat → Int) (r c : Nat) : matL q (r + 1) c = matL q r c ++ rowL q c r := by unfold matL; rw [List.range_succ, List.flatMap_append]; simp
theorem rowO_succ (b : Nat → Nat → Bool) (c i : Nat) : rowO b (c + 1) i = (rowO b c i || b i c) := by unfold rowO; rw [List.range_succ, List.any_append]; simp
theorem matO_succ (b : Nat → Nat → Bool) (r c : Nat) : matO b (r + 1) c = (matO b r c || rowO b c r) := by unfold matO; rw [List.range_succ, List.any_append]; simp
theorem rowL_len (q : Nat → Nat → Int) (c i : Nat) : (rowL q c i).length = c := by simp [rowL]
theorem matL_len (q : Nat → Nat → Int) (r c : Nat) : (matL q r c).length = r * c := by
  induction r with
  | zero => simp [matL]
  | succ r ih => rw [matL_succ, List.length_append, ih, rowL_len, Nat.succ_mul]
theorem takeMapI (l : List Int) : List.take l.length (l.map i64) = l.map i64 := by rw [List.take_of_length_le]; simp
theorem Md.step0 {H H' : Heap} {R C x : Int} (h : Md H R C [] H') : Md H R C [x] (H'.set (H.length + 2) (some ⟨[.int .i64 R, .int .i64 C, .sl (H'.length + 1) 0 1 1 none], true⟩) ++ [some ⟨[.int .i64 x], true⟩, some ⟨[.int .i64 x], true⟩]) := by
  obtain ⟨hx, m0, m1, w, m2, hw⟩ := h
  have b0 := blkAt_lt m0
  have b1 := blkAt_lt m1
  have b2 := blkAt_lt m2
  refine ⟨(hx.set (by omega) _).to _, ?_, ?_, _, ?_, .inr ⟨H'.length + 1, rfl, by omega, ?_⟩⟩
  · rw [blkAt_lo _ (by rw [List.length_set]; exact b0), blkAt_set_ne (by omega)]; exact m0
  · rw [blkAt_lo _ (by rw [List.length_set]; exact b1), blkAt_set_ne (by omega)]; exact m1
  · rw [blkAt_lo _ (by rw [List.length_set]; exact b2), blkAt_set_self b2]; rfl
  · have := blkAt_app (H'.set (H.length + 2) (some ⟨[.int .i64 R, .int .i64 C, .sl (H'.length + 1) 0 1 1 none], true⟩)) [some ⟨[.int .i64 x], true⟩, some ⟨[.int .i64 x], true⟩] 1
    rw [List.length_set] at this
    rw [this]
    rfl
theorem Md.step {H H' : Heap} {R C x : Int} {l : List Int} {p : Nat} {A : Option Blk} (hx : Ext H H') (m0 : blkAt H' H.length = some ⟨[.int .i64 R, .int .i64 C], true⟩) (m1 : blkAt H' (H.length + 1) = some ⟨[.int .i64 0, .int .i64 0, .nils], true⟩) (b2 : H.length + 2 < H'.length) (hp : H.length + 3 ≤ p) :
    Md H R C (l ++ [x]) ((H'.set p none).set (H.length + 2) (some ⟨[.int .i64 R, .int .i64 C, .sl (H'.length + 1) 0 (l.length + 1) 1 none], true⟩) ++ [A, some ⟨l.map i64 ++ [.int .i64 x], true⟩]) := by
  have b0 := blkAt_lt m0
  have b1 := blkAt_lt m1
  refine ⟨((hx.set (by omega) _).set (by omega) _).to _, ?_, ?_, _, ?_, .inr ⟨H'.length + 1, rfl, by omega, ?_⟩⟩
  · rw [blkAt_lo _ (by rw [List.length_set, List.length_set]; exact b0), blkAt_set_ne (by omega), blkAt_set_ne (by omega)]; exact m0
  · rw [blkAt_lo _ (by rw [List.length_set, List.length_set]; exact b1), blkAt_set_ne (by omega), blkAt_set_ne (by omega)]; exact m1
  · rw [blkAt_lo _ (by rw [List.length_set, List.length_set]; exact b2), blkAt_set_self (by rw [List.length_set]; exact b2)]; rw [List.length_append]; rfl
  · have := blkAt_app ((H'.set p none).set (H.length + 2) (some ⟨[.int .i64 R, .int .i64 C, .sl (H'.length + 1) 0 (l.length + 1) 1 none], true⟩)) [A, some ⟨l.map i64 ++ [.int .i64 x], true⟩] 1
    rw [List.length_set, List.length_set] at this
    rw [this, List.map_append]
    rfl
abbrev e84 (f r : Nat) (ys : List AV) (L : Nat) (o : Bool) (i : Nat) : Env := [(1, .fn (.func f) [] ys), (2, .ptr L 0), (4, .ptr (L + 1) 0), (6, .ptr (L + 2) 0), (7, .bool o), (18, .int .i64 (r : Nat)), (19, .int .i64 (i : Nat))]
theorem f84_in {r c f : Nat} {ys : List AV} {q : Nat → Nat → Int} {b : Nat → Nat → Bool} {H : Heap} {K : List Fr} {Q : Post} (hr : 0 < r ∧ r ≤ 8) (hc : 0 < c ∧ c ≤ 8) (hf : hasBody Try.prog f = true)
    (ht : ∀ H' i k, Ext H H' → i < r → k < c → ACall Try.prog f (.int .i64 (i : Nat) :: .int .i64 (k : Nat) :: ys) H' (.tup [.int .i64 (q i k), .bool (b i k)]) H')
    {i : Nat} (hi : i < r) {o0 : Bool} {l0 : List Int} (hl0 : l0.length ≤ 1000)
    (next : ∀ H', Md H r c (l0 ++ rowL q c i) H' → acs Try.prog K (e84 f r ys H.length (o0 || rowO b c i) i) H' Q) (H' : Heap) (hm : Md H r c l0 H') :
    acs Try.prog (.lp c84l0 :: .blk 2 :: K) [(1, .fn (.func f) [] ys), (2, .ptr H.length 0), (4, .ptr (H.length + 1) 0), (6, .ptr (H.length + 2) 0), (7, .bool o0), (8, .int .i64 (i : Nat)), (18, .int .i64 (r : Nat)), (19, .int .i64 (i : Nat)), (23, .int .i64 (c : Nat)), (24, .int .i64 0)] H' Q := by
  refine loop_nat (fun k T H' => ∃ j : Nat, T = [(1, .fn (.func f) [] ys), (2, .ptr H.length 0), (4, .ptr (H.length + 1) 0), (6, .ptr (H.length + 2) 0), (7, .bool (o0 || rowO b j i)), (8, .int .i64 (i : Nat)), (18, .int .i64 (r : Nat)), (19, .int .i64 (i : Nat)), (23, .int .i64 (c : Nat)), (24, .int .i64 (j : Nat))] ∧ j + k = c ∧ Md H r c (l0 ++ rowL q j i) H') ?_ ?_ c _ _ ⟨0, by simp [rowO], by omega, by simpa [rowL] using hm⟩
  · rintro k T H' ⟨j, rfl, hj, hx, m0, m1, w, m2, hw⟩ nx
    have hjc : (j : Int) < (c : Int) := by omega
    have g := fun G => ht (H' ++ G) i j (hx.to G) hi (by omega)
    have b0 := blkAt_lt m0
    have b1 := blkAt_lt m1
    have b2 := blkAt_lt m2
    have so : (o0 || rowO b (j + 1) i) = ((o0 || rowO b j i) || b i j) := by rw [rowO_succ, Bool.or_assoc]
    have sl : l0 ++ rowL q (j + 1) i = (l0 ++ rowL q j i) ++ [q i j] := by rw [rowL_succ, List.append_assoc]
    have ll : (l0 ++ rowL q j i).length ≤ 1010 := by rw [List.length_append, rowL_len]; omega
    generalize l0 ++ rowL q j i = l at *
    generalize (o0 || rowO b j i) = o at *
    rcases hw with ⟨rfl, rfl⟩ | ⟨p, rfl, hp, hb⟩
    · rw [acs_lp]; conv in Fr.code c84l0 => unfold c84l0
      simp (maxSteps := 1000000) (disch := omega) only [go_sem, Nat.reduceEqDiff, Nat.reduceLT, Nat.reduceAdd, Nat.reduceSub, Nat.reduceMul, Nat.reduceBEq, Int.reduceLT, Int.reduceAdd, Int.reduceMul, Int.reduceSub, Int.reduceToNat, Int.reduceLE, Int.reduceEq, ↓reduceIte, reduceCtorEq, Int.reduceNeg, Nat.reduceLeDiff,  hjc, hf]
      have g0 := g []
      rw [List.append_nil] at g0
      first | refine callB_intro (g0) ?_ | refine callD_intro (g0) ?_ | refine callP_intro (fun _ => (g0)) ?_ | refine callX_pure (g0) ?_
      have big : 1 * 8 ≤ 140737488355328 := by omega
      cases o
      all_goals
        simp (maxSteps := 1000000) (disch := omega) only [go_sem, Nat.reduceEqDiff, Nat.reduceLT, Nat.reduceAdd, Nat.reduceSub, Nat.reduceMul, Nat.reduceBEq, Int.reduceLT, Int.reduceAdd, Int.reduceMul, Int.reduceSub, Int.reduceToNat, Int.reduceLE, Int.reduceEq, ↓reduceIte, reduceCtorEq, Int.reduceNeg, Nat.reduceLeDiff,  m2, b2, blkAt_lo, set_lo, List.length_set]
        refine nx _ _ ⟨j + 1, ?_, by omega, ?_⟩
        · rw [so]; simp
        rw [sl]
        exact Md.step0 ⟨hx, m0, m1, _, m2, .inl ⟨rfl, rfl⟩⟩
    · rw [acs_lp]; conv in Fr.code c84l0 => unfold c84l0
      simp (maxSteps := 1000000) (disch := omega) only [go_sem, Nat.reduceEqDiff, Nat.reduceLT, Nat.reduceAdd, Nat.reduceSub, Nat.reduceMul, Nat.reduceBEq, Int.reduceLT, Int.reduceAdd, Int.reduceMul, Int.reduceSub, Int.reduceToNat, Int.reduceLE, Int.reduceEq, ↓reduceIte, reduceCtorEq, Int.reduceNeg, Nat.reduceLeDiff,  hjc, hf]
      have g0 := g []
      rw [List.append_nil] at g0
      first | refine callB_intro (g0) ?_ | refine callD_intro (g0) ?_ | refine callP_intro (fun _ => (g0)) ?_ | refine callX_pure (g0) ?_
      have bp := blkAt_lt hb
      have big : (l.length + 1) * 8 ≤ 140737488355328 := by omega
      have htk := takeMapI l
      have m2' : blkAt (H'.set p none) (H.length + 2) = some ⟨[.int .i64 (r : Nat), .int .i64 (c : Nat), .sl p 0 l.length 1 none], true⟩ := by rw [blkAt_set_ne (by omega)]; exact m2
      have b2' : H.length + 2 < (H'.set p none).length := by rw [List.length_set]; exact b2
      cases o
      all_goals
        simp (maxSteps := 1000000) (disch := omega) only [go_sem, Nat.reduceEqDiff, Nat.reduceLT, Nat.reduceAdd, Nat.reduceSub, Nat.reduceMul, Nat.reduceBEq, Int.reduceLT, Int.reduceAdd, Int.reduceMul, Int.reduceSub, Int.reduceToNat, Int.reduceLE, Int.reduceEq, ↓reduceIte, reduceCtorEq, Int.reduceNeg, Nat.reduceLeDiff,  m2, m2', b2, hb, bp, big, htk, blkAt_lo, set_lo, List.length_set, List.length_map, Nat.le_refl]
        refine nx _ _ ⟨j + 1, ?_, by omega, ?_⟩
        · rw [so]; simp
        rw [sl]
        exact Md.step hx m0 m1 b2 hp
  · rintro T H' ⟨j, rfl, hj, hm⟩
    obtain rfl : j = c := hj
    have go := next H' hm
    rw [acs_lp]; conv in Fr.code c84l0 => unfold c84l0
    simp (maxSteps := 1000000) (disch := omega) only [go_sem, Nat.reduceEqDiff, Nat.reduceLT, Nat.reduceAdd, Nat.reduceSub, Nat.reduceMul, Nat.reduceBEq, Int.reduceLT, Int.reduceAdd, Int.reduceMul, Int.reduceSub, Int.reduceToNat, Int.reduceLE, Int.reduceEq, ↓reduceIte, reduceCtorEq, Int.reduceNeg, Nat.reduceLeDiff,  Int.lt_irrefl]
    exact go
theorem f84 {r c f : Nat} {ys : List AV} {q : Nat → Nat → Int} {b : Nat → Nat → Bool} {H : Heap} (hr : 0 < r ∧ r ≤ 8) (hc : 0 < c ∧ c ≤ 8) (hf : hasBody Try.prog f = true)
    (ht : ∀ H' i k, Ext H H' → i < r → k < c → ACall Try.prog f (.int .i64 (i : Nat) :: .int .i64 (k : Nat) :: ys) H' (.tup [.int .i64 (q i k), .bool (b i k)]) H') :
    ACallE Try.prog 84 [.agg [.int .i64 (r : Nat), .int .i64 (c : Nat)], .fn (.func f) [] ys] H fun v H' => ∃ w, v = .tup [.agg [.int .i64 (r : Nat), .int .i64 (c : Nat), w], .bool (matO b r c)] ∧ Rw i64 H' w (matL q r c) ∧ ∃ p n, w = .sl p 0 n 1 none ∧ H.length ≤ p := by
  refine acallE (fun v Hf h => acallK84 (by simp) h) (acs_start ?_)
  unfold c84
  simp (maxSteps := 1000000) (disch := omega) only [go_sem, Nat.reduceEqDiff, Nat.reduceLT, Nat.reduceAdd, Nat.reduceSub, Nat.reduceMul, Nat.reduceBEq, Int.reduceLT, Int.reduceAdd, Int.reduceMul, Int.reduceSub, Int.reduceToNat, Int.reduceLE, Int.reduceEq, ↓reduceIte, reduceCtorEq, Int.reduceNeg, Nat.reduceLeDiff]
  refine loop_nat (fun k T H' => ∃ i : Nat, T = e84 f r ys H.length (matO b i c) i ∧ i + k = r ∧ Md H r c (matL q i c) H') ?_ ?_ r _ _ ⟨0, by simp [e84, matO], by omega, ?_⟩
  · rintro k T H' ⟨i, rfl, hi, hm⟩ nx
    have hir : (i : Int) < (r : Int) := by omega
    have hl : (matL q i c).length ≤ 1000 := by
      rw [matL_len]
      have : i * c ≤ 8 * 8 := Nat.mul_le_mul (by omega) (by omega)
      omega
    have go := fun K Q nn => f84_in (K := K) (Q := Q) hr hc hf ht (i := i) (by omega) (o0 := matO b i c) hl nn H' hm
    obtain ⟨hx, m0, m1, w, m2, hw⟩ := hm
    have b0 := blkAt_lt m0
    unfold e84
    rw [acs_lp]; conv in Fr.code c84l1 => unfold c84l1
    simp (maxSteps := 1000000) (disch := omega) only [go_sem, Nat.reduceEqDiff, Nat.reduceLT, Nat.reduceAdd, Nat.reduceSub, Nat.reduceMul, Nat.reduceBEq, Int.reduceLT, Int.reduceAdd, Int.reduceMul, Int.reduceSub, Int.reduceToNat, Int.reduceLE, Int.reduceEq, ↓reduceIte, reduceCtorEq, Int.reduceNeg, Nat.reduceLeDiff,  hir, m0, b0]
    refine go _ _ fun H2 hm2 => ?_
    unfold e84
    simp (maxSteps := 1000000) (disch := omega) only [go_sem, Nat.reduceEqDiff, Nat.reduceLT, Nat.reduceAdd, Nat.reduceSub, Nat.reduceMul, Nat.reduceBEq, Int.reduceLT, Int.reduceAdd, Int.reduceMul, Int.reduceSub, Int.reduceToNat, Int.reduceLE, Int.reduceEq, ↓reduceIte, reduceCtorEq, Int.reduceNeg, Nat.reduceLeDiff]
    refine nx _ _ ⟨i + 1, ?_, by omega, ?_⟩
    · rw [matO_succ]; simp [e84]
    · rw [matL_succ]; exact hm2
  · rintro T H' ⟨i, rfl, hi, hm⟩
    obtain rfl : i = r := hi
    obtain ⟨hx, m0, m1, w, m2, hw⟩ := hm
    have b1 := blkAt_lt m1
    have b2 := blkAt_lt m2
    have hl : 0 < (matL q i c).length := by rw [matL_len]; exact Nat.mul_pos hr.1 hc.1
    rcases hw with ⟨h, _⟩ | ⟨p, rfl, hp, hb⟩
    · rw [h] at hl; simp at hl
    unfold e84
    rw [acs_lp]; conv in Fr.code c84l1 => unfold c84l1
    simp (maxSteps := 1000000) (disch := omega) only [go_sem, Nat.reduceEqDiff, Nat.reduceLT, Nat.reduceAdd, Nat.reduceSub, Nat.reduceMul, Nat.reduceBEq, Int.reduceLT, Int.reduceAdd, Int.reduceMul, Int.reduceSub, Int.reduceToNat, Int.reduceLE, Int.reduceEq, ↓reduceIte, reduceCtorEq, Int.reduceNeg, Nat.reduceLeDiff,  Int.lt_irrefl, m1, b1, m2, b2]
    refine fin_e (by simp) (by simp (maxSteps := 1000000) (disch := omega) only [resVal, resAll, resOne, rs84, Env.get, go_sem, Nat.reduceEqDiff, Nat.reduceLT, Nat.reduceAdd, Nat.reduceSub, Nat.reduceMul, Nat.reduceBEq, Int.reduceLT, Int.reduceAdd, Int.reduceMul, Int.reduceSub, Int.reduceToNat, Int.reduceLE, Int.reduceEq, ↓reduceIte, reduceCtorEq, Int.reduceNeg, Nat.reduceLeDiff, blkAt_set_self b1] <;> rfl) (hx.set (by omega) _) ⟨_, rfl, Rw.mk _ (Sl.whole (o := true) (by rw [blkAt_set_ne (by omega)]; exact hb)), _, _, rfl, by omega⟩
  · refine ⟨⟨_, rfl⟩, ?_, ?_, .nils, ?_, .inl ⟨rfl, rfl⟩⟩
    · simp only [go_sem, Nat.reduceEqDiff, Nat.reduceLT, Nat.reduceAdd, Nat.reduceSub, Nat.reduceMul, Nat.reduceBEq, Int.reduceLT, Int.reduceAdd, Int.reduceMul, Int.reduceSub, Int.reduceToNat, Int.reduceLE, Int.reduceEq, ↓reduceIte, reduceCtorEq, Int.reduceNeg, Nat.reduceLeDiff]
    · simp only [go_sem, Nat.reduceEqDiff, Nat.reduceLT, Nat.reduceAdd, Nat.reduceSub, Nat.reduceMul, Nat.reduceBEq, Int.reduceLT, Int.reduceAdd, Int.reduceMul, Int.reduceSub, Int.reduceToNat, Int.reduceLE, Int.reduceEq, ↓reduceIte, reduceCtorEq, Int.reduceNeg, Nat.reduceLeDiff]
    · simp only [go_sem, Nat.reduceEqDiff, Nat.reduceLT, Nat.reduceAdd, Nat.reduceSub, Nat.reduceMul, Nat.reduceBEq, Int.reduceLT, Int.reduceAdd, Int.reduceMul, Int.reduceSub, Int.reduceToNat, Int.reduceLE, Int.reduceEq, ↓reduceIte, reduceCtorEq, Int.reduceNeg, Nat.reduceLeDiff]

/-! Right matrices. -/
structure Mx where
  r : Nat
  c : Nat
  l : List Int
  p : Nat
  off : Nat
  k : Option Nat
def Mx.av (m : Mx) : List AV := [.int .i64 (m.r : Nat), .int .i64 (m.c : Nat), .sl m.p m.off m.l.length 1 m.k]
structure Mx.ok (m : Mx) (H : Heap) : Prop where
  hr : 0 < m.r ∧ m.r ≤ 8
  hc : 0 < m.c ∧ m.c ≤ 8
  hl : m.l.length = m.r * m.c
  hb : ∀ x ∈ m.l, InB x
  hs : Sl i64 H m.p m.off m.l
theorem Mx.ok.ext {m : Mx} {H H' : Heap} (h : m.ok H) (hx : Ext H H') : m.ok H' := ⟨h.hr, h.hc, h.hl, h.hb, hx.sl h.hs⟩
theorem Mx.ok.app {m : Mx} {H : Heap} (h : m.ok H) (G : Heap) : m.ok (H ++ G) := h.ext (.app _ _)
theorem mav_len (m : Mx) : m.av.length = 3 := rfl
theorem mav_all (m : Mx) : m.av.all AV.cell = true := rfl
theorem mav_take (m : Mx) : List.take 3 m.av = m.av := rfl
def Mx.at (m : Mx) (i k : Nat) : Int := m.l.getD (i * m.c + k) 0
theorem ix_lt {i k r c : Nat} (hi : i < r) (hk : k < c) : i * c + k < r * c := by
  have h1 : (i + 1) * c ≤ r * c := Nat.mul_le_mul_right c (by omega)
  rw [Nat.succ_mul] at h1
  omega
theorem ix_le {r c : Nat} (hr : r ≤ 8) (hc : c ≤ 8) : r * c ≤ 64 := Nat.mul_le_mul hr hc
theorem Mx.at_in {m : Mx} {H : Heap} (h : m.ok H) {i k : Nat} (hi : i < m.r) (hk : k < m.c) : InB (m.at i k) := by
  have hlt : i * m.c + k < m.l.length := by rw [h.hl]; exact ix_lt hi hk
  unfold Mx.at
  rw [List.getD_eq_getElem?_getD, List.getElem?_eq_getElem hlt]
  exact h.hb _ (List.getElem_mem hlt)
theorem f86 {m : Mx} {i k : Nat} {H : Heap} (h : m.ok H) (hi : i < m.r) (hk : k < m.c) : ACall Try.prog 86 [.agg m.av, .int .i64 (i : Nat), .int .i64 (k : Nat)] H (.int .i64 (m.at i k)) H := by
  refine acall86 (by simp) (acs_start ?_)
  have hlt : i * m.c + k < m.l.length := by rw [h.hl]; exact ix_lt hi hk
  have h64 : m.l.length ≤ 64 := by rw [h.hl]; exact ix_le h.hr.2 h.hc.2
  have e1 : IntKind.i64.wrap ((i : Int) * (m.c : Int)) = ((i * m.c : Nat) : Int) := by rw [← Int.natCast_mul]; exact i64_in _ (by omega)
  have e2 : IntKind.i64.wrap (((i * m.c : Nat) : Int) + (k : Int)) = ((i * m.c + k : Nat) : Int) := by rw [← Int.natCast_add]; exact i64_in _ (by omega)
  obtain ⟨cs, o, hp, hle, hcs⟩ := h.hs
  have hpl := blkAt_lt hp
  have fx : cs[m.off + (i * m.c + k)]? = some (.int .i64 (m.at i k)) := by
    have hg : m.l[i * m.c + k]? = some (m.at i k) := by
      unfold Mx.at
      rw [List.getD_eq_getElem?_getD, List.getElem?_eq_getElem hlt]
      rfl
    exact sl_get hcs hg
  have hix : ((i * m.c + k : Nat) : Int) < (m.l.length : Int) := by omega
  have a1 := mav_len m
  have a2 := mav_all m
  have a3 : m.av[2]? = some (.sl m.p m.off m.l.length 1 m.k) := rfl
  have a4 : m.av[1]? = some (.int .i64 (m.c : Nat)) := rfl
  generalize i * m.c + k = n at *
  unfold c86
  simp (maxSteps := 1000000) (disch := omega) only [go_sem, Nat.reduceEqDiff, Nat.reduceLT, Nat.reduceAdd, Nat.reduceSub, Nat.reduceMul, Nat.reduceBEq, Int.reduceLT, Int.reduceAdd, Int.reduceMul, Int.reduceSub, Int.reduceToNat, Int.reduceLE, Int.reduceEq, ↓reduceIte, reduceCtorEq, Int.reduceNeg, Nat.reduceLeDiff,  a1, a2, a3, a4, e1, e2, hix, blkAt_lo, hpl, hp, fx]
  exact fin_same (by simp) _ (by first | exact (List.append_nil _).symm | rfl) (by simp (maxSteps := 1000000) (disch := omega) only [resVal, resAll, resOne, rs86, Env.get, go_sem, Nat.reduceEqDiff, Nat.reduceLT, Nat.reduceAdd, Nat.reduceSub, Nat.reduceMul, Nat.reduceBEq, Int.reduceLT, Int.reduceAdd, Int.reduceMul, Int.reduceSub, Int.reduceToNat, Int.reduceLE, Int.reduceEq, ↓reduceIte, reduceCtorEq, Int.reduceNeg, Nat.reduceLeDiff]) (by simp only [AV.und, AV.unds, and_self])
theorem f85 {m : Mx} {i k b : Nat} {o : Bool} {H : Heap} (h : m.ok H) (hi : i < m.c) (hk : k < m.r) (hb : blkAt H b = some ⟨m.av, o⟩) : ACall Try.prog 85 [.int .i64 (i : Nat), .int .i64 (k : Nat), .ptr b 0] H (.tup [.int .i64 (m.at k i), .bool false]) H := by
  refine acall85 (by simp) (acs_start ?_)
  have g := fun G => f86 (h.app G) hk hi
  have a1 := mav_len m
  have a2 := mav_all m
  have a3 := mav_take m
  have bl := blkAt_lt hb
  have g0 := f86 h hk hi
  unfold c85
  simp (maxSteps := 1000000) (disch := omega) only [go_sem, Nat.reduceEqDiff, Nat.reduceLT, Nat.reduceAdd, Nat.reduceSub, Nat.reduceMul, Nat.reduceBEq, Int.reduceLT, Int.reduceAdd, Int.reduceMul, Int.reduceSub, Int.reduceToNat, Int.reduceLE, Int.reduceEq, ↓reduceIte, reduceCtorEq, Int.reduceNeg, Nat.reduceLeDiff,  a1, a2, a3, bl, hb]
  first | refine callB_intro (g0) ?_ | refine callD_intro (g0) ?_ | refine callP_intro (fun _ => (g0)) ?_ | refine callX_pure (g0) ?_
  simp (maxSteps := 1000000) (disch := omega) only [go_sem, Nat.reduceEqDiff, Nat.reduceLT, Nat.reduceAdd, Nat.reduceSub, Nat.reduceMul, Nat.reduceBEq, Int.reduceLT, Int.reduceAdd, Int.reduceMul, Int.reduceSub, Int.reduceToNat, Int.reduceLE, Int.reduceEq, ↓reduceIte, reduceCtorEq, Int.reduceNeg, Nat.reduceLeDiff]
  exact fin_same (by simp) _ (by first | exact (List.append_nil _).symm | rfl) (by simp (maxSteps := 1000000) (disch := omega) only [resVal, resAll, resOne, rs85, Env.get, go_sem, Nat.reduceEqDiff, Nat.reduceLT, Nat.reduceAdd, Nat.reduceSub, Nat.reduceMul, Nat.reduceBEq, Int.reduceLT, Int.reduceAdd, Int.reduceMul, Int.reduceSub, Int.reduceToNat, Int.reduceLE, Int.reduceEq, ↓reduceIte, reduceCtorEq, Int.reduceNeg, Nat.reduceLeDiff]) (by simp only [AV.und, AV.unds, and_self])
theorem hb85 : hasBody Try.prog 85 = true := by kernel_rfl
theorem Sl.app_set {α : Type} {f : α → AV} {H : Heap} {p off : Nat} {zs : List α} (hs : Sl f H p off zs) {G : Heap} {b : Nat} (hb : H.length ≤ b) (x : Option Blk) : Sl f ((H ++ G).set b x) p off zs :=
  (hs.app G).set (by have := hs.lt; omega) x
theorem Mx.ok.app_set {m : Mx} {H : Heap} (h : m.ok H) {G : Heap} {b : Nat} (hb : H.length ≤ b) (x : Option Blk) : m.ok ((H ++ G).set b x) := ⟨h.hr, h.hc, h.hl, h.hb, h.hs.app_set hb x⟩
theorem blkAt_los {p b : Nat} {H : Heap} (G : Heap) (x : Option Blk) (h : p < H.length) : blkAt (H.set b x ++ G) p = blkAt (H.set b x) p := blkAt_lo G (by rw [List.length_set]; exact h)
theorem Rw.unset {α : Type} {f : α → AV} {H : Heap} {b : Nat} {v : AV} {zs : List α} (h : Rw f (H.set b none) v zs) (x : Option Blk) : Rw f (H.set b x) v zs := by
  obtain ⟨p, off, c, rfl, hs⟩ := h
  exact ⟨p, off, c, rfl, hs.unset x⟩
theorem Rw.app {α : Type} {f : α → AV} {H : Heap} {v : AV} {zs : List α} (h : Rw f H v zs) (G : Heap) : Rw f (H ++ G) v zs := h.ext (.app _ _)
theorem f73 {m : Mx} {H : Heap} (h : m.ok H) : ACallE Try.prog 73 [.agg m.av] H fun v H' => ∃ w, v = .agg [.int .i64 (m.c : Nat), .int .i64 (m.r : Nat), w] ∧ Rw i64 H' w (matL (fun i k => m.at k i) m.c m.r) := by
  refine acallE (fun v Hf h => acallK73 (by simp) h) (acs_start ?_)
  have a1 := mav_len m
  have a2 := mav_all m
  have a3 : m.av[0]? = some (.int .i64 (m.r : Nat)) := rfl
  have a4 : m.av[1]? = some (.int .i64 (m.c : Nat)) := rfl
  have g27 := fun (G : Heap) => f84 (f := 85) (H := (H ++ (some ⟨m.av, true⟩ :: G)).set (H.length + 1) none) (ys := [.ptr H.length 0]) (q := fun i k => m.at k i) (b := fun _ _ => false) h.hc h.hr hb85
    (fun H' i k hx hi hk => f85 (o := true) ((h.app_set (by omega) _).ext hx) hi hk (hx.blk (by rw [blkAt_set_ne (by omega)]; simp only [go_sem, Nat.reduceEqDiff, Nat.reduceLT, Nat.reduceAdd, Nat.reduceSub, Nat.reduceMul, Nat.reduceBEq, Int.reduceLT, Int.reduceAdd, Int.reduceMul, Int.reduceSub, Int.reduceToNat, Int.reduceLE, Int.reduceEq, ↓reduceIte, reduceCtorEq, Int.reduceNeg, Nat.reduceLeDiff])))
  unfold c73
  simp (maxSteps := 1000000) (disch := omega) only [go_sem, Nat.reduceEqDiff, Nat.reduceLT, Nat.reduceAdd, Nat.reduceSub, Nat.reduceMul, Nat.reduceBEq, Int.reduceLT, Int.reduceAdd, Int.reduceMul, Int.reduceSub, Int.reduceToNat, Int.reduceLE, Int.reduceEq, ↓reduceIte, reduceCtorEq, Int.reduceNeg, Nat.reduceLeDiff,  a1, a2, a3, a4]
  first | refine callBE (ACallE.frame (b := H.length + 1) (x := ⟨[.int .i64 0, .int .i64 0, .nils], true⟩) (by simp only [go_sem, Nat.reduceEqDiff, Nat.reduceLT, Nat.reduceAdd, Nat.reduceSub, Nat.reduceMul, Nat.reduceBEq, Int.reduceLT, Int.reduceAdd, Int.reduceMul, Int.reduceSub, Int.reduceToNat, Int.reduceLE, Int.reduceEq, ↓reduceIte, reduceCtorEq, Int.reduceNeg, Nat.reduceLeDiff]) rfl (g27 _)) ?_ | refine callDE (ACallE.frame (b := H.length + 1) (x := ⟨[.int .i64 0, .int .i64 0, .nils], true⟩) (by simp only [go_sem, Nat.reduceEqDiff, Nat.reduceLT, Nat.reduceAdd, Nat.reduceSub, Nat.reduceMul, Nat.reduceBEq, Int.reduceLT, Int.reduceAdd, Int.reduceMul, Int.reduceSub, Int.reduceToNat, Int.reduceLE, Int.reduceEq, ↓reduceIte, reduceCtorEq, Int.reduceNeg, Nat.reduceLeDiff]) rfl (g27 _)) ?_ | refine callXE (ACallE.frame (b := H.length + 1) (x := ⟨[.int .i64 0, .int .i64 0, .nils], true⟩) (by simp only [go_sem, Nat.reduceEqDiff, Nat.reduceLT, Nat.reduceAdd, Nat.reduceSub, Nat.reduceMul, Nat.reduceBEq, Int.reduceLT, Int.reduceAdd, Int.reduceMul, Int.reduceSub, Int.reduceToNat, Int.reduceLE, Int.reduceEq, ↓reduceIte, reduceCtorEq, Int.reduceNeg, Nat.reduceLeDiff]) rfl (g27 _)) ?_
  rintro v H1 hx ⟨b1, w, rfl, hw, _⟩
  obtain ⟨p, off, kk, rfl, hs⟩ := hw
  have bl1 := blkAt_lt b1
  have ok2 := fun y => hs.unset (some ⟨y, true⟩)
  simp (maxSteps := 1000000) (disch := omega) only [go_sem, Nat.reduceEqDiff, Nat.reduceLT, Nat.reduceAdd, Nat.reduceSub, Nat.reduceMul, Nat.reduceBEq, Int.reduceLT, Int.reduceAdd, Int.reduceMul, Int.reduceSub, Int.reduceToNat, Int.reduceLE, Int.reduceEq, ↓reduceIte, reduceCtorEq, Int.reduceNeg, Nat.reduceLeDiff,  b1, bl1, blkAt_lo, set_lo, List.length_set]
  refine fin_e (by simp) (by simp (maxSteps := 1000000) (disch := omega) only [resVal, resAll, resOne, rs73, Env.get, go_sem, Nat.reduceEqDiff, Nat.reduceLT, Nat.reduceAdd, Nat.reduceSub, Nat.reduceMul, Nat.reduceBEq, Int.reduceLT, Int.reduceAdd, Int.reduceMul, Int.reduceSub, Int.reduceToNat, Int.reduceLE, Int.reduceEq, ↓reduceIte, reduceCtorEq, Int.reduceNeg, Nat.reduceLeDiff, b1, bl1, blkAt_los, blkAt_lo, set_lo, List.length_set, blkAt_set_self] <;> rfl) ((((Ext.app _ _).trans hx).set (by omega) _).to _) ⟨_, rfl, (Rw.mk _ (ok2 _)).app _⟩

/-! Which matrices are right. -/
theorem drop_cons {α : Type} {xs : List α} {j : Nat} {x : α} {r : List α} (h : xs.drop j = x :: r) : xs[j]? = some x ∧ xs.drop (j + 1) = r ∧ j < xs.length := by
  refine ⟨by have := congrArg (·[0]?) h; simpa using this, by rw [← List.drop_drop, h]; rfl, ?_⟩
  rcases Nat.lt_or_ge j xs.length with g | g
  · exact g
  · rw [List.drop_of_length_le g] at h; cases h
def ixo : List Int → Int → Int
  | [], _ => -1
  | x :: r, j => if inb x then ixo r (j + 1) else j
theorem ixo_nil (j : Int) : ixo [] j = -1 := rfl
theorem ixo_cons (x : Int) (r : List Int) (j : Int) : ixo (x :: r) j = if inb x then ixo r (j + 1) else j := rfl
theorem ixo_all : ∀ (l : List Int) (j : Int), 0 ≤ j → (decide (0 ≤ ixo l j)) = !(l.all inb)
  | [], j, h => rfl
  | x :: r, j, h => by
    unfold ixo
    cases hx : inb x with
    | true => rw [if_pos rfl, ixo_all r (j + 1) (by omega)]; simp [hx]
    | false => rw [if_neg (by simp)]; simp [hx, h]
theorem hb81 : hasBody Try.prog 81 = true := by kernel_rfl
theorem f87 {l : List Int} {p off : Nat} {k : Option Nat} {H : Heap} (hs : Sl i64 H p off l) (hl : l.length ≤ 4611686018427387904) : ACall Try.prog 87 [.sl p off l.length 1 k, .fn (.func 81) [] []] H (.int .i64 (ixo l 0)) H := by
  refine acall87 (by simp) (acs_start ?_)
  obtain ⟨cs, o, hp, hle, hcs⟩ := hs
  have hpl := blkAt_lt hp
  have g := fun x => f81 (a := x) (H := H)
  unfold c87
  simp (maxSteps := 1000000) (disch := omega) only [go_sem, Nat.reduceEqDiff, Nat.reduceLT, Nat.reduceAdd, Nat.reduceSub, Nat.reduceMul, Nat.reduceBEq, Int.reduceLT, Int.reduceAdd, Int.reduceMul, Int.reduceSub, Int.reduceToNat, Int.reduceLE, Int.reduceEq, ↓reduceIte, reduceCtorEq, Int.reduceNeg, Nat.reduceLeDiff]
  refine loop_list (fun r T H' => ∃ j : Nat, T = [(0, .sl p off l.length 1 k), (1, .fn (.func 81) [] []), (7, .int .i64 (l.length : Nat)), (8, .int .i64 (j : Nat))] ∧ H' = H ∧ l.drop j = r ∧ j + r.length = l.length ∧ ixo l 0 = ixo r j) ?_ ?_ l _ _ ⟨0, rfl, rfl, rfl, by simp, rfl⟩
  · rintro x r T H' ⟨j, rfl, rfl, hd, hj, hi⟩ nx
    obtain ⟨h1, h2, h3⟩ := drop_cons hd
    have hjl : (j : Int) < (l.length : Int) := by omega
    have fx : cs[off + j]? = some (.int .i64 x) := sl_get hcs h1
    have hi0 := hi
    rw [hi]
    rw [acs_lp]; conv in Fr.code c87l0 => unfold c87l0
    simp (maxSteps := 1000000) (disch := omega) only [go_sem, Nat.reduceEqDiff, Nat.reduceLT, Nat.reduceAdd, Nat.reduceSub, Nat.reduceMul, Nat.reduceBEq, Int.reduceLT, Int.reduceAdd, Int.reduceMul, Int.reduceSub, Int.reduceToNat, Int.reduceLE, Int.reduceEq, ↓reduceIte, reduceCtorEq, Int.reduceNeg, Nat.reduceLeDiff,  hjl, hpl, hp, fx, hb81]
    first | refine callB_intro (g _) ?_ | refine callD_intro (g _) ?_ | refine callP_intro (fun _ => (g _)) ?_ | refine callX_pure (g _) ?_
    cases hx : inb x with
    | true =>
      have e1 : ixo (x :: r) (j : Int) = ixo r ((j + 1 : Nat) : Int) := by rw [ixo_cons, hx]; rfl
      rw [e1]
      rw [e1] at hi
      simp (maxSteps := 1000000) (disch := omega) only [go_sem, Nat.reduceEqDiff, Nat.reduceLT, Nat.reduceAdd, Nat.reduceSub, Nat.reduceMul, Nat.reduceBEq, Int.reduceLT, Int.reduceAdd, Int.reduceMul, Int.reduceSub, Int.reduceToNat, Int.reduceLE, Int.reduceEq, ↓reduceIte, reduceCtorEq, Int.reduceNeg, Nat.reduceLeDiff]
      rw [← hi]
      refine nx _ _ ⟨j + 1, ?_, rfl, h2, by simp at hj; omega, hi⟩
      simp
    | false =>
      have e1 : ixo (x :: r) (j : Int) = (j : Int) := by rw [ixo_cons, hx]; rfl
      rw [e1]
      simp (maxSteps := 1000000) (disch := omega) only [go_sem, Nat.reduceEqDiff, Nat.reduceLT, Nat.reduceAdd, Nat.reduceSub, Nat.reduceMul, Nat.reduceBEq, Int.reduceLT, Int.reduceAdd, Int.reduceMul, Int.reduceSub, Int.reduceToNat, Int.reduceLE, Int.reduceEq, ↓reduceIte, reduceCtorEq, Int.reduceNeg, Nat.reduceLeDiff]
      exact fin_same (by simp) _ (by first | exact (List.append_nil _).symm | rfl) (by simp (maxSteps := 1000000) (disch := omega) only [resVal, resAll, resOne, rs87, Env.get, go_sem, Nat.reduceEqDiff, Nat.reduceLT, Nat.reduceAdd, Nat.reduceSub, Nat.reduceMul, Nat.reduceBEq, Int.reduceLT, Int.reduceAdd, Int.reduceMul, Int.reduceSub, Int.reduceToNat, Int.reduceLE, Int.reduceEq, ↓reduceIte, reduceCtorEq, Int.reduceNeg, Nat.reduceLeDiff]) (by simp only [AV.und, AV.unds, and_self])
  · rintro T H' ⟨j, rfl, rfl, hd, hj, hi⟩
    obtain rfl : j = l.length := by simpa using hj
    rw [hi, ixo_nil]
    rw [acs_lp]; conv in Fr.code c87l0 => unfold c87l0
    simp (maxSteps := 1000000) (disch := omega) only [go_sem, Nat.reduceEqDiff, Nat.reduceLT, Nat.reduceAdd, Nat.reduceSub, Nat.reduceMul, Nat.reduceBEq, Int.reduceLT, Int.reduceAdd, Int.reduceMul, Int.reduceSub, Int.reduceToNat, Int.reduceLE, Int.reduceEq, ↓reduceIte, reduceCtorEq, Int.reduceNeg, Nat.reduceLeDiff,  Int.lt_irrefl]
    exact fin_same (by simp) _ (by first | exact (List.append_nil _).symm | rfl) (by simp (maxSteps := 1000000) (disch := omega) only [resVal, resAll, resOne, rs87, Env.get, go_sem, Nat.reduceEqDiff, Nat.reduceLT, Nat.reduceAdd, Nat.reduceSub, Nat.reduceMul, Nat.reduceBEq, Int.reduceLT, Int.reduceAdd, Int.reduceMul, Int.reduceSub, Int.reduceToNat, Int.reduceLE, Int.reduceEq, ↓reduceIte, reduceCtorEq, Int.reduceNeg, Nat.reduceLeDiff]) (by simp only [AV.und, AV.unds, and_self])
theorem f77 {l : List Int} {p off : Nat} {k : Option Nat} {H : Heap} (hs : Sl i64 H p off l) (hl : l.length ≤ 4611686018427387904) : ACall Try.prog 77 [.sl p off l.length 1 k, .fn (.func 81) [] []] H (.bool (!(l.all inb))) H := by
  refine acall77 (by simp) (acs_start ?_)
  have g := f87 (k := k) hs hl
  have e := ixo_all l 0 (Int.le_refl _)
  unfold c77
  simp (maxSteps := 1000000) (disch := omega) only [go_sem, Nat.reduceEqDiff, Nat.reduceLT, Nat.reduceAdd, Nat.reduceSub, Nat.reduceMul, Nat.reduceBEq, Int.reduceLT, Int.reduceAdd, Int.reduceMul, Int.reduceSub, Int.reduceToNat, Int.reduceLE, Int.reduceEq, ↓reduceIte, reduceCtorEq, Int.reduceNeg, Nat.reduceLeDiff]
  first | refine callB_intro (g) ?_ | refine callD_intro (g) ?_ | refine callP_intro (fun _ => (g)) ?_ | refine callX_pure (g) ?_
  simp (maxSteps := 1000000) (disch := omega) only [go_sem, Nat.reduceEqDiff, Nat.reduceLT, Nat.reduceAdd, Nat.reduceSub, Nat.reduceMul, Nat.reduceBEq, Int.reduceLT, Int.reduceAdd, Int.reduceMul, Int.reduceSub, Int.reduceToNat, Int.reduceLE, Int.reduceEq, ↓reduceIte, reduceCtorEq, Int.reduceNeg, Nat.reduceLeDiff,  e]
  exact fin_same (by simp) _ (by first | exact (List.append_nil _).symm | rfl) (by simp (maxSteps := 1000000) (disch := omega) only [resVal, resAll, resOne, rs77, Env.get, go_sem, Nat.reduceEqDiff, Nat.reduceLT, Nat.reduceAdd, Nat.reduceSub, Nat.reduceMul, Nat.reduceBEq, Int.reduceLT, Int.reduceAdd, Int.reduceMul, Int.reduceSub, Int.reduceToNat, Int.reduceLE, Int.reduceEq, ↓reduceIte, reduceCtorEq, Int.reduceNeg, Nat.reduceLeDiff]) (by simp only [AV.und, AV.unds, and_self])
def rightB (R C : Int) (l : List Int) : Bool := decide (1 ≤ R ∧ R ≤ 8 ∧ 1 ≤ C ∧ C ≤ 8 ∧ (l.length : Int) = R * C) && l.all inb
theorem mul64 {R C : Int} (h1 : 1 ≤ R) (h2 : R ≤ 8) (h3 : 1 ≤ C) (h4 : C ≤ 8) : IntKind.i64.wrap (R * C) = R * C := by
  have a := Int.mul_le_mul h2 h4 (by omega) (by omega)
  have b := Int.mul_nonneg (show 0 ≤ R by omega) (show 0 ≤ C by omega)
  exact i64_in _ (by omega)
theorem f71 {R C : Int} {l : List Int} {p off : Nat} {k : Option Nat} {H : Heap} (hs : Sl i64 H p off l) (hl : l.length ≤ 4611686018427387904) : ACall Try.prog 71 [.agg [.int .i64 R, .int .i64 C, .sl p off l.length 1 k]] H (.bool (rightB R C l)) H := by
  refine acall71 (by simp) (acs_start ?_)
  have g := fun G => f77 (k := k) (hs.app G) hl
  have no : ¬ (1 ≤ R ∧ R ≤ 8 ∧ 1 ≤ C ∧ C ≤ 8 ∧ (l.length : Int) = R * C) → rightB R C l = false := fun h => by unfold rightB; rw [decide_eq_false h]; rfl
  unfold c71
  by_cases h1 : 1 ≤ R
  rotate_left
  · rw [no (by omega)]
    simp (maxSteps := 1000000) (disch := omega) only [go_sem, Nat.reduceEqDiff, Nat.reduceLT, Nat.reduceAdd, Nat.reduceSub, Nat.reduceMul, Nat.reduceBEq, Int.reduceLT, Int.reduceAdd, Int.reduceMul, Int.reduceSub, Int.reduceToNat, Int.reduceLE, Int.reduceEq, ↓reduceIte, reduceCtorEq, Int.reduceNeg, Nat.reduceLeDiff,  h1]
    exact fin_same (by simp) _ (by first | exact (List.append_nil _).symm | rfl) (by simp (maxSteps := 1000000) (disch := omega) only [resVal, resAll, resOne, rs71, Env.get, go_sem, Nat.reduceEqDiff, Nat.reduceLT, Nat.reduceAdd, Nat.reduceSub, Nat.reduceMul, Nat.reduceBEq, Int.reduceLT, Int.reduceAdd, Int.reduceMul, Int.reduceSub, Int.reduceToNat, Int.reduceLE, Int.reduceEq, ↓reduceIte, reduceCtorEq, Int.reduceNeg, Nat.reduceLeDiff]) (by simp only [AV.und, AV.unds, and_self])
  by_cases h2 : R ≤ 8
  rotate_left
  · rw [no (by omega)]
    simp (maxSteps := 1000000) (disch := omega) only [go_sem, Nat.reduceEqDiff, Nat.reduceLT, Nat.reduceAdd, Nat.reduceSub, Nat.reduceMul, Nat.reduceBEq, Int.reduceLT, Int.reduceAdd, Int.reduceMul, Int.reduceSub, Int.reduceToNat, Int.reduceLE, Int.reduceEq, ↓reduceIte, reduceCtorEq, Int.reduceNeg, Nat.reduceLeDiff,  h1, h2]
    exact fin_same (by simp) _ (by first | exact (List.append_nil _).symm | rfl) (by simp (maxSteps := 1000000) (disch := omega) only [resVal, resAll, resOne, rs71, Env.get, go_sem, Nat.reduceEqDiff, Nat.reduceLT, Nat.reduceAdd, Nat.reduceSub, Nat.reduceMul, Nat.reduceBEq, Int.reduceLT, Int.reduceAdd, Int.reduceMul, Int.reduceSub, Int.reduceToNat, Int.reduceLE, Int.reduceEq, ↓reduceIte, reduceCtorEq, Int.reduceNeg, Nat.reduceLeDiff]) (by simp only [AV.und, AV.unds, and_self])
  by_cases h3 : 1 ≤ C
  rotate_left
  · rw [no (by omega)]
    simp (maxSteps := 1000000) (disch := omega) only [go_sem, Nat.reduceEqDiff, Nat.reduceLT, Nat.reduceAdd, Nat.reduceSub, Nat.reduceMul, Nat.reduceBEq, Int.reduceLT, Int.reduceAdd, Int.reduceMul, Int.reduceSub, Int.reduceToNat, Int.reduceLE, Int.reduceEq, ↓reduceIte, reduceCtorEq, Int.reduceNeg, Nat.reduceLeDiff,  h1, h2, h3]
    exact fin_same (by simp) _ (by first | exact (List.append_nil _).symm | rfl) (by simp (maxSteps := 1000000) (disch := omega) only [resVal, resAll, resOne, rs71, Env.get, go_sem, Nat.reduceEqDiff, Nat.reduceLT, Nat.reduceAdd, Nat.reduceSub, Nat.reduceMul, Nat.reduceBEq, Int.reduceLT, Int.reduceAdd, Int.reduceMul, Int.reduceSub, Int.reduceToNat, Int.reduceLE, Int.reduceEq, ↓reduceIte, reduceCtorEq, Int.reduceNeg, Nat.reduceLeDiff]) (by simp only [AV.und, AV.unds, and_self])
  by_cases h4 : C ≤ 8
  rotate_left
  · rw [no (by omega)]
    simp (maxSteps := 1000000) (disch := omega) only [go_sem, Nat.reduceEqDiff, Nat.reduceLT, Nat.reduceAdd, Nat.reduceSub, Nat.reduceMul, Nat.reduceBEq, Int.reduceLT, Int.reduceAdd, Int.reduceMul, Int.reduceSub, Int.reduceToNat, Int.reduceLE, Int.reduceEq, ↓reduceIte, reduceCtorEq, Int.reduceNeg, Nat.reduceLeDiff,  h1, h2, h3, h4]
    exact fin_same (by simp) _ (by first | exact (List.append_nil _).symm | rfl) (by simp (maxSteps := 1000000) (disch := omega) only [resVal, resAll, resOne, rs71, Env.get, go_sem, Nat.reduceEqDiff, Nat.reduceLT, Nat.reduceAdd, Nat.reduceSub, Nat.reduceMul, Nat.reduceBEq, Int.reduceLT, Int.reduceAdd, Int.reduceMul, Int.reduceSub, Int.reduceToNat, Int.reduceLE, Int.reduceEq, ↓reduceIte, reduceCtorEq, Int.reduceNeg, Nat.reduceLeDiff]) (by simp only [AV.und, AV.unds, and_self])
  have e := mul64 h1 h2 h3 h4
  by_cases h5 : (l.length : Int) = R * C
  rotate_left
  · rw [no (fun h => h5 h.2.2.2.2)]
    simp (maxSteps := 1000000) (disch := omega) only [go_sem, Nat.reduceEqDiff, Nat.reduceLT, Nat.reduceAdd, Nat.reduceSub, Nat.reduceMul, Nat.reduceBEq, Int.reduceLT, Int.reduceAdd, Int.reduceMul, Int.reduceSub, Int.reduceToNat, Int.reduceLE, Int.reduceEq, ↓reduceIte, reduceCtorEq, Int.reduceNeg, Nat.reduceLeDiff,  h1, h2, h3, h4, e, h5]
    exact fin_same (by simp) _ (by first | exact (List.append_nil _).symm | rfl) (by simp (maxSteps := 1000000) (disch := omega) only [resVal, resAll, resOne, rs71, Env.get, go_sem, Nat.reduceEqDiff, Nat.reduceLT, Nat.reduceAdd, Nat.reduceSub, Nat.reduceMul, Nat.reduceBEq, Int.reduceLT, Int.reduceAdd, Int.reduceMul, Int.reduceSub, Int.reduceToNat, Int.reduceLE, Int.reduceEq, ↓reduceIte, reduceCtorEq, Int.reduceNeg, Nat.reduceLeDiff]) (by simp only [AV.und, AV.unds, and_self])
  have yes : rightB R C l = l.all inb := by unfold rightB; rw [decide_eq_true ⟨h1, h2, h3, h4, h5⟩]; rfl
  rw [yes]
  simp (maxSteps := 1000000) (disch := omega) only [go_sem, Nat.reduceEqDiff, Nat.reduceLT, Nat.reduceAdd, Nat.reduceSub, Nat.reduceMul, Nat.reduceBEq, Int.reduceLT, Int.reduceAdd, Int.reduceMul, Int.reduceSub, Int.reduceToNat, Int.reduceLE, Int.reduceEq, ↓reduceIte, reduceCtorEq, Int.reduceNeg, Nat.reduceLeDiff,  h1, h2, h3, h4, e, h5]
  first | refine callB_intro (g _) ?_ | refine callD_intro (g _) ?_ | refine callP_intro (fun _ => (g _)) ?_ | refine callX_pure (g _) ?_
  simp (maxSteps := 1000000) (disch := omega) only [go_sem, Nat.reduceEqDiff, Nat.reduceLT, Nat.reduceAdd, Nat.reduceSub, Nat.reduceMul, Nat.reduceBEq, Int.reduceLT, Int.reduceAdd, Int.reduceMul, Int.reduceSub, Int.reduceToNat, Int.reduceLE, Int.reduceEq, ↓reduceIte, reduceCtorEq, Int.reduceNeg, Nat.reduceLeDiff,  Bool.not_not, Bool.true_and]
  exact fin_same (by simp) _ (by first | exact (List.append_nil _).symm | rfl) (by simp (maxSteps := 1000000) (disch := omega) only [resVal, resAll, resOne, rs71, Env.get, go_sem, Nat.reduceEqDiff, Nat.reduceLT, Nat.reduceAdd, Nat.reduceSub, Nat.reduceMul, Nat.reduceBEq, Int.reduceLT, Int.reduceAdd, Int.reduceMul, Int.reduceSub, Int.reduceToNat, Int.reduceLE, Int.reduceEq, ↓reduceIte, reduceCtorEq, Int.reduceNeg, Nat.reduceLeDiff]) (by simp only [AV.und, AV.unds, and_self])

/-! The document's side: which are right, which are the same. -/
theorem f49 {R C : Int} {l : List Int} {p off : Nat} {k : Option Nat} {H : Heap} (hs : Sl i64 H p off l) (hl : l.length ≤ 4611686018427387904) : ACall Try.prog 49 [.agg [.int .i64 R, .int .i64 C, .sl p off l.length 1 k]] H (.bool (rightB R C l)) H := by
  refine acall49 (by simp) (acs_start ?_)
  have no : ¬ (1 ≤ R ∧ R ≤ 8 ∧ 1 ≤ C ∧ C ≤ 8 ∧ (l.length : Int) = R * C) → rightB R C l = false := fun h => by unfold rightB; rw [decide_eq_false h]; rfl
  unfold c49
  by_cases h1 : R < 1
  · rw [no (by omega)]
    simp (maxSteps := 1000000) (disch := omega) only [go_sem, Nat.reduceEqDiff, Nat.reduceLT, Nat.reduceAdd, Nat.reduceSub, Nat.reduceMul, Nat.reduceBEq, Int.reduceLT, Int.reduceAdd, Int.reduceMul, Int.reduceSub, Int.reduceToNat, Int.reduceLE, Int.reduceEq, ↓reduceIte, reduceCtorEq, Int.reduceNeg, Nat.reduceLeDiff,  h1]
    exact fin_same (by simp) _ (by first | exact (List.append_nil _).symm | rfl) (by simp (maxSteps := 1000000) (disch := omega) only [resVal, resAll, resOne, rs49, Env.get, go_sem, Nat.reduceEqDiff, Nat.reduceLT, Nat.reduceAdd, Nat.reduceSub, Nat.reduceMul, Nat.reduceBEq, Int.reduceLT, Int.reduceAdd, Int.reduceMul, Int.reduceSub, Int.reduceToNat, Int.reduceLE, Int.reduceEq, ↓reduceIte, reduceCtorEq, Int.reduceNeg, Nat.reduceLeDiff]) (by simp only [AV.und, AV.unds, and_self])
  by_cases h2 : 8 < R
  · rw [no (by omega)]
    simp (maxSteps := 1000000) (disch := omega) only [go_sem, Nat.reduceEqDiff, Nat.reduceLT, Nat.reduceAdd, Nat.reduceSub, Nat.reduceMul, Nat.reduceBEq, Int.reduceLT, Int.reduceAdd, Int.reduceMul, Int.reduceSub, Int.reduceToNat, Int.reduceLE, Int.reduceEq, ↓reduceIte, reduceCtorEq, Int.reduceNeg, Nat.reduceLeDiff,  h1, h2]
    exact fin_same (by simp) _ (by first | exact (List.append_nil _).symm | rfl) (by simp (maxSteps := 1000000) (disch := omega) only [resVal, resAll, resOne, rs49, Env.get, go_sem, Nat.reduceEqDiff, Nat.reduceLT, Nat.reduceAdd, Nat.reduceSub, Nat.reduceMul, Nat.reduceBEq, Int.reduceLT, Int.reduceAdd, Int.reduceMul, Int.reduceSub, Int.reduceToNat, Int.reduceLE, Int.reduceEq, ↓reduceIte, reduceCtorEq, Int.reduceNeg, Nat.reduceLeDiff]) (by simp only [AV.und, AV.unds, and_self])
  by_cases h3 : C < 1
  · rw [no (by omega)]
    simp (maxSteps := 1000000) (disch := omega) only [go_sem, Nat.reduceEqDiff, Nat.reduceLT, Nat.reduceAdd, Nat.reduceSub, Nat.reduceMul, Nat.reduceBEq, Int.reduceLT, Int.reduceAdd, Int.reduceMul, Int.reduceSub, Int.reduceToNat, Int.reduceLE, Int.reduceEq, ↓reduceIte, reduceCtorEq, Int.reduceNeg, Nat.reduceLeDiff,  h1, h2, h3]
    exact fin_same (by simp) _ (by first | exact (List.append_nil _).symm | rfl) (by simp (maxSteps := 1000000) (disch := omega) only [resVal, resAll, resOne, rs49, Env.get, go_sem, Nat.reduceEqDiff, Nat.reduceLT, Nat.reduceAdd, Nat.reduceSub, Nat.reduceMul, Nat.reduceBEq, Int.reduceLT, Int.reduceAdd, Int.reduceMul, Int.reduceSub, Int.reduceToNat, Int.reduceLE, Int.reduceEq, ↓reduceIte, reduceCtorEq, Int.reduceNeg, Nat.reduceLeDiff]) (by simp only [AV.und, AV.unds, and_self])
  by_cases h4 : 8 < C
  · rw [no (by omega)]
    simp (maxSteps := 1000000) (disch := omega) only [go_sem, Nat.reduceEqDiff, Nat.reduceLT, Nat.reduceAdd, Nat.reduceSub, Nat.reduceMul, Nat.reduceBEq, Int.reduceLT, Int.reduceAdd, Int.reduceMul, Int.reduceSub, Int.reduceToNat, Int.reduceLE, Int.reduceEq, ↓reduceIte, reduceCtorEq, Int.reduceNeg, Nat.reduceLeDiff,  h1, h2, h3, h4]
    exact fin_same (by simp) _ (by first | exact (List.append_nil _).symm | rfl) (by simp (maxSteps := 1000000) (disch := omega) only [resVal, resAll, resOne, rs49, Env.get, go_sem, Nat.reduceEqDiff, Nat.reduceLT, Nat.reduceAdd, Nat.reduceSub, Nat.reduceMul, Nat.reduceBEq, Int.reduceLT, Int.reduceAdd, Int.reduceMul, Int.reduceSub, Int.reduceToNat, Int.reduceLE, Int.reduceEq, ↓reduceIte, reduceCtorEq, Int.reduceNeg, Nat.reduceLeDiff]) (by simp only [AV.und, AV.unds, and_self])
  have e := mul64 (R := R) (C := C) (by omega) (by omega) (by omega) (by omega)
  by_cases h5 : (l.length : Int) = R * C
  rotate_left
  · rw [no (fun h => h5 h.2.2.2.2)]
    simp (maxSteps := 1000000) (disch := omega) only [go_sem, Nat.reduceEqDiff, Nat.reduceLT, Nat.reduceAdd, Nat.reduceSub, Nat.reduceMul, Nat.reduceBEq, Int.reduceLT, Int.reduceAdd, Int.reduceMul, Int.reduceSub, Int.reduceToNat, Int.reduceLE, Int.reduceEq, ↓reduceIte, reduceCtorEq, Int.reduceNeg, Nat.reduceLeDiff,  h1, h2, h3, h4, e, h5]
    exact fin_same (by simp) _ (by first | exact (List.append_nil _).symm | rfl) (by simp (maxSteps := 1000000) (disch := omega) only [resVal, resAll, resOne, rs49, Env.get, go_sem, Nat.reduceEqDiff, Nat.reduceLT, Nat.reduceAdd, Nat.reduceSub, Nat.reduceMul, Nat.reduceBEq, Int.reduceLT, Int.reduceAdd, Int.reduceMul, Int.reduceSub, Int.reduceToNat, Int.reduceLE, Int.reduceEq, ↓reduceIte, reduceCtorEq, Int.reduceNeg, Nat.reduceLeDiff]) (by simp only [AV.und, AV.unds, and_self])
  have yes : rightB R C l = l.all inb := by unfold rightB; rw [decide_eq_true ⟨by omega, by omega, by omega, by omega, h5⟩]; rfl
  rw [yes]
  clear no yes
  obtain ⟨cs, o, hp, hle, hcs⟩ := hs
  have hpl := blkAt_lt hp
  simp (maxSteps := 1000000) (disch := omega) only [go_sem, Nat.reduceEqDiff, Nat.reduceLT, Nat.reduceAdd, Nat.reduceSub, Nat.reduceMul, Nat.reduceBEq, Int.reduceLT, Int.reduceAdd, Int.reduceMul, Int.reduceSub, Int.reduceToNat, Int.reduceLE, Int.reduceEq, ↓reduceIte, reduceCtorEq, Int.reduceNeg, Nat.reduceLeDiff,  h1, h2, h3, h4, e, h5]
  refine loop_list (fun r T H' => ∃ j : Nat, T = [(1, .ptr H.length 0), (3, .int .i64 (j : Nat))] ∧ H' = H ++ [some ⟨[.int .i64 R, .int .i64 C, .sl p off l.length 1 k], true⟩] ∧ l.drop j = r ∧ j + r.length = l.length ∧ l.all inb = r.all inb) ?_ ?_ l _ _ ⟨0, rfl, rfl, rfl, by simp, rfl⟩
  · rintro x r T H' ⟨j, rfl, rfl, hd, hj, hi⟩ nx
    obtain ⟨g1, g2, g3⟩ := drop_cons hd
    have hjl : (j : Int) < (l.length : Int) := by omega
    have fx : cs[off + j]? = some (.int .i64 x) := sl_get hcs g1
    have g := fun G => f50 (a := x) (H := H ++ G)
    rw [acs_lp]; conv in Fr.code c49l0 => unfold c49l0
    simp (maxSteps := 1000000) (disch := omega) only [go_sem, Nat.reduceEqDiff, Nat.reduceLT, Nat.reduceAdd, Nat.reduceSub, Nat.reduceMul, Nat.reduceBEq, Int.reduceLT, Int.reduceAdd, Int.reduceMul, Int.reduceSub, Int.reduceToNat, Int.reduceLE, Int.reduceEq, ↓reduceIte, reduceCtorEq, Int.reduceNeg, Nat.reduceLeDiff,  hjl, blkAt_lo, hpl, hp, fx]
    first | refine callB_intro (g _) ?_ | refine callD_intro (g _) ?_ | refine callP_intro (fun _ => (g _)) ?_ | refine callX_pure (g _) ?_
    rw [List.all_cons] at hi
    cases hx : inb x with
    | true =>
      rw [hx, Bool.true_and] at hi
      simp (maxSteps := 1000000) (disch := omega) only [go_sem, Nat.reduceEqDiff, Nat.reduceLT, Nat.reduceAdd, Nat.reduceSub, Nat.reduceMul, Nat.reduceBEq, Int.reduceLT, Int.reduceAdd, Int.reduceMul, Int.reduceSub, Int.reduceToNat, Int.reduceLE, Int.reduceEq, ↓reduceIte, reduceCtorEq, Int.reduceNeg, Nat.reduceLeDiff]
      refine nx _ _ ⟨j + 1, ?_, rfl, g2, by simp at hj; omega, hi⟩
      simp
    | false =>
      rw [hx, Bool.false_and] at hi
      rw [hi]
      simp (maxSteps := 1000000) (disch := omega) only [go_sem, Nat.reduceEqDiff, Nat.reduceLT, Nat.reduceAdd, Nat.reduceSub, Nat.reduceMul, Nat.reduceBEq, Int.reduceLT, Int.reduceAdd, Int.reduceMul, Int.reduceSub, Int.reduceToNat, Int.reduceLE, Int.reduceEq, ↓reduceIte, reduceCtorEq, Int.reduceNeg, Nat.reduceLeDiff]
      exact fin_same (by simp) _ (by first | exact (List.append_nil _).symm | rfl) (by simp (maxSteps := 1000000) (disch := omega) only [resVal, resAll, resOne, rs49, Env.get, go_sem, Nat.reduceEqDiff, Nat.reduceLT, Nat.reduceAdd, Nat.reduceSub, Nat.reduceMul, Nat.reduceBEq, Int.reduceLT, Int.reduceAdd, Int.reduceMul, Int.reduceSub, Int.reduceToNat, Int.reduceLE, Int.reduceEq, ↓reduceIte, reduceCtorEq, Int.reduceNeg, Nat.reduceLeDiff]) (by simp only [AV.und, AV.unds, and_self])
  · rintro T H' ⟨j, rfl, rfl, hd, hj, hi⟩
    obtain rfl : j = l.length := by simpa using hj
    rw [hi]
    rw [acs_lp]; conv in Fr.code c49l0 => unfold c49l0
    simp (maxSteps := 1000000) (disch := omega) only [go_sem, Nat.reduceEqDiff, Nat.reduceLT, Nat.reduceAdd, Nat.reduceSub, Nat.reduceMul, Nat.reduceBEq, Int.reduceLT, Int.reduceAdd, Int.reduceMul, Int.reduceSub, Int.reduceToNat, Int.reduceLE, Int.reduceEq, ↓reduceIte, reduceCtorEq, Int.reduceNeg, Nat.reduceLeDiff,  Int.lt_irrefl]
    exact fin_same (by simp) _ (by first | exact (List.append_nil _).symm | rfl) (by simp (maxSteps := 1000000) (disch := omega) only [resVal, resAll, resOne, rs49, Env.get, go_sem, Nat.reduceEqDiff, Nat.reduceLT, Nat.reduceAdd, Nat.reduceSub, Nat.reduceMul, Nat.reduceBEq, Int.reduceLT, Int.reduceAdd, Int.reduceMul, Int.reduceSub, Int.reduceToNat, Int.reduceLE, Int.reduceEq, ↓reduceIte, reduceCtorEq, Int.reduceNeg, Nat.reduceLeDiff]) (by simp only [AV.und, AV.unds, and_self])
def sameB (R1 C1 : Int) (l1 : List Int) (R2 C2 : Int) (l2 : List Int) : Bool := decide (R1 = R2 ∧ C1 = C2 ∧ l1 = l2)
theorem f52 {R1 C1 R2 C2 : Int} {l1 l2 : List Int} {p1 o1 p2 o2 : Nat} {k1 k2 : Option Nat} {H : Heap} (hx : Sl i64 H p1 o1 l1) (hy : Sl i64 H p2 o2 l2) (hl : l1.length ≤ 4611686018427387904) :
    ACall Try.prog 52 [.agg [.int .i64 R1, .int .i64 C1, .sl p1 o1 l1.length 1 k1], .agg [.int .i64 R2, .int .i64 C2, .sl p2 o2 l2.length 1 k2]] H (.bool (sameB R1 C1 l1 R2 C2 l2)) H := by
  refine acall52 (by simp) (acs_start ?_)
  have no : ¬ (R1 = R2 ∧ C1 = C2 ∧ l1 = l2) → sameB R1 C1 l1 R2 C2 l2 = false := fun h => by unfold sameB; rw [decide_eq_false h]
  unfold c52
  by_cases h1 : R1 = R2
  rotate_left
  · rw [no (fun h => h1 h.1)]
    simp (maxSteps := 1000000) (disch := omega) only [go_sem, Nat.reduceEqDiff, Nat.reduceLT, Nat.reduceAdd, Nat.reduceSub, Nat.reduceMul, Nat.reduceBEq, Int.reduceLT, Int.reduceAdd, Int.reduceMul, Int.reduceSub, Int.reduceToNat, Int.reduceLE, Int.reduceEq, ↓reduceIte, reduceCtorEq, Int.reduceNeg, Nat.reduceLeDiff,  h1]
    exact fin_same (by simp) _ (by first | exact (List.append_nil _).symm | rfl) (by simp (maxSteps := 1000000) (disch := omega) only [resVal, resAll, resOne, rs52, Env.get, go_sem, Nat.reduceEqDiff, Nat.reduceLT, Nat.reduceAdd, Nat.reduceSub, Nat.reduceMul, Nat.reduceBEq, Int.reduceLT, Int.reduceAdd, Int.reduceMul, Int.reduceSub, Int.reduceToNat, Int.reduceLE, Int.reduceEq, ↓reduceIte, reduceCtorEq, Int.reduceNeg, Nat.reduceLeDiff]) (by simp only [AV.und, AV.unds, and_self])
  by_cases h2 : C1 = C2
  rotate_left
  · rw [no (fun h => h2 h.2.1)]
    simp (maxSteps := 1000000) (disch := omega) only [go_sem, Nat.reduceEqDiff, Nat.reduceLT, Nat.reduceAdd, Nat.reduceSub, Nat.reduceMul, Nat.reduceBEq, Int.reduceLT, Int.reduceAdd, Int.reduceMul, Int.reduceSub, Int.reduceToNat, Int.reduceLE, Int.reduceEq, ↓reduceIte, reduceCtorEq, Int.reduceNeg, Nat.reduceLeDiff,  h1, h2]
    exact fin_same (by simp) _ (by first | exact (List.append_nil _).symm | rfl) (by simp (maxSteps := 1000000) (disch := omega) only [resVal, resAll, resOne, rs52, Env.get, go_sem, Nat.reduceEqDiff, Nat.reduceLT, Nat.reduceAdd, Nat.reduceSub, Nat.reduceMul, Nat.reduceBEq, Int.reduceLT, Int.reduceAdd, Int.reduceMul, Int.reduceSub, Int.reduceToNat, Int.reduceLE, Int.reduceEq, ↓reduceIte, reduceCtorEq, Int.reduceNeg, Nat.reduceLeDiff]) (by simp only [AV.und, AV.unds, and_self])
  by_cases h3 : l1.length = l2.length
  rotate_left
  · have h3' : ¬ (l1.length : Int) = (l2.length : Int) := by omega
    rw [no (fun h => h3 (by rw [h.2.2]))]
    simp (maxSteps := 1000000) (disch := omega) only [go_sem, Nat.reduceEqDiff, Nat.reduceLT, Nat.reduceAdd, Nat.reduceSub, Nat.reduceMul, Nat.reduceBEq, Int.reduceLT, Int.reduceAdd, Int.reduceMul, Int.reduceSub, Int.reduceToNat, Int.reduceLE, Int.reduceEq, ↓reduceIte, reduceCtorEq, Int.reduceNeg, Nat.reduceLeDiff,  h1, h2, h3']
    exact fin_same (by simp) _ (by first | exact (List.append_nil _).symm | rfl) (by simp (maxSteps := 1000000) (disch := omega) only [resVal, resAll, resOne, rs52, Env.get, go_sem, Nat.reduceEqDiff, Nat.reduceLT, Nat.reduceAdd, Nat.reduceSub, Nat.reduceMul, Nat.reduceBEq, Int.reduceLT, Int.reduceAdd, Int.reduceMul, Int.reduceSub, Int.reduceToNat, Int.reduceLE, Int.reduceEq, ↓reduceIte, reduceCtorEq, Int.reduceNeg, Nat.reduceLeDiff]) (by simp only [AV.und, AV.unds, and_self])
  subst h1
  subst h2
  have h3' : (l1.length : Int) = (l2.length : Int) := by omega
  obtain ⟨cs, oo, hp, hle, hcs⟩ := hx
  obtain ⟨ds, oo2, hq, hle2, hds⟩ := hy
  have hpl := blkAt_lt hp
  have hql := blkAt_lt hq
  have es : sameB R1 C1 l1 R1 C1 l2 = decide (l1 = l2) := by unfold sameB; simp
  rw [es]
  clear no es
  simp (maxSteps := 1000000) (disch := omega) only [go_sem, Nat.reduceEqDiff, Nat.reduceLT, Nat.reduceAdd, Nat.reduceSub, Nat.reduceMul, Nat.reduceBEq, Int.reduceLT, Int.reduceAdd, Int.reduceMul, Int.reduceSub, Int.reduceToNat, Int.reduceLE, Int.reduceEq, ↓reduceIte, reduceCtorEq, Int.reduceNeg, Nat.reduceLeDiff,  h3']
  rw [← h3]
  refine loop_list (fun r T H' => ∃ (j : Nat) (s : List Int), T = [(2, .ptr H.length 0), (3, .ptr (H.length + 1) 0), (5, .int .i64 (j : Nat))] ∧ H' = H ++ [some ⟨[.int .i64 R1, .int .i64 C1, .sl p1 o1 l1.length 1 k1], true⟩, some ⟨[.int .i64 R1, .int .i64 C1, .sl p2 o2 l1.length 1 k2], true⟩] ∧ l1.drop j = r ∧ l2.drop j = s ∧ j + r.length = l1.length ∧ r.length = s.length ∧ decide (l1 = l2) = decide (r = s)) ?_ ?_ l1 _ _ ⟨0, l2, rfl, rfl, rfl, rfl, by simp, h3, rfl⟩
  · rintro x r T H' ⟨j, s, rfl, rfl, hr, hs, hj, hrs, hd⟩ nx
    cases s with
    | nil => simp at hrs
    | cons y s =>
      obtain ⟨g1, g2, g3⟩ := drop_cons hr
      obtain ⟨q1, q2, q3⟩ := drop_cons hs
      have fx : cs[o1 + j]? = some (.int .i64 x) := sl_get hcs g1
      have fy : ds[o2 + j]? = some (.int .i64 y) := sl_get hds q1
      have hjl : (j : Int) < (l1.length : Int) := by omega
      by_cases hxy : x = y
      · subst hxy
        rw [acs_lp]; conv in Fr.code c52l0 => unfold c52l0
        simp (maxSteps := 1000000) (disch := omega) only [go_sem, Nat.reduceEqDiff, Nat.reduceLT, Nat.reduceAdd, Nat.reduceSub, Nat.reduceMul, Nat.reduceBEq, Int.reduceLT, Int.reduceAdd, Int.reduceMul, Int.reduceSub, Int.reduceToNat, Int.reduceLE, Int.reduceEq, ↓reduceIte, reduceCtorEq, Int.reduceNeg, Nat.reduceLeDiff,  hjl, blkAt_lo, hpl, hql, hp, hq, fx, fy]
        refine nx _ _ ⟨j + 1, s, ?_, rfl, g2, q2, by simp at hj; omega, by simpa using hrs, by rw [hd]; simp⟩
        simp
      · have e0 : decide (x :: r = y :: s) = false := by simp [hxy]
        rw [hd, e0]
        clear nx
        rw [acs_lp]; conv in Fr.code c52l0 => unfold c52l0
        simp (maxSteps := 1000000) (disch := omega) only [go_sem, Nat.reduceEqDiff, Nat.reduceLT, Nat.reduceAdd, Nat.reduceSub, Nat.reduceMul, Nat.reduceBEq, Int.reduceLT, Int.reduceAdd, Int.reduceMul, Int.reduceSub, Int.reduceToNat, Int.reduceLE, Int.reduceEq, ↓reduceIte, reduceCtorEq, Int.reduceNeg, Nat.reduceLeDiff,  hjl, blkAt_lo, hpl, hql, hp, hq, fx, fy, hxy]
        exact fin_same (by simp) _ (by first | exact (List.append_nil _).symm | rfl) (by simp (maxSteps := 1000000) (disch := omega) only [resVal, resAll, resOne, rs52, Env.get, go_sem, Nat.reduceEqDiff, Nat.reduceLT, Nat.reduceAdd, Nat.reduceSub, Nat.reduceMul, Nat.reduceBEq, Int.reduceLT, Int.reduceAdd, Int.reduceMul, Int.reduceSub, Int.reduceToNat, Int.reduceLE, Int.reduceEq, ↓reduceIte, reduceCtorEq, Int.reduceNeg, Nat.reduceLeDiff]) (by simp only [AV.und, AV.unds, and_self])
  · rintro T H' ⟨j, s, rfl, rfl, hr, hs, hj, hrs, hd⟩
    rw [hd]
    obtain rfl : s = [] := List.eq_nil_of_length_eq_zero hrs.symm
    obtain rfl : j = l1.length := by simpa using hj
    rw [acs_lp]; conv in Fr.code c52l0 => unfold c52l0
    simp (maxSteps := 1000000) (disch := omega) only [go_sem, Nat.reduceEqDiff, Nat.reduceLT, Nat.reduceAdd, Nat.reduceSub, Nat.reduceMul, Nat.reduceBEq, Int.reduceLT, Int.reduceAdd, Int.reduceMul, Int.reduceSub, Int.reduceToNat, Int.reduceLE, Int.reduceEq, ↓reduceIte, reduceCtorEq, Int.reduceNeg, Nat.reduceLeDiff,  Int.lt_irrefl]
    exact fin_same (by simp) _ (by first | exact (List.append_nil _).symm | rfl) (by simp (maxSteps := 1000000) (disch := omega) only [resVal, resAll, resOne, rs52, Env.get, go_sem, Nat.reduceEqDiff, Nat.reduceLT, Nat.reduceAdd, Nat.reduceSub, Nat.reduceMul, Nat.reduceBEq, Int.reduceLT, Int.reduceAdd, Int.reduceMul, Int.reduceSub, Int.reduceToNat, Int.reduceLE, Int.reduceEq, ↓reduceIte, reduceCtorEq, Int.reduceNeg, Nat.reduceLeDiff]) (by simp only [AV.und, AV.unds, and_self])

/-! Diagonals. -/
def dg (l : List Int) (i k : Nat) : Int := if i = k then l.getD i 0 else 0
def dgL (l : List Int) : List Int := matL (dg l) l.length l.length
theorem f88 {l : List Int} {i k b p off : Nat} {kk : Option Nat} {o : Bool} {H : Heap} (hs : Sl i64 H p off l) (hi : i < l.length) (h8 : l.length ≤ 8) (hb : blkAt H b = some ⟨[.sl p off l.length 1 kk], o⟩) : ACall Try.prog 88 [.int .i64 (i : Nat), .int .i64 (k : Nat), .ptr b 0] H (.tup [.int .i64 (dg l i k), .bool false]) H := by
  refine acall88 (by simp) (acs_start ?_)
  obtain ⟨cs, oo, hp, hle, hcs⟩ := hs
  have hpl := blkAt_lt hp
  have bl := blkAt_lt hb
  have hg : l[i]? = some (l.getD i 0) := by rw [List.getD_eq_getElem?_getD, List.getElem?_eq_getElem hi]; rfl
  have fx : cs[off + i]? = some (.int .i64 (l.getD i 0)) := sl_get hcs hg
  have hil : (i : Int) < (l.length : Int) := by omega
  unfold c88
  by_cases h : i = k
  · have e : dg l i k = l.getD i 0 := by unfold dg; rw [if_pos h]
    have h' : (i : Int) = (k : Int) := by omega
    have hd : decide ((i : Int) = (k : Int)) = true := decide_eq_true h'
    rw [e]
    generalize l.getD i 0 = x at *
    simp (maxSteps := 1000000) (disch := omega) only [go_sem, Nat.reduceEqDiff, Nat.reduceLT, Nat.reduceAdd, Nat.reduceSub, Nat.reduceMul, Nat.reduceBEq, Int.reduceLT, Int.reduceAdd, Int.reduceMul, Int.reduceSub, Int.reduceToNat, Int.reduceLE, Int.reduceEq, ↓reduceIte, reduceCtorEq, Int.reduceNeg, Nat.reduceLeDiff,  hd, hil, bl, hb, hpl, hp, fx]
    exact fin_same (by simp) _ (by first | exact (List.append_nil _).symm | rfl) (by simp (maxSteps := 1000000) (disch := omega) only [resVal, resAll, resOne, rs88, Env.get, go_sem, Nat.reduceEqDiff, Nat.reduceLT, Nat.reduceAdd, Nat.reduceSub, Nat.reduceMul, Nat.reduceBEq, Int.reduceLT, Int.reduceAdd, Int.reduceMul, Int.reduceSub, Int.reduceToNat, Int.reduceLE, Int.reduceEq, ↓reduceIte, reduceCtorEq, Int.reduceNeg, Nat.reduceLeDiff]) (by simp only [AV.und, AV.unds, and_self])
  · have e : dg l i k = 0 := by unfold dg; rw [if_neg h]
    have h' : ¬ (i : Int) = (k : Int) := by omega
    rw [e]
    simp (maxSteps := 1000000) (disch := omega) only [go_sem, Nat.reduceEqDiff, Nat.reduceLT, Nat.reduceAdd, Nat.reduceSub, Nat.reduceMul, Nat.reduceBEq, Int.reduceLT, Int.reduceAdd, Int.reduceMul, Int.reduceSub, Int.reduceToNat, Int.reduceLE, Int.reduceEq, ↓reduceIte, reduceCtorEq, Int.reduceNeg, Nat.reduceLeDiff,  h']
    exact fin_same (by simp) _ (by first | exact (List.append_nil _).symm | rfl) (by simp (maxSteps := 1000000) (disch := omega) only [resVal, resAll, resOne, rs88, Env.get, go_sem, Nat.reduceEqDiff, Nat.reduceLT, Nat.reduceAdd, Nat.reduceSub, Nat.reduceMul, Nat.reduceBEq, Int.reduceLT, Int.reduceAdd, Int.reduceMul, Int.reduceSub, Int.reduceToNat, Int.reduceLE, Int.reduceEq, ↓reduceIte, reduceCtorEq, Int.reduceNeg, Nat.reduceLeDiff]) (by simp only [AV.und, AV.unds, and_self])
theorem hb88 : hasBody Try.prog 88 = true := by kernel_rfl
theorem f79 {l : List Int} {p off : Nat} {kk : Option Nat} {H : Heap} (hs : Sl i64 H p off l) (h1 : 0 < l.length) (h8 : l.length ≤ 8) (hb : ∀ x ∈ l, InB x) :
    ACallE Try.prog 79 [.sl p off l.length 1 kk] H fun v H' => ∃ w, v = .tup [.agg [.int .i64 (l.length : Nat), .int .i64 (l.length : Nat), w], .int .i64 0] ∧ Rw i64 H' w (dgL l) ∧ ∃ p n, w = .sl p 0 n 1 none ∧ H.length ≤ p := by
  refine acallE (fun v Hf h => acallK79 (by simp) h) (acs_start ?_)
  have u1 : ¬ (l.length : Int) < 1 := by omega
  have u2 : ¬ (8 : Int) < (l.length : Int) := by omega
  have er : rightB 1 (l.length : Nat) l = true := by
    unfold rightB
    rw [decide_eq_true ⟨by omega, by omega, by omega, by omega, by omega⟩, Bool.true_and, List.all_eq_true]
    exact fun x hx => inb_iff.2 (hb x hx)
  have g24 := fun G => f71 (R := 1) (C := (l.length : Nat)) (k := kk) (hs.app G) (by omega)
  rw [er] at g24
  have g27 := fun (G : Heap) => f84 (f := 88) (H := (H ++ (some ⟨[.sl p off l.length 1 kk], true⟩ :: G)).set (H.length + 1) none) (ys := [.ptr H.length 0]) (q := dg l) (b := fun _ _ => false) ⟨h1, h8⟩ ⟨h1, h8⟩ hb88
    (fun H' i k hx hi hk => f88 (o := true) (kk := kk) (hx.sl (hs.app_set (by omega) _)) hi h8 (hx.blk (by rw [blkAt_set_ne (by omega)]; simp only [go_sem, Nat.reduceEqDiff, Nat.reduceLT, Nat.reduceAdd, Nat.reduceSub, Nat.reduceMul, Nat.reduceBEq, Int.reduceLT, Int.reduceAdd, Int.reduceMul, Int.reduceSub, Int.reduceToNat, Int.reduceLE, Int.reduceEq, ↓reduceIte, reduceCtorEq, Int.reduceNeg, Nat.reduceLeDiff])))
  unfold c79
  simp (maxSteps := 1000000) (disch := omega) only [go_sem, Nat.reduceEqDiff, Nat.reduceLT, Nat.reduceAdd, Nat.reduceSub, Nat.reduceMul, Nat.reduceBEq, Int.reduceLT, Int.reduceAdd, Int.reduceMul, Int.reduceSub, Int.reduceToNat, Int.reduceLE, Int.reduceEq, ↓reduceIte, reduceCtorEq, Int.reduceNeg, Nat.reduceLeDiff,  u1, u2]
  first | refine callB_intro (g24 _) ?_ | refine callD_intro (g24 _) ?_ | refine callP_intro (fun _ => (g24 _)) ?_ | refine callX_pure (g24 _) ?_
  simp (maxSteps := 1000000) (disch := omega) only [go_sem, Nat.reduceEqDiff, Nat.reduceLT, Nat.reduceAdd, Nat.reduceSub, Nat.reduceMul, Nat.reduceBEq, Int.reduceLT, Int.reduceAdd, Int.reduceMul, Int.reduceSub, Int.reduceToNat, Int.reduceLE, Int.reduceEq, ↓reduceIte, reduceCtorEq, Int.reduceNeg, Nat.reduceLeDiff]
  first | refine callBE (ACallE.frame (b := H.length + 1) (x := ⟨[.int .i64 0, .int .i64 0, .nils], true⟩) (by simp only [go_sem, Nat.reduceEqDiff, Nat.reduceLT, Nat.reduceAdd, Nat.reduceSub, Nat.reduceMul, Nat.reduceBEq, Int.reduceLT, Int.reduceAdd, Int.reduceMul, Int.reduceSub, Int.reduceToNat, Int.reduceLE, Int.reduceEq, ↓reduceIte, reduceCtorEq, Int.reduceNeg, Nat.reduceLeDiff]) rfl (g27 _)) ?_ | refine callDE (ACallE.frame (b := H.length + 1) (x := ⟨[.int .i64 0, .int .i64 0, .nils], true⟩) (by simp only [go_sem, Nat.reduceEqDiff, Nat.reduceLT, Nat.reduceAdd, Nat.reduceSub, Nat.reduceMul, Nat.reduceBEq, Int.reduceLT, Int.reduceAdd, Int.reduceMul, Int.reduceSub, Int.reduceToNat, Int.reduceLE, Int.reduceEq, ↓reduceIte, reduceCtorEq, Int.reduceNeg, Nat.reduceLeDiff]) rfl (g27 _)) ?_ | refine callXE (ACallE.frame (b := H.length + 1) (x := ⟨[.int .i64 0, .int .i64 0, .nils], true⟩) (by simp only [go_sem, Nat.reduceEqDiff, Nat.reduceLT, Nat.reduceAdd, Nat.reduceSub, Nat.reduceMul, Nat.reduceBEq, Int.reduceLT, Int.reduceAdd, Int.reduceMul, Int.reduceSub, Int.reduceToNat, Int.reduceLE, Int.reduceEq, ↓reduceIte, reduceCtorEq, Int.reduceNeg, Nat.reduceLeDiff]) rfl (g27 _)) ?_
  rintro v H1 hx ⟨b1, w, rfl, hw, p9, n9, e9, hp9⟩
  obtain ⟨p1, o1, k1, rfl, hs1⟩ := hw
  cases e9
  simp only [List.length_set, List.length_append] at hp9
  have bl1 := blkAt_lt b1
  have ok2 := fun y => hs1.unset (some ⟨y, true⟩)
  simp (maxSteps := 1000000) (disch := omega) only [go_sem, Nat.reduceEqDiff, Nat.reduceLT, Nat.reduceAdd, Nat.reduceSub, Nat.reduceMul, Nat.reduceBEq, Int.reduceLT, Int.reduceAdd, Int.reduceMul, Int.reduceSub, Int.reduceToNat, Int.reduceLE, Int.reduceEq, ↓reduceIte, reduceCtorEq, Int.reduceNeg, Nat.reduceLeDiff,  b1, bl1, blkAt_lo, set_lo, List.length_set]
  refine fin_e (by simp) (by simp (maxSteps := 1000000) (disch := omega) only [resVal, resAll, resOne, rs79, Env.get, go_sem, Nat.reduceEqDiff, Nat.reduceLT, Nat.reduceAdd, Nat.reduceSub, Nat.reduceMul, Nat.reduceBEq, Int.reduceLT, Int.reduceAdd, Int.reduceMul, Int.reduceSub, Int.reduceToNat, Int.reduceLE, Int.reduceEq, ↓reduceIte, reduceCtorEq, Int.reduceNeg, Nat.reduceLeDiff, b1, bl1, blkAt_los, blkAt_lo, set_lo, List.length_set, blkAt_set_self] <;> rfl) ((((Ext.app _ _).trans hx).set (by omega) _).to _) ⟨_, rfl, (Rw.mk _ (ok2 _)).app _, _, _, rfl, by omega⟩

/-! Contracts: rows that are the same, matrices that are the same. -/
theorem f83_go {xs ys : List Int} {p q off off2 : Nat} {c1 c2 : Option Nat} {H : Heap} (hx : Sl i64 H p off xs) (hy : Sl i64 H q off2 ys) (he : xs.length = ys.length) (hl : xs.length ≤ 4611686018427387904) :
    ∀ (r s : List Int) (j : Nat), xs.drop j = r → ys.drop j = s →
    acs Try.prog [.lp c83l0, .blk 0, .code (.seq (.reg [⟨some 4, .mv, [.c (.bool true)], none, []⟩]) .ret)] [(0, .sl p off xs.length 1 c1), (1, .sl q off2 ys.length 1 c2), (12, .int .i64 (xs.length : Nat)), (13, .int .i64 (j : Nat))] H (Fin H rs83 (.bool (decide (r = s))) H) := by
  obtain ⟨cs, o, hp, hle, hcs⟩ := hx
  obtain ⟨ds, o2, hq, hle2, hds⟩ := hy
  intro r
  induction r with
  | nil =>
    intro s j hr hs
    have hj : xs.length ≤ j := by
      have := congrArg List.length hr
      simp at this
      omega
    have hs0 : s = [] := by rw [← hs]; exact List.drop_eq_nil_of_le (by omega)
    subst hs0
    have hlt : ¬ (j : Int) < (xs.length : Int) := by omega
    rw [acs_lp]; conv in Fr.code c83l0 => unfold c83l0
    simp (maxSteps := 1000000) (disch := omega) only [go_sem, Nat.reduceEqDiff, Nat.reduceLT, Nat.reduceAdd, Nat.reduceSub, Nat.reduceMul, Nat.reduceBEq, Int.reduceLT, Int.reduceAdd, Int.reduceMul, Int.reduceSub, Int.reduceToNat, Int.reduceLE, Int.reduceEq, ↓reduceIte, reduceCtorEq, Int.reduceNeg, Nat.reduceLeDiff,  hlt]
    exact fin_same (by simp) _ (by first | exact (List.append_nil _).symm | rfl) (by simp (maxSteps := 1000000) (disch := omega) only [resVal, resAll, resOne, rs83, Env.get, go_sem, Nat.reduceEqDiff, Nat.reduceLT, Nat.reduceAdd, Nat.reduceSub, Nat.reduceMul, Nat.reduceBEq, Int.reduceLT, Int.reduceAdd, Int.reduceMul, Int.reduceSub, Int.reduceToNat, Int.reduceLE, Int.reduceEq, ↓reduceIte, reduceCtorEq, Int.reduceNeg, Nat.reduceLeDiff]) (by simp only [AV.und, AV.unds, and_self])
  | cons x r ih =>
    intro s j hr hs
    obtain ⟨hx0, hr2, hj⟩ := drop_cons hr
    cases s with
    | nil =>
      have := congrArg List.length hs
      simp at this
      omega
    | cons y s =>
      obtain ⟨hy0, hs2, _⟩ := drop_cons hs
      have fx : cs[off + j]? = some (.int .i64 x) := sl_get hcs hx0
      have fy : ds[off2 + j]? = some (.int .i64 y) := sl_get hds hy0
      have hlt : (j : Int) < (xs.length : Int) := by omega
      have hlt2 : (j : Int) < (ys.length : Int) := by omega
      have ih := ih s (j + 1) hr2 hs2
      rw [acs_lp]; conv in Fr.code c83l0 => unfold c83l0
      by_cases hxy : x = y
      · subst hxy
        have e : decide (x :: r = x :: s) = decide (r = s) := by simp
        rw [e]
        simp (maxSteps := 1000000) (disch := omega) only [go_sem, Nat.reduceEqDiff, Nat.reduceLT, Nat.reduceAdd, Nat.reduceSub, Nat.reduceMul, Nat.reduceBEq, Int.reduceLT, Int.reduceAdd, Int.reduceMul, Int.reduceSub, Int.reduceToNat, Int.reduceLE, Int.reduceEq, ↓reduceIte, reduceCtorEq, Int.reduceNeg, Nat.reduceLeDiff,  hlt, hlt2, hp, hq, fx, fy]
        exact ih
      · have e : decide (x :: r = y :: s) = false := by simp [hxy]
        rw [e]
        simp (maxSteps := 1000000) (disch := omega) only [go_sem, Nat.reduceEqDiff, Nat.reduceLT, Nat.reduceAdd, Nat.reduceSub, Nat.reduceMul, Nat.reduceBEq, Int.reduceLT, Int.reduceAdd, Int.reduceMul, Int.reduceSub, Int.reduceToNat, Int.reduceLE, Int.reduceEq, ↓reduceIte, reduceCtorEq, Int.reduceNeg, Nat.reduceLeDiff,  hlt, hlt2, hp, hq, fx, fy, hxy]
        exact fin_same (by simp) _ (by first | exact (List.append_nil _).symm | rfl) (by simp (maxSteps := 1000000) (disch := omega) only [resVal, resAll, resOne, rs83, Env.get, go_sem, Nat.reduceEqDiff, Nat.reduceLT, Nat.reduceAdd, Nat.reduceSub, Nat.reduceMul, Nat.reduceBEq, Int.reduceLT, Int.reduceAdd, Int.reduceMul, Int.reduceSub, Int.reduceToNat, Int.reduceLE, Int.reduceEq, ↓reduceIte, reduceCtorEq, Int.reduceNeg, Nat.reduceLeDiff]) (by simp only [AV.und, AV.unds, and_self])
theorem f83 {xs ys : List Int} {p q off off2 : Nat} {c1 c2 : Option Nat} {H : Heap} (hx : Sl i64 H p off xs) (hy : Sl i64 H q off2 ys) (hl : xs.length ≤ 4611686018427387904) :
    ACall Try.prog 83 [.sl p off xs.length 1 c1, .sl q off2 ys.length 1 c2] H (.bool (decide (xs = ys))) H := by
  refine acall83 (by simp) (acs_start ?_)
  unfold c83
  by_cases he : xs.length = ys.length
  · have go := f83_go (c1 := c1) (c2 := c2) hx hy he hl xs ys 0 rfl rfl
    have he' : (xs.length : Int) = (ys.length : Int) := by omega
    simp (maxSteps := 1000000) (disch := omega) only [go_sem, Nat.reduceEqDiff, Nat.reduceLT, Nat.reduceAdd, Nat.reduceSub, Nat.reduceMul, Nat.reduceBEq, Int.reduceLT, Int.reduceAdd, Int.reduceMul, Int.reduceSub, Int.reduceToNat, Int.reduceLE, Int.reduceEq, ↓reduceIte, reduceCtorEq, Int.reduceNeg, Nat.reduceLeDiff,  he']
    rw [← he'] 
    exact go
  · have he' : ¬ (xs.length : Int) = (ys.length : Int) := by omega
    have e : decide (xs = ys) = false := by
      rw [decide_eq_false_iff_not]
      rintro rfl
      exact he rfl
    rw [e]
    simp (maxSteps := 1000000) (disch := omega) only [go_sem, Nat.reduceEqDiff, Nat.reduceLT, Nat.reduceAdd, Nat.reduceSub, Nat.reduceMul, Nat.reduceBEq, Int.reduceLT, Int.reduceAdd, Int.reduceMul, Int.reduceSub, Int.reduceToNat, Int.reduceLE, Int.reduceEq, ↓reduceIte, reduceCtorEq, Int.reduceNeg, Nat.reduceLeDiff,  he']
    exact fin_same (by simp) _ (by first | exact (List.append_nil _).symm | rfl) (by simp (maxSteps := 1000000) (disch := omega) only [resVal, resAll, resOne, rs83, Env.get, go_sem, Nat.reduceEqDiff, Nat.reduceLT, Nat.reduceAdd, Nat.reduceSub, Nat.reduceMul, Nat.reduceBEq, Int.reduceLT, Int.reduceAdd, Int.reduceMul, Int.reduceSub, Int.reduceToNat, Int.reduceLE, Int.reduceEq, ↓reduceIte, reduceCtorEq, Int.reduceNeg, Nat.reduceLeDiff]) (by simp only [AV.und, AV.unds, and_self])
theorem f82g {R C : Int} {p off n : Nat} {k : Option Nat} {H : Heap} : ACall Try.prog 82 [.agg [.int .i64 R, .int .i64 C, .sl p off n 1 k]] H (.agg [.int .i64 R, .int .i64 C]) H := by
  refine acall82 (by simp) (acs_start ?_)
  unfold c82
  simp (maxSteps := 1000000) (disch := omega) only [go_sem, Nat.reduceEqDiff, Nat.reduceLT, Nat.reduceAdd, Nat.reduceSub, Nat.reduceMul, Nat.reduceBEq, Int.reduceLT, Int.reduceAdd, Int.reduceMul, Int.reduceSub, Int.reduceToNat, Int.reduceLE, Int.reduceEq, ↓reduceIte, reduceCtorEq, Int.reduceNeg, Nat.reduceLeDiff]
  exact fin_ext (by simp) (Ext.app _ _) (by simp (maxSteps := 1000000) (disch := omega) only [resVal, resAll, resOne, rs82, Env.get, go_sem, Nat.reduceEqDiff, Nat.reduceLT, Nat.reduceAdd, Nat.reduceSub, Nat.reduceMul, Nat.reduceBEq, Int.reduceLT, Int.reduceAdd, Int.reduceMul, Int.reduceSub, Int.reduceToNat, Int.reduceLE, Int.reduceEq, ↓reduceIte, reduceCtorEq, Int.reduceNeg, Nat.reduceLeDiff]) (by simp only [AV.und, AV.unds, and_self])
theorem f72 {R1 C1 R2 C2 : Int} {l1 l2 : List Int} {p1 o1 p2 o2 : Nat} {k1 k2 : Option Nat} {H : Heap} (hx : Sl i64 H p1 o1 l1) (hy : Sl i64 H p2 o2 l2) (hl : l1.length ≤ 4611686018427387904) :
    ACall Try.prog 72 [.agg [.int .i64 R1, .int .i64 C1, .sl p1 o1 l1.length 1 k1], .agg [.int .i64 R2, .int .i64 C2, .sl p2 o2 l2.length 1 k2]] H (.bool (sameB R1 C1 l1 R2 C2 l2)) H := by
  refine acall72 (by simp) (acs_start ?_)
  have g2 := fun (G : Heap) => f83 (c1 := k1) (c2 := k2) (hx.app G) (hy.app G) hl
  unfold c72
  simp (maxSteps := 1000000) (disch := omega) only [go_sem, Nat.reduceEqDiff, Nat.reduceLT, Nat.reduceAdd, Nat.reduceSub, Nat.reduceMul, Nat.reduceBEq, Int.reduceLT, Int.reduceAdd, Int.reduceMul, Int.reduceSub, Int.reduceToNat, Int.reduceLE, Int.reduceEq, ↓reduceIte, reduceCtorEq, Int.reduceNeg, Nat.reduceLeDiff]
  first | refine callB_intro (f82g) ?_ | refine callD_intro (f82g) ?_ | refine callP_intro (fun _ => (f82g)) ?_ | refine callX_pure (f82g) ?_
  simp (maxSteps := 1000000) (disch := omega) only [go_sem, Nat.reduceEqDiff, Nat.reduceLT, Nat.reduceAdd, Nat.reduceSub, Nat.reduceMul, Nat.reduceBEq, Int.reduceLT, Int.reduceAdd, Int.reduceMul, Int.reduceSub, Int.reduceToNat, Int.reduceLE, Int.reduceEq, ↓reduceIte, reduceCtorEq, Int.reduceNeg, Nat.reduceLeDiff]
  first | refine callB_intro (f82g) ?_ | refine callD_intro (f82g) ?_ | refine callP_intro (fun _ => (f82g)) ?_ | refine callX_pure (f82g) ?_
  by_cases h1 : R1 = R2
  · by_cases h2 : C1 = C2
    · have e : sameB R1 C1 l1 R2 C2 l2 = decide (l1 = l2) := by unfold sameB; simp [h1, h2]
      rw [e]
      simp (maxSteps := 1000000) (disch := omega) only [go_sem, Nat.reduceEqDiff, Nat.reduceLT, Nat.reduceAdd, Nat.reduceSub, Nat.reduceMul, Nat.reduceBEq, Int.reduceLT, Int.reduceAdd, Int.reduceMul, Int.reduceSub, Int.reduceToNat, Int.reduceLE, Int.reduceEq, ↓reduceIte, reduceCtorEq, Int.reduceNeg, Nat.reduceLeDiff,  h1, h2]
      first | refine callB_intro (g2 _) ?_ | refine callD_intro (g2 _) ?_ | refine callP_intro (fun _ => (g2 _)) ?_ | refine callX_pure (g2 _) ?_
      simp (maxSteps := 1000000) (disch := omega) only [go_sem, Nat.reduceEqDiff, Nat.reduceLT, Nat.reduceAdd, Nat.reduceSub, Nat.reduceMul, Nat.reduceBEq, Int.reduceLT, Int.reduceAdd, Int.reduceMul, Int.reduceSub, Int.reduceToNat, Int.reduceLE, Int.reduceEq, ↓reduceIte, reduceCtorEq, Int.reduceNeg, Nat.reduceLeDiff]
      exact fin_ext (by simp) (Ext.app _ _) (by simp (maxSteps := 1000000) (disch := omega) only [resVal, resAll, resOne, rs72, Env.get, go_sem, Nat.reduceEqDiff, Nat.reduceLT, Nat.reduceAdd, Nat.reduceSub, Nat.reduceMul, Nat.reduceBEq, Int.reduceLT, Int.reduceAdd, Int.reduceMul, Int.reduceSub, Int.reduceToNat, Int.reduceLE, Int.reduceEq, ↓reduceIte, reduceCtorEq, Int.reduceNeg, Nat.reduceLeDiff]) (by simp only [AV.und, AV.unds, and_self])
    · have e : sameB R1 C1 l1 R2 C2 l2 = false := by unfold sameB; simp [h2]
      rw [e]
      simp (maxSteps := 1000000) (disch := omega) only [go_sem, Nat.reduceEqDiff, Nat.reduceLT, Nat.reduceAdd, Nat.reduceSub, Nat.reduceMul, Nat.reduceBEq, Int.reduceLT, Int.reduceAdd, Int.reduceMul, Int.reduceSub, Int.reduceToNat, Int.reduceLE, Int.reduceEq, ↓reduceIte, reduceCtorEq, Int.reduceNeg, Nat.reduceLeDiff,  h1, h2]
      exact fin_ext (by simp) (Ext.app _ _) (by simp (maxSteps := 1000000) (disch := omega) only [resVal, resAll, resOne, rs72, Env.get, go_sem, Nat.reduceEqDiff, Nat.reduceLT, Nat.reduceAdd, Nat.reduceSub, Nat.reduceMul, Nat.reduceBEq, Int.reduceLT, Int.reduceAdd, Int.reduceMul, Int.reduceSub, Int.reduceToNat, Int.reduceLE, Int.reduceEq, ↓reduceIte, reduceCtorEq, Int.reduceNeg, Nat.reduceLeDiff]) (by simp only [AV.und, AV.unds, and_self])
  · have e : sameB R1 C1 l1 R2 C2 l2 = false := by unfold sameB; simp [h1]
    rw [e]
    simp (maxSteps := 1000000) (disch := omega) only [go_sem, Nat.reduceEqDiff, Nat.reduceLT, Nat.reduceAdd, Nat.reduceSub, Nat.reduceMul, Nat.reduceBEq, Int.reduceLT, Int.reduceAdd, Int.reduceMul, Int.reduceSub, Int.reduceToNat, Int.reduceLE, Int.reduceEq, ↓reduceIte, reduceCtorEq, Int.reduceNeg, Nat.reduceLeDiff,  h1, Bool.false_and]
    exact fin_ext (by simp) (Ext.app _ _) (by simp (maxSteps := 1000000) (disch := omega) only [resVal, resAll, resOne, rs72, Env.get, go_sem, Nat.reduceEqDiff, Nat.reduceLT, Nat.reduceAdd, Nat.reduceSub, Nat.reduceMul, Nat.reduceBEq, Int.reduceLT, Int.reduceAdd, Int.reduceMul, Int.reduceSub, Int.reduceToNat, Int.reduceLE, Int.reduceEq, ↓reduceIte, reduceCtorEq, Int.reduceNeg, Nat.reduceLeDiff]) (by simp only [AV.und, AV.unds, and_self])

/-! A track, as the document says. -/
structure Tk where
  xr : Int
  xc : Int
  xl : List Int
  xp : Nat
  xo : Nat
  xk : Option Nat
  pr : Int
  pc : Int
  pl : List Int
  pp : Nat
  po : Nat
  pk : Option Nat
def Tk.av (t : Tk) : List AV := [.int .i64 t.xr, .int .i64 t.xc, .sl t.xp t.xo t.xl.length 1 t.xk, .int .i64 t.pr, .int .i64 t.pc, .sl t.pp t.po t.pl.length 1 t.pk]
structure Tk.ok (t : Tk) (H : Heap) : Prop where
  hx : Sl i64 H t.xp t.xo t.xl
  hp : Sl i64 H t.pp t.po t.pl
  lx : t.xl.length ≤ 4611686018427387904
  lp : t.pl.length ≤ 4611686018427387904
theorem Tk.ok.ext {t : Tk} {H H' : Heap} (h : t.ok H) (hx : Ext H H') : t.ok H' := ⟨hx.sl h.hx, hx.sl h.hp, h.lx, h.lp⟩
/-- Whether a square is even, and not below 0 on its diagonal: row i from place k on. -/
def symB (l : List Int) (n i : Nat) : Bool := (List.range i).all fun k => decide (l.getD (i * n + k) 0 = l.getD (k * n + i) 0)
def goodB (l : List Int) (n : Nat) : Bool := (List.range n).all fun i => decide (0 ≤ l.getD (i * n + i) 0) && symB l n i
def trkB (t : Tk) : Bool := rightB t.xr t.xc t.xl && rightB t.pr t.pc t.pl && decide (t.xc = 1) && decide (t.pr = t.xr) && decide (t.pc = t.xr) && goodB t.pl t.xr.toNat
theorem range_all_split (f : Nat → Bool) (i n : Nat) (h : i < n) : (List.range' i (n - i)).all f = (f i && (List.range' (i + 1) (n - (i + 1))).all f) := by
  rw [show n - i = (n - (i + 1)) + 1 by omega, List.range'_succ, List.all_cons]
theorem range_all_end (f : Nat → Bool) (n : Nat) : (List.range' n (n - n)).all f = true := by simp
theorem rightB_len {R C : Int} {l : List Int} (h : rightB R C l = true) : (1 ≤ R ∧ R ≤ 8) ∧ (1 ≤ C ∧ C ≤ 8) ∧ (l.length : Int) = R * C ∧ l.all inb = true := by
  unfold rightB at h
  simp only [Bool.and_eq_true, decide_eq_true_eq] at h
  obtain ⟨⟨h1, h2, h3, h4, h5⟩, h6⟩ := h
  exact ⟨⟨h1, h2⟩, ⟨h3, h4⟩, h5, h6⟩
theorem f26_in {l : List Int} {n i b pp po : Nat} {pk xk : Option Nat} {xr xc pr pc : Int} {xp xo xn : Nat} {o : Bool} {H : Heap} {Q : Post} {fs : List Fr} (hb : blkAt H b = some ⟨[.int .i64 xr, .int .i64 xc, .sl xp xo xn 1 xk, .int .i64 pr, .int .i64 pc, .sl pp po l.length 1 pk], o⟩) (hs : Sl i64 H pp po l) (hl : l.length = n * n) (hn : n ≤ 8) (hi : i < n)
    (hyes : symB l n i = true → leave Try.prog 2 fs [(1, .ptr b 0), (5, .int .i64 (n : Int)), (6, .int .i64 (i : Int))] H Q) (hno : symB l n i = false → Q .ret [(2, .bool false)] H) :
    ∀ (r k : Nat), k + r = i → ((List.range' k (i - k)).all fun k => decide (l.getD (i * n + k) 0 = l.getD (k * n + i) 0)) = symB l n i →
    acs Try.prog (.lp c26l0 :: fs) [(1, .ptr b 0), (5, .int .i64 (n : Int)), (6, .int .i64 (i : Int)), (7, .int .i64 (k : Int))] H Q := by
  obtain ⟨cs, oo, hp, hle, hcs⟩ := hs
  have lb := blkAt_lt hb
  have lp := blkAt_lt hp
  intro r
  induction r with
  | zero =>
    intro k hr hv
    obtain rfl : k = i := by omega
    have hge : ¬ (k : Int) < (k : Int) := by omega
    rw [range_all_end] at hv
    rw [acs_lp]; conv in Fr.code c26l0 => unfold c26l0
    simp (maxSteps := 1000000) (disch := omega) only [go_sem, Nat.reduceEqDiff, Nat.reduceLT, Nat.reduceAdd, Nat.reduceSub, Nat.reduceMul, Nat.reduceBEq, Int.reduceLT, Int.reduceAdd, Int.reduceMul, Int.reduceSub, Int.reduceToNat, Int.reduceLE, Int.reduceEq, ↓reduceIte, reduceCtorEq, Int.reduceNeg, Nat.reduceLeDiff,  hge]
    exact hyes hv.symm
  | succ r ih =>
    intro k hr hv
    have hlt : (k : Int) < (i : Int) := by omega
    rw [range_all_split _ k i (by omega)] at hv
    have b1 : i * n + k < l.length := by rw [hl]; exact ix_lt hi (by omega)
    have b2 : k * n + i < l.length := by rw [hl]; exact ix_lt (by omega) hi
    have hn64 : n * n ≤ 64 := Nat.mul_le_mul hn hn
    have g1 : l[i * n + k]? = some (l.getD (i * n + k) 0) := by rw [List.getD_eq_getElem?_getD, List.getElem?_eq_getElem b1]; rfl
    have g2 : l[k * n + i]? = some (l.getD (k * n + i) 0) := by rw [List.getD_eq_getElem?_getD, List.getElem?_eq_getElem b2]; rfl
    have f1 : cs[po + (i * n + k)]? = some (.int .i64 (l.getD (i * n + k) 0)) := sl_get hcs g1
    have f2 : cs[po + (k * n + i)]? = some (.int .i64 (l.getD (k * n + i) 0)) := sl_get hcs g2
    have w1 : IntKind.i64.wrap ((i : Int) * (n : Int)) = ((i * n : Nat) : Int) := by rw [i64_in _ (by constructor <;> (rw [← Int.natCast_mul]; omega))]; simp
    have w2 : IntKind.i64.wrap ((k : Int) * (n : Int)) = ((k * n : Nat) : Int) := by rw [i64_in _ (by constructor <;> (rw [← Int.natCast_mul]; omega))]; simp
    have w3 : IntKind.i64.wrap (((i * n : Nat) : Int) + (k : Int)) = ((i * n + k : Nat) : Int) := by rw [i64_in _ (by omega)]; omega
    have w4 : IntKind.i64.wrap (((k * n : Nat) : Int) + (i : Int)) = ((k * n + i : Nat) : Int) := by rw [i64_in _ (by omega)]; omega
    have q1 : ((i * n + k : Nat) : Int) < (l.length : Int) := by omega
    have q2 : ((k * n + i : Nat) : Int) < (l.length : Int) := by omega
    generalize i * n = u1 at *
    generalize k * n = u2 at *
    generalize u1 + k = j1 at *
    generalize u2 + i = j2 at *
    generalize l.getD j1 0 = x at *
    generalize l.getD j2 0 = y at *
    rw [acs_lp]; conv in Fr.code c26l0 => unfold c26l0
    by_cases hxy : x = y
    · subst hxy
      simp only [decide_true, Bool.true_and] at hv
      simp (maxSteps := 1000000) (disch := omega) only [go_sem, Nat.reduceEqDiff, Nat.reduceLT, Nat.reduceAdd, Nat.reduceSub, Nat.reduceMul, Nat.reduceBEq, Int.reduceLT, Int.reduceAdd, Int.reduceMul, Int.reduceSub, Int.reduceToNat, Int.reduceLE, Int.reduceEq, ↓reduceIte, reduceCtorEq, Int.reduceNeg, Nat.reduceLeDiff,  hlt, hb, hp, w1, w2, w3, w4, q1, q2, f1, f2]
      exact ih (k + 1) (by omega) hv
    · simp only [hxy, decide_false, Bool.false_and] at hv
      simp (maxSteps := 1000000) (disch := omega) only [go_sem, Nat.reduceEqDiff, Nat.reduceLT, Nat.reduceAdd, Nat.reduceSub, Nat.reduceMul, Nat.reduceBEq, Int.reduceLT, Int.reduceAdd, Int.reduceMul, Int.reduceSub, Int.reduceToNat, Int.reduceLE, Int.reduceEq, ↓reduceIte, reduceCtorEq, Int.reduceNeg, Nat.reduceLeDiff,  hlt, hb, hp, w1, w2, w3, w4, q1, q2, f1, f2, hxy]
      exact hno hv.symm

/-! A track, as the document says. -/
theorem symB_start (l : List Int) (n i : Nat) : ((List.range' 0 (i - 0)).all fun k => decide (l.getD (i * n + k) 0 = l.getD (k * n + i) 0)) = symB l n i := by
  rw [Nat.sub_zero, ← List.range_eq_range']
  rfl
theorem f26_out {l : List Int} {n b pp po : Nat} {pk xk : Option Nat} {xr xc pr pc : Int} {xp xo xn : Nat} {o : Bool} {H : Heap} {Q : Post} {fs : List Fr} (hb : blkAt H b = some ⟨[.int .i64 xr, .int .i64 xc, .sl xp xo xn 1 xk, .int .i64 pr, .int .i64 pc, .sl pp po l.length 1 pk], o⟩) (hs : Sl i64 H pp po l) (hl : l.length = n * n) (hn : n ≤ 8)
    (hyes : goodB l n = true → leave Try.prog 0 fs [] H Q) (hno : goodB l n = false → Q .ret [(2, .bool false)] H) :
    ∀ (r i : Nat), i + r = n → ((List.range' i (n - i)).all fun i => decide (0 ≤ l.getD (i * n + i) 0) && symB l n i) = goodB l n →
    acs Try.prog (.lp c26l1 :: fs) [(1, .ptr b 0), (5, .int .i64 (n : Int)), (6, .int .i64 (i : Int))] H Q := by
  have hs0 := hs
  obtain ⟨cs, oo, hp, hle, hcs⟩ := hs
  have lb := blkAt_lt hb
  have lp := blkAt_lt hp
  intro r
  induction r with
  | zero =>
    intro i hr hv
    obtain rfl : i = n := by omega
    have hge : ¬ (i : Int) < (i : Int) := by omega
    rw [range_all_end] at hv
    rw [acs_lp]; conv in Fr.code c26l1 => unfold c26l1
    simp (maxSteps := 1000000) (disch := omega) only [go_sem, Nat.reduceEqDiff, Nat.reduceLT, Nat.reduceAdd, Nat.reduceSub, Nat.reduceMul, Nat.reduceBEq, Int.reduceLT, Int.reduceAdd, Int.reduceMul, Int.reduceSub, Int.reduceToNat, Int.reduceLE, Int.reduceEq, ↓reduceIte, reduceCtorEq, Int.reduceNeg, Nat.reduceLeDiff,  hge]
    exact hyes hv.symm
  | succ r ih =>
    intro i hr hv
    have hlt : (i : Int) < (n : Int) := by omega
    rw [range_all_split _ i n (by omega)] at hv
    have b1 : i * n + i < l.length := by rw [hl]; exact ix_lt (by omega) (by omega)
    have hn64 : n * n ≤ 64 := Nat.mul_le_mul hn hn
    have g1 : l[i * n + i]? = some (l.getD (i * n + i) 0) := by rw [List.getD_eq_getElem?_getD, List.getElem?_eq_getElem b1]; rfl
    have f1 : cs[po + (i * n + i)]? = some (.int .i64 (l.getD (i * n + i) 0)) := sl_get hcs g1
    have w1 : IntKind.i64.wrap ((i : Int) * (n : Int)) = ((i * n : Nat) : Int) := by rw [i64_in _ (by constructor <;> (rw [← Int.natCast_mul]; omega))]; simp
    have w3 : IntKind.i64.wrap (((i * n : Nat) : Int) + (i : Int)) = ((i * n + i : Nat) : Int) := by rw [i64_in _ (by omega)]; omega
    have q1 : ((i * n + i : Nat) : Int) < (l.length : Int) := by omega
    have inn := f26_in (Q := Q) (fs := .blk 2 :: .blk 1 :: .code (.reg [⟨some 46, .mv, [.r 6], none, [6]⟩, ⟨some 47, (.bin .add), [.r 46, .c (.int .i64 1)], none, [46]⟩, ⟨some 6, .mv, [.r 47], none, [47]⟩]) :: .lp c26l1 :: fs) hb hs0 hl hn (show i < n by omega)
    have ih := ih (i + 1) (by omega)
    have inn2 := fun a b => inn a b i 0 (by omega) (symB_start l n i)
    have ih2 := ih
    clear inn ih
    generalize i * n = u1 at *
    generalize u1 + i = j1 at *
    generalize l.getD j1 0 = x at *
    rw [acs_lp]; conv in Fr.code c26l1 => unfold c26l1
    by_cases hx : x < 0
    · have hx2 : ¬ 0 ≤ x := by omega
      simp only [hx2, decide_false, Bool.false_and] at hv
      simp (maxSteps := 1000000) (disch := omega) only [go_sem, Nat.reduceEqDiff, Nat.reduceLT, Nat.reduceAdd, Nat.reduceSub, Nat.reduceMul, Nat.reduceBEq, Int.reduceLT, Int.reduceAdd, Int.reduceMul, Int.reduceSub, Int.reduceToNat, Int.reduceLE, Int.reduceEq, ↓reduceIte, reduceCtorEq, Int.reduceNeg, Nat.reduceLeDiff,  hlt, hb, hp, w1, w3, q1, f1, hx]
      exact hno hv.symm
    · have hx2 : 0 ≤ x := by omega
      simp only [hx2, decide_true, Bool.true_and] at hv
      simp (maxSteps := 1000000) (disch := omega) only [go_sem, Nat.reduceEqDiff, Nat.reduceLT, Nat.reduceAdd, Nat.reduceSub, Nat.reduceMul, Nat.reduceBEq, Int.reduceLT, Int.reduceAdd, Int.reduceMul, Int.reduceSub, Int.reduceToNat, Int.reduceLE, Int.reduceEq, ↓reduceIte, reduceCtorEq, Int.reduceNeg, Nat.reduceLeDiff,  hlt, hb, hp, w1, w3, q1, f1, hx]
      refine inn2 ?_ ?_
      · intro hy
        rw [hy, Bool.true_and] at hv
        simp (maxSteps := 1000000) (disch := omega) only [go_sem, Nat.reduceEqDiff, Nat.reduceLT, Nat.reduceAdd, Nat.reduceSub, Nat.reduceMul, Nat.reduceBEq, Int.reduceLT, Int.reduceAdd, Int.reduceMul, Int.reduceSub, Int.reduceToNat, Int.reduceLE, Int.reduceEq, ↓reduceIte, reduceCtorEq, Int.reduceNeg, Nat.reduceLeDiff]
        exact ih2 hv
      · intro hy
        rw [hy, Bool.false_and] at hv
        exact hno hv.symm
theorem goodB_start (l : List Int) (n : Nat) : ((List.range' 0 (n - 0)).all fun i => decide (0 ≤ l.getD (i * n + i) 0) && symB l n i) = goodB l n := by
  rw [Nat.sub_zero, ← List.range_eq_range']
  rfl
theorem f26 {t : Tk} {H : Heap} (h : t.ok H) : ACall Try.prog 26 [.agg t.av] H (.bool (trkB t)) H := by
  refine acall26 (by simp) (acs_start ?_)
  obtain ⟨xr, xc, xl, xp, xo, xk, pr, pc, pl, pp, po, pk⟩ := t
  obtain ⟨hx, hp, lx, lp⟩ := h
  simp only at hx hp lx lp
  unfold Tk.av trkB
  simp only
  have gx := fun (G : Heap) => f49 (R := xr) (C := xc) (k := xk) (hx.app G) lx
  have gp := fun (G : Heap) => f49 (R := pr) (C := pc) (k := pk) (hp.app G) lp
  unfold c26
  simp (maxSteps := 1000000) (disch := omega) only [go_sem, Nat.reduceEqDiff, Nat.reduceLT, Nat.reduceAdd, Nat.reduceSub, Nat.reduceMul, Nat.reduceBEq, Int.reduceLT, Int.reduceAdd, Int.reduceMul, Int.reduceSub, Int.reduceToNat, Int.reduceLE, Int.reduceEq, ↓reduceIte, reduceCtorEq, Int.reduceNeg, Nat.reduceLeDiff]
  first | refine callB_intro (gx _) ?_ | refine callD_intro (gx _) ?_ | refine callP_intro (fun _ => (gx _)) ?_ | refine callX_pure (gx _) ?_
  simp (maxSteps := 1000000) (disch := omega) only [go_sem, Nat.reduceEqDiff, Nat.reduceLT, Nat.reduceAdd, Nat.reduceSub, Nat.reduceMul, Nat.reduceBEq, Int.reduceLT, Int.reduceAdd, Int.reduceMul, Int.reduceSub, Int.reduceToNat, Int.reduceLE, Int.reduceEq, ↓reduceIte, reduceCtorEq, Int.reduceNeg, Nat.reduceLeDiff]
  first | refine callB_intro (gp _) ?_ | refine callD_intro (gp _) ?_ | refine callP_intro (fun _ => (gp _)) ?_ | refine callX_pure (gp _) ?_
  cases h1 : rightB xr xc xl with
  | false =>
    simp only [Bool.false_and]
    simp (maxSteps := 1000000) (disch := omega) only [go_sem, Nat.reduceEqDiff, Nat.reduceLT, Nat.reduceAdd, Nat.reduceSub, Nat.reduceMul, Nat.reduceBEq, Int.reduceLT, Int.reduceAdd, Int.reduceMul, Int.reduceSub, Int.reduceToNat, Int.reduceLE, Int.reduceEq, ↓reduceIte, reduceCtorEq, Int.reduceNeg, Nat.reduceLeDiff]
    exact fin_ext (by simp) (Ext.app _ _) (by simp (maxSteps := 1000000) (disch := omega) only [resVal, resAll, resOne, rs26, Env.get, go_sem, Nat.reduceEqDiff, Nat.reduceLT, Nat.reduceAdd, Nat.reduceSub, Nat.reduceMul, Nat.reduceBEq, Int.reduceLT, Int.reduceAdd, Int.reduceMul, Int.reduceSub, Int.reduceToNat, Int.reduceLE, Int.reduceEq, ↓reduceIte, reduceCtorEq, Int.reduceNeg, Nat.reduceLeDiff]) (by simp only [AV.und, AV.unds, and_self])
  | true =>
  cases h2 : rightB pr pc pl with
  | false =>
    simp only [Bool.true_and, Bool.false_and]
    simp (maxSteps := 1000000) (disch := omega) only [go_sem, Nat.reduceEqDiff, Nat.reduceLT, Nat.reduceAdd, Nat.reduceSub, Nat.reduceMul, Nat.reduceBEq, Int.reduceLT, Int.reduceAdd, Int.reduceMul, Int.reduceSub, Int.reduceToNat, Int.reduceLE, Int.reduceEq, ↓reduceIte, reduceCtorEq, Int.reduceNeg, Nat.reduceLeDiff]
    exact fin_ext (by simp) (Ext.app _ _) (by simp (maxSteps := 1000000) (disch := omega) only [resVal, resAll, resOne, rs26, Env.get, go_sem, Nat.reduceEqDiff, Nat.reduceLT, Nat.reduceAdd, Nat.reduceSub, Nat.reduceMul, Nat.reduceBEq, Int.reduceLT, Int.reduceAdd, Int.reduceMul, Int.reduceSub, Int.reduceToNat, Int.reduceLE, Int.reduceEq, ↓reduceIte, reduceCtorEq, Int.reduceNeg, Nat.reduceLeDiff]) (by simp only [AV.und, AV.unds, and_self])
  | true =>
  by_cases h3 : xc = 1
  · by_cases h4 : pr = xr
    · by_cases h5 : pc = xr
      · obtain ⟨⟨a1, a2⟩, _, a3, _⟩ := rightB_len h1
        obtain ⟨_, _, a4, _⟩ := rightB_len h2
        subst h4 h5
        obtain ⟨n, rfl⟩ : ∃ n : Nat, pc = (n : Int) := ⟨pc.toNat, by omega⟩
        have hl : pl.length = n * n := by rw [← Int.natCast_mul] at a4; omega
        simp only [h3, decide_true, Bool.true_and, Bool.and_true, Int.toNat_natCast]
        simp (maxSteps := 1000000) (disch := omega) only [go_sem, Nat.reduceEqDiff, Nat.reduceLT, Nat.reduceAdd, Nat.reduceSub, Nat.reduceMul, Nat.reduceBEq, Int.reduceLT, Int.reduceAdd, Int.reduceMul, Int.reduceSub, Int.reduceToNat, Int.reduceLE, Int.reduceEq, ↓reduceIte, reduceCtorEq, Int.reduceNeg, Nat.reduceLeDiff,  h3]
        refine f26_out (n := n) (l := pl) (by simp only [go_sem, Nat.reduceEqDiff, Nat.reduceLT, Nat.reduceAdd, Nat.reduceSub, Nat.reduceMul, Nat.reduceBEq, Int.reduceLT, Int.reduceAdd, Int.reduceMul, Int.reduceSub, Int.reduceToNat, Int.reduceLE, Int.reduceEq, ↓reduceIte, reduceCtorEq, Int.reduceNeg, Nat.reduceLeDiff]; rfl) (hp.app _) hl (by omega) ?_ ?_ n 0 (by omega) (goodB_start pl n)
        · intro hg
          rw [hg]
          simp (maxSteps := 1000000) (disch := omega) only [go_sem, Nat.reduceEqDiff, Nat.reduceLT, Nat.reduceAdd, Nat.reduceSub, Nat.reduceMul, Nat.reduceBEq, Int.reduceLT, Int.reduceAdd, Int.reduceMul, Int.reduceSub, Int.reduceToNat, Int.reduceLE, Int.reduceEq, ↓reduceIte, reduceCtorEq, Int.reduceNeg, Nat.reduceLeDiff]
          exact fin_ext (by simp) (Ext.app _ _) (by simp (maxSteps := 1000000) (disch := omega) only [resVal, resAll, resOne, rs26, Env.get, go_sem, Nat.reduceEqDiff, Nat.reduceLT, Nat.reduceAdd, Nat.reduceSub, Nat.reduceMul, Nat.reduceBEq, Int.reduceLT, Int.reduceAdd, Int.reduceMul, Int.reduceSub, Int.reduceToNat, Int.reduceLE, Int.reduceEq, ↓reduceIte, reduceCtorEq, Int.reduceNeg, Nat.reduceLeDiff]) (by simp only [AV.und, AV.unds, and_self])
        · intro hg
          rw [hg]
          exact fin_ext (by simp) (Ext.app _ _) (by simp (maxSteps := 1000000) (disch := omega) only [resVal, resAll, resOne, rs26, Env.get, go_sem, Nat.reduceEqDiff, Nat.reduceLT, Nat.reduceAdd, Nat.reduceSub, Nat.reduceMul, Nat.reduceBEq, Int.reduceLT, Int.reduceAdd, Int.reduceMul, Int.reduceSub, Int.reduceToNat, Int.reduceLE, Int.reduceEq, ↓reduceIte, reduceCtorEq, Int.reduceNeg, Nat.reduceLeDiff]) (by simp only [AV.und, AV.unds, and_self])
      · simp only [h3, h4, h5, decide_true, decide_false, Bool.true_and, Bool.false_and, Bool.and_false, Bool.and_true]
        simp (maxSteps := 1000000) (disch := omega) only [go_sem, Nat.reduceEqDiff, Nat.reduceLT, Nat.reduceAdd, Nat.reduceSub, Nat.reduceMul, Nat.reduceBEq, Int.reduceLT, Int.reduceAdd, Int.reduceMul, Int.reduceSub, Int.reduceToNat, Int.reduceLE, Int.reduceEq, ↓reduceIte, reduceCtorEq, Int.reduceNeg, Nat.reduceLeDiff,  h3, h4, h5]
        exact fin_ext (by simp) (Ext.app _ _) (by simp (maxSteps := 1000000) (disch := omega) only [resVal, resAll, resOne, rs26, Env.get, go_sem, Nat.reduceEqDiff, Nat.reduceLT, Nat.reduceAdd, Nat.reduceSub, Nat.reduceMul, Nat.reduceBEq, Int.reduceLT, Int.reduceAdd, Int.reduceMul, Int.reduceSub, Int.reduceToNat, Int.reduceLE, Int.reduceEq, ↓reduceIte, reduceCtorEq, Int.reduceNeg, Nat.reduceLeDiff]) (by simp only [AV.und, AV.unds, and_self])
    · simp only [h3, h4, decide_true, decide_false, Bool.true_and, Bool.false_and, Bool.and_false, Bool.and_true]
      simp (maxSteps := 1000000) (disch := omega) only [go_sem, Nat.reduceEqDiff, Nat.reduceLT, Nat.reduceAdd, Nat.reduceSub, Nat.reduceMul, Nat.reduceBEq, Int.reduceLT, Int.reduceAdd, Int.reduceMul, Int.reduceSub, Int.reduceToNat, Int.reduceLE, Int.reduceEq, ↓reduceIte, reduceCtorEq, Int.reduceNeg, Nat.reduceLeDiff,  h3, h4]
      exact fin_ext (by simp) (Ext.app _ _) (by simp (maxSteps := 1000000) (disch := omega) only [resVal, resAll, resOne, rs26, Env.get, go_sem, Nat.reduceEqDiff, Nat.reduceLT, Nat.reduceAdd, Nat.reduceSub, Nat.reduceMul, Nat.reduceBEq, Int.reduceLT, Int.reduceAdd, Int.reduceMul, Int.reduceSub, Int.reduceToNat, Int.reduceLE, Int.reduceEq, ↓reduceIte, reduceCtorEq, Int.reduceNeg, Nat.reduceLeDiff]) (by simp only [AV.und, AV.unds, and_self])
  · simp only [h3, decide_true, decide_false, Bool.true_and, Bool.false_and, Bool.and_false, Bool.and_true]
    simp (maxSteps := 1000000) (disch := omega) only [go_sem, Nat.reduceEqDiff, Nat.reduceLT, Nat.reduceAdd, Nat.reduceSub, Nat.reduceMul, Nat.reduceBEq, Int.reduceLT, Int.reduceAdd, Int.reduceMul, Int.reduceSub, Int.reduceToNat, Int.reduceLE, Int.reduceEq, ↓reduceIte, reduceCtorEq, Int.reduceNeg, Nat.reduceLeDiff,  h3]
    exact fin_ext (by simp) (Ext.app _ _) (by simp (maxSteps := 1000000) (disch := omega) only [resVal, resAll, resOne, rs26, Env.get, go_sem, Nat.reduceEqDiff, Nat.reduceLT, Nat.reduceAdd, Nat.reduceSub, Nat.reduceMul, Nat.reduceBEq, Int.reduceLT, Int.reduceAdd, Int.reduceMul, Int.reduceSub, Int.reduceToNat, Int.reduceLE, Int.reduceEq, ↓reduceIte, reduceCtorEq, Int.reduceNeg, Nat.reduceLeDiff]) (by simp only [AV.und, AV.unds, and_self])

/-! A track. -/
def trL (l : List Int) (n : Nat) : List Int := matL (fun i k => l.getD (k * n + i) 0) n n
def dgB (l : List Int) (n : Nat) : Bool := (List.range n).all fun i => decide (0 ≤ l.getD (i * n + i) 0)
theorem matL_get {q : Nat → Nat → Int} {r c i k : Nat} (hi : i < r) (hk : k < c) : (matL q r c).getD (i * c + k) 0 = q i k := by
  induction r with
  | zero => omega
  | succ r ih =>
    rw [matL_succ]
    by_cases h : i < r
    · have hlt : i * c + k < (matL q r c).length := by rw [matL_len]; exact ix_lt h hk
      rw [List.getD_eq_getElem?_getD, List.getElem?_append_left hlt, ← List.getD_eq_getElem?_getD]
      exact ih h
    · obtain rfl : i = r := by omega
      rw [List.getD_eq_getElem?_getD, List.getElem?_append_right (by rw [matL_len]; omega), matL_len, Nat.add_sub_cancel_left]
      unfold rowL
      simp [hk]
theorem matL_eq {q : Nat → Nat → Int} {l : List Int} {n : Nat} (hl : l.length = n * n) (h : ∀ i k, i < n → k < n → l.getD (i * n + k) 0 = q i k) : l = matL q n n := by
  apply List.ext_getElem?
  intro j
  by_cases hj : j < n * n
  · have hn : 0 < n := by
      rcases Nat.eq_zero_or_pos n with h0 | h0
      · subst h0
        simp at hj
      · exact h0
    have e : j = j / n * n + j % n := by rw [Nat.mul_comm]; exact (Nat.div_add_mod j n).symm
    have h1 : j / n < n := Nat.div_lt_of_lt_mul hj
    have h2 : j % n < n := Nat.mod_lt _ hn
    have g1 := h _ _ h1 h2
    have g2 := matL_get (q := q) h1 h2
    rw [← e] at g1 g2
    rw [List.getElem?_eq_getElem (by omega), List.getElem?_eq_getElem (by rw [matL_len]; exact hj)]
    congr 1
    rw [List.getD_eq_getElem?_getD, List.getElem?_eq_getElem (by omega)] at g1
    rw [List.getD_eq_getElem?_getD, List.getElem?_eq_getElem (by rw [matL_len]; exact hj)] at g2
    simp only [Option.getD_some] at g1 g2
    rw [g1, g2]
  · rw [List.getElem?_eq_none (by omega), List.getElem?_eq_none (by rw [matL_len]; omega)]
theorem goodB_split {l : List Int} {n : Nat} (hl : l.length = n * n) : goodB l n = (decide (l = trL l n) && dgB l n) := by
  rw [Bool.eq_iff_iff]
  unfold goodB dgB symB
  simp only [List.all_eq_true, List.mem_range, Bool.and_eq_true, decide_eq_true_eq]
  constructor
  · intro h
    refine ⟨matL_eq hl fun i k hi hk => ?_, fun i hi => (h i hi).1⟩
    rcases Nat.lt_trichotomy i k with hik | rfl | hik
    · exact ((h k hk).2 i hik).symm
    · rfl
    · exact (h i hi).2 k hik
  · rintro ⟨h1, h2⟩ i hi
    refine ⟨h2 i hi, fun k hk => ?_⟩
    have := matL_get (q := fun i k => l.getD (k * n + i) 0) hi (show k < n by omega)
    change (trL l n).getD (i * n + k) 0 = _ at this
    rw [← h1] at this
    exact this
theorem f55_loop {l : List Int} {n b pp po : Nat} {pk xk : Option Nat} {xr xc pr pc : Int} {xp xo xn : Nat} {o : Bool} {H : Heap} {Q : Post} {fs : List Fr} (hb : blkAt H b = some ⟨[.int .i64 xr, .int .i64 xc, .sl xp xo xn 1 xk, .int .i64 pr, .int .i64 pc, .sl pp po l.length 1 pk], o⟩) (hs : Sl i64 H pp po l) (hl : l.length = n * n) (hn : n ≤ 8)
    (hyes : dgB l n = true → leave Try.prog 0 fs [] H Q) (hno : dgB l n = false → Q .ret [(2, .bool false)] H) :
    ∀ (r i : Nat), i + r = n → ((List.range' i (n - i)).all fun i => decide (0 ≤ l.getD (i * n + i) 0)) = dgB l n →
    acs Try.prog (.lp c55l0 :: fs) [(1, .ptr b 0), (3, .int .i64 (n : Int)), (47, .int .i64 (n : Int)), (48, .int .i64 (i : Int))] H Q := by
  obtain ⟨cs, oo, hp, hle, hcs⟩ := hs
  intro r
  induction r with
  | zero =>
    intro i hr hv
    obtain rfl : i = n := by omega
    have hge : ¬ (i : Int) < (i : Int) := by omega
    rw [range_all_end] at hv
    rw [acs_lp]; conv in Fr.code c55l0 => unfold c55l0
    simp (maxSteps := 1000000) (disch := omega) only [go_sem, Nat.reduceEqDiff, Nat.reduceLT, Nat.reduceAdd, Nat.reduceSub, Nat.reduceMul, Nat.reduceBEq, Int.reduceLT, Int.reduceAdd, Int.reduceMul, Int.reduceSub, Int.reduceToNat, Int.reduceLE, Int.reduceEq, ↓reduceIte, reduceCtorEq, Int.reduceNeg, Nat.reduceLeDiff,  hge]
    exact hyes hv.symm
  | succ r ih =>
    intro i hr hv
    have hlt : (i : Int) < (n : Int) := by omega
    rw [range_all_split _ i n (by omega)] at hv
    have b1 : i * n + i < l.length := by rw [hl]; exact ix_lt (by omega) (by omega)
    have hn64 : n * n ≤ 64 := Nat.mul_le_mul hn hn
    have g1 : l[i * n + i]? = some (l.getD (i * n + i) 0) := by rw [List.getD_eq_getElem?_getD, List.getElem?_eq_getElem b1]; rfl
    have f1 : cs[po + (i * n + i)]? = some (.int .i64 (l.getD (i * n + i) 0)) := sl_get hcs g1
    have w1 : IntKind.i64.wrap ((i : Int) * (n : Int)) = ((i * n : Nat) : Int) := by rw [i64_in _ (by constructor <;> (rw [← Int.natCast_mul]; omega))]; simp
    have w3 : IntKind.i64.wrap (((i * n : Nat) : Int) + (i : Int)) = ((i * n + i : Nat) : Int) := by rw [i64_in _ (by omega)]; omega
    have q1 : ((i * n + i : Nat) : Int) < (l.length : Int) := by omega
    have ih2 := ih (i + 1) (by omega)
    clear ih
    generalize i * n = u1 at *
    generalize u1 + i = j1 at *
    generalize l.getD j1 0 = x at *
    rw [acs_lp]; conv in Fr.code c55l0 => unfold c55l0
    by_cases hx : x < 0
    · have hx2 : ¬ 0 ≤ x := by omega
      simp only [hx2, decide_false, Bool.false_and] at hv
      simp (maxSteps := 1000000) (disch := omega) only [go_sem, Nat.reduceEqDiff, Nat.reduceLT, Nat.reduceAdd, Nat.reduceSub, Nat.reduceMul, Nat.reduceBEq, Int.reduceLT, Int.reduceAdd, Int.reduceMul, Int.reduceSub, Int.reduceToNat, Int.reduceLE, Int.reduceEq, ↓reduceIte, reduceCtorEq, Int.reduceNeg, Nat.reduceLeDiff,  hlt, hb, hp, w1, w3, q1, f1, hx]
      exact hno hv.symm
    · have hx2 : 0 ≤ x := by omega
      simp only [hx2, decide_true, Bool.true_and] at hv
      simp (maxSteps := 1000000) (disch := omega) only [go_sem, Nat.reduceEqDiff, Nat.reduceLT, Nat.reduceAdd, Nat.reduceSub, Nat.reduceMul, Nat.reduceBEq, Int.reduceLT, Int.reduceAdd, Int.reduceMul, Int.reduceSub, Int.reduceToNat, Int.reduceLE, Int.reduceEq, ↓reduceIte, reduceCtorEq, Int.reduceNeg, Nat.reduceLeDiff,  hlt, hb, hp, w1, w3, q1, f1, hx]
      exact ih2 hv
theorem dgB_start (l : List Int) (n : Nat) : ((List.range' 0 (n - 0)).all fun i => decide (0 ≤ l.getD (i * n + i) 0)) = dgB l n := by
  rw [Nat.sub_zero, ← List.range_eq_range']
  rfl
theorem f55 {t : Tk} {H : Heap} (h : t.ok H) : ACall Try.prog 55 [.agg t.av] H (.bool (trkB t)) H := by
  refine acall55 (by simp) (acs_start ?_)
  obtain ⟨xr, xc, xl, xp, xo, xk, pr, pc, pl, pp, po, pk⟩ := t
  obtain ⟨hx, hp, lx, lp⟩ := h
  simp only at hx hp lx lp
  unfold Tk.av trkB
  simp only
  have gx := fun (G : Heap) => f71 (R := xr) (C := xc) (k := xk) (hx.app G) lx
  have gp := fun (G : Heap) => f71 (R := pr) (C := pc) (k := pk) (hp.app G) lp
  unfold c55
  simp (maxSteps := 1000000) (disch := omega) only [go_sem, Nat.reduceEqDiff, Nat.reduceLT, Nat.reduceAdd, Nat.reduceSub, Nat.reduceMul, Nat.reduceBEq, Int.reduceLT, Int.reduceAdd, Int.reduceMul, Int.reduceSub, Int.reduceToNat, Int.reduceLE, Int.reduceEq, ↓reduceIte, reduceCtorEq, Int.reduceNeg, Nat.reduceLeDiff]
  first | refine callB_intro (gx _) ?_ | refine callD_intro (gx _) ?_ | refine callP_intro (fun _ => (gx _)) ?_ | refine callX_pure (gx _) ?_
  cases h1 : rightB xr xc xl with
  | false =>
    simp only [Bool.false_and]
    simp (maxSteps := 1000000) (disch := omega) only [go_sem, Nat.reduceEqDiff, Nat.reduceLT, Nat.reduceAdd, Nat.reduceSub, Nat.reduceMul, Nat.reduceBEq, Int.reduceLT, Int.reduceAdd, Int.reduceMul, Int.reduceSub, Int.reduceToNat, Int.reduceLE, Int.reduceEq, ↓reduceIte, reduceCtorEq, Int.reduceNeg, Nat.reduceLeDiff]
    exact fin_ext (by simp) (Ext.app _ _) (by simp (maxSteps := 1000000) (disch := omega) only [resVal, resAll, resOne, rs55, Env.get, go_sem, Nat.reduceEqDiff, Nat.reduceLT, Nat.reduceAdd, Nat.reduceSub, Nat.reduceMul, Nat.reduceBEq, Int.reduceLT, Int.reduceAdd, Int.reduceMul, Int.reduceSub, Int.reduceToNat, Int.reduceLE, Int.reduceEq, ↓reduceIte, reduceCtorEq, Int.reduceNeg, Nat.reduceLeDiff]) (by simp only [AV.und, AV.unds, and_self])
  | true =>
  simp (maxSteps := 1000000) (disch := omega) only [go_sem, Nat.reduceEqDiff, Nat.reduceLT, Nat.reduceAdd, Nat.reduceSub, Nat.reduceMul, Nat.reduceBEq, Int.reduceLT, Int.reduceAdd, Int.reduceMul, Int.reduceSub, Int.reduceToNat, Int.reduceLE, Int.reduceEq, ↓reduceIte, reduceCtorEq, Int.reduceNeg, Nat.reduceLeDiff]
  first | refine callB_intro (gp _) ?_ | refine callD_intro (gp _) ?_ | refine callP_intro (fun _ => (gp _)) ?_ | refine callX_pure (gp _) ?_
  cases h2 : rightB pr pc pl with
  | false =>
    simp only [Bool.true_and, Bool.false_and]
    simp (maxSteps := 1000000) (disch := omega) only [go_sem, Nat.reduceEqDiff, Nat.reduceLT, Nat.reduceAdd, Nat.reduceSub, Nat.reduceMul, Nat.reduceBEq, Int.reduceLT, Int.reduceAdd, Int.reduceMul, Int.reduceSub, Int.reduceToNat, Int.reduceLE, Int.reduceEq, ↓reduceIte, reduceCtorEq, Int.reduceNeg, Nat.reduceLeDiff]
    exact fin_ext (by simp) (Ext.app _ _) (by simp (maxSteps := 1000000) (disch := omega) only [resVal, resAll, resOne, rs55, Env.get, go_sem, Nat.reduceEqDiff, Nat.reduceLT, Nat.reduceAdd, Nat.reduceSub, Nat.reduceMul, Nat.reduceBEq, Int.reduceLT, Int.reduceAdd, Int.reduceMul, Int.reduceSub, Int.reduceToNat, Int.reduceLE, Int.reduceEq, ↓reduceIte, reduceCtorEq, Int.reduceNeg, Nat.reduceLeDiff]) (by simp only [AV.und, AV.unds, and_self])
  | true =>
  by_cases h3 : xc = 1
  · by_cases h4 : pr = xr
    · by_cases h5 : pc = xr
      · obtain ⟨⟨a1, a2⟩, _, a3, _⟩ := rightB_len h1
        obtain ⟨_, _, a4, a5⟩ := rightB_len h2
        subst h4 h5
        obtain ⟨n, rfl⟩ : ∃ n : Nat, pc = (n : Int) := ⟨pc.toNat, by omega⟩
        have hl : pl.length = n * n := by rw [← Int.natCast_mul] at a4; omega
        simp only [h3, decide_true, Bool.true_and, Bool.and_true, Int.toNat_natCast, goodB_split hl]
        have hm : ∀ G, (Mx.mk n n pl pp po pk).ok (H ++ G) := fun G => ⟨by simp only; omega, by simp only; omega, hl, fun x hx => inb_iff.1 (List.all_eq_true.1 a5 x hx), hp.app G⟩
        have gt := fun G => f73 (hm G)
        unfold Mx.av at gt
        simp only at gt
        simp (maxSteps := 1000000) (disch := omega) only [go_sem, Nat.reduceEqDiff, Nat.reduceLT, Nat.reduceAdd, Nat.reduceSub, Nat.reduceMul, Nat.reduceBEq, Int.reduceLT, Int.reduceAdd, Int.reduceMul, Int.reduceSub, Int.reduceToNat, Int.reduceLE, Int.reduceEq, ↓reduceIte, reduceCtorEq, Int.reduceNeg, Nat.reduceLeDiff,  h3]
        first | refine callBE (gt _) ?_ | refine callDE (gt _) ?_ | refine callXE (gt _) ?_
        rintro v H' hx' ⟨w, rfl, p2, o2, k2, rfl, hs2⟩
        have hx0 := (Ext.app H _).trans hx'
        have e : matL (fun i k => (Mx.mk n n pl pp po pk).at k i) n n = trL pl n := rfl
        rw [e] at hs2 ⊢
        have g72 := f72 (R1 := (n : Int)) (C1 := (n : Int)) (R2 := (n : Int)) (C2 := (n : Int)) (k1 := pk) (k2 := k2) (hx0.sl hp) hs2 lp
        have es : sameB (n : Int) (n : Int) pl (n : Int) (n : Int) (trL pl n) = decide (pl = trL pl n) := by unfold sameB; simp
        rw [es] at g72
        have hb := hx'.blk (b := H.length) (by simp only [go_sem, Nat.reduceEqDiff, Nat.reduceLT, Nat.reduceAdd, Nat.reduceSub, Nat.reduceMul, Nat.reduceBEq, Int.reduceLT, Int.reduceAdd, Int.reduceMul, Int.reduceSub, Int.reduceToNat, Int.reduceLE, Int.reduceEq, ↓reduceIte, reduceCtorEq, Int.reduceNeg, Nat.reduceLeDiff]; rfl)
        simp (maxSteps := 1000000) (disch := omega) only [go_sem, Nat.reduceEqDiff, Nat.reduceLT, Nat.reduceAdd, Nat.reduceSub, Nat.reduceMul, Nat.reduceBEq, Int.reduceLT, Int.reduceAdd, Int.reduceMul, Int.reduceSub, Int.reduceToNat, Int.reduceLE, Int.reduceEq, ↓reduceIte, reduceCtorEq, Int.reduceNeg, Nat.reduceLeDiff]
        first | refine callB_intro (g72) ?_ | refine callD_intro (g72) ?_ | refine callP_intro (fun _ => (g72)) ?_ | refine callX_pure (g72) ?_
        cases hd : decide (pl = trL pl n) with
        | false =>
          simp only [Bool.false_and]
          simp (maxSteps := 1000000) (disch := omega) only [go_sem, Nat.reduceEqDiff, Nat.reduceLT, Nat.reduceAdd, Nat.reduceSub, Nat.reduceMul, Nat.reduceBEq, Int.reduceLT, Int.reduceAdd, Int.reduceMul, Int.reduceSub, Int.reduceToNat, Int.reduceLE, Int.reduceEq, ↓reduceIte, reduceCtorEq, Int.reduceNeg, Nat.reduceLeDiff]
          exact fin_ext (by simp) hx0 (by simp (maxSteps := 1000000) (disch := omega) only [resVal, resAll, resOne, rs55, Env.get, go_sem, Nat.reduceEqDiff, Nat.reduceLT, Nat.reduceAdd, Nat.reduceSub, Nat.reduceMul, Nat.reduceBEq, Int.reduceLT, Int.reduceAdd, Int.reduceMul, Int.reduceSub, Int.reduceToNat, Int.reduceLE, Int.reduceEq, ↓reduceIte, reduceCtorEq, Int.reduceNeg, Nat.reduceLeDiff]) (by simp only [AV.und, AV.unds, and_self])
        | true =>
          simp only [Bool.true_and]
          simp (maxSteps := 1000000) (disch := omega) only [go_sem, Nat.reduceEqDiff, Nat.reduceLT, Nat.reduceAdd, Nat.reduceSub, Nat.reduceMul, Nat.reduceBEq, Int.reduceLT, Int.reduceAdd, Int.reduceMul, Int.reduceSub, Int.reduceToNat, Int.reduceLE, Int.reduceEq, ↓reduceIte, reduceCtorEq, Int.reduceNeg, Nat.reduceLeDiff]
          refine f55_loop (n := n) (l := pl) hb (hx0.sl hp) hl (by omega) ?_ ?_ n 0 (by omega) (dgB_start pl n)
          · intro hg
            rw [hg]
            simp (maxSteps := 1000000) (disch := omega) only [go_sem, Nat.reduceEqDiff, Nat.reduceLT, Nat.reduceAdd, Nat.reduceSub, Nat.reduceMul, Nat.reduceBEq, Int.reduceLT, Int.reduceAdd, Int.reduceMul, Int.reduceSub, Int.reduceToNat, Int.reduceLE, Int.reduceEq, ↓reduceIte, reduceCtorEq, Int.reduceNeg, Nat.reduceLeDiff]
            exact fin_ext (by simp) hx0 (by simp (maxSteps := 1000000) (disch := omega) only [resVal, resAll, resOne, rs55, Env.get, go_sem, Nat.reduceEqDiff, Nat.reduceLT, Nat.reduceAdd, Nat.reduceSub, Nat.reduceMul, Nat.reduceBEq, Int.reduceLT, Int.reduceAdd, Int.reduceMul, Int.reduceSub, Int.reduceToNat, Int.reduceLE, Int.reduceEq, ↓reduceIte, reduceCtorEq, Int.reduceNeg, Nat.reduceLeDiff]) (by simp only [AV.und, AV.unds, and_self])
          · intro hg
            rw [hg]
            exact fin_ext (by simp) hx0 (by simp (maxSteps := 1000000) (disch := omega) only [resVal, resAll, resOne, rs55, Env.get, go_sem, Nat.reduceEqDiff, Nat.reduceLT, Nat.reduceAdd, Nat.reduceSub, Nat.reduceMul, Nat.reduceBEq, Int.reduceLT, Int.reduceAdd, Int.reduceMul, Int.reduceSub, Int.reduceToNat, Int.reduceLE, Int.reduceEq, ↓reduceIte, reduceCtorEq, Int.reduceNeg, Nat.reduceLeDiff]) (by simp only [AV.und, AV.unds, and_self])
      · simp only [h3, h4, h5, decide_true, decide_false, Bool.true_and, Bool.false_and, Bool.and_false, Bool.and_true]
        simp (maxSteps := 1000000) (disch := omega) only [go_sem, Nat.reduceEqDiff, Nat.reduceLT, Nat.reduceAdd, Nat.reduceSub, Nat.reduceMul, Nat.reduceBEq, Int.reduceLT, Int.reduceAdd, Int.reduceMul, Int.reduceSub, Int.reduceToNat, Int.reduceLE, Int.reduceEq, ↓reduceIte, reduceCtorEq, Int.reduceNeg, Nat.reduceLeDiff,  h3, h4, h5]
        exact fin_ext (by simp) (Ext.app _ _) (by simp (maxSteps := 1000000) (disch := omega) only [resVal, resAll, resOne, rs55, Env.get, go_sem, Nat.reduceEqDiff, Nat.reduceLT, Nat.reduceAdd, Nat.reduceSub, Nat.reduceMul, Nat.reduceBEq, Int.reduceLT, Int.reduceAdd, Int.reduceMul, Int.reduceSub, Int.reduceToNat, Int.reduceLE, Int.reduceEq, ↓reduceIte, reduceCtorEq, Int.reduceNeg, Nat.reduceLeDiff]) (by simp only [AV.und, AV.unds, and_self])
    · simp only [h3, h4, decide_true, decide_false, Bool.true_and, Bool.false_and, Bool.and_false, Bool.and_true]
      simp (maxSteps := 1000000) (disch := omega) only [go_sem, Nat.reduceEqDiff, Nat.reduceLT, Nat.reduceAdd, Nat.reduceSub, Nat.reduceMul, Nat.reduceBEq, Int.reduceLT, Int.reduceAdd, Int.reduceMul, Int.reduceSub, Int.reduceToNat, Int.reduceLE, Int.reduceEq, ↓reduceIte, reduceCtorEq, Int.reduceNeg, Nat.reduceLeDiff,  h3, h4]
      exact fin_ext (by simp) (Ext.app _ _) (by simp (maxSteps := 1000000) (disch := omega) only [resVal, resAll, resOne, rs55, Env.get, go_sem, Nat.reduceEqDiff, Nat.reduceLT, Nat.reduceAdd, Nat.reduceSub, Nat.reduceMul, Nat.reduceBEq, Int.reduceLT, Int.reduceAdd, Int.reduceMul, Int.reduceSub, Int.reduceToNat, Int.reduceLE, Int.reduceEq, ↓reduceIte, reduceCtorEq, Int.reduceNeg, Nat.reduceLeDiff]) (by simp only [AV.und, AV.unds, and_self])
  · simp only [h3, decide_true, decide_false, Bool.true_and, Bool.false_and, Bool.and_false, Bool.and_true]
    simp (maxSteps := 1000000) (disch := omega) only [go_sem, Nat.reduceEqDiff, Nat.reduceLT, Nat.reduceAdd, Nat.reduceSub, Nat.reduceMul, Nat.reduceBEq, Int.reduceLT, Int.reduceAdd, Int.reduceMul, Int.reduceSub, Int.reduceToNat, Int.reduceLE, Int.reduceEq, ↓reduceIte, reduceCtorEq, Int.reduceNeg, Nat.reduceLeDiff,  h3]
    exact fin_ext (by simp) (Ext.app _ _) (by simp (maxSteps := 1000000) (disch := omega) only [resVal, resAll, resOne, rs55, Env.get, go_sem, Nat.reduceEqDiff, Nat.reduceLT, Nat.reduceAdd, Nat.reduceSub, Nat.reduceMul, Nat.reduceBEq, Int.reduceLT, Int.reduceAdd, Int.reduceMul, Int.reduceSub, Int.reduceToNat, Int.reduceLE, Int.reduceEq, ↓reduceIte, reduceCtorEq, Int.reduceNeg, Nat.reduceLeDiff]) (by simp only [AV.und, AV.unds, and_self])

/-! Rows that are asked number by number. -/
def ixp (odd : Int → Bool) : List Int → Int → Int
  | [], _ => -1
  | x :: r, j => if odd x then j else ixp odd r (j + 1)
theorem ixp_any (odd : Int → Bool) : ∀ (l : List Int) (j : Int), 0 ≤ j → (decide (0 ≤ ixp odd l j)) = l.any odd
  | [], j, h => rfl
  | x :: r, j, h => by
    unfold ixp
    cases hx : odd x with
    | true => rw [if_pos rfl]; simp [hx, h]
    | false => rw [if_neg (by simp), ixp_any odd r (j + 1) (by omega)]; simp [hx]
theorem f62p {odd : Int → Bool} {g : FuncId} (hb : hasBody Try.prog g = true) (ho : ∀ a H, ACall Try.prog g [.int .i64 a] H (.bool (odd a)) H) {l : List Int} {p off : Nat} {k : Option Nat} {H : Heap} (hs : Sl i64 H p off l) (hl : l.length ≤ 4611686018427387904) : ACall Try.prog 62 [.sl p off l.length 1 k, .fn (.func g) [] []] H (.int .i64 (ixp odd l 0)) H := by
  refine acall62 (by simp) (acs_start ?_)
  obtain ⟨cs, o, hp, hle, hcs⟩ := hs
  have hpl := blkAt_lt hp
  have g1 := fun x => ho x H
  unfold c62
  simp (maxSteps := 1000000) (disch := omega) only [go_sem, Nat.reduceEqDiff, Nat.reduceLT, Nat.reduceAdd, Nat.reduceSub, Nat.reduceMul, Nat.reduceBEq, Int.reduceLT, Int.reduceAdd, Int.reduceMul, Int.reduceSub, Int.reduceToNat, Int.reduceLE, Int.reduceEq, ↓reduceIte, reduceCtorEq, Int.reduceNeg, Nat.reduceLeDiff]
  refine loop_list (fun r T H' => ∃ j : Nat, T = [(0, .sl p off l.length 1 k), (1, .fn (.func g) [] []), (7, .int .i64 (l.length : Nat)), (8, .int .i64 (j : Nat))] ∧ H' = H ∧ l.drop j = r ∧ j + r.length = l.length ∧ ixp odd l 0 = ixp odd r j) ?_ ?_ l _ _ ⟨0, rfl, rfl, rfl, by simp, rfl⟩
  · rintro x r T H' ⟨j, rfl, rfl, hd, hj, hi⟩ nx
    obtain ⟨h1, h2, h3⟩ := drop_cons hd
    have hjl : (j : Int) < (l.length : Int) := by omega
    have fx : cs[off + j]? = some (.int .i64 x) := sl_get hcs h1
    have hi0 := hi
    rw [hi]
    rw [acs_lp]; conv in Fr.code c62l0 => unfold c62l0
    simp (maxSteps := 1000000) (disch := omega) only [go_sem, Nat.reduceEqDiff, Nat.reduceLT, Nat.reduceAdd, Nat.reduceSub, Nat.reduceMul, Nat.reduceBEq, Int.reduceLT, Int.reduceAdd, Int.reduceMul, Int.reduceSub, Int.reduceToNat, Int.reduceLE, Int.reduceEq, ↓reduceIte, reduceCtorEq, Int.reduceNeg, Nat.reduceLeDiff,  hjl, hpl, hp, fx, hb]
    first | refine callB_intro (g1 _) ?_ | refine callD_intro (g1 _) ?_ | refine callP_intro (fun _ => (g1 _)) ?_ | refine callX_pure (g1 _) ?_
    cases hx : odd x with
    | false =>
      have e1 : ixp odd (x :: r) (j : Int) = ixp odd r ((j + 1 : Nat) : Int) := by rw [ixp, hx]; rfl
      rw [e1]
      rw [e1] at hi
      simp (maxSteps := 1000000) (disch := omega) only [go_sem, Nat.reduceEqDiff, Nat.reduceLT, Nat.reduceAdd, Nat.reduceSub, Nat.reduceMul, Nat.reduceBEq, Int.reduceLT, Int.reduceAdd, Int.reduceMul, Int.reduceSub, Int.reduceToNat, Int.reduceLE, Int.reduceEq, ↓reduceIte, reduceCtorEq, Int.reduceNeg, Nat.reduceLeDiff]
      rw [← hi]
      refine nx _ _ ⟨j + 1, ?_, rfl, h2, by simp at hj; omega, hi⟩
      simp
    | true =>
      have e1 : ixp odd (x :: r) (j : Int) = (j : Int) := by rw [ixp, hx]; rfl
      rw [e1]
      simp (maxSteps := 1000000) (disch := omega) only [go_sem, Nat.reduceEqDiff, Nat.reduceLT, Nat.reduceAdd, Nat.reduceSub, Nat.reduceMul, Nat.reduceBEq, Int.reduceLT, Int.reduceAdd, Int.reduceMul, Int.reduceSub, Int.reduceToNat, Int.reduceLE, Int.reduceEq, ↓reduceIte, reduceCtorEq, Int.reduceNeg, Nat.reduceLeDiff]
      exact fin_same (by simp) _ (by first | exact (List.append_nil _).symm | rfl) (by simp (maxSteps := 1000000) (disch := omega) only [resVal, resAll, resOne, rs62, Env.get, go_sem, Nat.reduceEqDiff, Nat.reduceLT, Nat.reduceAdd, Nat.reduceSub, Nat.reduceMul, Nat.reduceBEq, Int.reduceLT, Int.reduceAdd, Int.reduceMul, Int.reduceSub, Int.reduceToNat, Int.reduceLE, Int.reduceEq, ↓reduceIte, reduceCtorEq, Int.reduceNeg, Nat.reduceLeDiff]) (by simp only [AV.und, AV.unds, and_self])
  · rintro T H' ⟨j, rfl, rfl, hd, hj, hi⟩
    obtain rfl : j = l.length := by simpa using hj
    rw [hi, ixp]
    rw [acs_lp]; conv in Fr.code c62l0 => unfold c62l0
    simp (maxSteps := 1000000) (disch := omega) only [go_sem, Nat.reduceEqDiff, Nat.reduceLT, Nat.reduceAdd, Nat.reduceSub, Nat.reduceMul, Nat.reduceBEq, Int.reduceLT, Int.reduceAdd, Int.reduceMul, Int.reduceSub, Int.reduceToNat, Int.reduceLE, Int.reduceEq, ↓reduceIte, reduceCtorEq, Int.reduceNeg, Nat.reduceLeDiff,  Int.lt_irrefl]
    exact fin_same (by simp) _ (by first | exact (List.append_nil _).symm | rfl) (by simp (maxSteps := 1000000) (disch := omega) only [resVal, resAll, resOne, rs62, Env.get, go_sem, Nat.reduceEqDiff, Nat.reduceLT, Nat.reduceAdd, Nat.reduceSub, Nat.reduceMul, Nat.reduceBEq, Int.reduceLT, Int.reduceAdd, Int.reduceMul, Int.reduceSub, Int.reduceToNat, Int.reduceLE, Int.reduceEq, ↓reduceIte, reduceCtorEq, Int.reduceNeg, Nat.reduceLeDiff]) (by simp only [AV.und, AV.unds, and_self])
theorem f37p {odd : Int → Bool} {g : FuncId} (hb : hasBody Try.prog g = true) (ho : ∀ a H, ACall Try.prog g [.int .i64 a] H (.bool (odd a)) H) {l : List Int} {p off : Nat} {k : Option Nat} {H : Heap} (hs : Sl i64 H p off l) (hl : l.length ≤ 4611686018427387904) : ACall Try.prog 37 [.sl p off l.length 1 k, .fn (.func g) [] []] H (.bool (l.any odd)) H := by
  refine acall37 (by simp) (acs_start ?_)
  have g1 := f62p (k := k) hb ho hs hl
  have e := ixp_any odd l 0 (Int.le_refl _)
  unfold c37
  simp (maxSteps := 1000000) (disch := omega) only [go_sem, Nat.reduceEqDiff, Nat.reduceLT, Nat.reduceAdd, Nat.reduceSub, Nat.reduceMul, Nat.reduceBEq, Int.reduceLT, Int.reduceAdd, Int.reduceMul, Int.reduceSub, Int.reduceToNat, Int.reduceLE, Int.reduceEq, ↓reduceIte, reduceCtorEq, Int.reduceNeg, Nat.reduceLeDiff]
  first | refine callB_intro (g1) ?_ | refine callD_intro (g1) ?_ | refine callP_intro (fun _ => (g1)) ?_ | refine callX_pure (g1) ?_
  simp (maxSteps := 1000000) (disch := omega) only [go_sem, Nat.reduceEqDiff, Nat.reduceLT, Nat.reduceAdd, Nat.reduceSub, Nat.reduceMul, Nat.reduceBEq, Int.reduceLT, Int.reduceAdd, Int.reduceMul, Int.reduceSub, Int.reduceToNat, Int.reduceLE, Int.reduceEq, ↓reduceIte, reduceCtorEq, Int.reduceNeg, Nat.reduceLeDiff,  e]
  exact fin_same (by simp) _ (by first | exact (List.append_nil _).symm | rfl) (by simp (maxSteps := 1000000) (disch := omega) only [resVal, resAll, resOne, rs37, Env.get, go_sem, Nat.reduceEqDiff, Nat.reduceLT, Nat.reduceAdd, Nat.reduceSub, Nat.reduceMul, Nat.reduceBEq, Int.reduceLT, Int.reduceAdd, Int.reduceMul, Int.reduceSub, Int.reduceToNat, Int.reduceLE, Int.reduceEq, ↓reduceIte, reduceCtorEq, Int.reduceNeg, Nat.reduceLeDiff]) (by simp only [AV.und, AV.unds, and_self])
theorem f74p {odd : Int → Bool} {g : FuncId} (hb : hasBody Try.prog g = true) (ho : ∀ a H, ACall Try.prog g [.int .i64 a] H (.bool (odd a)) H) {l : List Int} {p off : Nat} {k : Option Nat} {H : Heap} (hs : Sl i64 H p off l) (hl : l.length ≤ 4611686018427387904) : ACall Try.prog 74 [.sl p off l.length 1 k, .fn (.func g) [] []] H (.int .i64 (ixp odd l 0)) H := by
  refine acall74 (by simp) (acs_start ?_)
  obtain ⟨cs, o, hp, hle, hcs⟩ := hs
  have hpl := blkAt_lt hp
  have g1 := fun x => ho x H
  unfold c74
  simp (maxSteps := 1000000) (disch := omega) only [go_sem, Nat.reduceEqDiff, Nat.reduceLT, Nat.reduceAdd, Nat.reduceSub, Nat.reduceMul, Nat.reduceBEq, Int.reduceLT, Int.reduceAdd, Int.reduceMul, Int.reduceSub, Int.reduceToNat, Int.reduceLE, Int.reduceEq, ↓reduceIte, reduceCtorEq, Int.reduceNeg, Nat.reduceLeDiff]
  refine loop_list (fun r T H' => ∃ j : Nat, T = [(0, .sl p off l.length 1 k), (1, .fn (.func g) [] []), (7, .int .i64 (l.length : Nat)), (8, .int .i64 (j : Nat))] ∧ H' = H ∧ l.drop j = r ∧ j + r.length = l.length ∧ ixp odd l 0 = ixp odd r j) ?_ ?_ l _ _ ⟨0, rfl, rfl, rfl, by simp, rfl⟩
  · rintro x r T H' ⟨j, rfl, rfl, hd, hj, hi⟩ nx
    obtain ⟨h1, h2, h3⟩ := drop_cons hd
    have hjl : (j : Int) < (l.length : Int) := by omega
    have fx : cs[off + j]? = some (.int .i64 x) := sl_get hcs h1
    have hi0 := hi
    rw [hi]
    rw [acs_lp]; conv in Fr.code c74l0 => unfold c74l0
    simp (maxSteps := 1000000) (disch := omega) only [go_sem, Nat.reduceEqDiff, Nat.reduceLT, Nat.reduceAdd, Nat.reduceSub, Nat.reduceMul, Nat.reduceBEq, Int.reduceLT, Int.reduceAdd, Int.reduceMul, Int.reduceSub, Int.reduceToNat, Int.reduceLE, Int.reduceEq, ↓reduceIte, reduceCtorEq, Int.reduceNeg, Nat.reduceLeDiff,  hjl, hpl, hp, fx, hb]
    first | refine callB_intro (g1 _) ?_ | refine callD_intro (g1 _) ?_ | refine callP_intro (fun _ => (g1 _)) ?_ | refine callX_pure (g1 _) ?_
    cases hx : odd x with
    | false =>
      have e1 : ixp odd (x :: r) (j : Int) = ixp odd r ((j + 1 : Nat) : Int) := by rw [ixp, hx]; rfl
      rw [e1]
      rw [e1] at hi
      simp (maxSteps := 1000000) (disch := omega) only [go_sem, Nat.reduceEqDiff, Nat.reduceLT, Nat.reduceAdd, Nat.reduceSub, Nat.reduceMul, Nat.reduceBEq, Int.reduceLT, Int.reduceAdd, Int.reduceMul, Int.reduceSub, Int.reduceToNat, Int.reduceLE, Int.reduceEq, ↓reduceIte, reduceCtorEq, Int.reduceNeg, Nat.reduceLeDiff]
      rw [← hi]
      refine nx _ _ ⟨j + 1, ?_, rfl, h2, by simp at hj; omega, hi⟩
      simp
    | true =>
      have e1 : ixp odd (x :: r) (j : Int) = (j : Int) := by rw [ixp, hx]; rfl
      rw [e1]
      simp (maxSteps := 1000000) (disch := omega) only [go_sem, Nat.reduceEqDiff, Nat.reduceLT, Nat.reduceAdd, Nat.reduceSub, Nat.reduceMul, Nat.reduceBEq, Int.reduceLT, Int.reduceAdd, Int.reduceMul, Int.reduceSub, Int.reduceToNat, Int.reduceLE, Int.reduceEq, ↓reduceIte, reduceCtorEq, Int.reduceNeg, Nat.reduceLeDiff]
      exact fin_same (by simp) _ (by first | exact (List.append_nil _).symm | rfl) (by simp (maxSteps := 1000000) (disch := omega) only [resVal, resAll, resOne, rs74, Env.get, go_sem, Nat.reduceEqDiff, Nat.reduceLT, Nat.reduceAdd, Nat.reduceSub, Nat.reduceMul, Nat.reduceBEq, Int.reduceLT, Int.reduceAdd, Int.reduceMul, Int.reduceSub, Int.reduceToNat, Int.reduceLE, Int.reduceEq, ↓reduceIte, reduceCtorEq, Int.reduceNeg, Nat.reduceLeDiff]) (by simp only [AV.und, AV.unds, and_self])
  · rintro T H' ⟨j, rfl, rfl, hd, hj, hi⟩
    obtain rfl : j = l.length := by simpa using hj
    rw [hi, ixp]
    rw [acs_lp]; conv in Fr.code c74l0 => unfold c74l0
    simp (maxSteps := 1000000) (disch := omega) only [go_sem, Nat.reduceEqDiff, Nat.reduceLT, Nat.reduceAdd, Nat.reduceSub, Nat.reduceMul, Nat.reduceBEq, Int.reduceLT, Int.reduceAdd, Int.reduceMul, Int.reduceSub, Int.reduceToNat, Int.reduceLE, Int.reduceEq, ↓reduceIte, reduceCtorEq, Int.reduceNeg, Nat.reduceLeDiff,  Int.lt_irrefl]
    exact fin_same (by simp) _ (by first | exact (List.append_nil _).symm | rfl) (by simp (maxSteps := 1000000) (disch := omega) only [resVal, resAll, resOne, rs74, Env.get, go_sem, Nat.reduceEqDiff, Nat.reduceLT, Nat.reduceAdd, Nat.reduceSub, Nat.reduceMul, Nat.reduceBEq, Int.reduceLT, Int.reduceAdd, Int.reduceMul, Int.reduceSub, Int.reduceToNat, Int.reduceLE, Int.reduceEq, ↓reduceIte, reduceCtorEq, Int.reduceNeg, Nat.reduceLeDiff]) (by simp only [AV.und, AV.unds, and_self])
theorem f58p {odd : Int → Bool} {g : FuncId} (hb : hasBody Try.prog g = true) (ho : ∀ a H, ACall Try.prog g [.int .i64 a] H (.bool (odd a)) H) {l : List Int} {p off : Nat} {k : Option Nat} {H : Heap} (hs : Sl i64 H p off l) (hl : l.length ≤ 4611686018427387904) : ACall Try.prog 58 [.sl p off l.length 1 k, .fn (.func g) [] []] H (.bool (l.any odd)) H := by
  refine acall58 (by simp) (acs_start ?_)
  have g1 := f74p (k := k) hb ho hs hl
  have e := ixp_any odd l 0 (Int.le_refl _)
  unfold c58
  simp (maxSteps := 1000000) (disch := omega) only [go_sem, Nat.reduceEqDiff, Nat.reduceLT, Nat.reduceAdd, Nat.reduceSub, Nat.reduceMul, Nat.reduceBEq, Int.reduceLT, Int.reduceAdd, Int.reduceMul, Int.reduceSub, Int.reduceToNat, Int.reduceLE, Int.reduceEq, ↓reduceIte, reduceCtorEq, Int.reduceNeg, Nat.reduceLeDiff]
  first | refine callB_intro (g1) ?_ | refine callD_intro (g1) ?_ | refine callP_intro (fun _ => (g1)) ?_ | refine callX_pure (g1) ?_
  simp (maxSteps := 1000000) (disch := omega) only [go_sem, Nat.reduceEqDiff, Nat.reduceLT, Nat.reduceAdd, Nat.reduceSub, Nat.reduceMul, Nat.reduceBEq, Int.reduceLT, Int.reduceAdd, Int.reduceMul, Int.reduceSub, Int.reduceToNat, Int.reduceLE, Int.reduceEq, ↓reduceIte, reduceCtorEq, Int.reduceNeg, Nat.reduceLeDiff,  e]
  exact fin_same (by simp) _ (by first | exact (List.append_nil _).symm | rfl) (by simp (maxSteps := 1000000) (disch := omega) only [resVal, resAll, resOne, rs58, Env.get, go_sem, Nat.reduceEqDiff, Nat.reduceLT, Nat.reduceAdd, Nat.reduceSub, Nat.reduceMul, Nat.reduceBEq, Int.reduceLT, Int.reduceAdd, Int.reduceMul, Int.reduceSub, Int.reduceToNat, Int.reduceLE, Int.reduceEq, ↓reduceIte, reduceCtorEq, Int.reduceNeg, Nat.reduceLeDiff]) (by simp only [AV.und, AV.unds, and_self])
theorem f87p {odd : Int → Bool} {g : FuncId} (hb : hasBody Try.prog g = true) (ho : ∀ a H, ACall Try.prog g [.int .i64 a] H (.bool (odd a)) H) {l : List Int} {p off : Nat} {k : Option Nat} {H : Heap} (hs : Sl i64 H p off l) (hl : l.length ≤ 4611686018427387904) : ACall Try.prog 87 [.sl p off l.length 1 k, .fn (.func g) [] []] H (.int .i64 (ixp odd l 0)) H := by
  refine acall87 (by simp) (acs_start ?_)
  obtain ⟨cs, o, hp, hle, hcs⟩ := hs
  have hpl := blkAt_lt hp
  have g1 := fun x => ho x H
  unfold c87
  simp (maxSteps := 1000000) (disch := omega) only [go_sem, Nat.reduceEqDiff, Nat.reduceLT, Nat.reduceAdd, Nat.reduceSub, Nat.reduceMul, Nat.reduceBEq, Int.reduceLT, Int.reduceAdd, Int.reduceMul, Int.reduceSub, Int.reduceToNat, Int.reduceLE, Int.reduceEq, ↓reduceIte, reduceCtorEq, Int.reduceNeg, Nat.reduceLeDiff]
  refine loop_list (fun r T H' => ∃ j : Nat, T = [(0, .sl p off l.length 1 k), (1, .fn (.func g) [] []), (7, .int .i64 (l.length : Nat)), (8, .int .i64 (j : Nat))] ∧ H' = H ∧ l.drop j = r ∧ j + r.length = l.length ∧ ixp odd l 0 = ixp odd r j) ?_ ?_ l _ _ ⟨0, rfl, rfl, rfl, by simp, rfl⟩
  · rintro x r T H' ⟨j, rfl, rfl, hd, hj, hi⟩ nx
    obtain ⟨h1, h2, h3⟩ := drop_cons hd
    have hjl : (j : Int) < (l.length : Int) := by omega
    have fx : cs[off + j]? = some (.int .i64 x) := sl_get hcs h1
    have hi0 := hi
    rw [hi]
    rw [acs_lp]; conv in Fr.code c87l0 => unfold c87l0
    simp (maxSteps := 1000000) (disch := omega) only [go_sem, Nat.reduceEqDiff, Nat.reduceLT, Nat.reduceAdd, Nat.reduceSub, Nat.reduceMul, Nat.reduceBEq, Int.reduceLT, Int.reduceAdd, Int.reduceMul, Int.reduceSub, Int.reduceToNat, Int.reduceLE, Int.reduceEq, ↓reduceIte, reduceCtorEq, Int.reduceNeg, Nat.reduceLeDiff,  hjl, hpl, hp, fx, hb]
    first | refine callB_intro (g1 _) ?_ | refine callD_intro (g1 _) ?_ | refine callP_intro (fun _ => (g1 _)) ?_ | refine callX_pure (g1 _) ?_
    cases hx : odd x with
    | false =>
      have e1 : ixp odd (x :: r) (j : Int) = ixp odd r ((j + 1 : Nat) : Int) := by rw [ixp, hx]; rfl
      rw [e1]
      rw [e1] at hi
      simp (maxSteps := 1000000) (disch := omega) only [go_sem, Nat.reduceEqDiff, Nat.reduceLT, Nat.reduceAdd, Nat.reduceSub, Nat.reduceMul, Nat.reduceBEq, Int.reduceLT, Int.reduceAdd, Int.reduceMul, Int.reduceSub, Int.reduceToNat, Int.reduceLE, Int.reduceEq, ↓reduceIte, reduceCtorEq, Int.reduceNeg, Nat.reduceLeDiff]
      rw [← hi]
      refine nx _ _ ⟨j + 1, ?_, rfl, h2, by simp at hj; omega, hi⟩
      simp
    | true =>
      have e1 : ixp odd (x :: r) (j : Int) = (j : Int) := by rw [ixp, hx]; rfl
      rw [e1]
      simp (maxSteps := 1000000) (disch := omega) only [go_sem, Nat.reduceEqDiff, Nat.reduceLT, Nat.reduceAdd, Nat.reduceSub, Nat.reduceMul, Nat.reduceBEq, Int.reduceLT, Int.reduceAdd, Int.reduceMul, Int.reduceSub, Int.reduceToNat, Int.reduceLE, Int.reduceEq, ↓reduceIte, reduceCtorEq, Int.reduceNeg, Nat.reduceLeDiff]
      exact fin_same (by simp) _ (by first | exact (List.append_nil _).symm | rfl) (by simp (maxSteps := 1000000) (disch := omega) only [resVal, resAll, resOne, rs87, Env.get, go_sem, Nat.reduceEqDiff, Nat.reduceLT, Nat.reduceAdd, Nat.reduceSub, Nat.reduceMul, Nat.reduceBEq, Int.reduceLT, Int.reduceAdd, Int.reduceMul, Int.reduceSub, Int.reduceToNat, Int.reduceLE, Int.reduceEq, ↓reduceIte, reduceCtorEq, Int.reduceNeg, Nat.reduceLeDiff]) (by simp only [AV.und, AV.unds, and_self])
  · rintro T H' ⟨j, rfl, rfl, hd, hj, hi⟩
    obtain rfl : j = l.length := by simpa using hj
    rw [hi, ixp]
    rw [acs_lp]; conv in Fr.code c87l0 => unfold c87l0
    simp (maxSteps := 1000000) (disch := omega) only [go_sem, Nat.reduceEqDiff, Nat.reduceLT, Nat.reduceAdd, Nat.reduceSub, Nat.reduceMul, Nat.reduceBEq, Int.reduceLT, Int.reduceAdd, Int.reduceMul, Int.reduceSub, Int.reduceToNat, Int.reduceLE, Int.reduceEq, ↓reduceIte, reduceCtorEq, Int.reduceNeg, Nat.reduceLeDiff,  Int.lt_irrefl]
    exact fin_same (by simp) _ (by first | exact (List.append_nil _).symm | rfl) (by simp (maxSteps := 1000000) (disch := omega) only [resVal, resAll, resOne, rs87, Env.get, go_sem, Nat.reduceEqDiff, Nat.reduceLT, Nat.reduceAdd, Nat.reduceSub, Nat.reduceMul, Nat.reduceBEq, Int.reduceLT, Int.reduceAdd, Int.reduceMul, Int.reduceSub, Int.reduceToNat, Int.reduceLE, Int.reduceEq, ↓reduceIte, reduceCtorEq, Int.reduceNeg, Nat.reduceLeDiff]) (by simp only [AV.und, AV.unds, and_self])
theorem f77p {odd : Int → Bool} {g : FuncId} (hb : hasBody Try.prog g = true) (ho : ∀ a H, ACall Try.prog g [.int .i64 a] H (.bool (odd a)) H) {l : List Int} {p off : Nat} {k : Option Nat} {H : Heap} (hs : Sl i64 H p off l) (hl : l.length ≤ 4611686018427387904) : ACall Try.prog 77 [.sl p off l.length 1 k, .fn (.func g) [] []] H (.bool (l.any odd)) H := by
  refine acall77 (by simp) (acs_start ?_)
  have g1 := f87p (k := k) hb ho hs hl
  have e := ixp_any odd l 0 (Int.le_refl _)
  unfold c77
  simp (maxSteps := 1000000) (disch := omega) only [go_sem, Nat.reduceEqDiff, Nat.reduceLT, Nat.reduceAdd, Nat.reduceSub, Nat.reduceMul, Nat.reduceBEq, Int.reduceLT, Int.reduceAdd, Int.reduceMul, Int.reduceSub, Int.reduceToNat, Int.reduceLE, Int.reduceEq, ↓reduceIte, reduceCtorEq, Int.reduceNeg, Nat.reduceLeDiff]
  first | refine callB_intro (g1) ?_ | refine callD_intro (g1) ?_ | refine callP_intro (fun _ => (g1)) ?_ | refine callX_pure (g1) ?_
  simp (maxSteps := 1000000) (disch := omega) only [go_sem, Nat.reduceEqDiff, Nat.reduceLT, Nat.reduceAdd, Nat.reduceSub, Nat.reduceMul, Nat.reduceBEq, Int.reduceLT, Int.reduceAdd, Int.reduceMul, Int.reduceSub, Int.reduceToNat, Int.reduceLE, Int.reduceEq, ↓reduceIte, reduceCtorEq, Int.reduceNeg, Nat.reduceLeDiff,  e]
  exact fin_same (by simp) _ (by first | exact (List.append_nil _).symm | rfl) (by simp (maxSteps := 1000000) (disch := omega) only [resVal, resAll, resOne, rs77, Env.get, go_sem, Nat.reduceEqDiff, Nat.reduceLT, Nat.reduceAdd, Nat.reduceSub, Nat.reduceMul, Nat.reduceBEq, Int.reduceLT, Int.reduceAdd, Int.reduceMul, Int.reduceSub, Int.reduceToNat, Int.reduceLE, Int.reduceEq, ↓reduceIte, reduceCtorEq, Int.reduceNeg, Nat.reduceLeDiff]) (by simp only [AV.und, AV.unds, and_self])
def okO (n : Int) : Bool := decide (0 ≤ n) && decide (n ≤ 1000)
theorem f56 {a : Int} {H : Heap} : ACall Try.prog 56 [.int .i64 a] H (.bool (!okO a)) H := by
  refine acall56 (by simp) (acs_start ?_)
  unfold c56
  by_cases h : a < 0
  · have e : okO a = false := by unfold okO; simp; omega
    rw [e]
    simp (maxSteps := 1000000) (disch := omega) only [go_sem, Nat.reduceEqDiff, Nat.reduceLT, Nat.reduceAdd, Nat.reduceSub, Nat.reduceMul, Nat.reduceBEq, Int.reduceLT, Int.reduceAdd, Int.reduceMul, Int.reduceSub, Int.reduceToNat, Int.reduceLE, Int.reduceEq, ↓reduceIte, reduceCtorEq, Int.reduceNeg, Nat.reduceLeDiff,  h]
    exact fin_ext (by simp) (Ext.refl _) (by simp (maxSteps := 1000000) (disch := omega) only [resVal, resAll, resOne, rs56, Env.get, go_sem, Nat.reduceEqDiff, Nat.reduceLT, Nat.reduceAdd, Nat.reduceSub, Nat.reduceMul, Nat.reduceBEq, Int.reduceLT, Int.reduceAdd, Int.reduceMul, Int.reduceSub, Int.reduceToNat, Int.reduceLE, Int.reduceEq, ↓reduceIte, reduceCtorEq, Int.reduceNeg, Nat.reduceLeDiff]) (by simp only [AV.und, AV.unds, and_self])
  · by_cases h2 : 1000 < a
    · have e : okO a = false := by unfold okO; simp; omega
      rw [e]
      simp (maxSteps := 1000000) (disch := omega) only [go_sem, Nat.reduceEqDiff, Nat.reduceLT, Nat.reduceAdd, Nat.reduceSub, Nat.reduceMul, Nat.reduceBEq, Int.reduceLT, Int.reduceAdd, Int.reduceMul, Int.reduceSub, Int.reduceToNat, Int.reduceLE, Int.reduceEq, ↓reduceIte, reduceCtorEq, Int.reduceNeg, Nat.reduceLeDiff,  h, h2]
      exact fin_ext (by simp) (Ext.refl _) (by simp (maxSteps := 1000000) (disch := omega) only [resVal, resAll, resOne, rs56, Env.get, go_sem, Nat.reduceEqDiff, Nat.reduceLT, Nat.reduceAdd, Nat.reduceSub, Nat.reduceMul, Nat.reduceBEq, Int.reduceLT, Int.reduceAdd, Int.reduceMul, Int.reduceSub, Int.reduceToNat, Int.reduceLE, Int.reduceEq, ↓reduceIte, reduceCtorEq, Int.reduceNeg, Nat.reduceLeDiff]) (by simp only [AV.und, AV.unds, and_self])
    · have e : okO a = true := by unfold okO; simp; omega
      rw [e]
      simp (maxSteps := 1000000) (disch := omega) only [go_sem, Nat.reduceEqDiff, Nat.reduceLT, Nat.reduceAdd, Nat.reduceSub, Nat.reduceMul, Nat.reduceBEq, Int.reduceLT, Int.reduceAdd, Int.reduceMul, Int.reduceSub, Int.reduceToNat, Int.reduceLE, Int.reduceEq, ↓reduceIte, reduceCtorEq, Int.reduceNeg, Nat.reduceLeDiff,  h, h2]
      exact fin_ext (by simp) (Ext.refl _) (by simp (maxSteps := 1000000) (disch := omega) only [resVal, resAll, resOne, rs56, Env.get, go_sem, Nat.reduceEqDiff, Nat.reduceLT, Nat.reduceAdd, Nat.reduceSub, Nat.reduceMul, Nat.reduceBEq, Int.reduceLT, Int.reduceAdd, Int.reduceMul, Int.reduceSub, Int.reduceToNat, Int.reduceLE, Int.reduceEq, ↓reduceIte, reduceCtorEq, Int.reduceNeg, Nat.reduceLeDiff]) (by simp only [AV.und, AV.unds, and_self])
theorem hb56 : hasBody Try.prog 56 = true := by kernel_rfl
def q4B (a b c d : Int) : Bool := inb a && inb b && inb c && inb d
theorem f27 {a b c d : Int} {H : Heap} : ACall Try.prog 27 [.agg [.int .i64 a, .int .i64 b, .int .i64 c, .int .i64 d]] H (.bool (q4B a b c d)) H := by
  refine acall27 (by simp) (acs_start ?_)
  unfold c27 q4B
  simp (maxSteps := 1000000) (disch := omega) only [go_sem, Nat.reduceEqDiff, Nat.reduceLT, Nat.reduceAdd, Nat.reduceSub, Nat.reduceMul, Nat.reduceBEq, Int.reduceLT, Int.reduceAdd, Int.reduceMul, Int.reduceSub, Int.reduceToNat, Int.reduceLE, Int.reduceEq, ↓reduceIte, reduceCtorEq, Int.reduceNeg, Nat.reduceLeDiff]
  rw [acs_lp]; conv in Fr.code c27l0 => unfold c27l0
  simp (maxSteps := 1000000) (disch := omega) only [go_sem, Nat.reduceEqDiff, Nat.reduceLT, Nat.reduceAdd, Nat.reduceSub, Nat.reduceMul, Nat.reduceBEq, Int.reduceLT, Int.reduceAdd, Int.reduceMul, Int.reduceSub, Int.reduceToNat, Int.reduceLE, Int.reduceEq, ↓reduceIte, reduceCtorEq, Int.reduceNeg, Nat.reduceLeDiff]
  first | refine callB_intro (f50) ?_ | refine callD_intro (f50) ?_ | refine callP_intro (fun _ => (f50)) ?_ | refine callX_pure (f50) ?_
  cases ha : inb a with
  | false =>
    try simp only [Bool.false_and, Bool.true_and, Bool.and_false]
    simp (maxSteps := 1000000) (disch := omega) only [go_sem, Nat.reduceEqDiff, Nat.reduceLT, Nat.reduceAdd, Nat.reduceSub, Nat.reduceMul, Nat.reduceBEq, Int.reduceLT, Int.reduceAdd, Int.reduceMul, Int.reduceSub, Int.reduceToNat, Int.reduceLE, Int.reduceEq, ↓reduceIte, reduceCtorEq, Int.reduceNeg, Nat.reduceLeDiff]
    exact fin_ext (by simp) (Ext.app _ _) (by simp (maxSteps := 1000000) (disch := omega) only [resVal, resAll, resOne, rs27, Env.get, go_sem, Nat.reduceEqDiff, Nat.reduceLT, Nat.reduceAdd, Nat.reduceSub, Nat.reduceMul, Nat.reduceBEq, Int.reduceLT, Int.reduceAdd, Int.reduceMul, Int.reduceSub, Int.reduceToNat, Int.reduceLE, Int.reduceEq, ↓reduceIte, reduceCtorEq, Int.reduceNeg, Nat.reduceLeDiff]) (by simp only [AV.und, AV.unds, and_self])
  | true =>
  simp (maxSteps := 1000000) (disch := omega) only [go_sem, Nat.reduceEqDiff, Nat.reduceLT, Nat.reduceAdd, Nat.reduceSub, Nat.reduceMul, Nat.reduceBEq, Int.reduceLT, Int.reduceAdd, Int.reduceMul, Int.reduceSub, Int.reduceToNat, Int.reduceLE, Int.reduceEq, ↓reduceIte, reduceCtorEq, Int.reduceNeg, Nat.reduceLeDiff]
  rw [acs_lp]; conv in Fr.code c27l0 => unfold c27l0
  simp (maxSteps := 1000000) (disch := omega) only [go_sem, Nat.reduceEqDiff, Nat.reduceLT, Nat.reduceAdd, Nat.reduceSub, Nat.reduceMul, Nat.reduceBEq, Int.reduceLT, Int.reduceAdd, Int.reduceMul, Int.reduceSub, Int.reduceToNat, Int.reduceLE, Int.reduceEq, ↓reduceIte, reduceCtorEq, Int.reduceNeg, Nat.reduceLeDiff]
  first | refine callB_intro (f50) ?_ | refine callD_intro (f50) ?_ | refine callP_intro (fun _ => (f50)) ?_ | refine callX_pure (f50) ?_
  cases hb : inb b with
  | false =>
    try simp only [Bool.false_and, Bool.true_and, Bool.and_false]
    simp (maxSteps := 1000000) (disch := omega) only [go_sem, Nat.reduceEqDiff, Nat.reduceLT, Nat.reduceAdd, Nat.reduceSub, Nat.reduceMul, Nat.reduceBEq, Int.reduceLT, Int.reduceAdd, Int.reduceMul, Int.reduceSub, Int.reduceToNat, Int.reduceLE, Int.reduceEq, ↓reduceIte, reduceCtorEq, Int.reduceNeg, Nat.reduceLeDiff]
    exact fin_ext (by simp) (Ext.app _ _) (by simp (maxSteps := 1000000) (disch := omega) only [resVal, resAll, resOne, rs27, Env.get, go_sem, Nat.reduceEqDiff, Nat.reduceLT, Nat.reduceAdd, Nat.reduceSub, Nat.reduceMul, Nat.reduceBEq, Int.reduceLT, Int.reduceAdd, Int.reduceMul, Int.reduceSub, Int.reduceToNat, Int.reduceLE, Int.reduceEq, ↓reduceIte, reduceCtorEq, Int.reduceNeg, Nat.reduceLeDiff]) (by simp only [AV.und, AV.unds, and_self])
  | true =>
  simp (maxSteps := 1000000) (disch := omega) only [go_sem, Nat.reduceEqDiff, Nat.reduceLT, Nat.reduceAdd, Nat.reduceSub, Nat.reduceMul, Nat.reduceBEq, Int.reduceLT, Int.reduceAdd, Int.reduceMul, Int.reduceSub, Int.reduceToNat, Int.reduceLE, Int.reduceEq, ↓reduceIte, reduceCtorEq, Int.reduceNeg, Nat.reduceLeDiff]
  rw [acs_lp]; conv in Fr.code c27l0 => unfold c27l0
  simp (maxSteps := 1000000) (disch := omega) only [go_sem, Nat.reduceEqDiff, Nat.reduceLT, Nat.reduceAdd, Nat.reduceSub, Nat.reduceMul, Nat.reduceBEq, Int.reduceLT, Int.reduceAdd, Int.reduceMul, Int.reduceSub, Int.reduceToNat, Int.reduceLE, Int.reduceEq, ↓reduceIte, reduceCtorEq, Int.reduceNeg, Nat.reduceLeDiff]
  first | refine callB_intro (f50) ?_ | refine callD_intro (f50) ?_ | refine callP_intro (fun _ => (f50)) ?_ | refine callX_pure (f50) ?_
  cases hc : inb c with
  | false =>
    try simp only [Bool.false_and, Bool.true_and, Bool.and_false]
    simp (maxSteps := 1000000) (disch := omega) only [go_sem, Nat.reduceEqDiff, Nat.reduceLT, Nat.reduceAdd, Nat.reduceSub, Nat.reduceMul, Nat.reduceBEq, Int.reduceLT, Int.reduceAdd, Int.reduceMul, Int.reduceSub, Int.reduceToNat, Int.reduceLE, Int.reduceEq, ↓reduceIte, reduceCtorEq, Int.reduceNeg, Nat.reduceLeDiff]
    exact fin_ext (by simp) (Ext.app _ _) (by simp (maxSteps := 1000000) (disch := omega) only [resVal, resAll, resOne, rs27, Env.get, go_sem, Nat.reduceEqDiff, Nat.reduceLT, Nat.reduceAdd, Nat.reduceSub, Nat.reduceMul, Nat.reduceBEq, Int.reduceLT, Int.reduceAdd, Int.reduceMul, Int.reduceSub, Int.reduceToNat, Int.reduceLE, Int.reduceEq, ↓reduceIte, reduceCtorEq, Int.reduceNeg, Nat.reduceLeDiff]) (by simp only [AV.und, AV.unds, and_self])
  | true =>
  simp (maxSteps := 1000000) (disch := omega) only [go_sem, Nat.reduceEqDiff, Nat.reduceLT, Nat.reduceAdd, Nat.reduceSub, Nat.reduceMul, Nat.reduceBEq, Int.reduceLT, Int.reduceAdd, Int.reduceMul, Int.reduceSub, Int.reduceToNat, Int.reduceLE, Int.reduceEq, ↓reduceIte, reduceCtorEq, Int.reduceNeg, Nat.reduceLeDiff]
  rw [acs_lp]; conv in Fr.code c27l0 => unfold c27l0
  simp (maxSteps := 1000000) (disch := omega) only [go_sem, Nat.reduceEqDiff, Nat.reduceLT, Nat.reduceAdd, Nat.reduceSub, Nat.reduceMul, Nat.reduceBEq, Int.reduceLT, Int.reduceAdd, Int.reduceMul, Int.reduceSub, Int.reduceToNat, Int.reduceLE, Int.reduceEq, ↓reduceIte, reduceCtorEq, Int.reduceNeg, Nat.reduceLeDiff]
  first | refine callB_intro (f50) ?_ | refine callD_intro (f50) ?_ | refine callP_intro (fun _ => (f50)) ?_ | refine callX_pure (f50) ?_
  cases hd : inb d with
  | false =>
    try simp only [Bool.false_and, Bool.true_and, Bool.and_false]
    simp (maxSteps := 1000000) (disch := omega) only [go_sem, Nat.reduceEqDiff, Nat.reduceLT, Nat.reduceAdd, Nat.reduceSub, Nat.reduceMul, Nat.reduceBEq, Int.reduceLT, Int.reduceAdd, Int.reduceMul, Int.reduceSub, Int.reduceToNat, Int.reduceLE, Int.reduceEq, ↓reduceIte, reduceCtorEq, Int.reduceNeg, Nat.reduceLeDiff]
    exact fin_ext (by simp) (Ext.app _ _) (by simp (maxSteps := 1000000) (disch := omega) only [resVal, resAll, resOne, rs27, Env.get, go_sem, Nat.reduceEqDiff, Nat.reduceLT, Nat.reduceAdd, Nat.reduceSub, Nat.reduceMul, Nat.reduceBEq, Int.reduceLT, Int.reduceAdd, Int.reduceMul, Int.reduceSub, Int.reduceToNat, Int.reduceLE, Int.reduceEq, ↓reduceIte, reduceCtorEq, Int.reduceNeg, Nat.reduceLeDiff]) (by simp only [AV.und, AV.unds, and_self])
  | true =>
  simp (maxSteps := 1000000) (disch := omega) only [go_sem, Nat.reduceEqDiff, Nat.reduceLT, Nat.reduceAdd, Nat.reduceSub, Nat.reduceMul, Nat.reduceBEq, Int.reduceLT, Int.reduceAdd, Int.reduceMul, Int.reduceSub, Int.reduceToNat, Int.reduceLE, Int.reduceEq, ↓reduceIte, reduceCtorEq, Int.reduceNeg, Nat.reduceLeDiff]
  rw [acs_lp]; conv in Fr.code c27l0 => unfold c27l0
  simp (maxSteps := 1000000) (disch := omega) only [go_sem, Nat.reduceEqDiff, Nat.reduceLT, Nat.reduceAdd, Nat.reduceSub, Nat.reduceMul, Nat.reduceBEq, Int.reduceLT, Int.reduceAdd, Int.reduceMul, Int.reduceSub, Int.reduceToNat, Int.reduceLE, Int.reduceEq, ↓reduceIte, reduceCtorEq, Int.reduceNeg, Nat.reduceLeDiff]
  try simp only [Bool.and_self]
  exact fin_ext (by simp) (Ext.app _ _) (by simp (maxSteps := 1000000) (disch := omega) only [resVal, resAll, resOne, rs27, Env.get, go_sem, Nat.reduceEqDiff, Nat.reduceLT, Nat.reduceAdd, Nat.reduceSub, Nat.reduceMul, Nat.reduceBEq, Int.reduceLT, Int.reduceAdd, Int.reduceMul, Int.reduceSub, Int.reduceToNat, Int.reduceLE, Int.reduceEq, ↓reduceIte, reduceCtorEq, Int.reduceNeg, Nat.reduceLeDiff]) (by simp only [AV.und, AV.unds, and_self])
theorem inb_lo {a : Int} (h : a < -70368744177664) : inb a = false := by unfold inb; rw [decide_eq_false_iff_not]; omega
theorem inb_hi {a : Int} (h : 70368744177663 < a) : inb a = false := by unfold inb; rw [decide_eq_false_iff_not]; omega
theorem inb_ok {a : Int} (h : ¬ a < -70368744177664) (h2 : ¬ 70368744177663 < a) : inb a = true := by unfold inb; rw [decide_eq_true_iff]; omega
theorem f57 {a b c d : Int} {H : Heap} : ACall Try.prog 57 [.agg [.int .i64 a, .int .i64 b, .int .i64 c, .int .i64 d]] H (.bool (q4B a b c d)) H := by
  refine acall57 (by simp) (acs_start ?_)
  unfold c57 q4B
  simp (maxSteps := 1000000) (disch := omega) only [go_sem, Nat.reduceEqDiff, Nat.reduceLT, Nat.reduceAdd, Nat.reduceSub, Nat.reduceMul, Nat.reduceBEq, Int.reduceLT, Int.reduceAdd, Int.reduceMul, Int.reduceSub, Int.reduceToNat, Int.reduceLE, Int.reduceEq, ↓reduceIte, reduceCtorEq, Int.reduceNeg, Nat.reduceLeDiff]
  rw [acs_lp]; conv in Fr.code c57l0 => unfold c57l0
  by_cases la : a < -70368744177664
  · simp only [inb_lo la, Bool.false_and, Bool.true_and, Bool.and_false]
    simp (maxSteps := 1000000) (disch := omega) only [go_sem, Nat.reduceEqDiff, Nat.reduceLT, Nat.reduceAdd, Nat.reduceSub, Nat.reduceMul, Nat.reduceBEq, Int.reduceLT, Int.reduceAdd, Int.reduceMul, Int.reduceSub, Int.reduceToNat, Int.reduceLE, Int.reduceEq, ↓reduceIte, reduceCtorEq, Int.reduceNeg, Nat.reduceLeDiff,  la]
    exact fin_ext (by simp) (Ext.app _ _) (by simp (maxSteps := 1000000) (disch := omega) only [resVal, resAll, resOne, rs57, Env.get, go_sem, Nat.reduceEqDiff, Nat.reduceLT, Nat.reduceAdd, Nat.reduceSub, Nat.reduceMul, Nat.reduceBEq, Int.reduceLT, Int.reduceAdd, Int.reduceMul, Int.reduceSub, Int.reduceToNat, Int.reduceLE, Int.reduceEq, ↓reduceIte, reduceCtorEq, Int.reduceNeg, Nat.reduceLeDiff]) (by simp only [AV.und, AV.unds, and_self])
  by_cases ga : 70368744177663 < a
  · simp only [inb_hi ga, Bool.false_and, Bool.true_and, Bool.and_false]
    simp (maxSteps := 1000000) (disch := omega) only [go_sem, Nat.reduceEqDiff, Nat.reduceLT, Nat.reduceAdd, Nat.reduceSub, Nat.reduceMul, Nat.reduceBEq, Int.reduceLT, Int.reduceAdd, Int.reduceMul, Int.reduceSub, Int.reduceToNat, Int.reduceLE, Int.reduceEq, ↓reduceIte, reduceCtorEq, Int.reduceNeg, Nat.reduceLeDiff,  la, ga]
    exact fin_ext (by simp) (Ext.app _ _) (by simp (maxSteps := 1000000) (disch := omega) only [resVal, resAll, resOne, rs57, Env.get, go_sem, Nat.reduceEqDiff, Nat.reduceLT, Nat.reduceAdd, Nat.reduceSub, Nat.reduceMul, Nat.reduceBEq, Int.reduceLT, Int.reduceAdd, Int.reduceMul, Int.reduceSub, Int.reduceToNat, Int.reduceLE, Int.reduceEq, ↓reduceIte, reduceCtorEq, Int.reduceNeg, Nat.reduceLeDiff]) (by simp only [AV.und, AV.unds, and_self])
  simp (maxSteps := 1000000) (disch := omega) only [go_sem, Nat.reduceEqDiff, Nat.reduceLT, Nat.reduceAdd, Nat.reduceSub, Nat.reduceMul, Nat.reduceBEq, Int.reduceLT, Int.reduceAdd, Int.reduceMul, Int.reduceSub, Int.reduceToNat, Int.reduceLE, Int.reduceEq, ↓reduceIte, reduceCtorEq, Int.reduceNeg, Nat.reduceLeDiff,  la, ga]
  rw [acs_lp]; conv in Fr.code c57l0 => unfold c57l0
  by_cases lb : b < -70368744177664
  · simp only [inb_lo lb, Bool.false_and, Bool.true_and, Bool.and_false]
    simp (maxSteps := 1000000) (disch := omega) only [go_sem, Nat.reduceEqDiff, Nat.reduceLT, Nat.reduceAdd, Nat.reduceSub, Nat.reduceMul, Nat.reduceBEq, Int.reduceLT, Int.reduceAdd, Int.reduceMul, Int.reduceSub, Int.reduceToNat, Int.reduceLE, Int.reduceEq, ↓reduceIte, reduceCtorEq, Int.reduceNeg, Nat.reduceLeDiff,  lb]
    exact fin_ext (by simp) (Ext.app _ _) (by simp (maxSteps := 1000000) (disch := omega) only [resVal, resAll, resOne, rs57, Env.get, go_sem, Nat.reduceEqDiff, Nat.reduceLT, Nat.reduceAdd, Nat.reduceSub, Nat.reduceMul, Nat.reduceBEq, Int.reduceLT, Int.reduceAdd, Int.reduceMul, Int.reduceSub, Int.reduceToNat, Int.reduceLE, Int.reduceEq, ↓reduceIte, reduceCtorEq, Int.reduceNeg, Nat.reduceLeDiff]) (by simp only [AV.und, AV.unds, and_self])
  by_cases gb : 70368744177663 < b
  · simp only [inb_hi gb, Bool.false_and, Bool.true_and, Bool.and_false]
    simp (maxSteps := 1000000) (disch := omega) only [go_sem, Nat.reduceEqDiff, Nat.reduceLT, Nat.reduceAdd, Nat.reduceSub, Nat.reduceMul, Nat.reduceBEq, Int.reduceLT, Int.reduceAdd, Int.reduceMul, Int.reduceSub, Int.reduceToNat, Int.reduceLE, Int.reduceEq, ↓reduceIte, reduceCtorEq, Int.reduceNeg, Nat.reduceLeDiff,  lb, gb]
    exact fin_ext (by simp) (Ext.app _ _) (by simp (maxSteps := 1000000) (disch := omega) only [resVal, resAll, resOne, rs57, Env.get, go_sem, Nat.reduceEqDiff, Nat.reduceLT, Nat.reduceAdd, Nat.reduceSub, Nat.reduceMul, Nat.reduceBEq, Int.reduceLT, Int.reduceAdd, Int.reduceMul, Int.reduceSub, Int.reduceToNat, Int.reduceLE, Int.reduceEq, ↓reduceIte, reduceCtorEq, Int.reduceNeg, Nat.reduceLeDiff]) (by simp only [AV.und, AV.unds, and_self])
  simp (maxSteps := 1000000) (disch := omega) only [go_sem, Nat.reduceEqDiff, Nat.reduceLT, Nat.reduceAdd, Nat.reduceSub, Nat.reduceMul, Nat.reduceBEq, Int.reduceLT, Int.reduceAdd, Int.reduceMul, Int.reduceSub, Int.reduceToNat, Int.reduceLE, Int.reduceEq, ↓reduceIte, reduceCtorEq, Int.reduceNeg, Nat.reduceLeDiff,  lb, gb]
  rw [acs_lp]; conv in Fr.code c57l0 => unfold c57l0
  by_cases lc : c < -70368744177664
  · simp only [inb_lo lc, Bool.false_and, Bool.true_and, Bool.and_false]
    simp (maxSteps := 1000000) (disch := omega) only [go_sem, Nat.reduceEqDiff, Nat.reduceLT, Nat.reduceAdd, Nat.reduceSub, Nat.reduceMul, Nat.reduceBEq, Int.reduceLT, Int.reduceAdd, Int.reduceMul, Int.reduceSub, Int.reduceToNat, Int.reduceLE, Int.reduceEq, ↓reduceIte, reduceCtorEq, Int.reduceNeg, Nat.reduceLeDiff,  lc]
    exact fin_ext (by simp) (Ext.app _ _) (by simp (maxSteps := 1000000) (disch := omega) only [resVal, resAll, resOne, rs57, Env.get, go_sem, Nat.reduceEqDiff, Nat.reduceLT, Nat.reduceAdd, Nat.reduceSub, Nat.reduceMul, Nat.reduceBEq, Int.reduceLT, Int.reduceAdd, Int.reduceMul, Int.reduceSub, Int.reduceToNat, Int.reduceLE, Int.reduceEq, ↓reduceIte, reduceCtorEq, Int.reduceNeg, Nat.reduceLeDiff]) (by simp only [AV.und, AV.unds, and_self])
  by_cases gc : 70368744177663 < c
  · simp only [inb_hi gc, Bool.false_and, Bool.true_and, Bool.and_false]
    simp (maxSteps := 1000000) (disch := omega) only [go_sem, Nat.reduceEqDiff, Nat.reduceLT, Nat.reduceAdd, Nat.reduceSub, Nat.reduceMul, Nat.reduceBEq, Int.reduceLT, Int.reduceAdd, Int.reduceMul, Int.reduceSub, Int.reduceToNat, Int.reduceLE, Int.reduceEq, ↓reduceIte, reduceCtorEq, Int.reduceNeg, Nat.reduceLeDiff,  lc, gc]
    exact fin_ext (by simp) (Ext.app _ _) (by simp (maxSteps := 1000000) (disch := omega) only [resVal, resAll, resOne, rs57, Env.get, go_sem, Nat.reduceEqDiff, Nat.reduceLT, Nat.reduceAdd, Nat.reduceSub, Nat.reduceMul, Nat.reduceBEq, Int.reduceLT, Int.reduceAdd, Int.reduceMul, Int.reduceSub, Int.reduceToNat, Int.reduceLE, Int.reduceEq, ↓reduceIte, reduceCtorEq, Int.reduceNeg, Nat.reduceLeDiff]) (by simp only [AV.und, AV.unds, and_self])
  simp (maxSteps := 1000000) (disch := omega) only [go_sem, Nat.reduceEqDiff, Nat.reduceLT, Nat.reduceAdd, Nat.reduceSub, Nat.reduceMul, Nat.reduceBEq, Int.reduceLT, Int.reduceAdd, Int.reduceMul, Int.reduceSub, Int.reduceToNat, Int.reduceLE, Int.reduceEq, ↓reduceIte, reduceCtorEq, Int.reduceNeg, Nat.reduceLeDiff,  lc, gc]
  rw [acs_lp]; conv in Fr.code c57l0 => unfold c57l0
  by_cases ld : d < -70368744177664
  · simp only [inb_lo ld, Bool.false_and, Bool.true_and, Bool.and_false]
    simp (maxSteps := 1000000) (disch := omega) only [go_sem, Nat.reduceEqDiff, Nat.reduceLT, Nat.reduceAdd, Nat.reduceSub, Nat.reduceMul, Nat.reduceBEq, Int.reduceLT, Int.reduceAdd, Int.reduceMul, Int.reduceSub, Int.reduceToNat, Int.reduceLE, Int.reduceEq, ↓reduceIte, reduceCtorEq, Int.reduceNeg, Nat.reduceLeDiff,  ld]
    exact fin_ext (by simp) (Ext.app _ _) (by simp (maxSteps := 1000000) (disch := omega) only [resVal, resAll, resOne, rs57, Env.get, go_sem, Nat.reduceEqDiff, Nat.reduceLT, Nat.reduceAdd, Nat.reduceSub, Nat.reduceMul, Nat.reduceBEq, Int.reduceLT, Int.reduceAdd, Int.reduceMul, Int.reduceSub, Int.reduceToNat, Int.reduceLE, Int.reduceEq, ↓reduceIte, reduceCtorEq, Int.reduceNeg, Nat.reduceLeDiff]) (by simp only [AV.und, AV.unds, and_self])
  by_cases gd : 70368744177663 < d
  · simp only [inb_hi gd, Bool.false_and, Bool.true_and, Bool.and_false]
    simp (maxSteps := 1000000) (disch := omega) only [go_sem, Nat.reduceEqDiff, Nat.reduceLT, Nat.reduceAdd, Nat.reduceSub, Nat.reduceMul, Nat.reduceBEq, Int.reduceLT, Int.reduceAdd, Int.reduceMul, Int.reduceSub, Int.reduceToNat, Int.reduceLE, Int.reduceEq, ↓reduceIte, reduceCtorEq, Int.reduceNeg, Nat.reduceLeDiff,  ld, gd]
    exact fin_ext (by simp) (Ext.app _ _) (by simp (maxSteps := 1000000) (disch := omega) only [resVal, resAll, resOne, rs57, Env.get, go_sem, Nat.reduceEqDiff, Nat.reduceLT, Nat.reduceAdd, Nat.reduceSub, Nat.reduceMul, Nat.reduceBEq, Int.reduceLT, Int.reduceAdd, Int.reduceMul, Int.reduceSub, Int.reduceToNat, Int.reduceLE, Int.reduceEq, ↓reduceIte, reduceCtorEq, Int.reduceNeg, Nat.reduceLeDiff]) (by simp only [AV.und, AV.unds, and_self])
  simp (maxSteps := 1000000) (disch := omega) only [go_sem, Nat.reduceEqDiff, Nat.reduceLT, Nat.reduceAdd, Nat.reduceSub, Nat.reduceMul, Nat.reduceBEq, Int.reduceLT, Int.reduceAdd, Int.reduceMul, Int.reduceSub, Int.reduceToNat, Int.reduceLE, Int.reduceEq, ↓reduceIte, reduceCtorEq, Int.reduceNeg, Nat.reduceLeDiff,  ld, gd]
  rw [acs_lp]; conv in Fr.code c57l0 => unfold c57l0
  simp (maxSteps := 1000000) (disch := omega) only [go_sem, Nat.reduceEqDiff, Nat.reduceLT, Nat.reduceAdd, Nat.reduceSub, Nat.reduceMul, Nat.reduceBEq, Int.reduceLT, Int.reduceAdd, Int.reduceMul, Int.reduceSub, Int.reduceToNat, Int.reduceLE, Int.reduceEq, ↓reduceIte, reduceCtorEq, Int.reduceNeg, Nat.reduceLeDiff]
  simp only [inb_ok la ga, inb_ok lb gb, inb_ok lc gc, inb_ok ld gd, Bool.and_self]
  exact fin_ext (by simp) (Ext.app _ _) (by simp (maxSteps := 1000000) (disch := omega) only [resVal, resAll, resOne, rs57, Env.get, go_sem, Nat.reduceEqDiff, Nat.reduceLT, Nat.reduceAdd, Nat.reduceSub, Nat.reduceMul, Nat.reduceBEq, Int.reduceLT, Int.reduceAdd, Int.reduceMul, Int.reduceSub, Int.reduceToNat, Int.reduceLE, Int.reduceEq, ↓reduceIte, reduceCtorEq, Int.reduceNeg, Nat.reduceLeDiff]) (by simp only [AV.und, AV.unds, and_self])
end Go.Proofs.Ytbjlbcihhleclaa.Ah
