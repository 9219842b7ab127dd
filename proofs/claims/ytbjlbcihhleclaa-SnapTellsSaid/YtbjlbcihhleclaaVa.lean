/- Va: a part of the proof: contracts of functions, or plain laws. Conditions: none. -/
import Derived.Test.YtbjlbcihhleclaaG15
namespace Go.Proofs.Ytbjlbcihhleclaa.Ah
open Go Go.WideShapes
attribute [local irreducible] acs aopsK drawK leave condK bindR bindD bindX guardK guardD callB callD callX callP callPv rfunG rfunK yldB yldD
attribute [local go_sem] Nat.reduceEqDiff Nat.reduceLT Nat.reduceAdd Nat.reduceSub Nat.reduceMul Nat.reduceBEq Int.reduceLT Int.reduceAdd Int.reduceMul Int.reduceSub Int.reduceToNat Int.reduceLE Int.reduceEq Int.reduceNeg Nat.reduceLeDiff
attribute [local go_sem] mop mget mfind mput mres keyed AV.isAgg beq_self_eq_true Bool.true_and Option.isSome_some List.set_cons_zero acs_nil acs_blk acs_skip acs_reg acs_dreg acs_freg acs_nam0 acs_nam nones acs_seq acs_cond acs_block acs_exit acs_ret acs_kl acs_loop leave_nil leave_code leave_lp leave_blk aopsK_nil aopsK_cons aopsK_guard bindR_val bindR_need bindR_br bindR_call bindR_ycall acs_rfun rfunG_fn bindR_bad drawK_nil drawK_cons drawK_wat bindW_val bindW_need bindW_br WatL_nil WatL_cons isP_ptr drawK_ext drawK_pur drawK_guard callPv_fn drawK_purv bindD_val bindD_need bindD_br bindD_call bindD_ycall bindD_bad bindX_val bindX_need bindX_br bindX_call guardD_bool guardD_tup grows grows0 List.append_cancel_left_eq List.cons.injEq exists_eq' exists_eq condK_bool guardK_bool guardK_tup sor r0 r1 r2 r3 rC rB rI rP rA rT rS rF rSl rO rbin rcut run1 Env.evals Env.eval Env.get Env.put Env.ins Env.del Env.dels argEnv AV.full AV.cells AV.cell eqCells decide_true decide_false decide_eq_true_eq decide_eq_false_iff_not Bool.not_eq_true' Bool.not_eq_false' true_and and_true false_implies true_implies forall_const Bool.not_true Bool.not_false Bool.false_eq_true Bool.true_eq_false List.getElem?_cons_zero List.getElem?_cons_succ List.length_cons List.length_nil List.length_append List.all_cons List.all_nil Bool.and_true Bool.and_self implies_true List.append_assoc List.cons_append List.nil_append List.append_nil i64_in imin_eq imax_eq cast3 cast0 cast1 cast2 Option.map_none ite_self and_false false_and Option.isSome_some or_true true_or Int.sub_zero Int.mul_one Nat.sub_zero Nat.zero_le Int.cast_ofNat_Int Int.natCast_nonneg Int.toNat_natCast ne_eq not_false_eq_true not_true_eq_false strC blkAt_app blkAt_app0 blkAt_zero blkAt_succ List.set_cons_zero List.set_cons_succ set_app set_app0 Option.map_some Option.bind_some rd setCells lay rdS szOk rapp ownAt lenAt Option.any_some Option.getD_some List.drop_zero List.drop_succ_cons List.take_succ_cons List.take_zero List.drop_nil List.take_nil Nat.lt_irrefl Nat.zero_add Nat.add_zero Nat.mul_one Nat.one_mul Nat.add_assoc Option.some.injEq eq_self
set_option maxHeartbeats 8000000
set_option linter.unusedSimpArgs false
set_option linter.unusedVariables false
def i64 (n : Int) : AV := .int .i64 n
def InB (a : Int) : Prop := -70368744177664 ≤ a ∧ a ≤ 70368744177663
def inb (a : Int) : Bool := decide (-70368744177664 ≤ a ∧ a ≤ 70368744177663)
theorem inb_iff {a : Int} : inb a = true ↔ InB a := by unfold inb InB; exact decide_eq_true_iff
def cl (a : Int) : Int := if a < -70368744177664 then -70368744177664 else if 70368744177663 < a then 70368744177663 else a
def ov (a : Int) : Bool := !decide (cl a = a)
theorem f50 {a : Int} {H : Heap} : ACall Try.prog 50 [.int .i64 a] H (.bool (inb a)) H := by
  refine acall50 (by simp) (acs_start ?_)
  unfold c50
  by_cases h : -70368744177664 ≤ a
  · simp (maxSteps:=1000000) (disch:=omega) only [go_sem, ↓reduceIte, reduceCtorEq, h]
    exact fin_b _ (by first | exact (List.append_nil _).symm | rfl) (by simp) (by simp (maxSteps:=1000000) (disch:=omega) only [resVal, resAll, resOne, rs50, Env.get, go_sem, ↓reduceIte, reduceCtorEq] <;> rfl) (by unfold inb; rw [Bool.eq_iff_iff]; (try simp only [decide_eq_true_eq, Bool.and_eq_true, Bool.or_eq_true, Bool.not_eq_true', decide_eq_false_iff_not, Bool.true_eq_false, Bool.false_eq_true, true_iff, iff_true, false_iff, iff_false, not_false_eq_true, not_true_eq_false]); first | done | omega | (simp; done) | (rw [Bool.eq_iff_iff]; (try simp only [decide_eq_true_eq, Bool.and_eq_true, Bool.or_eq_true, Bool.not_eq_true', decide_eq_false_iff_not, Bool.true_eq_false, Bool.false_eq_true, true_iff, iff_true, false_iff, iff_false, not_false_eq_true, not_true_eq_false]); omega) | (simp; omega))
  · simp (maxSteps:=1000000) (disch:=omega) only [go_sem, ↓reduceIte, reduceCtorEq, h]
    exact fin_b _ (by first | exact (List.append_nil _).symm | rfl) (by simp) (by simp (maxSteps:=1000000) (disch:=omega) only [resVal, resAll, resOne, rs50, Env.get, go_sem, ↓reduceIte, reduceCtorEq] <;> rfl) (by unfold inb; rw [Bool.eq_iff_iff]; (try simp only [decide_eq_true_eq, Bool.and_eq_true, Bool.or_eq_true, Bool.not_eq_true', decide_eq_false_iff_not, Bool.true_eq_false, Bool.false_eq_true, true_iff, iff_true, false_iff, iff_false, not_false_eq_true, not_true_eq_false]); first | done | omega | (simp; done) | (rw [Bool.eq_iff_iff]; (try simp only [decide_eq_true_eq, Bool.and_eq_true, Bool.or_eq_true, Bool.not_eq_true', decide_eq_false_iff_not, Bool.true_eq_false, Bool.false_eq_true, true_iff, iff_true, false_iff, iff_false, not_false_eq_true, not_true_eq_false]); omega) | (simp; omega))
theorem f81 {a : Int} {H : Heap} : ACall Try.prog 81 [.int .i64 a] H (.bool (!inb a)) H := by
  refine acall81 (by simp) (acs_start ?_)
  unfold c81
  by_cases h : a < -70368744177664
  · simp (maxSteps:=1000000) (disch:=omega) only [go_sem, ↓reduceIte, reduceCtorEq, h]
    exact fin_b _ (by first | exact (List.append_nil _).symm | rfl) (by simp) (by simp (maxSteps:=1000000) (disch:=omega) only [resVal, resAll, resOne, rs81, Env.get, go_sem, ↓reduceIte, reduceCtorEq] <;> rfl) (by unfold inb; rw [Bool.eq_iff_iff]; (try simp only [decide_eq_true_eq, Bool.and_eq_true, Bool.or_eq_true, Bool.not_eq_true', decide_eq_false_iff_not, Bool.true_eq_false, Bool.false_eq_true, true_iff, iff_true, false_iff, iff_false, not_false_eq_true, not_true_eq_false]); first | done | omega | (simp; done) | (rw [Bool.eq_iff_iff]; (try simp only [decide_eq_true_eq, Bool.and_eq_true, Bool.or_eq_true, Bool.not_eq_true', decide_eq_false_iff_not, Bool.true_eq_false, Bool.false_eq_true, true_iff, iff_true, false_iff, iff_false, not_false_eq_true, not_true_eq_false]); omega) | (simp; omega))
  · simp (maxSteps:=1000000) (disch:=omega) only [go_sem, ↓reduceIte, reduceCtorEq, h]
    exact fin_b _ (by first | exact (List.append_nil _).symm | rfl) (by simp) (by simp (maxSteps:=1000000) (disch:=omega) only [resVal, resAll, resOne, rs81, Env.get, go_sem, ↓reduceIte, reduceCtorEq] <;> rfl) (by unfold inb; rw [Bool.eq_iff_iff]; (try simp only [decide_eq_true_eq, Bool.and_eq_true, Bool.or_eq_true, Bool.not_eq_true', decide_eq_false_iff_not, Bool.true_eq_false, Bool.false_eq_true, true_iff, iff_true, false_iff, iff_false, not_false_eq_true, not_true_eq_false]); first | done | omega | (simp; done) | (rw [Bool.eq_iff_iff]; (try simp only [decide_eq_true_eq, Bool.and_eq_true, Bool.or_eq_true, Bool.not_eq_true', decide_eq_false_iff_not, Bool.true_eq_false, Bool.false_eq_true, true_iff, iff_true, false_iff, iff_false, not_false_eq_true, not_true_eq_false]); omega) | (simp; omega))

def rowL (q : Nat → Nat → Int) (c i : Nat) : List Int := (List.range c).map (q i)
def matL (q : Nat → Nat → Int) (r c : Nat) : List Int := (List.range r).flatMap (rowL q c)
def rowO (b : Nat → Nat → Bool) (c i : Nat) : Bool := (List.range c).any (b i)
def matO (b : Nat → Nat → Bool) (r c : Nat) : Bool := (List.range r).any (rowO b c)
def Md (H : Heap) (R C : Int) (l : List Int) (H' : Heap) : Prop := Ext H H' ∧ blkAt H' H.length = some ⟨[.int .i64 R, .int .i64 C], true⟩ ∧ blkAt H' (H.length + 1) = some ⟨[.int .i64 0, .int .i64 0, .nils], true⟩ ∧
  ∃ w, blkAt H' (H.length + 2) = some ⟨[.int .i64 R, .int .i64 C, w], true⟩ ∧ ((l = [] ∧ w = .nils) ∨ ∃ p, w = .sl p 0 l.length 1 none ∧ H.length + 3 ≤ p ∧ blkAt H' p = some ⟨l.map i64, true⟩)
theorem rowL_succ (q : Nat → Nat → Int) (c i : Nat) : rowL q (c + 1) i = rowL q c i ++ [q i c] := by unfold rowL; rw [List.range_succ, List.map_append]; rfl
theorem matL_succ (q : Nat → Nat → Int) (r c : Nat) : matL q (r + 1) c = matL q r c ++ rowL q c r := by unfold matL; rw [List.range_succ, List.flatMap_append]; simp
theorem rowO_succ (b : Nat → Nat → Bool) (c i : Nat) : rowO b (c + 1) i = (rowO b c i || b i c) := by unfold rowO; rw [List.range_succ, List.any_append]; simp
theorem matO_succ (b : Nat → Nat → Bool) (r c : Nat) : matO b (r + 1) c = (matO b r c || rowO b c r) := by unfold matO; rw [List.range_succ, List.any_append]; simp
theorem rowL_len (q : Nat → Nat → Int) (c i : Nat) : (rowL q c i).length = c := by simp [rowL]
theorem matL_len (q : Nat → Nat → Int) (r c : Nat) : (matL q r c).length = r * c := by
  induction r with
  | zero => simp [matL]
  | succ r ih => rw [matL_succ, List.length_append, ih, rowL_len, Nat.succ_mul]
theorem takeMapI (l : List Int) : List.take l.length (l.map i64) = l.map i64 := by rw [List.take_of_length_le]; simp
theorem Md.step0 {H H' : Heap} {R C x : Int} (h : Md H R C [] H') : Md H R C [x] (H'.set (H.length + 2) (some ⟨[.int .i64 R, .int .i64 C, .sl (H'.length + 1) 0 1 1 none], true⟩) ++ [some ⟨[.int .i64 x], true⟩, some ⟨[.int .i64 x], true⟩]) := by
  obtain ⟨hx, m0, m1, w, m2, hw⟩ := h
  have b0 := blkAt_lt m0
  have b1 := blkAt_lt m1
  have b2 := blkAt_lt m2
  refine ⟨(hx.set (by omega) _).to _, ?_, ?_, _, ?_, .inr ⟨H'.length + 1, rfl, by omega, ?_⟩⟩
  · rw [blkAt_lo _ (by rw [List.length_set]; exact b0), blkAt_set_ne (by omega)]; exact m0
  · rw [blkAt_lo _ (by rw [List.length_set]; exact b1), blkAt_set_ne (by omega)]; exact m1
  · rw [blkAt_lo _ (by rw [List.length_set]; exact b2), blkAt_set_self b2]; rfl
  · have := blkAt_app (H'.set (H.length + 2) (some ⟨[.int .i64 R, .int .i64 C, .sl (H'.length + 1) 0 1 1 none], true⟩)) [some ⟨[.int .i64 x], true⟩, some ⟨[.int .i64 x], true⟩] 1
    rw [List.length_set] at this
    rw [this]
    rfl
theorem Md.step {H H' : Heap} {R C x : Int} {l : List Int} {p : Nat} {A : Option Blk} (hx : Ext H H') (m0 : blkAt H' H.length = some ⟨[.int .i64 R, .int .i64 C], true⟩) (m1 : blkAt H' (H.length + 1) = some ⟨[.int .i64 0, .int .i64 0, .nils], true⟩) (b2 : H.length + 2 < H'.length) (hp : H.length + 3 ≤ p) :
    Md H R C (l ++ [x]) ((H'.set p none).set (H.length + 2) (some ⟨[.int .i64 R, .int .i64 C, .sl (H'.length + 1) 0 (l.length + 1) 1 none], true⟩) ++ [A, some ⟨l.map i64 ++ [.int .i64 x], true⟩]) := by
  have b0 := blkAt_lt m0
  have b1 := blkAt_lt m1
  refine ⟨((hx.set (by omega) _).set (by omega) _).to _, ?_, ?_, _, ?_, .inr ⟨H'.length + 1, rfl, by omega, ?_⟩⟩
  · rw [blkAt_lo _ (by rw [List.length_set, List.length_set]; exact b0), blkAt_set_ne (by omega), blkAt_set_ne (by omega)]; exact m0
  · rw [blkAt_lo _ (by rw [List.length_set, List.length_set]; exact b1), blkAt_set_ne (by omega), blkAt_set_ne (by omega)]; exact m1
  · rw [blkAt_lo _ (by rw [List.length_set, List.length_set]; exact b2), blkAt_set_self (by rw [List.length_set]; exact b2)]; rw [List.length_append]; rfl
  · have := blkAt_app ((H'.set p none).set (H.length + 2) (some ⟨[.int .i64 R, .int .i64 C, .sl (H'.length + 1) 0 (l.length + 1) 1 none], true⟩)) [A, some ⟨l.map i64 ++ [.int .i64 x], true⟩] 1
    rw [List.length_set, List.length_set] at this
    rw [this, List.map_append]
    rfl
abbrev e84 (f r : Nat) (ys : List AV) (L : Nat) (o : Bool) (i : Nat) : Env := [(1, .fn (.func f) [] ys), (2, .ptr L 0), (4, .ptr (L + 1) 0), (6, .ptr (L + 2) 0), (7, .bool o), (18, .int .i64 (r : Nat)), (19, .int .i64 (i : Nat))]
theorem f84_in {r c f : Nat} {ys : List AV} {q : Nat → Nat → Int} {b : Nat → Nat → Bool} {H : Heap} {K : List Fr} {Q : Post} (hr : 0 < r ∧ r ≤ 8) (hc : 0 < c ∧ c ≤ 8) (hf : hasBody Try.prog f = true)
    (ht : ∀ H' i k, Ext H H' → i < r → k < c → ACall Try.prog f (.int .i64 (i : Nat) :: .int .i64 (k : Nat) :: ys) H' (.tup [.int .i64 (q i k), .bool (b i k)]) H')
    {i : Nat} (hi : i < r) {o0 : Bool} {l0 : List Int} (hl0 : l0.length ≤ 1000)
    (next : ∀ H', Md H r c (l0 ++ rowL q c i) H' → acs Try.prog K (e84 f r ys H.length (o0 || rowO b c i) i) H' Q) (H' : Heap) (hm : Md H r c l0 H') :
    acs Try.prog (.lp c84l0 :: .blk 2 :: K) [(1, .fn (.func f) [] ys), (2, .ptr H.length 0), (4, .ptr (H.length + 1) 0), (6, .ptr (H.length + 2) 0), (7, .bool o0), (8, .int .i64 (i : Nat)), (18, .int .i64 (r : Nat)), (19, .int .i64 (i : Nat)), (23, .int .i64 (c : Nat)), (24, .int .i64 0)] H' Q := by
  refine loop_nat (fun k T H' => ∃ j : Nat, T = [(1, .fn (.func f) [] ys), (2, .ptr H.length 0), (4, .ptr (H.length + 1) 0), (6, .ptr (H.length + 2) 0), (7, .bool (o0 || rowO b j i)), (8, .int .i64 (i : Nat)), (18, .int .i64 (r : Nat)), (19, .int .i64 (i : Nat)), (23, .int .i64 (c : Nat)), (24, .int .i64 (j : Nat))] ∧ j + k = c ∧ Md H r c (l0 ++ rowL q j i) H') ?_ ?_ c _ _ ⟨0, by simp [rowO], by omega, by simpa [rowL] using hm⟩
  · rintro k T H' ⟨j, rfl, hj, hx, m0, m1, w, m2, hw⟩ nx
    have hjc : (j : Int) < (c : Int) := by omega
    have g := fun G => ht (H' ++ G) i j (hx.to G) hi (by omega)
    have b0 := blkAt_lt m0
    have b1 := blkAt_lt m1
    have b2 := blkAt_lt m2
    have so : (o0 || rowO b (j + 1) i) = ((o0 || rowO b j i) || b i j) := by rw [rowO_succ, Bool.or_assoc]
    have sl : l0 ++ rowL q (j + 1) i = (l0 ++ rowL q j i) ++ [q i j] := by rw [rowL_succ, List.append_assoc]
    have ll : (l0 ++ rowL q j i).length ≤ 1010 := by rw [List.length_append, rowL_len]; omega
    generalize l0 ++ rowL q j i = l at *
    generalize (o0 || rowO b j i) = o at *
    rcases hw with ⟨rfl, rfl⟩ | ⟨p, rfl, hp, hb⟩
    · rw [acs_lp]; conv in Fr.code c84l0 => unfold c84l0
      simp (maxSteps:=1000000) (disch:=omega) only [go_sem, ↓reduceIte, reduceCtorEq, hjc, hf]
      have g0 := g []
      rw [List.append_nil] at g0
      first | refine callB_intro (g0) ?_ | refine callD_intro (g0) ?_ | refine callP_intro (fun _ => (g0)) ?_ | refine callX_pure (g0) ?_
      have big : 1 * 8 ≤ 140737488355328 := by omega
      cases o
      all_goals
        simp (maxSteps:=1000000) (disch:=omega) only [go_sem, ↓reduceIte, reduceCtorEq, m2, b2, blkAt_lo, set_lo, List.length_set]
        refine nx _ _ ⟨j + 1, ?_, by omega, ?_⟩
        · rw [so]; simp
        rw [sl]
        exact Md.step0 ⟨hx, m0, m1, _, m2, .inl ⟨rfl, rfl⟩⟩
    · rw [acs_lp]; conv in Fr.code c84l0 => unfold c84l0
      simp (maxSteps:=1000000) (disch:=omega) only [go_sem, ↓reduceIte, reduceCtorEq, hjc, hf]
      have g0 := g []
      rw [List.append_nil] at g0
      first | refine callB_intro (g0) ?_ | refine callD_intro (g0) ?_ | refine callP_intro (fun _ => (g0)) ?_ | refine callX_pure (g0) ?_
      have bp := blkAt_lt hb
      have big : (l.length + 1) * 8 ≤ 140737488355328 := by omega
      have htk := takeMapI l
      have m2' : blkAt (H'.set p none) (H.length + 2) = some ⟨[.int .i64 (r : Nat), .int .i64 (c : Nat), .sl p 0 l.length 1 none], true⟩ := by rw [blkAt_set_ne (by omega)]; exact m2
      have b2' : H.length + 2 < (H'.set p none).length := by rw [List.length_set]; exact b2
      cases o
      all_goals
        simp (maxSteps:=1000000) (disch:=omega) only [go_sem, ↓reduceIte, reduceCtorEq, m2, m2', b2, hb, bp, big, htk, blkAt_lo, set_lo, List.length_set, List.length_map, Nat.le_refl]
        refine nx _ _ ⟨j + 1, ?_, by omega, ?_⟩
        · rw [so]; simp
        rw [sl]
        exact Md.step hx m0 m1 b2 hp
  · rintro T H' ⟨j, rfl, hj, hm⟩
    obtain rfl : j = c := hj
    have go := next H' hm
    rw [acs_lp]; conv in Fr.code c84l0 => unfold c84l0
    simp (maxSteps:=1000000) (disch:=omega) only [go_sem, ↓reduceIte, reduceCtorEq, Int.lt_irrefl]
    exact go
theorem f84 {r c f : Nat} {ys : List AV} {q : Nat → Nat → Int} {b : Nat → Nat → Bool} {H : Heap} (hr : 0 < r ∧ r ≤ 8) (hc : 0 < c ∧ c ≤ 8) (hf : hasBody Try.prog f = true)
    (ht : ∀ H' i k, Ext H H' → i < r → k < c → ACall Try.prog f (.int .i64 (i : Nat) :: .int .i64 (k : Nat) :: ys) H' (.tup [.int .i64 (q i k), .bool (b i k)]) H') :
    ACallE Try.prog 84 [.agg [.int .i64 (r : Nat), .int .i64 (c : Nat)], .fn (.func f) [] ys] H fun v H' => ∃ w, v = .tup [.agg [.int .i64 (r : Nat), .int .i64 (c : Nat), w], .bool (matO b r c)] ∧ Rw i64 H' w (matL q r c) ∧ ∃ p n, w = .sl p 0 n 1 none ∧ H.length ≤ p := by
  refine acallE (fun v Hf h => acallK84 (by simp) h) (acs_start ?_)
  unfold c84
  simp (maxSteps:=1000000) (disch:=omega) only [go_sem, ↓reduceIte, reduceCtorEq]
  refine loop_nat (fun k T H' => ∃ i : Nat, T = e84 f r ys H.length (matO b i c) i ∧ i + k = r ∧ Md H r c (matL q i c) H') ?_ ?_ r _ _ ⟨0, by simp [e84, matO], by omega, ?_⟩
  · rintro k T H' ⟨i, rfl, hi, hm⟩ nx
    have hir : (i : Int) < (r : Int) := by omega
    have hl : (matL q i c).length ≤ 1000 := by
      rw [matL_len]
      have : i * c ≤ 8 * 8 := Nat.mul_le_mul (by omega) (by omega)
      omega
    have go := fun K Q nn => f84_in (K := K) (Q := Q) hr hc hf ht (i := i) (by omega) (o0 := matO b i c) hl nn H' hm
    obtain ⟨hx, m0, m1, w, m2, hw⟩ := hm
    have b0 := blkAt_lt m0
    unfold e84
    rw [acs_lp]; conv in Fr.code c84l1 => unfold c84l1
    simp (maxSteps:=1000000) (disch:=omega) only [go_sem, ↓reduceIte, reduceCtorEq, hir, m0, b0]
    refine go _ _ fun H2 hm2 => ?_
    unfold e84
    simp (maxSteps:=1000000) (disch:=omega) only [go_sem, ↓reduceIte, reduceCtorEq]
    refine nx _ _ ⟨i + 1, ?_, by omega, ?_⟩
    · rw [matO_succ]; simp [e84]
    · rw [matL_succ]; exact hm2
  · rintro T H' ⟨i, rfl, hi, hm⟩
    obtain rfl : i = r := hi
    obtain ⟨hx, m0, m1, w, m2, hw⟩ := hm
    have b1 := blkAt_lt m1
    have b2 := blkAt_lt m2
    have hl : 0 < (matL q i c).length := by rw [matL_len]; exact Nat.mul_pos hr.1 hc.1
    rcases hw with ⟨h, _⟩ | ⟨p, rfl, hp, hb⟩
    · rw [h] at hl; simp at hl
    unfold e84
    rw [acs_lp]; conv in Fr.code c84l1 => unfold c84l1
    simp (maxSteps:=1000000) (disch:=omega) only [go_sem, ↓reduceIte, reduceCtorEq, Int.lt_irrefl, m1, b1, m2, b2]
    refine fin_e (by simp) (by simp (maxSteps:=1000000) (disch:=omega) only [resVal, resAll, resOne, rs84, Env.get, go_sem, ↓reduceIte, reduceCtorEq, blkAt_set_self b1] <;> rfl) (hx.set (by omega) _) ⟨_, rfl, Rw.mk _ (Sl.whole (o := true) (by rw [blkAt_set_ne (by omega)]; exact hb)), _, _, rfl, by omega⟩
  · refine ⟨⟨_, rfl⟩, ?_, ?_, .nils, ?_, .inl ⟨rfl, rfl⟩⟩
    · simp only [go_sem, ↓reduceIte, reduceCtorEq]
    · simp only [go_sem, ↓reduceIte, reduceCtorEq]
    · simp only [go_sem, ↓reduceIte, reduceCtorEq]

structure Mx where
  r : Nat
  c : Nat
  l : List Int
  p : Nat
  off : Nat
  k : Option Nat
def Mx.av (m : Mx) : List AV := [.int .i64 (m.r : Nat), .int .i64 (m.c : Nat), .sl m.p m.off m.l.length 1 m.k]
structure Mx.ok (m : Mx) (H : Heap) : Prop where
  hr : 0 < m.r ∧ m.r ≤ 8
  hc : 0 < m.c ∧ m.c ≤ 8
  hl : m.l.length = m.r * m.c
  hb : ∀ x ∈ m.l, InB x
  hs : Sl i64 H m.p m.off m.l
theorem Mx.ok.ext {m : Mx} {H H' : Heap} (h : m.ok H) (hx : Ext H H') : m.ok H' := ⟨h.hr, h.hc, h.hl, h.hb, hx.sl h.hs⟩
theorem Mx.ok.app {m : Mx} {H : Heap} (h : m.ok H) (G : Heap) : m.ok (H ++ G) := h.ext (.app _ _)
theorem mav_len (m : Mx) : m.av.length = 3 := rfl
theorem mav_all (m : Mx) : m.av.all AV.cell = true := rfl
theorem mav_take (m : Mx) : List.take 3 m.av = m.av := rfl
def Mx.at (m : Mx) (i k : Nat) : Int := m.l.getD (i * m.c + k) 0
theorem ix_lt {i k r c : Nat} (hi : i < r) (hk : k < c) : i * c + k < r * c := by
  have h1 : (i + 1) * c ≤ r * c := Nat.mul_le_mul_right c (by omega)
  rw [Nat.succ_mul] at h1
  omega
theorem ix_le {r c : Nat} (hr : r ≤ 8) (hc : c ≤ 8) : r * c ≤ 64 := Nat.mul_le_mul hr hc
theorem f86 {m : Mx} {i k : Nat} {H : Heap} (h : m.ok H) (hi : i < m.r) (hk : k < m.c) : ACall Try.prog 86 [.agg m.av, .int .i64 (i : Nat), .int .i64 (k : Nat)] H (.int .i64 (m.at i k)) H := by
  refine acall86 (by simp) (acs_start ?_)
  have hlt : i * m.c + k < m.l.length := by rw [h.hl]; exact ix_lt hi hk
  have h64 : m.l.length ≤ 64 := by rw [h.hl]; exact ix_le h.hr.2 h.hc.2
  have e1 : IntKind.i64.wrap ((i : Int) * (m.c : Int)) = ((i * m.c : Nat) : Int) := by rw [← Int.natCast_mul]; exact i64_in _ (by omega)
  have e2 : IntKind.i64.wrap (((i * m.c : Nat) : Int) + (k : Int)) = ((i * m.c + k : Nat) : Int) := by rw [← Int.natCast_add]; exact i64_in _ (by omega)
  obtain ⟨cs, o, hp, hle, hcs⟩ := h.hs
  have hpl := blkAt_lt hp
  have fx : cs[m.off + (i * m.c + k)]? = some (.int .i64 (m.at i k)) := by
    have hg : m.l[i * m.c + k]? = some (m.at i k) := by
      unfold Mx.at
      rw [List.getD_eq_getElem?_getD, List.getElem?_eq_getElem hlt]
      rfl
    exact sl_get hcs hg
  have hix : ((i * m.c + k : Nat) : Int) < (m.l.length : Int) := by omega
  have a1 := mav_len m
  have a2 := mav_all m
  have a3 : m.av[2]? = some (.sl m.p m.off m.l.length 1 m.k) := rfl
  have a4 : m.av[1]? = some (.int .i64 (m.c : Nat)) := rfl
  generalize i * m.c + k = n at *
  unfold c86
  simp (maxSteps:=1000000) (disch:=omega) only [go_sem, ↓reduceIte, reduceCtorEq, a1, a2, a3, a4, e1, e2, hix, blkAt_lo, hpl, hp, fx]
  exact fin_same (by simp) _ (by first | exact (List.append_nil _).symm | rfl) (by simp (maxSteps:=1000000) (disch:=omega) only [resVal, resAll, resOne, rs86, Env.get, go_sem, ↓reduceIte, reduceCtorEq]) (by simp only [AV.und, AV.unds, and_self])
theorem f85 {m : Mx} {i k b : Nat} {o : Bool} {H : Heap} (h : m.ok H) (hi : i < m.c) (hk : k < m.r) (hb : blkAt H b = some ⟨m.av, o⟩) : ACall Try.prog 85 [.int .i64 (i : Nat), .int .i64 (k : Nat), .ptr b 0] H (.tup [.int .i64 (m.at k i), .bool false]) H := by
  refine acall85 (by simp) (acs_start ?_)
  have g := fun G => f86 (h.app G) hk hi
  have a1 := mav_len m
  have a2 := mav_all m
  have a3 := mav_take m
  have bl := blkAt_lt hb
  have g0 := f86 h hk hi
  unfold c85
  simp (maxSteps:=1000000) (disch:=omega) only [go_sem, ↓reduceIte, reduceCtorEq, a1, a2, a3, bl, hb]
  first | refine callB_intro (g0) ?_ | refine callD_intro (g0) ?_ | refine callP_intro (fun _ => (g0)) ?_ | refine callX_pure (g0) ?_
  simp (maxSteps:=1000000) (disch:=omega) only [go_sem, ↓reduceIte, reduceCtorEq]
  exact fin_same (by simp) _ (by first | exact (List.append_nil _).symm | rfl) (by simp (maxSteps:=1000000) (disch:=omega) only [resVal, resAll, resOne, rs85, Env.get, go_sem, ↓reduceIte, reduceCtorEq]) (by simp only [AV.und, AV.unds, and_self])
theorem hb85 : hasBody Try.prog 85 = true := by kernel_rfl
theorem Sl.app_set {α : Type} {f : α → AV} {H : Heap} {p off : Nat} {zs : List α} (hs : Sl f H p off zs) {G : Heap} {b : Nat} (hb : H.length ≤ b) (x : Option Blk) : Sl f ((H ++ G).set b x) p off zs :=
  (hs.app G).set (by have := hs.lt; omega) x
theorem Mx.ok.app_set {m : Mx} {H : Heap} (h : m.ok H) {G : Heap} {b : Nat} (hb : H.length ≤ b) (x : Option Blk) : m.ok ((H ++ G).set b x) := ⟨h.hr, h.hc, h.hl, h.hb, h.hs.app_set hb x⟩
theorem blkAt_los {p b : Nat} {H : Heap} (G : Heap) (x : Option Blk) (h : p < H.length) : blkAt (H.set b x ++ G) p = blkAt (H.set b x) p := blkAt_lo G (by rw [List.length_set]; exact h)
theorem Rw.app {α : Type} {f : α → AV} {H : Heap} {v : AV} {zs : List α} (h : Rw f H v zs) (G : Heap) : Rw f (H ++ G) v zs := h.ext (.app _ _)
theorem f73 {m : Mx} {H : Heap} (h : m.ok H) : ACallE Try.prog 73 [.agg m.av] H fun v H' => ∃ w, v = .agg [.int .i64 (m.c : Nat), .int .i64 (m.r : Nat), w] ∧ Rw i64 H' w (matL (fun i k => m.at k i) m.c m.r) := by
  refine acallE (fun v Hf h => acallK73 (by simp) h) (acs_start ?_)
  have a1 := mav_len m
  have a2 := mav_all m
  have a3 : m.av[0]? = some (.int .i64 (m.r : Nat)) := rfl
  have a4 : m.av[1]? = some (.int .i64 (m.c : Nat)) := rfl
  have g27 := fun (G : Heap) => f84 (f := 85) (H := (H ++ (some ⟨m.av, true⟩ :: G)).set (H.length + 1) none) (ys := [.ptr H.length 0]) (q := fun i k => m.at k i) (b := fun _ _ => false) h.hc h.hr hb85
    (fun H' i k hx hi hk => f85 (o := true) ((h.app_set (by omega) _).ext hx) hi hk (hx.blk (by rw [blkAt_set_ne (by omega)]; simp only [go_sem, ↓reduceIte, reduceCtorEq])))
  unfold c73
  simp (maxSteps:=1000000) (disch:=omega) only [go_sem, ↓reduceIte, reduceCtorEq, a1, a2, a3, a4]
  first | refine callBE (ACallE.frame (b := H.length + 1) (x := ⟨[.int .i64 0, .int .i64 0, .nils], true⟩) (by simp only [go_sem, ↓reduceIte, reduceCtorEq]) rfl (g27 _)) ?_ | refine callDE (ACallE.frame (b := H.length + 1) (x := ⟨[.int .i64 0, .int .i64 0, .nils], true⟩) (by simp only [go_sem, ↓reduceIte, reduceCtorEq]) rfl (g27 _)) ?_ | refine callXE (ACallE.frame (b := H.length + 1) (x := ⟨[.int .i64 0, .int .i64 0, .nils], true⟩) (by simp only [go_sem, ↓reduceIte, reduceCtorEq]) rfl (g27 _)) ?_
  rintro v H1 hx ⟨b1, w, rfl, hw, _⟩
  obtain ⟨p, off, kk, rfl, hs⟩ := hw
  have bl1 := blkAt_lt b1
  have ok2 := fun y => hs.unset (some ⟨y, true⟩)
  simp (maxSteps:=1000000) (disch:=omega) only [go_sem, ↓reduceIte, reduceCtorEq, b1, bl1, blkAt_lo, set_lo, List.length_set]
  refine fin_e (by simp) (by simp (maxSteps:=1000000) (disch:=omega) only [resVal, resAll, resOne, rs73, Env.get, go_sem, ↓reduceIte, reduceCtorEq, b1, bl1, blkAt_los, blkAt_lo, set_lo, List.length_set, blkAt_set_self] <;> rfl) ((((Ext.app _ _).trans hx).set (by omega) _).to _) ⟨_, rfl, (Rw.mk _ (ok2 _)).app _⟩

theorem drop_cons {α : Type} {xs : List α} {j : Nat} {x : α} {r : List α} (h : xs.drop j = x :: r) : xs[j]? = some x ∧ xs.drop (j + 1) = r ∧ j < xs.length := by
  refine ⟨by have := congrArg (·[0]?) h; simpa using this, by rw [← List.drop_drop, h]; rfl, ?_⟩
  rcases Nat.lt_or_ge j xs.length with g | g
  · exact g
  · rw [List.drop_of_length_le g] at h; cases h
def ixo : List Int → Int → Int
  | [], _ => -1
  | x :: r, j => if inb x then ixo r (j + 1) else j
theorem ixo_nil (j : Int) : ixo [] j = -1 := rfl
theorem ixo_cons (x : Int) (r : List Int) (j : Int) : ixo (x :: r) j = if inb x then ixo r (j + 1) else j := rfl
theorem ixo_all : ∀ (l : List Int) (j : Int), 0 ≤ j → (decide (0 ≤ ixo l j)) = !(l.all inb)
  | [], j, h => rfl
  | x :: r, j, h => by
    unfold ixo
    cases hx : inb x with
    | true => rw [if_pos rfl, ixo_all r (j + 1) (by omega)]; simp [hx]
    | false => rw [if_neg (by simp)]; simp [hx, h]
theorem hb81 : hasBody Try.prog 81 = true := by kernel_rfl
theorem f87 {l : List Int} {p off : Nat} {k : Option Nat} {H : Heap} (hs : Sl i64 H p off l) (hl : l.length ≤ 4611686018427387904) : ACall Try.prog 87 [.sl p off l.length 1 k, .fn (.func 81) [] []] H (.int .i64 (ixo l 0)) H := by
  refine acall87 (by simp) (acs_start ?_)
  obtain ⟨cs, o, hp, hle, hcs⟩ := hs
  have hpl := blkAt_lt hp
  have g := fun x => f81 (a := x) (H := H)
  unfold c87
  simp (maxSteps:=1000000) (disch:=omega) only [go_sem, ↓reduceIte, reduceCtorEq]
  refine loop_list (fun r T H' => ∃ j : Nat, T = [(0, .sl p off l.length 1 k), (1, .fn (.func 81) [] []), (7, .int .i64 (l.length : Nat)), (8, .int .i64 (j : Nat))] ∧ H' = H ∧ l.drop j = r ∧ j + r.length = l.length ∧ ixo l 0 = ixo r j) ?_ ?_ l _ _ ⟨0, rfl, rfl, rfl, by simp, rfl⟩
  · rintro x r T H' ⟨j, rfl, rfl, hd, hj, hi⟩ nx
    obtain ⟨h1, h2, h3⟩ := drop_cons hd
    have hjl : (j : Int) < (l.length : Int) := by omega
    have fx : cs[off + j]? = some (.int .i64 x) := sl_get hcs h1
    have hi0 := hi
    rw [hi]
    rw [acs_lp]; conv in Fr.code c87l0 => unfold c87l0
    simp (maxSteps:=1000000) (disch:=omega) only [go_sem, ↓reduceIte, reduceCtorEq, hjl, hpl, hp, fx, hb81]
    first | refine callB_intro (g _) ?_ | refine callD_intro (g _) ?_ | refine callP_intro (fun _ => (g _)) ?_ | refine callX_pure (g _) ?_
    cases hx : inb x with
    | true =>
      have e1 : ixo (x :: r) (j : Int) = ixo r ((j + 1 : Nat) : Int) := by rw [ixo_cons, hx]; rfl
      rw [e1]
      rw [e1] at hi
      simp (maxSteps:=1000000) (disch:=omega) only [go_sem, ↓reduceIte, reduceCtorEq]
      rw [← hi]
      refine nx _ _ ⟨j + 1, ?_, rfl, h2, by simp at hj; omega, hi⟩
      simp
    | false =>
      have e1 : ixo (x :: r) (j : Int) = (j : Int) := by rw [ixo_cons, hx]; rfl
      rw [e1]
      simp (maxSteps:=1000000) (disch:=omega) only [go_sem, ↓reduceIte, reduceCtorEq]
      exact fin_same (by simp) _ (by first | exact (List.append_nil _).symm | rfl) (by simp (maxSteps:=1000000) (disch:=omega) only [resVal, resAll, resOne, rs87, Env.get, go_sem, ↓reduceIte, reduceCtorEq]) (by simp only [AV.und, AV.unds, and_self])
  · rintro T H' ⟨j, rfl, rfl, hd, hj, hi⟩
    obtain rfl : j = l.length := by simpa using hj
    rw [hi, ixo_nil]
    rw [acs_lp]; conv in Fr.code c87l0 => unfold c87l0
    simp (maxSteps:=1000000) (disch:=omega) only [go_sem, ↓reduceIte, reduceCtorEq, Int.lt_irrefl]
    exact fin_same (by simp) _ (by first | exact (List.append_nil _).symm | rfl) (by simp (maxSteps:=1000000) (disch:=omega) only [resVal, resAll, resOne, rs87, Env.get, go_sem, ↓reduceIte, reduceCtorEq]) (by simp only [AV.und, AV.unds, and_self])
theorem f77 {l : List Int} {p off : Nat} {k : Option Nat} {H : Heap} (hs : Sl i64 H p off l) (hl : l.length ≤ 4611686018427387904) : ACall Try.prog 77 [.sl p off l.length 1 k, .fn (.func 81) [] []] H (.bool (!(l.all inb))) H := by
  refine acall77 (by simp) (acs_start ?_)
  have g := f87 (k := k) hs hl
  have e := ixo_all l 0 (Int.le_refl _)
  unfold c77
  simp (maxSteps:=1000000) (disch:=omega) only [go_sem, ↓reduceIte, reduceCtorEq]
  first | refine callB_intro (g) ?_ | refine callD_intro (g) ?_ | refine callP_intro (fun _ => (g)) ?_ | refine callX_pure (g) ?_
  simp (maxSteps:=1000000) (disch:=omega) only [go_sem, ↓reduceIte, reduceCtorEq, e]
  exact fin_same (by simp) _ (by first | exact (List.append_nil _).symm | rfl) (by simp (maxSteps:=1000000) (disch:=omega) only [resVal, resAll, resOne, rs77, Env.get, go_sem, ↓reduceIte, reduceCtorEq]) (by simp only [AV.und, AV.unds, and_self])
def rightB (R C : Int) (l : List Int) : Bool := decide (1 ≤ R ∧ R ≤ 8 ∧ 1 ≤ C ∧ C ≤ 8 ∧ (l.length : Int) = R * C) && l.all inb
theorem mul64 {R C : Int} (h1 : 1 ≤ R) (h2 : R ≤ 8) (h3 : 1 ≤ C) (h4 : C ≤ 8) : IntKind.i64.wrap (R * C) = R * C := by
  have a := Int.mul_le_mul h2 h4 (by omega) (by omega)
  have b := Int.mul_nonneg (show 0 ≤ R by omega) (show 0 ≤ C by omega)
  exact i64_in _ (by omega)
theorem f71 {R C : Int} {l : List Int} {p off : Nat} {k : Option Nat} {H : Heap} (hs : Sl i64 H p off l) (hl : l.length ≤ 4611686018427387904) : ACall Try.prog 71 [.agg [.int .i64 R, .int .i64 C, .sl p off l.length 1 k]] H (.bool (rightB R C l)) H := by
  refine acall71 (by simp) (acs_start ?_)
  have g := fun G => f77 (k := k) (hs.app G) hl
  have no : ¬ (1 ≤ R ∧ R ≤ 8 ∧ 1 ≤ C ∧ C ≤ 8 ∧ (l.length : Int) = R * C) → rightB R C l = false := fun h => by unfold rightB; rw [decide_eq_false h]; rfl
  unfold c71
  by_cases h1 : 1 ≤ R
  rotate_left
  · rw [no (by omega)]
    simp (maxSteps:=1000000) (disch:=omega) only [go_sem, ↓reduceIte, reduceCtorEq, h1]
    exact fin_same (by simp) _ (by first | exact (List.append_nil _).symm | rfl) (by simp (maxSteps:=1000000) (disch:=omega) only [resVal, resAll, resOne, rs71, Env.get, go_sem, ↓reduceIte, reduceCtorEq]) (by simp only [AV.und, AV.unds, and_self])
  by_cases h2 : R ≤ 8
  rotate_left
  · rw [no (by omega)]
    simp (maxSteps:=1000000) (disch:=omega) only [go_sem, ↓reduceIte, reduceCtorEq, h1, h2]
    exact fin_same (by simp) _ (by first | exact (List.append_nil _).symm | rfl) (by simp (maxSteps:=1000000) (disch:=omega) only [resVal, resAll, resOne, rs71, Env.get, go_sem, ↓reduceIte, reduceCtorEq]) (by simp only [AV.und, AV.unds, and_self])
  by_cases h3 : 1 ≤ C
  rotate_left
  · rw [no (by omega)]
    simp (maxSteps:=1000000) (disch:=omega) only [go_sem, ↓reduceIte, reduceCtorEq, h1, h2, h3]
    exact fin_same (by simp) _ (by first | exact (List.append_nil _).symm | rfl) (by simp (maxSteps:=1000000) (disch:=omega) only [resVal, resAll, resOne, rs71, Env.get, go_sem, ↓reduceIte, reduceCtorEq]) (by simp only [AV.und, AV.unds, and_self])
  by_cases h4 : C ≤ 8
  rotate_left
  · rw [no (by omega)]
    simp (maxSteps:=1000000) (disch:=omega) only [go_sem, ↓reduceIte, reduceCtorEq, h1, h2, h3, h4]
    exact fin_same (by simp) _ (by first | exact (List.append_nil _).symm | rfl) (by simp (maxSteps:=1000000) (disch:=omega) only [resVal, resAll, resOne, rs71, Env.get, go_sem, ↓reduceIte, reduceCtorEq]) (by simp only [AV.und, AV.unds, and_self])
  have e := mul64 h1 h2 h3 h4
  by_cases h5 : (l.length : Int) = R * C
  rotate_left
  · rw [no (fun h => h5 h.2.2.2.2)]
    simp (maxSteps:=1000000) (disch:=omega) only [go_sem, ↓reduceIte, reduceCtorEq, h1, h2, h3, h4, e, h5]
    exact fin_same (by simp) _ (by first | exact (List.append_nil _).symm | rfl) (by simp (maxSteps:=1000000) (disch:=omega) only [resVal, resAll, resOne, rs71, Env.get, go_sem, ↓reduceIte, reduceCtorEq]) (by simp only [AV.und, AV.unds, and_self])
  have yes : rightB R C l = l.all inb := by unfold rightB; rw [decide_eq_true ⟨h1, h2, h3, h4, h5⟩]; rfl
  rw [yes]
  simp (maxSteps:=1000000) (disch:=omega) only [go_sem, ↓reduceIte, reduceCtorEq, h1, h2, h3, h4, e, h5]
  first | refine callB_intro (g _) ?_ | refine callD_intro (g _) ?_ | refine callP_intro (fun _ => (g _)) ?_ | refine callX_pure (g _) ?_
  simp (maxSteps:=1000000) (disch:=omega) only [go_sem, ↓reduceIte, reduceCtorEq, Bool.not_not, Bool.true_and]
  exact fin_same (by simp) _ (by first | exact (List.append_nil _).symm | rfl) (by simp (maxSteps:=1000000) (disch:=omega) only [resVal, resAll, resOne, rs71, Env.get, go_sem, ↓reduceIte, reduceCtorEq]) (by simp only [AV.und, AV.unds, and_self])

theorem f49 {R C : Int} {l : List Int} {p off : Nat} {k : Option Nat} {H : Heap} (hs : Sl i64 H p off l) (hl : l.length ≤ 4611686018427387904) : ACall Try.prog 49 [.agg [.int .i64 R, .int .i64 C, .sl p off l.length 1 k]] H (.bool (rightB R C l)) H := by
  refine acall49 (by simp) (acs_start ?_)
  have no : ¬ (1 ≤ R ∧ R ≤ 8 ∧ 1 ≤ C ∧ C ≤ 8 ∧ (l.length : Int) = R * C) → rightB R C l = false := fun h => by unfold rightB; rw [decide_eq_false h]; rfl
  unfold c49
  by_cases h1 : R < 1
  · rw [no (by omega)]
    simp (maxSteps:=1000000) (disch:=omega) only [go_sem, ↓reduceIte, reduceCtorEq, h1]
    exact fin_same (by simp) _ (by first | exact (List.append_nil _).symm | rfl) (by simp (maxSteps:=1000000) (disch:=omega) only [resVal, resAll, resOne, rs49, Env.get, go_sem, ↓reduceIte, reduceCtorEq]) (by simp only [AV.und, AV.unds, and_self])
  by_cases h2 : 8 < R
  · rw [no (by omega)]
    simp (maxSteps:=1000000) (disch:=omega) only [go_sem, ↓reduceIte, reduceCtorEq, h1, h2]
    exact fin_same (by simp) _ (by first | exact (List.append_nil _).symm | rfl) (by simp (maxSteps:=1000000) (disch:=omega) only [resVal, resAll, resOne, rs49, Env.get, go_sem, ↓reduceIte, reduceCtorEq]) (by simp only [AV.und, AV.unds, and_self])
  by_cases h3 : C < 1
  · rw [no (by omega)]
    simp (maxSteps:=1000000) (disch:=omega) only [go_sem, ↓reduceIte, reduceCtorEq, h1, h2, h3]
    exact fin_same (by simp) _ (by first | exact (List.append_nil _).symm | rfl) (by simp (maxSteps:=1000000) (disch:=omega) only [resVal, resAll, resOne, rs49, Env.get, go_sem, ↓reduceIte, reduceCtorEq]) (by simp only [AV.und, AV.unds, and_self])
  by_cases h4 : 8 < C
  · rw [no (by omega)]
    simp (maxSteps:=1000000) (disch:=omega) only [go_sem, ↓reduceIte, reduceCtorEq, h1, h2, h3, h4]
    exact fin_same (by simp) _ (by first | exact (List.append_nil _).symm | rfl) (by simp (maxSteps:=1000000) (disch:=omega) only [resVal, resAll, resOne, rs49, Env.get, go_sem, ↓reduceIte, reduceCtorEq]) (by simp only [AV.und, AV.unds, and_self])
  have e := mul64 (R := R) (C := C) (by omega) (by omega) (by omega) (by omega)
  by_cases h5 : (l.length : Int) = R * C
  rotate_left
  · rw [no (fun h => h5 h.2.2.2.2)]
    simp (maxSteps:=1000000) (disch:=omega) only [go_sem, ↓reduceIte, reduceCtorEq, h1, h2, h3, h4, e, h5]
    exact fin_same (by simp) _ (by first | exact (List.append_nil _).symm | rfl) (by simp (maxSteps:=1000000) (disch:=omega) only [resVal, resAll, resOne, rs49, Env.get, go_sem, ↓reduceIte, reduceCtorEq]) (by simp only [AV.und, AV.unds, and_self])
  have yes : rightB R C l = l.all inb := by unfold rightB; rw [decide_eq_true ⟨by omega, by omega, by omega, by omega, h5⟩]; rfl
  rw [yes]
  clear no yes
  obtain ⟨cs, o, hp, hle, hcs⟩ := hs
  have hpl := blkAt_lt hp
  simp (maxSteps:=1000000) (disch:=omega) only [go_sem, ↓reduceIte, reduceCtorEq, h1, h2, h3, h4, e, h5]
  refine loop_list (fun r T H' => ∃ j : Nat, T = [(1, .ptr H.length 0), (3, .int .i64 (j : Nat))] ∧ H' = H ++ [some ⟨[.int .i64 R, .int .i64 C, .sl p off l.length 1 k], true⟩] ∧ l.drop j = r ∧ j + r.length = l.length ∧ l.all inb = r.all inb) ?_ ?_ l _ _ ⟨0, rfl, rfl, rfl, by simp, rfl⟩
  · rintro x r T H' ⟨j, rfl, rfl, hd, hj, hi⟩ nx
    obtain ⟨g1, g2, g3⟩ := drop_cons hd
    have hjl : (j : Int) < (l.length : Int) := by omega
    have fx : cs[off + j]? = some (.int .i64 x) := sl_get hcs g1
    have g := fun G => f50 (a := x) (H := H ++ G)
    rw [acs_lp]; conv in Fr.code c49l0 => unfold c49l0
    simp (maxSteps:=1000000) (disch:=omega) only [go_sem, ↓reduceIte, reduceCtorEq, hjl, blkAt_lo, hpl, hp, fx]
    first | refine callB_intro (g _) ?_ | refine callD_intro (g _) ?_ | refine callP_intro (fun _ => (g _)) ?_ | refine callX_pure (g _) ?_
    rw [List.all_cons] at hi
    cases hx : inb x with
    | true =>
      rw [hx, Bool.true_and] at hi
      simp (maxSteps:=1000000) (disch:=omega) only [go_sem, ↓reduceIte, reduceCtorEq]
      refine nx _ _ ⟨j + 1, ?_, rfl, g2, by simp at hj; omega, hi⟩
      simp
    | false =>
      rw [hx, Bool.false_and] at hi
      rw [hi]
      simp (maxSteps:=1000000) (disch:=omega) only [go_sem, ↓reduceIte, reduceCtorEq]
      exact fin_same (by simp) _ (by first | exact (List.append_nil _).symm | rfl) (by simp (maxSteps:=1000000) (disch:=omega) only [resVal, resAll, resOne, rs49, Env.get, go_sem, ↓reduceIte, reduceCtorEq]) (by simp only [AV.und, AV.unds, and_self])
  · rintro T H' ⟨j, rfl, rfl, hd, hj, hi⟩
    obtain rfl : j = l.length := by simpa using hj
    rw [hi]
    rw [acs_lp]; conv in Fr.code c49l0 => unfold c49l0
    simp (maxSteps:=1000000) (disch:=omega) only [go_sem, ↓reduceIte, reduceCtorEq, Int.lt_irrefl]
    exact fin_same (by simp) _ (by first | exact (List.append_nil _).symm | rfl) (by simp (maxSteps:=1000000) (disch:=omega) only [resVal, resAll, resOne, rs49, Env.get, go_sem, ↓reduceIte, reduceCtorEq]) (by simp only [AV.und, AV.unds, and_self])
def sameB (R1 C1 : Int) (l1 : List Int) (R2 C2 : Int) (l2 : List Int) : Bool := decide (R1 = R2 ∧ C1 = C2 ∧ l1 = l2)
theorem f52 {R1 C1 R2 C2 : Int} {l1 l2 : List Int} {p1 o1 p2 o2 : Nat} {k1 k2 : Option Nat} {H : Heap} (hx : Sl i64 H p1 o1 l1) (hy : Sl i64 H p2 o2 l2) (hl : l1.length ≤ 4611686018427387904) :
    ACall Try.prog 52 [.agg [.int .i64 R1, .int .i64 C1, .sl p1 o1 l1.length 1 k1], .agg [.int .i64 R2, .int .i64 C2, .sl p2 o2 l2.length 1 k2]] H (.bool (sameB R1 C1 l1 R2 C2 l2)) H := by
  refine acall52 (by simp) (acs_start ?_)
  have no : ¬ (R1 = R2 ∧ C1 = C2 ∧ l1 = l2) → sameB R1 C1 l1 R2 C2 l2 = false := fun h => by unfold sameB; rw [decide_eq_false h]
  unfold c52
  by_cases h1 : R1 = R2
  rotate_left
  · rw [no (fun h => h1 h.1)]
    simp (maxSteps:=1000000) (disch:=omega) only [go_sem, ↓reduceIte, reduceCtorEq, h1]
    exact fin_same (by simp) _ (by first | exact (List.append_nil _).symm | rfl) (by simp (maxSteps:=1000000) (disch:=omega) only [resVal, resAll, resOne, rs52, Env.get, go_sem, ↓reduceIte, reduceCtorEq]) (by simp only [AV.und, AV.unds, and_self])
  by_cases h2 : C1 = C2
  rotate_left
  · rw [no (fun h => h2 h.2.1)]
    simp (maxSteps:=1000000) (disch:=omega) only [go_sem, ↓reduceIte, reduceCtorEq, h1, h2]
    exact fin_same (by simp) _ (by first | exact (List.append_nil _).symm | rfl) (by simp (maxSteps:=1000000) (disch:=omega) only [resVal, resAll, resOne, rs52, Env.get, go_sem, ↓reduceIte, reduceCtorEq]) (by simp only [AV.und, AV.unds, and_self])
  by_cases h3 : l1.length = l2.length
  rotate_left
  · have h3' : ¬ (l1.length : Int) = (l2.length : Int) := by omega
    rw [no (fun h => h3 (by rw [h.2.2]))]
    simp (maxSteps:=1000000) (disch:=omega) only [go_sem, ↓reduceIte, reduceCtorEq, h1, h2, h3']
    exact fin_same (by simp) _ (by first | exact (List.append_nil _).symm | rfl) (by simp (maxSteps:=1000000) (disch:=omega) only [resVal, resAll, resOne, rs52, Env.get, go_sem, ↓reduceIte, reduceCtorEq]) (by simp only [AV.und, AV.unds, and_self])
  subst h1
  subst h2
  have h3' : (l1.length : Int) = (l2.length : Int) := by omega
  obtain ⟨cs, oo, hp, hle, hcs⟩ := hx
  obtain ⟨ds, oo2, hq, hle2, hds⟩ := hy
  have hpl := blkAt_lt hp
  have hql := blkAt_lt hq
  have es : sameB R1 C1 l1 R1 C1 l2 = decide (l1 = l2) := by unfold sameB; simp
  rw [es]
  clear no es
  simp (maxSteps:=1000000) (disch:=omega) only [go_sem, ↓reduceIte, reduceCtorEq, h3']
  rw [← h3]
  refine loop_list (fun r T H' => ∃ (j : Nat) (s : List Int), T = [(2, .ptr H.length 0), (3, .ptr (H.length + 1) 0), (5, .int .i64 (j : Nat))] ∧ H' = H ++ [some ⟨[.int .i64 R1, .int .i64 C1, .sl p1 o1 l1.length 1 k1], true⟩, some ⟨[.int .i64 R1, .int .i64 C1, .sl p2 o2 l1.length 1 k2], true⟩] ∧ l1.drop j = r ∧ l2.drop j = s ∧ j + r.length = l1.length ∧ r.length = s.length ∧ decide (l1 = l2) = decide (r = s)) ?_ ?_ l1 _ _ ⟨0, l2, rfl, rfl, rfl, rfl, by simp, h3, rfl⟩
  · rintro x r T H' ⟨j, s, rfl, rfl, hr, hs, hj, hrs, hd⟩ nx
    cases s with
    | nil => simp at hrs
    | cons y s =>
      obtain ⟨g1, g2, g3⟩ := drop_cons hr
      obtain ⟨q1, q2, q3⟩ := drop_cons hs
      have fx : cs[o1 + j]? = some (.int .i64 x) := sl_get hcs g1
      have fy : ds[o2 + j]? = some (.int .i64 y) := sl_get hds q1
      have hjl : (j : Int) < (l1.length : Int) := by omega
      by_cases hxy : x = y
      · subst hxy
        rw [acs_lp]; conv in Fr.code c52l0 => unfold c52l0
        simp (maxSteps:=1000000) (disch:=omega) only [go_sem, ↓reduceIte, reduceCtorEq, hjl, blkAt_lo, hpl, hql, hp, hq, fx, fy]
        refine nx _ _ ⟨j + 1, s, ?_, rfl, g2, q2, by simp at hj; omega, by simpa using hrs, by rw [hd]; simp⟩
        simp
      · have e0 : decide (x :: r = y :: s) = false := by simp [hxy]
        rw [hd, e0]
        clear nx
        rw [acs_lp]; conv in Fr.code c52l0 => unfold c52l0
        simp (maxSteps:=1000000) (disch:=omega) only [go_sem, ↓reduceIte, reduceCtorEq, hjl, blkAt_lo, hpl, hql, hp, hq, fx, fy, hxy]
        exact fin_same (by simp) _ (by first | exact (List.append_nil _).symm | rfl) (by simp (maxSteps:=1000000) (disch:=omega) only [resVal, resAll, resOne, rs52, Env.get, go_sem, ↓reduceIte, reduceCtorEq]) (by simp only [AV.und, AV.unds, and_self])
  · rintro T H' ⟨j, s, rfl, rfl, hr, hs, hj, hrs, hd⟩
    rw [hd]
    obtain rfl : s = [] := List.eq_nil_of_length_eq_zero hrs.symm
    obtain rfl : j = l1.length := by simpa using hj
    rw [acs_lp]; conv in Fr.code c52l0 => unfold c52l0
    simp (maxSteps:=1000000) (disch:=omega) only [go_sem, ↓reduceIte, reduceCtorEq, Int.lt_irrefl]
    exact fin_same (by simp) _ (by first | exact (List.append_nil _).symm | rfl) (by simp (maxSteps:=1000000) (disch:=omega) only [resVal, resAll, resOne, rs52, Env.get, go_sem, ↓reduceIte, reduceCtorEq]) (by simp only [AV.und, AV.unds, and_self])

def dg (l : List Int) (i k : Nat) : Int := if i = k then l.getD i 0 else 0
def dgL (l : List Int) : List Int := matL (dg l) l.length l.length
theorem f88 {l : List Int} {i k b p off : Nat} {kk : Option Nat} {o : Bool} {H : Heap} (hs : Sl i64 H p off l) (hi : i < l.length) (h8 : l.length ≤ 8) (hb : blkAt H b = some ⟨[.sl p off l.length 1 kk], o⟩) : ACall Try.prog 88 [.int .i64 (i : Nat), .int .i64 (k : Nat), .ptr b 0] H (.tup [.int .i64 (dg l i k), .bool false]) H := by
  refine acall88 (by simp) (acs_start ?_)
  obtain ⟨cs, oo, hp, hle, hcs⟩ := hs
  have hpl := blkAt_lt hp
  have bl := blkAt_lt hb
  have hg : l[i]? = some (l.getD i 0) := by rw [List.getD_eq_getElem?_getD, List.getElem?_eq_getElem hi]; rfl
  have fx : cs[off + i]? = some (.int .i64 (l.getD i 0)) := sl_get hcs hg
  have hil : (i : Int) < (l.length : Int) := by omega
  unfold c88
  by_cases h : i = k
  · have e : dg l i k = l.getD i 0 := by unfold dg; rw [if_pos h]
    have h' : (i : Int) = (k : Int) := by omega
    have hd : decide ((i : Int) = (k : Int)) = true := decide_eq_true h'
    rw [e]
    generalize l.getD i 0 = x at *
    simp (maxSteps:=1000000) (disch:=omega) only [go_sem, ↓reduceIte, reduceCtorEq, hd, hil, bl, hb, hpl, hp, fx]
    exact fin_same (by simp) _ (by first | exact (List.append_nil _).symm | rfl) (by simp (maxSteps:=1000000) (disch:=omega) only [resVal, resAll, resOne, rs88, Env.get, go_sem, ↓reduceIte, reduceCtorEq]) (by simp only [AV.und, AV.unds, and_self])
  · have e : dg l i k = 0 := by unfold dg; rw [if_neg h]
    have h' : ¬ (i : Int) = (k : Int) := by omega
    rw [e]
    simp (maxSteps:=1000000) (disch:=omega) only [go_sem, ↓reduceIte, reduceCtorEq, h']
    exact fin_same (by simp) _ (by first | exact (List.append_nil _).symm | rfl) (by simp (maxSteps:=1000000) (disch:=omega) only [resVal, resAll, resOne, rs88, Env.get, go_sem, ↓reduceIte, reduceCtorEq]) (by simp only [AV.und, AV.unds, and_self])
theorem hb88 : hasBody Try.prog 88 = true := by kernel_rfl
theorem f79 {l : List Int} {p off : Nat} {kk : Option Nat} {H : Heap} (hs : Sl i64 H p off l) (h1 : 0 < l.length) (h8 : l.length ≤ 8) (hb : ∀ x ∈ l, InB x) :
    ACallE Try.prog 79 [.sl p off l.length 1 kk] H fun v H' => ∃ w, v = .tup [.agg [.int .i64 (l.length : Nat), .int .i64 (l.length : Nat), w], .int .i64 0] ∧ Rw i64 H' w (dgL l) ∧ ∃ p n, w = .sl p 0 n 1 none ∧ H.length ≤ p := by
  refine acallE (fun v Hf h => acallK79 (by simp) h) (acs_start ?_)
  have u1 : ¬ (l.length : Int) < 1 := by omega
  have u2 : ¬ (8 : Int) < (l.length : Int) := by omega
  have er : rightB 1 (l.length : Nat) l = true := by
    unfold rightB
    rw [decide_eq_true ⟨by omega, by omega, by omega, by omega, by omega⟩, Bool.true_and, List.all_eq_true]
    exact fun x hx => inb_iff.2 (hb x hx)
  have g24 := fun G => f71 (R := 1) (C := (l.length : Nat)) (k := kk) (hs.app G) (by omega)
  rw [er] at g24
  have g27 := fun (G : Heap) => f84 (f := 88) (H := (H ++ (some ⟨[.sl p off l.length 1 kk], true⟩ :: G)).set (H.length + 1) none) (ys := [.ptr H.length 0]) (q := dg l) (b := fun _ _ => false) ⟨h1, h8⟩ ⟨h1, h8⟩ hb88
    (fun H' i k hx hi hk => f88 (o := true) (kk := kk) (hx.sl (hs.app_set (by omega) _)) hi h8 (hx.blk (by rw [blkAt_set_ne (by omega)]; simp only [go_sem, ↓reduceIte, reduceCtorEq])))
  unfold c79
  simp (maxSteps:=1000000) (disch:=omega) only [go_sem, ↓reduceIte, reduceCtorEq, u1, u2]
  first | refine callB_intro (g24 _) ?_ | refine callD_intro (g24 _) ?_ | refine callP_intro (fun _ => (g24 _)) ?_ | refine callX_pure (g24 _) ?_
  simp (maxSteps:=1000000) (disch:=omega) only [go_sem, ↓reduceIte, reduceCtorEq]
  first | refine callBE (ACallE.frame (b := H.length + 1) (x := ⟨[.int .i64 0, .int .i64 0, .nils], true⟩) (by simp only [go_sem, ↓reduceIte, reduceCtorEq]) rfl (g27 _)) ?_ | refine callDE (ACallE.frame (b := H.length + 1) (x := ⟨[.int .i64 0, .int .i64 0, .nils], true⟩) (by simp only [go_sem, ↓reduceIte, reduceCtorEq]) rfl (g27 _)) ?_ | refine callXE (ACallE.frame (b := H.length + 1) (x := ⟨[.int .i64 0, .int .i64 0, .nils], true⟩) (by simp only [go_sem, ↓reduceIte, reduceCtorEq]) rfl (g27 _)) ?_
  rintro v H1 hx ⟨b1, w, rfl, hw, p9, n9, e9, hp9⟩
  obtain ⟨p1, o1, k1, rfl, hs1⟩ := hw
  cases e9
  simp only [List.length_set, List.length_append] at hp9
  have bl1 := blkAt_lt b1
  have ok2 := fun y => hs1.unset (some ⟨y, true⟩)
  simp (maxSteps:=1000000) (disch:=omega) only [go_sem, ↓reduceIte, reduceCtorEq, b1, bl1, blkAt_lo, set_lo, List.length_set]
  refine fin_e (by simp) (by simp (maxSteps:=1000000) (disch:=omega) only [resVal, resAll, resOne, rs79, Env.get, go_sem, ↓reduceIte, reduceCtorEq, b1, bl1, blkAt_los, blkAt_lo, set_lo, List.length_set, blkAt_set_self] <;> rfl) ((((Ext.app _ _).trans hx).set (by omega) _).to _) ⟨_, rfl, (Rw.mk _ (ok2 _)).app _, _, _, rfl, by omega⟩

theorem f83_go {xs ys : List Int} {p q off off2 : Nat} {c1 c2 : Option Nat} {H : Heap} (hx : Sl i64 H p off xs) (hy : Sl i64 H q off2 ys) (he : xs.length = ys.length) (hl : xs.length ≤ 4611686018427387904) :
    ∀ (r s : List Int) (j : Nat), xs.drop j = r → ys.drop j = s →
    acs Try.prog [.lp c83l0, .blk 0, .code (.seq (.reg [⟨some 4, .mv, [.c (.bool true)], none, []⟩]) .ret)] [(0, .sl p off xs.length 1 c1), (1, .sl q off2 ys.length 1 c2), (12, .int .i64 (xs.length : Nat)), (13, .int .i64 (j : Nat))] H (Fin H rs83 (.bool (decide (r = s))) H) := by
  obtain ⟨cs, o, hp, hle, hcs⟩ := hx
  obtain ⟨ds, o2, hq, hle2, hds⟩ := hy
  intro r
  induction r with
  | nil =>
    intro s j hr hs
    have hj : xs.length ≤ j := by
      have := congrArg List.length hr
      simp at this
      omega
    have hs0 : s = [] := by rw [← hs]; exact List.drop_eq_nil_of_le (by omega)
    subst hs0
    have hlt : ¬ (j : Int) < (xs.length : Int) := by omega
    rw [acs_lp]; conv in Fr.code c83l0 => unfold c83l0
    simp (maxSteps:=1000000) (disch:=omega) only [go_sem, ↓reduceIte, reduceCtorEq, hlt]
    exact fin_same (by simp) _ (by first | exact (List.append_nil _).symm | rfl) (by simp (maxSteps:=1000000) (disch:=omega) only [resVal, resAll, resOne, rs83, Env.get, go_sem, ↓reduceIte, reduceCtorEq]) (by simp only [AV.und, AV.unds, and_self])
  | cons x r ih =>
    intro s j hr hs
    obtain ⟨hx0, hr2, hj⟩ := drop_cons hr
    cases s with
    | nil =>
      have := congrArg List.length hs
      simp at this
      omega
    | cons y s =>
      obtain ⟨hy0, hs2, _⟩ := drop_cons hs
      have fx : cs[off + j]? = some (.int .i64 x) := sl_get hcs hx0
      have fy : ds[off2 + j]? = some (.int .i64 y) := sl_get hds hy0
      have hlt : (j : Int) < (xs.length : Int) := by omega
      have hlt2 : (j : Int) < (ys.length : Int) := by omega
      have ih := ih s (j + 1) hr2 hs2
      rw [acs_lp]; conv in Fr.code c83l0 => unfold c83l0
      by_cases hxy : x = y
      · subst hxy
        have e : decide (x :: r = x :: s) = decide (r = s) := by simp
        rw [e]
        simp (maxSteps:=1000000) (disch:=omega) only [go_sem, ↓reduceIte, reduceCtorEq, hlt, hlt2, hp, hq, fx, fy]
        exact ih
      · have e : decide (x :: r = y :: s) = false := by simp [hxy]
        rw [e]
        simp (maxSteps:=1000000) (disch:=omega) only [go_sem, ↓reduceIte, reduceCtorEq, hlt, hlt2, hp, hq, fx, fy, hxy]
        exact fin_same (by simp) _ (by first | exact (List.append_nil _).symm | rfl) (by simp (maxSteps:=1000000) (disch:=omega) only [resVal, resAll, resOne, rs83, Env.get, go_sem, ↓reduceIte, reduceCtorEq]) (by simp only [AV.und, AV.unds, and_self])
theorem f83 {xs ys : List Int} {p q off off2 : Nat} {c1 c2 : Option Nat} {H : Heap} (hx : Sl i64 H p off xs) (hy : Sl i64 H q off2 ys) (hl : xs.length ≤ 4611686018427387904) :
    ACall Try.prog 83 [.sl p off xs.length 1 c1, .sl q off2 ys.length 1 c2] H (.bool (decide (xs = ys))) H := by
  refine acall83 (by simp) (acs_start ?_)
  unfold c83
  by_cases he : xs.length = ys.length
  · have go := f83_go (c1 := c1) (c2 := c2) hx hy he hl xs ys 0 rfl rfl
    have he' : (xs.length : Int) = (ys.length : Int) := by omega
    simp (maxSteps:=1000000) (disch:=omega) only [go_sem, ↓reduceIte, reduceCtorEq, he']
    rw [← he']
    exact go
  · have he' : ¬ (xs.length : Int) = (ys.length : Int) := by omega
    have e : decide (xs = ys) = false := by
      rw [decide_eq_false_iff_not]
      rintro rfl
      exact he rfl
    rw [e]
    simp (maxSteps:=1000000) (disch:=omega) only [go_sem, ↓reduceIte, reduceCtorEq, he']
    exact fin_same (by simp) _ (by first | exact (List.append_nil _).symm | rfl) (by simp (maxSteps:=1000000) (disch:=omega) only [resVal, resAll, resOne, rs83, Env.get, go_sem, ↓reduceIte, reduceCtorEq]) (by simp only [AV.und, AV.unds, and_self])
theorem f82g {R C : Int} {p off n : Nat} {k : Option Nat} {H : Heap} : ACall Try.prog 82 [.agg [.int .i64 R, .int .i64 C, .sl p off n 1 k]] H (.agg [.int .i64 R, .int .i64 C]) H := by
  refine acall82 (by simp) (acs_start ?_)
  unfold c82
  simp (maxSteps:=1000000) (disch:=omega) only [go_sem, ↓reduceIte, reduceCtorEq]
  exact fin_ext (by simp) (Ext.app _ _) (by simp (maxSteps:=1000000) (disch:=omega) only [resVal, resAll, resOne, rs82, Env.get, go_sem, ↓reduceIte, reduceCtorEq]) (by simp only [AV.und, AV.unds, and_self])
theorem f72 {R1 C1 R2 C2 : Int} {l1 l2 : List Int} {p1 o1 p2 o2 : Nat} {k1 k2 : Option Nat} {H : Heap} (hx : Sl i64 H p1 o1 l1) (hy : Sl i64 H p2 o2 l2) (hl : l1.length ≤ 4611686018427387904) :
    ACall Try.prog 72 [.agg [.int .i64 R1, .int .i64 C1, .sl p1 o1 l1.length 1 k1], .agg [.int .i64 R2, .int .i64 C2, .sl p2 o2 l2.length 1 k2]] H (.bool (sameB R1 C1 l1 R2 C2 l2)) H := by
  refine acall72 (by simp) (acs_start ?_)
  have g2 := fun (G : Heap) => f83 (c1 := k1) (c2 := k2) (hx.app G) (hy.app G) hl
  unfold c72
  simp (maxSteps:=1000000) (disch:=omega) only [go_sem, ↓reduceIte, reduceCtorEq]
  first | refine callB_intro (f82g) ?_ | refine callD_intro (f82g) ?_ | refine callP_intro (fun _ => (f82g)) ?_ | refine callX_pure (f82g) ?_
  simp (maxSteps:=1000000) (disch:=omega) only [go_sem, ↓reduceIte, reduceCtorEq]
  first | refine callB_intro (f82g) ?_ | refine callD_intro (f82g) ?_ | refine callP_intro (fun _ => (f82g)) ?_ | refine callX_pure (f82g) ?_
  by_cases h1 : R1 = R2
  · by_cases h2 : C1 = C2
    · have e : sameB R1 C1 l1 R2 C2 l2 = decide (l1 = l2) := by unfold sameB; simp [h1, h2]
      rw [e]
      simp (maxSteps:=1000000) (disch:=omega) only [go_sem, ↓reduceIte, reduceCtorEq, h1, h2]
      first | refine callB_intro (g2 _) ?_ | refine callD_intro (g2 _) ?_ | refine callP_intro (fun _ => (g2 _)) ?_ | refine callX_pure (g2 _) ?_
      simp (maxSteps:=1000000) (disch:=omega) only [go_sem, ↓reduceIte, reduceCtorEq]
      exact fin_ext (by simp) (Ext.app _ _) (by simp (maxSteps:=1000000) (disch:=omega) only [resVal, resAll, resOne, rs72, Env.get, go_sem, ↓reduceIte, reduceCtorEq]) (by simp only [AV.und, AV.unds, and_self])
    · have e : sameB R1 C1 l1 R2 C2 l2 = false := by unfold sameB; simp [h2]
      rw [e]
      simp (maxSteps:=1000000) (disch:=omega) only [go_sem, ↓reduceIte, reduceCtorEq, h1, h2]
      exact fin_ext (by simp) (Ext.app _ _) (by simp (maxSteps:=1000000) (disch:=omega) only [resVal, resAll, resOne, rs72, Env.get, go_sem, ↓reduceIte, reduceCtorEq]) (by simp only [AV.und, AV.unds, and_self])
  · have e : sameB R1 C1 l1 R2 C2 l2 = false := by unfold sameB; simp [h1]
    rw [e]
    simp (maxSteps:=1000000) (disch:=omega) only [go_sem, ↓reduceIte, reduceCtorEq, h1, Bool.false_and]
    exact fin_ext (by simp) (Ext.app _ _) (by simp (maxSteps:=1000000) (disch:=omega) only [resVal, resAll, resOne, rs72, Env.get, go_sem, ↓reduceIte, reduceCtorEq]) (by simp only [AV.und, AV.unds, and_self])

structure Tk where
  xr : Int
  xc : Int
  xl : List Int
  xp : Nat
  xo : Nat
  xk : Option Nat
  pr : Int
  pc : Int
  pl : List Int
  pp : Nat
  po : Nat
  pk : Option Nat
def Tk.av (t : Tk) : List AV := [.int .i64 t.xr, .int .i64 t.xc, .sl t.xp t.xo t.xl.length 1 t.xk, .int .i64 t.pr, .int .i64 t.pc, .sl t.pp t.po t.pl.length 1 t.pk]
structure Tk.ok (t : Tk) (H : Heap) : Prop where
  hx : Sl i64 H t.xp t.xo t.xl
  hp : Sl i64 H t.pp t.po t.pl
  lx : t.xl.length ≤ 4611686018427387904
  lp : t.pl.length ≤ 4611686018427387904
theorem Tk.ok.ext {t : Tk} {H H' : Heap} (h : t.ok H) (hx : Ext H H') : t.ok H' := ⟨hx.sl h.hx, hx.sl h.hp, h.lx, h.lp⟩
def symB (l : List Int) (n i : Nat) : Bool := (List.range i).all fun k => decide (l.getD (i * n + k) 0 = l.getD (k * n + i) 0)
def goodB (l : List Int) (n : Nat) : Bool := (List.range n).all fun i => decide (0 ≤ l.getD (i * n + i) 0) && symB l n i
def trkB (t : Tk) : Bool := rightB t.xr t.xc t.xl && rightB t.pr t.pc t.pl && decide (t.xc = 1) && decide (t.pr = t.xr) && decide (t.pc = t.xr) && goodB t.pl t.xr.toNat
theorem range_all_split (f : Nat → Bool) (i n : Nat) (h : i < n) : (List.range' i (n - i)).all f = (f i && (List.range' (i + 1) (n - (i + 1))).all f) := by
  rw [show n - i = (n - (i + 1)) + 1 by omega, List.range'_succ, List.all_cons]
theorem range_all_end (f : Nat → Bool) (n : Nat) : (List.range' n (n - n)).all f = true := by simp
theorem rightB_len {R C : Int} {l : List Int} (h : rightB R C l = true) : (1 ≤ R ∧ R ≤ 8) ∧ (1 ≤ C ∧ C ≤ 8) ∧ (l.length : Int) = R * C ∧ l.all inb = true := by
  unfold rightB at h
  simp only [Bool.and_eq_true, decide_eq_true_eq] at h
  obtain ⟨⟨h1, h2, h3, h4, h5⟩, h6⟩ := h
  exact ⟨⟨h1, h2⟩, ⟨h3, h4⟩, h5, h6⟩
theorem f26_in {l : List Int} {n i b pp po : Nat} {pk xk : Option Nat} {xr xc pr pc : Int} {xp xo xn : Nat} {o : Bool} {H : Heap} {Q : Post} {fs : List Fr} (hb : blkAt H b = some ⟨[.int .i64 xr, .int .i64 xc, .sl xp xo xn 1 xk, .int .i64 pr, .int .i64 pc, .sl pp po l.length 1 pk], o⟩) (hs : Sl i64 H pp po l) (hl : l.length = n * n) (hn : n ≤ 8) (hi : i < n)
    (hyes : symB l n i = true → leave Try.prog 2 fs [(1, .ptr b 0), (5, .int .i64 (n : Int)), (6, .int .i64 (i : Int))] H Q) (hno : symB l n i = false → Q .ret [(2, .bool false)] H) :
    ∀ (r k : Nat), k + r = i → ((List.range' k (i - k)).all fun k => decide (l.getD (i * n + k) 0 = l.getD (k * n + i) 0)) = symB l n i →
    acs Try.prog (.lp c26l0 :: fs) [(1, .ptr b 0), (5, .int .i64 (n : Int)), (6, .int .i64 (i : Int)), (7, .int .i64 (k : Int))] H Q := by
  obtain ⟨cs, oo, hp, hle, hcs⟩ := hs
  have lb := blkAt_lt hb
  have lp := blkAt_lt hp
  intro r
  induction r with
  | zero =>
    intro k hr hv
    obtain rfl : k = i := by omega
    have hge : ¬ (k : Int) < (k : Int) := by omega
    rw [range_all_end] at hv
    rw [acs_lp]; conv in Fr.code c26l0 => unfold c26l0
    simp (maxSteps:=1000000) (disch:=omega) only [go_sem, ↓reduceIte, reduceCtorEq, hge]
    exact hyes hv.symm
  | succ r ih =>
    intro k hr hv
    have hlt : (k : Int) < (i : Int) := by omega
    rw [range_all_split _ k i (by omega)] at hv
    have b1 : i * n + k < l.length := by rw [hl]; exact ix_lt hi (by omega)
    have b2 : k * n + i < l.length := by rw [hl]; exact ix_lt (by omega) hi
    have hn64 : n * n ≤ 64 := Nat.mul_le_mul hn hn
    have g1 : l[i * n + k]? = some (l.getD (i * n + k) 0) := by rw [List.getD_eq_getElem?_getD, List.getElem?_eq_getElem b1]; rfl
    have g2 : l[k * n + i]? = some (l.getD (k * n + i) 0) := by rw [List.getD_eq_getElem?_getD, List.getElem?_eq_getElem b2]; rfl
    have f1 : cs[po + (i * n + k)]? = some (.int .i64 (l.getD (i * n + k) 0)) := sl_get hcs g1
    have f2 : cs[po + (k * n + i)]? = some (.int .i64 (l.getD (k * n + i) 0)) := sl_get hcs g2
    have w1 : IntKind.i64.wrap ((i : Int) * (n : Int)) = ((i * n : Nat) : Int) := by rw [i64_in _ (by constructor <;> (rw [← Int.natCast_mul]; omega))]; simp
    have w2 : IntKind.i64.wrap ((k : Int) * (n : Int)) = ((k * n : Nat) : Int) := by rw [i64_in _ (by constructor <;> (rw [← Int.natCast_mul]; omega))]; simp
    have w3 : IntKind.i64.wrap (((i * n : Nat) : Int) + (k : Int)) = ((i * n + k : Nat) : Int) := by rw [i64_in _ (by omega)]; omega
    have w4 : IntKind.i64.wrap (((k * n : Nat) : Int) + (i : Int)) = ((k * n + i : Nat) : Int) := by rw [i64_in _ (by omega)]; omega
    have q1 : ((i * n + k : Nat) : Int) < (l.length : Int) := by omega
    have q2 : ((k * n + i : Nat) : Int) < (l.length : Int) := by omega
    generalize i * n = u1 at *
    generalize k * n = u2 at *
    generalize u1 + k = j1 at *
    generalize u2 + i = j2 at *
    generalize l.getD j1 0 = x at *
    generalize l.getD j2 0 = y at *
    rw [acs_lp]; conv in Fr.code c26l0 => unfold c26l0
    by_cases hxy : x = y
    · subst hxy
      simp only [decide_true, Bool.true_and] at hv
      simp (maxSteps:=1000000) (disch:=omega) only [go_sem, ↓reduceIte, reduceCtorEq, hlt, hb, hp, w1, w2, w3, w4, q1, q2, f1, f2]
      exact ih (k + 1) (by omega) hv
    · simp only [hxy, decide_false, Bool.false_and] at hv
      simp (maxSteps:=1000000) (disch:=omega) only [go_sem, ↓reduceIte, reduceCtorEq, hlt, hb, hp, w1, w2, w3, w4, q1, q2, f1, f2, hxy]
      exact hno hv.symm

theorem symB_start (l : List Int) (n i : Nat) : ((List.range' 0 (i - 0)).all fun k => decide (l.getD (i * n + k) 0 = l.getD (k * n + i) 0)) = symB l n i := by
  rw [Nat.sub_zero, ← List.range_eq_range']
  rfl
theorem f26_out {l : List Int} {n b pp po : Nat} {pk xk : Option Nat} {xr xc pr pc : Int} {xp xo xn : Nat} {o : Bool} {H : Heap} {Q : Post} {fs : List Fr} (hb : blkAt H b = some ⟨[.int .i64 xr, .int .i64 xc, .sl xp xo xn 1 xk, .int .i64 pr, .int .i64 pc, .sl pp po l.length 1 pk], o⟩) (hs : Sl i64 H pp po l) (hl : l.length = n * n) (hn : n ≤ 8)
    (hyes : goodB l n = true → leave Try.prog 0 fs [] H Q) (hno : goodB l n = false → Q .ret [(2, .bool false)] H) :
    ∀ (r i : Nat), i + r = n → ((List.range' i (n - i)).all fun i => decide (0 ≤ l.getD (i * n + i) 0) && symB l n i) = goodB l n →
    acs Try.prog (.lp c26l1 :: fs) [(1, .ptr b 0), (5, .int .i64 (n : Int)), (6, .int .i64 (i : Int))] H Q := by
  have hs0 := hs
  obtain ⟨cs, oo, hp, hle, hcs⟩ := hs
  have lb := blkAt_lt hb
  have lp := blkAt_lt hp
  intro r
  induction r with
  | zero =>
    intro i hr hv
    obtain rfl : i = n := by omega
    have hge : ¬ (i : Int) < (i : Int) := by omega
    rw [range_all_end] at hv
    rw [acs_lp]; conv in Fr.code c26l1 => unfold c26l1
    simp (maxSteps:=1000000) (disch:=omega) only [go_sem, ↓reduceIte, reduceCtorEq, hge]
    exact hyes hv.symm
  | succ r ih =>
    intro i hr hv
    have hlt : (i : Int) < (n : Int) := by omega
    rw [range_all_split _ i n (by omega)] at hv
    have b1 : i * n + i < l.length := by rw [hl]; exact ix_lt (by omega) (by omega)
    have hn64 : n * n ≤ 64 := Nat.mul_le_mul hn hn
    have g1 : l[i * n + i]? = some (l.getD (i * n + i) 0) := by rw [List.getD_eq_getElem?_getD, List.getElem?_eq_getElem b1]; rfl
    have f1 : cs[po + (i * n + i)]? = some (.int .i64 (l.getD (i * n + i) 0)) := sl_get hcs g1
    have w1 : IntKind.i64.wrap ((i : Int) * (n : Int)) = ((i * n : Nat) : Int) := by rw [i64_in _ (by constructor <;> (rw [← Int.natCast_mul]; omega))]; simp
    have w3 : IntKind.i64.wrap (((i * n : Nat) : Int) + (i : Int)) = ((i * n + i : Nat) : Int) := by rw [i64_in _ (by omega)]; omega
    have q1 : ((i * n + i : Nat) : Int) < (l.length : Int) := by omega
    have inn := f26_in (Q := Q) (fs := .blk 2 :: .blk 1 :: .code (.reg [⟨some 46, .mv, [.r 6], none, [6]⟩, ⟨some 47, (.bin .add), [.r 46, .c (.int .i64 1)], none, [46]⟩, ⟨some 6, .mv, [.r 47], none, [47]⟩]) :: .lp c26l1 :: fs) hb hs0 hl hn (show i < n by omega)
    have ih := ih (i + 1) (by omega)
    have inn2 := fun a b => inn a b i 0 (by omega) (symB_start l n i)
    have ih2 := ih
    clear inn ih
    generalize i * n = u1 at *
    generalize u1 + i = j1 at *
    generalize l.getD j1 0 = x at *
    rw [acs_lp]; conv in Fr.code c26l1 => unfold c26l1
    by_cases hx : x < 0
    · have hx2 : ¬ 0 ≤ x := by omega
      simp only [hx2, decide_false, Bool.false_and] at hv
      simp (maxSteps:=1000000) (disch:=omega) only [go_sem, ↓reduceIte, reduceCtorEq, hlt, hb, hp, w1, w3, q1, f1, hx]
      exact hno hv.symm
    · have hx2 : 0 ≤ x := by omega
      simp only [hx2, decide_true, Bool.true_and] at hv
      simp (maxSteps:=1000000) (disch:=omega) only [go_sem, ↓reduceIte, reduceCtorEq, hlt, hb, hp, w1, w3, q1, f1, hx]
      refine inn2 ?_ ?_
      · intro hy
        rw [hy, Bool.true_and] at hv
        simp (maxSteps:=1000000) (disch:=omega) only [go_sem, ↓reduceIte, reduceCtorEq]
        exact ih2 hv
      · intro hy
        rw [hy, Bool.false_and] at hv
        exact hno hv.symm
theorem goodB_start (l : List Int) (n : Nat) : ((List.range' 0 (n - 0)).all fun i => decide (0 ≤ l.getD (i * n + i) 0) && symB l n i) = goodB l n := by
  rw [Nat.sub_zero, ← List.range_eq_range']
  rfl
theorem f26 {t : Tk} {H : Heap} (h : t.ok H) : ACall Try.prog 26 [.agg t.av] H (.bool (trkB t)) H := by
  refine acall26 (by simp) (acs_start ?_)
  obtain ⟨xr, xc, xl, xp, xo, xk, pr, pc, pl, pp, po, pk⟩ := t
  obtain ⟨hx, hp, lx, lp⟩ := h
  simp only at hx hp lx lp
  unfold Tk.av trkB
  simp only
  have gx := fun (G : Heap) => f49 (R := xr) (C := xc) (k := xk) (hx.app G) lx
  have gp := fun (G : Heap) => f49 (R := pr) (C := pc) (k := pk) (hp.app G) lp
  unfold c26
  simp (maxSteps:=1000000) (disch:=omega) only [go_sem, ↓reduceIte, reduceCtorEq]
  first | refine callB_intro (gx _) ?_ | refine callD_intro (gx _) ?_ | refine callP_intro (fun _ => (gx _)) ?_ | refine callX_pure (gx _) ?_
  simp (maxSteps:=1000000) (disch:=omega) only [go_sem, ↓reduceIte, reduceCtorEq]
  first | refine callB_intro (gp _) ?_ | refine callD_intro (gp _) ?_ | refine callP_intro (fun _ => (gp _)) ?_ | refine callX_pure (gp _) ?_
  cases h1 : rightB xr xc xl with
  | false =>
    simp only [Bool.false_and]
    simp (maxSteps:=1000000) (disch:=omega) only [go_sem, ↓reduceIte, reduceCtorEq]
    exact fin_ext (by simp) (Ext.app _ _) (by simp (maxSteps:=1000000) (disch:=omega) only [resVal, resAll, resOne, rs26, Env.get, go_sem, ↓reduceIte, reduceCtorEq]) (by simp only [AV.und, AV.unds, and_self])
  | true =>
  cases h2 : rightB pr pc pl with
  | false =>
    simp only [Bool.true_and, Bool.false_and]
    simp (maxSteps:=1000000) (disch:=omega) only [go_sem, ↓reduceIte, reduceCtorEq]
    exact fin_ext (by simp) (Ext.app _ _) (by simp (maxSteps:=1000000) (disch:=omega) only [resVal, resAll, resOne, rs26, Env.get, go_sem, ↓reduceIte, reduceCtorEq]) (by simp only [AV.und, AV.unds, and_self])
  | true =>
  by_cases h3 : xc = 1
  · by_cases h4 : pr = xr
    · by_cases h5 : pc = xr
      · obtain ⟨⟨a1, a2⟩, _, a3, _⟩ := rightB_len h1
        obtain ⟨_, _, a4, _⟩ := rightB_len h2
        subst h4 h5
        obtain ⟨n, rfl⟩ : ∃ n : Nat, pc = (n : Int) := ⟨pc.toNat, by omega⟩
        have hl : pl.length = n * n := by rw [← Int.natCast_mul] at a4; omega
        simp only [h3, decide_true, Bool.true_and, Bool.and_true, Int.toNat_natCast]
        simp (maxSteps:=1000000) (disch:=omega) only [go_sem, ↓reduceIte, reduceCtorEq, h3]
        refine f26_out (n := n) (l := pl) (by simp only [go_sem, ↓reduceIte, reduceCtorEq]; rfl) (hp.app _) hl (by omega) ?_ ?_ n 0 (by omega) (goodB_start pl n)
        · intro hg
          rw [hg]
          simp (maxSteps:=1000000) (disch:=omega) only [go_sem, ↓reduceIte, reduceCtorEq]
          exact fin_ext (by simp) (Ext.app _ _) (by simp (maxSteps:=1000000) (disch:=omega) only [resVal, resAll, resOne, rs26, Env.get, go_sem, ↓reduceIte, reduceCtorEq]) (by simp only [AV.und, AV.unds, and_self])
        · intro hg
          rw [hg]
          exact fin_ext (by simp) (Ext.app _ _) (by simp (maxSteps:=1000000) (disch:=omega) only [resVal, resAll, resOne, rs26, Env.get, go_sem, ↓reduceIte, reduceCtorEq]) (by simp only [AV.und, AV.unds, and_self])
      · simp only [h3, h4, h5, decide_true, decide_false, Bool.true_and, Bool.false_and, Bool.and_false, Bool.and_true]
        simp (maxSteps:=1000000) (disch:=omega) only [go_sem, ↓reduceIte, reduceCtorEq, h3, h4, h5]
        exact fin_ext (by simp) (Ext.app _ _) (by simp (maxSteps:=1000000) (disch:=omega) only [resVal, resAll, resOne, rs26, Env.get, go_sem, ↓reduceIte, reduceCtorEq]) (by simp only [AV.und, AV.unds, and_self])
    · simp only [h3, h4, decide_true, decide_false, Bool.true_and, Bool.false_and, Bool.and_false, Bool.and_true]
      simp (maxSteps:=1000000) (disch:=omega) only [go_sem, ↓reduceIte, reduceCtorEq, h3, h4]
      exact fin_ext (by simp) (Ext.app _ _) (by simp (maxSteps:=1000000) (disch:=omega) only [resVal, resAll, resOne, rs26, Env.get, go_sem, ↓reduceIte, reduceCtorEq]) (by simp only [AV.und, AV.unds, and_self])
  · simp only [h3, decide_true, decide_false, Bool.true_and, Bool.false_and, Bool.and_false, Bool.and_true]
    simp (maxSteps:=1000000) (disch:=omega) only [go_sem, ↓reduceIte, reduceCtorEq, h3]
    exact fin_ext (by simp) (Ext.app _ _) (by simp (maxSteps:=1000000) (disch:=omega) only [resVal, resAll, resOne, rs26, Env.get, go_sem, ↓reduceIte, reduceCtorEq]) (by simp only [AV.und, AV.unds, and_self])

def trL (l : List Int) (n : Nat) : List Int := matL (fun i k => l.getD (k * n + i) 0) n n
def dgB (l : List Int) (n : Nat) : Bool := (List.range n).all fun i => decide (0 ≤ l.getD (i * n + i) 0)
theorem matL_get {q : Nat → Nat → Int} {r c i k : Nat} (hi : i < r) (hk : k < c) : (matL q r c).getD (i * c + k) 0 = q i k := by
  induction r with
  | zero => omega
  | succ r ih =>
    rw [matL_succ]
    by_cases h : i < r
    · have hlt : i * c + k < (matL q r c).length := by rw [matL_len]; exact ix_lt h hk
      rw [List.getD_eq_getElem?_getD, List.getElem?_append_left hlt, ← List.getD_eq_getElem?_getD]
      exact ih h
    · obtain rfl : i = r := by omega
      rw [List.getD_eq_getElem?_getD, List.getElem?_append_right (by rw [matL_len]; omega), matL_len, Nat.add_sub_cancel_left]
      unfold rowL
      simp [hk]
theorem matL_eq {q : Nat → Nat → Int} {l : List Int} {n : Nat} (hl : l.length = n * n) (h : ∀ i k, i < n → k < n → l.getD (i * n + k) 0 = q i k) : l = matL q n n := by
  apply List.ext_getElem?
  intro j
  by_cases hj : j < n * n
  · have hn : 0 < n := by
      rcases Nat.eq_zero_or_pos n with h0 | h0
      · subst h0
        simp at hj
      · exact h0
    have e : j = j / n * n + j % n := by rw [Nat.mul_comm]; exact (Nat.div_add_mod j n).symm
    have h1 : j / n < n := Nat.div_lt_of_lt_mul hj
    have h2 : j % n < n := Nat.mod_lt _ hn
    have g1 := h _ _ h1 h2
    have g2 := matL_get (q := q) h1 h2
    rw [← e] at g1 g2
    rw [List.getElem?_eq_getElem (by omega), List.getElem?_eq_getElem (by rw [matL_len]; exact hj)]
    congr 1
    rw [List.getD_eq_getElem?_getD, List.getElem?_eq_getElem (by omega)] at g1
    rw [List.getD_eq_getElem?_getD, List.getElem?_eq_getElem (by rw [matL_len]; exact hj)] at g2
    simp only [Option.getD_some] at g1 g2
    rw [g1, g2]
  · rw [List.getElem?_eq_none (by omega), List.getElem?_eq_none (by rw [matL_len]; omega)]
theorem goodB_split {l : List Int} {n : Nat} (hl : l.length = n * n) : goodB l n = (decide (l = trL l n) && dgB l n) := by
  rw [Bool.eq_iff_iff]
  unfold goodB dgB symB
  simp only [List.all_eq_true, List.mem_range, Bool.and_eq_true, decide_eq_true_eq]
  constructor
  · intro h
    refine ⟨matL_eq hl fun i k hi hk => ?_, fun i hi => (h i hi).1⟩
    rcases Nat.lt_trichotomy i k with hik | rfl | hik
    · exact ((h k hk).2 i hik).symm
    · rfl
    · exact (h i hi).2 k hik
  · rintro ⟨h1, h2⟩ i hi
    refine ⟨h2 i hi, fun k hk => ?_⟩
    have := matL_get (q := fun i k => l.getD (k * n + i) 0) hi (show k < n by omega)
    change (trL l n).getD (i * n + k) 0 = _ at this
    rw [← h1] at this
    exact this
theorem f55_loop {l : List Int} {n b pp po : Nat} {pk xk : Option Nat} {xr xc pr pc : Int} {xp xo xn : Nat} {o : Bool} {H : Heap} {Q : Post} {fs : List Fr} (hb : blkAt H b = some ⟨[.int .i64 xr, .int .i64 xc, .sl xp xo xn 1 xk, .int .i64 pr, .int .i64 pc, .sl pp po l.length 1 pk], o⟩) (hs : Sl i64 H pp po l) (hl : l.length = n * n) (hn : n ≤ 8)
    (hyes : dgB l n = true → leave Try.prog 0 fs [] H Q) (hno : dgB l n = false → Q .ret [(2, .bool false)] H) :
    ∀ (r i : Nat), i + r = n → ((List.range' i (n - i)).all fun i => decide (0 ≤ l.getD (i * n + i) 0)) = dgB l n →
    acs Try.prog (.lp c55l0 :: fs) [(1, .ptr b 0), (3, .int .i64 (n : Int)), (47, .int .i64 (n : Int)), (48, .int .i64 (i : Int))] H Q := by
  obtain ⟨cs, oo, hp, hle, hcs⟩ := hs
  intro r
  induction r with
  | zero =>
    intro i hr hv
    obtain rfl : i = n := by omega
    have hge : ¬ (i : Int) < (i : Int) := by omega
    rw [range_all_end] at hv
    rw [acs_lp]; conv in Fr.code c55l0 => unfold c55l0
    simp (maxSteps:=1000000) (disch:=omega) only [go_sem, ↓reduceIte, reduceCtorEq, hge]
    exact hyes hv.symm
  | succ r ih =>
    intro i hr hv
    have hlt : (i : Int) < (n : Int) := by omega
    rw [range_all_split _ i n (by omega)] at hv
    have b1 : i * n + i < l.length := by rw [hl]; exact ix_lt (by omega) (by omega)
    have hn64 : n * n ≤ 64 := Nat.mul_le_mul hn hn
    have g1 : l[i * n + i]? = some (l.getD (i * n + i) 0) := by rw [List.getD_eq_getElem?_getD, List.getElem?_eq_getElem b1]; rfl
    have f1 : cs[po + (i * n + i)]? = some (.int .i64 (l.getD (i * n + i) 0)) := sl_get hcs g1
    have w1 : IntKind.i64.wrap ((i : Int) * (n : Int)) = ((i * n : Nat) : Int) := by rw [i64_in _ (by constructor <;> (rw [← Int.natCast_mul]; omega))]; simp
    have w3 : IntKind.i64.wrap (((i * n : Nat) : Int) + (i : Int)) = ((i * n + i : Nat) : Int) := by rw [i64_in _ (by omega)]; omega
    have q1 : ((i * n + i : Nat) : Int) < (l.length : Int) := by omega
    have ih2 := ih (i + 1) (by omega)
    clear ih
    generalize i * n = u1 at *
    generalize u1 + i = j1 at *
    generalize l.getD j1 0 = x at *
    rw [acs_lp]; conv in Fr.code c55l0 => unfold c55l0
    by_cases hx : x < 0
    · have hx2 : ¬ 0 ≤ x := by omega
      simp only [hx2, decide_false, Bool.false_and] at hv
      simp (maxSteps:=1000000) (disch:=omega) only [go_sem, ↓reduceIte, reduceCtorEq, hlt, hb, hp, w1, w3, q1, f1, hx]
      exact hno hv.symm
    · have hx2 : 0 ≤ x := by omega
      simp only [hx2, decide_true, Bool.true_and] at hv
      simp (maxSteps:=1000000) (disch:=omega) only [go_sem, ↓reduceIte, reduceCtorEq, hlt, hb, hp, w1, w3, q1, f1, hx]
      exact ih2 hv
theorem dgB_start (l : List Int) (n : Nat) : ((List.range' 0 (n - 0)).all fun i => decide (0 ≤ l.getD (i * n + i) 0)) = dgB l n := by
  rw [Nat.sub_zero, ← List.range_eq_range']
  rfl
theorem f55 {t : Tk} {H : Heap} (h : t.ok H) : ACall Try.prog 55 [.agg t.av] H (.bool (trkB t)) H := by
  refine acall55 (by simp) (acs_start ?_)
  obtain ⟨xr, xc, xl, xp, xo, xk, pr, pc, pl, pp, po, pk⟩ := t
  obtain ⟨hx, hp, lx, lp⟩ := h
  simp only at hx hp lx lp
  unfold Tk.av trkB
  simp only
  have gx := fun (G : Heap) => f71 (R := xr) (C := xc) (k := xk) (hx.app G) lx
  have gp := fun (G : Heap) => f71 (R := pr) (C := pc) (k := pk) (hp.app G) lp
  unfold c55
  simp (maxSteps:=1000000) (disch:=omega) only [go_sem, ↓reduceIte, reduceCtorEq]
  first | refine callB_intro (gx _) ?_ | refine callD_intro (gx _) ?_ | refine callP_intro (fun _ => (gx _)) ?_ | refine callX_pure (gx _) ?_
  cases h1 : rightB xr xc xl with
  | false =>
    simp only [Bool.false_and]
    simp (maxSteps:=1000000) (disch:=omega) only [go_sem, ↓reduceIte, reduceCtorEq]
    exact fin_ext (by simp) (Ext.app _ _) (by simp (maxSteps:=1000000) (disch:=omega) only [resVal, resAll, resOne, rs55, Env.get, go_sem, ↓reduceIte, reduceCtorEq]) (by simp only [AV.und, AV.unds, and_self])
  | true =>
  simp (maxSteps:=1000000) (disch:=omega) only [go_sem, ↓reduceIte, reduceCtorEq]
  first | refine callB_intro (gp _) ?_ | refine callD_intro (gp _) ?_ | refine callP_intro (fun _ => (gp _)) ?_ | refine callX_pure (gp _) ?_
  cases h2 : rightB pr pc pl with
  | false =>
    simp only [Bool.true_and, Bool.false_and]
    simp (maxSteps:=1000000) (disch:=omega) only [go_sem, ↓reduceIte, reduceCtorEq]
    exact fin_ext (by simp) (Ext.app _ _) (by simp (maxSteps:=1000000) (disch:=omega) only [resVal, resAll, resOne, rs55, Env.get, go_sem, ↓reduceIte, reduceCtorEq]) (by simp only [AV.und, AV.unds, and_self])
  | true =>
  by_cases h3 : xc = 1
  · by_cases h4 : pr = xr
    · by_cases h5 : pc = xr
      · obtain ⟨⟨a1, a2⟩, _, a3, _⟩ := rightB_len h1
        obtain ⟨_, _, a4, a5⟩ := rightB_len h2
        subst h4 h5
        obtain ⟨n, rfl⟩ : ∃ n : Nat, pc = (n : Int) := ⟨pc.toNat, by omega⟩
        have hl : pl.length = n * n := by rw [← Int.natCast_mul] at a4; omega
        simp only [h3, decide_true, Bool.true_and, Bool.and_true, Int.toNat_natCast, goodB_split hl]
        have hm : ∀ G, (Mx.mk n n pl pp po pk).ok (H ++ G) := fun G => ⟨by simp only; omega, by simp only; omega, hl, fun x hx => inb_iff.1 (List.all_eq_true.1 a5 x hx), hp.app G⟩
        have gt := fun G => f73 (hm G)
        unfold Mx.av at gt
        simp only at gt
        simp (maxSteps:=1000000) (disch:=omega) only [go_sem, ↓reduceIte, reduceCtorEq, h3]
        first | refine callBE (gt _) ?_ | refine callDE (gt _) ?_ | refine callXE (gt _) ?_
        rintro v H' hx' ⟨w, rfl, p2, o2, k2, rfl, hs2⟩
        have hx0 := (Ext.app H _).trans hx'
        have e : matL (fun i k => (Mx.mk n n pl pp po pk).at k i) n n = trL pl n := rfl
        rw [e] at hs2 ⊢
        have g72 := f72 (R1 := (n : Int)) (C1 := (n : Int)) (R2 := (n : Int)) (C2 := (n : Int)) (k1 := pk) (k2 := k2) (hx0.sl hp) hs2 lp
        have es : sameB (n : Int) (n : Int) pl (n : Int) (n : Int) (trL pl n) = decide (pl = trL pl n) := by unfold sameB; simp
        rw [es] at g72
        have hb := hx'.blk (b := H.length) (by simp only [go_sem, ↓reduceIte, reduceCtorEq]; rfl)
        simp (maxSteps:=1000000) (disch:=omega) only [go_sem, ↓reduceIte, reduceCtorEq]
        first | refine callB_intro (g72) ?_ | refine callD_intro (g72) ?_ | refine callP_intro (fun _ => (g72)) ?_ | refine callX_pure (g72) ?_
        cases hd : decide (pl = trL pl n) with
        | false =>
          simp only [Bool.false_and]
          simp (maxSteps:=1000000) (disch:=omega) only [go_sem, ↓reduceIte, reduceCtorEq]
          exact fin_ext (by simp) hx0 (by simp (maxSteps:=1000000) (disch:=omega) only [resVal, resAll, resOne, rs55, Env.get, go_sem, ↓reduceIte, reduceCtorEq]) (by simp only [AV.und, AV.unds, and_self])
        | true =>
          simp only [Bool.true_and]
          simp (maxSteps:=1000000) (disch:=omega) only [go_sem, ↓reduceIte, reduceCtorEq]
          refine f55_loop (n := n) (l := pl) hb (hx0.sl hp) hl (by omega) ?_ ?_ n 0 (by omega) (dgB_start pl n)
          · intro hg
            rw [hg]
            simp (maxSteps:=1000000) (disch:=omega) only [go_sem, ↓reduceIte, reduceCtorEq]
            exact fin_ext (by simp) hx0 (by simp (maxSteps:=1000000) (disch:=omega) only [resVal, resAll, resOne, rs55, Env.get, go_sem, ↓reduceIte, reduceCtorEq]) (by simp only [AV.und, AV.unds, and_self])
          · intro hg
            rw [hg]
            exact fin_ext (by simp) hx0 (by simp (maxSteps:=1000000) (disch:=omega) only [resVal, resAll, resOne, rs55, Env.get, go_sem, ↓reduceIte, reduceCtorEq]) (by simp only [AV.und, AV.unds, and_self])
      · simp only [h3, h4, h5, decide_true, decide_false, Bool.true_and, Bool.false_and, Bool.and_false, Bool.and_true]
        simp (maxSteps:=1000000) (disch:=omega) only [go_sem, ↓reduceIte, reduceCtorEq, h3, h4, h5]
        exact fin_ext (by simp) (Ext.app _ _) (by simp (maxSteps:=1000000) (disch:=omega) only [resVal, resAll, resOne, rs55, Env.get, go_sem, ↓reduceIte, reduceCtorEq]) (by simp only [AV.und, AV.unds, and_self])
    · simp only [h3, h4, decide_true, decide_false, Bool.true_and, Bool.false_and, Bool.and_false, Bool.and_true]
      simp (maxSteps:=1000000) (disch:=omega) only [go_sem, ↓reduceIte, reduceCtorEq, h3, h4]
      exact fin_ext (by simp) (Ext.app _ _) (by simp (maxSteps:=1000000) (disch:=omega) only [resVal, resAll, resOne, rs55, Env.get, go_sem, ↓reduceIte, reduceCtorEq]) (by simp only [AV.und, AV.unds, and_self])
  · simp only [h3, decide_true, decide_false, Bool.true_and, Bool.false_and, Bool.and_false, Bool.and_true]
    simp (maxSteps:=1000000) (disch:=omega) only [go_sem, ↓reduceIte, reduceCtorEq, h3]
    exact fin_ext (by simp) (Ext.app _ _) (by simp (maxSteps:=1000000) (disch:=omega) only [resVal, resAll, resOne, rs55, Env.get, go_sem, ↓reduceIte, reduceCtorEq]) (by simp only [AV.und, AV.unds, and_self])

def ixp (odd : Int → Bool) : List Int → Int → Int
  | [], _ => -1
  | x :: r, j => if odd x then j else ixp odd r (j + 1)
theorem ixp_any (odd : Int → Bool) : ∀ (l : List Int) (j : Int), 0 ≤ j → (decide (0 ≤ ixp odd l j)) = l.any odd
  | [], j, h => rfl
  | x :: r, j, h => by
    unfold ixp
    cases hx : odd x with
    | true => rw [if_pos rfl]; simp [hx, h]
    | false => rw [if_neg (by simp), ixp_any odd r (j + 1) (by omega)]; simp [hx]
theorem f62p {odd : Int → Bool} {g : FuncId} (hb : hasBody Try.prog g = true) (ho : ∀ a H, ACall Try.prog g [.int .i64 a] H (.bool (odd a)) H) {l : List Int} {p off : Nat} {k : Option Nat} {H : Heap} (hs : Sl i64 H p off l) (hl : l.length ≤ 4611686018427387904) : ACall Try.prog 62 [.sl p off l.length 1 k, .fn (.func g) [] []] H (.int .i64 (ixp odd l 0)) H := by
  refine acall62 (by simp) (acs_start ?_)
  obtain ⟨cs, o, hp, hle, hcs⟩ := hs
  have hpl := blkAt_lt hp
  have g1 := fun x => ho x H
  unfold c62
  simp (maxSteps:=1000000) (disch:=omega) only [go_sem, ↓reduceIte, reduceCtorEq]
  refine loop_list (fun r T H' => ∃ j : Nat, T = [(0, .sl p off l.length 1 k), (1, .fn (.func g) [] []), (7, .int .i64 (l.length : Nat)), (8, .int .i64 (j : Nat))] ∧ H' = H ∧ l.drop j = r ∧ j + r.length = l.length ∧ ixp odd l 0 = ixp odd r j) ?_ ?_ l _ _ ⟨0, rfl, rfl, rfl, by simp, rfl⟩
  · rintro x r T H' ⟨j, rfl, rfl, hd, hj, hi⟩ nx
    obtain ⟨h1, h2, h3⟩ := drop_cons hd
    have hjl : (j : Int) < (l.length : Int) := by omega
    have fx : cs[off + j]? = some (.int .i64 x) := sl_get hcs h1
    have hi0 := hi
    rw [hi]
    rw [acs_lp]; conv in Fr.code c62l0 => unfold c62l0
    simp (maxSteps:=1000000) (disch:=omega) only [go_sem, ↓reduceIte, reduceCtorEq, hjl, hpl, hp, fx, hb]
    first | refine callB_intro (g1 _) ?_ | refine callD_intro (g1 _) ?_ | refine callP_intro (fun _ => (g1 _)) ?_ | refine callX_pure (g1 _) ?_
    cases hx : odd x with
    | false =>
      have e1 : ixp odd (x :: r) (j : Int) = ixp odd r ((j + 1 : Nat) : Int) := by rw [ixp, hx]; rfl
      rw [e1]
      rw [e1] at hi
      simp (maxSteps:=1000000) (disch:=omega) only [go_sem, ↓reduceIte, reduceCtorEq]
      rw [← hi]
      refine nx _ _ ⟨j + 1, ?_, rfl, h2, by simp at hj; omega, hi⟩
      simp
    | true =>
      have e1 : ixp odd (x :: r) (j : Int) = (j : Int) := by rw [ixp, hx]; rfl
      rw [e1]
      simp (maxSteps:=1000000) (disch:=omega) only [go_sem, ↓reduceIte, reduceCtorEq]
      exact fin_same (by simp) _ (by first | exact (List.append_nil _).symm | rfl) (by simp (maxSteps:=1000000) (disch:=omega) only [resVal, resAll, resOne, rs62, Env.get, go_sem, ↓reduceIte, reduceCtorEq]) (by simp only [AV.und, AV.unds, and_self])
  · rintro T H' ⟨j, rfl, rfl, hd, hj, hi⟩
    obtain rfl : j = l.length := by simpa using hj
    rw [hi, ixp]
    rw [acs_lp]; conv in Fr.code c62l0 => unfold c62l0
    simp (maxSteps:=1000000) (disch:=omega) only [go_sem, ↓reduceIte, reduceCtorEq, Int.lt_irrefl]
    exact fin_same (by simp) _ (by first | exact (List.append_nil _).symm | rfl) (by simp (maxSteps:=1000000) (disch:=omega) only [resVal, resAll, resOne, rs62, Env.get, go_sem, ↓reduceIte, reduceCtorEq]) (by simp only [AV.und, AV.unds, and_self])
theorem f37p {odd : Int → Bool} {g : FuncId} (hb : hasBody Try.prog g = true) (ho : ∀ a H, ACall Try.prog g [.int .i64 a] H (.bool (odd a)) H) {l : List Int} {p off : Nat} {k : Option Nat} {H : Heap} (hs : Sl i64 H p off l) (hl : l.length ≤ 4611686018427387904) : ACall Try.prog 37 [.sl p off l.length 1 k, .fn (.func g) [] []] H (.bool (l.any odd)) H := by
  refine acall37 (by simp) (acs_start ?_)
  have g1 := f62p (k := k) hb ho hs hl
  have e := ixp_any odd l 0 (Int.le_refl _)
  unfold c37
  simp (maxSteps:=1000000) (disch:=omega) only [go_sem, ↓reduceIte, reduceCtorEq]
  first | refine callB_intro (g1) ?_ | refine callD_intro (g1) ?_ | refine callP_intro (fun _ => (g1)) ?_ | refine callX_pure (g1) ?_
  simp (maxSteps:=1000000) (disch:=omega) only [go_sem, ↓reduceIte, reduceCtorEq, e]
  exact fin_same (by simp) _ (by first | exact (List.append_nil _).symm | rfl) (by simp (maxSteps:=1000000) (disch:=omega) only [resVal, resAll, resOne, rs37, Env.get, go_sem, ↓reduceIte, reduceCtorEq]) (by simp only [AV.und, AV.unds, and_self])
theorem f74p {odd : Int → Bool} {g : FuncId} (hb : hasBody Try.prog g = true) (ho : ∀ a H, ACall Try.prog g [.int .i64 a] H (.bool (odd a)) H) {l : List Int} {p off : Nat} {k : Option Nat} {H : Heap} (hs : Sl i64 H p off l) (hl : l.length ≤ 4611686018427387904) : ACall Try.prog 74 [.sl p off l.length 1 k, .fn (.func g) [] []] H (.int .i64 (ixp odd l 0)) H := by
  refine acall74 (by simp) (acs_start ?_)
  obtain ⟨cs, o, hp, hle, hcs⟩ := hs
  have hpl := blkAt_lt hp
  have g1 := fun x => ho x H
  unfold c74
  simp (maxSteps:=1000000) (disch:=omega) only [go_sem, ↓reduceIte, reduceCtorEq]
  refine loop_list (fun r T H' => ∃ j : Nat, T = [(0, .sl p off l.length 1 k), (1, .fn (.func g) [] []), (7, .int .i64 (l.length : Nat)), (8, .int .i64 (j : Nat))] ∧ H' = H ∧ l.drop j = r ∧ j + r.length = l.length ∧ ixp odd l 0 = ixp odd r j) ?_ ?_ l _ _ ⟨0, rfl, rfl, rfl, by simp, rfl⟩
  · rintro x r T H' ⟨j, rfl, rfl, hd, hj, hi⟩ nx
    obtain ⟨h1, h2, h3⟩ := drop_cons hd
    have hjl : (j : Int) < (l.length : Int) := by omega
    have fx : cs[off + j]? = some (.int .i64 x) := sl_get hcs h1
    have hi0 := hi
    rw [hi]
    rw [acs_lp]; conv in Fr.code c74l0 => unfold c74l0
    simp (maxSteps:=1000000) (disch:=omega) only [go_sem, ↓reduceIte, reduceCtorEq, hjl, hpl, hp, fx, hb]
    first | refine callB_intro (g1 _) ?_ | refine callD_intro (g1 _) ?_ | refine callP_intro (fun _ => (g1 _)) ?_ | refine callX_pure (g1 _) ?_
    cases hx : odd x with
    | false =>
      have e1 : ixp odd (x :: r) (j : Int) = ixp odd r ((j + 1 : Nat) : Int) := by rw [ixp, hx]; rfl
      rw [e1]
      rw [e1] at hi
      simp (maxSteps:=1000000) (disch:=omega) only [go_sem, ↓reduceIte, reduceCtorEq]
      rw [← hi]
      refine nx _ _ ⟨j + 1, ?_, rfl, h2, by simp at hj; omega, hi⟩
      simp
    | true =>
      have e1 : ixp odd (x :: r) (j : Int) = (j : Int) := by rw [ixp, hx]; rfl
      rw [e1]
      simp (maxSteps:=1000000) (disch:=omega) only [go_sem, ↓reduceIte, reduceCtorEq]
      exact fin_same (by simp) _ (by first | exact (List.append_nil _).symm | rfl) (by simp (maxSteps:=1000000) (disch:=omega) only [resVal, resAll, resOne, rs74, Env.get, go_sem, ↓reduceIte, reduceCtorEq]) (by simp only [AV.und, AV.unds, and_self])
  · rintro T H' ⟨j, rfl, rfl, hd, hj, hi⟩
    obtain rfl : j = l.length := by simpa using hj
    rw [hi, ixp]
    rw [acs_lp]; conv in Fr.code c74l0 => unfold c74l0
    simp (maxSteps:=1000000) (disch:=omega) only [go_sem, ↓reduceIte, reduceCtorEq, Int.lt_irrefl]
    exact fin_same (by simp) _ (by first | exact (List.append_nil _).symm | rfl) (by simp (maxSteps:=1000000) (disch:=omega) only [resVal, resAll, resOne, rs74, Env.get, go_sem, ↓reduceIte, reduceCtorEq]) (by simp only [AV.und, AV.unds, and_self])
theorem f58p {odd : Int → Bool} {g : FuncId} (hb : hasBody Try.prog g = true) (ho : ∀ a H, ACall Try.prog g [.int .i64 a] H (.bool (odd a)) H) {l : List Int} {p off : Nat} {k : Option Nat} {H : Heap} (hs : Sl i64 H p off l) (hl : l.length ≤ 4611686018427387904) : ACall Try.prog 58 [.sl p off l.length 1 k, .fn (.func g) [] []] H (.bool (l.any odd)) H := by
  refine acall58 (by simp) (acs_start ?_)
  have g1 := f74p (k := k) hb ho hs hl
  have e := ixp_any odd l 0 (Int.le_refl _)
  unfold c58
  simp (maxSteps:=1000000) (disch:=omega) only [go_sem, ↓reduceIte, reduceCtorEq]
  first | refine callB_intro (g1) ?_ | refine callD_intro (g1) ?_ | refine callP_intro (fun _ => (g1)) ?_ | refine callX_pure (g1) ?_
  simp (maxSteps:=1000000) (disch:=omega) only [go_sem, ↓reduceIte, reduceCtorEq, e]
  exact fin_same (by simp) _ (by first | exact (List.append_nil _).symm | rfl) (by simp (maxSteps:=1000000) (disch:=omega) only [resVal, resAll, resOne, rs58, Env.get, go_sem, ↓reduceIte, reduceCtorEq]) (by simp only [AV.und, AV.unds, and_self])
theorem f87p {odd : Int → Bool} {g : FuncId} (hb : hasBody Try.prog g = true) (ho : ∀ a H, ACall Try.prog g [.int .i64 a] H (.bool (odd a)) H) {l : List Int} {p off : Nat} {k : Option Nat} {H : Heap} (hs : Sl i64 H p off l) (hl : l.length ≤ 4611686018427387904) : ACall Try.prog 87 [.sl p off l.length 1 k, .fn (.func g) [] []] H (.int .i64 (ixp odd l 0)) H := by
  refine acall87 (by simp) (acs_start ?_)
  obtain ⟨cs, o, hp, hle, hcs⟩ := hs
  have hpl := blkAt_lt hp
  have g1 := fun x => ho x H
  unfold c87
  simp (maxSteps:=1000000) (disch:=omega) only [go_sem, ↓reduceIte, reduceCtorEq]
  refine loop_list (fun r T H' => ∃ j : Nat, T = [(0, .sl p off l.length 1 k), (1, .fn (.func g) [] []), (7, .int .i64 (l.length : Nat)), (8, .int .i64 (j : Nat))] ∧ H' = H ∧ l.drop j = r ∧ j + r.length = l.length ∧ ixp odd l 0 = ixp odd r j) ?_ ?_ l _ _ ⟨0, rfl, rfl, rfl, by simp, rfl⟩
  · rintro x r T H' ⟨j, rfl, rfl, hd, hj, hi⟩ nx
    obtain ⟨h1, h2, h3⟩ := drop_cons hd
    have hjl : (j : Int) < (l.length : Int) := by omega
    have fx : cs[off + j]? = some (.int .i64 x) := sl_get hcs h1
    have hi0 := hi
    rw [hi]
    rw [acs_lp]; conv in Fr.code c87l0 => unfold c87l0
    simp (maxSteps:=1000000) (disch:=omega) only [go_sem, ↓reduceIte, reduceCtorEq, hjl, hpl, hp, fx, hb]
    first | refine callB_intro (g1 _) ?_ | refine callD_intro (g1 _) ?_ | refine callP_intro (fun _ => (g1 _)) ?_ | refine callX_pure (g1 _) ?_
    cases hx : odd x with
    | false =>
      have e1 : ixp odd (x :: r) (j : Int) = ixp odd r ((j + 1 : Nat) : Int) := by rw [ixp, hx]; rfl
      rw [e1]
      rw [e1] at hi
      simp (maxSteps:=1000000) (disch:=omega) only [go_sem, ↓reduceIte, reduceCtorEq]
      rw [← hi]
      refine nx _ _ ⟨j + 1, ?_, rfl, h2, by simp at hj; omega, hi⟩
      simp
    | true =>
      have e1 : ixp odd (x :: r) (j : Int) = (j : Int) := by rw [ixp, hx]; rfl
      rw [e1]
      simp (maxSteps:=1000000) (disch:=omega) only [go_sem, ↓reduceIte, reduceCtorEq]
      exact fin_same (by simp) _ (by first | exact (List.append_nil _).symm | rfl) (by simp (maxSteps:=1000000) (disch:=omega) only [resVal, resAll, resOne, rs87, Env.get, go_sem, ↓reduceIte, reduceCtorEq]) (by simp only [AV.und, AV.unds, and_self])
  · rintro T H' ⟨j, rfl, rfl, hd, hj, hi⟩
    obtain rfl : j = l.length := by simpa using hj
    rw [hi, ixp]
    rw [acs_lp]; conv in Fr.code c87l0 => unfold c87l0
    simp (maxSteps:=1000000) (disch:=omega) only [go_sem, ↓reduceIte, reduceCtorEq, Int.lt_irrefl]
    exact fin_same (by simp) _ (by first | exact (List.append_nil _).symm | rfl) (by simp (maxSteps:=1000000) (disch:=omega) only [resVal, resAll, resOne, rs87, Env.get, go_sem, ↓reduceIte, reduceCtorEq]) (by simp only [AV.und, AV.unds, and_self])
theorem f77p {odd : Int → Bool} {g : FuncId} (hb : hasBody Try.prog g = true) (ho : ∀ a H, ACall Try.prog g [.int .i64 a] H (.bool (odd a)) H) {l : List Int} {p off : Nat} {k : Option Nat} {H : Heap} (hs : Sl i64 H p off l) (hl : l.length ≤ 4611686018427387904) : ACall Try.prog 77 [.sl p off l.length 1 k, .fn (.func g) [] []] H (.bool (l.any odd)) H := by
  refine acall77 (by simp) (acs_start ?_)
  have g1 := f87p (k := k) hb ho hs hl
  have e := ixp_any odd l 0 (Int.le_refl _)
  unfold c77
  simp (maxSteps:=1000000) (disch:=omega) only [go_sem, ↓reduceIte, reduceCtorEq]
  first | refine callB_intro (g1) ?_ | refine callD_intro (g1) ?_ | refine callP_intro (fun _ => (g1)) ?_ | refine callX_pure (g1) ?_
  simp (maxSteps:=1000000) (disch:=omega) only [go_sem, ↓reduceIte, reduceCtorEq, e]
  exact fin_same (by simp) _ (by first | exact (List.append_nil _).symm | rfl) (by simp (maxSteps:=1000000) (disch:=omega) only [resVal, resAll, resOne, rs77, Env.get, go_sem, ↓reduceIte, reduceCtorEq]) (by simp only [AV.und, AV.unds, and_self])
def okO (n : Int) : Bool := decide (0 ≤ n) && decide (n ≤ 1000)
theorem f56 {a : Int} {H : Heap} : ACall Try.prog 56 [.int .i64 a] H (.bool (!okO a)) H := by
  refine acall56 (by simp) (acs_start ?_)
  unfold c56
  by_cases h : a < 0
  · have e : okO a = false := by unfold okO; simp; omega
    rw [e]
    simp (maxSteps:=1000000) (disch:=omega) only [go_sem, ↓reduceIte, reduceCtorEq, h]
    exact fin_ext (by simp) (Ext.refl _) (by simp (maxSteps:=1000000) (disch:=omega) only [resVal, resAll, resOne, rs56, Env.get, go_sem, ↓reduceIte, reduceCtorEq]) (by simp only [AV.und, AV.unds, and_self])
  · by_cases h2 : 1000 < a
    · have e : okO a = false := by unfold okO; simp; omega
      rw [e]
      simp (maxSteps:=1000000) (disch:=omega) only [go_sem, ↓reduceIte, reduceCtorEq, h, h2]
      exact fin_ext (by simp) (Ext.refl _) (by simp (maxSteps:=1000000) (disch:=omega) only [resVal, resAll, resOne, rs56, Env.get, go_sem, ↓reduceIte, reduceCtorEq]) (by simp only [AV.und, AV.unds, and_self])
    · have e : okO a = true := by unfold okO; simp; omega
      rw [e]
      simp (maxSteps:=1000000) (disch:=omega) only [go_sem, ↓reduceIte, reduceCtorEq, h, h2]
      exact fin_ext (by simp) (Ext.refl _) (by simp (maxSteps:=1000000) (disch:=omega) only [resVal, resAll, resOne, rs56, Env.get, go_sem, ↓reduceIte, reduceCtorEq]) (by simp only [AV.und, AV.unds, and_self])
theorem hb56 : hasBody Try.prog 56 = true := by kernel_rfl
def q4B (a b c d : Int) : Bool := inb a && inb b && inb c && inb d
theorem f27 {a b c d : Int} {H : Heap} : ACall Try.prog 27 [.agg [.int .i64 a, .int .i64 b, .int .i64 c, .int .i64 d]] H (.bool (q4B a b c d)) H := by
  refine acall27 (by simp) (acs_start ?_)
  unfold c27 q4B
  simp (maxSteps:=1000000) (disch:=omega) only [go_sem, ↓reduceIte, reduceCtorEq]
  rw [acs_lp]; conv in Fr.code c27l0 => unfold c27l0
  simp (maxSteps:=1000000) (disch:=omega) only [go_sem, ↓reduceIte, reduceCtorEq]
  first | refine callB_intro (f50) ?_ | refine callD_intro (f50) ?_ | refine callP_intro (fun _ => (f50)) ?_ | refine callX_pure (f50) ?_
  cases ha : inb a with
  | false =>
    try simp only [Bool.false_and, Bool.true_and, Bool.and_false]
    simp (maxSteps:=1000000) (disch:=omega) only [go_sem, ↓reduceIte, reduceCtorEq]
    exact fin_ext (by simp) (Ext.app _ _) (by simp (maxSteps:=1000000) (disch:=omega) only [resVal, resAll, resOne, rs27, Env.get, go_sem, ↓reduceIte, reduceCtorEq]) (by simp only [AV.und, AV.unds, and_self])
  | true =>
  simp (maxSteps:=1000000) (disch:=omega) only [go_sem, ↓reduceIte, reduceCtorEq]
  rw [acs_lp]; conv in Fr.code c27l0 => unfold c27l0
  simp (maxSteps:=1000000) (disch:=omega) only [go_sem, ↓reduceIte, reduceCtorEq]
  first | refine callB_intro (f50) ?_ | refine callD_intro (f50) ?_ | refine callP_intro (fun _ => (f50)) ?_ | refine callX_pure (f50) ?_
  cases hb : inb b with
  | false =>
    try simp only [Bool.false_and, Bool.true_and, Bool.and_false]
    simp (maxSteps:=1000000) (disch:=omega) only [go_sem, ↓reduceIte, reduceCtorEq]
    exact fin_ext (by simp) (Ext.app _ _) (by simp (maxSteps:=1000000) (disch:=omega) only [resVal, resAll, resOne, rs27, Env.get, go_sem, ↓reduceIte, reduceCtorEq]) (by simp only [AV.und, AV.unds, and_self])
  | true =>
  simp (maxSteps:=1000000) (disch:=omega) only [go_sem, ↓reduceIte, reduceCtorEq]
  rw [acs_lp]; conv in Fr.code c27l0 => unfold c27l0
  simp (maxSteps:=1000000) (disch:=omega) only [go_sem, ↓reduceIte, reduceCtorEq]
  first | refine callB_intro (f50) ?_ | refine callD_intro (f50) ?_ | refine callP_intro (fun _ => (f50)) ?_ | refine callX_pure (f50) ?_
  cases hc : inb c with
  | false =>
    try simp only [Bool.false_and, Bool.true_and, Bool.and_false]
    simp (maxSteps:=1000000) (disch:=omega) only [go_sem, ↓reduceIte, reduceCtorEq]
    exact fin_ext (by simp) (Ext.app _ _) (by simp (maxSteps:=1000000) (disch:=omega) only [resVal, resAll, resOne, rs27, Env.get, go_sem, ↓reduceIte, reduceCtorEq]) (by simp only [AV.und, AV.unds, and_self])
  | true =>
  simp (maxSteps:=1000000) (disch:=omega) only [go_sem, ↓reduceIte, reduceCtorEq]
  rw [acs_lp]; conv in Fr.code c27l0 => unfold c27l0
  simp (maxSteps:=1000000) (disch:=omega) only [go_sem, ↓reduceIte, reduceCtorEq]
  first | refine callB_intro (f50) ?_ | refine callD_intro (f50) ?_ | refine callP_intro (fun _ => (f50)) ?_ | refine callX_pure (f50) ?_
  cases hd : inb d with
  | false =>
    try simp only [Bool.false_and, Bool.true_and, Bool.and_false]
    simp (maxSteps:=1000000) (disch:=omega) only [go_sem, ↓reduceIte, reduceCtorEq]
    exact fin_ext (by simp) (Ext.app _ _) (by simp (maxSteps:=1000000) (disch:=omega) only [resVal, resAll, resOne, rs27, Env.get, go_sem, ↓reduceIte, reduceCtorEq]) (by simp only [AV.und, AV.unds, and_self])
  | true =>
  simp (maxSteps:=1000000) (disch:=omega) only [go_sem, ↓reduceIte, reduceCtorEq]
  rw [acs_lp]; conv in Fr.code c27l0 => unfold c27l0
  simp (maxSteps:=1000000) (disch:=omega) only [go_sem, ↓reduceIte, reduceCtorEq]
  try simp only [Bool.and_self]
  exact fin_ext (by simp) (Ext.app _ _) (by simp (maxSteps:=1000000) (disch:=omega) only [resVal, resAll, resOne, rs27, Env.get, go_sem, ↓reduceIte, reduceCtorEq]) (by simp only [AV.und, AV.unds, and_self])
theorem inb_lo {a : Int} (h : a < -70368744177664) : inb a = false := by unfold inb; rw [decide_eq_false_iff_not]; omega
theorem inb_hi {a : Int} (h : 70368744177663 < a) : inb a = false := by unfold inb; rw [decide_eq_false_iff_not]; omega
theorem inb_ok {a : Int} (h : ¬ a < -70368744177664) (h2 : ¬ 70368744177663 < a) : inb a = true := by unfold inb; rw [decide_eq_true_iff]; omega
theorem f57 {a b c d : Int} {H : Heap} : ACall Try.prog 57 [.agg [.int .i64 a, .int .i64 b, .int .i64 c, .int .i64 d]] H (.bool (q4B a b c d)) H := by
  refine acall57 (by simp) (acs_start ?_)
  unfold c57 q4B
  simp (maxSteps:=1000000) (disch:=omega) only [go_sem, ↓reduceIte, reduceCtorEq]
  rw [acs_lp]; conv in Fr.code c57l0 => unfold c57l0
  by_cases la : a < -70368744177664
  · simp only [inb_lo la, Bool.false_and, Bool.true_and, Bool.and_false]
    simp (maxSteps:=1000000) (disch:=omega) only [go_sem, ↓reduceIte, reduceCtorEq, la]
    exact fin_ext (by simp) (Ext.app _ _) (by simp (maxSteps:=1000000) (disch:=omega) only [resVal, resAll, resOne, rs57, Env.get, go_sem, ↓reduceIte, reduceCtorEq]) (by simp only [AV.und, AV.unds, and_self])
  by_cases ga : 70368744177663 < a
  · simp only [inb_hi ga, Bool.false_and, Bool.true_and, Bool.and_false]
    simp (maxSteps:=1000000) (disch:=omega) only [go_sem, ↓reduceIte, reduceCtorEq, la, ga]
    exact fin_ext (by simp) (Ext.app _ _) (by simp (maxSteps:=1000000) (disch:=omega) only [resVal, resAll, resOne, rs57, Env.get, go_sem, ↓reduceIte, reduceCtorEq]) (by simp only [AV.und, AV.unds, and_self])
  simp (maxSteps:=1000000) (disch:=omega) only [go_sem, ↓reduceIte, reduceCtorEq, la, ga]
  rw [acs_lp]; conv in Fr.code c57l0 => unfold c57l0
  by_cases lb : b < -70368744177664
  · simp only [inb_lo lb, Bool.false_and, Bool.true_and, Bool.and_false]
    simp (maxSteps:=1000000) (disch:=omega) only [go_sem, ↓reduceIte, reduceCtorEq, lb]
    exact fin_ext (by simp) (Ext.app _ _) (by simp (maxSteps:=1000000) (disch:=omega) only [resVal, resAll, resOne, rs57, Env.get, go_sem, ↓reduceIte, reduceCtorEq]) (by simp only [AV.und, AV.unds, and_self])
  by_cases gb : 70368744177663 < b
  · simp only [inb_hi gb, Bool.false_and, Bool.true_and, Bool.and_false]
    simp (maxSteps:=1000000) (disch:=omega) only [go_sem, ↓reduceIte, reduceCtorEq, lb, gb]
    exact fin_ext (by simp) (Ext.app _ _) (by simp (maxSteps:=1000000) (disch:=omega) only [resVal, resAll, resOne, rs57, Env.get, go_sem, ↓reduceIte, reduceCtorEq]) (by simp only [AV.und, AV.unds, and_self])
  simp (maxSteps:=1000000) (disch:=omega) only [go_sem, ↓reduceIte, reduceCtorEq, lb, gb]
  rw [acs_lp]; conv in Fr.code c57l0 => unfold c57l0
  by_cases lc : c < -70368744177664
  · simp only [inb_lo lc, Bool.false_and, Bool.true_and, Bool.and_false]
    simp (maxSteps:=1000000) (disch:=omega) only [go_sem, ↓reduceIte, reduceCtorEq, lc]
    exact fin_ext (by simp) (Ext.app _ _) (by simp (maxSteps:=1000000) (disch:=omega) only [resVal, resAll, resOne, rs57, Env.get, go_sem, ↓reduceIte, reduceCtorEq]) (by simp only [AV.und, AV.unds, and_self])
  by_cases gc : 70368744177663 < c
  · simp only [inb_hi gc, Bool.false_and, Bool.true_and, Bool.and_false]
    simp (maxSteps:=1000000) (disch:=omega) only [go_sem, ↓reduceIte, reduceCtorEq, lc, gc]
    exact fin_ext (by simp) (Ext.app _ _) (by simp (maxSteps:=1000000) (disch:=omega) only [resVal, resAll, resOne, rs57, Env.get, go_sem, ↓reduceIte, reduceCtorEq]) (by simp only [AV.und, AV.unds, and_self])
  simp (maxSteps:=1000000) (disch:=omega) only [go_sem, ↓reduceIte, reduceCtorEq, lc, gc]
  rw [acs_lp]; conv in Fr.code c57l0 => unfold c57l0
  by_cases ld : d < -70368744177664
  · simp only [inb_lo ld, Bool.false_and, Bool.true_and, Bool.and_false]
    simp (maxSteps:=1000000) (disch:=omega) only [go_sem, ↓reduceIte, reduceCtorEq, ld]
    exact fin_ext (by simp) (Ext.app _ _) (by simp (maxSteps:=1000000) (disch:=omega) only [resVal, resAll, resOne, rs57, Env.get, go_sem, ↓reduceIte, reduceCtorEq]) (by simp only [AV.und, AV.unds, and_self])
  by_cases gd : 70368744177663 < d
  · simp only [inb_hi gd, Bool.false_and, Bool.true_and, Bool.and_false]
    simp (maxSteps:=1000000) (disch:=omega) only [go_sem, ↓reduceIte, reduceCtorEq, ld, gd]
    exact fin_ext (by simp) (Ext.app _ _) (by simp (maxSteps:=1000000) (disch:=omega) only [resVal, resAll, resOne, rs57, Env.get, go_sem, ↓reduceIte, reduceCtorEq]) (by simp only [AV.und, AV.unds, and_self])
  simp (maxSteps:=1000000) (disch:=omega) only [go_sem, ↓reduceIte, reduceCtorEq, ld, gd]
  rw [acs_lp]; conv in Fr.code c57l0 => unfold c57l0
  simp (maxSteps:=1000000) (disch:=omega) only [go_sem, ↓reduceIte, reduceCtorEq]
  simp only [inb_ok la ga, inb_ok lb gb, inb_ok lc gc, inb_ok ld gd, Bool.and_self]
  exact fin_ext (by simp) (Ext.app _ _) (by simp (maxSteps:=1000000) (disch:=omega) only [resVal, resAll, resOne, rs57, Env.get, go_sem, ↓reduceIte, reduceCtorEq]) (by simp only [AV.und, AV.unds, and_self])

structure Es where
  t0 : Int
  t1 : Int
  t2 : Int
  t3 : Int
  a : Tk
  b : Tk
  c : Tk
  st : Int
  co : Int
  o0 : Int
  o1 : Int
  o2 : Int
  o3 : Int
  sat : Bool
def Es.av (e : Es) : List AV := [.int .i64 e.t0, .int .i64 e.t1, .int .i64 e.t2, .int .i64 e.t3, .int .i64 e.a.xr, .int .i64 e.a.xc, .sl e.a.xp e.a.xo e.a.xl.length 1 e.a.xk, .int .i64 e.a.pr, .int .i64 e.a.pc, .sl e.a.pp e.a.po e.a.pl.length 1 e.a.pk, .int .i64 e.b.xr, .int .i64 e.b.xc, .sl e.b.xp e.b.xo e.b.xl.length 1 e.b.xk, .int .i64 e.b.pr, .int .i64 e.b.pc, .sl e.b.pp e.b.po e.b.pl.length 1 e.b.pk, .int .i64 e.c.xr, .int .i64 e.c.xc, .sl e.c.xp e.c.xo e.c.xl.length 1 e.c.xk, .int .i64 e.c.pr, .int .i64 e.c.pc, .sl e.c.pp e.c.po e.c.pl.length 1 e.c.pk, .int .i64 e.st, .int .i64 e.co, .int .i64 e.o0, .int .i64 e.o1, .int .i64 e.o2, .int .i64 e.o3, .bool e.sat]
structure Es.ok (e : Es) (H : Heap) : Prop where
  ha : e.a.ok H
  hb : e.b.ok H
  hc : e.c.ok H
theorem Es.ok.ext {e : Es} {H H' : Heap} (h : e.ok H) (hx : Ext H H') : e.ok H' := ⟨h.ha.ext hx, h.hb.ext hx, h.hc.ext hx⟩
theorem Es.ok.app {e : Es} {H : Heap} (h : e.ok H) (G : Heap) : e.ok (H ++ G) := h.ext (.app _ _)
def estB (e : Es) : Bool := decide (0 ≤ e.st) && decide (e.st ≤ 1099511627776) && okO e.co && okO e.o0 && okO e.o1 && okO e.o2 && okO e.o3 && (trkB e.a && decide (e.a.xr = 3)) && (trkB e.b && decide (e.b.xr = 3)) && (trkB e.c && decide (e.c.xr = 3)) && q4B e.t0 e.t1 e.t2 e.t3
theorem okO_lo {n : Int} (h : n < 0) : okO n = false := by unfold okO; rw [decide_eq_false (by omega)]; rfl
theorem okO_hi {n : Int} (h : 1000 < n) : okO n = false := by unfold okO; rw [Bool.and_comm, decide_eq_false (by omega)]; rfl
theorem okO_ok {n : Int} (h : ¬ n < 0) (h2 : ¬ 1000 < n) : okO n = true := by unfold okO; rw [decide_eq_true (by omega), decide_eq_true (by omega)]; rfl
theorem f11 {e : Es} {H : Heap} (h : e.ok H) : ACall Try.prog 11 [.agg e.av] H (.bool (estB e)) H := by
  refine acall11 (by simp) (acs_start ?_)
  have ga := fun G => f26 (h.app G).ha
  have gb := fun G => f26 (h.app G).hb
  have gc := fun G => f26 (h.app G).hc
  unfold Tk.av at ga gb gc
  unfold c11 estB Es.av
  by_cases s1 : e.st < 0
  · try simp only [show decide (0 ≤ e.st) = false from decide_eq_false (by omega), Bool.false_and, Bool.and_false]
    simp (maxSteps:=1000000) (disch:=omega) only [go_sem, ↓reduceIte, reduceCtorEq, s1]
    exact fin_ext (by simp) (Ext.app _ _) (by simp (maxSteps:=1000000) (disch:=omega) only [resVal, resAll, resOne, rs11, Env.get, go_sem, ↓reduceIte, reduceCtorEq]) (by simp only [AV.und, AV.unds, and_self])
  by_cases s2 : 1099511627776 < e.st
  · try simp only [show decide (e.st ≤ 1099511627776) = false from decide_eq_false (by omega), Bool.false_and, Bool.and_false]
    simp (maxSteps:=1000000) (disch:=omega) only [go_sem, ↓reduceIte, reduceCtorEq, s1, s2]
    exact fin_ext (by simp) (Ext.app _ _) (by simp (maxSteps:=1000000) (disch:=omega) only [resVal, resAll, resOne, rs11, Env.get, go_sem, ↓reduceIte, reduceCtorEq]) (by simp only [AV.und, AV.unds, and_self])
  by_cases s3 : e.co < 0
  · try simp only [okO_lo s3, Bool.false_and, Bool.and_false]
    simp (maxSteps:=1000000) (disch:=omega) only [go_sem, ↓reduceIte, reduceCtorEq, s1, s2, s3]
    exact fin_ext (by simp) (Ext.app _ _) (by simp (maxSteps:=1000000) (disch:=omega) only [resVal, resAll, resOne, rs11, Env.get, go_sem, ↓reduceIte, reduceCtorEq]) (by simp only [AV.und, AV.unds, and_self])
  by_cases s4 : 1000 < e.co
  · try simp only [okO_hi s4, Bool.false_and, Bool.and_false]
    simp (maxSteps:=1000000) (disch:=omega) only [go_sem, ↓reduceIte, reduceCtorEq, s1, s2, s3, s4]
    exact fin_ext (by simp) (Ext.app _ _) (by simp (maxSteps:=1000000) (disch:=omega) only [resVal, resAll, resOne, rs11, Env.get, go_sem, ↓reduceIte, reduceCtorEq]) (by simp only [AV.und, AV.unds, and_self])
  simp only [show decide (0 ≤ e.st) = true from decide_eq_true (by omega), show decide (e.st ≤ 1099511627776) = true from decide_eq_true (by omega), okO_ok s3 s4, Bool.true_and]
  simp (maxSteps:=1000000) (disch:=omega) only [go_sem, ↓reduceIte, reduceCtorEq, s1, s2, s3, s4]
  rw [acs_lp]; conv in Fr.code c11l1 => unfold c11l1
  by_cases l0 : e.o0 < 0
  · try simp only [okO_lo l0, Bool.false_and, Bool.and_false]
    simp (maxSteps:=1000000) (disch:=omega) only [go_sem, ↓reduceIte, reduceCtorEq, l0]
    exact fin_ext (by simp) (Ext.app _ _) (by simp (maxSteps:=1000000) (disch:=omega) only [resVal, resAll, resOne, rs11, Env.get, go_sem, ↓reduceIte, reduceCtorEq]) (by simp only [AV.und, AV.unds, and_self])
  by_cases g0 : 1000 < e.o0
  · try simp only [okO_hi g0, Bool.false_and, Bool.and_false]
    simp (maxSteps:=1000000) (disch:=omega) only [go_sem, ↓reduceIte, reduceCtorEq, l0, g0]
    exact fin_ext (by simp) (Ext.app _ _) (by simp (maxSteps:=1000000) (disch:=omega) only [resVal, resAll, resOne, rs11, Env.get, go_sem, ↓reduceIte, reduceCtorEq]) (by simp only [AV.und, AV.unds, and_self])
  try simp only [okO_ok l0 g0, Bool.true_and]
  simp (maxSteps:=1000000) (disch:=omega) only [go_sem, ↓reduceIte, reduceCtorEq, l0, g0]
  rw [acs_lp]; conv in Fr.code c11l1 => unfold c11l1
  by_cases l1 : e.o1 < 0
  · try simp only [okO_lo l1, Bool.false_and, Bool.and_false]
    simp (maxSteps:=1000000) (disch:=omega) only [go_sem, ↓reduceIte, reduceCtorEq, l1]
    exact fin_ext (by simp) (Ext.app _ _) (by simp (maxSteps:=1000000) (disch:=omega) only [resVal, resAll, resOne, rs11, Env.get, go_sem, ↓reduceIte, reduceCtorEq]) (by simp only [AV.und, AV.unds, and_self])
  by_cases g1 : 1000 < e.o1
  · try simp only [okO_hi g1, Bool.false_and, Bool.and_false]
    simp (maxSteps:=1000000) (disch:=omega) only [go_sem, ↓reduceIte, reduceCtorEq, l1, g1]
    exact fin_ext (by simp) (Ext.app _ _) (by simp (maxSteps:=1000000) (disch:=omega) only [resVal, resAll, resOne, rs11, Env.get, go_sem, ↓reduceIte, reduceCtorEq]) (by simp only [AV.und, AV.unds, and_self])
  try simp only [okO_ok l1 g1, Bool.true_and]
  simp (maxSteps:=1000000) (disch:=omega) only [go_sem, ↓reduceIte, reduceCtorEq, l1, g1]
  rw [acs_lp]; conv in Fr.code c11l1 => unfold c11l1
  by_cases l2 : e.o2 < 0
  · try simp only [okO_lo l2, Bool.false_and, Bool.and_false]
    simp (maxSteps:=1000000) (disch:=omega) only [go_sem, ↓reduceIte, reduceCtorEq, l2]
    exact fin_ext (by simp) (Ext.app _ _) (by simp (maxSteps:=1000000) (disch:=omega) only [resVal, resAll, resOne, rs11, Env.get, go_sem, ↓reduceIte, reduceCtorEq]) (by simp only [AV.und, AV.unds, and_self])
  by_cases g2 : 1000 < e.o2
  · try simp only [okO_hi g2, Bool.false_and, Bool.and_false]
    simp (maxSteps:=1000000) (disch:=omega) only [go_sem, ↓reduceIte, reduceCtorEq, l2, g2]
    exact fin_ext (by simp) (Ext.app _ _) (by simp (maxSteps:=1000000) (disch:=omega) only [resVal, resAll, resOne, rs11, Env.get, go_sem, ↓reduceIte, reduceCtorEq]) (by simp only [AV.und, AV.unds, and_self])
  try simp only [okO_ok l2 g2, Bool.true_and]
  simp (maxSteps:=1000000) (disch:=omega) only [go_sem, ↓reduceIte, reduceCtorEq, l2, g2]
  rw [acs_lp]; conv in Fr.code c11l1 => unfold c11l1
  by_cases l3 : e.o3 < 0
  · try simp only [okO_lo l3, Bool.false_and, Bool.and_false]
    simp (maxSteps:=1000000) (disch:=omega) only [go_sem, ↓reduceIte, reduceCtorEq, l3]
    exact fin_ext (by simp) (Ext.app _ _) (by simp (maxSteps:=1000000) (disch:=omega) only [resVal, resAll, resOne, rs11, Env.get, go_sem, ↓reduceIte, reduceCtorEq]) (by simp only [AV.und, AV.unds, and_self])
  by_cases g3 : 1000 < e.o3
  · try simp only [okO_hi g3, Bool.false_and, Bool.and_false]
    simp (maxSteps:=1000000) (disch:=omega) only [go_sem, ↓reduceIte, reduceCtorEq, l3, g3]
    exact fin_ext (by simp) (Ext.app _ _) (by simp (maxSteps:=1000000) (disch:=omega) only [resVal, resAll, resOne, rs11, Env.get, go_sem, ↓reduceIte, reduceCtorEq]) (by simp only [AV.und, AV.unds, and_self])
  try simp only [okO_ok l3 g3, Bool.true_and]
  simp (maxSteps:=1000000) (disch:=omega) only [go_sem, ↓reduceIte, reduceCtorEq, l3, g3]
  rw [acs_lp]; conv in Fr.code c11l1 => unfold c11l1
  simp (maxSteps:=1000000) (disch:=omega) only [go_sem, ↓reduceIte, reduceCtorEq]
  rw [acs_lp]; conv in Fr.code c11l0 => unfold c11l0
  simp (maxSteps:=1000000) (disch:=omega) only [go_sem, ↓reduceIte, reduceCtorEq]
  first | refine callB_intro (ga _) ?_ | refine callD_intro (ga _) ?_ | refine callP_intro (fun _ => (ga _)) ?_ | refine callX_pure (ga _) ?_
  cases xa : trkB e.a with
  | false =>
    try simp only [Bool.false_and, Bool.and_false]
    simp (maxSteps:=1000000) (disch:=omega) only [go_sem, ↓reduceIte, reduceCtorEq]
    exact fin_ext (by simp) (Ext.app _ _) (by simp (maxSteps:=1000000) (disch:=omega) only [resVal, resAll, resOne, rs11, Env.get, go_sem, ↓reduceIte, reduceCtorEq]) (by simp only [AV.und, AV.unds, and_self])
  | true =>
  by_cases ya : ¬ e.a.xr = 3
  · simp only [ya, decide_false, Bool.and_false, Bool.false_and]
    simp (maxSteps:=1000000) (disch:=omega) only [go_sem, ↓reduceIte, reduceCtorEq, ya]
    exact fin_ext (by simp) (Ext.app _ _) (by simp (maxSteps:=1000000) (disch:=omega) only [resVal, resAll, resOne, rs11, Env.get, go_sem, ↓reduceIte, reduceCtorEq]) (by simp only [AV.und, AV.unds, and_self])
  replace ya := Classical.not_not.1 ya
  simp only [ya, decide_true, Bool.true_and]
  simp (maxSteps:=1000000) (disch:=omega) only [go_sem, ↓reduceIte, reduceCtorEq, ya]
  rw [acs_lp]; conv in Fr.code c11l0 => unfold c11l0
  simp (maxSteps:=1000000) (disch:=omega) only [go_sem, ↓reduceIte, reduceCtorEq]
  first | refine callB_intro (gb _) ?_ | refine callD_intro (gb _) ?_ | refine callP_intro (fun _ => (gb _)) ?_ | refine callX_pure (gb _) ?_
  cases xb : trkB e.b with
  | false =>
    try simp only [Bool.false_and, Bool.and_false]
    simp (maxSteps:=1000000) (disch:=omega) only [go_sem, ↓reduceIte, reduceCtorEq]
    exact fin_ext (by simp) (Ext.app _ _) (by simp (maxSteps:=1000000) (disch:=omega) only [resVal, resAll, resOne, rs11, Env.get, go_sem, ↓reduceIte, reduceCtorEq]) (by simp only [AV.und, AV.unds, and_self])
  | true =>
  by_cases yb : ¬ e.b.xr = 3
  · simp only [yb, decide_false, Bool.and_false, Bool.false_and]
    simp (maxSteps:=1000000) (disch:=omega) only [go_sem, ↓reduceIte, reduceCtorEq, yb]
    exact fin_ext (by simp) (Ext.app _ _) (by simp (maxSteps:=1000000) (disch:=omega) only [resVal, resAll, resOne, rs11, Env.get, go_sem, ↓reduceIte, reduceCtorEq]) (by simp only [AV.und, AV.unds, and_self])
  replace yb := Classical.not_not.1 yb
  simp only [yb, decide_true, Bool.true_and]
  simp (maxSteps:=1000000) (disch:=omega) only [go_sem, ↓reduceIte, reduceCtorEq, yb]
  rw [acs_lp]; conv in Fr.code c11l0 => unfold c11l0
  simp (maxSteps:=1000000) (disch:=omega) only [go_sem, ↓reduceIte, reduceCtorEq]
  first | refine callB_intro (gc _) ?_ | refine callD_intro (gc _) ?_ | refine callP_intro (fun _ => (gc _)) ?_ | refine callX_pure (gc _) ?_
  cases xc : trkB e.c with
  | false =>
    try simp only [Bool.false_and, Bool.and_false]
    simp (maxSteps:=1000000) (disch:=omega) only [go_sem, ↓reduceIte, reduceCtorEq]
    exact fin_ext (by simp) (Ext.app _ _) (by simp (maxSteps:=1000000) (disch:=omega) only [resVal, resAll, resOne, rs11, Env.get, go_sem, ↓reduceIte, reduceCtorEq]) (by simp only [AV.und, AV.unds, and_self])
  | true =>
  by_cases yc : ¬ e.c.xr = 3
  · simp only [yc, decide_false, Bool.and_false, Bool.false_and]
    simp (maxSteps:=1000000) (disch:=omega) only [go_sem, ↓reduceIte, reduceCtorEq, yc]
    exact fin_ext (by simp) (Ext.app _ _) (by simp (maxSteps:=1000000) (disch:=omega) only [resVal, resAll, resOne, rs11, Env.get, go_sem, ↓reduceIte, reduceCtorEq]) (by simp only [AV.und, AV.unds, and_self])
  replace yc := Classical.not_not.1 yc
  simp only [yc, decide_true, Bool.true_and]
  simp (maxSteps:=1000000) (disch:=omega) only [go_sem, ↓reduceIte, reduceCtorEq, yc]
  rw [acs_lp]; conv in Fr.code c11l0 => unfold c11l0
  simp (maxSteps:=1000000) (disch:=omega) only [go_sem, ↓reduceIte, reduceCtorEq]
  first | refine callB_intro (f27) ?_ | refine callD_intro (f27) ?_ | refine callP_intro (fun _ => (f27)) ?_ | refine callX_pure (f27) ?_
  simp (maxSteps:=1000000) (disch:=omega) only [go_sem, ↓reduceIte, reduceCtorEq]
  exact fin_ext (by simp) (Ext.app _ _) (by simp (maxSteps:=1000000) (disch:=omega) only [resVal, resAll, resOne, rs11, Env.get, go_sem, ↓reduceIte, reduceCtorEq]) (by simp only [AV.und, AV.unds, and_self])

theorem f32 {e : Es} {H : Heap} (h : e.ok H) : ACall Try.prog 32 [.agg e.av] H (.bool (estB e)) H := by
  refine acall32 (by simp) (acs_start ?_)
  have ga := fun G => f55 (h.app G).ha
  have gb := fun G => f55 (h.app G).hb
  have gc := fun G => f55 (h.app G).hc
  unfold Tk.av at ga gb gc
  have g58 := fun (G : Heap) => f58p (odd := fun n => !okO n) (k := some 4) hb56 (fun _ _ => f56) (l := [e.o0, e.o1, e.o2, e.o3]) (p := H.length) (off := 24) (H := H ++ (some ⟨e.av, true⟩ :: G)) ⟨e.av, true, by rw [blkAt_app0]; rfl, (by show 28 ≤ 29; decide), rfl⟩ (by simp)
  simp only [List.length_cons, List.length_nil, Nat.reduceAdd, List.any_cons, List.any_nil, Bool.or_false] at g58
  unfold Es.av at g58
  unfold c32 estB Es.av
  simp (maxSteps:=1000000) (disch:=omega) only [go_sem, ↓reduceIte, reduceCtorEq]
  rw [acs_lp]; conv in Fr.code c32l0 => unfold c32l0
  simp (maxSteps:=1000000) (disch:=omega) only [go_sem, ↓reduceIte, reduceCtorEq]
  first | refine callB_intro (ga _) ?_ | refine callD_intro (ga _) ?_ | refine callP_intro (fun _ => (ga _)) ?_ | refine callX_pure (ga _) ?_
  cases xa : trkB e.a with
  | false =>
    try simp only [Bool.false_and, Bool.and_false]
    simp (maxSteps:=1000000) (disch:=omega) only [go_sem, ↓reduceIte, reduceCtorEq]
    exact fin_ext (by simp) (Ext.app _ _) (by simp (maxSteps:=1000000) (disch:=omega) only [resVal, resAll, resOne, rs32, Env.get, go_sem, ↓reduceIte, reduceCtorEq]) (by simp only [AV.und, AV.unds, and_self])
  | true =>
  by_cases ya : ¬ e.a.xr = 3
  · simp only [ya, decide_false, Bool.and_false, Bool.false_and]
    simp (maxSteps:=1000000) (disch:=omega) only [go_sem, ↓reduceIte, reduceCtorEq, ya]
    exact fin_ext (by simp) (Ext.app _ _) (by simp (maxSteps:=1000000) (disch:=omega) only [resVal, resAll, resOne, rs32, Env.get, go_sem, ↓reduceIte, reduceCtorEq]) (by simp only [AV.und, AV.unds, and_self])
  replace ya := Classical.not_not.1 ya
  simp only [ya, decide_true, Bool.and_true]
  simp (maxSteps:=1000000) (disch:=omega) only [go_sem, ↓reduceIte, reduceCtorEq, ya]
  rw [acs_lp]; conv in Fr.code c32l0 => unfold c32l0
  simp (maxSteps:=1000000) (disch:=omega) only [go_sem, ↓reduceIte, reduceCtorEq]
  first | refine callB_intro (gb _) ?_ | refine callD_intro (gb _) ?_ | refine callP_intro (fun _ => (gb _)) ?_ | refine callX_pure (gb _) ?_
  cases xb : trkB e.b with
  | false =>
    try simp only [Bool.false_and, Bool.and_false]
    simp (maxSteps:=1000000) (disch:=omega) only [go_sem, ↓reduceIte, reduceCtorEq]
    exact fin_ext (by simp) (Ext.app _ _) (by simp (maxSteps:=1000000) (disch:=omega) only [resVal, resAll, resOne, rs32, Env.get, go_sem, ↓reduceIte, reduceCtorEq]) (by simp only [AV.und, AV.unds, and_self])
  | true =>
  by_cases yb : ¬ e.b.xr = 3
  · simp only [yb, decide_false, Bool.and_false, Bool.false_and]
    simp (maxSteps:=1000000) (disch:=omega) only [go_sem, ↓reduceIte, reduceCtorEq, yb]
    exact fin_ext (by simp) (Ext.app _ _) (by simp (maxSteps:=1000000) (disch:=omega) only [resVal, resAll, resOne, rs32, Env.get, go_sem, ↓reduceIte, reduceCtorEq]) (by simp only [AV.und, AV.unds, and_self])
  replace yb := Classical.not_not.1 yb
  simp only [yb, decide_true, Bool.and_true]
  simp (maxSteps:=1000000) (disch:=omega) only [go_sem, ↓reduceIte, reduceCtorEq, yb]
  rw [acs_lp]; conv in Fr.code c32l0 => unfold c32l0
  simp (maxSteps:=1000000) (disch:=omega) only [go_sem, ↓reduceIte, reduceCtorEq]
  first | refine callB_intro (gc _) ?_ | refine callD_intro (gc _) ?_ | refine callP_intro (fun _ => (gc _)) ?_ | refine callX_pure (gc _) ?_
  cases xc : trkB e.c with
  | false =>
    try simp only [Bool.false_and, Bool.and_false]
    simp (maxSteps:=1000000) (disch:=omega) only [go_sem, ↓reduceIte, reduceCtorEq]
    exact fin_ext (by simp) (Ext.app _ _) (by simp (maxSteps:=1000000) (disch:=omega) only [resVal, resAll, resOne, rs32, Env.get, go_sem, ↓reduceIte, reduceCtorEq]) (by simp only [AV.und, AV.unds, and_self])
  | true =>
  by_cases yc : ¬ e.c.xr = 3
  · simp only [yc, decide_false, Bool.and_false, Bool.false_and]
    simp (maxSteps:=1000000) (disch:=omega) only [go_sem, ↓reduceIte, reduceCtorEq, yc]
    exact fin_ext (by simp) (Ext.app _ _) (by simp (maxSteps:=1000000) (disch:=omega) only [resVal, resAll, resOne, rs32, Env.get, go_sem, ↓reduceIte, reduceCtorEq]) (by simp only [AV.und, AV.unds, and_self])
  replace yc := Classical.not_not.1 yc
  simp only [yc, decide_true, Bool.and_true]
  simp (maxSteps:=1000000) (disch:=omega) only [go_sem, ↓reduceIte, reduceCtorEq, yc]
  rw [acs_lp]; conv in Fr.code c32l0 => unfold c32l0
  simp (maxSteps:=1000000) (disch:=omega) only [go_sem, ↓reduceIte, reduceCtorEq]
  first | refine callB_intro (f57) ?_ | refine callD_intro (f57) ?_ | refine callP_intro (fun _ => (f57)) ?_ | refine callX_pure (f57) ?_
  cases q : q4B e.t0 e.t1 e.t2 e.t3 with
  | false =>
    try simp only [Bool.and_false]
    simp (maxSteps:=1000000) (disch:=omega) only [go_sem, ↓reduceIte, reduceCtorEq]
    exact fin_ext (by simp) (Ext.app _ _) (by simp (maxSteps:=1000000) (disch:=omega) only [resVal, resAll, resOne, rs32, Env.get, go_sem, ↓reduceIte, reduceCtorEq]) (by simp only [AV.und, AV.unds, and_self])
  | true =>
  by_cases s1 : e.st < 0
  · have s1' : ¬ 0 ≤ e.st := by omega
    simp only [s1', decide_false, Bool.false_and]
    simp (maxSteps:=1000000) (disch:=omega) only [go_sem, ↓reduceIte, reduceCtorEq, s1']
    exact fin_ext (by simp) (Ext.app _ _) (by simp (maxSteps:=1000000) (disch:=omega) only [resVal, resAll, resOne, rs32, Env.get, go_sem, ↓reduceIte, reduceCtorEq]) (by simp only [AV.und, AV.unds, and_self])
  have s1' : 0 ≤ e.st := by omega
  by_cases s2 : e.st ≤ 1099511627776
  rotate_left
  · simp only [s2, decide_false, Bool.false_and, Bool.and_false]
    simp (maxSteps:=1000000) (disch:=omega) only [go_sem, ↓reduceIte, reduceCtorEq, s1', s2]
    exact fin_ext (by simp) (Ext.app _ _) (by simp (maxSteps:=1000000) (disch:=omega) only [resVal, resAll, resOne, rs32, Env.get, go_sem, ↓reduceIte, reduceCtorEq]) (by simp only [AV.und, AV.unds, and_self])
  simp only [s1', s2, decide_true, Bool.true_and, Bool.and_true]
  simp (maxSteps:=1000000) (disch:=omega) only [go_sem, ↓reduceIte, reduceCtorEq, s1', s2, hb56]
  first | refine callB_intro (f56) ?_ | refine callD_intro (f56) ?_ | refine callP_intro (fun _ => (f56)) ?_ | refine callX_pure (f56) ?_
  cases k : okO e.co with
  | false =>
    try simp only [Bool.false_and]
    simp (maxSteps:=1000000) (disch:=omega) only [go_sem, ↓reduceIte, reduceCtorEq]
    exact fin_ext (by simp) (Ext.app _ _) (by simp (maxSteps:=1000000) (disch:=omega) only [resVal, resAll, resOne, rs32, Env.get, go_sem, ↓reduceIte, reduceCtorEq]) (by simp only [AV.und, AV.unds, and_self])
  | true =>
  rw [ya, yb, yc] at g58
  simp (maxSteps:=1000000) (disch:=omega) only [go_sem, ↓reduceIte, reduceCtorEq]
  first | refine callB_intro (g58 _) ?_ | refine callD_intro (g58 _) ?_ | refine callP_intro (fun _ => (g58 _)) ?_ | refine callX_pure (g58 _) ?_
  have fin : (!(!okO e.o0 || (!okO e.o1 || (!okO e.o2 || !okO e.o3)))) = (okO e.o0 && okO e.o1 && okO e.o2 && okO e.o3) := by
    cases okO e.o0 <;> cases okO e.o1 <;> cases okO e.o2 <;> cases okO e.o3 <;> rfl
  simp (maxSteps:=1000000) (disch:=omega) only [go_sem, ↓reduceIte, reduceCtorEq, fin]
  exact fin_ext (by simp) (Ext.app _ _) (by simp (maxSteps:=1000000) (disch:=omega) only [resVal, resAll, resOne, rs32, Env.get, go_sem, ↓reduceIte, reduceCtorEq]) (by simp only [AV.und, AV.unds, and_self])

theorem Sl.fill {α : Type} {f : α → AV} {H : Heap} {p off b : Nat} {zs : List α} (hs : Sl f H p off zs) (hb : H[b]? = some none) (x : Option Blk) : Sl f (H.set b x) p off zs := by
  obtain ⟨cs, o, hp, hle, hcs⟩ := hs
  refine ⟨cs, o, ?_, hle, hcs⟩
  rw [blkAt_set_ne]
  · exact hp
  · rintro rfl
    unfold blkAt at hp
    rw [hb] at hp
    cases hp
def x0L : List Int := [0, 0, 0]
def v0L : List Int := [1677721600, 167772160, 16777216]
def p0L : List Int := [1677721600, 0, 0, 0, 167772160, 0, 0, 0, 16777216]
theorem dg_v0 : dgL v0L = p0L := by decide
structure T0 (t : Tk) : Prop where
  xr : t.xr = 3
  xc : t.xc = 1
  xl : t.xl = x0L
  pr : t.pr = 3
  pc : t.pc = 3
  pl : t.pl = p0L
theorem T0.right {t : Tk} (h : T0 t) : trkB t = true := by
  unfold trkB
  rw [h.xr, h.xc, h.xl, h.pr, h.pc, h.pl]
  decide
theorem f80 {l : List Int} {p off : Nat} {k : Option Nat} {H : Heap} (hs : Sl i64 H p off l) (h0 : 0 < l.length) (h1 : l.length ≤ 1000) : ACallE Try.prog 80 [.sl p off l.length 1 k] H fun v H' => ∃ p, v = .sl p 0 l.length 1 none ∧ Sl i64 H' p 0 l ∧ H.length ≤ p := by
  refine acallE (fun v Hf h => acallK80 (by simp) h) (acs_start ?_)
  obtain ⟨cs, o, hp, hle, hcs⟩ := hs
  have hpl := blkAt_lt hp
  have n0 : ¬ l.length = 0 := by omega
  have n1 : 0 < l.length := h0
  have big : l.length * 8 ≤ 140737488355328 := by omega
  unfold c80
  simp (maxSteps:=1000000) (disch:=omega) only [go_sem, ↓reduceIte, reduceCtorEq, hp, hpl, blkAt_lo, n0, n1, hle, hcs, big]
  have hb : blkAt (H ++ [some ⟨[], true⟩, some ⟨l.map i64, true⟩]) (H.length + 1) = some ⟨l.map i64, true⟩ := by rw [blkAt_app]; rfl
  refine fin_e (by simp) (by simp (maxSteps:=1000000) (disch:=omega) only [resVal, resAll, resOne, rs80, Env.get, go_sem, ↓reduceIte, reduceCtorEq] <;> rfl) (Ext.app _ _) ⟨_, rfl, Sl.whole hb, by omega⟩
theorem get_none {H G G2 : Heap} {a b : Option Blk} : (H ++ a :: (G ++ b :: none :: G2))[H.length + (G.length + 2)]? = some none := by
  rw [List.getElem?_append_right (by omega), Nat.add_sub_cancel_left, show G.length + 2 = (G.length + 1) + 1 from rfl, List.getElem?_cons_succ, List.getElem?_append_right (by omega), Nat.add_sub_cancel_left]
  rfl
theorem Sl.head {α : Type} {f : α → AV} {H G : Heap} {p off : Nat} {zs : List α} {a b : Option Blk} (hs : Sl f (H ++ a :: G) p off zs) (hp : H.length < p) : Sl f (H ++ b :: G) p off zs := by
  obtain ⟨cs, o, hb, hle, hcs⟩ := hs
  refine ⟨cs, o, ?_, hle, hcs⟩
  obtain ⟨k, rfl⟩ : ∃ k, p = H.length + (k + 1) := ⟨p - H.length - 1, by omega⟩
  rw [blkAt_app, blkAt_succ] at hb ⊢
  exact hb
theorem f70 {p1 p2 : Nat} {k1 k2 : Option Nat} {H : Heap} (h1 : Sl i64 H p1 0 x0L) (h2 : Sl i64 H p2 0 v0L) : ACallE Try.prog 70 [.sl p1 0 3 1 k1, .sl p2 0 3 1 k2] H fun v H' => ∃ t : Tk, v = .tup [.agg t.av, .int .i64 0] ∧ T0 t ∧ t.ok H' ∧ H.length ≤ t.xp ∧ H.length ≤ t.pp := by
  refine acallE (fun v Hf h => acallK70 (by simp) h) (acs_start ?_)
  have g79 := fun G => f79 (kk := k2) (h2.app G) (by decide) (by decide) (fun x hx => inb_iff.1 (List.all_eq_true.1 (show v0L.all inb = true by decide) x hx))
  rw [dg_v0] at g79
  simp only [show v0L.length = 3 from rfl, Int.cast_ofNat_Int] at g79
  have g80 := fun G => f80 (k := k1) (h1.app G) (by decide) (by decide)
  simp only [show x0L.length = 3 from rfl] at g80
  unfold c70
  simp (maxSteps:=1000000) (disch:=omega) only [go_sem, ↓reduceIte, reduceCtorEq]
  first | refine callBE (g79 _) ?_ | refine callDE (g79 _) ?_ | refine callXE (g79 _) ?_
  rintro v H1 ⟨G1, rfl⟩ ⟨w, rfl, hw3, p3, n3, rfl, hp3⟩
  obtain ⟨_, o3, k3, e3, hs3⟩ := hw3
  cases e3
  try simp only [show p0L.length = 9 from rfl]
  simp (maxSteps:=1000000) (disch:=omega) only [go_sem, ↓reduceIte, reduceCtorEq]
  first | refine callBE (g80 _) ?_ | refine callDE (g80 _) ?_ | refine callXE (g80 _) ?_
  rintro v H2 ⟨G2, rfl⟩ ⟨p4, rfl, hs4, hp4⟩
  try simp only [show x0L.length = 3 from rfl]
  have s4 := fun x => Sl.fill hs4 (b := H.length + (G1.length + 2)) (by simpa only [List.append_assoc, List.cons_append, List.nil_append] using get_none) x
  have s3 := fun x => ((hs3.app (some ⟨[.int .i64 3, .int .i64 3, .sl p3 0 9 1 none], true⟩ :: none :: G2))).fill (b := H.length + (G1.length + 2)) (by simpa only [List.append_assoc, List.cons_append, List.nil_append] using get_none) x
  simp only [List.append_assoc, List.cons_append, List.nil_append, List.length_append, List.length_cons, List.length_nil, Nat.reduceAdd, Nat.add_assoc, Nat.zero_add, Nat.add_zero, Int.natCast_add, Int.cast_ofNat_Int, ] at s4
  simp only [List.append_assoc, List.cons_append, List.nil_append, List.length_append, List.length_cons, List.length_nil, Nat.reduceAdd, Nat.add_assoc, Nat.zero_add, Nat.add_zero, Int.natCast_add, Int.cast_ofNat_Int, ] at s3
  simp only [go_sem, ↓reduceIte, reduceCtorEq] at s4
  simp only [go_sem, ↓reduceIte, reduceCtorEq] at s3
  have ok : ∀ x, Tk.ok ⟨3, 1, x0L, p4, 0, none, 3, 3, p0L, p3, 0, none⟩ _ := fun x => ⟨s4 x, s3 x, (show (3 : Nat) ≤ 4611686018427387904 by decide), (show (9 : Nat) ≤ 4611686018427387904 by decide)⟩
  have hr : trkB ⟨3, 1, x0L, p4, 0, none, 3, 3, p0L, p3, 0, none⟩ = true := T0.right ⟨rfl, rfl, rfl, rfl, rfl, rfl⟩
  have g55 := fun x => f55 (ok x)
  rw [hr] at g55
  unfold Tk.av at g55
  simp only [show x0L.length = 3 from rfl, show p0L.length = 9 from rfl] at g55
  simp (maxSteps:=1000000) (disch:=omega) only [go_sem, ↓reduceIte, reduceCtorEq]
  first | refine callB_intro (g55 _) ?_ | refine callD_intro (g55 _) ?_ | refine callP_intro (fun _ => (g55 _)) ?_ | refine callX_pure (g55 _) ?_
  simp (maxSteps:=1000000) (disch:=omega) only [go_sem, ↓reduceIte, reduceCtorEq]
  refine fin_e (by simp) (by simp (maxSteps:=1000000) (disch:=omega) only [resVal, resAll, resOne, rs70, Env.get, go_sem, ↓reduceIte, reduceCtorEq] <;> rfl) (Ext.app _ _) ⟨⟨3, 1, x0L, p4, 0, none, 3, 3, p0L, p3, 0, none⟩, rfl, ⟨rfl, rfl, rfl, rfl, rfl, rfl⟩, ⟨?_, ?_, (show (3 : Nat) ≤ 4611686018427387904 by decide), (show (9 : Nat) ≤ 4611686018427387904 by decide)⟩, ?_, ?_⟩
  · simp only [List.length_append, List.length_cons, List.length_nil] at hp4
    exact (s4 _).head (by omega)
  · simp only [List.length_append, List.length_cons, List.length_nil] at hp3
    exact (s3 _).head (by omega)
  · simp only [List.length_append, List.length_cons, List.length_nil] at hp4
    show H.length ≤ p4
    omega
  · simp only [List.length_append, List.length_cons, List.length_nil] at hp3
    show H.length ≤ p3
    omega

def mayC (n : Int) : Bool := decide (1 ≤ n) && decide (n ≤ 17179869184)
def mayB (a b c d e f : Int) : Bool := mayC a && mayC b && mayC c && mayC d && mayC e && mayC f
theorem f78 {a : Int} {H : Heap} : ACall Try.prog 78 [.int .i64 a] H (.bool (!mayC a)) H := by
  refine acall78 (by simp) (acs_start ?_)
  unfold c78
  by_cases h : a ≤ 0
  · have e : mayC a = false := by unfold mayC; simp; omega
    rw [e]
    simp (maxSteps:=1000000) (disch:=omega) only [go_sem, ↓reduceIte, reduceCtorEq, h]
    exact fin_ext (by simp) (Ext.refl _) (by simp (maxSteps:=1000000) (disch:=omega) only [resVal, resAll, resOne, rs78, Env.get, go_sem, ↓reduceIte, reduceCtorEq]) (by simp only [AV.und, AV.unds, and_self])
  · by_cases h2 : 17179869184 < a
    · have e : mayC a = false := by unfold mayC; simp; omega
      rw [e]
      simp (maxSteps:=1000000) (disch:=omega) only [go_sem, ↓reduceIte, reduceCtorEq, h, h2]
      exact fin_ext (by simp) (Ext.refl _) (by simp (maxSteps:=1000000) (disch:=omega) only [resVal, resAll, resOne, rs78, Env.get, go_sem, ↓reduceIte, reduceCtorEq]) (by simp only [AV.und, AV.unds, and_self])
    · have e : mayC a = true := by unfold mayC; simp; omega
      rw [e]
      simp (maxSteps:=1000000) (disch:=omega) only [go_sem, ↓reduceIte, reduceCtorEq, h, h2]
      exact fin_ext (by simp) (Ext.refl _) (by simp (maxSteps:=1000000) (disch:=omega) only [resVal, resAll, resOne, rs78, Env.get, go_sem, ↓reduceIte, reduceCtorEq]) (by simp only [AV.und, AV.unds, and_self])
theorem hb78 : hasBody Try.prog 78 = true := by kernel_rfl
theorem f69 {a b c d e f : Int} {H : Heap} : ACall Try.prog 69 [.agg [.int .i64 a, .int .i64 b, .int .i64 c, .int .i64 d, .int .i64 e, .int .i64 f]] H (.bool (mayB a b c d e f)) H := by
  refine acall69 (by simp) (acs_start ?_)
  have g77 := fun (X : Heap) (p : Nat) (h : blkAt X p = some ⟨[.int .i64 a, .int .i64 b, .int .i64 c, .int .i64 d, .int .i64 e, .int .i64 f], true⟩) => f77p (odd := fun n => !mayC n) (k := some 6) hb78 (fun _ _ => f78) (l := [a, b, c, d, e, f]) (p := p) (off := 0) (H := X) (Sl.whole (o := true) h) (by simp)
  simp only [List.length_cons, List.length_nil, Nat.reduceAdd, List.any_cons, List.any_nil, Bool.or_false] at g77
  have fin : (!(!mayC a || (!mayC b || (!mayC c || (!mayC d || (!mayC e || !mayC f)))))) = mayB a b c d e f := by
    unfold mayB
    cases mayC a <;> cases mayC b <;> cases mayC c <;> cases mayC d <;> cases mayC e <;> cases mayC f <;> rfl
  unfold c69
  simp (maxSteps:=1000000) (disch:=omega) only [go_sem, ↓reduceIte, reduceCtorEq]
  first | refine callB_intro (g77 _ _ (by simp only [go_sem, ↓reduceIte, reduceCtorEq])) ?_ | refine callD_intro (g77 _ _ (by simp only [go_sem, ↓reduceIte, reduceCtorEq])) ?_ | refine callP_intro (fun _ => (g77 _ _ (by simp only [go_sem, ↓reduceIte, reduceCtorEq]))) ?_ | refine callX_pure (g77 _ _ (by simp only [go_sem, ↓reduceIte, reduceCtorEq])) ?_
  simp (maxSteps:=1000000) (disch:=omega) only [go_sem, ↓reduceIte, reduceCtorEq, fin]
  exact fin_ext (by simp) (Ext.app _ _) (by simp (maxSteps:=1000000) (disch:=omega) only [resVal, resAll, resOne, rs69, Env.get, go_sem, ↓reduceIte, reduceCtorEq]) (by simp only [AV.und, AV.unds, and_self])
structure E0 (e : Es) : Prop where
  t : e.t0 = 16777216 ∧ e.t1 = 0 ∧ e.t2 = 0 ∧ e.t3 = 0
  a : T0 e.a
  b : T0 e.b
  c : T0 e.c
  n : e.st = 0 ∧ e.co = 0 ∧ e.o0 = 0 ∧ e.o1 = 0 ∧ e.o2 = 0 ∧ e.o3 = 0 ∧ e.sat = false
theorem E0.right {e : Es} (h : E0 e) : estB e = true := by
  unfold estB
  rw [h.a.right, h.b.right, h.c.right, h.a.xr, h.b.xr, h.c.xr, h.n.1, h.n.2.1, h.n.2.2.1, h.n.2.2.2.1, h.n.2.2.2.2.1, h.n.2.2.2.2.2.1, h.t.1, h.t.2.1, h.t.2.2.1, h.t.2.2.2]
  decide
theorem rep3 : (List.replicate 3 [AV.int .i64 0]).flatten = [.int .i64 0, .int .i64 0, .int .i64 0] := rfl
theorem f54_step {b2 bE i : Nat} {cs : List AV} {X : Heap} {Q : Post} {fs : List Fr} (hE : blkAt X bE = some ⟨cs, true⟩) (hl : cs.length = 29) (hi : i < 3)
    (hq : ∀ t X', T0 t → t.ok X' → blkAt X' bE = some ⟨setCells cs (4 + i * 6) t.av, true⟩ → (∀ b k, b ≠ bE → blkAt X b = some k → blkAt X' b = some k) → X.length ≤ X'.length → X.length ≤ t.xp → X.length ≤ t.pp → (∀ H, H.length ≤ bE → Ext H X → Ext H X') →
      acs Try.prog (.lp c54l0 :: fs) [(2, .ptr b2 0), (4, .ptr bE 0), (12, .int .i64 ((i + 1 : Nat) : Int))] X' Q) :
    acs Try.prog (.lp c54l0 :: fs) [(2, .ptr b2 0), (4, .ptr bE 0), (12, .int .i64 (i : Int))] X Q := by
  have lE := blkAt_lt hE
  have hlt : (i : Int) < 3 := by omega
  have g70 := f70 (p1 := X.length) (p2 := X.length + 1) (k1 := some 3) (k2 := some 3) (H := X ++ [some ⟨[.int .i64 0, .int .i64 0, .int .i64 0], true⟩, some ⟨[.int .i64 1677721600, .int .i64 167772160, .int .i64 16777216], true⟩])
    (Sl.whole (o := true) (by simp only [go_sem, ↓reduceIte, reduceCtorEq]; rfl)) (Sl.whole (o := true) (by simp only [go_sem, ↓reduceIte, reduceCtorEq]; rfl))
  have hc : 4 + (i * 6 + 6) ≤ cs.length := by omega
  rw [acs_lp]; conv in Fr.code c54l0 => unfold c54l0
  simp (maxSteps:=1000000) (disch:=omega) only [go_sem, ↓reduceIte, reduceCtorEq, hlt, rep3]
  refine callBE g70 ?_
  rintro v X1 hx1 ⟨t, rfl, ht, hok, hp1, hp2⟩
  have hxx : Ext X X1 := (Ext.app _ _).trans hx1
  have hE1 := hxx.blk hE
  have lE1 := blkAt_lt hE1
  simp only [List.length_append, List.length_cons, List.length_nil] at hp1 hp2
  have full : (AV.agg t.av).full = true := rfl
  have hq2 := hq t (X1.set bE (some ⟨setCells cs (4 + i * 6) t.av, true⟩)) ht ⟨hok.hx.set (by omega) _, hok.hp.set (by omega) _, hok.lx, hok.lp⟩ (blkAt_set_self lE1 _) (fun b k hb hk => by rw [blkAt_set_ne (by omega)]; exact hxx.blk hk) (by rw [List.length_set]; exact hxx.len) (by omega) (by omega) (fun H hH h => (h.trans hxx).set hH _)
  unfold Tk.av at hq2 full
  unfold Tk.av
  simp only [List.append_assoc, List.cons_append, List.nil_append, List.length_append, List.length_cons, List.length_nil, Nat.reduceAdd, Nat.add_assoc, Nat.zero_add, Nat.add_zero, Int.natCast_add, Int.cast_ofNat_Int, setCells] at hq2
  simp (maxSteps:=1000000) (disch:=omega) only [go_sem, ↓reduceIte, reduceCtorEq, hE1, lE1, hlt, hc, full]
  exact hq2
theorem Tk.ok.keep {t : Tk} {X X' : Heap} {bE : Nat} (h : t.ok X) (hk : ∀ b k, b ≠ bE → blkAt X b = some k → blkAt X' b = some k) (h1 : t.xp ≠ bE) (h2 : t.pp ≠ bE) : t.ok X' := by
  obtain ⟨⟨cs, o, a1, a2, a3⟩, ⟨ds, q, b1, b2, b3⟩, l1, l2⟩ := h
  exact ⟨⟨cs, o, hk _ _ h1 a1, a2, a3⟩, ⟨ds, q, hk _ _ h2 b1, b2, b3⟩, l1, l2⟩
theorem Tk.ok.set {t : Tk} {X : Heap} {b : Nat} (h : t.ok X) (h1 : b ≠ t.xp) (h2 : b ≠ t.pp) (x : Option Blk) : t.ok (X.set b x) := ⟨h.hx.set h1 x, h.hp.set h2 x, h.lx, h.lp⟩
theorem f54 {c0 c1 c2 c3 c4 c5 : Int} {H : Heap} (hm : mayB c0 c1 c2 c3 c4 c5 = true) :
    ACallE Try.prog 54 [.agg [.int .i64 c0, .int .i64 c1, .int .i64 c2, .int .i64 c3, .int .i64 c4, .int .i64 c5]] H fun v H' => ∃ e : Es, v = .tup [.agg e.av, .int .i64 0] ∧ E0 e ∧ e.ok H' := by
  refine acallE (fun v Hf h => acallK54 (by simp) h) (acs_start ?_)
  have g69 := fun G => f69 (a := c0) (b := c1) (c := c2) (d := c3) (e := c4) (f := c5) (H := H ++ G)
  rw [hm] at g69
  unfold c54
  simp (maxSteps:=1000000) (disch:=omega) only [go_sem, ↓reduceIte, reduceCtorEq]
  first | refine callB_intro (g69 _) ?_ | refine callD_intro (g69 _) ?_ | refine callP_intro (fun _ => (g69 _)) ?_ | refine callX_pure (g69 _) ?_
  simp (maxSteps:=1000000) (disch:=omega) only [go_sem, ↓reduceIte, reduceCtorEq]
  refine f54_step (i := 0) (bE := H.length + 2) (by simp only [go_sem, ↓reduceIte, reduceCtorEq]; rfl) rfl (by decide) ?_
  intro ta X1 ha oka hE1 hk1 hx1 hxp1 hpp1 ext1
  refine f54_step (i := 1) hE1 rfl (by decide) ?_
  intro tb X2 hb okb hE2 hk2 hx2 hxp2 hpp2 ext2
  refine f54_step (i := 2) hE2 rfl (by decide) ?_
  intro tc X3 hc okc hE3 hk3 hx3 hxp3 hpp3 ext3
  have hX : Ext H X3 := ext3 H (by omega) (ext2 H (by omega) (ext1 H (by omega) (Ext.app _ _)))
  simp only [List.length_append, List.length_cons, List.length_nil] at hx1 hxp1 hpp1
  have ka := (oka.keep hk2 (by omega) (by omega)).keep hk3 (by omega) (by omega)
  have kb := okb.keep hk3 (by omega) (by omega)
  have h2 : blkAt X3 (H.length + 1) = _ := hk3 _ _ (by omega) (hk2 _ _ (by omega) (hk1 (H.length + 1) _ (by omega) (by simp only [go_sem, ↓reduceIte, reduceCtorEq]; rfl)))
  have l2 := blkAt_lt h2
  clear hk1 hk2 hk3 ext1 ext2 ext3 hE1 hE2 g69
  unfold Tk.av at hE3
  simp only [go_sem, ↓reduceIte, reduceCtorEq] at hE3
  rw [acs_lp]; conv in Fr.code c54l0 => unfold c54l0
  simp (maxSteps:=1000000) (disch:=omega) only [go_sem, ↓reduceIte, reduceCtorEq, hE3, h2, l2]
  refine fin_e (by simp) (by simp (maxSteps:=1000000) (disch:=omega) only [resVal, resAll, resOne, rs54, Env.get, go_sem, ↓reduceIte, reduceCtorEq, blkAt_set_self l2] <;> rfl) (hX.set (by omega) _) ⟨⟨16777216, 0, 0, 0, ta, tb, tc, 0, 0, 0, 0, 0, 0, false⟩, rfl, ⟨⟨rfl, rfl, rfl, rfl⟩, ha, hb, hc, rfl, rfl, rfl, rfl, rfl, rfl, rfl⟩, ⟨ka.set (by omega) (by omega) _, kb.set (by omega) (by omega) _, okc.set (by omega) (by omega) _⟩⟩

theorem mayC_lo {n : Int} (h : n < 1) : mayC n = false := by unfold mayC; rw [decide_eq_false (by omega)]; rfl
theorem mayC_hi {n : Int} (h : 17179869184 < n) : mayC n = false := by unfold mayC; rw [Bool.and_comm, decide_eq_false (by omega)]; rfl
theorem mayC_ok {n : Int} (h : ¬ n < 1) (h2 : ¬ 17179869184 < n) : mayC n = true := by unfold mayC; rw [decide_eq_true (by omega), decide_eq_true (by omega)]; rfl
theorem f14 {a b c d e f : Int} {H : Heap} : ACall Try.prog 14 [.agg [.int .i64 a, .int .i64 b, .int .i64 c, .int .i64 d, .int .i64 e, .int .i64 f]] H (.bool (mayB a b c d e f)) H := by
  refine acall14 (by simp) (acs_start ?_)
  unfold c14 mayB
  simp (maxSteps:=1000000) (disch:=omega) only [go_sem, ↓reduceIte, reduceCtorEq]
  rw [acs_lp]; conv in Fr.code c14l0 => unfold c14l0
  by_cases la : a < 1
  · try simp only [mayC_lo la, Bool.false_and, Bool.and_false]
    simp (maxSteps:=1000000) (disch:=omega) only [go_sem, ↓reduceIte, reduceCtorEq, la]
    exact fin_ext (by simp) (Ext.app _ _) (by simp (maxSteps:=1000000) (disch:=omega) only [resVal, resAll, resOne, rs14, Env.get, go_sem, ↓reduceIte, reduceCtorEq]) (by simp only [AV.und, AV.unds, and_self])
  by_cases ga : 17179869184 < a
  · try simp only [mayC_hi ga, Bool.false_and, Bool.and_false]
    simp (maxSteps:=1000000) (disch:=omega) only [go_sem, ↓reduceIte, reduceCtorEq, la, ga]
    exact fin_ext (by simp) (Ext.app _ _) (by simp (maxSteps:=1000000) (disch:=omega) only [resVal, resAll, resOne, rs14, Env.get, go_sem, ↓reduceIte, reduceCtorEq]) (by simp only [AV.und, AV.unds, and_self])
  try simp only [mayC_ok la ga, Bool.true_and, Bool.and_true]
  simp (maxSteps:=1000000) (disch:=omega) only [go_sem, ↓reduceIte, reduceCtorEq, la, ga]
  rw [acs_lp]; conv in Fr.code c14l0 => unfold c14l0
  by_cases lb : b < 1
  · try simp only [mayC_lo lb, Bool.false_and, Bool.and_false]
    simp (maxSteps:=1000000) (disch:=omega) only [go_sem, ↓reduceIte, reduceCtorEq, lb]
    exact fin_ext (by simp) (Ext.app _ _) (by simp (maxSteps:=1000000) (disch:=omega) only [resVal, resAll, resOne, rs14, Env.get, go_sem, ↓reduceIte, reduceCtorEq]) (by simp only [AV.und, AV.unds, and_self])
  by_cases gb : 17179869184 < b
  · try simp only [mayC_hi gb, Bool.false_and, Bool.and_false]
    simp (maxSteps:=1000000) (disch:=omega) only [go_sem, ↓reduceIte, reduceCtorEq, lb, gb]
    exact fin_ext (by simp) (Ext.app _ _) (by simp (maxSteps:=1000000) (disch:=omega) only [resVal, resAll, resOne, rs14, Env.get, go_sem, ↓reduceIte, reduceCtorEq]) (by simp only [AV.und, AV.unds, and_self])
  try simp only [mayC_ok lb gb, Bool.true_and, Bool.and_true]
  simp (maxSteps:=1000000) (disch:=omega) only [go_sem, ↓reduceIte, reduceCtorEq, lb, gb]
  rw [acs_lp]; conv in Fr.code c14l0 => unfold c14l0
  by_cases lc : c < 1
  · try simp only [mayC_lo lc, Bool.false_and, Bool.and_false]
    simp (maxSteps:=1000000) (disch:=omega) only [go_sem, ↓reduceIte, reduceCtorEq, lc]
    exact fin_ext (by simp) (Ext.app _ _) (by simp (maxSteps:=1000000) (disch:=omega) only [resVal, resAll, resOne, rs14, Env.get, go_sem, ↓reduceIte, reduceCtorEq]) (by simp only [AV.und, AV.unds, and_self])
  by_cases gc : 17179869184 < c
  · try simp only [mayC_hi gc, Bool.false_and, Bool.and_false]
    simp (maxSteps:=1000000) (disch:=omega) only [go_sem, ↓reduceIte, reduceCtorEq, lc, gc]
    exact fin_ext (by simp) (Ext.app _ _) (by simp (maxSteps:=1000000) (disch:=omega) only [resVal, resAll, resOne, rs14, Env.get, go_sem, ↓reduceIte, reduceCtorEq]) (by simp only [AV.und, AV.unds, and_self])
  try simp only [mayC_ok lc gc, Bool.true_and, Bool.and_true]
  simp (maxSteps:=1000000) (disch:=omega) only [go_sem, ↓reduceIte, reduceCtorEq, lc, gc]
  rw [acs_lp]; conv in Fr.code c14l0 => unfold c14l0
  by_cases ld : d < 1
  · try simp only [mayC_lo ld, Bool.false_and, Bool.and_false]
    simp (maxSteps:=1000000) (disch:=omega) only [go_sem, ↓reduceIte, reduceCtorEq, ld]
    exact fin_ext (by simp) (Ext.app _ _) (by simp (maxSteps:=1000000) (disch:=omega) only [resVal, resAll, resOne, rs14, Env.get, go_sem, ↓reduceIte, reduceCtorEq]) (by simp only [AV.und, AV.unds, and_self])
  by_cases gd : 17179869184 < d
  · try simp only [mayC_hi gd, Bool.false_and, Bool.and_false]
    simp (maxSteps:=1000000) (disch:=omega) only [go_sem, ↓reduceIte, reduceCtorEq, ld, gd]
    exact fin_ext (by simp) (Ext.app _ _) (by simp (maxSteps:=1000000) (disch:=omega) only [resVal, resAll, resOne, rs14, Env.get, go_sem, ↓reduceIte, reduceCtorEq]) (by simp only [AV.und, AV.unds, and_self])
  try simp only [mayC_ok ld gd, Bool.true_and, Bool.and_true]
  simp (maxSteps:=1000000) (disch:=omega) only [go_sem, ↓reduceIte, reduceCtorEq, ld, gd]
  rw [acs_lp]; conv in Fr.code c14l0 => unfold c14l0
  by_cases le : e < 1
  · try simp only [mayC_lo le, Bool.false_and, Bool.and_false]
    simp (maxSteps:=1000000) (disch:=omega) only [go_sem, ↓reduceIte, reduceCtorEq, le]
    exact fin_ext (by simp) (Ext.app _ _) (by simp (maxSteps:=1000000) (disch:=omega) only [resVal, resAll, resOne, rs14, Env.get, go_sem, ↓reduceIte, reduceCtorEq]) (by simp only [AV.und, AV.unds, and_self])
  by_cases ge : 17179869184 < e
  · try simp only [mayC_hi ge, Bool.false_and, Bool.and_false]
    simp (maxSteps:=1000000) (disch:=omega) only [go_sem, ↓reduceIte, reduceCtorEq, le, ge]
    exact fin_ext (by simp) (Ext.app _ _) (by simp (maxSteps:=1000000) (disch:=omega) only [resVal, resAll, resOne, rs14, Env.get, go_sem, ↓reduceIte, reduceCtorEq]) (by simp only [AV.und, AV.unds, and_self])
  try simp only [mayC_ok le ge, Bool.true_and, Bool.and_true]
  simp (maxSteps:=1000000) (disch:=omega) only [go_sem, ↓reduceIte, reduceCtorEq, le, ge]
  rw [acs_lp]; conv in Fr.code c14l0 => unfold c14l0
  by_cases lf : f < 1
  · try simp only [mayC_lo lf, Bool.false_and, Bool.and_false]
    simp (maxSteps:=1000000) (disch:=omega) only [go_sem, ↓reduceIte, reduceCtorEq, lf]
    exact fin_ext (by simp) (Ext.app _ _) (by simp (maxSteps:=1000000) (disch:=omega) only [resVal, resAll, resOne, rs14, Env.get, go_sem, ↓reduceIte, reduceCtorEq]) (by simp only [AV.und, AV.unds, and_self])
  by_cases gf : 17179869184 < f
  · try simp only [mayC_hi gf, Bool.false_and, Bool.and_false]
    simp (maxSteps:=1000000) (disch:=omega) only [go_sem, ↓reduceIte, reduceCtorEq, lf, gf]
    exact fin_ext (by simp) (Ext.app _ _) (by simp (maxSteps:=1000000) (disch:=omega) only [resVal, resAll, resOne, rs14, Env.get, go_sem, ↓reduceIte, reduceCtorEq]) (by simp only [AV.und, AV.unds, and_self])
  try simp only [mayC_ok lf gf, Bool.true_and, Bool.and_true]
  simp (maxSteps:=1000000) (disch:=omega) only [go_sem, ↓reduceIte, reduceCtorEq, lf, gf]
  rw [acs_lp]; conv in Fr.code c14l0 => unfold c14l0
  simp (maxSteps:=1000000) (disch:=omega) only [go_sem, ↓reduceIte, reduceCtorEq]
  exact fin_ext (by simp) (Ext.app _ _) (by simp (maxSteps:=1000000) (disch:=omega) only [resVal, resAll, resOne, rs14, Env.get, go_sem, ↓reduceIte, reduceCtorEq]) (by simp only [AV.und, AV.unds, and_self])
theorem f68 {H : Heap} : ACallE Try.prog 68 [.int .i64 3, .int .i64 3] H fun v H' => ∃ p, v = .agg [.int .i64 3, .int .i64 3, .sl p 0 9 1 none] ∧ blkAt H' p = some ⟨List.replicate 9 (.int .i64 0), true⟩ ∧ H.length + 1 ≤ p := by
  refine acallE (fun v Hf h => acallK68 (by simp) h) (acs_start ?_)
  unfold c68
  simp (maxSteps:=1000000) (disch:=omega) only [go_sem, ↓reduceIte, reduceCtorEq]
  rw [acs_lp]; conv in Fr.code c68l0 => unfold c68l0
  simp (maxSteps:=1000000) (disch:=omega) only [go_sem, ↓reduceIte, reduceCtorEq]
  rw [acs_lp]; conv in Fr.code c68l0 => unfold c68l0
  simp (maxSteps:=1000000) (disch:=omega) only [go_sem, ↓reduceIte, reduceCtorEq]
  rw [acs_lp]; conv in Fr.code c68l0 => unfold c68l0
  simp (maxSteps:=1000000) (disch:=omega) only [go_sem, ↓reduceIte, reduceCtorEq]
  rw [acs_lp]; conv in Fr.code c68l0 => unfold c68l0
  simp (maxSteps:=1000000) (disch:=omega) only [go_sem, ↓reduceIte, reduceCtorEq]
  rw [acs_lp]; conv in Fr.code c68l0 => unfold c68l0
  simp (maxSteps:=1000000) (disch:=omega) only [go_sem, ↓reduceIte, reduceCtorEq]
  rw [acs_lp]; conv in Fr.code c68l0 => unfold c68l0
  simp (maxSteps:=1000000) (disch:=omega) only [go_sem, ↓reduceIte, reduceCtorEq]
  rw [acs_lp]; conv in Fr.code c68l0 => unfold c68l0
  simp (maxSteps:=1000000) (disch:=omega) only [go_sem, ↓reduceIte, reduceCtorEq]
  rw [acs_lp]; conv in Fr.code c68l0 => unfold c68l0
  simp (maxSteps:=1000000) (disch:=omega) only [go_sem, ↓reduceIte, reduceCtorEq]
  rw [acs_lp]; conv in Fr.code c68l0 => unfold c68l0
  simp (maxSteps:=1000000) (disch:=omega) only [go_sem, ↓reduceIte, reduceCtorEq]
  rw [acs_lp]; conv in Fr.code c68l0 => unfold c68l0
  simp (maxSteps:=1000000) (disch:=omega) only [go_sem, ↓reduceIte, reduceCtorEq]
  refine fin_e (by simp) (by simp (maxSteps:=1000000) (disch:=omega) only [resVal, resAll, resOne, rs68, Env.get, go_sem, ↓reduceIte, reduceCtorEq] <;> rfl) (Ext.app _ _) ⟨_, rfl, by simp only [go_sem, ↓reduceIte, reduceCtorEq]; rfl, by omega⟩

theorem v0_in {i : Nat} (h : i < 3) : inb (v0L.getD i 0) = true := by
  rcases i with _ | _ | _ | i
  · decide
  · decide
  · decide
  · omega
theorem f53_step {b2 b5 p q i : Nat} {k : Option Nat} {cs : List AV} {Y : Heap} {Q : Post} {fs : List Fr} (h5 : blkAt Y b5 = some ⟨[.int .i64 3, .int .i64 3, .sl p 0 9 1 none], true⟩) (hp : blkAt Y p = some ⟨cs, true⟩) (hl : cs.length = 9) (hs : Sl i64 Y q 0 v0L) (hi : i < 3)
    (hq : ∀ Y', blkAt Y' p = some ⟨cs.set (i * 3 + i) (.int .i64 (v0L.getD i 0)), true⟩ → (∀ b k, b ≠ p → blkAt Y b = some k → blkAt Y' b = some k) → (∀ H, H.length ≤ p → Ext H Y → Ext H Y') →
      acs Try.prog (.lp c53l0 :: fs) [(0, .sl q 0 3 1 k), (2, .ptr b2 0), (4, .int .i64 3), (5, .ptr b5 0), (6, .int .i64 ((i + 1 : Nat) : Int))] Y' Q) :
    acs Try.prog (.lp c53l0 :: fs) [(0, .sl q 0 3 1 k), (2, .ptr b2 0), (4, .int .i64 3), (5, .ptr b5 0), (6, .int .i64 (i : Int))] Y Q := by
  have hq := hq _ (blkAt_set_self (blkAt_lt hp) _) (fun b k hb hk => by rw [blkAt_set_ne (by omega)]; exact hk) (fun H hH h => h.set hH _)
  obtain ⟨ds, o, hd, hle, hcs⟩ := hs
  have hlt : (i : Int) < 3 := by omega
  have lp := blkAt_lt hp
  have gi : v0L[i]? = some (v0L.getD i 0) := by
    rw [List.getD_eq_getElem?_getD, List.getElem?_eq_getElem (show i < v0L.length by exact hi)]
    rfl
  have fx : ds[i]? = some (.int .i64 (v0L.getD i 0)) := by
    have := sl_get hcs gi
    rwa [Nat.zero_add] at this
  have g50 := fun (X : Heap) => f50 (a := v0L.getD i 0) (H := X)
  rw [v0_in hi] at g50
  generalize v0L.getD i 0 = x at *
  have w1 : IntKind.i64.wrap ((i : Int) * 3) = ((i * 3 : Nat) : Int) := by rw [i64_in _ (by omega)]; omega
  have w2 : IntKind.i64.wrap (((i * 3 : Nat) : Int) + (i : Int)) = ((i * 3 + i : Nat) : Int) := by rw [i64_in _ (by omega)]; omega
  have q1 : ((i * 3 + i : Nat) : Int) < 9 := by omega
  have q2 : i * 3 + i + 1 ≤ cs.length := by omega
  have e : cs.set (i * 3 + i) (.int .i64 x) = cs.take (i * 3 + i) ++ .int .i64 x :: cs.drop (i * 3 + i + 1) := List.set_eq_take_append_cons_drop .. |>.trans (by rw [if_pos (by omega)])
  rw [e] at hq
  rw [acs_lp]; conv in Fr.code c53l0 => unfold c53l0
  simp (maxSteps:=1000000) (disch:=omega) only [go_sem, ↓reduceIte, reduceCtorEq, hlt, hd, fx]
  first | refine callB_intro (g50 _) ?_ | refine callD_intro (g50 _) ?_ | refine callP_intro (fun _ => (g50 _)) ?_ | refine callX_pure (g50 _) ?_
  simp (maxSteps:=1000000) (disch:=omega) only [go_sem, ↓reduceIte, reduceCtorEq, hd, fx, h5, hp, lp, w1, w2, q1, q2, hlt, hl]
  simp only [List.append_assoc, List.cons_append, List.nil_append, List.length_append, List.length_cons, List.length_nil, Nat.reduceAdd, Nat.add_assoc, Nat.zero_add, Nat.add_zero, Int.natCast_add, Int.cast_ofNat_Int, ] at hq
  exact ⟨by omega, hq⟩
theorem f53 {q : Nat} {k : Option Nat} {H : Heap} (hs : Sl i64 H q 0 v0L) : ACallE Try.prog 53 [.sl q 0 3 1 k] H fun v H' => ∃ p, v = .tup [.agg [.int .i64 3, .int .i64 3, .sl p 0 9 1 none], .int .i64 0] ∧ blkAt H' p = some ⟨p0L.map (AV.int .i64), true⟩ ∧ H.length ≤ p := by
  refine acallE (fun v Hf h => acallK53 (by simp) h) (acs_start ?_)
  have lq := hs.lt
  unfold c53
  simp (maxSteps:=1000000) (disch:=omega) only [go_sem, ↓reduceIte, reduceCtorEq]
  first | refine callBE (f68) ?_ | refine callDE (f68) ?_ | refine callXE (f68) ?_
  rintro v X hx ⟨p, rfl, hp, hpl⟩
  have hX : Ext H X := (Ext.app _ _).trans hx
  have h2 : blkAt X H.length = some ⟨[.int .i64 0, .int .i64 0, .nils], true⟩ := hx.blk (by simp only [go_sem, ↓reduceIte, reduceCtorEq])
  have l2 := blkAt_lt h2
  have lp := blkAt_lt hp
  simp only [List.length_append, List.length_cons, List.length_nil] at hpl
  have hsX := hX.sl hs
  simp (maxSteps:=1000000) (disch:=omega) only [go_sem, ↓reduceIte, reduceCtorEq]
  have hp1 : ∀ G, blkAt (X ++ G) p = some ⟨List.replicate 9 (.int .i64 0), true⟩ := fun G => (blkAt_lo G lp).trans hp
  have kp : ∀ {Y Y' : Heap}, (∀ b k, b ≠ p → blkAt Y b = some k → blkAt Y' b = some k) → Sl i64 Y q 0 v0L → Sl i64 Y' q 0 v0L := fun hk ⟨cs, o, a1, a2, a3⟩ => ⟨cs, o, hk _ _ (by omega) a1, a2, a3⟩
  refine f53_step (i := 0) (b5 := X.length) (by simp only [go_sem, ↓reduceIte, reduceCtorEq]) (hp1 _) rfl (hsX.app _) (by decide) ?_
  intro Y1 y1 k1 e1
  have m1 := k1 X.length ⟨[AV.int .i64 3, .int .i64 3, .sl p 0 9 1 none], true⟩ (by omega) (by simp only [go_sem, ↓reduceIte, reduceCtorEq])
  have n1 := k1 H.length _ (by omega) (by rw [blkAt_lo _ l2]; exact h2)
  have s1 := kp k1 (hsX.app _)
  have x1 := e1 H (by omega) (hX.to _)
  refine f53_step (i := 1) (b5 := X.length) m1 y1 rfl s1 (by decide) ?_
  intro Y2 y2 k2 e2
  have m2 := k2 X.length _ (by omega) m1
  have n2 := k2 H.length _ (by omega) n1
  have s2 := kp k2 s1
  have x2 := e2 H (by omega) x1
  refine f53_step (i := 2) (b5 := X.length) m2 y2 rfl s2 (by decide) ?_
  intro Y3 y3 k3 e3
  have m3 := k3 X.length _ (by omega) m2
  have n3 := k3 H.length _ (by omega) n2
  have x3 := e3 H (by omega) x2
  have l3 := blkAt_lt n3
  clear kp k1 k2 k3 e1 e2 e3
  rw [acs_lp]; conv in Fr.code c53l0 => unfold c53l0
  simp (maxSteps:=1000000) (disch:=omega) only [go_sem, ↓reduceIte, reduceCtorEq, m3, n3, l3]
  refine fin_e (by simp) (by simp (maxSteps:=1000000) (disch:=omega) only [resVal, resAll, resOne, rs53, Env.get, go_sem, ↓reduceIte, reduceCtorEq, blkAt_set_self l3] <;> rfl) (x3.set (Nat.le_refl _) _) ⟨p, rfl, by rw [blkAt_set_ne (by omega)]; exact y3, by omega⟩

theorem f50_0 {H : Heap} : ACall Try.prog 50 [.int .i64 0] H (.bool true) H := f50 (a := 0)
theorem f30 {p1 p2 : Nat} {k1 k2 : Option Nat} {o1 o2 : Bool} {H : Heap} (h1 : blkAt H p1 = some ⟨[.int .i64 0, .int .i64 0, .int .i64 0], o1⟩) (h2 : blkAt H p2 = some ⟨[.int .i64 1677721600, .int .i64 167772160, .int .i64 16777216], o2⟩) : ACallE Try.prog 30 [.sl p1 0 3 1 k1, .sl p2 0 3 1 k2] H fun v H' => ∃ t : Tk, v = .tup [.agg t.av, .int .i64 0] ∧ T0 t ∧ t.ok H' ∧ H.length ≤ t.xp ∧ H.length ≤ t.pp := by
  refine acallE (fun v Hf h => acallK30 (by simp) h) (acs_start ?_)
  have l1 := blkAt_lt h1
  have l2 := blkAt_lt h2
  have s2 : Sl i64 H p2 0 v0L := Sl.whole (o := o2) h2
  have g53 := fun G => f53 (k := k2) (s2.app G)
  unfold c30
  simp (maxSteps:=1000000) (disch:=omega) only [go_sem, ↓reduceIte, reduceCtorEq]
  first | refine callBE (g53 _) ?_ | refine callDE (g53 _) ?_ | refine callXE (g53 _) ?_
  rintro v X hx ⟨p, rfl, hp, hpl⟩
  simp only [List.length_append, List.length_cons, List.length_nil] at hpl
  have hX : Ext H X := (Ext.app _ _).trans hx
  have a1 := hX.blk h1
  have a2 := hX.blk h2
  have a4 : blkAt X H.length = some ⟨[.int .i64 0, .int .i64 0, .nils, .int .i64 0, .int .i64 0, .nils], true⟩ := hx.blk (by simp only [go_sem, ↓reduceIte, reduceCtorEq])
  have l4 := blkAt_lt a4
  have la1 := blkAt_lt a1
  have la2 := blkAt_lt a2
  have lp := blkAt_lt hp
  simp (maxSteps:=1000000) (disch:=omega) only [go_sem, ↓reduceIte, reduceCtorEq]
  rw [acs_lp]; conv in Fr.code c30l0 => unfold c30l0
  simp (maxSteps:=1000000) (disch:=omega) only [go_sem, ↓reduceIte, reduceCtorEq, a1, a2, la1, la2, blkAt_lo]
  first | refine callB_intro (f50_0) ?_ | refine callD_intro (f50_0) ?_ | refine callP_intro (fun _ => (f50_0)) ?_ | refine callX_pure (f50_0) ?_
  simp (maxSteps:=1000000) (disch:=omega) only [go_sem, ↓reduceIte, reduceCtorEq, a1, a2, la1, la2, blkAt_lo]
  rw [acs_lp]; conv in Fr.code c30l0 => unfold c30l0
  simp (maxSteps:=1000000) (disch:=omega) only [go_sem, ↓reduceIte, reduceCtorEq, a1, a2, la1, la2, blkAt_lo]
  first | refine callB_intro (f50_0) ?_ | refine callD_intro (f50_0) ?_ | refine callP_intro (fun _ => (f50_0)) ?_ | refine callX_pure (f50_0) ?_
  simp (maxSteps:=1000000) (disch:=omega) only [go_sem, ↓reduceIte, reduceCtorEq, a1, a2, la1, la2, blkAt_lo]
  rw [acs_lp]; conv in Fr.code c30l0 => unfold c30l0
  simp (maxSteps:=1000000) (disch:=omega) only [go_sem, ↓reduceIte, reduceCtorEq, a1, a2, la1, la2, blkAt_lo]
  first | refine callB_intro (f50_0) ?_ | refine callD_intro (f50_0) ?_ | refine callP_intro (fun _ => (f50_0)) ?_ | refine callX_pure (f50_0) ?_
  simp (maxSteps:=1000000) (disch:=omega) only [go_sem, ↓reduceIte, reduceCtorEq, a1, a2, la1, la2, blkAt_lo]
  rw [acs_lp]; conv in Fr.code c30l0 => unfold c30l0
  simp (maxSteps:=1000000) (disch:=omega) only [go_sem, ↓reduceIte, reduceCtorEq, a1, a4, la1, l4, blkAt_lo, set_lo]
  have ne1 : H.length ≠ p := by omega
  have hsp : Sl i64 (X.set H.length (some ⟨[.int .i64 3, .int .i64 1, .sl (X.length + 2) 0 3 1 none, .int .i64 3, .int .i64 3, .sl p 0 9 1 none], true⟩) ++ [some ⟨[.int .i64 3, .int .i64 3, .sl p 0 9 1 none], true⟩, some ⟨[], true⟩, some ⟨[.int .i64 0, .int .i64 0, .int .i64 0], true⟩]) p 0 p0L := ((Sl.whole (o := true) hp).set ne1 _).app _
  have hsx : Sl i64 (X.set H.length (some ⟨[.int .i64 3, .int .i64 1, .sl (X.length + 2) 0 3 1 none, .int .i64 3, .int .i64 3, .sl p 0 9 1 none], true⟩) ++ [some ⟨[.int .i64 3, .int .i64 3, .sl p 0 9 1 none], true⟩, some ⟨[], true⟩, some ⟨[.int .i64 0, .int .i64 0, .int .i64 0], true⟩]) (X.length + 2) 0 x0L := Sl.whole (o := true) (by
    have := blkAt_app (X.set H.length (some ⟨[.int .i64 3, .int .i64 1, .sl (X.length + 2) 0 3 1 none, .int .i64 3, .int .i64 3, .sl p 0 9 1 none], true⟩)) [some ⟨[.int .i64 3, .int .i64 3, .sl p 0 9 1 none], true⟩, some ⟨[], true⟩, some ⟨[.int .i64 0, .int .i64 0, .int .i64 0], true⟩] 2
    rw [List.length_set] at this
    exact this)
  have hc : ∀ x G, blkAt (X.set H.length x ++ G) H.length = x := fun x G => by rw [blkAt_los _ _ l4, blkAt_set_self l4]
  refine fin_e (by simp) (by simp (maxSteps:=1000000) (disch:=omega) only [resVal, resAll, resOne, rs30, Env.get, go_sem, ↓reduceIte, reduceCtorEq, hc] <;> rfl) ((hX.set (Nat.le_refl _) _).to _) ⟨⟨3, 1, x0L, X.length + 2, 0, none, 3, 3, p0L, p, 0, none⟩, rfl, ⟨rfl, rfl, rfl, rfl, rfl, rfl⟩, ⟨hsx, hsp, (show (3 : Nat) ≤ 4611686018427387904 by decide), (show (9 : Nat) ≤ 4611686018427387904 by decide)⟩, by show H.length ≤ X.length + 2; omega, by show H.length ≤ p; omega⟩

theorem f15_step {b2 bE i : Nat} {cs : List AV} {X : Heap} {Q : Post} {fs : List Fr} (hE : blkAt X bE = some ⟨cs, true⟩) (hl : cs.length = 29) (hi : i < 3)
    (hq : ∀ t X', T0 t → t.ok X' → blkAt X' bE = some ⟨setCells cs (4 + i * 6) t.av, true⟩ → (∀ b k, b ≠ bE → blkAt X b = some k → blkAt X' b = some k) → X.length ≤ X'.length → X.length ≤ t.xp → X.length ≤ t.pp → (∀ H, H.length ≤ bE → Ext H X → Ext H X') →
      acs Try.prog (.lp c15l0 :: fs) [(2, .ptr b2 0), (5, .ptr bE 0), (6, .int .i64 ((i + 1 : Nat) : Int))] X' Q) :
    acs Try.prog (.lp c15l0 :: fs) [(2, .ptr b2 0), (5, .ptr bE 0), (6, .int .i64 (i : Int))] X Q := by
  have lE := blkAt_lt hE
  have hlt : (i : Int) < 3 := by omega
  have g70 := f30 (p1 := X.length) (p2 := X.length + 1) (k1 := some 3) (k2 := some 3) (o1 := true) (o2 := true) (H := X ++ [some ⟨[.int .i64 0, .int .i64 0, .int .i64 0], true⟩, some ⟨[.int .i64 1677721600, .int .i64 167772160, .int .i64 16777216], true⟩])
    (by simp only [go_sem, ↓reduceIte, reduceCtorEq]) (by simp only [go_sem, ↓reduceIte, reduceCtorEq])
  have hc : 4 + (i * 6 + 6) ≤ cs.length := by omega
  rw [acs_lp]; conv in Fr.code c15l0 => unfold c15l0
  simp (maxSteps:=1000000) (disch:=omega) only [go_sem, ↓reduceIte, reduceCtorEq, hlt, rep3]
  refine callBE g70 ?_
  rintro v X1 hx1 ⟨t, rfl, ht, hok, hp1, hp2⟩
  have hxx : Ext X X1 := (Ext.app _ _).trans hx1
  have hE1 := hxx.blk hE
  have lE1 := blkAt_lt hE1
  simp only [List.length_append, List.length_cons, List.length_nil] at hp1 hp2
  have full : (AV.agg t.av).full = true := rfl
  have hq2 := hq t (X1.set bE (some ⟨setCells cs (4 + i * 6) t.av, true⟩) ++ [some ⟨t.av, true⟩]) ht ⟨(hok.hx.set (by omega) _).app _, (hok.hp.set (by omega) _).app _, hok.lx, hok.lp⟩ (by rw [blkAt_los _ _ lE1, blkAt_set_self lE1]) (fun b k hb hk => by rw [blkAt_los _ _ (blkAt_lt (hxx.blk hk)), blkAt_set_ne (by omega)]; exact hxx.blk hk) (by rw [List.length_append, List.length_set]; have := hxx.len; omega) (by omega) (by omega) (fun H hH h => ((h.trans hxx).set hH _).to _)
  unfold Tk.av at hq2 full
  unfold Tk.av
  simp only [List.append_assoc, List.cons_append, List.nil_append, List.length_append, List.length_cons, List.length_nil, Nat.reduceAdd, Nat.add_assoc, Nat.zero_add, Nat.add_zero, Int.natCast_add, Int.cast_ofNat_Int, setCells] at hq2
  simp (maxSteps:=1000000) (disch:=omega) only [go_sem, ↓reduceIte, reduceCtorEq, hE1, lE1, hlt, hc, full, blkAt_lo, set_lo]
  exact hq2
theorem f15 {c0 c1 c2 c3 c4 c5 : Int} {H : Heap} (hm : mayB c0 c1 c2 c3 c4 c5 = true) :
    ACallE Try.prog 15 [.agg [.int .i64 c0, .int .i64 c1, .int .i64 c2, .int .i64 c3, .int .i64 c4, .int .i64 c5]] H fun v H' => ∃ e : Es, v = .tup [.agg e.av, .int .i64 0] ∧ E0 e ∧ e.ok H' := by
  refine acallE (fun v Hf h => acallK15 (by simp) h) (acs_start ?_)
  have g14 := fun G => f14 (a := c0) (b := c1) (c := c2) (d := c3) (e := c4) (f := c5) (H := H ++ G)
  rw [hm] at g14
  unfold c15
  simp (maxSteps:=1000000) (disch:=omega) only [go_sem, ↓reduceIte, reduceCtorEq]
  first | refine callB_intro (g14 _) ?_ | refine callD_intro (g14 _) ?_ | refine callP_intro (fun _ => (g14 _)) ?_ | refine callX_pure (g14 _) ?_
  simp (maxSteps:=1000000) (disch:=omega) only [go_sem, ↓reduceIte, reduceCtorEq]
  refine f15_step (i := 0) (bE := H.length + 2) (by simp only [go_sem, ↓reduceIte, reduceCtorEq]; rfl) rfl (by decide) ?_
  intro ta X1 ha oka hE1 hk1 hx1 hxp1 hpp1 ext1
  refine f15_step (i := 1) hE1 rfl (by decide) ?_
  intro tb X2 hb okb hE2 hk2 hx2 hxp2 hpp2 ext2
  refine f15_step (i := 2) hE2 rfl (by decide) ?_
  intro tc X3 hc okc hE3 hk3 hx3 hxp3 hpp3 ext3
  have hX : Ext H X3 := ext3 H (by omega) (ext2 H (by omega) (ext1 H (by omega) (Ext.app _ _)))
  simp only [List.length_append, List.length_cons, List.length_nil] at hx1 hxp1 hpp1
  have ka := (oka.keep hk2 (by omega) (by omega)).keep hk3 (by omega) (by omega)
  have kb := okb.keep hk3 (by omega) (by omega)
  have h2 : blkAt X3 (H.length + 1) = _ := hk3 _ _ (by omega) (hk2 _ _ (by omega) (hk1 (H.length + 1) _ (by omega) (by simp only [go_sem, ↓reduceIte, reduceCtorEq]; rfl)))
  have l2 := blkAt_lt h2
  clear hk1 hk2 hk3 ext1 ext2 ext3 hE1 hE2 g14
  unfold Tk.av at hE3
  simp only [go_sem, ↓reduceIte, reduceCtorEq] at hE3
  rw [acs_lp]; conv in Fr.code c15l0 => unfold c15l0
  simp (maxSteps:=1000000) (disch:=omega) only [go_sem, ↓reduceIte, reduceCtorEq, hE3, h2, l2]
  refine fin_e (by simp) (by simp (maxSteps:=1000000) (disch:=omega) only [resVal, resAll, resOne, rs15, Env.get, go_sem, ↓reduceIte, reduceCtorEq, blkAt_set_self l2] <;> rfl) (hX.set (by omega) _) ⟨⟨16777216, 0, 0, 0, ta, tb, tc, 0, 0, 0, 0, 0, 0, false⟩, rfl, ⟨⟨rfl, rfl, rfl, rfl⟩, ha, hb, hc, rfl, rfl, rfl, rfl, rfl, rfl, rfl⟩, ⟨ka.set (by omega) (by omega) _, kb.set (by omega) (by omega) _, okc.set (by omega) (by omega) _⟩⟩

def Acc (b : Nat) (acc : List Int) (X : Heap) (w : AV) : Prop := blkAt X b = some ⟨[w], true⟩ ∧ (acc = [] ∧ w = .nils ∨ ∃ q, b < q ∧ w = .sl q 0 acc.length 1 none ∧ blkAt X q = some ⟨acc.map (AV.int .i64), true⟩)
def Keep (b : Nat) (X X' : Heap) : Prop := (∀ c k, c < b → blkAt X c = some k → blkAt X' c = some k) ∧ (∀ H, H.length ≤ b → Ext H X → Ext H X') ∧ X.length ≤ X'.length
theorem Keep.refl (b : Nat) (X : Heap) : Keep b X X := ⟨fun _ _ _ h => h, fun _ _ h => h, Nat.le_refl _⟩
theorem Keep.trans {b : Nat} {X Y Z : Heap} (h : Keep b X Y) (h' : Keep b Y Z) : Keep b X Z := ⟨fun c k hc hk => h'.1 c k hc (h.1 c k hc hk), fun H hH hx => h'.2.1 H hH (h.2.1 H hH hx), Nat.le_trans h.2.2 h'.2.2⟩
theorem Keep.app (b : Nat) {X : Heap} (G : Heap) : Keep b X (X ++ G) := ⟨fun c k _ hk => (blkAt_lo G (blkAt_lt hk)).trans hk, fun H _ h => h.to G, by simp⟩
theorem Keep.sl {b p off : Nat} {X Y : Heap} {l : List Int} (h : Keep b X Y) (hp : p < b) (hs : Sl i64 X p off l) : Sl i64 Y p off l := by
  obtain ⟨cs, o, h1, h2, h3⟩ := hs
  exact ⟨cs, o, h.1 _ _ hp h1, h2, h3⟩
def Far (w : AV) (c : Nat) : Prop := ∀ q m, w = .sl q 0 m 1 none → c ≠ q
def Apart (b : Nat) (w : AV) (X : Heap) (w' : AV) (X' : Heap) : Prop := (∀ c k, c ≠ b → Far w c → blkAt X c = some k → blkAt X' c = some k) ∧ (∀ c, c < X.length → Far w c → Far w' c) ∧ X.length ≤ X'.length
theorem Apart.refl (b : Nat) (w : AV) (X : Heap) : Apart b w X w X := ⟨fun _ _ _ _ h => h, fun _ _ h => h, Nat.le_refl _⟩
theorem Apart.trans {b : Nat} {w w' w'' : AV} {X Y Z : Heap} (h : Apart b w X w' Y) (h' : Apart b w' Y w'' Z) : Apart b w X w'' Z := ⟨fun c k hc hf hk => h'.1 c k hc (h.2.1 c (blkAt_lt hk) hf) (h.1 c k hc hf hk), fun c hc hf => h'.2.1 c (Nat.lt_of_lt_of_le hc h.2.2) (h.2.1 c hc hf), Nat.le_trans h.2.2 h'.2.2⟩
theorem far_nil (c : Nat) : Far .nils c := fun q m e => by cases e
theorem Acc.one2 {b : Nat} {x : Int} {X : Heap} (h : blkAt X b = some ⟨[.nils], true⟩) : Apart b .nils X (.sl (X.length + 1) 0 1 1 none) (X.set b (some ⟨[.sl (X.length + 1) 0 1 1 none], true⟩) ++ [some ⟨[.int .i64 x], true⟩, some ⟨[.int .i64 x], true⟩]) :=
  ⟨fun c k hc _ hk => by rw [blkAt_los _ _ (blkAt_lt hk), blkAt_set_ne (by omega)]; exact hk, fun c hc _ q m e => by cases e; omega, by simp⟩
theorem Acc.push2 {b q : Nat} {x : Int} {acc : List Int} {X : Heap} : Apart b (.sl q 0 acc.length 1 none) X (.sl (X.length + 1) 0 (acc.length + 1) 1 none) ((X.set q none).set b (some ⟨[.sl (X.length + 1) 0 (acc.length + 1) 1 none], true⟩) ++ [(some ⟨[.int .i64 x], true⟩ : Option Blk), some ⟨acc.map (AV.int .i64) ++ [.int .i64 x], true⟩]) :=
  ⟨fun c k hc hf hk => by
    have := hf q _ rfl
    rw [blkAt_los _ _ (by rw [List.length_set]; exact blkAt_lt hk), blkAt_set_ne (by omega), blkAt_set_ne (by omega)]
    exact hk, fun c hc _ q m e => by cases e; omega, by simp⟩
theorem Acc.app {b : Nat} {acc : List Int} {X : Heap} {w : AV} (ha : Acc b acc X w) (G : Heap) : Acc b acc (X ++ G) w := by
  refine ⟨(blkAt_lo _ (blkAt_lt ha.1)).trans ha.1, ?_⟩
  rcases ha.2 with h | ⟨q, h1, h2, h3⟩
  · exact .inl h
  · exact .inr ⟨q, h1, h2, (blkAt_lo _ (blkAt_lt h3)).trans h3⟩
theorem Acc.farlt {b : Nat} {acc : List Int} {X : Heap} {w : AV} (ha : Acc b acc X w) {c : Nat} (hc : c < b) : Far w c := by
  intro q m e
  rcases ha.2 with ⟨_, h⟩ | ⟨q', h1, h2, _⟩
  · rw [h] at e; cases e
  · rw [h2] at e; cases e; omega
theorem Acc.farlen {b : Nat} {acc : List Int} {X : Heap} {w : AV} (ha : Acc b acc X w) : Far w X.length := by
  intro q m e
  rcases ha.2 with ⟨_, h⟩ | ⟨q', h1, h2, h3⟩
  · rw [h] at e; cases e
  · rw [h2] at e; cases e; have := blkAt_lt h3; omega
theorem Acc.one {b : Nat} {x : Int} {X : Heap} (h : blkAt X b = some ⟨[.nils], true⟩) :
    Acc b [x] (X.set b (some ⟨[.sl (X.length + 1) 0 1 1 none], true⟩) ++ [some ⟨[.int .i64 x], true⟩, some ⟨[.int .i64 x], true⟩]) (.sl (X.length + 1) 0 1 1 none) ∧
    Keep b X (X.set b (some ⟨[.sl (X.length + 1) 0 1 1 none], true⟩) ++ [some ⟨[.int .i64 x], true⟩, some ⟨[.int .i64 x], true⟩]) := by
  have lb := blkAt_lt h
  refine ⟨⟨by rw [blkAt_los _ _ lb, blkAt_set_self lb], .inr ⟨X.length + 1, by omega, rfl, ?_⟩⟩, fun c k hc hk => ?_, fun H hH hx => (hx.set hH _).to _, by simp⟩
  · have := blkAt_app (X.set b (some ⟨[AV.sl (X.length + 1) 0 1 1 none], true⟩)) [some ⟨[AV.int .i64 x], true⟩, some ⟨[AV.int .i64 x], true⟩] 1
    rw [List.length_set] at this
    exact this
  · rw [blkAt_los _ _ (blkAt_lt hk), blkAt_set_ne (by omega)]
    exact hk
theorem Acc.push {b q : Nat} {x : Int} {acc : List Int} {X : Heap} (h : blkAt X b = some ⟨[.sl q 0 acc.length 1 none], true⟩) (hq : b < q) :
    Acc b (acc ++ [x]) ((X.set q none).set b (some ⟨[.sl (X.length + 1) 0 (acc.length + 1) 1 none], true⟩) ++ [(some ⟨[.int .i64 x], true⟩ : Option Blk), some ⟨acc.map (AV.int .i64) ++ [.int .i64 x], true⟩]) (.sl (X.length + 1) 0 (acc.length + 1) 1 none) ∧
    Keep b X ((X.set q none).set b (some ⟨[.sl (X.length + 1) 0 (acc.length + 1) 1 none], true⟩) ++ [(some ⟨[.int .i64 x], true⟩ : Option Blk), some ⟨acc.map (AV.int .i64) ++ [.int .i64 x], true⟩]) := by
  have lb := blkAt_lt h
  have lb2 : b < (X.set q none).length := by rw [List.length_set]; exact lb
  refine ⟨⟨by rw [blkAt_los _ _ lb2, blkAt_set_self lb2], .inr ⟨X.length + 1, by omega, by rw [List.length_append]; rfl, ?_⟩⟩, fun c k hc hk => ?_, fun H hH hx => ((hx.set (by omega) _).set hH _).to _, by simp⟩
  · have := blkAt_app ((X.set q none).set b (some ⟨[.sl (X.length + 1) 0 (acc.length + 1) 1 none], true⟩)) [(some ⟨[AV.int .i64 x], true⟩ : Option Blk), some ⟨acc.map (AV.int .i64) ++ [AV.int .i64 x], true⟩] 1
    rw [List.length_set, List.length_set] at this
    rw [this, List.map_append]
    rfl
  · rw [blkAt_los _ _ (by rw [List.length_set]; exact blkAt_lt hk), blkAt_set_ne (by omega), blkAt_set_ne (by omega)]
    exact hk
theorem f60_loop {p off b n : Nat} {k : Option Nat} {l : List Int} {Q : Post} (hl : l.length = n) (hpb : p ≠ b) (hbig : n ≤ 1000000) :
    ∀ (r : List Int) (j : Nat) (acc : List Int) (X : Heap) (w : AV), l.drop j = r → j + r.length = n → acc.length ≤ 1000000 + j → Acc b acc X w → Sl i64 X p off l → (∀ q m, w = .sl q 0 m 1 none → p ≠ q) →
    (∀ X' w' T, Acc b (acc ++ r) X' w' → Keep b X X' → Apart b w X w' X' → Q .normal T X') →
    acs Try.prog [.lp c60l0, .blk 0] [(1, .ptr b 0), (5, .sl p off n 1 k), (6, .int .i64 (n : Int)), (7, .int .i64 (j : Int))] X Q := by
  intro r
  induction r with
  | nil =>
    intro j acc X w hd hj _ ha hs hpq hq
    obtain rfl : j = n := by simpa using hj
    rw [acs_lp]; conv in Fr.code c60l0 => unfold c60l0
    simp (maxSteps:=1000000) (disch:=omega) only [go_sem, ↓reduceIte, reduceCtorEq, Int.lt_irrefl]
    rw [List.append_nil] at hq
    exact hq X w _ ha (Keep.refl _ _) (Apart.refl _ _ _)
  | cons x r ih =>
    intro j acc X w hd hj hac ha hs hpq hq
    obtain ⟨h1, h2, h3⟩ := drop_cons hd
    have hlt : (j : Int) < (n : Int) := by omega
    obtain ⟨cs, o, hp, hle, hcs⟩ := hs
    have fx : cs[off + j]? = some (.int .i64 x) := sl_get hcs h1
    have lp := blkAt_lt hp
    obtain ⟨hb, hw⟩ := ha
    have lb := blkAt_lt hb
    have happ : acc ++ x :: r = (acc ++ [x]) ++ r := by simp
    rw [happ] at hq
    rcases hw with ⟨rfl, rfl⟩ | ⟨q, hbq, rfl, hqb⟩
    · obtain ⟨n1, n2⟩ := Acc.one (x := x) hb
      have n3 : Sl i64 (X.set b (some ⟨[.sl (X.length + 1) 0 1 1 none], true⟩) ++ [some ⟨[.int .i64 x], true⟩, some ⟨[.int .i64 x], true⟩]) p off l := ⟨cs, o, by rw [blkAt_los _ _ lp, blkAt_set_ne (by omega)]; exact hp, hle, hcs⟩
      have nx := ih (j + 1) [x] _ _ h2 (by simp at hj; omega) (by simp; omega) n1 n3 (by intro q m e; cases e; omega) (fun X' w' T h k a => hq X' w' T h (n2.trans k) ((Acc.one2 hb).trans a))
      clear ih
      rw [acs_lp]; conv in Fr.code c60l0 => unfold c60l0
      simp (maxSteps:=1000000) (disch:=omega) only [go_sem, ↓reduceIte, reduceCtorEq, hlt, hp, fx, hb, lb, lp, blkAt_lo, set_lo]
      exact nx
    · obtain ⟨n1, n2⟩ := Acc.push (x := x) hb hbq
      have pq := hpq q _ rfl
      have n3 : Sl i64 ((X.set q none).set b (some ⟨[.sl (X.length + 1) 0 (acc.length + 1) 1 none], true⟩) ++ [(some ⟨[.int .i64 x], true⟩ : Option Blk), some ⟨acc.map (AV.int .i64) ++ [.int .i64 x], true⟩]) p off l := ⟨cs, o, by rw [blkAt_los _ _ (by rw [List.length_set]; exact lp), blkAt_set_ne (by omega), blkAt_set_ne (by omega)]; exact hp, hle, hcs⟩
      have nx := ih (j + 1) (acc ++ [x]) _ _ h2 (by simp at hj; omega) (by simp; omega) n1 n3 (by intro q' m e; cases e; omega) (fun X' w' T h k a => hq X' w' T h (n2.trans k) (Acc.push2.trans a))
      clear ih
      have lq := blkAt_lt hqb
      have hlA : (acc.map (AV.int .i64)).length = acc.length := by simp
      have hA0 : List.take acc.length (acc.map (AV.int .i64)) = acc.map (AV.int .i64) := by rw [List.take_of_length_le (by simp)]
      have big : (acc.length + 1) * 8 ≤ 140737488355328 := by simp at hj; omega
      have hb' : ∀ G, blkAt (X.set q none ++ G) b = some ⟨[.sl q 0 acc.length 1 none], true⟩ := fun G => by rw [blkAt_los _ _ lb, blkAt_set_ne (by omega)]; exact hb
      have lb' : b < (X.set q none).length := by rw [List.length_set]; exact lb
      generalize acc.map (AV.int .i64) = A at *
      rw [acs_lp]; conv in Fr.code c60l0 => unfold c60l0
      simp (maxSteps:=1000000) (disch:=omega) only [go_sem, ↓reduceIte, reduceCtorEq, hlt, hp, fx, hb, lb, lp, blkAt_lo, set_lo, hqb, lq, hlA, hA0, big, hb', Nat.le_refl, List.length_set]
      exact nx
theorem f60 {p off b n : Nat} {k : Option Nat} {l acc : List Int} {X : Heap} {w : AV} (hl : l.length = n) (hpb : p ≠ b) (hbig : n ≤ 1000000) (hac : acc.length ≤ 1000000) (ha : Acc b acc X w) (hs : Sl i64 X p off l) (hpq : ∀ q m, w = .sl q 0 m 1 none → p ≠ q) :
    ACallX Try.prog 60 [.sl p off n 1 k, .ptr b 0] X fun v X' => v = .tup [] ∧ (∃ w', Acc b (acc ++ l) X' w' ∧ Apart b w X w' X') ∧ Keep b X X' := by
  refine acallX (fun v Hf h => acallK60 (by simp) h) (acs_start ?_)
  unfold c60
  simp (maxSteps:=1000000) (disch:=omega) only [go_sem, ↓reduceIte, reduceCtorEq]
  refine f60_loop hl hpb hbig l 0 acc X w rfl (by omega) (by omega) ha hs hpq ?_
  intro X' w' T h kx ap
  refine fin_x (by simp) (by simp (maxSteps:=1000000) (disch:=omega) only [resVal, resAll, resOne, rs60, Env.get, go_sem, ↓reduceIte, reduceCtorEq] <;> rfl) ⟨rfl, ⟨_, h, ap⟩, kx⟩
theorem hb60 : hasBody Try.prog 60 = true := by kernel_rfl

def axW (t : Tk) : List Int := t.xl ++ (t.pl.take 3 ++ [t.pl.getD 4 0, t.pl.getD 5 0, t.pl.getD 8 0])
def wds (e : Es) : List Int := [e.t0, e.t1, e.t2, e.t3] ++ axW e.a ++ axW e.b ++ axW e.c ++ [e.st, e.co, e.o0, e.o1, e.o2, e.o3, if e.sat then 1 else 0]
structure Tk.three (t : Tk) : Prop where
  x : t.xl.length = 3
  p : t.pl.length = 9
theorem Tk.three_of {t : Tk} (h : trkB t = true) (h3 : t.xr = 3) : t.three := by
  unfold trkB at h
  simp only [Bool.and_eq_true, decide_eq_true_eq] at h
  obtain ⟨⟨⟨⟨⟨h1, h2⟩, h4⟩, h5⟩, h6⟩, _⟩ := h
  obtain ⟨_, _, a, _⟩ := rightB_len h1
  obtain ⟨_, _, b, _⟩ := rightB_len h2
  rw [h3, h4] at a
  rw [h5, h6, h3] at b
  exact ⟨by omega, by omega⟩
theorem f34_ax {i b B0 : Nat} {t : Tk} {ax : List AV} {acc : List Int} {H X : Heap} {w : AV} {Q : Post} {fs : List Fr} (hi : i < 3) (hax : (ax.drop (i * 6)).take 6 = t.av) (h3 : t.three) (hok : t.ok H) (hHb : H.length ≤ b) (kx : Keep b H X) (ha : Acc b acc X w) (hac : acc.length ≤ 100)
    (hq : ∀ X' w', Keep b H X' → Acc b (acc ++ axW t) X' w' → acs Try.prog (.lp c34l1 :: fs) [(1, .ptr B0 0), (3, .ptr b 0), (4, .fn (.func 60) [] [.ptr b 0]), (16, .agg ax), (17, .int .i64 ((i + 1 : Nat) : Int))] X' Q) :
    acs Try.prog (.lp c34l1 :: fs) [(1, .ptr B0 0), (3, .ptr b 0), (4, .fn (.func 60) [] [.ptr b 0]), (16, .agg ax), (17, .int .i64 (i : Int))] X Q := by
  have hlt : (i : Int) < 3 := by omega
  obtain ⟨xr, xc, xl, xp, xo, xk, pr, pc, pl, pp, po, pk⟩ := t
  obtain ⟨hx, hp, lx, lp⟩ := hok
  obtain ⟨nx, np⟩ := h3
  simp only at hx hp lx lp nx np
  unfold Tk.av at hax
  simp only [nx, np] at hax
  have lxp := hx.lt
  have lpp := hp.lt
  have full : (AV.agg [AV.int .i64 xr, .int .i64 xc, .sl xp xo 3 1 xk, .int .i64 pr, .int .i64 pc, .sl pp po 9 1 pk]).full = true := rfl
  rw [acs_lp]; conv in Fr.code c34l1 => unfold c34l1
  simp (maxSteps:=1000000) (disch:=omega) only [go_sem, ↓reduceIte, reduceCtorEq, hlt, hax, hb60]
  have hbB := ha.1
  have lb := blkAt_lt hbB
  have kA : Keep b H (X ++ [some ⟨[AV.int .i64 xr, .int .i64 xc, .sl xp xo 3 1 xk, .int .i64 pr, .int .i64 pc, .sl pp po 9 1 pk], true⟩]) := kx.trans (Keep.app _ _)
  have haA := ha.app [(some ⟨[AV.int .i64 xr, .int .i64 xc, .sl xp xo 3 1 xk, .int .i64 pr, .int .i64 pc, .sl pp po 9 1 pk], true⟩ : Option Blk)]
  have farw : ∀ c, c < b → Far w c := fun c hc => ha.farlt hc
  have farX : Far w X.length := ha.farlen
  have tkA : blkAt (X ++ [some ⟨[AV.int .i64 xr, .int .i64 xc, .sl xp xo 3 1 xk, .int .i64 pr, .int .i64 pc, .sl pp po 9 1 pk], true⟩]) X.length = some ⟨[AV.int .i64 xr, .int .i64 xc, .sl xp xo 3 1 xk, .int .i64 pr, .int .i64 pc, .sl pp po 9 1 pk], true⟩ := by simp only [go_sem, ↓reduceIte, reduceCtorEq]
  have sxA := kA.sl (by omega) hx
  have lXA : X.length < (X ++ [(some ⟨[AV.int .i64 xr, .int .i64 xc, .sl xp xo 3 1 xk, .int .i64 pr, .int .i64 pc, .sl pp po 9 1 pk], true⟩ : Option Blk)]).length := by simp
  generalize X ++ [(some ⟨[AV.int .i64 xr, .int .i64 xc, .sl xp xo 3 1 xk, .int .i64 pr, .int .i64 pc, .sl pp po 9 1 pk], true⟩ : Option Blk)] = A at *
  have g1 := f60 (k := xk) nx (by omega) (by omega) (by omega) haA sxA (farw xp (by omega))
  first | refine callBX (g1) ?_ | refine callDX (g1) ?_
  rintro v Y ⟨rfl, ⟨w1, ha1, ap1⟩, k1⟩
  have kY := kA.trans k1
  have tkY := ap1.1 _ _ (by omega) farX tkA
  have farXY := ap1.2.1 _ lXA farX
  have farw1 := fun c (hc : c < b) => ap1.2.1 c (by omega) (farw c hc)
  have spY := (kY.sl (by omega) hp).take 3
  have np3 : (pl.take 3).length = 3 := by simp [np]
  have g2 := f60 (k := (if 9 = 0 ∧ pk = none then none else pk)) np3 (by omega) (by omega) (by simp; omega) ha1 spY (farw1 pp (by omega))
  have lXY := Nat.lt_of_lt_of_le lXA ap1.2.2
  simp (maxSteps:=1000000) (disch:=omega) only [go_sem, ↓reduceIte, reduceCtorEq, tkY, hb60]
  simp only [show ¬ (9 = 0) from by decide, false_and, if_false] at g2
  first | refine callBX (g2) ?_ | refine callDX (g2) ?_
  rintro v Z ⟨rfl, ⟨w2, ha2, ap2⟩, k2⟩
  have kZ := kY.trans k2
  have tkZ := ap2.1 _ _ (by omega) farXY tkY
  obtain ⟨cs, o, hpp, hle, hcs⟩ := kZ.sl (by omega) hp
  have gg : ∀ j, j < 9 → cs[po + j]? = some (.int .i64 (pl.getD j 0)) := fun j hj => sl_get hcs (by rw [List.getD_eq_getElem?_getD, List.getElem?_eq_getElem (by omega)]; rfl)
  have g4 := gg 4 (by decide)
  have g5 := gg 5 (by decide)
  have g8 := gg 8 (by decide)
  have hwax : axW ⟨xr, xc, xl, xp, xo, xk, pr, pc, pl, pp, po, pk⟩ = xl ++ (pl.take 3 ++ [pl.getD 4 0, pl.getD 5 0, pl.getD 8 0]) := rfl
  rw [hwax] at hq
  generalize pl.getD 4 0 = y4 at *
  generalize pl.getD 5 0 = y5 at *
  generalize pl.getD 8 0 = y8 at *
  simp (maxSteps:=1000000) (disch:=omega) only [go_sem, ↓reduceIte, reduceCtorEq, tkZ, hpp, g4, g5, g8, hb60]
  have kB : Keep b H (Z ++ [(some ⟨[.int .i64 y4, .int .i64 y5, .int .i64 y8], true⟩ : Option Blk)]) := kZ.trans (Keep.app _ _)
  have haB := ha2.app [(some ⟨[.int .i64 y4, .int .i64 y5, .int .i64 y8], true⟩ : Option Blk)]
  have lbZ := blkAt_lt ha2.1
  have g3 := f60 (k := some 3) (l := [y4, y5, y8]) (n := 3) (p := Z.length) (off := 0) rfl (by omega) (by omega) (by simp; omega) haB (Sl.whole (o := true) (by simp only [go_sem, ↓reduceIte, reduceCtorEq]; rfl)) ha2.farlen
  first | refine callBX (g3) ?_ | refine callDX (g3) ?_
  rintro v U ⟨rfl, ⟨w3, ha3, ap3⟩, k3⟩
  have e3 : acc ++ xl ++ List.take 3 pl ++ [y4, y5, y8] = acc ++ (xl ++ (List.take 3 pl ++ [y4, y5, y8])) := by simp only [List.append_assoc]
  rw [e3] at ha3
  have fin := hq U w3 (kB.trans k3) ha3
  simp (maxSteps:=1000000) (disch:=omega) only [go_sem, ↓reduceIte, reduceCtorEq]
  exact fin

theorem f34_loop {p off b n : Nat} {k : Option Nat} {l : List Int} {Q : Post} {fs : List Fr} (hl : l.length = n) (hpb : p ≠ b) (hbig : n ≤ 1000000) :
    ∀ (r : List Int) (j : Nat) (acc : List Int) (X : Heap) (w : AV), l.drop j = r → j + r.length = n → acc.length ≤ 1000000 + j → Acc b acc X w → Sl i64 X p off l → (∀ q m, w = .sl q 0 m 1 none → p ≠ q) →
    (∀ X' w', Acc b (acc ++ r) X' w' → Keep b X X' → Apart b w X w' X' → leave Try.prog 2 fs [(3, .ptr b 0)] X' Q) →
    acs Try.prog (.lp c34l0 :: fs) [(3, .ptr b 0), (69, .sl p off n 1 k), (70, .int .i64 (n : Int)), (71, .int .i64 (j : Int))] X Q := by
  intro r
  induction r with
  | nil =>
    intro j acc X w hd hj _ ha hs hpq hq
    obtain rfl : j = n := by simpa using hj
    rw [acs_lp]; conv in Fr.code c34l0 => unfold c34l0
    simp (maxSteps:=1000000) (disch:=omega) only [go_sem, ↓reduceIte, reduceCtorEq, Int.lt_irrefl]
    rw [List.append_nil] at hq
    exact hq X w ha (Keep.refl _ _) (Apart.refl _ _ _)
  | cons x r ih =>
    intro j acc X w hd hj hac ha hs hpq hq
    obtain ⟨h1, h2, h3⟩ := drop_cons hd
    have hlt : (j : Int) < (n : Int) := by omega
    obtain ⟨cs, o, hp, hle, hcs⟩ := hs
    have fx : cs[off + j]? = some (.int .i64 x) := sl_get hcs h1
    have lp := blkAt_lt hp
    obtain ⟨hb, hw⟩ := ha
    have lb := blkAt_lt hb
    have happ : acc ++ x :: r = (acc ++ [x]) ++ r := by simp
    rw [happ] at hq
    rcases hw with ⟨rfl, rfl⟩ | ⟨q, hbq, rfl, hqb⟩
    · obtain ⟨n1, n2⟩ := Acc.one (x := x) hb
      have n3 : Sl i64 (X.set b (some ⟨[.sl (X.length + 1) 0 1 1 none], true⟩) ++ [some ⟨[.int .i64 x], true⟩, some ⟨[.int .i64 x], true⟩]) p off l := ⟨cs, o, by rw [blkAt_los _ _ lp, blkAt_set_ne (by omega)]; exact hp, hle, hcs⟩
      have nx := ih (j + 1) [x] _ _ h2 (by simp at hj; omega) (by simp; omega) n1 n3 (by intro q m e; cases e; omega) (fun X' w' h k a => hq X' w' h (n2.trans k) ((Acc.one2 hb).trans a))
      clear ih
      rw [acs_lp]; conv in Fr.code c34l0 => unfold c34l0
      simp (maxSteps:=1000000) (disch:=omega) only [go_sem, ↓reduceIte, reduceCtorEq, hlt, hp, fx, hb, lb, lp, blkAt_lo, set_lo]
      exact nx
    · obtain ⟨n1, n2⟩ := Acc.push (x := x) hb hbq
      have pq := hpq q _ rfl
      have n3 : Sl i64 ((X.set q none).set b (some ⟨[.sl (X.length + 1) 0 (acc.length + 1) 1 none], true⟩) ++ [(some ⟨[.int .i64 x], true⟩ : Option Blk), some ⟨acc.map (AV.int .i64) ++ [.int .i64 x], true⟩]) p off l := ⟨cs, o, by rw [blkAt_los _ _ (by rw [List.length_set]; exact lp), blkAt_set_ne (by omega), blkAt_set_ne (by omega)]; exact hp, hle, hcs⟩
      have nx := ih (j + 1) (acc ++ [x]) _ _ h2 (by simp at hj; omega) (by simp; omega) n1 n3 (by intro q' m e; cases e; omega) (fun X' w' h k a => hq X' w' h (n2.trans k) (Acc.push2.trans a))
      clear ih
      have lq := blkAt_lt hqb
      have hlA : (acc.map (AV.int .i64)).length = acc.length := by simp
      have hA0 : List.take acc.length (acc.map (AV.int .i64)) = acc.map (AV.int .i64) := by rw [List.take_of_length_le (by simp)]
      have big : (acc.length + 1) * 8 ≤ 140737488355328 := by simp at hj; omega
      have hb' : ∀ G, blkAt (X.set q none ++ G) b = some ⟨[.sl q 0 acc.length 1 none], true⟩ := fun G => by rw [blkAt_los _ _ lb, blkAt_set_ne (by omega)]; exact hb
      have lb' : b < (X.set q none).length := by rw [List.length_set]; exact lb
      generalize acc.map (AV.int .i64) = A at *
      rw [acs_lp]; conv in Fr.code c34l0 => unfold c34l0
      simp (maxSteps:=1000000) (disch:=omega) only [go_sem, ↓reduceIte, reduceCtorEq, hlt, hp, fx, hb, lb, lp, blkAt_lo, set_lo, hqb, lq, hlA, hA0, big, hb', Nat.le_refl, List.length_set]
      exact nx
theorem f34 {e : Es} {H : Heap} (h : e.ok H) (h3a : e.a.three) (h3b : e.b.three) (h3c : e.c.three) : ACallE Try.prog 34 [.agg e.av] H fun v H' => ∃ q, v = .sl q 0 38 1 none ∧ blkAt H' q = some ⟨(wds e).map (AV.int .i64), true⟩ ∧ H.length ≤ q := by
  refine acallE (fun v Hf h => acallK34 (by simp) h) (acs_start ?_)
  have lw : ([e.t0, e.t1, e.t2, e.t3] ++ axW e.a ++ axW e.b ++ axW e.c ++ [e.st, e.co, e.o0, e.o1, e.o2, e.o3, if e.sat then 1 else 0]).length = 38 := by
    unfold axW
    simp [h3a.x, h3a.p, h3b.x, h3b.p, h3c.x, h3c.p]
  have lA : (axW e.a).length = 9 := by unfold axW; simp [h3a.x, h3a.p]
  have lB : (axW e.b).length = 9 := by unfold axW; simp [h3b.x, h3b.p]
  have lC : (axW e.c).length = 9 := by unfold axW; simp [h3c.x, h3c.p]
  have s4 : ∀ G, Sl i64 (H ++ some ⟨e.av, true⟩ :: G) H.length 0 [e.t0, e.t1, e.t2, e.t3] := fun G => ⟨e.av, true, by simp only [go_sem, ↓reduceIte, reduceCtorEq], by show 4 ≤ 29; decide, rfl⟩
  have c22 : e.av[22]? = some (.int .i64 e.st) := rfl
  have c23 : e.av[23]? = some (.int .i64 e.co) := rfl
  have c24 : e.av[24]? = some (.int .i64 e.o0) := rfl
  have c25 : e.av[25]? = some (.int .i64 e.o1) := rfl
  have c26 : e.av[26]? = some (.int .i64 e.o2) := rfl
  have c27 : e.av[27]? = some (.int .i64 e.o3) := rfl
  have c28 : e.av[28]? = some (.bool e.sat) := rfl
  have avl : 4 + 18 ≤ e.av.length := by show 22 ≤ 29; decide
  have ha0 : Acc (H.length + 1) [] (H ++ [some ⟨e.av, true⟩, some ⟨[.nils], true⟩]) .nils := ⟨by simp only [go_sem, ↓reduceIte, reduceCtorEq], .inl ⟨rfl, rfl⟩⟩
  have g0 := f60 (k := some 4) (l := [e.t0, e.t1, e.t2, e.t3]) (n := 4) rfl (by omega) (by omega) (by simp) ha0 (s4 _) (far_nil _)
  unfold c34
  simp (maxSteps:=1000000) (disch:=omega) only [go_sem, ↓reduceIte, reduceCtorEq, hb60]
  refine ⟨rfl, by show 4 ≤ 29; decide, ?_⟩
  first | refine callBX (g0) ?_ | refine callDX (g0) ?_
  rintro v X1 ⟨rfl, ⟨w1, ha1, ap1⟩, k1⟩
  have h1 := h.app [some ⟨e.av, true⟩]
  have kk1 : Keep (H.length + 1) (H ++ [some ⟨e.av, true⟩]) X1 := by
    have : Keep (H.length + 1) (H ++ [some ⟨e.av, true⟩]) (H ++ [some ⟨e.av, true⟩, some ⟨[.nils], true⟩]) := by
      have := Keep.app (H.length + 1) (X := H ++ [some ⟨e.av, true⟩]) [some ⟨[.nils], true⟩]
      simpa using this
    exact this.trans k1
  have hl1 : (H ++ [(some ⟨e.av, true⟩ : Option Blk)]).length ≤ H.length + 1 := by simp
  have hE : ∀ Z, Keep (H.length + 1) (H ++ [some ⟨e.av, true⟩]) Z → blkAt Z H.length = some ⟨e.av, true⟩ := fun Z k => k.1 _ _ (by omega) (by simp only [go_sem, ↓reduceIte, reduceCtorEq])
  have hE1 := hE _ kk1
  have hExt : Ext H (H ++ [some ⟨e.av, true⟩]) := Ext.app _ _
  rw [List.nil_append] at ha1
  generalize (H ++ [(some ⟨e.av, true⟩ : Option Blk)]) = H1 at *
  simp (maxSteps:=1000000) (disch:=omega) only [go_sem, ↓reduceIte, reduceCtorEq, hE1, avl]
  refine f34_ax (i := 0) (t := e.a) (by decide) rfl h3a h1.ha hl1 kk1 ha1 (by simp) ?_
  intro X2 w2 k2 ha2
  refine f34_ax (i := 1) (t := e.b) (by decide) rfl h3b h1.hb hl1 k2 ha2 (by simp; omega) ?_
  intro X3 w3 k3 ha3
  refine f34_ax (i := 2) (t := e.c) (by decide) rfl h3c h1.hc hl1 k3 ha3 (by simp; omega) ?_
  intro X4 w4 k4 ha4
  have hE4 := hE _ k4
  have lb4 := blkAt_lt ha4.1
  have fin : ∀ (z : Int), z = (if e.sat then 1 else 0) → acs Try.prog [.lp c34l0, .blk 2, .code (.seq (.reg [⟨some 80, .ld1, [.r 3], none, [3]⟩, ⟨some 2, .mv, [.r 80], none, [80]⟩]) .ret)] [(3, .ptr (H.length + 1) 0), (69, .sl X4.length 0 7 1 (some 7)), (70, .int .i64 7), (71, .int .i64 0)] (X4 ++ [some ⟨[.int .i64 e.st, .int .i64 e.co, .int .i64 e.o0, .int .i64 e.o1, .int .i64 e.o2, .int .i64 e.o3, .int .i64 z], true⟩]) (FinE H rs34 fun v H' => ∃ q, v = .sl q 0 38 1 none ∧ blkAt H' q = some ⟨(wds e).map (AV.int .i64), true⟩ ∧ H.length ≤ q) := by
    intro z hz
    refine f34_loop (l := [e.st, e.co, e.o0, e.o1, e.o2, e.o3, z]) (n := 7) rfl (by omega) (by omega) [e.st, e.co, e.o0, e.o1, e.o2, e.o3, z] 0 _ _ w4 rfl rfl (by simp; omega) (ha4.app _) (Sl.whole (o := true) (by simp only [go_sem, ↓reduceIte, reduceCtorEq]; rfl)) ha4.farlen ?_
    intro X5 w5 ha5 k5 ap5
    have hx5 : Ext H X5 := k5.2.1 H (by omega) ((k4.2.1 H (by omega) hExt).to _)
    obtain ⟨hb5, hw5⟩ := ha5
    subst hz
    have e5 : [e.t0, e.t1, e.t2, e.t3] ++ axW e.a ++ axW e.b ++ axW e.c ++ [e.st, e.co, e.o0, e.o1, e.o2, e.o3, if e.sat then 1 else 0] = wds e := rfl
    rw [e5] at hw5
    have lw : (wds e).length = 38 := lw
    rcases hw5 with ⟨h0, _⟩ | ⟨q, hq, rfl, hqb⟩
    · rw [h0] at lw; cases lw
    · rw [lw] at hb5
      simp (maxSteps:=1000000) (disch:=omega) only [go_sem, ↓reduceIte, reduceCtorEq, hb5]
      refine fin_e (by simp) (by simp (maxSteps:=1000000) (disch:=omega) only [resVal, resAll, resOne, rs34, Env.get, go_sem, ↓reduceIte, reduceCtorEq] <;> rfl) hx5 ⟨q, rfl, hqb, by omega⟩
  rw [acs_lp]; conv in Fr.code c34l1 => unfold c34l1
  simp (maxSteps:=1000000) (disch:=omega) only [go_sem, ↓reduceIte, reduceCtorEq, hE4, c28]
  cases hsat : e.sat with
  | true =>
    have := fin 1 (by rw [hsat]; rfl)
    simp (maxSteps:=1000000) (disch:=omega) only [go_sem, ↓reduceIte, reduceCtorEq, hE4, c22, c23, c24, c25, c26, c27]
    exact this
  | false =>
    have := fin 0 (by rw [hsat]; rfl)
    simp (maxSteps:=1000000) (disch:=omega) only [go_sem, ↓reduceIte, reduceCtorEq, hE4, c22, c23, c24, c25, c26, c27]
    exact this

theorem f59 (n : Int) (H : Heap) (h : 0 ≤ n ∧ n ≤ 4611686018427387904) : ACall Try.prog 59 [.int .i64 n] H (.int .i64 ((n + 59) / 60)) H := by
  refine acall59 (by simp) (acs_start ?_)
  have e : (n + 60 - 1).tdiv 60 = (n + 59) / 60 := by rw [Int.tdiv_eq_ediv_of_nonneg (by omega)]; congr 1; omega
  unfold c59
  simp (maxSteps:=1000000) (disch:=omega) only [go_sem, ↓reduceIte, reduceCtorEq, e]
  exact fin_same (by simp) _ (by first | exact (List.append_nil _).symm | rfl) (by simp (maxSteps:=1000000) (disch:=omega) only [resVal, resAll, resOne, rs59, Env.get, go_sem, ↓reduceIte, reduceCtorEq]) (by simp only [AV.und, AV.unds, and_self])
def orb (x : Int) (i : Nat) : Int := IntKind.i64.wrap (BitVec.ofInt IntKind.i64.bits x ||| BitVec.ofInt IntKind.i64.bits (IntKind.i64.wrap (1 * 2 ^ (min (i % 60) IntKind.i64.bits)))).toNat
def dif (z : List Int × Nat) : List Int → List Int → List Int
  | b :: bs, n :: ns => dif (if n = b then z.1 else (z.1.set (z.2 / 60) (orb (z.1.getD (z.2 / 60) 0) z.2)) ++ [n], z.2 + 1) bs ns
  | _, _ => z.1
def diff (bs ns : List Int) : List Int := dif (List.replicate ((ns.length + 59) / 60) 0, 0) bs ns
def c33t : SC := (SC.reg [{ dst := some 51, op := SOp.mv, args := [SO.r 6], kill := [6] }, { dst := some 4, op := SOp.mv, args := [SO.r 51], kill := [51] }, { dst := some 5, op := SOp.mv, args := [SO.c (AV.int IntKind.i64 0)] }]).seq SC.ret
def e33 (c1 c2 : Option Nat) (H G : Heap) (p q L : Nat) (c : Option Nat) (m : Nat) (j : Nat) : Env := [(0, .sl p 0 L 1 c1), (6, .sl (H.length + G.length) 0 m 1 c), (23, .sl q 0 L 1 c2), (24, .int .i64 (L : Int)), (25, .int .i64 (j : Int))]
theorem f33_loop {c1 c2 : Option Nat} {bs ns : List Int} {p q : Nat} {o o' : Bool} {H : Heap} (hp : blkAt H p = some ⟨bs.map (AV.int .i64), o⟩) (hq : blkAt H q = some ⟨ns.map (AV.int .i64), o'⟩) (hl : bs.length = ns.length) (hL : ns.length ≤ 600) :
    ∀ (rb rn : List Int) (j : Nat) (cur : List Int) (c : Option Nat) (G : Heap), bs.drop j = rb → ns.drop j = rn → j + rn.length = ns.length → rb.length = rn.length → (ns.length + 59) / 60 ≤ cur.length → cur.length ≤ j + (ns.length + 59) / 60 → (c = none ∨ c = some cur.length) →
    acs Try.prog [.lp c33l0, .blk 1, .code c33t] (e33 c1 c2 H G p q ns.length c cur.length j) (H ++ (G ++ [some ⟨cur.map (AV.int .i64), true⟩])) (FinW H rs33 (.tup [.sl H.length 0 (dif (cur, j) rb rn).length 1 none, .int .i64 0]) (H ++ [some ⟨(dif (cur, j) rb rn).map (AV.int .i64), true⟩])) := by
  have hpl := blkAt_lt hp
  have hql := blkAt_lt hq
  intro rb rn
  induction rn generalizing rb with
  | nil =>
    intro j cur c G _ _ hj hr _ _ _
    obtain rfl := List.eq_nil_of_length_eq_zero hr
    have hlt : ¬ (j : Int) < (ns.length : Int) := by simp at hj; omega
    unfold e33
    rw [acs_lp]; conv in Fr.code c33l0 => unfold c33l0
    simp (maxSteps:=1000000) (disch:=omega) only [go_sem, ↓reduceIte, reduceCtorEq, hlt]
    unfold c33t
    simp (maxSteps:=1000000) (disch:=omega) only [go_sem, ↓reduceIte, reduceCtorEq]
    have hnil : dif (cur, j) [] [] = cur := by simp [dif]
    rw [hnil]
    refine ⟨.tup [.sl H.length 0 cur.length 1 c, .int .i64 0], tup2_weak sl_weak (fun _ _ h => h), fin_one (G ++ [some ⟨cur.map (AV.int .i64), true⟩]) G.length _ (by simp) rfl (by simp) (undMap _) (by simp only [resVal, resAll, resOne, rs33, Env.get, go_sem, ↓reduceIte, reduceCtorEq]; rfl) (by simp [AV.ren, AV.rens]) (by simp [AV.und, AV.unds])⟩
  | cons n rn ih =>
    intro j cur c G hb hn hj hr hc hc2 hcc
    cases rb with
    | nil => simp at hr
    | cons b rb =>
    have hlt : (j : Int) < (ns.length : Int) := by simp at hj; omega
    have hb0 : bs[j]? = some b := by have := congrArg (·[0]?) hb; simpa using this
    have hn0 : ns[j]? = some n := by have := congrArg (·[0]?) hn; simpa using this
    have fb := getMap (k := .i64) hb0
    have fn := getMap (k := .i64) hn0
    have hb2 : bs.drop (j + 1) = rb := by rw [← List.drop_drop, hb]; rfl
    have hn2 : ns.drop (j + 1) = rn := by rw [← List.drop_drop, hn]; rfl
    have hd : (j : Int).tdiv 60 = ((j / 60 : Nat) : Int) := by rw [Int.tdiv_eq_ediv_of_nonneg (by omega)]; omega
    have hm : (j : Int).tmod 60 = ((j % 60 : Nat) : Int) := by rw [Int.tmod_eq_emod_of_nonneg (by omega)]; omega
    have hj2 : j / 60 < cur.length := by omega
    have fm := getMap (k := .i64) (show cur[j / 60]? = some (cur.getD (j / 60) 0) by simp [hj2])
    have hs := fun z => setMap (k := .i64) (z := z) hj2
    have hdl : ((j / 60 : Nat) : Int) < (cur.length : Int) := by omega
    by_cases he : n = b
    · have next := fun G => ih rb (j + 1) cur c G hb2 hn2 (by simp at hj; omega) (by simpa using hr) hc (by omega) hcc
      unfold dif
      simp only [if_pos he]
      unfold e33 at *
      clear ih
      subst he
      rw [acs_lp]; conv in Fr.code c33l0 => unfold c33l0
      simp (maxSteps:=1000000) (disch:=omega) only [go_sem, ↓reduceIte, reduceCtorEq, blkAt_lo, hp, hq, hpl, hql, hlt, fb, fn]
      exact next _
    · have hlen : (cur.set (j / 60) (orb (cur.getD (j / 60) 0) j) ++ [n]).length = cur.length + 1 := by simp
      have next := fun c h G => ih rb (j + 1) (cur.set (j / 60) (orb (cur.getD (j / 60) 0) j) ++ [n]) c G hb2 hn2 (by simp at hj; omega) (by simpa using hr) (by rw [hlen]; omega) (by rw [hlen]; omega) h
      have hset : (cur.set (j / 60) (orb (cur.getD (j / 60) 0) j)).length = cur.length := by simp
      unfold dif
      simp only [if_neg he]
      unfold e33 at *
      rw [hlen] at next
      generalize cur.getD (j / 60) 0 = m at *
      have ho : orb m j = orb m j := rfl
      conv at ho => lhs; unfold orb
      clear ih
      rw [acs_lp]; conv in Fr.code c33l0 => unfold c33l0
      have tk : List.take cur.length (List.map (AV.int IntKind.i64) (cur.set (j / 60) (orb m j))) = List.map (AV.int IntKind.i64) (cur.set (j / 60) (orb m j)) := by rw [List.take_of_length_le (by simp)]
      have hj3 : j / 60 + 1 ≤ cur.length := by omega
      have hbig : (cur.length + 1) * 8 ≤ 140737488355328 := by omega
      have nx1 := fun c h => next c h (G ++ [none, some ⟨[.int .i64 n], true⟩])
      have nx2 := fun c h => next c h (G ++ [some ⟨List.map (AV.int .i64) (cur.set (j / 60) (orb m j)), true⟩, some ⟨[.int .i64 n], true⟩])
      simp only [List.append_assoc, List.cons_append, List.nil_append, List.length_append, List.length_cons, List.length_nil, Nat.reduceAdd, Nat.add_assoc, Nat.zero_add, Nat.add_zero, Int.natCast_add, Int.cast_ofNat_Int, List.map_append, List.map_cons, List.map_nil] at nx1
      simp only [List.append_assoc, List.cons_append, List.nil_append, List.length_append, List.length_cons, List.length_nil, Nat.reduceAdd, Nat.add_assoc, Nat.zero_add, Nat.add_zero, Int.natCast_add, Int.cast_ofNat_Int, List.map_append, List.map_cons, List.map_nil] at nx2
      clear next hc hc2 hj hr hL hl
      rcases hcc with rfl | rfl
      · simp (maxSteps:=1000000) (disch:=omega) only [acs_nil, acs_blk, acs_skip, acs_reg, acs_dreg, acs_freg, acs_nam0, acs_nam, nones, acs_seq, acs_cond, acs_block, acs_exit, acs_ret, acs_kl, acs_loop, leave_nil, leave_code, leave_lp, leave_blk, aopsK_nil, aopsK_cons, aopsK_guard, bindR_val, bindR_need, bindR_br, bindR_call, bindR_ycall, acs_rfun, rfunG_fn, bindR_bad, drawK_nil, drawK_cons, drawK_wat, bindW_val, bindW_need, bindW_br, WatL_nil, WatL_cons, isP_ptr, drawK_ext, drawK_pur, drawK_guard, callPv_fn, drawK_purv, bindD_val, bindD_need, bindD_br, bindD_call, bindD_ycall, bindD_bad, bindX_val, bindX_need, bindX_br, bindX_call, guardD_bool, guardD_tup, grows, grows0, List.append_cancel_left_eq, List.cons.injEq, exists_eq', exists_eq, condK_bool, guardK_bool, guardK_tup, sor, r0, r1, r2, r3, rC, rB, rI, rP, rA, rT, rS, rF, rSl, rO, rbin, rcut, run1, Env.evals, Env.eval, Env.get, Env.put, Env.ins, Env.del, Env.dels, argEnv, AV.full, AV.cells, AV.cell, eqCells, Nat.reduceEqDiff, Nat.reduceLT, Nat.reduceAdd, Nat.reduceSub, Nat.reduceMul, Nat.reduceBEq, Int.reduceLT, Int.reduceAdd, Int.reduceMul, Int.reduceSub, Int.reduceToNat, Int.reduceLE, Int.reduceEq, ↓reduceIte, decide_true, decide_false, decide_eq_true_eq, decide_eq_false_iff_not, Bool.not_eq_true', Bool.not_eq_false', true_and, and_true, false_implies, true_implies, forall_const, Bool.not_true, Bool.not_false, Bool.false_eq_true, Bool.true_eq_false, List.getElem?_cons_zero, List.getElem?_cons_succ, List.length_cons, List.length_nil, List.length_append, List.all_cons, List.all_nil, Bool.and_true, Bool.and_self, implies_true, reduceCtorEq, List.append_assoc, List.cons_append, List.nil_append, List.append_nil, Int.reduceNeg, i64_in, imin_eq, imax_eq, cast3, cast0, cast1, cast2, Option.map_none, ite_self, and_false, false_and, Option.isSome_some, or_true, true_or, Int.sub_zero, Int.mul_one, Nat.sub_zero, Nat.zero_le, Int.cast_ofNat_Int, Int.natCast_nonneg, Int.toNat_natCast, ne_eq, not_false_eq_true, not_true_eq_false, strC, blkAt_app, blkAt_app0, blkAt_zero, blkAt_succ, List.set_cons_zero, List.set_cons_succ, set_app, set_app0, Option.map_some, Option.bind_some, rd, lay, rdS, szOk, rapp, ownAt, lenAt, Option.any_some, Option.getD_some, List.drop_zero, List.drop_succ_cons, List.take_succ_cons, List.take_zero, List.drop_nil, List.take_nil, Nat.reduceLeDiff, Nat.lt_irrefl, Nat.zero_add, Nat.add_zero, Nat.mul_one, Nat.one_mul, Nat.add_assoc, Option.some.injEq, eq_self,  blkAt_lo, hp, hq, hpl, hql, hlt, fb, fn, he, hd, hm, hdl, fm, hs, ho, tk, hj3, hbig, List.length_map, List.length_set, Nat.le_refl]
        exact nx1 _ (.inl rfl)
      · simp (maxSteps:=1000000) (disch:=omega) only [acs_nil, acs_blk, acs_skip, acs_reg, acs_dreg, acs_freg, acs_nam0, acs_nam, nones, acs_seq, acs_cond, acs_block, acs_exit, acs_ret, acs_kl, acs_loop, leave_nil, leave_code, leave_lp, leave_blk, aopsK_nil, aopsK_cons, aopsK_guard, bindR_val, bindR_need, bindR_br, bindR_call, bindR_ycall, acs_rfun, rfunG_fn, bindR_bad, drawK_nil, drawK_cons, drawK_wat, bindW_val, bindW_need, bindW_br, WatL_nil, WatL_cons, isP_ptr, drawK_ext, drawK_pur, drawK_guard, callPv_fn, drawK_purv, bindD_val, bindD_need, bindD_br, bindD_call, bindD_ycall, bindD_bad, bindX_val, bindX_need, bindX_br, bindX_call, guardD_bool, guardD_tup, grows, grows0, List.append_cancel_left_eq, List.cons.injEq, exists_eq', exists_eq, condK_bool, guardK_bool, guardK_tup, sor, r0, r1, r2, r3, rC, rB, rI, rP, rA, rT, rS, rF, rSl, rO, rbin, rcut, run1, Env.evals, Env.eval, Env.get, Env.put, Env.ins, Env.del, Env.dels, argEnv, AV.full, AV.cells, AV.cell, eqCells, Nat.reduceEqDiff, Nat.reduceLT, Nat.reduceAdd, Nat.reduceSub, Nat.reduceMul, Nat.reduceBEq, Int.reduceLT, Int.reduceAdd, Int.reduceMul, Int.reduceSub, Int.reduceToNat, Int.reduceLE, Int.reduceEq, ↓reduceIte, decide_true, decide_false, decide_eq_true_eq, decide_eq_false_iff_not, Bool.not_eq_true', Bool.not_eq_false', true_and, and_true, false_implies, true_implies, forall_const, Bool.not_true, Bool.not_false, Bool.false_eq_true, Bool.true_eq_false, List.getElem?_cons_zero, List.getElem?_cons_succ, List.length_cons, List.length_nil, List.length_append, List.all_cons, List.all_nil, Bool.and_true, Bool.and_self, implies_true, reduceCtorEq, List.append_assoc, List.cons_append, List.nil_append, List.append_nil, Int.reduceNeg, i64_in, imin_eq, imax_eq, cast3, cast0, cast1, cast2, Option.map_none, ite_self, and_false, false_and, Option.isSome_some, or_true, true_or, Int.sub_zero, Int.mul_one, Nat.sub_zero, Nat.zero_le, Int.cast_ofNat_Int, Int.natCast_nonneg, Int.toNat_natCast, ne_eq, not_false_eq_true, not_true_eq_false, strC, blkAt_app, blkAt_app0, blkAt_zero, blkAt_succ, List.set_cons_zero, List.set_cons_succ, set_app, set_app0, Option.map_some, Option.bind_some, rd, lay, rdS, szOk, rapp, ownAt, lenAt, Option.any_some, Option.getD_some, List.drop_zero, List.drop_succ_cons, List.take_succ_cons, List.take_zero, List.drop_nil, List.take_nil, Nat.reduceLeDiff, Nat.lt_irrefl, Nat.zero_add, Nat.add_zero, Nat.mul_one, Nat.one_mul, Nat.add_assoc, Option.some.injEq, eq_self,  blkAt_lo, hp, hq, hpl, hql, hlt, fb, fn, he, hd, hm, hdl, fm, hs, ho, tk, hj3, hbig, List.length_map, List.length_set, Nat.le_refl, Nat.lt_succ_self]
        exact nx2 _ (.inl rfl)
theorem f33 (bs ns : List Int) (p q : Nat) (c1 c2 : Option Nat) (o o' : Bool) (H : Heap) (hp : blkAt H p = some ⟨bs.map (AV.int .i64), o⟩) (hq : blkAt H q = some ⟨ns.map (AV.int .i64), o'⟩) (hl : bs.length = ns.length) (hL : ns.length ≤ 600) :
    ACall Try.prog 33 [.sl p 0 bs.length 1 c1, .sl q 0 ns.length 1 c2] H (.tup [.sl H.length 0 (diff bs ns).length 1 none, .int .i64 0]) (H ++ [some ⟨(diff bs ns).map (AV.int .i64), true⟩]) := by
  refine acallW (fun v' h => acall33 (by simp) h) (acs_start ?_)
  have g := fun H => f59 ns.length H (by omega)
  have hm : (((ns.length : Int) + 59) / 60).toNat = (ns.length + 59) / 60 := by omega
  unfold c33
  simp (maxSteps:=1000000) (disch:=omega) only [go_sem, ↓reduceIte, reduceCtorEq, hl]
  refine ⟨fun h => by omega, fun _ => ?_⟩
  first | refine callB_intro (g _) ?_ | refine callD_intro (g _) ?_ | refine callP_intro (fun _ => (g _)) ?_ | refine callX_pure (g _) ?_
  simp (maxSteps:=1000000) (disch:=omega) only [go_sem, ↓reduceIte, reduceCtorEq, hm]
  refine ⟨⟨by omega, Int.le_refl _, by omega⟩, ?_⟩
  have go := f33_loop (c1 := c1) (c2 := c2) (H := H) hp hq hl hL bs ns 0 (List.replicate ((ns.length + 59) / 60) 0) (some ((ns.length + 59) / 60)) [] rfl rfl (by omega) hl (by simp) (by simp) (.inr (by simp))
  have hrep : (List.replicate ((ns.length + 59) / 60) [AV.int IntKind.i64 0]).flatten = (List.replicate ((ns.length + 59) / 60) (0 : Int)).map (AV.int .i64) := by
    rw [List.map_replicate]
    generalize (ns.length + 59) / 60 = n
    induction n with
    | zero => rfl
    | succ n ih => rw [List.replicate_succ, List.replicate_succ, List.flatten_cons, ih]; rfl
  rw [hrep]
  unfold e33 c33t at go
  simp only [List.append_assoc, List.cons_append, List.nil_append, List.length_append, List.length_cons, List.length_nil, Nat.reduceAdd, Nat.add_assoc, Nat.zero_add, Nat.add_zero, Int.natCast_add, Int.cast_ofNat_Int, List.length_replicate] at go
  exact go

theorem f63 (n : Int) (H : Heap) (h : 0 ≤ n ∧ n ≤ 4611686018427387904) : ACall Try.prog 63 [.int .i64 n] H (.int .i64 ((n + 7) / 8)) H := by
  refine acall63 (by simp) (acs_start ?_)
  unfold c63
  simp (maxSteps:=1000000) (disch:=omega) only [go_sem, ↓reduceIte, reduceCtorEq]
  repeat' (first | intro _ | (with_reducible refine And.intro ?_ ?_))
  · have e : (n + 7) / 8 = 0 := by omega
    rw [e]
    exact fin_same (by simp) _ (by first | exact (List.append_nil _).symm | rfl) (by simp (maxSteps:=1000000) (disch:=omega) only [resVal, resAll, resOne, rs63, Env.get, go_sem, ↓reduceIte, reduceCtorEq]) (by simp only [AV.und, AV.unds, and_self])
  · have e : (n - 1).tdiv 8 = (n - 1) / 8 := Int.tdiv_eq_ediv_of_nonneg (by omega)
    have e2 : (n + 7) / 8 = (n - 1) / 8 + 1 := by omega
    simp (maxSteps:=1000000) (disch:=omega) only [go_sem, ↓reduceIte, reduceCtorEq, e]
    exact fin_i _ (by first | exact (List.append_nil _).symm | rfl) (by simp) (by simp (maxSteps:=1000000) (disch:=omega) only [resVal, resAll, resOne, rs63, Env.get, go_sem, ↓reduceIte, reduceCtorEq] <;> rfl) (by ((repeat' split) <;> omega))
def cnt : List Int → List Int → Nat
  | b :: bs, n :: ns => (if b = n then 0 else 1) + cnt bs ns
  | _, _ => 0
theorem dif_length : ∀ (bs ns : List Int) (cur : List Int) (j : Nat), (dif (cur, j) bs ns).length = cur.length + cnt bs ns
  | [], [], cur, j => by simp [dif, cnt]
  | [], _ :: _, cur, j => by simp [dif, cnt]
  | _ :: _, [], cur, j => by simp [dif, cnt]
  | b :: bs, n :: ns, cur, j => by
    rw [dif, dif_length, cnt]
    by_cases h : n = b
    · simp [h]
    · have h' : ¬ b = n := fun e => h e.symm
      simp [h, h']
      omega
theorem cnt_le : ∀ (bs ns : List Int), cnt bs ns ≤ ns.length
  | [], [] => by simp [cnt]
  | [], _ :: _ => by simp [cnt]
  | _ :: _, [] => by simp [cnt]
  | b :: bs, n :: ns => by
    have := cnt_le bs ns
    rw [cnt]
    split <;> simp <;> omega
theorem dif_same : ∀ (l : List Int) (cur : List Int) (j : Nat), dif (cur, j) l l = cur
  | [], cur, j => by simp [dif]
  | x :: l, cur, j => by rw [dif, if_pos rfl, dif_same l]
theorem diff_same (l : List Int) : diff l l = List.replicate ((l.length + 59) / 60) 0 := dif_same l _ _
theorem diff_pos {bs ns : List Int} (h : 0 < ns.length) : 0 < (diff bs ns).length := by
  unfold diff
  rw [dif_length, List.length_replicate]
  omega
theorem diff_le {bs ns : List Int} (h : ns.length ≤ 600) : (diff bs ns).length ≤ 1000 := by
  unfold diff
  rw [dif_length, List.length_replicate]
  have := cnt_le bs ns
  omega

theorem f75_loop {b bs bn p off L : Nat} {cp : Option Nat} {Inv : Nat → Heap → Prop} {Q : Post} (hs : ∀ k H, Inv k H → (∃ o, blkAt H bs = some ⟨[.sl p off L 1 cp], o⟩) ∧ ∃ o, blkAt H bn = some ⟨[.int .i64 8], o⟩) (hL : L ≤ 4611686018427387904)
    (hy : ∀ k H, 8 * k < L → Inv k H → ∃ H', AYield Try.prog b [.sl p (off + 8 * k) (min 8 (L - 8 * k)) 1 (some (min 8 (L - 8 * k)))] H (.bool true) H' ∧ Inv (k + 1) H')
    (hq : ∀ T H, Inv ((L + 7) / 8) H → Q .normal T H) : ∀ (r k : Nat) (H : Heap), (L + 7) / 8 = k + r → Inv k H →
    acs Try.prog [.lp c75l0, .blk 0] [(0, .yld b), (1, .ptr bs 0), (2, .ptr bn 0), (4, .int .i64 ((8 * k : Nat) : Int))] H Q := by
  intro r
  induction r with
  | zero =>
    intro k H hr h
    obtain ⟨⟨o1, b1⟩, o2, b2⟩ := hs k H h
    have hge : ¬ ((8 * k : Nat) : Int) < (L : Int) := by omega
    have hk : (L + 7) / 8 = k := by omega
    rw [hk] at hq
    rw [acs_lp]; conv in Fr.code c75l0 => unfold c75l0
    simp (maxSteps:=1000000) (disch:=omega) only [go_sem, ↓reduceIte, reduceCtorEq, b1, hge]
    exact hq _ _ h
  | succ r ih =>
    intro k H hr h
    obtain ⟨⟨o1, b1⟩, o2, b2⟩ := hs k H h
    have hlt : ((8 * k : Nat) : Int) < (L : Int) := by omega
    have hkL : 8 * k < L := by omega
    have y := hy k H hkL h
    rw [acs_lp]; conv in Fr.code c75l0 => unfold c75l0
    generalize hi : (8 * k : Nat) = i at *
    have u1 : (i : Int) ≤ (L : Int) := by omega
    have hL0 : ¬ (L = 0) := by omega
    have z := ih (k + 1)
    by_cases hc : 8 ≤ L - i
    · have e1 : min 8 (L - i) = 8 := by omega
      have e2 : imin 8 ((L - i : Nat) : Int) = 8 := by unfold imin; rw [if_neg (by omega)]
      have e3 : IntKind.i64.wrap ((i : Int) + 8) = ((i + 8 : Nat) : Int) := by rw [i64_in _ (by omega)]; omega
      have e4 : i + 8 - i = 8 := by omega
      have e5 : i + 8 ≤ L := by omega
      have e6 : 8 * (k + 1) = i + 8 := by omega
      rw [e1] at y
      rw [e6] at z
      simp (maxSteps:=1000000) (disch:=omega) only [go_sem, ↓reduceIte, reduceCtorEq, b1, b2, hlt, u1, e2, e3, e4, hL0, Int.ofNat_le, e5, Nat.le_add_right, Nat.le_refl]
      refine yldBX y ?_
      intro H' h'
      obtain ⟨⟨o3, b3⟩, o4, b4⟩ := hs _ H' h'
      simp (maxSteps:=1000000) (disch:=omega) only [go_sem, ↓reduceIte, reduceCtorEq, b3, b4, e3]
      exact z H' (by omega) h'
    · have e1 : min 8 (L - i) = L - i := by omega
      have e2 : imin 8 ((L - i : Nat) : Int) = ((L - i : Nat) : Int) := by unfold imin; rw [if_pos (by omega)]
      have e3 : IntKind.i64.wrap ((i : Int) + ((L - i : Nat) : Int)) = (L : Int) := by rw [i64_in _ (by omega)]; omega
      have e5 : IntKind.i64.wrap ((i : Int) + 8) = ((8 * (k + 1) : Nat) : Int) := by rw [i64_in _ (by omega)]; omega
      rw [e1] at y
      simp (maxSteps:=1000000) (disch:=omega) only [go_sem, ↓reduceIte, reduceCtorEq, b1, b2, hlt, u1, e2, e3, hL0, Nat.le_refl, Int.le_refl]
      refine yldBX y ?_
      intro H' h'
      obtain ⟨⟨o3, b3⟩, o4, b4⟩ := hs _ H' h'
      simp (maxSteps:=1000000) (disch:=omega) only [go_sem, ↓reduceIte, reduceCtorEq, b3, b4, e5]
      exact z H' (by omega) h'
theorem f75 {b bs bn p off L : Nat} {cp : Option Nat} {Inv : Nat → Heap → Prop} {H : Heap} (hs : ∀ k H, Inv k H → (∃ o, blkAt H bs = some ⟨[.sl p off L 1 cp], o⟩) ∧ ∃ o, blkAt H bn = some ⟨[.int .i64 8], o⟩) (hL : L ≤ 4611686018427387904)
    (hy : ∀ k H, 8 * k < L → Inv k H → ∃ H', AYield Try.prog b [.sl p (off + 8 * k) (min 8 (L - 8 * k)) 1 (some (min 8 (L - 8 * k)))] H (.bool true) H' ∧ Inv (k + 1) H') (h0 : Inv 0 H) :
    ACallX Try.prog 75 [.yld b, .ptr bs 0, .ptr bn 0] H fun v H' => v = .tup [] ∧ Inv ((L + 7) / 8) H' := by
  refine acallX (fun v Hf h => acallK75 (by simp) h) (acs_start ?_)
  unfold c75
  simp (maxSteps:=1000000) (disch:=omega) only [go_sem, ↓reduceIte, reduceCtorEq]
  refine f75_loop hs hL hy ?_ ((L + 7) / 8) 0 H (by omega) h0
  intro T H' h'
  refine fin_x (by simp) (by simp (maxSteps:=1000000) (disch:=omega) only [resVal, resAll, resOne, rs75, Env.get, go_sem, ↓reduceIte, reduceCtorEq] <;> rfl) ⟨rfl, h'⟩
theorem hb75 : hasBody Try.prog 75 = true := by kernel_rfl
theorem f61 {p off L : Nat} {cp : Option Nat} {H : Heap} : ACall Try.prog 61 [.sl p off L 1 cp, .int .i64 8] H (.fn (.func 75) [] [.ptr H.length 0, .ptr (H.length + 1) 0]) (H ++ [some ⟨[.sl p off L 1 cp], true⟩, some ⟨[.int .i64 8], true⟩]) := by
  refine acallK61 (by simp) (acs_start ?_)
  unfold c61
  simp (maxSteps:=1000000) (disch:=omega) only [go_sem, ↓reduceIte, reduceCtorEq]
  refine ⟨by simp, rfl, ?_⟩
  simp only [resVal, resAll, resOne, rs61, Env.get, go_sem, ↓reduceIte, reduceCtorEq]

def pc (l : List Int) (k : Nat) : List Int := (List.range (8 * k)).map fun i => l.getD i 0
def row8 (l : List Int) (k : Nat) : List Int := (List.range 8).map fun j => l.getD (8 * k + j) 0
theorem pc_succ (l : List Int) (k : Nat) : pc l (k + 1) = pc l k ++ row8 l k := by
  unfold pc row8
  rw [show 8 * (k + 1) = 8 * k + 8 by omega, List.range_add, List.map_append, List.map_map]
  rfl
theorem pc_len (l : List Int) (k : Nat) : (pc l k).length = 8 * k := by simp [pc]
theorem pc_get (l : List Int) {k i : Nat} (h : i < 8 * k) : (pc l k)[i]? = some (l.getD i 0) := by simp [pc, h]
theorem row8_set (l : List Int) (k : Nat) : setCells (List.replicate 8 (AV.int .i64 0)) 0 (((l.drop (8 * k)).take 8).map (AV.int .i64)) = (row8 l k).map (AV.int .i64) := by
  unfold setCells row8
  apply List.ext_getElem?
  intro i
  by_cases hi : i < 8
  · by_cases h : 8 * k + i < l.length
    · simp [List.getElem?_append, List.getElem?_drop, List.getElem?_take, hi]
      have : i < min 8 (l.length - 8 * k) := by omega
      simp [this, List.getElem?_eq_getElem h]
    · have : ¬ i < min 8 (l.length - 8 * k) := by omega
      simp [List.getElem?_append, List.getElem?_drop, List.getElem?_take, hi, this]
      have h2 : l[8 * k + i]? = none := by simp; omega
      simp [h2, List.getElem?_replicate]
      rw [show min 8 (l.length - 8 * k) + (i - min 8 (l.length - 8 * k)) = i by omega]
      exact List.getElem?_replicate_of_lt (n := 8) hi
  · simp [List.getElem?_append, List.getElem?_drop, List.getElem?_take, hi]
    omega
structure PI (H : Heap) (S L : AV) (l : List Int) (k : Nat) (X : Heap) : Prop where
  ext : Ext H X
  b0 : ∃ w, blkAt X H.length = some ⟨[w], true⟩ ∧ (k = 0 ∧ w = .nils ∨ ∃ q, (0 < k ∧ H.length + 3 < q) ∧ w = .sl q 0 k 8 none ∧ blkAt X q = some ⟨(pc l k).map (AV.int .i64), true⟩)
  b1 : blkAt X (H.length + 1) = some ⟨[S], true⟩
  b2 : blkAt X (H.length + 2) = some ⟨[.int .i64 8], true⟩
  b3 : blkAt X (H.length + 3) = some ⟨[L], true⟩
theorem PI.turn {H : Heap} {S L L2 : AV} {l : List Int} {k : Nat} {X : Heap} (d : PI H S L l k X) : PI H S L2 l k (X.set (H.length + 3) (some ⟨[L2], true⟩)) := by
  obtain ⟨w, h1, h2⟩ := d.b0
  refine ⟨d.ext.set (by omega) _, ⟨w, ?_, ?_⟩, ?_, ?_, blkAt_set_self (blkAt_lt d.b3) _⟩
  · rw [blkAt_set_ne (by omega)]; exact h1
  · rcases h2 with h2 | ⟨q, h3, h4, h5⟩
    · exact .inl h2
    · exact .inr ⟨q, h3, h4, by rw [blkAt_set_ne (by omega)]; exact h5⟩
  · rw [blkAt_set_ne (by omega)]; exact d.b1
  · rw [blkAt_set_ne (by omega)]; exact d.b2
theorem PI.next {H : Heap} {S L : AV} {l : List Int} {k : Nat} {X Y : Heap} (d : PI H S L l k X) (he : Ext H Y) (hs : ∀ i, i ≤ 3 → i ≠ 0 → blkAt Y (H.length + i) = blkAt X (H.length + i)) {q : Nat} (hq : H.length + 3 < q)
    (h2 : blkAt Y H.length = some ⟨[.sl q 0 (k + 1) 8 none], true⟩) (h5 : blkAt Y q = some ⟨(pc l (k + 1)).map (AV.int .i64), true⟩) : PI H S L l (k + 1) Y :=
  ⟨he, ⟨_, h2, .inr ⟨q, ⟨by omega, hq⟩, rfl, h5⟩⟩, by rw [← d.b1]; exact hs 1 (by omega) (by omega), by rw [← d.b2]; exact hs 2 (by omega) (by omega), by rw [← d.b3]; exact hs 3 (by omega) (by omega)⟩

theorem f35_body {H : Heap} {S L : AV} {l : List Int} {k p off m : Nat} {X : Heap} {Q : Post} (d : PI H S L l k X) (hs : Sl i64 H p off l) (hk : 8 * k < l.length) (hm : m = min 8 (l.length - 8 * k)) (hl : l.length ≤ 1000000) (hq : ∀ T' X', PI H S L l (k + 1) X' → Q .normal T' X') :
    acs Try.prog [.code c35l0] [(3, .ptr H.length 0), (4, .sl p (off + 8 * k) m 1 (some m))] X Q := by
  obtain ⟨w, h1, h2⟩ := d.b0
  have lt1 := blkAt_lt h1
  have l3 := blkAt_lt d.b3
  have hs2 := (d.ext.sl hs).drop (n := 8 * k) (by omega)
  have hs3 := hs2.take 8
  obtain ⟨cs, o, hp, hle, hcs⟩ := hs3
  have lp := blkAt_lt hp
  have hrl : ((l.drop (8 * k)).take 8).length = m := by simp; omega
  rw [hrl] at hle hcs
  have hm0 : ¬ m = 0 := by omega
  have hm8 : m ≤ 8 := by omega
  have hset := row8_set l k
  obtain ⟨y0, y1, y2, y3, y4, y5, y6, y7, hy⟩ : ∃ y0 y1 y2 y3 y4 y5 y6 y7, row8 l k = [y0, y1, y2, y3, y4, y5, y6, y7] := ⟨_, _, _, _, _, _, _, _, rfl⟩
  have hpc := pc_succ l k
  rw [hy] at hpc
  rw [hy, show ((l.drop (8 * k)).take 8).map (AV.int .i64) = List.take m (List.drop (off + 8 * k) cs) from hcs.symm] at hset
  have hall : (List.take m (List.drop (off + 8 * k) cs)).all AV.cell = true := by rw [hcs]; exact allMap _
  generalize hx : List.take m (List.drop (off + 8 * k) cs) = x at *
  unfold setCells at hset
  simp only [List.take_zero, List.nil_append, Nat.zero_add, List.replicate, List.map_cons, List.map_nil] at hset
  have hmin2 : min m 8 = m := by omega
  have hmin : min 8 m = m := by omega
  have hbig : (k + 1) * 64 ≤ 140737488355328 := by omega
  unfold c35l0
  rcases h2 with ⟨rfl, rfl⟩ | ⟨q, h3, rfl, h5⟩
  · simp only [Nat.mul_zero, Nat.add_zero] at *
    simp (maxSteps:=1000000) (disch:=omega) only [go_sem, ↓reduceIte, reduceCtorEq, h1, lt1, hp, lp, blkAt_lo, set_lo, hm0, hle, hx, hall, hm8, hset, hmin2, hmin, Nat.le_refl, hbig]
    refine hq _ _ (d.next (q := X.length + 2) ((d.ext.set (by omega) _).to _) (fun i h6 h7 => ?_) (by omega) ?_ ?_)
    · rw [blkAt_lo _ (by rw [List.length_set]; omega), blkAt_set_ne (by omega)]
    · rw [blkAt_lo _ (by rw [List.length_set]; omega), blkAt_set_self lt1]
    · have := blkAt_app (X.set H.length (some ⟨[AV.sl (X.length + 2) 0 1 8 none], true⟩)) [some ⟨[AV.int .i64 y0, AV.int .i64 y1, AV.int .i64 y2, AV.int .i64 y3, AV.int .i64 y4, AV.int .i64 y5, AV.int .i64 y6, AV.int .i64 y7], true⟩, some ⟨[AV.int .i64 y0, AV.int .i64 y1, AV.int .i64 y2, AV.int .i64 y3, AV.int .i64 y4, AV.int .i64 y5, AV.int .i64 y6, AV.int .i64 y7], true⟩, some ⟨[AV.int .i64 y0, AV.int .i64 y1, AV.int .i64 y2, AV.int .i64 y3, AV.int .i64 y4, AV.int .i64 y5, AV.int .i64 y6, AV.int .i64 y7], true⟩] 2
      rw [List.length_set] at this
      rw [this, hpc]
      rfl
  · have lq := blkAt_lt h5
    have hle' : off + (8 * k + m) ≤ cs.length := by omega
    have hlP : ((pc l k).map (AV.int .i64)).length = k * 8 := by simp [pc]; omega
    have hP0 : List.take (k * 8) ((pc l k).map (AV.int .i64)) = (pc l k).map (AV.int .i64) := by rw [List.take_of_length_le (by rw [hlP]; exact Nat.le_refl _)]
    have hpc2 : (pc l (k + 1)).map (AV.int .i64) = (pc l k).map (AV.int .i64) ++ [AV.int .i64 y0, AV.int .i64 y1, AV.int .i64 y2, AV.int .i64 y3, AV.int .i64 y4, AV.int .i64 y5, AV.int .i64 y6, AV.int .i64 y7] := by rw [hpc, List.map_append]; rfl
    have h1' : ∀ G, blkAt (X.set q none ++ G) H.length = some ⟨[.sl q 0 k 8 none], true⟩ := fun G => by rw [blkAt_lo _ (by rw [List.length_set]; omega), blkAt_set_ne (by omega)]; exact h1
    generalize (pc l k).map (AV.int .i64) = P at *
    simp (maxSteps:=1000000) (disch:=omega) only [go_sem, ↓reduceIte, reduceCtorEq, h1, lt1, hp, lp, h5, lq, blkAt_lo, set_lo, hm0, hle', hx, hall, hm8, hset, hmin2, hmin, Nat.le_refl, hbig, hlP, hP0, h1', List.length_set]
    refine hq _ _ (d.next (q := X.length + 2) (Ext.set (b := H.length) ((Ext.set (b := q) d.ext (by omega) none).to _) (by omega) _) (fun i h6 h7 => ?_) (by omega) ?_ ?_)
    · rw [blkAt_set_ne (by omega), blkAt_lo _ (by simp only [List.length_set]; omega), blkAt_set_ne (by omega)]
    · rw [blkAt_set_self (by simp only [List.length_append, List.length_set]; omega)]
    · have := blkAt_app (X.set q none) [some ⟨[AV.int .i64 y0, AV.int .i64 y1, AV.int .i64 y2, AV.int .i64 y3, AV.int .i64 y4, AV.int .i64 y5, AV.int .i64 y6, AV.int .i64 y7], true⟩, some ⟨[AV.int .i64 y0, AV.int .i64 y1, AV.int .i64 y2, AV.int .i64 y3, AV.int .i64 y4, AV.int .i64 y5, AV.int .i64 y6, AV.int .i64 y7], true⟩, some ⟨P ++ [AV.int .i64 y0, AV.int .i64 y1, AV.int .i64 y2, AV.int .i64 y3, AV.int .i64 y4, AV.int .i64 y5, AV.int .i64 y6, AV.int .i64 y7], true⟩] 2
      rw [List.length_set] at this
      rw [blkAt_set_ne (by omega), this, hpc2]
      rfl
theorem f35 {l : List Int} {p off : Nat} {cp : Option Nat} {H : Heap} (hs : Sl i64 H p off l) (hl : l.length ≤ 1000000) (h0 : 0 < l.length) :
    ACallE Try.prog 35 [.sl p off l.length 1 cp] H fun v H' => ∃ q, v = .sl q 0 ((l.length + 7) / 8) 8 none ∧ blkAt H' q = some ⟨(pc l ((l.length + 7) / 8)).map (AV.int .i64), true⟩ ∧ H.length ≤ q := by
  refine acallE (fun v Hf h => acallK35 (by simp) h) (acs_start ?_)
  unfold c35
  simp (maxSteps:=1000000) (disch:=omega) only [go_sem, ↓reduceIte, reduceCtorEq]
  first | refine callB_intro (f61) ?_ | refine callD_intro (f61) ?_ | refine callP_intro (fun _ => (f61)) ?_ | refine callX_pure (f61) ?_
  simp (maxSteps:=1000000) (disch:=omega) only [go_sem, ↓reduceIte, reduceCtorEq]
  have hyl : ∀ (L : AV) (T : Env), T = [(3, .ptr H.length 0), (7, .fn (.func 75) [] [.ptr (H.length + 1) 0, .ptr (H.length + 2) 0])] → L = loopB Try.prog 17 [8] c35l1 c35l0 T → ∀ j X, 8 * j < l.length → PI H (.sl p off l.length 1 cp) L l j X →
      ∃ X', AYield Try.prog (H.length + 3) [.sl p (off + 8 * j) (min 8 (l.length - 8 * j)) 1 (some (min 8 (l.length - 8 * j)))] X (.bool true) X' ∧ PI H (.sl p off l.length 1 cp) L l (j + 1) X' := by
    rintro L T hT rfl j X hj d
    refine ayieldX d.b3 (by rw [hT]; rfl) rfl rfl rfl rfl (acs_start ?_)
    rw [hT]
    conv in Fr.code c35l1 => unfold c35l1
    simp (maxSteps:=1000000) (disch:=omega) only [go_sem, ↓reduceIte, reduceCtorEq, puts]
    refine ⟨rfl, by rw [d.b3, hT], acs_start ?_⟩
    have d2 := d.turn (L2 := loopB Try.prog 17 [8] c35l1 c35l0 T false)
    rw [hT] at d2
    refine f35_body d2 hs hj rfl hl ?_
    intro T' X' d3
    refine ⟨rfl, d3.b3, ?_⟩
    rw [← hT]
    exact d3.turn
  have hy := hyl _ _ rfl rfl
  generalize loopB Try.prog 17 [8] c35l1 c35l0 _ = L at *
  refine ⟨hb75, rfunX (f75 (Inv := fun j X => PI H (.sl p off l.length 1 cp) L l j X) (L := l.length) (cp := cp) (fun j X d => ⟨⟨_, d.b1⟩, _, d.b2⟩) (by omega) hy ?_) ?_⟩
  · exact ⟨(Ext.app _ _).to _, ⟨_, by simp only [go_sem, ↓reduceIte, reduceCtorEq], .inl ⟨rfl, rfl⟩⟩, by simp only [go_sem, ↓reduceIte, reduceCtorEq], by simp only [go_sem, ↓reduceIte, reduceCtorEq], by simp only [go_sem, ↓reduceIte, reduceCtorEq]⟩
  rintro v X ⟨rfl, d⟩
  obtain ⟨w, h2, h3⟩ := d.b0
  rcases h3 with ⟨h3, _⟩ | ⟨q, h3, rfl, h5⟩
  · omega
  simp only [List.length_append, List.length_cons, List.length_nil, Nat.reduceAdd, Nat.zero_add]
  refine ⟨d.b3, ?_⟩
  have k0 : blkAt (X.set (H.length + 3) none) H.length = some ⟨[.sl q 0 ((l.length + 7) / 8) 8 none], true⟩ := by rw [blkAt_set_ne (by omega)]; exact h2
  have k5 : blkAt (X.set (H.length + 3) none) q = some ⟨(pc l ((l.length + 7) / 8)).map (AV.int .i64), true⟩ := by rw [blkAt_set_ne (by omega)]; exact h5
  have kx : Ext H (X.set (H.length + 3) none) := d.ext.set (by omega) _
  generalize X.set (H.length + 3) none = Y at *
  simp (maxSteps:=1000000) (disch:=omega) only [go_sem, ↓reduceIte, reduceCtorEq, k0]
  refine fin_e (by simp) (by simp (maxSteps:=1000000) (disch:=omega) only [resVal, resAll, resOne, rs35, Env.get, go_sem, ↓reduceIte, reduceCtorEq] <;> rfl) kx ⟨_, rfl, k5, by omega⟩

def w0 : List Int := [16777216, 0, 0, 0] ++ (x0L ++ [1677721600, 0, 0, 167772160, 0, 16777216]) ++ (x0L ++ [1677721600, 0, 0, 167772160, 0, 16777216]) ++ (x0L ++ [1677721600, 0, 0, 167772160, 0, 16777216]) ++ [0, 0, 0, 0, 0, 0, 0]
theorem T0.three {t : Tk} (h : T0 t) : t.three := ⟨by rw [h.xl]; rfl, by rw [h.pl]; rfl⟩
theorem T0.axW {t : Tk} (h : T0 t) : Ah.axW t = x0L ++ [1677721600, 0, 0, 167772160, 0, 16777216] := by
  unfold Ah.axW
  rw [h.xl, h.pl]
  rfl
theorem E0.wds {e : Es} (h : E0 e) : Ah.wds e = w0 := by
  unfold Ah.wds w0
  rw [h.a.axW, h.b.axW, h.c.axW, h.t.1, h.t.2.1, h.t.2.2.1, h.t.2.2.2, h.n.1, h.n.2.1, h.n.2.2.1, h.n.2.2.2.1, h.n.2.2.2.2.1, h.n.2.2.2.2.2.1, h.n.2.2.2.2.2.2]
  rfl
theorem f31 {c0 c1 c2 c3 c4 c5 : Int} {H : Heap} (hm : mayB c0 c1 c2 c3 c4 c5 = true) :
    ACallE Try.prog 31 [.agg [.int .i64 c0, .int .i64 c1, .int .i64 c2, .int .i64 c3, .int .i64 c4, .int .i64 c5]] H fun v H' => ∃ q, v = .tup [.sl q 0 38 1 none, .int .i64 0] ∧ blkAt H' q = some ⟨w0.map (AV.int .i64), true⟩ ∧ H.length ≤ q := by
  refine acallE (fun v Hf h => acallK31 (by simp) h) (acs_start ?_)
  have g54 := fun G => f54 (H := H ++ G) hm
  unfold c31
  simp (maxSteps:=1000000) (disch:=omega) only [go_sem, ↓reduceIte, reduceCtorEq]
  first | refine callBE (g54 _) ?_ | refine callDE (g54 _) ?_ | refine callXE (g54 _) ?_
  rintro v X hx ⟨e, rfl, he, hok⟩
  have g34 := fun G => f34 (hok.app G) he.a.three he.b.three he.c.three
  rw [he.wds] at g34
  have full : (AV.agg e.av).full = true := rfl
  have len : e.av.length = 29 := rfl
  have all : e.av.all AV.cell = true := rfl
  have drp : e.av.drop 29 = [] := rfl
  have tk : List.take 29 e.av = e.av := rfl
  have hX : Ext H X := (Ext.app _ _).trans hx
  simp (maxSteps:=1000000) (disch:=omega) only [go_sem, ↓reduceIte, reduceCtorEq, full, len, all, drp, tk]
  first | refine callBE (g34 _) ?_ | refine callDE (g34 _) ?_ | refine callXE (g34 _) ?_
  rintro v Y hy ⟨q, rfl, hq, hl⟩
  simp (maxSteps:=1000000) (disch:=omega) only [go_sem, ↓reduceIte, reduceCtorEq]
  have := hX.len
  refine fin_e (by simp) (by simp (maxSteps:=1000000) (disch:=omega) only [resVal, resAll, resOne, rs31, Env.get, go_sem, ↓reduceIte, reduceCtorEq] <;> rfl) ((hX.to _).trans hy) ⟨q, rfl, hq, by rw [List.length_append] at hl; omega⟩
theorem three_a {e : Es} (h : estB e = true) : e.a.three ∧ e.b.three ∧ e.c.three := by
  unfold estB at h
  simp only [Bool.and_eq_true, decide_eq_true_eq] at h
  obtain ⟨⟨⟨⟨_, a1, a2⟩, b1, b2⟩, c1, c2⟩, _⟩ := h
  exact ⟨Tk.three_of a1 a2, Tk.three_of b1 b2, Tk.three_of c1 c2⟩
theorem wds_len {e : Es} (h : estB e = true) : (wds e).length = 38 := by
  obtain ⟨a, b, c⟩ := three_a h
  unfold wds axW
  simp [a.x, a.p, b.x, b.p, c.x, c.p]
theorem w0_len : w0.length = 38 := rfl
def dlt (e : Es) : List Int := diff w0 (wds e)
theorem f16 {c0 c1 c2 c3 c4 c5 : Int} {e : Es} {H : Heap} (hm : mayB c0 c1 c2 c3 c4 c5 = true) (he : estB e = true) (hok : e.ok H) :
    ACallE Try.prog 16 [.agg [.int .i64 c0, .int .i64 c1, .int .i64 c2, .int .i64 c3, .int .i64 c4, .int .i64 c5], .agg e.av] H fun v H' => ∃ q, v = .tup [.sl q 0 (((dlt e).length + 7) / 8) 8 none, .int .i64 ((dlt e).length : Int), .int .i64 0] ∧ blkAt H' q = some ⟨(pc (dlt e) (((dlt e).length + 7) / 8)).map (AV.int .i64), true⟩ ∧ H.length ≤ q := by
  refine acallE (fun v Hf h => acallK16 (by simp) h) (acs_start ?_)
  have g31 := fun G => f31 (H := H ++ G) hm
  have full : (AV.agg e.av).full = true := rfl
  have len : e.av.length = 29 := rfl
  have all : e.av.all AV.cell = true := rfl
  have tk : List.take 29 e.av = e.av := rfl
  obtain ⟨ta, tb, tc⟩ := three_a he
  have lw := wds_len he
  unfold c16
  simp (maxSteps:=1000000) (disch:=omega) only [go_sem, ↓reduceIte, reduceCtorEq, full, len, all, tk]
  first | refine callBE (g31 _) ?_ | refine callDE (g31 _) ?_ | refine callXE (g31 _) ?_
  rintro v X hx ⟨q, rfl, hq, hl⟩
  have hX : Ext H X := (Ext.app _ _).trans hx
  have h3 : blkAt X (H.length + 1) = some ⟨e.av, true⟩ := hx.blk (by simp only [go_sem, ↓reduceIte, reduceCtorEq])
  have g32 := fun G => f32 ((hok.ext hX).app G)
  rw [he] at g32
  simp (maxSteps:=1000000) (disch:=omega) only [go_sem, ↓reduceIte, reduceCtorEq, h3, len, tk]
  first | refine callB_intro (f32 (hok.ext hX)) ?_ | refine callD_intro (f32 (hok.ext hX)) ?_ | refine callP_intro (fun _ => (f32 (hok.ext hX))) ?_ | refine callX_pure (f32 (hok.ext hX)) ?_
  rw [he]
  simp (maxSteps:=1000000) (disch:=omega) only [go_sem, ↓reduceIte, reduceCtorEq, h3, len, tk]
  first | refine callBE (f34 (hok.ext hX) ta tb tc) ?_ | refine callDE (f34 (hok.ext hX) ta tb tc) ?_ | refine callXE (f34 (hok.ext hX) ta tb tc) ?_
  rintro v Y hy ⟨q2, rfl, hq2, hl2⟩
  have hqY := hy.blk hq
  have g33 := f33 w0 (wds e) q q2 none none true true Y hqY hq2 (by rw [lw]; rfl) (by rw [lw]; decide)
  rw [lw, w0_len] at g33
  have hXY := hX.trans hy
  simp (maxSteps:=1000000) (disch:=omega) only [go_sem, ↓reduceIte, reduceCtorEq]
  first | refine callB_intro (g33) ?_ | refine callD_intro (g33) ?_ | refine callP_intro (fun _ => (g33)) ?_ | refine callX_pure (g33) ?_
  have hd0 : 0 < (diff w0 (wds e)).length := diff_pos (by rw [lw]; decide)
  have hd1 : (diff w0 (wds e)).length ≤ 1000 := diff_le (by rw [lw]; decide)
  have hsD : Sl i64 (Y ++ [some ⟨(diff w0 (wds e)).map (AV.int .i64), true⟩]) Y.length 0 (diff w0 (wds e)) := Sl.whole (o := true) (by rw [blkAt_app0]; rfl)
  have hlY := hXY.len
  change 0 < (dlt e).length at hd0
  change (dlt e).length ≤ 1000 at hd1
  change Sl i64 (Y ++ [some ⟨(dlt e).map (AV.int .i64), true⟩]) Y.length 0 (dlt e) at hsD
  have ed : diff w0 (wds e) = dlt e := rfl
  rw [ed]
  generalize dlt e = D at *
  simp (maxSteps:=1000000) (disch:=omega) only [go_sem, ↓reduceIte, reduceCtorEq]
  refine callBE (f35 hsD (by omega) hd0) ?_
  rintro v Z hz ⟨q3, rfl, hq3, hl3⟩
  rw [List.length_append] at hl3
  simp (maxSteps:=1000000) (disch:=omega) only [go_sem, ↓reduceIte, reduceCtorEq]
  refine fin_e (by simp) (by simp (maxSteps:=1000000) (disch:=omega) only [resVal, resAll, resOne, rs16, Env.get, go_sem, ↓reduceIte, reduceCtorEq] <;> rfl) ((hXY.to _).trans hz) ⟨q3, rfl, hq3, by omega⟩

theorem f28_nil {H : Heap} : ACall Try.prog 28 [.nilm] H .nilm H := by
  refine acall28 (by simp) (acs_start ?_)
  unfold c28
  simp (maxSteps:=1000000) (disch:=omega) only [go_sem, ↓reduceIte, reduceCtorEq]
  exact fin_ext (by simp) (Ext.refl _) (by simp (maxSteps:=1000000) (disch:=omega) only [resVal, resAll, resOne, rs28, Env.get, go_sem, ↓reduceIte, reduceCtorEq]) (by simp only [AV.und, AV.unds, and_self])
theorem f12_nil {a b c d : Int} {e : Es} {H : Heap} : ACallE Try.prog 12 [.nilm, .agg [.int .i64 a, .int .i64 b, .int .i64 c, .int .i64 d], .agg e.av] H fun v H' => ∃ p, v = .mapp p ∧ blkAt H' p = some ⟨[.mapo [.agg [.int .i64 a, .int .i64 b, .int .i64 c, .int .i64 d]] [.agg e.av]], true⟩ ∧ H.length ≤ p := by
  refine acallE (fun v Hf h => acallK12 (by simp) h) (acs_start ?_)
  have full : (AV.agg e.av).full = true := rfl
  have len : e.av.length = 29 := rfl
  have all : e.av.all AV.cell = true := rfl
  have tk : List.take 29 e.av = e.av := rfl
  unfold c12
  simp (maxSteps:=1000000) (disch:=omega) only [go_sem, ↓reduceIte, reduceCtorEq, full, len, all, tk]
  first | refine callB_intro (f28_nil) ?_ | refine callD_intro (f28_nil) ?_ | refine callP_intro (fun _ => (f28_nil)) ?_ | refine callX_pure (f28_nil) ?_
  simp (maxSteps:=1000000) (disch:=omega) only [go_sem, ↓reduceIte, reduceCtorEq, full, len, all, tk]
  refine fin_e (by simp) (by simp (maxSteps:=1000000) (disch:=omega) only [resVal, resAll, resOne, rs12, Env.get, go_sem, ↓reduceIte, reduceCtorEq] <;> rfl) (Ext.app _ _) ⟨H.length + 2, rfl, by simp only [go_sem, ↓reduceIte, reduceCtorEq], by omega⟩
structure Tk.eqv (t u : Tk) : Prop where
  xr : t.xr = u.xr
  xc : t.xc = u.xc
  xl : t.xl = u.xl
  pr : t.pr = u.pr
  pc : t.pc = u.pc
  pl : t.pl = u.pl
theorem Tk.eqv.refl (t : Tk) : t.eqv t := ⟨rfl, rfl, rfl, rfl, rfl, rfl⟩
structure Es.eqv (e f : Es) : Prop where
  t : e.t0 = f.t0 ∧ e.t1 = f.t1 ∧ e.t2 = f.t2 ∧ e.t3 = f.t3
  a : e.a.eqv f.a
  b : e.b.eqv f.b
  c : e.c.eqv f.c
  n : e.st = f.st ∧ e.co = f.co ∧ e.o0 = f.o0 ∧ e.o1 = f.o1 ∧ e.o2 = f.o2 ∧ e.o3 = f.o3 ∧ e.sat = f.sat
theorem Es.eqv.refl (e : Es) : e.eqv e := ⟨⟨rfl, rfl, rfl, rfl⟩, .refl _, .refl _, .refl _, rfl, rfl, rfl, rfl, rfl, rfl, rfl⟩
theorem f29 {t u : Tk} {H : Heap} (h : t.ok H) (h2 : u.ok H) (hq : t.eqv u) : ACall Try.prog 29 [.agg t.av, .agg u.av] H (.bool true) H := by
  refine acall29 (by simp) (acs_start ?_)
  obtain ⟨xr, xc, xl, xp, xo, xk, pr, pc, pl, pp, po, pk⟩ := t
  obtain ⟨yr, yc, yl, yp, yo, yk, qr, qc, ql, qp, qo, qk⟩ := u
  obtain ⟨rfl, rfl, rfl, rfl, rfl, rfl⟩ := hq
  obtain ⟨hx, hp, lx, lp⟩ := h
  obtain ⟨hy, hv, _, _⟩ := h2
  simp only at hx hp lx lp hy hv
  have g1 := fun (G : Heap) => f52 (R1 := xr) (C1 := xc) (R2 := xr) (C2 := xc) (k1 := xk) (k2 := yk) (hx.app G) (hy.app G) lx
  have g2 := fun (G : Heap) => f52 (R1 := pr) (C1 := pc) (R2 := pr) (C2 := pc) (k1 := pk) (k2 := qk) (hp.app G) (hv.app G) lp
  have e1 : sameB xr xc xl xr xc xl = true := by unfold sameB; simp
  have e2 : sameB pr pc pl pr pc pl = true := by unfold sameB; simp
  rw [e1] at g1
  rw [e2] at g2
  unfold Tk.av c29
  simp (maxSteps:=1000000) (disch:=omega) only [go_sem, ↓reduceIte, reduceCtorEq]
  first | refine callB_intro (g1 _) ?_ | refine callD_intro (g1 _) ?_ | refine callP_intro (fun _ => (g1 _)) ?_ | refine callX_pure (g1 _) ?_
  simp (maxSteps:=1000000) (disch:=omega) only [go_sem, ↓reduceIte, reduceCtorEq]
  first | refine callB_intro (g2 _) ?_ | refine callD_intro (g2 _) ?_ | refine callP_intro (fun _ => (g2 _)) ?_ | refine callX_pure (g2 _) ?_
  simp (maxSteps:=1000000) (disch:=omega) only [go_sem, ↓reduceIte, reduceCtorEq]
  exact fin_ext (by simp) (Ext.app _ _) (by simp (maxSteps:=1000000) (disch:=omega) only [resVal, resAll, resOne, rs29, Env.get, go_sem, ↓reduceIte, reduceCtorEq]) (by simp only [AV.und, AV.unds, and_self])
theorem f13 {e f : Es} {H : Heap} (h : e.ok H) (h2 : f.ok H) (hq : e.eqv f) : ACall Try.prog 13 [.agg e.av, .agg f.av] H (.bool true) H := by
  refine acall13 (by simp) (acs_start ?_)
  have ga := fun (G : Heap) => f29 (h.app G).ha (h2.app G).ha hq.a
  have gb := fun (G : Heap) => f29 (h.app G).hb (h2.app G).hb hq.b
  have gc := fun (G : Heap) => f29 (h.app G).hc (h2.app G).hc hq.c
  obtain ⟨⟨a1, a2, a3, a4⟩, _, _, _, b1, b2, b3, b4, b5, b6, b7⟩ := hq
  unfold Tk.av at ga gb gc
  unfold Es.av c13
  simp (maxSteps:=1000000) (disch:=omega) only [go_sem, ↓reduceIte, reduceCtorEq]
  first | refine callB_intro (ga _) ?_ | refine callD_intro (ga _) ?_ | refine callP_intro (fun _ => (ga _)) ?_ | refine callX_pure (ga _) ?_
  simp (maxSteps:=1000000) (disch:=omega) only [go_sem, ↓reduceIte, reduceCtorEq]
  first | refine callB_intro (gb _) ?_ | refine callD_intro (gb _) ?_ | refine callP_intro (fun _ => (gb _)) ?_ | refine callX_pure (gb _) ?_
  simp (maxSteps:=1000000) (disch:=omega) only [go_sem, ↓reduceIte, reduceCtorEq]
  first | refine callB_intro (gc _) ?_ | refine callD_intro (gc _) ?_ | refine callP_intro (fun _ => (gc _)) ?_ | refine callX_pure (gc _) ?_
  simp (maxSteps:=1000000) (disch:=omega) only [go_sem, ↓reduceIte, reduceCtorEq, a1, a2, a3, a4, b1, b2, b3, b4, b5, b6, b7]
  exact fin_ext (by simp) (Ext.app _ _) (by simp (maxSteps:=1000000) (disch:=omega) only [resVal, resAll, resOne, rs13, Env.get, go_sem, ↓reduceIte, reduceCtorEq]) (by simp only [AV.und, AV.unds, and_self])
def okM (n : Int) : Bool := decide (0 ≤ n) && decide (n ≤ 4611686018427387904)
theorem f36 {a : Int} {H : Heap} : ACall Try.prog 36 [.int .i64 a] H (.bool (!okM a)) H := by
  refine acall36 (by simp) (acs_start ?_)
  unfold c36
  by_cases h : a < 0
  · have e : okM a = false := by unfold okM; simp; omega
    rw [e]
    simp (maxSteps:=1000000) (disch:=omega) only [go_sem, ↓reduceIte, reduceCtorEq, h]
    exact fin_ext (by simp) (Ext.refl _) (by simp (maxSteps:=1000000) (disch:=omega) only [resVal, resAll, resOne, rs36, Env.get, go_sem, ↓reduceIte, reduceCtorEq]) (by simp only [AV.und, AV.unds, and_self])
  · by_cases h2 : 4611686018427387904 < a
    · have e : okM a = false := by unfold okM; simp; omega
      rw [e]
      simp (maxSteps:=1000000) (disch:=omega) only [go_sem, ↓reduceIte, reduceCtorEq, h, h2]
      exact fin_ext (by simp) (Ext.refl _) (by simp (maxSteps:=1000000) (disch:=omega) only [resVal, resAll, resOne, rs36, Env.get, go_sem, ↓reduceIte, reduceCtorEq]) (by simp only [AV.und, AV.unds, and_self])
    · have e : okM a = true := by unfold okM; simp; omega
      rw [e]
      simp (maxSteps:=1000000) (disch:=omega) only [go_sem, ↓reduceIte, reduceCtorEq, h, h2]
      exact fin_ext (by simp) (Ext.refl _) (by simp (maxSteps:=1000000) (disch:=omega) only [resVal, resAll, resOne, rs36, Env.get, go_sem, ↓reduceIte, reduceCtorEq]) (by simp only [AV.und, AV.unds, and_self])
theorem hb36 : hasBody Try.prog 36 = true := by kernel_rfl
def okN (n : Int) : Bool := decide (1 ≤ n) && decide (n ≤ 39)
def mrkB (a b c d : Int) : Bool := okM a && okM b && okM c && okN d
theorem f17 {a b c d : Int} {H : Heap} : ACall Try.prog 17 [.agg [.int .i64 a, .int .i64 b, .int .i64 c, .int .i64 d]] H (.bool (mrkB a b c d)) H := by
  refine acall17 (by simp) (acs_start ?_)
  have g37 := fun (X : Heap) (p : Nat) (h : blkAt X p = some ⟨[.int .i64 a, .int .i64 b, .int .i64 c], true⟩) => f37p (odd := fun n => !okM n) (k := some 3) hb36 (fun _ _ => f36) (l := [a, b, c]) (p := p) (off := 0) (H := X) (Sl.whole (o := true) h) (by simp)
  simp only [List.length_cons, List.length_nil, Nat.reduceAdd, List.any_cons, List.any_nil, Bool.or_false] at g37
  have fin : (!(!okM a || (!okM b || !okM c))) = (okM a && okM b && okM c) := by
    cases okM a <;> cases okM b <;> cases okM c <;> rfl
  unfold c17 mrkB okN
  simp (maxSteps:=1000000) (disch:=omega) only [go_sem, ↓reduceIte, reduceCtorEq]
  first | refine callB_intro (g37 _ _ (by simp only [go_sem, ↓reduceIte, reduceCtorEq])) ?_ | refine callD_intro (g37 _ _ (by simp only [go_sem, ↓reduceIte, reduceCtorEq])) ?_ | refine callP_intro (fun _ => (g37 _ _ (by simp only [go_sem, ↓reduceIte, reduceCtorEq]))) ?_ | refine callX_pure (g37 _ _ (by simp only [go_sem, ↓reduceIte, reduceCtorEq])) ?_
  simp (maxSteps:=1000000) (disch:=omega) only [go_sem, ↓reduceIte, reduceCtorEq, fin]
  cases hm : okM a && okM b && okM c with
  | false =>
    simp only [Bool.false_and]
    simp (maxSteps:=1000000) (disch:=omega) only [go_sem, ↓reduceIte, reduceCtorEq]
    exact fin_ext (by simp) (Ext.app _ _) (by simp (maxSteps:=1000000) (disch:=omega) only [resVal, resAll, resOne, rs17, Env.get, go_sem, ↓reduceIte, reduceCtorEq]) (by simp only [AV.und, AV.unds, and_self])
  | true =>
    by_cases h1 : 1 ≤ d
    · simp (maxSteps:=1000000) (disch:=omega) only [go_sem, ↓reduceIte, reduceCtorEq, h1]
      exact fin_ext (by simp) (Ext.app _ _) (by simp (maxSteps:=1000000) (disch:=omega) only [resVal, resAll, resOne, rs17, Env.get, go_sem, ↓reduceIte, reduceCtorEq]) (by simp only [AV.und, AV.unds, and_self])
    · simp (maxSteps:=1000000) (disch:=omega) only [go_sem, ↓reduceIte, reduceCtorEq, h1, Bool.false_and]
      exact fin_ext (by simp) (Ext.app _ _) (by simp (maxSteps:=1000000) (disch:=omega) only [resVal, resAll, resOne, rs17, Env.get, go_sem, ↓reduceIte, reduceCtorEq]) (by simp only [AV.und, AV.unds, and_self])
theorem f25 {H : Heap} : ACall Try.prog 25 [] H (.agg [.int .i64 2097152, .int .i64 16777216, .int .i64 262144, .int .i64 16777216, .int .i64 16777216, .int .i64 268435456]) H := by
  refine acall25 (by simp) (acs_start ?_)
  unfold c25
  simp (maxSteps:=1000000) (disch:=omega) only [go_sem, ↓reduceIte, reduceCtorEq]
  exact fin_ext (by simp) (Ext.app _ _) (by simp (maxSteps:=1000000) (disch:=omega) only [resVal, resAll, resOne, rs25, Env.get, go_sem, ↓reduceIte, reduceCtorEq]) (by simp only [AV.und, AV.unds, and_self])
theorem dlt0 {e : Es} (h : E0 e) : dlt e = [0] := by
  unfold dlt
  rw [h.wds, diff_same]
  rfl
theorem pc0 : pc [0] 1 = [0, 0, 0, 0, 0, 0, 0, 0] := rfl
theorem f10 {H : Heap} : ACall Try.prog 10 [] H (.bool true) H := by
  refine acall10 (by simp) (acs_start ?_)
  have hm : mayB 2097152 16777216 262144 16777216 16777216 268435456 = true := by decide
  unfold c10
  simp (maxSteps:=1000000) (disch:=omega) only [go_sem, ↓reduceIte, reduceCtorEq]
  first | refine callB_intro (f25) ?_ | refine callD_intro (f25) ?_ | refine callP_intro (fun _ => (f25)) ?_ | refine callX_pure (f25) ?_
  simp (maxSteps:=1000000) (disch:=omega) only [go_sem, ↓reduceIte, reduceCtorEq]
  first | refine callBE (f15 hm) ?_ | refine callDE (f15 hm) ?_ | refine callXE (f15 hm) ?_
  rintro v X hx ⟨e, rfl, he, hok⟩
  have full : (AV.agg e.av).full = true := rfl
  have len : e.av.length = 29 := rfl
  have all : e.av.all AV.cell = true := rfl
  have tk : List.take 29 e.av = e.av := rfl
  have drp : List.drop 29 e.av = [] := rfl
  have g16 := fun G => f16 hm he.right (hok.app G)
  rw [dlt0 he] at g16
  simp only [List.length_cons, List.length_nil, Nat.reduceAdd, Nat.reduceDiv] at g16
  rw [pc0] at g16
  simp (maxSteps:=1000000) (disch:=omega) only [go_sem, ↓reduceIte, reduceCtorEq, full, len, all, tk, drp]
  first | refine callB_intro (f25) ?_ | refine callD_intro (f25) ?_ | refine callP_intro (fun _ => (f25)) ?_ | refine callX_pure (f25) ?_
  simp (maxSteps:=1000000) (disch:=omega) only [go_sem, ↓reduceIte, reduceCtorEq, full, len, all, tk, drp]
  first | refine callBE (g16 _) ?_ | refine callDE (g16 _) ?_ | refine callXE (g16 _) ?_
  rintro v Y hy ⟨q, rfl, hq, hl⟩
  have hXY : Ext X Y := (Ext.app _ _).trans hy
  have b1 : blkAt Y X.length = some ⟨e.av, true⟩ := hy.blk (by simp only [go_sem, ↓reduceIte, reduceCtorEq])
  simp only [List.map_cons, List.map_nil] at hq
  simp (maxSteps:=1000000) (disch:=omega) only [go_sem, ↓reduceIte, reduceCtorEq, b1, len, tk]
  refine callBE f12_nil ?_
  rintro v Z hz ⟨p, rfl, hp, hpl⟩
  have b2 := hz.blk b1
  have q2 := hz.blk hq
  have okZ := (hok.ext hXY).ext hz
  have l2 := blkAt_lt b2
  have lq := blkAt_lt q2
  have lp := blkAt_lt hp
  have g13 := fun G => f13 (okZ.app G) (okZ.app G) (.refl e)
  have m17 : mrkB 0 0 0 39 = true := by decide
  have g17 := fun (G : Heap) => f17 (a := 0) (b := 0) (c := 0) (d := 39) (H := G)
  rw [m17] at g17
  simp (maxSteps:=1000000) (disch:=omega) only [go_sem, ↓reduceIte, reduceCtorEq, hp, full, len, all, tk, drp, b2, q2, l2, lq, lp, blkAt_lo]
  first | refine callB_intro (g13 _) ?_ | refine callD_intro (g13 _) ?_ | refine callP_intro (fun _ => (g13 _)) ?_ | refine callX_pure (g13 _) ?_
  simp (maxSteps:=1000000) (disch:=omega) only [go_sem, ↓reduceIte, reduceCtorEq]
  first | refine callB_intro (g17 _) ?_ | refine callD_intro (g17 _) ?_ | refine callP_intro (fun _ => (g17 _)) ?_ | refine callX_pure (g17 _) ?_
  simp (maxSteps:=1000000) (disch:=omega) only [go_sem, ↓reduceIte, reduceCtorEq]
  exact fin_ext (by simp) ((((hx.trans hXY).trans hz).to _)) (by simp (maxSteps:=1000000) (disch:=omega) only [resVal, resAll, resOne, rs10, Env.get, go_sem, ↓reduceIte, reduceCtorEq]) (by simp only [AV.und, AV.unds, and_self])


theorem dlt_len {e : Es} (h : estB e = true) : 0 < (dlt e).length ∧ (dlt e).length ≤ 39 := by
  have hl := wds_len h
  have := cnt_le w0 (wds e)
  unfold dlt diff
  rw [dif_length, List.length_replicate]
  omega
end Go.Proofs.Ytbjlbcihhleclaa.Ah
