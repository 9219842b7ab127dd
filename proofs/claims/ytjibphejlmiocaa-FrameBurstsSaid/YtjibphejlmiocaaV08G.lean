/- V08G: a part of the proof: contracts of functions, or plain laws. Conditions: none. -/
import Derived.Test.YtjibphejlmiocaaV08F
namespace Go.Proofs.Ytjibphejlmiocaa.Ah
open Go Go.WideShapes
attribute [local irreducible] acs aopsK drawK leave condK bindR bindD bindX guardK guardD callB callD callX callP callPv rfunG rfunK yldB yldD
attribute [local go_sem] acs_nil acs_blk acs_skip acs_reg acs_dreg acs_freg acs_nam0 acs_nam nones acs_seq acs_cond acs_block acs_exit acs_ret acs_kl acs_loop leave_nil leave_code leave_lp leave_blk aopsK_nil aopsK_cons aopsK_guard bindR_val bindR_need bindR_br bindR_call bindR_ycall acs_rfun rfunG_fn bindR_bad drawK_nil drawK_cons drawK_ext drawK_pur drawK_guard callPv_fn drawK_purv bindD_val bindD_need bindD_br bindD_call bindD_ycall bindD_bad bindX_val bindX_need bindX_br bindX_call guardD_bool guardD_tup grows grows0 List.append_cancel_left_eq List.cons.injEq exists_eq' exists_eq condK_bool guardK_bool guardK_tup sor r0 r1 r2 r3 rC rB rI rP rA rT rS rF rSl rO rbin rcut run1 Env.evals Env.eval Env.get Env.put Env.ins Env.del Env.dels argEnv AV.full AV.cells AV.cell eqCells decide_true decide_false decide_eq_true_eq decide_eq_false_iff_not Bool.not_eq_true' Bool.not_eq_false' true_and and_true false_implies true_implies forall_const Bool.not_true Bool.not_false Bool.false_eq_true Bool.true_eq_false List.getElem?_cons_zero List.getElem?_cons_succ List.length_cons List.length_nil List.length_append List.all_cons List.all_nil Bool.and_true Bool.and_self implies_true List.append_assoc List.cons_append List.nil_append List.append_nil i64_in imin_eq imax_eq cast3 cast0 cast1 cast2 Option.map_none ite_self and_false false_and Option.isSome_some or_true true_or Int.sub_zero Int.mul_one Nat.sub_zero Nat.zero_le Int.cast_ofNat_Int Int.natCast_nonneg Int.toNat_natCast ne_eq not_false_eq_true not_true_eq_false strC blkAt_app blkAt_app0 blkAt_zero blkAt_succ List.set_cons_zero List.set_cons_succ set_app set_app0 Option.map_some Option.bind_some rd setCells lay rdS szOk rapp ownAt lenAt Option.any_some Option.getD_some List.drop_zero List.drop_succ_cons List.take_succ_cons List.take_zero List.drop_nil List.take_nil Nat.lt_irrefl Nat.zero_add Nat.add_zero Nat.mul_one Nat.one_mul Nat.add_assoc Option.some.injEq eq_self
set_option maxHeartbeats 4000000
set_option linter.unusedSimpArgs false
set_option linter.unusedVariables false
/-! The law FrameBursts, told. -/
theorem f6_out {K : List Fr} {Q : Post} {H : Heap} {F : List AV} {q L : Nat} {a : Int} {s0 bs : List Nat} (ha : ¬ (0 ≤ a ∧ a < (L : Int))) (hL2 : L ≤ 2004) {X : Heap}
    (fin : acs Try.prog K [(3, .ptr H.length 0), (7, .bool true), (8, .sl q 0 L 1 none), (10, .bool false)] X Q) :
    ∀ (k i : Nat), i + k = 4 → acs Try.prog (.lp c6l0 :: .blk 0 :: K) (e6 H q L a i false) X Q := by
  intro k
  induction k with
  | zero =>
    intro i hi
    obtain rfl : i = 4 := hi
    unfold e6
    rw [acs_lp]; conv in Fr.code c6l0 => unfold c6l0
    simp (maxSteps := 1000000) (disch := omega) only [go_sem, Nat.reduceEqDiff, Nat.reduceLT, Nat.reduceAdd, Nat.reduceSub, Nat.reduceMul, Nat.reduceBEq, Int.reduceLT, Int.reduceAdd, Int.reduceMul, Int.reduceSub, Int.reduceToNat, Int.reduceLE, Int.reduceEq, ↓reduceIte, reduceCtorEq, Int.reduceNeg, Nat.reduceLeDiff]
    exact fin
  | succ k ih =>
    intro i hi
    have hi4 : (i : Int) < 4 := by omega
    have next := ih (i + 1) (by omega)
    unfold e6 at *
    simp only [List.append_assoc, List.cons_append, List.nil_append, List.length_append, List.length_cons, List.length_nil, Nat.reduceAdd, Nat.add_assoc, Nat.zero_add, Nat.add_zero, Int.natCast_add, Int.cast_ofNat_Int, ] at next
    by_cases h0 : 0 ≤ a
    · have hlt' : ¬ a < (L : Int) - (i : Int) := by omega
      rw [acs_lp]; conv in Fr.code c6l0 => unfold c6l0
      simp (maxSteps := 1000000) (disch := omega) only [go_sem, Nat.reduceEqDiff, Nat.reduceLT, Nat.reduceAdd, Nat.reduceSub, Nat.reduceMul, Nat.reduceBEq, Int.reduceLT, Int.reduceAdd, Int.reduceMul, Int.reduceSub, Int.reduceToNat, Int.reduceLE, Int.reduceEq, ↓reduceIte, reduceCtorEq, Int.reduceNeg, Nat.reduceLeDiff,  hi4, h0, hlt']
      exact next
    · rw [acs_lp]; conv in Fr.code c6l0 => unfold c6l0
      simp (maxSteps := 1000000) (disch := omega) only [go_sem, Nat.reduceEqDiff, Nat.reduceLT, Nat.reduceAdd, Nat.reduceSub, Nat.reduceMul, Nat.reduceBEq, Int.reduceLT, Int.reduceAdd, Int.reduceMul, Int.reduceSub, Int.reduceToNat, Int.reduceLE, Int.reduceEq, ↓reduceIte, reduceCtorEq, Int.reduceNeg, Nat.reduceLeDiff,  hi4, h0]
      exact next
def c6t : SC := tls 7 c6
theorem f6 (k : Int) (ns : List Int) (a : Int) (b0 b1 b2 b3 : Nat) (p o : Nat) (c : Option Nat) (H : Heap) (hs : Sl i64 H p o ns) (wn : W64 ns) (hb : By [b0, b1, b2, b3]) (l1 : ns.length ≤ 140737488351232) :
    ACall Try.prog 6 [.agg [.int .i64 k, .sl p o ns.length 1 c], .int .i64 a, .agg [.int .u8 (b0 : Nat), .int .u8 (b1 : Nat), .int .u8 (b2 : Nat), .int .u8 (b3 : Nat)]] H (.bool true) H := by
  refine acall6 (by simp) (acs_start ?_)
  by_cases hl : 100 < ns.length
  · have hl1 : (100 : Int) < (ns.length : Int) := by omega
    unfold c6
    simp (maxSteps := 1000000) (disch := omega) only [go_sem, Nat.reduceEqDiff, Nat.reduceLT, Nat.reduceAdd, Nat.reduceSub, Nat.reduceMul, Nat.reduceBEq, Int.reduceLT, Int.reduceAdd, Int.reduceMul, Int.reduceSub, Int.reduceToNat, Int.reduceLE, Int.reduceEq, ↓reduceIte, reduceCtorEq, Int.reduceNeg, Nat.reduceLeDiff]
    first | refine callB_intro (f10 _) ?_ | refine callD_intro (f10 _) ?_ | refine callP_intro (fun _ => (f10 _)) ?_ | refine callX_pure (f10 _) ?_
    simp (maxSteps := 1000000) (disch := omega) only [go_sem, Nat.reduceEqDiff, Nat.reduceLT, Nat.reduceAdd, Nat.reduceSub, Nat.reduceMul, Nat.reduceBEq, Int.reduceLT, Int.reduceAdd, Int.reduceMul, Int.reduceSub, Int.reduceToNat, Int.reduceLE, Int.reduceEq, ↓reduceIte, reduceCtorEq, Int.reduceNeg, Nat.reduceLeDiff,  hl1]
    exact fin_same (by simp) _ (by first | exact (List.append_nil _).symm | rfl) (by simp (maxSteps := 1000000) (disch := omega) only [resVal, resAll, resOne, rs6, Env.get, go_sem, Nat.reduceEqDiff, Nat.reduceLT, Nat.reduceAdd, Nat.reduceSub, Nat.reduceMul, Nat.reduceBEq, Int.reduceLT, Int.reduceAdd, Int.reduceMul, Int.reduceSub, Int.reduceToNat, Int.reduceLE, Int.reduceEq, ↓reduceIte, reduceCtorEq, Int.reduceNeg, Nat.reduceLeDiff]) (by simp only [AV.und, AV.unds, and_self])
  have hl1 : ¬ (100 : Int) < (ns.length : Int) := by omega
  have g11 := fun G => f11 (k := k) (p := p) (off := o) (n := ns.length) (c := c) (H := G)
  cases hr : right k ns.length with
  | false =>
    rw [hr] at g11
    unfold c6
    simp (maxSteps := 1000000) (disch := omega) only [go_sem, Nat.reduceEqDiff, Nat.reduceLT, Nat.reduceAdd, Nat.reduceSub, Nat.reduceMul, Nat.reduceBEq, Int.reduceLT, Int.reduceAdd, Int.reduceMul, Int.reduceSub, Int.reduceToNat, Int.reduceLE, Int.reduceEq, ↓reduceIte, reduceCtorEq, Int.reduceNeg, Nat.reduceLeDiff]
    first | refine callB_intro (f10 _) ?_ | refine callD_intro (f10 _) ?_ | refine callP_intro (fun _ => (f10 _)) ?_ | refine callX_pure (f10 _) ?_
    simp (maxSteps := 1000000) (disch := omega) only [go_sem, Nat.reduceEqDiff, Nat.reduceLT, Nat.reduceAdd, Nat.reduceSub, Nat.reduceMul, Nat.reduceBEq, Int.reduceLT, Int.reduceAdd, Int.reduceMul, Int.reduceSub, Int.reduceToNat, Int.reduceLE, Int.reduceEq, ↓reduceIte, reduceCtorEq, Int.reduceNeg, Nat.reduceLeDiff,  hl1]
    first | refine callB_intro (g11 _) ?_ | refine callD_intro (g11 _) ?_ | refine callP_intro (fun _ => (g11 _)) ?_ | refine callX_pure (g11 _) ?_
    simp (maxSteps := 1000000) (disch := omega) only [go_sem, Nat.reduceEqDiff, Nat.reduceLT, Nat.reduceAdd, Nat.reduceSub, Nat.reduceMul, Nat.reduceBEq, Int.reduceLT, Int.reduceAdd, Int.reduceMul, Int.reduceSub, Int.reduceToNat, Int.reduceLE, Int.reduceEq, ↓reduceIte, reduceCtorEq, Int.reduceNeg, Nat.reduceLeDiff]
    exact fin_same (by simp) _ (by first | exact (List.append_nil _).symm | rfl) (by simp (maxSteps := 1000000) (disch := omega) only [resVal, resAll, resOne, rs6, Env.get, go_sem, Nat.reduceEqDiff, Nat.reduceLT, Nat.reduceAdd, Nat.reduceSub, Nat.reduceMul, Nat.reduceBEq, Int.reduceLT, Int.reduceAdd, Int.reduceMul, Int.reduceSub, Int.reduceToNat, Int.reduceLE, Int.reduceEq, ↓reduceIte, reduceCtorEq, Int.reduceNeg, Nat.reduceLeDiff]) (by simp only [AV.und, AV.unds, and_self])
  | true =>
  rw [hr] at g11
  have g12 := fun G => f12 (cp := c) (hs.app G) hr
  have hk := lng_kind (of_decide_eq_true hr).1
  have hn18 : ns.length ≤ 18 := by have := (of_decide_eq_true hr).2; have := (lng_in k).2; omega
  have hd := dec_enc (k := k.toNat) wn (by rw [show ((k.toNat : Nat) : Int) = k by omega]; exact hr)
  rw [show ((k.toNat : Nat) : Int) = k by omega] at hd
  have hlen := encB_len k.toNat ns
  have hBy := encB_By (k := k.toNat) (xs := ns) (by omega)
  have hw : whole (encB k.toNat ns) (1 + 8 * ns.length) = true := by
    have := whole_app (k.toNat :: bytes ns)
    rw [List.length_cons, bytes_len, Nat.add_comm] at this
    exact this
  generalize hs0 : encB k.toNat ns = s0 at *
  obtain ⟨L, hL⟩ : ∃ L, L = s0.length := ⟨_, rfl⟩
  have hL5 : ¬ (L : Int) = 0 := by omega
  rw [← hL] at g12
  have m4 : ([b0, b1, b2, b3] : List Nat).map u8 = [.int .u8 (b0 : Nat), .int .u8 (b1 : Nat), .int .u8 (b2 : Nat), .int .u8 (b3 : Nat)] := rfl
  -- what comes behind the loop
  have tail : ∀ (S : List Nat) (P q : Nat) (X : Heap) (F : List AV), F = [.int .i64 k, .sl p o ns.length 1 c] → H.length + 2 ≤ q → S.length = L → By S → (P = 0 → S = s0) → (P ≠ 0 → whole S (1 + 8 * ns.length) = false) → BI H F [b0, b1, b2, b3] q S X →
      acs Try.prog [.code c6t] [(3, .ptr H.length 0), (7, .bool true), (8, .sl q 0 L 1 none), (10, .bool (!decide (P = 0)))] X (Fin H rs6 (.bool true) H) := by
    intro S P q X F hF hq hSl hSB h0 h1 d
    have g20 := f20 (cp := none) (H := X) (p := q) (off := 0) (Sl.whole (o := true) d.xq) hSB (by omega)
    rw [hSl] at g20
    have x0 := d.x0
    rw [hF] at x0
    have hx := d.ext
    clear d
    unfold c6t tls tls tls tls tls tls tls tls tl2 c6
    simp (maxSteps := 1000000) (disch := omega) only [go_sem, Nat.reduceEqDiff, Nat.reduceLT, Nat.reduceAdd, Nat.reduceSub, Nat.reduceMul, Nat.reduceBEq, Int.reduceLT, Int.reduceAdd, Int.reduceMul, Int.reduceSub, Int.reduceToNat, Int.reduceLE, Int.reduceEq, ↓reduceIte, reduceCtorEq, Int.reduceNeg, Nat.reduceLeDiff]
    first | refine callBE (g20) ?_ | refine callDE (g20) ?_ | refine callXE (g20) ?_
    rintro v X1 hx1 ⟨w, rfl, p2, o2, k2, rfl, s2⟩
    replace x0 := hx1.blk x0
    have l0 := blkAt_lt x0
    have hy := hx.trans hx1
    by_cases hP : P = 0
    · rw [h0 hP, hd.2.2] at s2
      rw [h0 hP, hd.1, hd.2.1, hd.2.2, decide_eq_true hP]
      have g13 := fun G => f13 (a := k) (b := k) (c1 := k2) (c2 := c) (s2.app G) ((hy.sl hs).app G) (by omega)
      rw [decide_eq_true ⟨rfl, rfl⟩] at g13
      simp (maxSteps := 1000000) (disch := omega) only [go_sem, Nat.reduceEqDiff, Nat.reduceLT, Nat.reduceAdd, Nat.reduceSub, Nat.reduceMul, Nat.reduceBEq, Int.reduceLT, Int.reduceAdd, Int.reduceMul, Int.reduceSub, Int.reduceToNat, Int.reduceLE, Int.reduceEq, ↓reduceIte, reduceCtorEq, Int.reduceNeg, Nat.reduceLeDiff,  x0, l0, blkAt_lo]
      first | refine callB_intro (g13 _) ?_ | refine callD_intro (g13 _) ?_ | refine callP_intro (fun _ => (g13 _)) ?_ | refine callX_pure (g13 _) ?_
      simp (maxSteps := 1000000) (disch := omega) only [go_sem, Nat.reduceEqDiff, Nat.reduceLT, Nat.reduceAdd, Nat.reduceSub, Nat.reduceMul, Nat.reduceBEq, Int.reduceLT, Int.reduceAdd, Int.reduceMul, Int.reduceSub, Int.reduceToNat, Int.reduceLE, Int.reduceEq, ↓reduceIte, reduceCtorEq, Int.reduceNeg, Nat.reduceLeDiff]
      exact fin_ext (by simp) (hy.to _) (by simp (maxSteps := 1000000) (disch := omega) only [resVal, resAll, resOne, rs6, Env.get, go_sem, Nat.reduceEqDiff, Nat.reduceLT, Nat.reduceAdd, Nat.reduceSub, Nat.reduceMul, Nat.reduceBEq, Int.reduceLT, Int.reduceAdd, Int.reduceMul, Int.reduceSub, Int.reduceToNat, Int.reduceLE, Int.reduceEq, ↓reduceIte, reduceCtorEq, Int.reduceNeg, Nat.reduceLeDiff]) (by simp only [AV.und, AV.unds, and_self])
    · have hE : decE S = 3 := by
        unfold decE
        rw [if_neg (by omega), show S.length - 4 = 1 + 8 * ns.length by omega, if_pos (h1 hP)]
      rw [hE, decide_eq_false hP]
      simp (maxSteps := 1000000) (disch := omega) only [go_sem, Nat.reduceEqDiff, Nat.reduceLT, Nat.reduceAdd, Nat.reduceSub, Nat.reduceMul, Nat.reduceBEq, Int.reduceLT, Int.reduceAdd, Int.reduceMul, Int.reduceSub, Int.reduceToNat, Int.reduceLE, Int.reduceEq, ↓reduceIte, reduceCtorEq, Int.reduceNeg, Nat.reduceLeDiff,  x0, l0, blkAt_lo]
      exact fin_ext (by simp) (hy.to _) (by simp (maxSteps := 1000000) (disch := omega) only [resVal, resAll, resOne, rs6, Env.get, go_sem, Nat.reduceEqDiff, Nat.reduceLT, Nat.reduceAdd, Nat.reduceSub, Nat.reduceMul, Nat.reduceBEq, Int.reduceLT, Int.reduceAdd, Int.reduceMul, Int.reduceSub, Int.reduceToNat, Int.reduceLE, Int.reduceEq, ↓reduceIte, reduceCtorEq, Int.reduceNeg, Nat.reduceLeDiff]) (by simp only [AV.und, AV.unds, and_self])
  have main : ∀ (q : Nat) (X : Heap), H.length + 2 ≤ q → BI H [.int .i64 k, .sl p o ns.length 1 c] [b0, b1, b2, b3] q s0 X →
      acs Try.prog [.lp c6l0, .blk 0, .code c6t] [(1, .int .i64 a), (3, .ptr H.length 0), (5, .ptr (H.length + 1) 0), (7, .bool true), (8, .sl q 0 L 1 none), (10, .bool false), (11, .int .i64 0)] X (Fin H rs6 (.bool true) H) := by
    intro q X hq d
    by_cases ha : 0 ≤ a ∧ a < (L : Int)
    · obtain ⟨t, rfl⟩ : ∃ t : Nat, a = t := ⟨a.toNat, by omega⟩
      have hi0 : Inv s0 t 0 s0 0 := by
        refine ⟨hBy, rfl, ?_, by simp, fun _ => rfl⟩
        rw [stn_nil, Nat.xor_zero]
        exact (residue hBy (by omega : s0.length = (1 + 8 * ns.length) + 4)).1 hw
      have go := f6_loop (K := [.code c6t]) (Q := Fin H rs6 (.bool true) H) (H := H) (F := [.int .i64 k, .sl p o ns.length 1 c]) (q := q) (L := L) (t := t) (s0 := s0) (bs := [b0, b1, b2, b3]) hq hL.symm (by omega) (by omega) hb rfl (fun S P X ⟨i, hi, hinv⟩ d => tail S P q X _ rfl hq (by rw [hinv.len, hL]) hinv.by8 hinv.same (fun hP => by rw [hinv.whole hi (by omega : s0.length = (1 + 8 * ns.length) + 4)]; exact decide_eq_false hP) d) 4 0 s0 0 X rfl hi0 d
      unfold e6 at go
      exact go
    · have go := f6_out (K := [.code c6t]) (Q := Fin H rs6 (.bool true) H) (H := H) (F := []) (q := q) (L := L) (a := a) (s0 := s0) (bs := []) ha (by omega) (X := X) (tail s0 0 q X _ rfl hq hL.symm hBy (fun _ => rfl) (fun h => absurd rfl h) d) 4 0 rfl
      unfold e6 at go
      exact go
  clear tail
  unfold c6t tls tls tls tls tls tls tls tls tl2 c6 at main
  unfold c6
  simp (maxSteps := 1000000) (disch := omega) only [go_sem, Nat.reduceEqDiff, Nat.reduceLT, Nat.reduceAdd, Nat.reduceSub, Nat.reduceMul, Nat.reduceBEq, Int.reduceLT, Int.reduceAdd, Int.reduceMul, Int.reduceSub, Int.reduceToNat, Int.reduceLE, Int.reduceEq, ↓reduceIte, reduceCtorEq, Int.reduceNeg, Nat.reduceLeDiff]
  first | refine callB_intro (f10 _) ?_ | refine callD_intro (f10 _) ?_ | refine callP_intro (fun _ => (f10 _)) ?_ | refine callX_pure (f10 _) ?_
  simp (maxSteps := 1000000) (disch := omega) only [go_sem, Nat.reduceEqDiff, Nat.reduceLT, Nat.reduceAdd, Nat.reduceSub, Nat.reduceMul, Nat.reduceBEq, Int.reduceLT, Int.reduceAdd, Int.reduceMul, Int.reduceSub, Int.reduceToNat, Int.reduceLE, Int.reduceEq, ↓reduceIte, reduceCtorEq, Int.reduceNeg, Nat.reduceLeDiff,  hl1]
  first | refine callB_intro (g11 _) ?_ | refine callD_intro (g11 _) ?_ | refine callP_intro (fun _ => (g11 _)) ?_ | refine callX_pure (g11 _) ?_
  simp (maxSteps := 1000000) (disch := omega) only [go_sem, Nat.reduceEqDiff, Nat.reduceLT, Nat.reduceAdd, Nat.reduceSub, Nat.reduceMul, Nat.reduceBEq, Int.reduceLT, Int.reduceAdd, Int.reduceMul, Int.reduceSub, Int.reduceToNat, Int.reduceLE, Int.reduceEq, ↓reduceIte, reduceCtorEq, Int.reduceNeg, Nat.reduceLeDiff]
  first | refine callBE (g12 _) ?_ | refine callDE (g12 _) ?_ | refine callXE (g12 _) ?_
  rintro v X hx ⟨q, hq, rfl, bq⟩
  have x0 : blkAt X H.length = some ⟨[.int .i64 k, .sl p o ns.length 1 c], true⟩ := hx.blk (by simp only [go_sem, Nat.reduceEqDiff, Nat.reduceLT, Nat.reduceAdd, Nat.reduceSub, Nat.reduceMul, Nat.reduceBEq, Int.reduceLT, Int.reduceAdd, Int.reduceMul, Int.reduceSub, Int.reduceToNat, Int.reduceLE, Int.reduceEq, ↓reduceIte, reduceCtorEq, Int.reduceNeg, Nat.reduceLeDiff])
  have x1 : blkAt X (H.length + 1) = some ⟨([b0, b1, b2, b3] : List Nat).map u8, true⟩ := by rw [m4]; exact hx.blk (by simp only [go_sem, Nat.reduceEqDiff, Nat.reduceLT, Nat.reduceAdd, Nat.reduceSub, Nat.reduceMul, Nat.reduceBEq, Int.reduceLT, Int.reduceAdd, Int.reduceMul, Int.reduceSub, Int.reduceToNat, Int.reduceLE, Int.reduceEq, ↓reduceIte, reduceCtorEq, Int.reduceNeg, Nat.reduceLeDiff])
  simp (maxSteps := 1000000) (disch := omega) only [go_sem, Nat.reduceEqDiff, Nat.reduceLT, Nat.reduceAdd, Nat.reduceSub, Nat.reduceMul, Nat.reduceBEq, Int.reduceLT, Int.reduceAdd, Int.reduceMul, Int.reduceSub, Int.reduceToNat, Int.reduceLE, Int.reduceEq, ↓reduceIte, reduceCtorEq, Int.reduceNeg, Nat.reduceLeDiff,  hL5]
  exact main q X (by simpa using hq) ⟨(Ext.app _ _).trans hx, x0, x1, bq⟩
end Go.Proofs.Ytjibphejlmiocaa.Ah
