/- V09g: a part of the proof: contracts of functions, or plain laws. Conditions: none. -/
import Derived.Test.YtlohehkagaabfaaV09f
namespace Go.Proofs.Ytlohehkagaabfaa.Ah
open Go Go.WideShapes
attribute [local irreducible] acs aopsK drawK leave condK bindR bindD bindX guardK guardD callB callD callX callP callPv rfunG rfunK yldB yldD
set_option maxHeartbeats 4000000
set_option linter.unusedSimpArgs false
set_option linter.unusedVariables false
/-! Contracts: deltas, whatever comes. -/
theorem call_nilres2 {P : Program} {f : FuncId} {args : List AV} {H : Heap} {sz : Nat} {v : AV} (h : ACall P f args H (.tup [.nils, v]) H) : ACall P f args H (.tup [.sl H.length 0 0 sz none, v]) (H ++ [some ⟨[], false⟩]) := by
  intro M w xs hH hv
  refine (h M w xs hH hv).mono fun e w' ⟨x, M', h1, h2, h3, h4⟩ => ⟨x, _, h1, h2.dummy, h3.dummy, ?_⟩
  have hle : M'.le (M'.put H.length ⟨0, 0, 0, false⟩) := Val.le_put (h2.dom _ (Nat.le_refl _))
  simp only [VR, VRs] at h4 ⊢
  obtain ⟨us, e, x0, xs, rfl, g1, x1, xs1, rfl, g2, rfl⟩ := h4
  exact ⟨_, e, _, _, rfl, ⟨⟨0, 0, 0, false⟩, Val.at_in (by simp [Val.put]) rfl, .inr (by simp [g1])⟩, _, _, rfl, g2.mono hle, rfl⟩
theorem get_own {H : Heap} {c : List AV} {i : Nat} {b : Blk} (h : (H ++ [some ⟨c, false⟩])[i]? = some (some b)) : (H ++ [some ⟨c, true⟩])[i]? = some (some b) ∨ (b = ⟨c, false⟩ ∧ (H ++ [some ⟨c, true⟩])[i]? = some (some ⟨c, true⟩)) := by
  rcases get_snoc h with ⟨h1, h2⟩ | ⟨rfl, h2⟩
  · exact .inl (by rw [List.getElem?_append_left h1]; exact h2)
  · cases h2
    exact .inr ⟨rfl, by simp⟩
theorem call_own {P : Program} {f : FuncId} {args : List AV} {H : Heap} {c : List AV} {v : AV} (h : ACall P f args H v (H ++ [some ⟨c, true⟩])) : ACall P f args H v (H ++ [some ⟨c, false⟩]) := by
  intro M w xs hH hv
  refine (h M w xs hH hv).mono fun e w' ⟨x, M', h1, h2, h3, h4⟩ => ⟨x, M', h1, ?_, ?_, h4⟩
  · refine ⟨fun i hi => h2.dom i (by rw [List.length_append] at hi ⊢; exact hi), fun i b hb => ?_, fun i j b c2 l l' hb ho hc hct hij hl hl' => ?_⟩
    · rcases get_own hb with g | ⟨rfl, g⟩
      · exact h2.row i b g
      · obtain ⟨l, g1, g2⟩ := h2.row i _ g
        refine ⟨l, g1, fun ht => ?_⟩
        have g3 := g2 (.inr rfl)
        by_cases hob : l.obj = true
        · exact BRel.ofOb (g3.ob hob) hob
        · have hob' : l.obj = false := by simpa using hob
          obtain ⟨arr, elem, fr, q1, q2, q3, q4⟩ := g3.row hob'
          exact BRel.ofRow ⟨arr, elem, fr, q1, q2, q3, fun hh => by cases hh⟩ hob'
    · rcases get_own hb with g | ⟨rfl, g⟩
      · rcases get_own hc with g' | ⟨rfl, g'⟩
        · exact h2.sep i j b c2 l l' g ho g' hct hij hl hl'
        · exact h2.sep i j b _ l l' g ho g' (.inr rfl) hij hl hl'
      · cases ho
  · exact ⟨h3.os, h3.tape, h3.output, h3.size, h3.block, (fun i b l hb ho hl => by
      rcases get_own hb with g | ⟨rfl, g⟩
      · exact h3.own i b l g ho hl
      · cases ho), h3.ext, (by have := h3.len; rw [List.length_append] at this ⊢; exact this), (fun i b l hb ht hl => by
      rcases get_own hb with g | ⟨rfl, g⟩
      · exact h3.loc i b l g ht hl
      · exact h3.loc i _ l g (.inr rfl) hl)⟩
/-- What is told of a delta's row. -/
def aspec (bs d : List Int) : List Int × Int :=
  if 600 < bs.length then ([], 5) else if d.length < (bs.length + 59) / 60 then ([], 4) else if ones (d.take ((bs.length + 59) / 60)) ≠ d.length - (bs.length + 59) / 60 then ([], 2) else
    match ap d bs 0 (d.drop ((bs.length + 59) / 60)) [] with | none => ([], 2) | some R => (R, 0)
def dspec (bs ns : List Int) : List Int × Int :=
  if bs.length ≠ ns.length then ([], 9) else if 600 < bs.length then ([], 5) else (diff bs ns, 0)
def rowres (r : List Int × Int) (H : Heap) : AV := .tup [.sl H.length 0 r.1.length 1 none, .int .i64 r.2]
def rowheap (r : List Int × Int) (H : Heap) : Heap := H ++ [some ⟨r.1.map (AV.int .i64), false⟩]
theorem f10_any (bs ns : List Int) (p q : Nat) (c1 c2 : Option Nat) (o o' : Bool) (H : Heap) (hp : blkAt H p = some ⟨bs.map (AV.int .i64), o⟩) (hq : blkAt H q = some ⟨ns.map (AV.int .i64), o'⟩) :
    ACall Try.prog 10 [.sl p 0 bs.length 1 c1, .sl q 0 ns.length 1 c2] H (rowres (dspec bs ns) H) (rowheap (dspec bs ns) H) := by
  unfold dspec rowres rowheap
  by_cases h1 : bs.length = ns.length
  · by_cases h2 : 600 < bs.length
    · rw [if_neg (by simp [h1]), if_pos h2]
      refine call_nilres2 (acall10 (by simp) (acs_start ?_))
      have h2' : (600 : Int) < (ns.length : Int) := by omega
      unfold c10
      simp (maxSteps := 1000000) (disch := omega) only [acs_nil, acs_blk, acs_skip, acs_reg, acs_dreg, acs_freg, acs_nam0, acs_nam, nones, acs_seq, acs_cond, acs_block, acs_exit, acs_ret, acs_kl, acs_loop, leave_nil, leave_code, leave_lp, leave_blk, aopsK_nil, aopsK_cons, aopsK_guard, bindR_val, bindR_need, bindR_br, bindR_call, bindR_ycall, acs_rfun, rfunG_fn, bindR_bad, drawK_nil, drawK_cons, drawK_ext, drawK_pur, drawK_guard, callPv_fn, drawK_purv, bindD_val, bindD_need, bindD_br, bindD_call, bindD_ycall, bindD_bad, bindX_val, bindX_need, bindX_br, bindX_call, guardD_bool, guardD_tup, grows, grows0, List.append_cancel_left_eq, List.cons.injEq, exists_eq', exists_eq, condK_bool, guardK_bool, guardK_tup, sor, r0, r1, r2, r3, rC, rB, rI, rP, rA, rT, rS, rF, rSl, rO, rbin, rcut, run1, Env.evals, Env.eval, Env.get, Env.put, Env.ins, Env.del, Env.dels, argEnv, AV.full, AV.cells, AV.cell, eqCells, Nat.reduceEqDiff, Nat.reduceLT, Nat.reduceAdd, Nat.reduceSub, Nat.reduceMul, Nat.reduceBEq, Int.reduceLT, Int.reduceAdd, Int.reduceMul, Int.reduceSub, Int.reduceToNat, Int.reduceLE, Int.reduceEq, ↓reduceIte, decide_true, decide_false, decide_eq_true_eq, decide_eq_false_iff_not, Bool.not_eq_true', Bool.not_eq_false', true_and, and_true, false_implies, true_implies, forall_const, Bool.not_true, Bool.not_false, Bool.false_eq_true, Bool.true_eq_false, List.getElem?_cons_zero, List.getElem?_cons_succ, List.length_cons, List.length_nil, List.length_append, List.all_cons, List.all_nil, Bool.and_true, Bool.and_self, implies_true, reduceCtorEq, List.append_assoc, List.cons_append, List.nil_append, List.append_nil, Int.reduceNeg, i64_in, imin_eq, imax_eq, cast3, cast0, cast1, cast2, Option.map_none, ite_self, and_false, false_and, Option.isSome_some, or_true, true_or, Int.sub_zero, Int.mul_one, Nat.sub_zero, Nat.zero_le, Int.cast_ofNat_Int, Int.natCast_nonneg, Int.toNat_natCast, ne_eq, not_false_eq_true, not_true_eq_false, strC, blkAt_app, blkAt_app0, blkAt_zero, blkAt_succ, List.set_cons_zero, List.set_cons_succ, set_app, set_app0, Option.map_some, Option.bind_some, rd, setCells, lay, rdS, szOk, rapp, ownAt, lenAt, Option.any_some, Option.getD_some, List.drop_zero, List.drop_succ_cons, List.take_succ_cons, List.take_zero, List.drop_nil, List.take_nil, Nat.reduceLeDiff, Nat.lt_irrefl, Nat.zero_add, Nat.add_zero, Nat.mul_one, Nat.one_mul, Nat.add_assoc, Option.some.injEq, eq_self,  h1, h2']
      exact fin_same (by simp) _ (by first | exact (List.append_nil _).symm | rfl) (by simp (maxSteps := 1000000) (disch := omega) only [resVal, resAll, resOne, rs10, Env.get, Nat.reduceEqDiff, Nat.reduceLT, Nat.reduceAdd, Nat.reduceSub, Nat.reduceMul, Nat.reduceBEq, Int.reduceLT, Int.reduceAdd, Int.reduceMul, Int.reduceSub, Int.reduceToNat, Int.reduceLE, Int.reduceEq, ↓reduceIte, decide_true, decide_false, decide_eq_true_eq, decide_eq_false_iff_not, Bool.not_eq_true', Bool.not_eq_false', true_and, and_true, false_implies, true_implies, forall_const, Bool.not_true, Bool.not_false, Bool.false_eq_true, Bool.true_eq_false, List.getElem?_cons_zero, List.getElem?_cons_succ, List.length_cons, List.length_nil, List.length_append, List.all_cons, List.all_nil, Bool.and_true, Bool.and_self, implies_true, reduceCtorEq, List.append_assoc, List.cons_append, List.nil_append, List.append_nil, Int.reduceNeg, i64_in, imin_eq, imax_eq, cast3, cast0, cast1, cast2, Option.map_none, ite_self, and_false, false_and, Option.isSome_some, or_true, true_or, Int.sub_zero, Int.mul_one, Nat.sub_zero, Nat.zero_le, Int.cast_ofNat_Int, Int.natCast_nonneg, Int.toNat_natCast, ne_eq, not_false_eq_true, not_true_eq_false, strC, blkAt_app, blkAt_app0, blkAt_zero, blkAt_succ, List.set_cons_zero, List.set_cons_succ, set_app, set_app0, Option.map_some, Option.bind_some, rd, setCells, lay, rdS, szOk, rapp, ownAt, lenAt, Option.any_some, Option.getD_some, List.drop_zero, List.drop_succ_cons, List.take_succ_cons, List.take_zero, List.drop_nil, List.take_nil, Nat.reduceLeDiff, Nat.lt_irrefl, Nat.zero_add, Nat.add_zero, Nat.mul_one, Nat.one_mul, Nat.add_assoc, Option.some.injEq, eq_self]) (by simp only [AV.und, AV.unds, and_self])
    · rw [if_neg (by simp [h1]), if_neg h2]
      exact call_own (f10 bs ns p q c1 c2 o o' H hp hq h1 (by omega))
  · rw [if_pos h1]
    refine call_nilres2 (acall10 (by simp) (acs_start ?_))
    have h1' : ¬ (bs.length : Int) = (ns.length : Int) := by omega
    unfold c10
    simp (maxSteps := 1000000) (disch := omega) only [acs_nil, acs_blk, acs_skip, acs_reg, acs_dreg, acs_freg, acs_nam0, acs_nam, nones, acs_seq, acs_cond, acs_block, acs_exit, acs_ret, acs_kl, acs_loop, leave_nil, leave_code, leave_lp, leave_blk, aopsK_nil, aopsK_cons, aopsK_guard, bindR_val, bindR_need, bindR_br, bindR_call, bindR_ycall, acs_rfun, rfunG_fn, bindR_bad, drawK_nil, drawK_cons, drawK_ext, drawK_pur, drawK_guard, callPv_fn, drawK_purv, bindD_val, bindD_need, bindD_br, bindD_call, bindD_ycall, bindD_bad, bindX_val, bindX_need, bindX_br, bindX_call, guardD_bool, guardD_tup, grows, grows0, List.append_cancel_left_eq, List.cons.injEq, exists_eq', exists_eq, condK_bool, guardK_bool, guardK_tup, sor, r0, r1, r2, r3, rC, rB, rI, rP, rA, rT, rS, rF, rSl, rO, rbin, rcut, run1, Env.evals, Env.eval, Env.get, Env.put, Env.ins, Env.del, Env.dels, argEnv, AV.full, AV.cells, AV.cell, eqCells, Nat.reduceEqDiff, Nat.reduceLT, Nat.reduceAdd, Nat.reduceSub, Nat.reduceMul, Nat.reduceBEq, Int.reduceLT, Int.reduceAdd, Int.reduceMul, Int.reduceSub, Int.reduceToNat, Int.reduceLE, Int.reduceEq, ↓reduceIte, decide_true, decide_false, decide_eq_true_eq, decide_eq_false_iff_not, Bool.not_eq_true', Bool.not_eq_false', true_and, and_true, false_implies, true_implies, forall_const, Bool.not_true, Bool.not_false, Bool.false_eq_true, Bool.true_eq_false, List.getElem?_cons_zero, List.getElem?_cons_succ, List.length_cons, List.length_nil, List.length_append, List.all_cons, List.all_nil, Bool.and_true, Bool.and_self, implies_true, reduceCtorEq, List.append_assoc, List.cons_append, List.nil_append, List.append_nil, Int.reduceNeg, i64_in, imin_eq, imax_eq, cast3, cast0, cast1, cast2, Option.map_none, ite_self, and_false, false_and, Option.isSome_some, or_true, true_or, Int.sub_zero, Int.mul_one, Nat.sub_zero, Nat.zero_le, Int.cast_ofNat_Int, Int.natCast_nonneg, Int.toNat_natCast, ne_eq, not_false_eq_true, not_true_eq_false, strC, blkAt_app, blkAt_app0, blkAt_zero, blkAt_succ, List.set_cons_zero, List.set_cons_succ, set_app, set_app0, Option.map_some, Option.bind_some, rd, setCells, lay, rdS, szOk, rapp, ownAt, lenAt, Option.any_some, Option.getD_some, List.drop_zero, List.drop_succ_cons, List.take_succ_cons, List.take_zero, List.drop_nil, List.take_nil, Nat.reduceLeDiff, Nat.lt_irrefl, Nat.zero_add, Nat.add_zero, Nat.mul_one, Nat.one_mul, Nat.add_assoc, Option.some.injEq, eq_self,  h1']
    exact fin_same (by simp) _ (by first | exact (List.append_nil _).symm | rfl) (by simp (maxSteps := 1000000) (disch := omega) only [resVal, resAll, resOne, rs10, Env.get, Nat.reduceEqDiff, Nat.reduceLT, Nat.reduceAdd, Nat.reduceSub, Nat.reduceMul, Nat.reduceBEq, Int.reduceLT, Int.reduceAdd, Int.reduceMul, Int.reduceSub, Int.reduceToNat, Int.reduceLE, Int.reduceEq, ↓reduceIte, decide_true, decide_false, decide_eq_true_eq, decide_eq_false_iff_not, Bool.not_eq_true', Bool.not_eq_false', true_and, and_true, false_implies, true_implies, forall_const, Bool.not_true, Bool.not_false, Bool.false_eq_true, Bool.true_eq_false, List.getElem?_cons_zero, List.getElem?_cons_succ, List.length_cons, List.length_nil, List.length_append, List.all_cons, List.all_nil, Bool.and_true, Bool.and_self, implies_true, reduceCtorEq, List.append_assoc, List.cons_append, List.nil_append, List.append_nil, Int.reduceNeg, i64_in, imin_eq, imax_eq, cast3, cast0, cast1, cast2, Option.map_none, ite_self, and_false, false_and, Option.isSome_some, or_true, true_or, Int.sub_zero, Int.mul_one, Nat.sub_zero, Nat.zero_le, Int.cast_ofNat_Int, Int.natCast_nonneg, Int.toNat_natCast, ne_eq, not_false_eq_true, not_true_eq_false, strC, blkAt_app, blkAt_app0, blkAt_zero, blkAt_succ, List.set_cons_zero, List.set_cons_succ, set_app, set_app0, Option.map_some, Option.bind_some, rd, setCells, lay, rdS, szOk, rapp, ownAt, lenAt, Option.any_some, Option.getD_some, List.drop_zero, List.drop_succ_cons, List.take_succ_cons, List.take_zero, List.drop_nil, List.take_nil, Nat.reduceLeDiff, Nat.lt_irrefl, Nat.zero_add, Nat.add_zero, Nat.mul_one, Nat.one_mul, Nat.add_assoc, Option.some.injEq, eq_self]) (by simp only [AV.und, AV.unds, and_self])
/-- The bits of a row of masks hold the bits at its places. -/
theorem f16_body {bs d : List Int} {p q oq : Nat} {c1 c2 : Option Nat} {H : Heap} (hp : Sl i64 H p 0 bs) (hq : Sl i64 H q oq d) (hL : bs.length ≤ 600) (hdl : d.length ≤ 100000) (hd : (bs.length + 59) / 60 ≤ d.length) (ho : ones (d.take ((bs.length + 59) / 60)) = d.length - (bs.length + 59) / 60) (hpl : pl d 0 bs.length ≤ d.length - (bs.length + 59) / 60) :
    ac Try.prog c16 [(0, .sl p 0 bs.length 1 c1), (1, .sl q oq d.length 1 c2)] H (Q16 H (ap d bs 0 (d.drop ((bs.length + 59) / 60)) [])) := by
  have hn : ((bs.length : Int) + 59) / 60 = (((bs.length + 59) / 60 : Nat) : Int) := by omega
  have go := fun c7 c8 => f16_loop (c7 := c7) hq hd (show bs.length ≤ 60 * ((bs.length + 59) / 60) by omega) hL bs 0 (d.drop ((bs.length + 59) / 60)) 0 c8 [] [] (by simp) rfl (by simp) (by simpa using hpl) (by simp; omega)
  have g := fun H => f18 bs.length H (by omega)
  have gq := hq.take ((bs.length + 59) / 60)
  have gd := List.length_drop (i := (bs.length + 59) / 60) (l := d)
  have gt : (d.take ((bs.length + 59) / 60)).length = (bs.length + 59) / 60 := by simp; omega
  generalize hN : (bs.length + 59) / 60 = N at *
  have g20 := fun c => f20 (c := c) gq (by omega)
  rw [ho, gt] at g20
  generalize ap d bs 0 (d.drop N) [] = R at *
  rw [gd] at go
  have hNs : ((d.length : Int) - (N : Int)).toNat = d.length - N := by omega
  have h1 : ¬ (600 : Int) < (bs.length : Int) := by omega
  have h2 : ¬ (d.length : Int) < (N : Int) := by omega
  have hNd : (N : Int) ≤ (d.length : Int) := by omega
  obtain ⟨cs, o, hp, hle, hcs⟩ := hp
  rw [Nat.zero_add] at hle
  rw [List.drop_zero] at hcs
  have hrep : (List.replicate bs.length [AV.int IntKind.i64 0]).flatten = List.replicate bs.length (AV.int .i64 0) := by
    generalize bs.length = n
    induction n with
    | zero => rfl
    | succ n ih => rw [List.replicate_succ, List.replicate_succ, List.flatten_cons, ih]; rfl
  have hbig : bs.length * 8 ≤ 140737488355328 := by omega
  unfold c16
  apply acs_start
  rw [hn] at g
  simp (maxSteps := 1000000) (disch := omega) only [acs_nil, acs_blk, acs_skip, acs_reg, acs_dreg, acs_freg, acs_nam0, acs_nam, nones, acs_seq, acs_cond, acs_block, acs_exit, acs_ret, acs_kl, acs_loop, leave_nil, leave_code, leave_lp, leave_blk, aopsK_nil, aopsK_cons, aopsK_guard, bindR_val, bindR_need, bindR_br, bindR_call, bindR_ycall, acs_rfun, rfunG_fn, bindR_bad, drawK_nil, drawK_cons, drawK_ext, drawK_pur, drawK_guard, callPv_fn, drawK_purv, bindD_val, bindD_need, bindD_br, bindD_call, bindD_ycall, bindD_bad, bindX_val, bindX_need, bindX_br, bindX_call, guardD_bool, guardD_tup, grows, grows0, List.append_cancel_left_eq, List.cons.injEq, exists_eq', exists_eq, condK_bool, guardK_bool, guardK_tup, sor, r0, r1, r2, r3, rC, rB, rI, rP, rA, rT, rS, rF, rSl, rO, rbin, rcut, run1, Env.evals, Env.eval, Env.get, Env.put, Env.ins, Env.del, Env.dels, argEnv, AV.full, AV.cells, AV.cell, eqCells, Nat.reduceEqDiff, Nat.reduceLT, Nat.reduceAdd, Nat.reduceSub, Nat.reduceMul, Nat.reduceBEq, Int.reduceLT, Int.reduceAdd, Int.reduceMul, Int.reduceSub, Int.reduceToNat, Int.reduceLE, Int.reduceEq, ↓reduceIte, decide_true, decide_false, decide_eq_true_eq, decide_eq_false_iff_not, Bool.not_eq_true', Bool.not_eq_false', true_and, and_true, false_implies, true_implies, forall_const, Bool.not_true, Bool.not_false, Bool.false_eq_true, Bool.true_eq_false, List.getElem?_cons_zero, List.getElem?_cons_succ, List.length_cons, List.length_nil, List.length_append, List.all_cons, List.all_nil, Bool.and_true, Bool.and_self, implies_true, reduceCtorEq, List.append_assoc, List.cons_append, List.nil_append, List.append_nil, Int.reduceNeg, i64_in, imin_eq, imax_eq, cast3, cast0, cast1, cast2, Option.map_none, ite_self, and_false, false_and, Option.isSome_some, or_true, true_or, Int.sub_zero, Int.mul_one, Nat.sub_zero, Nat.zero_le, Int.cast_ofNat_Int, Int.natCast_nonneg, Int.toNat_natCast, ne_eq, not_false_eq_true, not_true_eq_false, strC, blkAt_app, blkAt_app0, blkAt_zero, blkAt_succ, List.set_cons_zero, List.set_cons_succ, set_app, set_app0, Option.map_some, Option.bind_some, rd, setCells, lay, rdS, szOk, rapp, ownAt, lenAt, Option.any_some, Option.getD_some, List.drop_zero, List.drop_succ_cons, List.take_succ_cons, List.take_zero, List.drop_nil, List.take_nil, Nat.reduceLeDiff, Nat.lt_irrefl, Nat.zero_add, Nat.add_zero, Nat.mul_one, Nat.one_mul, Nat.add_assoc, Option.some.injEq, eq_self,  h1]
  first | refine callB_intro (g _) ?_ | refine callD_intro (g _) ?_ | refine callP_intro (fun _ => (g _)) ?_ | refine callX_pure (g _) ?_
  simp (maxSteps := 1000000) (disch := omega) only [acs_nil, acs_blk, acs_skip, acs_reg, acs_dreg, acs_freg, acs_nam0, acs_nam, nones, acs_seq, acs_cond, acs_block, acs_exit, acs_ret, acs_kl, acs_loop, leave_nil, leave_code, leave_lp, leave_blk, aopsK_nil, aopsK_cons, aopsK_guard, bindR_val, bindR_need, bindR_br, bindR_call, bindR_ycall, acs_rfun, rfunG_fn, bindR_bad, drawK_nil, drawK_cons, drawK_ext, drawK_pur, drawK_guard, callPv_fn, drawK_purv, bindD_val, bindD_need, bindD_br, bindD_call, bindD_ycall, bindD_bad, bindX_val, bindX_need, bindX_br, bindX_call, guardD_bool, guardD_tup, grows, grows0, List.append_cancel_left_eq, List.cons.injEq, exists_eq', exists_eq, condK_bool, guardK_bool, guardK_tup, sor, r0, r1, r2, r3, rC, rB, rI, rP, rA, rT, rS, rF, rSl, rO, rbin, rcut, run1, Env.evals, Env.eval, Env.get, Env.put, Env.ins, Env.del, Env.dels, argEnv, AV.full, AV.cells, AV.cell, eqCells, Nat.reduceEqDiff, Nat.reduceLT, Nat.reduceAdd, Nat.reduceSub, Nat.reduceMul, Nat.reduceBEq, Int.reduceLT, Int.reduceAdd, Int.reduceMul, Int.reduceSub, Int.reduceToNat, Int.reduceLE, Int.reduceEq, ↓reduceIte, decide_true, decide_false, decide_eq_true_eq, decide_eq_false_iff_not, Bool.not_eq_true', Bool.not_eq_false', true_and, and_true, false_implies, true_implies, forall_const, Bool.not_true, Bool.not_false, Bool.false_eq_true, Bool.true_eq_false, List.getElem?_cons_zero, List.getElem?_cons_succ, List.length_cons, List.length_nil, List.length_append, List.all_cons, List.all_nil, Bool.and_true, Bool.and_self, implies_true, reduceCtorEq, List.append_assoc, List.cons_append, List.nil_append, List.append_nil, Int.reduceNeg, i64_in, imin_eq, imax_eq, cast3, cast0, cast1, cast2, Option.map_none, ite_self, and_false, false_and, Option.isSome_some, or_true, true_or, Int.sub_zero, Int.mul_one, Nat.sub_zero, Nat.zero_le, Int.cast_ofNat_Int, Int.natCast_nonneg, Int.toNat_natCast, ne_eq, not_false_eq_true, not_true_eq_false, strC, blkAt_app, blkAt_app0, blkAt_zero, blkAt_succ, List.set_cons_zero, List.set_cons_succ, set_app, set_app0, Option.map_some, Option.bind_some, rd, setCells, lay, rdS, szOk, rapp, ownAt, lenAt, Option.any_some, Option.getD_some, List.drop_zero, List.drop_succ_cons, List.take_succ_cons, List.take_zero, List.drop_nil, List.take_nil, Nat.reduceLeDiff, Nat.lt_irrefl, Nat.zero_add, Nat.add_zero, Nat.mul_one, Nat.one_mul, Nat.add_assoc, Option.some.injEq, eq_self,  h1, h2, hNd]
  refine ⟨Int.le_refl _, ?_⟩
  first | refine callB_intro (g20 _) ?_ | refine callD_intro (g20 _) ?_ | refine callP_intro (fun _ => (g20 _)) ?_ | refine callX_pure (g20 _) ?_
  have hpl2 := blkAt_lt hp
  have hcs2 : List.take bs.length cs = bs.map (AV.int .i64) := hcs
  have hset : setCells (List.replicate bs.length (AV.int IntKind.i64 0)) 0 (bs.map (AV.int .i64)) = bs.map (AV.int .i64) := by
    unfold setCells
    simp
  simp only [List.append_assoc, List.cons_append, List.nil_append, List.length_append, List.length_cons, List.length_nil, Nat.reduceAdd, Nat.add_assoc, Nat.zero_add, Nat.add_zero, Int.natCast_add, Int.cast_ofNat_Int, ] at go
  unfold e16 c16t c16 tl2 at go
  simp (maxSteps := 1000000) (disch := omega) only [acs_nil, acs_blk, acs_skip, acs_reg, acs_dreg, acs_freg, acs_nam0, acs_nam, nones, acs_seq, acs_cond, acs_block, acs_exit, acs_ret, acs_kl, acs_loop, leave_nil, leave_code, leave_lp, leave_blk, aopsK_nil, aopsK_cons, aopsK_guard, bindR_val, bindR_need, bindR_br, bindR_call, bindR_ycall, acs_rfun, rfunG_fn, bindR_bad, drawK_nil, drawK_cons, drawK_ext, drawK_pur, drawK_guard, callPv_fn, drawK_purv, bindD_val, bindD_need, bindD_br, bindD_call, bindD_ycall, bindD_bad, bindX_val, bindX_need, bindX_br, bindX_call, guardD_bool, guardD_tup, grows, grows0, List.append_cancel_left_eq, List.cons.injEq, exists_eq', exists_eq, condK_bool, guardK_bool, guardK_tup, sor, r0, r1, r2, r3, rC, rB, rI, rP, rA, rT, rS, rF, rSl, rO, rbin, rcut, run1, Env.evals, Env.eval, Env.get, Env.put, Env.ins, Env.del, Env.dels, argEnv, AV.full, AV.cells, AV.cell, eqCells, Nat.reduceEqDiff, Nat.reduceLT, Nat.reduceAdd, Nat.reduceSub, Nat.reduceMul, Nat.reduceBEq, Int.reduceLT, Int.reduceAdd, Int.reduceMul, Int.reduceSub, Int.reduceToNat, Int.reduceLE, Int.reduceEq, ↓reduceIte, decide_true, decide_false, decide_eq_true_eq, decide_eq_false_iff_not, Bool.not_eq_true', Bool.not_eq_false', true_and, and_true, false_implies, true_implies, forall_const, Bool.not_true, Bool.not_false, Bool.false_eq_true, Bool.true_eq_false, List.getElem?_cons_zero, List.getElem?_cons_succ, List.length_cons, List.length_nil, List.length_append, List.all_cons, List.all_nil, Bool.and_true, Bool.and_self, implies_true, reduceCtorEq, List.append_assoc, List.cons_append, List.nil_append, List.append_nil, Int.reduceNeg, i64_in, imin_eq, imax_eq, cast3, cast0, cast1, cast2, Option.map_none, ite_self, and_false, false_and, Option.isSome_some, or_true, true_or, Int.sub_zero, Int.mul_one, Nat.sub_zero, Nat.zero_le, Int.cast_ofNat_Int, Int.natCast_nonneg, Int.toNat_natCast, ne_eq, not_false_eq_true, not_true_eq_false, strC, blkAt_app, blkAt_app0, blkAt_zero, blkAt_succ, List.set_cons_zero, List.set_cons_succ, set_app, set_app0, Option.map_some, Option.bind_some, rd, lay, rdS, szOk, rapp, ownAt, lenAt, Option.any_some, Option.getD_some, List.drop_zero, List.drop_succ_cons, List.take_succ_cons, List.take_zero, List.drop_nil, List.take_nil, Nat.reduceLeDiff, Nat.lt_irrefl, Nat.zero_add, Nat.add_zero, Nat.mul_one, Nat.one_mul, Nat.add_assoc, Option.some.injEq, eq_self,  hNs, hrep, hp, hpl2, blkAt_lo, Nat.min_self, hle, hcs2, allMap, hset, List.length_replicate, Nat.le_refl, List.length_map]
  refine ⟨by omega, ?_⟩
  exact go _ _
end Go.Proofs.Ytlohehkagaabfaa.Ah
