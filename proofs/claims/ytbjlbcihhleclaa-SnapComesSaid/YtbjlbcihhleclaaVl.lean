/- Vl: a part of the proof: contracts of functions, or plain laws. Conditions: none. -/
import Derived.Test.YtbjlbcihhleclaaVk
namespace Go.Proofs.Ytbjlbcihhleclaa.Ah
open Go Go.WideShapes
attribute [local irreducible] acs aopsK drawK leave condK bindR bindD bindX guardK guardD callB callD callX callP callPv rfunG rfunK yldB yldD
attribute [local go_sem] mop mget mfind mput mres keyed AV.isAgg beq_self_eq_true Bool.true_and Option.isSome_some List.set_cons_zero acs_nil acs_blk acs_skip acs_reg acs_dreg acs_freg acs_nam0 acs_nam nones acs_seq acs_cond acs_block acs_exit acs_ret acs_kl acs_loop leave_nil leave_code leave_lp leave_blk aopsK_nil aopsK_cons aopsK_guard bindR_val bindR_need bindR_br bindR_call bindR_ycall acs_rfun rfunG_fn bindR_bad drawK_nil drawK_cons drawK_wat bindW_val bindW_need bindW_br WatL_nil WatL_cons isP_ptr drawK_ext drawK_pur drawK_guard callPv_fn drawK_purv bindD_val bindD_need bindD_br bindD_call bindD_ycall bindD_bad bindX_val bindX_need bindX_br bindX_call guardD_bool guardD_tup grows grows0 List.append_cancel_left_eq List.cons.injEq exists_eq' exists_eq condK_bool guardK_bool guardK_tup sor r0 r1 r2 r3 rC rB rI rP rA rT rS rF rSl rO rbin rcut run1 Env.evals Env.eval Env.get Env.put Env.ins Env.del Env.dels argEnv AV.full AV.cells AV.cell eqCells decide_true decide_false decide_eq_true_eq decide_eq_false_iff_not Bool.not_eq_true' Bool.not_eq_false' true_and and_true false_implies true_implies forall_const Bool.not_true Bool.not_false Bool.false_eq_true Bool.true_eq_false List.getElem?_cons_zero List.getElem?_cons_succ List.length_cons List.length_nil List.length_append List.all_cons List.all_nil Bool.and_true Bool.and_self implies_true List.append_assoc List.cons_append List.nil_append List.append_nil i64_in imin_eq imax_eq cast3 cast0 cast1 cast2 Option.map_none ite_self and_false false_and Option.isSome_some or_true true_or Int.sub_zero Int.mul_one Nat.sub_zero Nat.zero_le Int.cast_ofNat_Int Int.natCast_nonneg Int.toNat_natCast ne_eq not_false_eq_true not_true_eq_false strC blkAt_app blkAt_app0 blkAt_zero blkAt_succ List.set_cons_zero List.set_cons_succ set_app set_app0 Option.map_some Option.bind_some rd setCells lay rdS szOk rapp ownAt lenAt Option.any_some Option.getD_some List.drop_zero List.drop_succ_cons List.take_succ_cons List.take_zero List.drop_nil List.take_nil Nat.lt_irrefl Nat.zero_add Nat.add_zero Nat.mul_one Nat.one_mul Nat.add_assoc Option.some.injEq eq_self
set_option maxHeartbeats 4000000
set_option linter.unusedSimpArgs false
set_option linter.unusedVariables false
/-! Parts, joined. -/
/-- What stands on the way: the words that were joined. -/
def JI (H : Heap) (ws : List Int) (k : Nat) (w : AV) (X : Heap) : Prop := Ext H X ∧ (k = 0 ∧ w = .nils ∨ ∃ q, (0 < k ∧ H.length ≤ q) ∧ w = .sl q 0 (8 * k) 1 none ∧ blkAt X q = some ⟨(ws.take (8 * k)).map (AV.int .i64), true⟩)
def jo (K L : Nat) (p : Nat) (cp : Option Nat) (n : Int) (k : Nat) (w : AV) : Env := [(1, .int .i64 n), (6, w), (20, .sl p L K 8 cp), (21, .int .i64 (K : Int)), (22, .int .i64 (k : Int))]
theorem f43_round {H : Heap} {ws : List Int} {k K p off : Nat} {cs : List AV} {cp : Option Nat} {n : Int} {w : AV} {X : Heap} {Q : Post} {fs : List Fr} {o : Bool} (d : JI H ws k w X) (hp : blkAt H p = some ⟨cs, o⟩) (hcs : (cs.drop off).take (8 * K) = ws.map (AV.int .i64)) (hk : k < K) (hK : ws.length = 8 * K) (hl : K ≤ 1000000)
    (hq : ∀ w' X', JI H ws (k + 1) w' X' → acs Try.prog (.lp c43l1 :: fs) (jo K off p cp n (k + 1) w') X' Q) :
    acs Try.prog (.lp c43l1 :: fs) (jo K off p cp n k w) X Q := by
  obtain ⟨he, h2⟩ := d
  have hp' := he.blk hp
  have lp := blkAt_lt hp'
  have hlt : (k : Int) < (K : Int) := by omega
  obtain ⟨y0, y1, y2, y3, y4, y5, y6, y7, hy⟩ : ∃ y0 y1 y2 y3 y4 y5 y6 y7, (ws.drop (8 * k)).take 8 = [y0, y1, y2, y3, y4, y5, y6, y7] := by
    have hle : ((ws.drop (8 * k)).take 8).length = 8 := by simp; omega
    generalize (ws.drop (8 * k)).take 8 = z at hle ⊢
    match z, hle with
    | [a, b, c, d, e, f, g, h], _ => exact ⟨_, _, _, _, _, _, _, _, rfl⟩
  have hsp : ws.take (8 * (k + 1)) = ws.take (8 * k) ++ [y0, y1, y2, y3, y4, y5, y6, y7] := by rw [← hy, show 8 * (k + 1) = 8 * k + 8 by omega, List.take_add]
  have hrd : List.take 8 (List.drop (off + k * 8) cs) = [AV.int .i64 y0, AV.int .i64 y1, AV.int .i64 y2, AV.int .i64 y3, AV.int .i64 y4, AV.int .i64 y5, AV.int .i64 y6, AV.int .i64 y7] := by
    have h1 : List.take 8 (List.drop (8 * k) (ws.map (AV.int .i64))) = [AV.int .i64 y0, AV.int .i64 y1, AV.int .i64 y2, AV.int .i64 y3, AV.int .i64 y4, AV.int .i64 y5, AV.int .i64 y6, AV.int .i64 y7] := by rw [← List.map_drop, ← List.map_take, hy]; rfl
    rw [← hcs, List.drop_take, List.take_take, List.drop_drop, show min 8 (8 * K - 8 * k) = 8 by omega] at h1
    rw [show off + k * 8 = off + 8 * k by omega]
    exact h1
  have hle : off + (k * 8 + 8) ≤ cs.length := by
    have h1 := congrArg List.length hcs
    rw [List.length_take, List.length_drop, List.length_map, hK] at h1
    omega
  have hbig : (8 * k + 8) * 8 ≤ 140737488355328 := by omega
  have h8 : 8 * (k + 1) = 8 * k + 8 := by omega
  have hsp2 : (ws.take (8 * (k + 1))).map (AV.int .i64) = (ws.take (8 * k)).map (AV.int .i64) ++ [AV.int .i64 y0, AV.int .i64 y1, AV.int .i64 y2, AV.int .i64 y3, AV.int .i64 y4, AV.int .i64 y5, AV.int .i64 y6, AV.int .i64 y7] := by rw [hsp, List.map_append]; rfl
  unfold jo at *
  clear hcs
  rw [acs_lp]; conv in Fr.code c43l1 => unfold c43l1
  rcases h2 with ⟨rfl, rfl⟩ | ⟨q, h3, rfl, h5⟩
  · have hlt0 : (0 : Int) < (K : Int) := by omega
    simp only [Nat.mul_zero, Nat.zero_mul, Nat.zero_add, Nat.add_zero, Nat.mul_one, List.take_zero, List.map_nil, List.nil_append] at hrd hle hsp2
    simp (maxSteps := 1000000) (disch := omega) only [go_sem, Nat.reduceEqDiff, Nat.reduceLT, Nat.reduceAdd, Nat.reduceSub, Nat.reduceMul, Nat.reduceBEq, Int.reduceLT, Int.reduceAdd, Int.reduceMul, Int.reduceSub, Int.reduceToNat, Int.reduceLE, Int.reduceEq, ↓reduceIte, reduceCtorEq, Int.reduceNeg, Nat.reduceLeDiff,  hp', lp, blkAt_lo, set_lo, hlt0, hrd, hle]
    refine hq _ _ ⟨he.to _, .inr ⟨X.length + 1, ⟨by omega, by have := he.len; omega⟩, rfl, ?_⟩⟩
    rw [blkAt_app, hsp2]
    rfl
  · have lq := blkAt_lt h5
    have hlP : ((ws.take (8 * k)).map (AV.int .i64)).length = 8 * k := by simp; omega
    have hP0 : List.take (8 * k) ((ws.take (8 * k)).map (AV.int .i64)) = (ws.take (8 * k)).map (AV.int .i64) := by rw [List.take_of_length_le (by rw [hlP]; exact Nat.le_refl _)]
    generalize (ws.take (8 * k)).map (AV.int .i64) = P at *
    simp (maxSteps := 1000000) (disch := omega) only [go_sem, Nat.reduceEqDiff, Nat.reduceLT, Nat.reduceAdd, Nat.reduceSub, Nat.reduceMul, Nat.reduceBEq, Int.reduceLT, Int.reduceAdd, Int.reduceMul, Int.reduceSub, Int.reduceToNat, Int.reduceLE, Int.reduceEq, ↓reduceIte, reduceCtorEq, Int.reduceNeg, Nat.reduceLeDiff,  hp', lp, h5, lq, blkAt_lo, set_lo, hlt, hrd, hle, hbig, hlP, hP0, Nat.le_refl]
    have hq2 := hq (.sl (X.length + 1) 0 (8 * k + 8) 1 none) (X.set q none ++ [some ⟨[AV.int .i64 y0, AV.int .i64 y1, AV.int .i64 y2, AV.int .i64 y3, AV.int .i64 y4, AV.int .i64 y5, AV.int .i64 y6, AV.int .i64 y7], true⟩, some ⟨P ++ [AV.int .i64 y0, AV.int .i64 y1, AV.int .i64 y2, AV.int .i64 y3, AV.int .i64 y4, AV.int .i64 y5, AV.int .i64 y6, AV.int .i64 y7], true⟩]) ⟨(he.set (by omega) _).to _, .inr ⟨X.length + 1, ⟨by omega, by have := he.len; omega⟩, by rw [h8], ?_⟩⟩
    · exact hq2
    · rw [show X.length + 1 = (X.set q none).length + 1 by rw [List.length_set], blkAt_app, hsp2]
      rfl
theorem f43_join {H : Heap} {ws : List Int} {K p off : Nat} {cs : List AV} {cp : Option Nat} {n : Int} {Q : Post} {fs : List Fr} {o : Bool} (hp : blkAt H p = some ⟨cs, o⟩) (hcs : (cs.drop off).take (8 * K) = ws.map (AV.int .i64)) (hK : ws.length = 8 * K) (hl : K ≤ 1000000)
    (hq : ∀ w' X', JI H ws K w' X' → leave Try.prog 0 fs [(1, .int .i64 n), (6, w')] X' Q) :
    ∀ (r k : Nat) (w : AV) (X : Heap), k + r = K → JI H ws k w X → acs Try.prog (.lp c43l1 :: fs) (jo K off p cp n k w) X Q := by
  intro r
  induction r with
  | zero =>
    intro k w X hr d
    have hge : ¬ (k : Int) < (K : Int) := by omega
    obtain rfl : k = K := by omega
    unfold jo
    rw [acs_lp]; conv in Fr.code c43l1 => unfold c43l1
    simp (maxSteps := 1000000) (disch := omega) only [go_sem, Nat.reduceEqDiff, Nat.reduceLT, Nat.reduceAdd, Nat.reduceSub, Nat.reduceMul, Nat.reduceBEq, Int.reduceLT, Int.reduceAdd, Int.reduceMul, Int.reduceSub, Int.reduceToNat, Int.reduceLE, Int.reduceEq, ↓reduceIte, reduceCtorEq, Int.reduceNeg, Nat.reduceLeDiff,  hge]
    exact hq _ _ d
  | succ r ih =>
    intro k w X hr d
    exact f43_round d hp hcs (by omega) hK hl fun w' X' d' => ih (k + 1) w' X' (by omega) d'
/-- Whether what stands behind a row is nought. -/
theorem f43_rest {X : Heap} {zs : List Int} {q N m : Nat} {cq : Option Nat} {Q : Post} {fs : List Fr} {w : AV} {n : Int} (hs : Sl i64 X q N zs) (hz : ∀ z ∈ zs, z = 0) (hm : zs.length = m) (hl : m ≤ 1000000)
    (hq : leave Try.prog 2 fs [(1, .int .i64 n), (6, w)] X Q) :
    ∀ (r k : Nat), k + r = m → acs Try.prog (.lp c43l0 :: fs) [(1, .int .i64 n), (6, w), (32, .sl q N m 1 cq), (33, .int .i64 (m : Int)), (34, .int .i64 (k : Int))] X Q := by
  intro r
  obtain ⟨cs, o, hp, hle, hcs⟩ := hs
  induction r with
  | zero =>
    intro k hr
    have hge : ¬ (k : Int) < (m : Int) := by omega
    rw [acs_lp]; conv in Fr.code c43l0 => unfold c43l0
    simp (maxSteps := 1000000) (disch := omega) only [go_sem, Nat.reduceEqDiff, Nat.reduceLT, Nat.reduceAdd, Nat.reduceSub, Nat.reduceMul, Nat.reduceBEq, Int.reduceLT, Int.reduceAdd, Int.reduceMul, Int.reduceSub, Int.reduceToNat, Int.reduceLE, Int.reduceEq, ↓reduceIte, reduceCtorEq, Int.reduceNeg, Nat.reduceLeDiff,  hge]
    exact hq
  | succ r ih =>
    intro k hr
    have hlt : (k : Int) < (m : Int) := by omega
    have hkz : zs[k]? = some 0 := by
      have : zs[k]? = some zs[k] := List.getElem?_eq_getElem (by omega)
      rw [this, hz _ (List.getElem_mem _)]
    have hc : cs[N + k]? = some (.int .i64 0) := by
      have h := congrArg (·[k]?) hcs
      simp only [List.getElem?_take, List.getElem?_drop, List.getElem?_map, hkz] at h
      rw [if_pos (by omega)] at h
      simpa [i64] using h
    rw [acs_lp]; conv in Fr.code c43l0 => unfold c43l0
    simp (maxSteps := 1000000) (disch := omega) only [go_sem, Nat.reduceEqDiff, Nat.reduceLT, Nat.reduceAdd, Nat.reduceSub, Nat.reduceMul, Nat.reduceBEq, Int.reduceLT, Int.reduceAdd, Int.reduceMul, Int.reduceSub, Int.reduceToNat, Int.reduceLE, Int.reduceEq, ↓reduceIte, reduceCtorEq, Int.reduceNeg, Nat.reduceLeDiff,  hlt, hp, hc]
    exact ih (k + 1) (by omega)
theorem f43 {H : Heap} {ws : List Int} {K p N off : Nat} {cs : List AV} {cp : Option Nat} {o : Bool} (hp : blkAt H p = some ⟨cs, o⟩) (hcs : (cs.drop off).take (8 * K) = ws.map (AV.int .i64)) (hK : ws.length = 8 * K) (hl : K ≤ 1000000) (hN : (N + 7) / 8 = K) (h0 : 0 < N) (hz : ∀ z ∈ ws.drop N, z = 0) :
    ACallE Try.prog 43 [.sl p off K 8 cp, .int .i64 (N : Int)] H fun v H' => ∃ w, v = .tup [w, .int .i64 0] ∧ Rw i64 H' w (ws.take N) := by
  refine acallE (fun v Hf h => acallK43 (by simp) h) (acs_start ?_)
  have g := fun G => f63 (N : Int) G (by omega)
  have e : ((N : Int) + 7) / 8 = (K : Int) := by omega
  rw [e] at g
  have hn : ¬ (N : Int) < 0 := by omega
  unfold c43
  simp (maxSteps := 1000000) (disch := omega) only [go_sem, Nat.reduceEqDiff, Nat.reduceLT, Nat.reduceAdd, Nat.reduceSub, Nat.reduceMul, Nat.reduceBEq, Int.reduceLT, Int.reduceAdd, Int.reduceMul, Int.reduceSub, Int.reduceToNat, Int.reduceLE, Int.reduceEq, ↓reduceIte, reduceCtorEq, Int.reduceNeg, Nat.reduceLeDiff,  hn]
  first | refine callB_intro (g _) ?_ | refine callD_intro (g _) ?_ | refine callP_intro (fun _ => (g _)) ?_ | refine callX_pure (g _) ?_
  simp (maxSteps := 1000000) (disch := omega) only [go_sem, Nat.reduceEqDiff, Nat.reduceLT, Nat.reduceAdd, Nat.reduceSub, Nat.reduceMul, Nat.reduceBEq, Int.reduceLT, Int.reduceAdd, Int.reduceMul, Int.reduceSub, Int.reduceToNat, Int.reduceLE, Int.reduceEq, ↓reduceIte, reduceCtorEq, Int.reduceNeg, Nat.reduceLeDiff]
  have j := f43_join (n := (N : Int)) (cp := cp) (fs := ?_) (Q := ?_) hp hcs hK hl ?_ K 0 .nils H (by omega) ⟨Ext.refl _, .inl ⟨rfl, rfl⟩⟩
  · exact j
  intro w X d
  obtain ⟨he, h2⟩ := d
  rcases h2 with ⟨h3, _⟩ | ⟨q, h3, rfl, h5⟩
  · omega
  have h8 : (N : Int) ≤ ((8 * K : Nat) : Int) := by omega
  have h9 : N ≤ 8 * K := by omega
  rw [List.take_of_length_le (by omega)] at h5
  have s1 : Sl i64 X q 0 ws := Sl.whole (o := true) h5
  have s2 := s1.drop (n := N) (by omega)
  rw [Nat.zero_add] at s2
  simp (maxSteps := 1000000) (disch := omega) only [go_sem, Nat.reduceEqDiff, Nat.reduceLT, Nat.reduceAdd, Nat.reduceSub, Nat.reduceMul, Nat.reduceBEq, Int.reduceLT, Int.reduceAdd, Int.reduceMul, Int.reduceSub, Int.reduceToNat, Int.reduceLE, Int.reduceEq, ↓reduceIte, reduceCtorEq, Int.reduceNeg, Nat.reduceLeDiff,  h8, h9]
  refine f43_rest s2 hz (by simp; omega) (by omega) ?_ (8 * K - N) 0 (by omega)
  simp (maxSteps := 1000000) (disch := omega) only [go_sem, Nat.reduceEqDiff, Nat.reduceLT, Nat.reduceAdd, Nat.reduceSub, Nat.reduceMul, Nat.reduceBEq, Int.reduceLT, Int.reduceAdd, Int.reduceMul, Int.reduceSub, Int.reduceToNat, Int.reduceLE, Int.reduceEq, ↓reduceIte, reduceCtorEq, Int.reduceNeg, Nat.reduceLeDiff,  h8, h9]
  have hr := Rw.mk (f := i64) (off := 0) none (s1.take N)
  rw [List.length_take, show min N ws.length = N by omega] at hr
  refine fin_e (by simp) (by simp (maxSteps := 1000000) (disch := omega) only [resVal, resAll, resOne, rs43, Env.get, go_sem, Nat.reduceEqDiff, Nat.reduceLT, Nat.reduceAdd, Nat.reduceSub, Nat.reduceMul, Nat.reduceBEq, Int.reduceLT, Int.reduceAdd, Int.reduceMul, Int.reduceSub, Int.reduceToNat, Int.reduceLE, Int.reduceEq, ↓reduceIte, reduceCtorEq, Int.reduceNeg, Nat.reduceLeDiff, ] <;> rfl) he ⟨_, rfl, hr⟩
end Go.Proofs.Ytbjlbcihhleclaa.Ah
