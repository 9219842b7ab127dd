/- V10m: a part of the proof: contracts of functions, or plain laws. Conditions: none. -/
import Derived.Test.YtjibcbfdfambeaaV10k
namespace Go.Proofs.Ytjibcbfdfambeaa.Ah
open Go Go.WideShapes
attribute [local irreducible] acs aopsK drawK leave condK bindR bindD bindX guardK guardD callB callD callX callP callPv
attribute [local go_sem] acs_nil acs_blk acs_skip acs_reg acs_dreg acs_freg acs_nam0 acs_nam nones acs_seq acs_cond acs_block acs_exit acs_ret acs_kl acs_loop leave_nil leave_code leave_lp leave_blk aopsK_nil aopsK_cons aopsK_guard bindR_val bindR_need bindR_br bindR_call bindR_bad drawK_nil drawK_cons drawK_ext drawK_pur drawK_guard callPv_fn drawK_purv bindD_val bindD_need bindD_br bindD_call bindD_bad bindX_val bindX_need bindX_br bindX_call guardD_bool guardD_tup grows grows0 List.append_cancel_left_eq List.cons.injEq exists_eq' exists_eq condK_bool guardK_bool guardK_tup sor r0 r1 r2 r3 rC rB rI rP rA rT rS rF rSl rO rbin rcut run1 Env.evals Env.eval Env.get Env.put Env.ins Env.del Env.dels argEnv AV.full AV.cells AV.cell eqCells decide_true decide_false decide_eq_true_eq decide_eq_false_iff_not Bool.not_eq_true' Bool.not_eq_false' true_and and_true false_implies true_implies forall_const Bool.not_true Bool.not_false Bool.false_eq_true Bool.true_eq_false List.getElem?_cons_zero List.getElem?_cons_succ List.length_cons List.length_nil List.length_append List.all_cons List.all_nil Bool.and_true Bool.and_self implies_true List.append_assoc List.cons_append List.nil_append List.append_nil i64_in imin_eq imax_eq cast3 cast0 cast1 cast2 Option.map_none ite_self and_false false_and Option.isSome_some or_true true_or Int.sub_zero Int.mul_one Nat.sub_zero Nat.zero_le Int.cast_ofNat_Int Int.natCast_nonneg Int.toNat_natCast ne_eq not_false_eq_true not_true_eq_false strC blkAt_app blkAt_app0 blkAt_zero blkAt_succ List.set_cons_zero List.set_cons_succ set_app set_app0 Option.map_some Option.bind_some rd setCells lay rdS szOk rapp ownAt lenAt Option.any_some Option.getD_some List.drop_zero List.drop_succ_cons List.take_succ_cons List.take_zero List.drop_nil List.take_nil Nat.lt_irrefl Nat.zero_add Nat.add_zero Nat.mul_one Nat.one_mul Nat.add_assoc Option.some.injEq eq_self
set_option maxHeartbeats 4000000
set_option linter.unusedSimpArgs false
set_option linter.unusedVariables false
/-! Contracts: the document's commit word. -/
def dd8 (i : Nat) : Nat := 72057594037927936 / 256 ^ i
theorem dd8_succ (i : Nat) : dd8 i / 256 = dd8 (i + 1) := by
  unfold dd8
  rw [Nat.div_div_eq_div_mul, Nat.pow_succ]
theorem dd8_eq {i : Nat} (h : i < 8) : dd8 i = 2 ^ (56 - 8 * i) := by
  have : i = 0 ∨ i = 1 ∨ i = 2 ∨ i = 3 ∨ i = 4 ∨ i = 5 ∨ i = 6 ∨ i = 7 := by omega
  rcases this with rfl | rfl | rfl | rfl | rfl | rfl | rfl | rfl <;> decide
theorem dd8_le (i : Nat) : dd8 i ≤ 72057594037927936 := Nat.div_le_self _ _
/-- One byte. -/
theorem f18_in {H : Heap} {K : List Fr} {Q : Post} {n : Int} {p off L j : Nat} {cp : Option Nat} {cs : List AV} {o : Bool} (hp : blkAt H p = some ⟨cs, o⟩) (hx : cs[off + j]? = some (.int .i64 n)) (hj : (j : Int) < (L : Int)) : ∀ (k i : Nat) (bs : List Nat) (G : Heap), i + k = 8 → bs.length + k ≤ 100000 →
    (∀ G' : Heap, acs Try.prog K [(0, .sl p off L 1 cp), (3, .sl (H.length + G'.length) 0 (bs.length + k) 1 none), (4, .int .i64 (j : Nat))] (H ++ (G' ++ [some ⟨(bs ++ (bw (u64 n) 8).drop i).map u8, true⟩])) Q) →
    acs Try.prog (.lp c18l0 :: .blk 2 :: K) [(0, .sl p off L 1 cp), (3, .sl (H.length + G.length) 0 bs.length 1 none), (4, .int .i64 (j : Nat)), (5, .int .u64 (dd8 i : Nat)), (6, .int .i64 (i : Nat))] (H ++ (G ++ [some ⟨bs.map u8, true⟩])) Q := by
  have hpl := blkAt_lt hp
  intro k
  induction k with
  | zero =>
    intro i bs G hi hb fin
    obtain rfl : i = 8 := hi
    have go := fin G
    rw [List.drop_of_length_le (by rw [bw_len]; exact Nat.le_refl _), List.append_nil] at go
    rw [acs_lp]; conv in Fr.code c18l0 => unfold c18l0
    simp (maxSteps := 1000000) (disch := omega) only [go_sem, Nat.reduceEqDiff, Nat.reduceLT, Nat.reduceAdd, Nat.reduceSub, Nat.reduceMul, Nat.reduceBEq, Int.reduceLT, Int.reduceAdd, Int.reduceMul, Int.reduceSub, Int.reduceToNat, Int.reduceLE, Int.reduceEq, ↓reduceIte, reduceCtorEq, Int.reduceNeg, Nat.reduceLeDiff]
    exact go
  | succ k ih =>
    intro i bs G hi hb fin
    have hlt : (i : Int) < 8 := by omega
    have e0 := u64_cast n
    have hul := u64_lt n
    have hd := dd8_eq (i := i) (by omega)
    have hdp : 0 < dd8 i := by rw [hd]; exact Nat.two_pow_pos _
    have hdn : ¬ ((dd8 i : Nat) : Int) = 0 := by omega
    have e1 : ((u64 n : Nat) : Int).tdiv ((dd8 i : Nat) : Int) = ((u64 n / dd8 i : Nat) : Int) := by rw [Int.tdiv_eq_ediv_of_nonneg (by omega)]; simp
    have e2 : ((u64 n / dd8 i : Nat) : Int).tmod 256 = ((u64 n / dd8 i % 256 : Nat) : Int) := by generalize u64 n / dd8 i = y; rw [Int.tmod_eq_emod_of_nonneg (Int.natCast_nonneg _)]; omega
    have e3 : u64 n / dd8 i % 256 = b8 (u64 n) i := by unfold b8; rw [hd]
    have e4 := wrap8 (b8 (u64 n) i)
    have e5 : b8 (u64 n) i % 256 = b8 (u64 n) i := by unfold b8; omega
    rw [e5] at e4
    rw [e3] at e2
    have e6 : ((dd8 i : Nat) : Int).tdiv 256 = ((dd8 (i + 1) : Nat) : Int) := by rw [Int.tdiv_eq_ediv_of_nonneg (by omega), ← dd8_succ]; omega
    have hd8 := dd8_le (i + 1)
    have hq : u64 n / dd8 i ≤ u64 n := Nat.div_le_self _ _
    have hq2 : ((u64 n / dd8 i : Nat) : Int) ≤ 18446744073709551615 := Int.ofNat_le.2 (Nat.le_trans hq (show u64 n ≤ 18446744073709551615 by omega))
    have hq3 : ((dd8 (i + 1) : Nat) : Int) ≤ 18446744073709551615 := by omega
    have htk : List.take bs.length (List.map u8 bs) = List.map u8 bs := takeMapF bs
    have hbig : (bs.length + 1) * 1 ≤ 140737488355328 := by omega
    have hget : (bw (u64 n) 8)[i]? = some (b8 (u64 n) i) := by
      unfold bw
      rw [List.getElem?_map, List.getElem?_range (by omega)]
      rfl
    have hdrop : (bw (u64 n) 8).drop i = b8 (u64 n) i :: (bw (u64 n) 8).drop (i + 1) := by
      have hi8 : i < (bw (u64 n) 8).length := by rw [bw_len]; omega
      rw [List.drop_eq_getElem_cons hi8]
      congr 1
      rw [List.getElem?_eq_getElem hi8] at hget
      exact Option.some.inj hget
    rw [hdrop] at fin
    have hib : (i : Int) ≤ 8 := by omega
    have next := fun G' => ih (i + 1) (bs ++ [b8 (u64 n) i]) G' (by omega) (by rw [List.length_append]; show bs.length + 1 + k ≤ _; omega) (fun G'' => by
      have := fin G''
      rw [List.length_append, List.append_assoc, show [b8 (u64 n) i].length = 1 by rfl, show bs.length + 1 + k = bs.length + (k + 1) by omega]
      exact this)
    have m1 : (bs ++ [b8 (u64 n) i]).map u8 = bs.map u8 ++ [.int .u8 (b8 (u64 n) i : Nat)] := by simp [u8]
    rw [m1] at next
    clear ih fin hget hdrop e3 m1 hd hul hq hd8 e5
    generalize u64 n / dd8 i = qq at *
    generalize b8 (u64 n) i = b at *
    generalize dd8 (i + 1) = d2 at *
    generalize dd8 i = d1 at *
    have nx := next (G ++ [none, some ⟨[.int .u8 (b : Nat)], true⟩])
    simp only [List.append_assoc, List.cons_append, List.nil_append, List.length_append, List.length_cons, List.length_nil, Nat.reduceAdd, Nat.add_assoc, Nat.zero_add, Nat.add_zero, Int.natCast_add, Int.cast_ofNat_Int, ] at nx
    clear next
    rw [acs_lp]; conv in Fr.code c18l0 => unfold c18l0
    simp (maxSteps := 1000000) (disch := omega) only [go_sem, Nat.reduceEqDiff, Nat.reduceLT, Nat.reduceAdd, Nat.reduceSub, Nat.reduceMul, Nat.reduceBEq, Int.reduceLT, Int.reduceAdd, Int.reduceMul, Int.reduceSub, Int.reduceToNat, Int.reduceLE, Int.reduceEq, ↓reduceIte, reduceCtorEq, Int.reduceNeg, Nat.reduceLeDiff,  blkAt_lo, hpl, hp, hx, hj, hlt, e0, e1, e2, e4, e6, hdn, u64_in, htk, hbig, List.length_map, Nat.le_refl]
    refine ⟨by omega, ?_⟩
    exact nx
def c18t : SC := tl2 (tl2 (tl2 c18))
theorem f28_nil (H : Heap) : ACall Try.prog 28 [.nils] H (.int .u32 (sof [] : Nat)) (H ++ [some ⟨[], false⟩]) := by
  have g := f28 (cp := none) (Sl.whole (f := u8) (zs := []) (o := false) (H := H ++ [some ⟨[], false⟩]) (p := H.length) (by simp only [go_sem, Nat.reduceEqDiff, Nat.reduceLT, Nat.reduceAdd, Nat.reduceSub, Nat.reduceMul, Nat.reduceBEq, Int.reduceLT, Int.reduceAdd, Int.reduceMul, Int.reduceSub, Int.reduceToNat, Int.reduceLE, Int.reduceEq, ↓reduceIte, reduceCtorEq, Int.reduceNeg, Nat.reduceLeDiff, List.map_nil])) (fun x hx => by cases hx) (by decide)
  exact call_nil (pre := []) (post := []) g
theorem f18_end {H G : Heap} {bs : List Nat} (hb : By bs) (hl : bs.length ≤ 100000) :
    acs Try.prog [.code c18t] [(3, .sl (H.length + G.length) 0 bs.length 1 none)] (H ++ (G ++ [some ⟨bs.map u8, true⟩])) (Fin H rs18 (.int .i64 (((sof bs : Nat) : Int) + 4294967296)) H) := by
  have g := fun G q c (h : blkAt (H ++ G) q = some ⟨bs.map u8, true⟩) => f28 (cp := c) (Sl.whole h) hb (by omega)
  have hs := sof_lt (b := bs)
  generalize sof bs = s at *
  unfold c18t c18 tl2
  simp (maxSteps := 1000000) (disch := omega) only [go_sem, Nat.reduceEqDiff, Nat.reduceLT, Nat.reduceAdd, Nat.reduceSub, Nat.reduceMul, Nat.reduceBEq, Int.reduceLT, Int.reduceAdd, Int.reduceMul, Int.reduceSub, Int.reduceToNat, Int.reduceLE, Int.reduceEq, ↓reduceIte, reduceCtorEq, Int.reduceNeg, Nat.reduceLeDiff]
  refine callB_intro (g _ _ _ (by simp only [go_sem, Nat.reduceEqDiff, Nat.reduceLT, Nat.reduceAdd, Nat.reduceSub, Nat.reduceMul, Nat.reduceBEq, Int.reduceLT, Int.reduceAdd, Int.reduceMul, Int.reduceSub, Int.reduceToNat, Int.reduceLE, Int.reduceEq, ↓reduceIte, reduceCtorEq, Int.reduceNeg, Nat.reduceLeDiff])) ?_
  simp (maxSteps := 1000000) (disch := omega) only [go_sem, Nat.reduceEqDiff, Nat.reduceLT, Nat.reduceAdd, Nat.reduceSub, Nat.reduceMul, Nat.reduceBEq, Int.reduceLT, Int.reduceAdd, Int.reduceMul, Int.reduceSub, Int.reduceToNat, Int.reduceLE, Int.reduceEq, ↓reduceIte, reduceCtorEq, Int.reduceNeg, Nat.reduceLeDiff]
  exact fin_same (by simp) _ (by first | exact (List.append_nil _).symm | rfl) (by simp (maxSteps := 1000000) (disch := omega) only [resVal, resAll, resOne, rs18, Env.get, go_sem, Nat.reduceEqDiff, Nat.reduceLT, Nat.reduceAdd, Nat.reduceSub, Nat.reduceMul, Nat.reduceBEq, Int.reduceLT, Int.reduceAdd, Int.reduceMul, Int.reduceSub, Int.reduceToNat, Int.reduceLE, Int.reduceEq, ↓reduceIte, reduceCtorEq, Int.reduceNeg, Nat.reduceLeDiff]) (by simp only [AV.und, AV.unds, and_self])
theorem f18_loop {ws : List Int} {p : Nat} {cp : Option Nat} {H : Heap} {off : Nat} (hs : Sl i64 H p off ws) (hl : ws.length ≤ 5000) : ∀ (r : List Int) (j : Nat) (bs : List Nat) (G : Heap), ws.drop j = r → j + r.length = ws.length → bs.length = 8 * j → By bs →
    acs Try.prog [.lp c18l1, .blk 0, .code c18t] [(0, .sl p off ws.length 1 cp), (3, .sl (H.length + G.length) 0 bs.length 1 none), (4, .int .i64 (j : Nat))] (H ++ (G ++ [some ⟨bs.map u8, true⟩])) (Fin H rs18 (.int .i64 (((sof (bs ++ bytes r) : Nat) : Int) + 4294967296)) H) := by
  have hpl := hs.lt
  obtain ⟨cs, o, hp, hle, hcs⟩ := hs
  intro r
  induction r with
  | nil =>
    intro j bs G _ hj hb hB
    have hlt : ¬ (j : Int) < (ws.length : Int) := by simp at hj; omega
    have hlj : j ≤ ws.length := by simp at hj; omega
    have go := @f18_end H G bs hB (by omega)
    rw [bytes, List.append_nil]
    rw [acs_lp]; conv in Fr.code c18l1 => unfold c18l1
    simp (maxSteps := 1000000) (disch := omega) only [go_sem, Nat.reduceEqDiff, Nat.reduceLT, Nat.reduceAdd, Nat.reduceSub, Nat.reduceMul, Nat.reduceBEq, Int.reduceLT, Int.reduceAdd, Int.reduceMul, Int.reduceSub, Int.reduceToNat, Int.reduceLE, Int.reduceEq, ↓reduceIte, reduceCtorEq, Int.reduceNeg, Nat.reduceLeDiff,  hlt]
    exact go
  | cons x r ih =>
    intro j bs G hd hj hb hB
    have hlt : (j : Int) < (ws.length : Int) := by simp at hj; omega
    have hlj : j + 1 ≤ ws.length := by simp at hj; omega
    have hx0 : ws[j]? = some x := by have := congrArg (·[0]?) hd; simpa using this
    have fx : cs[off + j]? = some (.int .i64 x) := sl_get hcs hx0
    have hd2 : ws.drop (j + 1) = r := by rw [← List.drop_drop, hd]; rfl
    have next := fun G' => ih (j + 1) (bs ++ bw (u64 x) 8) G' hd2 (by simp at hj; omega) (by rw [List.length_append, bw_len]; omega) (By_append' hB (bw_By _ _))
    rw [bytes, ← List.append_assoc bs]
    generalize sof (bs ++ bw (u64 x) 8 ++ bytes r) = S at *
    have hjb : (j : Int) ≤ 5000 := by omega
    clear ih hd hd2 hx0 hj
    rw [acs_lp]; conv in Fr.code c18l1 => unfold c18l1
    simp (maxSteps := 1000000) (disch := omega) only [go_sem, Nat.reduceEqDiff, Nat.reduceLT, Nat.reduceAdd, Nat.reduceSub, Nat.reduceMul, Nat.reduceBEq, Int.reduceLT, Int.reduceAdd, Int.reduceMul, Int.reduceSub, Int.reduceToNat, Int.reduceLE, Int.reduceEq, ↓reduceIte, reduceCtorEq, Int.reduceNeg, Nat.reduceLeDiff,  hlt]
    refine f18_in hp fx hlt 8 0 bs G rfl (by omega) fun G' => ?_
    have nx := next G'
    rw [List.length_append, bw_len] at nx
    rw [List.drop_zero]
    generalize bs ++ bw (u64 x) 8 = bs' at *
    simp only [List.append_assoc, List.cons_append, List.nil_append, List.length_append, List.length_cons, List.length_nil, Nat.reduceAdd, Nat.add_assoc, Nat.zero_add, Nat.add_zero, Int.natCast_add, Int.cast_ofNat_Int, ] at nx
    simp (maxSteps := 1000000) (disch := omega) only [go_sem, Nat.reduceEqDiff, Nat.reduceLT, Nat.reduceAdd, Nat.reduceSub, Nat.reduceMul, Nat.reduceBEq, Int.reduceLT, Int.reduceAdd, Int.reduceMul, Int.reduceSub, Int.reduceToNat, Int.reduceLE, Int.reduceEq, ↓reduceIte, reduceCtorEq, Int.reduceNeg, Nat.reduceLeDiff]
    exact nx
theorem f18 {ws : List Int} {p off : Nat} {cp : Option Nat} {H : Heap} (hs : Sl i64 H p off ws) (hl : ws.length ≤ 5000) : ACall Try.prog 18 [.sl p off ws.length 1 cp] H (.int .i64 (com ws)) H := by
  refine acall18 (by simp) (acs_start ?_)
  unfold com
  cases ws with
  | nil =>
    have g := f28_nil
    have e : sof [] = 0 := by decide +kernel
    have e2 : sof (bytes []) = 0 := e
    rw [e2]
    rw [e] at g
    unfold c18
    simp (maxSteps := 1000000) (disch := omega) only [go_sem, Nat.reduceEqDiff, Nat.reduceLT, Nat.reduceAdd, Nat.reduceSub, Nat.reduceMul, Nat.reduceBEq, Int.reduceLT, Int.reduceAdd, Int.reduceMul, Int.reduceSub, Int.reduceToNat, Int.reduceLE, Int.reduceEq, ↓reduceIte, reduceCtorEq, Int.reduceNeg, Nat.reduceLeDiff]
    rw [acs_lp]; conv in Fr.code c18l1 => unfold c18l1
    simp (maxSteps := 1000000) (disch := omega) only [go_sem, Nat.reduceEqDiff, Nat.reduceLT, Nat.reduceAdd, Nat.reduceSub, Nat.reduceMul, Nat.reduceBEq, Int.reduceLT, Int.reduceAdd, Int.reduceMul, Int.reduceSub, Int.reduceToNat, Int.reduceLE, Int.reduceEq, ↓reduceIte, reduceCtorEq, Int.reduceNeg, Nat.reduceLeDiff]
    first | refine callB_intro (g _) ?_ | refine callD_intro (g _) ?_ | refine callP_intro (fun _ => (g _)) ?_ | refine callX_pure (g _) ?_
    simp (maxSteps := 1000000) (disch := omega) only [go_sem, Nat.reduceEqDiff, Nat.reduceLT, Nat.reduceAdd, Nat.reduceSub, Nat.reduceMul, Nat.reduceBEq, Int.reduceLT, Int.reduceAdd, Int.reduceMul, Int.reduceSub, Int.reduceToNat, Int.reduceLE, Int.reduceEq, ↓reduceIte, reduceCtorEq, Int.reduceNeg, Nat.reduceLeDiff]
    exact fin_same (by simp) _ (by first | exact (List.append_nil _).symm | rfl) (by simp (maxSteps := 1000000) (disch := omega) only [resVal, resAll, resOne, rs18, Env.get, go_sem, Nat.reduceEqDiff, Nat.reduceLT, Nat.reduceAdd, Nat.reduceSub, Nat.reduceMul, Nat.reduceBEq, Int.reduceLT, Int.reduceAdd, Int.reduceMul, Int.reduceSub, Int.reduceToNat, Int.reduceLE, Int.reduceEq, ↓reduceIte, reduceCtorEq, Int.reduceNeg, Nat.reduceLeDiff]) (by simp only [AV.und, AV.unds, and_self])
  | cons x r =>
    have lp := f18_loop (cp := cp) hs hl r 1
    have hpl := hs.lt
    obtain ⟨cs, o, hp, hle, hcs⟩ := hs
    have fx : cs[off]? = some (.int .i64 x) := by have := sl_get hcs (j := 0) (z := x) rfl; rwa [Nat.add_zero] at this
    have hlt : (0 : Int) < ((x :: r).length : Int) := by rw [List.length_cons]; omega
    have e0 := u64_cast x
    have hul := u64_lt x
    have e1 : ((u64 x : Nat) : Int).tdiv 72057594037927936 = ((u64 x / 72057594037927936 : Nat) : Int) := by rw [Int.tdiv_eq_ediv_of_nonneg (by omega)]; omega
    have e2 : ((u64 x / 72057594037927936 : Nat) : Int).tmod 256 = ((u64 x / 72057594037927936 % 256 : Nat) : Int) := by rw [Int.tmod_eq_emod_of_nonneg (by omega)]; omega
    have e3 : u64 x / 72057594037927936 % 256 = b8 (u64 x) 0 := rfl
    have e4 := wrap8 (b8 (u64 x) 0)
    have e5 : b8 (u64 x) 0 % 256 = b8 (u64 x) 0 := by unfold b8; omega
    rw [e5] at e4
    rw [e3] at e2
    have hq2 : ((u64 x / 72057594037927936 : Nat) : Int) ≤ 18446744073709551615 := by omega
    have e6 : (72057594037927936 : Int).tdiv 256 = 281474976710656 := by decide
    have e7 : ((dd8 1 : Nat) : Int) = 281474976710656 := by decide
    have hw : bw (u64 x) 8 = [b8 (u64 x) 0] ++ (bw (u64 x) 8).drop 1 := rfl
    have hbw := bw_len (u64 x) 8
    have hlen1 : ((bw (u64 x) 8).drop 1).length = 7 := by rw [List.length_drop, hbw]
    have lp2 := fun G => lp (bw (u64 x) 8) G rfl (by simp [Nat.add_comm]) hbw (bw_By _ _)
    rw [hw] at lp2
    have in1 := @f18_in H [.blk 1, .code (.reg [⟨some 11, .mv, [.r 4], none, [4]⟩, ⟨some 12, (.bin .add), [.r 11, .c (.int .i64 1)], none, [11]⟩, ⟨some 4, .mv, [.r 12], none, [12]⟩]), .lp c18l1, .blk 0, .code c18t] (Fin H rs18 (.int .i64 (((sof (bytes (x :: r)) : Nat) : Int) + 4294967296)) H) x p off (x :: r).length 0 cp cs o hp (by rw [Nat.add_zero]; exact fx) hlt 7 1 [b8 (u64 x) 0] [some ⟨[.int .u8 (b8 (u64 x) 0 : Nat)], true⟩] rfl (by simp) (fun G' => by
      have lp3 := lp2 G'
      have hL : ([b8 (u64 x) 0] ++ (bw (u64 x) 8).drop 1).length = 8 := by rw [List.length_append, hlen1]; rfl
      rw [hL] at lp3
      rw [show bytes (x :: r) = [b8 (u64 x) 0] ++ (bw (u64 x) 8).drop 1 ++ bytes r by rw [bytes]; rfl]
      generalize [b8 (u64 x) 0] ++ (bw (u64 x) 8).drop 1 = B at *
      rw [show [b8 (u64 x) 0].length + 7 = 8 by rfl]
      simp only [List.append_assoc, List.cons_append, List.nil_append, List.length_append, List.length_cons, List.length_nil, Nat.reduceAdd, Nat.add_assoc, Nat.zero_add, Nat.add_zero, Int.natCast_add, Int.cast_ofNat_Int, ] at lp3
      simp (maxSteps := 1000000) (disch := omega) only [go_sem, Nat.reduceEqDiff, Nat.reduceLT, Nat.reduceAdd, Nat.reduceSub, Nat.reduceMul, Nat.reduceBEq, Int.reduceLT, Int.reduceAdd, Int.reduceMul, Int.reduceSub, Int.reduceToNat, Int.reduceLE, Int.reduceEq, ↓reduceIte, reduceCtorEq, Int.reduceNeg, Nat.reduceLeDiff]
      exact lp3)
    have m1 : ([b8 (u64 x) 0] : List Nat).map u8 = [.int .u8 (b8 (u64 x) 0 : Nat)] := rfl
    rw [m1, e7] at in1
    unfold c18t c18 tl2 at in1
    clear lp lp2 hw hlen1 e3 e5 m1
    generalize bytes (x :: r) = BB at *
    generalize u64 x / 72057594037927936 = q at *
    generalize b8 (u64 x) 0 = b at *
    generalize hLL : (x :: r).length = L at *
    simp only [List.append_assoc, List.cons_append, List.nil_append, List.length_append, List.length_cons, List.length_nil, Nat.reduceAdd, Nat.add_assoc, Nat.zero_add, Nat.add_zero, Int.natCast_add, Int.cast_ofNat_Int, ] at in1
    unfold c18
    simp (maxSteps := 1000000) (disch := omega) only [go_sem, Nat.reduceEqDiff, Nat.reduceLT, Nat.reduceAdd, Nat.reduceSub, Nat.reduceMul, Nat.reduceBEq, Int.reduceLT, Int.reduceAdd, Int.reduceMul, Int.reduceSub, Int.reduceToNat, Int.reduceLE, Int.reduceEq, ↓reduceIte, reduceCtorEq, Int.reduceNeg, Nat.reduceLeDiff]
    rw [acs_lp]; conv in Fr.code c18l1 => unfold c18l1
    simp (maxSteps := 1000000) (disch := omega) only [go_sem, Nat.reduceEqDiff, Nat.reduceLT, Nat.reduceAdd, Nat.reduceSub, Nat.reduceMul, Nat.reduceBEq, Int.reduceLT, Int.reduceAdd, Int.reduceMul, Int.reduceSub, Int.reduceToNat, Int.reduceLE, Int.reduceEq, ↓reduceIte, reduceCtorEq, Int.reduceNeg, Nat.reduceLeDiff,  hlt]
    rw [acs_lp]; conv in Fr.code c18l0 => unfold c18l0
    simp (maxSteps := 1000000) (disch := omega) only [go_sem, Nat.reduceEqDiff, Nat.reduceLT, Nat.reduceAdd, Nat.reduceSub, Nat.reduceMul, Nat.reduceBEq, Int.reduceLT, Int.reduceAdd, Int.reduceMul, Int.reduceSub, Int.reduceToNat, Int.reduceLE, Int.reduceEq, ↓reduceIte, reduceCtorEq, Int.reduceNeg, Nat.reduceLeDiff,  blkAt_lo, hp, hpl, hlt, fx, e0, e1, e2, e4, e6, u64_in]
    exact in1
end Go.Proofs.Ytjibcbfdfambeaa.Ah
