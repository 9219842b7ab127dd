/- V08A: a part of the proof: contracts of functions, or plain laws. Conditions: none. -/
import Derived.Test.YtjibphejlmiocaaV08y
namespace Go.Proofs.Ytjibphejlmiocaa.Ah
open Go Go.WideShapes
attribute [local irreducible] acs aopsK drawK leave condK bindR bindD bindX guardK guardD callB callD callX callP callPv rfunG rfunK yldB yldD
attribute [local go_sem] acs_nil acs_blk acs_skip acs_reg acs_dreg acs_freg acs_nam0 acs_nam nones acs_seq acs_cond acs_block acs_exit acs_ret acs_kl acs_loop leave_nil leave_code leave_lp leave_blk aopsK_nil aopsK_cons aopsK_guard bindR_val bindR_need bindR_br bindR_call bindR_ycall acs_rfun rfunG_fn bindR_bad drawK_nil drawK_cons drawK_ext drawK_pur drawK_guard callPv_fn drawK_purv bindD_val bindD_need bindD_br bindD_call bindD_ycall bindD_bad bindX_val bindX_need bindX_br bindX_call guardD_bool guardD_tup grows grows0 List.append_cancel_left_eq List.cons.injEq exists_eq' exists_eq condK_bool guardK_bool guardK_tup sor r0 r1 r2 r3 rC rB rI rP rA rT rS rF rSl rO rbin rcut run1 Env.evals Env.eval Env.get Env.put Env.ins Env.del Env.dels argEnv AV.full AV.cells AV.cell eqCells decide_true decide_false decide_eq_true_eq decide_eq_false_iff_not Bool.not_eq_true' Bool.not_eq_false' true_and and_true false_implies true_implies forall_const Bool.not_true Bool.not_false Bool.false_eq_true Bool.true_eq_false List.getElem?_cons_zero List.getElem?_cons_succ List.length_cons List.length_nil List.length_append List.all_cons List.all_nil Bool.and_true Bool.and_self implies_true List.append_assoc List.cons_append List.nil_append List.append_nil i64_in imin_eq imax_eq cast3 cast0 cast1 cast2 Option.map_none ite_self and_false false_and Option.isSome_some or_true true_or Int.sub_zero Int.mul_one Nat.sub_zero Nat.zero_le Int.cast_ofNat_Int Int.natCast_nonneg Int.toNat_natCast ne_eq not_false_eq_true not_true_eq_false strC blkAt_app blkAt_app0 blkAt_zero blkAt_succ List.set_cons_zero List.set_cons_succ set_app set_app0 Option.map_some Option.bind_some rd setCells lay rdS szOk rapp ownAt lenAt Option.any_some Option.getD_some List.drop_zero List.drop_succ_cons List.take_succ_cons List.take_zero List.drop_nil List.take_nil Nat.lt_irrefl Nat.zero_add Nat.add_zero Nat.mul_one Nat.one_mul Nat.add_assoc Option.some.injEq eq_self
set_option maxHeartbeats 4000000
set_option linter.unusedSimpArgs false
set_option linter.unusedVariables false
/-! The document's bytes of a frame. -/
def pw (i : Nat) : Nat := 72057594037927936 / 256 ^ i
theorem pw_succ (i : Nat) : pw (i + 1) = pw i / 256 := by unfold pw; rw [Nat.pow_succ, Nat.div_div_eq_div_mul]
theorem pw_eq {i : Nat} (h : i < 8) : pw i = 2 ^ (56 - 8 * i) := by
  have : i = 0 ∨ i = 1 ∨ i = 2 ∨ i = 3 ∨ i = 4 ∨ i = 5 ∨ i = 6 ∨ i = 7 := by omega
  rcases this with rfl | rfl | rfl | rfl | rfl | rfl | rfl | rfl <;> decide
theorem pw_lt (i : Nat) : pw i ≤ 72057594037927936 := Nat.div_le_self _ _
theorem tdivN (a b : Nat) : (a : Int).tdiv (b : Int) = ((a / b : Nat) : Int) := by
  rw [Int.tdiv_eq_ediv_of_nonneg (by omega)]
  exact (Int.natCast_ediv a b).symm
theorem tmodN (a : Nat) : (a : Int).tmod 256 = ((a % 256 : Nat) : Int) := by
  rw [Int.tmod_eq_emod_of_nonneg (by omega)]
  omega
theorem tdiv256 (a : Nat) : (a : Int).tdiv 256 = ((a / 256 : Nat) : Int) := by
  rw [Int.tdiv_eq_ediv_of_nonneg (by omega)]
  omega
theorem f22_in {H0 : Heap} {K : List Fr} {Q : Post} {u : Nat} {a1 a6 : AV} {bs0 : List Nat} (hl : bs0.length ≤ 90000) (hu : u < 18446744073709551616)
    (next : ∀ q H', Ext H0 H' → H0.length ≤ q → blkAt H' q = some ⟨(bs0 ++ bw u 8).map u8, true⟩ → acs Try.prog K [(1, a1), (5, .sl q 0 (bs0.length + 8) 1 none), (6, a6)] H' Q)
    {q : Nat} {c : Option Nat} {H' : Heap} (hx : Ext H0 H') (hq : H0.length ≤ q) (hb : blkAt H' q = some ⟨bs0.map u8, true⟩) (hc : c = none ∨ c = some bs0.length) :
    acs Try.prog (.lp c22l0 :: .blk 2 :: K) [(1, a1), (5, .sl q 0 bs0.length 1 c), (6, a6), (7, .int .u64 (u : Nat)), (8, .int .u64 72057594037927936), (9, .int .i64 0)] H' Q := by
  refine loop_nat (fun k T H' => ∃ (i q : Nat) (c : Option Nat) (bs : List Nat), T = [(1, a1), (5, .sl q 0 bs.length 1 c), (6, a6), (7, .int .u64 (u : Nat)), (8, .int .u64 (pw i : Nat)), (9, .int .i64 (i : Nat))] ∧ i + k = 8 ∧ bs = bs0 ++ (bw u 8).take i ∧ Ext H0 H' ∧ H0.length ≤ q ∧ blkAt H' q = some ⟨bs.map u8, true⟩ ∧ (c = none ∨ (i = 0 ∧ c = some bs.length))) ?_ ?_ 8 _ _ ⟨0, q, c, bs0, rfl, rfl, by simp, hx, hq, hb, by simpa using hc⟩
  · rintro k T H' ⟨i, q, c, bs, rfl, hi, hbs, hx, hq, hb, hc⟩ nx
    have hbl : bs.length = bs0.length + i := by rw [hbs, List.length_append, List.length_take, bw_len]; omega
    have hlt : (i : Int) < 8 := by omega
    have hpl := pw_lt i
    have hp0 : pw i ≠ 0 := by rw [pw_eq (by omega)]; exact Nat.pos_iff_ne_zero.1 (Nat.two_pow_pos _)
    have hp0' : ¬ ((pw i : Nat) : Int) = 0 := by omega
    have hq1 : u / pw i ≤ u := Nat.div_le_self _ _
    have e1 : IntKind.u64.wrap ((u : Int).tdiv ((pw i : Nat) : Int)) = ((u / pw i : Nat) : Int) := by
      rw [tdivN]
      generalize u / pw i = z at *
      rw [u64_in _ (by omega)]
    have e2 := tmodN (u / pw i)
    have e3 : u / pw i % 256 = b8 u i := by rw [pw_eq (by omega)]; rfl
    rw [e3] at e2
    have hb256 : b8 u i < 256 := by unfold b8; omega
    have e4 : IntKind.u8.wrap ((b8 u i : Nat) : Int) = ((b8 u i : Nat) : Int) := u8_in _ (by omega)
    have e5 : IntKind.u64.wrap (((pw i : Nat) : Int).tdiv 256) = ((pw (i + 1) : Nat) : Int) := by rw [pw_succ, tdiv256, u64_in _ (by omega)]
    have htk : List.take bs.length (List.map u8 bs) = List.map u8 bs := takeMapF bs
    have hbig : (bs.length + 1) * 1 ≤ 140737488355328 := by omega
    have hbig2 : bs.length + 1 ≤ 140737488355328 := by omega
    have hib : (i : Int) ≤ 8 := by omega
    have hql := blkAt_lt hb
    have m1 : bs.map u8 ++ [.int .u8 (b8 u i : Nat)] = (bs ++ [b8 u i]).map u8 := by simp [u8]
    have l1 : bs.length + 1 = (bs ++ [b8 u i]).length := by simp
    have new : ∀ G : Heap, blkAt (H'.set q none ++ G) (H'.length + 1) = blkAt G 1 := fun G => by
      have := blkAt_app (H'.set q none) G 1
      rwa [List.length_set] at this
    have bs1 : bs ++ [b8 u i] = bs0 ++ (bw u 8).take (i + 1) := by rw [hbs, List.append_assoc, bw_take_succ _ (by omega)]
    generalize hp2 : pw (i + 1) = p2 at *
    generalize hpi : pw i = pi at *
    generalize u / pi = qq at *
    generalize b8 u i = b at *
    rcases hc with rfl | ⟨rfl, rfl⟩
    · rw [acs_lp]; conv in Fr.code c22l0 => unfold c22l0
      simp (maxSteps := 1000000) (disch := omega) only [go_sem, Nat.reduceEqDiff, Nat.reduceLT, Nat.reduceAdd, Nat.reduceSub, Nat.reduceMul, Nat.reduceBEq, Int.reduceLT, Int.reduceAdd, Int.reduceMul, Int.reduceSub, Int.reduceToNat, Int.reduceLE, Int.reduceEq, ↓reduceIte, reduceCtorEq, Int.reduceNeg, Nat.reduceLeDiff,  hlt, hp0', e1, e2, e4, e5, htk, hbig, hbig2, hql, hb, blkAt_lo, set_lo, List.length_map, List.length_set, Nat.le_refl]
      rw [m1, l1]
      exact nx _ _ ⟨i + 1, H'.length + 1, none, bs ++ [b], by simp [hp2], by omega, bs1, (hx.set hq _).to _, by have := hx.len; omega, by rw [new]; rfl, .inl rfl⟩
    · have h1 : bs.length < bs.length + 1 := by omega
      rw [acs_lp]; conv in Fr.code c22l0 => unfold c22l0
      simp (maxSteps := 1000000) (disch := omega) only [go_sem, Nat.reduceEqDiff, Nat.reduceLT, Nat.reduceAdd, Nat.reduceSub, Nat.reduceMul, Nat.reduceBEq, Int.reduceLT, Int.reduceAdd, Int.reduceMul, Int.reduceSub, Int.reduceToNat, Int.reduceLE, Int.reduceEq, ↓reduceIte, reduceCtorEq, Int.reduceNeg, Nat.reduceLeDiff,  hlt, hp0', e1, e2, e4, e5, htk, hbig, hbig2, hql, hb, h1, blkAt_lo, set_lo, List.length_map, List.length_set, Nat.le_refl]
      rw [m1, l1]
      exact nx _ _ ⟨1, H'.length + 1, none, bs ++ [b], by simp [← hp2], by omega, bs1, hx.to _, by have := hx.len; omega, by simp only [go_sem, Nat.reduceEqDiff, Nat.reduceLT, Nat.reduceAdd, Nat.reduceSub, Nat.reduceMul, Nat.reduceBEq, Int.reduceLT, Int.reduceAdd, Int.reduceMul, Int.reduceSub, Int.reduceToNat, Int.reduceLE, Int.reduceEq, ↓reduceIte, reduceCtorEq, Int.reduceNeg, Nat.reduceLeDiff], .inl rfl⟩
  · rintro T H' ⟨i, q, c, bs, rfl, hi, hbs, hx, hq, hb, hc⟩
    obtain rfl : i = 8 := hi
    rcases hc with rfl | ⟨h, _⟩
    · rw [List.take_of_length_le (by rw [bw_len]; exact Nat.le_refl _)] at hbs
      subst hbs
      have go := next q H' hx hq hb
      rw [acs_lp]; conv in Fr.code c22l0 => unfold c22l0
      simp (maxSteps := 1000000) (disch := omega) only [go_sem, Nat.reduceEqDiff, Nat.reduceLT, Nat.reduceAdd, Nat.reduceSub, Nat.reduceMul, Nat.reduceBEq, Int.reduceLT, Int.reduceAdd, Int.reduceMul, Int.reduceSub, Int.reduceToNat, Int.reduceLE, Int.reduceEq, ↓reduceIte, reduceCtorEq, Int.reduceNeg, Nat.reduceLeDiff,  bw_len]
      exact go
    · omega
theorem f22 {k : Int} {ns : List Int} {p off : Nat} {cp : Option Nat} {H : Heap} (hs : Sl i64 H p off ns) (hr : right k ns.length = true) :
    ACallE Try.prog 22 [.agg [.int .i64 k, .sl p off ns.length 1 cp]] H fun v H' => ∃ w, v = .tup [w, .int .i64 0] ∧ Rw u8 H' w (encB k.toNat ns) := by
  refine acallE (fun v Hf h => acallK22 (by simp) h) (acs_start ?_)
  have g11 := fun H => f11 (k := k) (p := p) (off := off) (n := ns.length) (c := cp) (H := H)
  rw [hr] at g11
  have hr2 := of_decide_eq_true hr
  have hk := lng_kind hr2.1
  have hn := lng_in k
  have hnl : ns.length ≤ 18 := by omega
  obtain ⟨kk, rfl⟩ : ∃ kk : Nat, k = kk := ⟨k.toNat, by omega⟩
  have hk8 : IntKind.u8.wrap (kk : Int) = (kk : Int) := u8_in _ (by omega)
  have hkk : kk < 256 := by omega
  rw [Int.toNat_natCast]
  unfold c22
  simp (maxSteps := 1000000) (disch := omega) only [go_sem, Nat.reduceEqDiff, Nat.reduceLT, Nat.reduceAdd, Nat.reduceSub, Nat.reduceMul, Nat.reduceBEq, Int.reduceLT, Int.reduceAdd, Int.reduceMul, Int.reduceSub, Int.reduceToNat, Int.reduceLE, Int.reduceEq, ↓reduceIte, reduceCtorEq, Int.reduceNeg, Nat.reduceLeDiff]
  first | refine callB_intro (g11 _) ?_ | refine callD_intro (g11 _) ?_ | refine callP_intro (fun _ => (g11 _)) ?_ | refine callX_pure (g11 _) ?_
  simp (maxSteps := 1000000) (disch := omega) only [go_sem, Nat.reduceEqDiff, Nat.reduceLT, Nat.reduceAdd, Nat.reduceSub, Nat.reduceMul, Nat.reduceBEq, Int.reduceLT, Int.reduceAdd, Int.reduceMul, Int.reduceSub, Int.reduceToNat, Int.reduceLE, Int.reduceEq, ↓reduceIte, reduceCtorEq, Int.reduceNeg, Nat.reduceLeDiff,  hk8]
  have hs1 := hs
  have hpl := hs.lt
  refine loop_list (fun r T H' => ∃ (j q : Nat) (c : Option Nat) (bs : List Nat), T = [(1, .ptr H.length 0), (5, .sl q 0 bs.length 1 c), (6, .int .i64 (j : Nat))] ∧ ns.drop j = r ∧ j + r.length = ns.length ∧ bs = kk :: bytes (ns.take j) ∧ Ext (H ++ [some ⟨[.int .i64 kk, .sl p off ns.length 1 cp], true⟩]) H' ∧ H.length + 1 ≤ q ∧ blkAt H' q = some ⟨bs.map u8, true⟩ ∧ (c = none ∨ c = some bs.length)) ?_ ?_ ns _ _ ⟨0, H.length + 1, some 1, [kk], rfl, rfl, by simp, by simp [bytes], ⟨[some ⟨[.int .u8 kk], true⟩], by simp⟩, by omega, by simp only [go_sem, Nat.reduceEqDiff, Nat.reduceLT, Nat.reduceAdd, Nat.reduceSub, Nat.reduceMul, Nat.reduceBEq, Int.reduceLT, Int.reduceAdd, Int.reduceMul, Int.reduceSub, Int.reduceToNat, Int.reduceLE, Int.reduceEq, ↓reduceIte, reduceCtorEq, Int.reduceNeg, Nat.reduceLeDiff]; rfl, .inr rfl⟩
  · rintro x r T H' ⟨j, q, c, bs, rfl, hd, hj, hbs, hx, hq, hb, hc⟩ next
    obtain ⟨g1, g2, g3⟩ := drop_cons hd
    have hbl : bs.length = 1 + 8 * j := by
      rw [hbs, List.length_cons, bytes_len, List.length_take]
      omega
    obtain ⟨cs, o, hp, hle, hcs⟩ := ((Ext.app _ _).trans hx).sl hs
    have fx := sl_get hcs g1
    simp only [i64] at fx
    have b0 : blkAt H' H.length = some ⟨[.int .i64 kk, .sl p off ns.length 1 cp], true⟩ := hx.blk (by simp only [go_sem, Nat.reduceEqDiff, Nat.reduceLT, Nat.reduceAdd, Nat.reduceSub, Nat.reduceMul, Nat.reduceBEq, Int.reduceLT, Int.reduceAdd, Int.reduceMul, Int.reduceSub, Int.reduceToNat, Int.reduceLE, Int.reduceEq, ↓reduceIte, reduceCtorEq, Int.reduceNeg, Nat.reduceLeDiff])
    have hlt : (j : Int) < (ns.length : Int) := by omega
    have hj2 : (j : Int) ≤ 18 := by omega
    have hu := u64_cast x
    rw [acs_lp]; conv in Fr.code c22l1 => unfold c22l1
    simp (maxSteps := 1000000) (disch := omega) only [go_sem, Nat.reduceEqDiff, Nat.reduceLT, Nat.reduceAdd, Nat.reduceSub, Nat.reduceMul, Nat.reduceBEq, Int.reduceLT, Int.reduceAdd, Int.reduceMul, Int.reduceSub, Int.reduceToNat, Int.reduceLE, Int.reduceEq, ↓reduceIte, reduceCtorEq, Int.reduceNeg, Nat.reduceLeDiff,  hlt, hp, fx, b0, hu]
    refine f22_in (H0 := H ++ [some ⟨[.int .i64 kk, .sl p off ns.length 1 cp], true⟩]) (by omega) (u64_lt x) (fun q' H'' hx' hq' hb' => ?_) hx (by simpa using hq) hb hc
    simp (maxSteps := 1000000) (disch := omega) only [go_sem, Nat.reduceEqDiff, Nat.reduceLT, Nat.reduceAdd, Nat.reduceSub, Nat.reduceMul, Nat.reduceBEq, Int.reduceLT, Int.reduceAdd, Int.reduceMul, Int.reduceSub, Int.reduceToNat, Int.reduceLE, Int.reduceEq, ↓reduceIte, reduceCtorEq, Int.reduceNeg, Nat.reduceLeDiff]
    refine next _ _ ⟨j + 1, q', none, bs ++ bw (u64 x) 8, by simp [bw_len], g2, by simp at hj; omega, ?_, hx', by simpa using hq', hb', .inl rfl⟩
    rw [hbs, List.cons_append, bytes_take_succ hd]
  · rintro T H' ⟨j, q, c, bs, rfl, hd, hj, hbs, hx, hq, hb, hc⟩
    have hjn : j = ns.length := by simpa using hj
    rw [hjn, List.take_length] at hbs
    have hlt : ¬ (j : Int) < (ns.length : Int) := by omega
    have hbl : bs.length ≤ 200 := by rw [hbs, List.length_cons, bytes_len]; omega
    have hB : By bs := by
      rw [hbs]
      intro y hy
      rcases List.mem_cons.1 hy with rfl | hy
      · exact hkk
      · exact bytes_By _ y hy
    have b0 : blkAt H' H.length = some ⟨[.int .i64 kk, .sl p off ns.length 1 cp], true⟩ := hx.blk (by simp only [go_sem, Nat.reduceEqDiff, Nat.reduceLT, Nat.reduceAdd, Nat.reduceSub, Nat.reduceMul, Nat.reduceBEq, Int.reduceLT, Int.reduceAdd, Int.reduceMul, Int.reduceSub, Int.reduceToNat, Int.reduceLE, Int.reduceEq, ↓reduceIte, reduceCtorEq, Int.reduceNeg, Nat.reduceLeDiff])
    have gS := f36 (cp := c) (Sl.whole hb) hB (by omega)
    have he : encB kk ns = bs ++ tail4 bs := by rw [hbs]; rfl
    have hel : bs.length + 4 = (encB kk ns).length := by rw [he, List.length_append]; rfl
    rw [acs_lp]; conv in Fr.code c22l1 => unfold c22l1
    rw [← he, hel] at gS
    simp (maxSteps := 1000000) (disch := omega) only [go_sem, Nat.reduceEqDiff, Nat.reduceLT, Nat.reduceAdd, Nat.reduceSub, Nat.reduceMul, Nat.reduceBEq, Int.reduceLT, Int.reduceAdd, Int.reduceMul, Int.reduceSub, Int.reduceToNat, Int.reduceLE, Int.reduceEq, ↓reduceIte, reduceCtorEq, Int.reduceNeg, Nat.reduceLeDiff,  hlt, b0]
    first | refine callB_intro (gS) ?_ | refine callD_intro (gS) ?_ | refine callP_intro (fun _ => (gS)) ?_ | refine callX_pure (gS) ?_
    simp (maxSteps := 1000000) (disch := omega) only [go_sem, Nat.reduceEqDiff, Nat.reduceLT, Nat.reduceAdd, Nat.reduceSub, Nat.reduceMul, Nat.reduceBEq, Int.reduceLT, Int.reduceAdd, Int.reduceMul, Int.reduceSub, Int.reduceToNat, Int.reduceLE, Int.reduceEq, ↓reduceIte, reduceCtorEq, Int.reduceNeg, Nat.reduceLeDiff]
    refine fin_e (by simp) (by simp (maxSteps := 1000000) (disch := omega) only [resVal, resAll, resOne, rs22, Env.get, go_sem, Nat.reduceEqDiff, Nat.reduceLT, Nat.reduceAdd, Nat.reduceSub, Nat.reduceMul, Nat.reduceBEq, Int.reduceLT, Int.reduceAdd, Int.reduceMul, Int.reduceSub, Int.reduceToNat, Int.reduceLE, Int.reduceEq, ↓reduceIte, reduceCtorEq, Int.reduceNeg, Nat.reduceLeDiff, ] <;> rfl) (((Ext.app _ _).trans hx).to _) ⟨_, rfl, Rw.mk none (Sl.whole (o := true) (by simp only [go_sem, Nat.reduceEqDiff, Nat.reduceLT, Nat.reduceAdd, Nat.reduceSub, Nat.reduceMul, Nat.reduceBEq, Int.reduceLT, Int.reduceAdd, Int.reduceMul, Int.reduceSub, Int.reduceToNat, Int.reduceLE, Int.reduceEq, ↓reduceIte, reduceCtorEq, Int.reduceNeg, Nat.reduceLeDiff]))⟩
theorem f22_no {k : Int} {ns : List Int} {p off : Nat} {cp : Option Nat} {H : Heap} (hr : right k ns.length = false) :
    ACallE Try.prog 22 [.agg [.int .i64 k, .sl p off ns.length 1 cp]] H fun v H' => v = .tup [.nils, .int .i64 1] := by
  refine acallE (fun v Hf h => acallK22 (by simp) h) (acs_start ?_)
  have g11 := fun H => f11 (k := k) (p := p) (off := off) (n := ns.length) (c := cp) (H := H)
  rw [hr] at g11
  unfold c22
  simp (maxSteps := 1000000) (disch := omega) only [go_sem, Nat.reduceEqDiff, Nat.reduceLT, Nat.reduceAdd, Nat.reduceSub, Nat.reduceMul, Nat.reduceBEq, Int.reduceLT, Int.reduceAdd, Int.reduceMul, Int.reduceSub, Int.reduceToNat, Int.reduceLE, Int.reduceEq, ↓reduceIte, reduceCtorEq, Int.reduceNeg, Nat.reduceLeDiff]
  first | refine callB_intro (g11 _) ?_ | refine callD_intro (g11 _) ?_ | refine callP_intro (fun _ => (g11 _)) ?_ | refine callX_pure (g11 _) ?_
  simp (maxSteps := 1000000) (disch := omega) only [go_sem, Nat.reduceEqDiff, Nat.reduceLT, Nat.reduceAdd, Nat.reduceSub, Nat.reduceMul, Nat.reduceBEq, Int.reduceLT, Int.reduceAdd, Int.reduceMul, Int.reduceSub, Int.reduceToNat, Int.reduceLE, Int.reduceEq, ↓reduceIte, reduceCtorEq, Int.reduceNeg, Nat.reduceLeDiff]
  refine fin_e (by simp) (by simp (maxSteps := 1000000) (disch := omega) only [resVal, resAll, resOne, rs22, Env.get, go_sem, Nat.reduceEqDiff, Nat.reduceLT, Nat.reduceAdd, Nat.reduceSub, Nat.reduceMul, Nat.reduceBEq, Int.reduceLT, Int.reduceAdd, Int.reduceMul, Int.reduceSub, Int.reduceToNat, Int.reduceLE, Int.reduceEq, ↓reduceIte, reduceCtorEq, Int.reduceNeg, Nat.reduceLeDiff, ] <;> rfl) (Ext.app _ _) rfl
theorem f22T {k : Int} {ns : List Int} {p off : Nat} {cp : Option Nat} {H : Heap} (hs : Sl i64 H p off ns) :
    ACallE Try.prog 22 [.agg [.int .i64 k, .sl p off ns.length 1 cp]] H fun v H' => ∃ w, v = .tup [w, .int .i64 (encE k ns.length)] ∧ Rw u8 H' w (encT k ns) := by
  cases hr : right k ns.length with
  | true =>
    have := f22 (cp := cp) hs hr
    unfold encE encT
    rw [hr]
    exact this
  | false =>
    refine callE_nlr 1 ((f22_no (cp := cp) hr).mono fun v H' _ hv => ?_)
    subst hv
    unfold encE encT
    rw [hr]
    exact ⟨_, rfl, Rw.empty _⟩
end Go.Proofs.Ytjibphejlmiocaa.Ah
