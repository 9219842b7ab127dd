/- V08o: a part of the proof: contracts of functions, or plain laws. Conditions: none. -/
import Derived.Test.YtjibphejlmiocaaV08n
import Derived.Test.YtjibphejlmiocaaV08l
namespace Go.Proofs.Ytjibphejlmiocaa.Ah
open Go Go.WideShapes
attribute [local irreducible] acs aopsK drawK leave condK bindR bindD bindX guardK guardD callB callD callX callP callPv rfunG rfunK yldB yldD
attribute [local go_sem] acs_nil acs_blk acs_skip acs_reg acs_dreg acs_freg acs_nam0 acs_nam nones acs_seq acs_cond acs_block acs_exit acs_ret acs_kl acs_loop leave_nil leave_code leave_lp leave_blk aopsK_nil aopsK_cons aopsK_guard bindR_val bindR_need bindR_br bindR_call bindR_ycall acs_rfun rfunG_fn bindR_bad drawK_nil drawK_cons drawK_ext drawK_pur drawK_guard callPv_fn drawK_purv bindD_val bindD_need bindD_br bindD_call bindD_ycall bindD_bad bindX_val bindX_need bindX_br bindX_call guardD_bool guardD_tup grows grows0 List.append_cancel_left_eq List.cons.injEq exists_eq' exists_eq condK_bool guardK_bool guardK_tup sor r0 r1 r2 r3 rC rB rI rP rA rT rS rF rSl rO rbin rcut run1 Env.evals Env.eval Env.get Env.put Env.ins Env.del Env.dels argEnv AV.full AV.cells AV.cell eqCells decide_true decide_false decide_eq_true_eq decide_eq_false_iff_not Bool.not_eq_true' Bool.not_eq_false' true_and and_true false_implies true_implies forall_const Bool.not_true Bool.not_false Bool.false_eq_true Bool.true_eq_false List.getElem?_cons_zero List.getElem?_cons_succ List.length_cons List.length_nil List.length_append List.all_cons List.all_nil Bool.and_true Bool.and_self implies_true List.append_assoc List.cons_append List.nil_append List.append_nil i64_in imin_eq imax_eq cast3 cast0 cast1 cast2 Option.map_none ite_self and_false false_and Option.isSome_some or_true true_or Int.sub_zero Int.mul_one Nat.sub_zero Nat.zero_le Int.cast_ofNat_Int Int.natCast_nonneg Int.toNat_natCast ne_eq not_false_eq_true not_true_eq_false strC blkAt_app blkAt_app0 blkAt_zero blkAt_succ List.set_cons_zero List.set_cons_succ set_app set_app0 Option.map_some Option.bind_some rd setCells lay rdS szOk rapp ownAt lenAt Option.any_some Option.getD_some List.drop_zero List.drop_succ_cons List.take_succ_cons List.take_zero List.drop_nil List.take_nil Nat.lt_irrefl Nat.zero_add Nat.add_zero Nat.mul_one Nat.one_mul Nat.add_assoc Option.some.injEq eq_self
set_option maxHeartbeats 4000000
set_option linter.unusedSimpArgs false
set_option linter.unusedVariables false
/-! Bytes tell their words; the laws FrameWords, FrameApart. -/
def num (c : Nat) : List Nat → Nat
  | [] => c
  | x :: r => num (c * 256 + x) r
theorem num_bw {n : Nat} (h : n < 18446744073709551616) : num 0 (bw n 8) = n := by
  have e : bw n 8 = [b8 n 0, b8 n 1, b8 n 2, b8 n 3, b8 n 4, b8 n 5, b8 n 6, b8 n 7] := rfl
  rw [e]
  unfold num num num num num num num num num
  have e0 : b8 n 0 = n / 72057594037927936 % 256 := rfl
  have e1 : b8 n 1 = n / 281474976710656 % 256 := rfl
  have e2 : b8 n 2 = n / 1099511627776 % 256 := rfl
  have e3 : b8 n 3 = n / 4294967296 % 256 := rfl
  have e4 : b8 n 4 = n / 16777216 % 256 := rfl
  have e5 : b8 n 5 = n / 65536 % 256 := rfl
  have e6 : b8 n 6 = n / 256 % 256 := rfl
  have e7 : b8 n 7 = n / 1 % 256 := rfl
  rw [e0, e1, e2, e3, e4, e5, e6, e7]
  omega
def W64 (l : List Int) : Prop := ∀ z ∈ l, (Lit.int .i64 z).wf = true
theorem u64_back {n : Int} (h : (Lit.int .i64 n).wf = true) : IntKind.i64.wrap ((u64 n : Nat) : Int) = n := by
  have h1 := wf_i64 h
  rw [← u64_cast]
  simp only [IntKind.wrap, IntKind.bits, IntKind.signed]
  simp
  omega
theorem bw_inj {n m : Int} (hn : (Lit.int .i64 n).wf = true) (hm : (Lit.int .i64 m).wf = true) (h : bw (u64 n) 8 = bw (u64 m) 8) : n = m := by
  have h1 : u64 n = u64 m := by rw [← num_bw (u64_lt n), ← num_bw (u64_lt m), h]
  rw [← u64_back hn, ← u64_back hm, h1]
theorem bytes_inj : ∀ {xs ys : List Int}, W64 xs → W64 ys → bytes xs = bytes ys → xs = ys
  | [], [], _, _, _ => rfl
  | [], y :: ys, _, _, h => by have := congrArg List.length h; simp [bytes_len] at this
  | x :: xs, [], _, _, h => by have := congrArg List.length h; simp [bytes_len] at this
  | x :: xs, y :: ys, hx, hy, h => by
    unfold bytes at h
    obtain ⟨h1, h2⟩ := List.append_inj h (by rw [bw_len, bw_len])
    rw [bw_inj (hx x (by simp)) (hy y (by simp)) h1, bytes_inj (fun z hz => hx z (by simp [hz])) (fun z hz => hy z (by simp [hz])) h2]
theorem encB_inj {a b : Nat} {xs ys : List Int} (hx : W64 xs) (hy : W64 ys) (ha : right a xs.length = true) (hb : right b ys.length = true) : encB a xs = encB b ys ↔ ((a : Int) = b ∧ xs = ys) := by
  constructor
  · intro h
    have ha2 := (of_decide_eq_true ha).2
    have hb2 := (of_decide_eq_true hb).2
    unfold encB at h
    simp only [List.cons_append, List.cons.injEq] at h
    obtain ⟨rfl, h⟩ := h
    have hl : xs.length = ys.length := by omega
    obtain ⟨h1, _⟩ := List.append_inj h (by rw [bytes_len, bytes_len, hl])
    exact ⟨rfl, bytes_inj hx hy h1⟩
  · rintro ⟨h, rfl⟩
    have : a = b := by omega
    rw [this]
theorem encB_By {k : Nat} {xs : List Int} (hk : k < 256) : By (encB k xs) := by
  unfold encB
  refine By_append' ?_ ?_
  · intro x hx
    rcases List.mem_cons.1 hx with rfl | hx
    · exact hk
    · exact bytes_By _ x hx
  · unfold tail4 By
    intro x hx
    simp at hx
    omega
theorem f3 (a b : Int) (xs ys : List Int) (p q o1 o2 : Nat) (c1 c2 : Option Nat) (H : Heap) (hx : Sl i64 H p o1 xs) (hy : Sl i64 H q o2 ys) (wx : W64 xs) (wy : W64 ys) (l1 : xs.length ≤ 140737488351232) (l2 : ys.length ≤ 140737488351232) :
    ACall Try.prog 3 [.agg [.int .i64 a, .sl p o1 xs.length 1 c1], .agg [.int .i64 b, .sl q o2 ys.length 1 c2]] H (.bool true) H := by
  refine acall3 (by simp) (acs_start ?_)
  have gA := fun H => f11 (k := a) (p := p) (off := o1) (n := xs.length) (c := c1) (H := H)
  have gB := fun H => f11 (k := b) (p := q) (off := o2) (n := ys.length) (c := c2) (H := H)
  unfold c3
  by_cases hl : 100 < xs.length + ys.length
  · have hl1 : (100 : Int) < (xs.length : Int) + (ys.length : Int) := by omega
    simp (maxSteps := 1000000) (disch := omega) only [go_sem, Nat.reduceEqDiff, Nat.reduceLT, Nat.reduceAdd, Nat.reduceSub, Nat.reduceMul, Nat.reduceBEq, Int.reduceLT, Int.reduceAdd, Int.reduceMul, Int.reduceSub, Int.reduceToNat, Int.reduceLE, Int.reduceEq, ↓reduceIte, reduceCtorEq, Int.reduceNeg, Nat.reduceLeDiff]
    first | refine callB_intro (f10 _) ?_ | refine callD_intro (f10 _) ?_ | refine callP_intro (fun _ => (f10 _)) ?_ | refine callX_pure (f10 _) ?_
    simp (maxSteps := 1000000) (disch := omega) only [go_sem, Nat.reduceEqDiff, Nat.reduceLT, Nat.reduceAdd, Nat.reduceSub, Nat.reduceMul, Nat.reduceBEq, Int.reduceLT, Int.reduceAdd, Int.reduceMul, Int.reduceSub, Int.reduceToNat, Int.reduceLE, Int.reduceEq, ↓reduceIte, reduceCtorEq, Int.reduceNeg, Nat.reduceLeDiff,  hl1]
    exact fin_same (by simp) _ (by first | exact (List.append_nil _).symm | rfl) (by simp (maxSteps := 1000000) (disch := omega) only [resVal, resAll, resOne, rs3, Env.get, go_sem, Nat.reduceEqDiff, Nat.reduceLT, Nat.reduceAdd, Nat.reduceSub, Nat.reduceMul, Nat.reduceBEq, Int.reduceLT, Int.reduceAdd, Int.reduceMul, Int.reduceSub, Int.reduceToNat, Int.reduceLE, Int.reduceEq, ↓reduceIte, reduceCtorEq, Int.reduceNeg, Nat.reduceLeDiff]) (by simp only [AV.und, AV.unds, and_self])
  have hl1 : ¬ (100 : Int) < (xs.length : Int) + (ys.length : Int) := by omega
  cases ha : right a xs.length with
  | false =>
    rw [ha] at gA
    simp (maxSteps := 1000000) (disch := omega) only [go_sem, Nat.reduceEqDiff, Nat.reduceLT, Nat.reduceAdd, Nat.reduceSub, Nat.reduceMul, Nat.reduceBEq, Int.reduceLT, Int.reduceAdd, Int.reduceMul, Int.reduceSub, Int.reduceToNat, Int.reduceLE, Int.reduceEq, ↓reduceIte, reduceCtorEq, Int.reduceNeg, Nat.reduceLeDiff]
    first | refine callB_intro (f10 _) ?_ | refine callD_intro (f10 _) ?_ | refine callP_intro (fun _ => (f10 _)) ?_ | refine callX_pure (f10 _) ?_
    simp (maxSteps := 1000000) (disch := omega) only [go_sem, Nat.reduceEqDiff, Nat.reduceLT, Nat.reduceAdd, Nat.reduceSub, Nat.reduceMul, Nat.reduceBEq, Int.reduceLT, Int.reduceAdd, Int.reduceMul, Int.reduceSub, Int.reduceToNat, Int.reduceLE, Int.reduceEq, ↓reduceIte, reduceCtorEq, Int.reduceNeg, Nat.reduceLeDiff,  hl1]
    first | refine callB_intro (gA _) ?_ | refine callD_intro (gA _) ?_ | refine callP_intro (fun _ => (gA _)) ?_ | refine callX_pure (gA _) ?_
    simp (maxSteps := 1000000) (disch := omega) only [go_sem, Nat.reduceEqDiff, Nat.reduceLT, Nat.reduceAdd, Nat.reduceSub, Nat.reduceMul, Nat.reduceBEq, Int.reduceLT, Int.reduceAdd, Int.reduceMul, Int.reduceSub, Int.reduceToNat, Int.reduceLE, Int.reduceEq, ↓reduceIte, reduceCtorEq, Int.reduceNeg, Nat.reduceLeDiff]
    exact fin_same (by simp) _ (by first | exact (List.append_nil _).symm | rfl) (by simp (maxSteps := 1000000) (disch := omega) only [resVal, resAll, resOne, rs3, Env.get, go_sem, Nat.reduceEqDiff, Nat.reduceLT, Nat.reduceAdd, Nat.reduceSub, Nat.reduceMul, Nat.reduceBEq, Int.reduceLT, Int.reduceAdd, Int.reduceMul, Int.reduceSub, Int.reduceToNat, Int.reduceLE, Int.reduceEq, ↓reduceIte, reduceCtorEq, Int.reduceNeg, Nat.reduceLeDiff]) (by simp only [AV.und, AV.unds, and_self])
  | true =>
    rw [ha] at gA
    cases hb : right b ys.length with
    | false =>
      rw [hb] at gB
      simp (maxSteps := 1000000) (disch := omega) only [go_sem, Nat.reduceEqDiff, Nat.reduceLT, Nat.reduceAdd, Nat.reduceSub, Nat.reduceMul, Nat.reduceBEq, Int.reduceLT, Int.reduceAdd, Int.reduceMul, Int.reduceSub, Int.reduceToNat, Int.reduceLE, Int.reduceEq, ↓reduceIte, reduceCtorEq, Int.reduceNeg, Nat.reduceLeDiff]
      first | refine callB_intro (f10 _) ?_ | refine callD_intro (f10 _) ?_ | refine callP_intro (fun _ => (f10 _)) ?_ | refine callX_pure (f10 _) ?_
      simp (maxSteps := 1000000) (disch := omega) only [go_sem, Nat.reduceEqDiff, Nat.reduceLT, Nat.reduceAdd, Nat.reduceSub, Nat.reduceMul, Nat.reduceBEq, Int.reduceLT, Int.reduceAdd, Int.reduceMul, Int.reduceSub, Int.reduceToNat, Int.reduceLE, Int.reduceEq, ↓reduceIte, reduceCtorEq, Int.reduceNeg, Nat.reduceLeDiff,  hl1]
      first | refine callB_intro (gA _) ?_ | refine callD_intro (gA _) ?_ | refine callP_intro (fun _ => (gA _)) ?_ | refine callX_pure (gA _) ?_
      simp (maxSteps := 1000000) (disch := omega) only [go_sem, Nat.reduceEqDiff, Nat.reduceLT, Nat.reduceAdd, Nat.reduceSub, Nat.reduceMul, Nat.reduceBEq, Int.reduceLT, Int.reduceAdd, Int.reduceMul, Int.reduceSub, Int.reduceToNat, Int.reduceLE, Int.reduceEq, ↓reduceIte, reduceCtorEq, Int.reduceNeg, Nat.reduceLeDiff]
      first | refine callB_intro (gB _) ?_ | refine callD_intro (gB _) ?_ | refine callP_intro (fun _ => (gB _)) ?_ | refine callX_pure (gB _) ?_
      simp (maxSteps := 1000000) (disch := omega) only [go_sem, Nat.reduceEqDiff, Nat.reduceLT, Nat.reduceAdd, Nat.reduceSub, Nat.reduceMul, Nat.reduceBEq, Int.reduceLT, Int.reduceAdd, Int.reduceMul, Int.reduceSub, Int.reduceToNat, Int.reduceLE, Int.reduceEq, ↓reduceIte, reduceCtorEq, Int.reduceNeg, Nat.reduceLeDiff]
      exact fin_same (by simp) _ (by first | exact (List.append_nil _).symm | rfl) (by simp (maxSteps := 1000000) (disch := omega) only [resVal, resAll, resOne, rs3, Env.get, go_sem, Nat.reduceEqDiff, Nat.reduceLT, Nat.reduceAdd, Nat.reduceSub, Nat.reduceMul, Nat.reduceBEq, Int.reduceLT, Int.reduceAdd, Int.reduceMul, Int.reduceSub, Int.reduceToNat, Int.reduceLE, Int.reduceEq, ↓reduceIte, reduceCtorEq, Int.reduceNeg, Nat.reduceLeDiff]) (by simp only [AV.und, AV.unds, and_self])
    | true =>
      rw [hb] at gB
      have gE := fun Hx (h : Ext H Hx) => f12 (cp := c1) (h.sl hx) ha
      have gF := fun Hx (h : Ext H Hx) => f12 (cp := c2) (h.sl hy) hb
      simp (maxSteps := 1000000) (disch := omega) only [go_sem, Nat.reduceEqDiff, Nat.reduceLT, Nat.reduceAdd, Nat.reduceSub, Nat.reduceMul, Nat.reduceBEq, Int.reduceLT, Int.reduceAdd, Int.reduceMul, Int.reduceSub, Int.reduceToNat, Int.reduceLE, Int.reduceEq, ↓reduceIte, reduceCtorEq, Int.reduceNeg, Nat.reduceLeDiff]
      first | refine callB_intro (f10 _) ?_ | refine callD_intro (f10 _) ?_ | refine callP_intro (fun _ => (f10 _)) ?_ | refine callX_pure (f10 _) ?_
      simp (maxSteps := 1000000) (disch := omega) only [go_sem, Nat.reduceEqDiff, Nat.reduceLT, Nat.reduceAdd, Nat.reduceSub, Nat.reduceMul, Nat.reduceBEq, Int.reduceLT, Int.reduceAdd, Int.reduceMul, Int.reduceSub, Int.reduceToNat, Int.reduceLE, Int.reduceEq, ↓reduceIte, reduceCtorEq, Int.reduceNeg, Nat.reduceLeDiff,  hl1]
      first | refine callB_intro (gA _) ?_ | refine callD_intro (gA _) ?_ | refine callP_intro (fun _ => (gA _)) ?_ | refine callX_pure (gA _) ?_
      simp (maxSteps := 1000000) (disch := omega) only [go_sem, Nat.reduceEqDiff, Nat.reduceLT, Nat.reduceAdd, Nat.reduceSub, Nat.reduceMul, Nat.reduceBEq, Int.reduceLT, Int.reduceAdd, Int.reduceMul, Int.reduceSub, Int.reduceToNat, Int.reduceLE, Int.reduceEq, ↓reduceIte, reduceCtorEq, Int.reduceNeg, Nat.reduceLeDiff]
      first | refine callB_intro (gB _) ?_ | refine callD_intro (gB _) ?_ | refine callP_intro (fun _ => (gB _)) ?_ | refine callX_pure (gB _) ?_
      simp (maxSteps := 1000000) (disch := omega) only [go_sem, Nat.reduceEqDiff, Nat.reduceLT, Nat.reduceAdd, Nat.reduceSub, Nat.reduceMul, Nat.reduceBEq, Int.reduceLT, Int.reduceAdd, Int.reduceMul, Int.reduceSub, Int.reduceToNat, Int.reduceLE, Int.reduceEq, ↓reduceIte, reduceCtorEq, Int.reduceNeg, Nat.reduceLeDiff]
      first | refine callBE (gE _ ⟨_, rfl⟩) ?_ | refine callDE (gE _ ⟨_, rfl⟩) ?_ | refine callXE (gE _ ⟨_, rfl⟩) ?_
      rintro v1 H1 hx1 ⟨q1, hq1, rfl, b1⟩
      have bA := hx1.blk (b := H.length) (x := ⟨[.int .i64 a, .sl p o1 xs.length 1 c1], true⟩) (by simp only [go_sem, Nat.reduceEqDiff, Nat.reduceLT, Nat.reduceAdd, Nat.reduceSub, Nat.reduceMul, Nat.reduceBEq, Int.reduceLT, Int.reduceAdd, Int.reduceMul, Int.reduceSub, Int.reduceToNat, Int.reduceLE, Int.reduceEq, ↓reduceIte, reduceCtorEq, Int.reduceNeg, Nat.reduceLeDiff])
      have bB := hx1.blk (b := H.length + 1) (x := ⟨[.int .i64 b, .sl q o2 ys.length 1 c2], true⟩) (by simp only [go_sem, Nat.reduceEqDiff, Nat.reduceLT, Nat.reduceAdd, Nat.reduceSub, Nat.reduceMul, Nat.reduceBEq, Int.reduceLT, Int.reduceAdd, Int.reduceMul, Int.reduceSub, Int.reduceToNat, Int.reduceLE, Int.reduceEq, ↓reduceIte, reduceCtorEq, Int.reduceNeg, Nat.reduceLeDiff])
      have hy1 : Ext H H1 := (Ext.app _ _).trans hx1
      simp (maxSteps := 1000000) (disch := omega) only [go_sem, Nat.reduceEqDiff, Nat.reduceLT, Nat.reduceAdd, Nat.reduceSub, Nat.reduceMul, Nat.reduceBEq, Int.reduceLT, Int.reduceAdd, Int.reduceMul, Int.reduceSub, Int.reduceToNat, Int.reduceLE, Int.reduceEq, ↓reduceIte, reduceCtorEq, Int.reduceNeg, Nat.reduceLeDiff,  bA, bB]
      first | refine callBE (gF _ hy1) ?_ | refine callDE (gF _ hy1) ?_ | refine callXE (gF _ hy1) ?_
      rintro v2 H2 hx2 ⟨q2, hq2, rfl, b2⟩
      replace bA := hx2.blk bA
      replace bB := hx2.blk bB
      replace b1 := hx2.blk b1
      have hy2 := hy1.trans hx2
      have gS := fun G => f13 (a := a) (b := b) (c1 := c1) (c2 := c2) ((hy2.sl hx).app G) ((hy2.sl hy).app G) (by omega)
      have gT := fun G => f14 (a := a) (b := b) (c1 := c1) (c2 := c2) ((hy2.sl hx).app G) ((hy2.sl hy).app G) (by omega)
      obtain ⟨ka, rfl⟩ : ∃ k : Nat, a = k := ⟨a.toNat, by have := lng_kind (of_decide_eq_true ha).1; omega⟩
      obtain ⟨kb, rfl⟩ : ∃ k : Nat, b = k := ⟨b.toNat, by have := lng_kind (of_decide_eq_true hb).1; omega⟩
      have ka8 := lng_kind (of_decide_eq_true ha).1
      have kb8 := lng_kind (of_decide_eq_true hb).1
      rw [Int.toNat_natCast] at b1 b2
      simp only [Int.toNat_natCast]
      have e : decide ((⟨((encB ka xs).map UInt8.ofNat).toArray⟩ : ByteArray) = ⟨((encB kb ys).map UInt8.ofNat).toArray⟩) = decide ((ka : Int) = kb ∧ xs = ys) := decide_eq_decide.2 (by
        rw [← encB_inj wx wy ha hb, ← bytes_eq (encB_By (by omega)) (encB_By (by omega))]
        constructor
        · intro h
          have := congrArg ByteArray.data h
          simpa using this
        · intro h
          rw [h])
      have s1 := strC_u8 (encB ka xs)
      have s2 := strC_u8 (encB kb ys)
      have t1 : ((encB ka xs).map u8).take (encB ka xs).length = (encB ka xs).map u8 := takeMapF _
      have t2 : ((encB kb ys).map u8).take (encB kb ys).length = (encB kb ys).map u8 := takeMapF _
      generalize encB ka xs = B1 at *
      generalize encB kb ys = B2 at *
      generalize decide ((ka : Int) = kb ∧ xs = ys) = D at *
      have gS0 := gS []
      rw [List.append_nil] at gS0
      simp (maxSteps := 1000000) (disch := omega) only [go_sem, Nat.reduceEqDiff, Nat.reduceLT, Nat.reduceAdd, Nat.reduceSub, Nat.reduceMul, Nat.reduceBEq, Int.reduceLT, Int.reduceAdd, Int.reduceMul, Int.reduceSub, Int.reduceToNat, Int.reduceLE, Int.reduceEq, ↓reduceIte, reduceCtorEq, Int.reduceNeg, Nat.reduceLeDiff,  bA, bB, b1, b2, s1, s2, t1, t2, List.length_map, Nat.le_refl, e]
      refine callP_intro (fun G' => gS G') ?_
      simp (maxSteps := 1000000) (disch := omega) only [go_sem, Nat.reduceEqDiff, Nat.reduceLT, Nat.reduceAdd, Nat.reduceSub, Nat.reduceMul, Nat.reduceBEq, Int.reduceLT, Int.reduceAdd, Int.reduceMul, Int.reduceSub, Int.reduceToNat, Int.reduceLE, Int.reduceEq, ↓reduceIte, reduceCtorEq, Int.reduceNeg, Nat.reduceLeDiff,  bA, bB]
      refine callP_intro (fun G' => gT G') ?_
      simp (maxSteps := 1000000) (disch := omega) only [go_sem, Nat.reduceEqDiff, Nat.reduceLT, Nat.reduceAdd, Nat.reduceSub, Nat.reduceMul, Nat.reduceBEq, Int.reduceLT, Int.reduceAdd, Int.reduceMul, Int.reduceSub, Int.reduceToNat, Int.reduceLE, Int.reduceEq, ↓reduceIte, reduceCtorEq, Int.reduceNeg, Nat.reduceLeDiff,  bA, bB]
      first | refine callB_intro (gS0) ?_ | refine callD_intro (gS0) ?_ | refine callP_intro (fun _ => (gS0)) ?_ | refine callX_pure (gS0) ?_
      simp (maxSteps := 1000000) (disch := omega) only [go_sem, Nat.reduceEqDiff, Nat.reduceLT, Nat.reduceAdd, Nat.reduceSub, Nat.reduceMul, Nat.reduceBEq, Int.reduceLT, Int.reduceAdd, Int.reduceMul, Int.reduceSub, Int.reduceToNat, Int.reduceLE, Int.reduceEq, ↓reduceIte, reduceCtorEq, Int.reduceNeg, Nat.reduceLeDiff]
      exact fin_ext (by simp) hy2 (by simp (maxSteps := 1000000) (disch := omega) only [resVal, resAll, resOne, rs3, Env.get, go_sem, Nat.reduceEqDiff, Nat.reduceLT, Nat.reduceAdd, Nat.reduceSub, Nat.reduceMul, Nat.reduceBEq, Int.reduceLT, Int.reduceAdd, Int.reduceMul, Int.reduceSub, Int.reduceToNat, Int.reduceLE, Int.reduceEq, ↓reduceIte, reduceCtorEq, Int.reduceNeg, Nat.reduceLeDiff]) (by simp only [AV.und, AV.unds, and_self])
theorem f5 (s : Smp) (l : List Int) (p off : Nat) (c : Option Nat) (H : Heap) (hs : Sl i64 H p off l) (hl : l.length ≤ 140737488351232) : ACall Try.prog 5 [.agg s.av, .sl p off l.length 1 c] H (.bool true) H := by
  refine acall5 (by simp) (acs_start ?_)
  have av1 : s.av.length = 13 := rfl
  have av2 : s.av.all AV.cell = true := rfl
  have av3 : List.take 13 s.av = s.av := rfl
  unfold c5
  by_cases h100 : 100 < l.length
  · have h1 : (100 : Int) < (l.length : Int) := by omega
    simp (maxSteps := 1000000) (disch := omega) only [go_sem, Nat.reduceEqDiff, Nat.reduceLT, Nat.reduceAdd, Nat.reduceSub, Nat.reduceMul, Nat.reduceBEq, Int.reduceLT, Int.reduceAdd, Int.reduceMul, Int.reduceSub, Int.reduceToNat, Int.reduceLE, Int.reduceEq, ↓reduceIte, reduceCtorEq, Int.reduceNeg, Nat.reduceLeDiff,  av1, av2]
    first | refine callB_intro (f10 _) ?_ | refine callD_intro (f10 _) ?_ | refine callP_intro (fun _ => (f10 _)) ?_ | refine callX_pure (f10 _) ?_
    simp (maxSteps := 1000000) (disch := omega) only [go_sem, Nat.reduceEqDiff, Nat.reduceLT, Nat.reduceAdd, Nat.reduceSub, Nat.reduceMul, Nat.reduceBEq, Int.reduceLT, Int.reduceAdd, Int.reduceMul, Int.reduceSub, Int.reduceToNat, Int.reduceLE, Int.reduceEq, ↓reduceIte, reduceCtorEq, Int.reduceNeg, Nat.reduceLeDiff,  h1]
    exact fin_same (by simp) _ (by first | exact (List.append_nil _).symm | rfl) (by simp (maxSteps := 1000000) (disch := omega) only [resVal, resAll, resOne, rs5, Env.get, go_sem, Nat.reduceEqDiff, Nat.reduceLT, Nat.reduceAdd, Nat.reduceSub, Nat.reduceMul, Nat.reduceBEq, Int.reduceLT, Int.reduceAdd, Int.reduceMul, Int.reduceSub, Int.reduceToNat, Int.reduceLE, Int.reduceEq, ↓reduceIte, reduceCtorEq, Int.reduceNeg, Nat.reduceLeDiff]) (by simp only [AV.und, AV.unds, and_self])
  have h1 : ¬ (100 : Int) < (l.length : Int) := by omega
  have gU := fun G => f16 (c := c) (hs.app G) (by omega)
  have gW := fun G => f17 (c := c) (hs.app G) (by omega)
  have gP := fun H => f15 s H
  have gQ := fun H => f19 s H
  have u1 : (upkS l).av.length = 13 := rfl
  have u2 : (upkS l).av.all AV.cell = true := rfl
  have u3 : List.take 13 (upkS l).av = (upkS l).av := rfl
  have lp : (pk s).length = 13 := rfl
  simp (maxSteps := 1000000) (disch := omega) only [go_sem, Nat.reduceEqDiff, Nat.reduceLT, Nat.reduceAdd, Nat.reduceSub, Nat.reduceMul, Nat.reduceBEq, Int.reduceLT, Int.reduceAdd, Int.reduceMul, Int.reduceSub, Int.reduceToNat, Int.reduceLE, Int.reduceEq, ↓reduceIte, reduceCtorEq, Int.reduceNeg, Nat.reduceLeDiff,  av1, av2]
  first | refine callB_intro (f10 _) ?_ | refine callD_intro (f10 _) ?_ | refine callP_intro (fun _ => (f10 _)) ?_ | refine callX_pure (f10 _) ?_
  simp (maxSteps := 1000000) (disch := omega) only [go_sem, Nat.reduceEqDiff, Nat.reduceLT, Nat.reduceAdd, Nat.reduceSub, Nat.reduceMul, Nat.reduceBEq, Int.reduceLT, Int.reduceAdd, Int.reduceMul, Int.reduceSub, Int.reduceToNat, Int.reduceLE, Int.reduceEq, ↓reduceIte, reduceCtorEq, Int.reduceNeg, Nat.reduceLeDiff,  h1]
  first | refine callB_intro (gU _) ?_ | refine callD_intro (gU _) ?_ | refine callP_intro (fun _ => (gU _)) ?_ | refine callX_pure (gU _) ?_
  simp (maxSteps := 1000000) (disch := omega) only [go_sem, Nat.reduceEqDiff, Nat.reduceLT, Nat.reduceAdd, Nat.reduceSub, Nat.reduceMul, Nat.reduceBEq, Int.reduceLT, Int.reduceAdd, Int.reduceMul, Int.reduceSub, Int.reduceToNat, Int.reduceLE, Int.reduceEq, ↓reduceIte, reduceCtorEq, Int.reduceNeg, Nat.reduceLeDiff,  u1, u2, u3]
  first | refine callB_intro (gW _) ?_ | refine callD_intro (gW _) ?_ | refine callP_intro (fun _ => (gW _)) ?_ | refine callX_pure (gW _) ?_
  simp (maxSteps := 1000000) (disch := omega) only [go_sem, Nat.reduceEqDiff, Nat.reduceLT, Nat.reduceAdd, Nat.reduceSub, Nat.reduceMul, Nat.reduceBEq, Int.reduceLT, Int.reduceAdd, Int.reduceMul, Int.reduceSub, Int.reduceToNat, Int.reduceLE, Int.reduceEq, ↓reduceIte, reduceCtorEq, Int.reduceNeg, Nat.reduceLeDiff,  u1, u2, u3, av1, av3]
  first | refine callBE (gP _) ?_ | refine callDE (gP _) ?_ | refine callXE (gP _) ?_
  rintro v1 H1 hx1 ⟨p1, o1, c1, rfl, s1⟩
  have b0 := hx1.blk (b := H.length) (x := ⟨s.av, true⟩) (by simp only [go_sem, Nat.reduceEqDiff, Nat.reduceLT, Nat.reduceAdd, Nat.reduceSub, Nat.reduceMul, Nat.reduceBEq, Int.reduceLT, Int.reduceAdd, Int.reduceMul, Int.reduceSub, Int.reduceToNat, Int.reduceLE, Int.reduceEq, ↓reduceIte, reduceCtorEq, Int.reduceNeg, Nat.reduceLeDiff])
  have b1 := hx1.blk (b := H.length + 1) (x := ⟨(upkS l).av, true⟩) (by simp only [go_sem, Nat.reduceEqDiff, Nat.reduceLT, Nat.reduceAdd, Nat.reduceSub, Nat.reduceMul, Nat.reduceBEq, Int.reduceLT, Int.reduceAdd, Int.reduceMul, Int.reduceSub, Int.reduceToNat, Int.reduceLE, Int.reduceEq, ↓reduceIte, reduceCtorEq, Int.reduceNeg, Nat.reduceLeDiff])
  have b2 := hx1.blk (b := H.length + 2) (x := ⟨(upkS l).av, true⟩) (by simp only [go_sem, Nat.reduceEqDiff, Nat.reduceLT, Nat.reduceAdd, Nat.reduceSub, Nat.reduceMul, Nat.reduceBEq, Int.reduceLT, Int.reduceAdd, Int.reduceMul, Int.reduceSub, Int.reduceToNat, Int.reduceLE, Int.reduceEq, ↓reduceIte, reduceCtorEq, Int.reduceNeg, Nat.reduceLeDiff])
  have hy1 : Ext H H1 := (Ext.app _ _).trans hx1
  simp (maxSteps := 1000000) (disch := omega) only [go_sem, Nat.reduceEqDiff, Nat.reduceLT, Nat.reduceAdd, Nat.reduceSub, Nat.reduceMul, Nat.reduceBEq, Int.reduceLT, Int.reduceAdd, Int.reduceMul, Int.reduceSub, Int.reduceToNat, Int.reduceLE, Int.reduceEq, ↓reduceIte, reduceCtorEq, Int.reduceNeg, Nat.reduceLeDiff,  b0, av1, av3]
  first | refine callBE (gQ _) ?_ | refine callDE (gQ _) ?_ | refine callXE (gQ _) ?_
  rintro v2 H2 hx2 ⟨p2, o2, c2, rfl, s2⟩
  replace b1 := hx2.blk b1
  replace b2 := hx2.blk b2
  have gI := f18 (c1 := c1) (c2 := c2) (hx2.sl s1) s2 (by omega)
  simp only [decide_true] at gI
  unfold Smp.av at b1 b2
  simp (maxSteps := 1000000) (disch := omega) only [go_sem, Nat.reduceEqDiff, Nat.reduceLT, Nat.reduceAdd, Nat.reduceSub, Nat.reduceMul, Nat.reduceBEq, Int.reduceLT, Int.reduceAdd, Int.reduceMul, Int.reduceSub, Int.reduceToNat, Int.reduceLE, Int.reduceEq, ↓reduceIte, reduceCtorEq, Int.reduceNeg, Nat.reduceLeDiff]
  first | refine callB_intro (gI) ?_ | refine callD_intro (gI) ?_ | refine callP_intro (fun _ => (gI)) ?_ | refine callX_pure (gI) ?_
  simp (maxSteps := 1000000) (disch := omega) only [go_sem, Nat.reduceEqDiff, Nat.reduceLT, Nat.reduceAdd, Nat.reduceSub, Nat.reduceMul, Nat.reduceBEq, Int.reduceLT, Int.reduceAdd, Int.reduceMul, Int.reduceSub, Int.reduceToNat, Int.reduceLE, Int.reduceEq, ↓reduceIte, reduceCtorEq, Int.reduceNeg, Nat.reduceLeDiff,  b1, b2]
  exact fin_ext (by simp) (hy1.trans hx2) (by simp (maxSteps := 1000000) (disch := omega) only [resVal, resAll, resOne, rs5, Env.get, go_sem, Nat.reduceEqDiff, Nat.reduceLT, Nat.reduceAdd, Nat.reduceSub, Nat.reduceMul, Nat.reduceBEq, Int.reduceLT, Int.reduceAdd, Int.reduceMul, Int.reduceSub, Int.reduceToNat, Int.reduceLE, Int.reduceEq, ↓reduceIte, reduceCtorEq, Int.reduceNeg, Nat.reduceLeDiff]) (by simp only [AV.und, AV.unds, and_self])
end Go.Proofs.Ytjibphejlmiocaa.Ah
