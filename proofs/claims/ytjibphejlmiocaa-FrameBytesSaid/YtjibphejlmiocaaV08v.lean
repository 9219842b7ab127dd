/- V08v: a part of the proof: contracts of functions, or plain laws. Conditions: none. -/
import Derived.Test.YtjibphejlmiocaaV08u
namespace Go.Proofs.Ytjibphejlmiocaa.Ah
open Go Go.WideShapes
attribute [local irreducible] acs aopsK drawK leave condK bindR bindD bindX guardK guardD callB callD callX callP callPv rfunG rfunK yldB yldD
attribute [local go_sem] acs_nil acs_blk acs_skip acs_reg acs_dreg acs_freg acs_nam0 acs_nam nones acs_seq acs_cond acs_block acs_exit acs_ret acs_kl acs_loop leave_nil leave_code leave_lp leave_blk aopsK_nil aopsK_cons aopsK_guard bindR_val bindR_need bindR_br bindR_call bindR_ycall acs_rfun rfunG_fn bindR_bad drawK_nil drawK_cons drawK_ext drawK_pur drawK_guard callPv_fn drawK_purv bindD_val bindD_need bindD_br bindD_call bindD_ycall bindD_bad bindX_val bindX_need bindX_br bindX_call guardD_bool guardD_tup grows grows0 List.append_cancel_left_eq List.cons.injEq exists_eq' exists_eq condK_bool guardK_bool guardK_tup sor r0 r1 r2 r3 rC rB rI rP rA rT rS rF rSl rO rbin rcut run1 Env.evals Env.eval Env.get Env.put Env.ins Env.del Env.dels argEnv AV.full AV.cells AV.cell eqCells decide_true decide_false decide_eq_true_eq decide_eq_false_iff_not Bool.not_eq_true' Bool.not_eq_false' true_and and_true false_implies true_implies forall_const Bool.not_true Bool.not_false Bool.false_eq_true Bool.true_eq_false List.getElem?_cons_zero List.getElem?_cons_succ List.length_cons List.length_nil List.length_append List.all_cons List.all_nil Bool.and_true Bool.and_self implies_true List.append_assoc List.cons_append List.nil_append List.append_nil i64_in imin_eq imax_eq cast3 cast0 cast1 cast2 Option.map_none ite_self and_false false_and Option.isSome_some or_true true_or Int.sub_zero Int.mul_one Nat.sub_zero Nat.zero_le Int.cast_ofNat_Int Int.natCast_nonneg Int.toNat_natCast ne_eq not_false_eq_true not_true_eq_false strC blkAt_app blkAt_app0 blkAt_zero blkAt_succ List.set_cons_zero List.set_cons_succ set_app set_app0 Option.map_some Option.bind_some rd setCells lay rdS szOk rapp ownAt lenAt Option.any_some Option.getD_some List.drop_zero List.drop_succ_cons List.take_succ_cons List.take_zero List.drop_nil List.take_nil Nat.lt_irrefl Nat.zero_add Nat.add_zero Nat.mul_one Nat.one_mul Nat.add_assoc Option.some.injEq eq_self
set_option maxHeartbeats 4000000
set_option linter.unusedSimpArgs false
set_option linter.unusedVariables false
/-! The document's frame of right bytes, told. -/
structure DJ (H : Heap) (Z : List AV) (kk : Int) (ws : List Int) (k : Nat) (X : Heap) : Prop where
  ext : Ext H X
  b0 : blkAt X H.length = some ⟨[.int .i64 0, .nils], true⟩
  b1 : blkAt X (H.length + 1) = some ⟨Z, false⟩
  b2 : ∃ w, blkAt X (H.length + 2) = some ⟨[.int .i64 kk, w], true⟩ ∧ (k = 0 ∧ w = .nils ∨ ∃ q, H.length + 2 < q ∧ w = .sl q 0 k 1 none ∧ blkAt X q = some ⟨(ws.take k).map i64, true⟩)
theorem DJ.next {H : Heap} {Z : List AV} {kk : Int} {ws : List Int} {k : Nat} {X Y : Heap} (d : DJ H Z kk ws k X) (he : Ext H Y) (hs : ∀ i, i ≤ 1 → blkAt Y (H.length + i) = blkAt X (H.length + i)) {q : Nat} (hq : H.length + 2 < q)
    (h2 : blkAt Y (H.length + 2) = some ⟨[.int .i64 kk, .sl q 0 (k + 1) 1 none], true⟩) (h5 : blkAt Y q = some ⟨(ws.take (k + 1)).map i64, true⟩) : DJ H Z kk ws (k + 1) Y :=
  ⟨he, by rw [← d.b0]; exact hs 0 (by omega), by rw [← d.b1]; exact hs 1 (by omega), ⟨_, h2, .inr ⟨q, hq, rfl, h5⟩⟩⟩
def tls : Nat → SC → SC
  | 0, s => s
  | n + 1, s => tls n (tl2 s)
def c23t : SC := tls 8 c23
theorem f23_out {H : Heap} {Z : List AV} {kk : Int} {zs : List Nat} {m n : Nat} {Q : Post} (hn : n = 1 + 8 * m) (hm : m ≤ 18) (lZ : Z.length = n) (hZ : (zs.take n).map u8 = Z) (hz : By zs) (hzl : n ≤ zs.length)
    (hq : ∀ X, DJ H Z kk (decW zs m) m X → acs Try.prog [.code c23t] [(2, .ptr H.length 0), (6, .ptr (H.length + 2) 0)] X Q) : ∀ (r j : Nat) (X : Heap), j + r = m → DJ H Z kk (decW zs m) j X →
    acs Try.prog [.lp c23l1, .blk 0, .code c23t] [(2, .ptr H.length 0), (4, .sl (H.length + 1) 0 n 1 none), (6, .ptr (H.length + 2) 0), (7, .int .i64 (m : Nat)), (8, .int .i64 (j : Nat))] X Q := by
  intro r
  induction r with
  | zero =>
    intro j X hj d
    obtain rfl : j = m := by omega
    have hge : ¬ (j : Int) < (j : Int) := by omega
    rw [acs_lp]; conv in Fr.code c23l1 => unfold c23l1
    simp (maxSteps := 1000000) (disch := omega) only [go_sem, Nat.reduceEqDiff, Nat.reduceLT, Nat.reduceAdd, Nat.reduceSub, Nat.reduceMul, Nat.reduceBEq, Int.reduceLT, Int.reduceAdd, Int.reduceMul, Int.reduceSub, Int.reduceToNat, Int.reduceLE, Int.reduceEq, ↓reduceIte, reduceCtorEq, Int.reduceNeg, Nat.reduceLeDiff,  hge]
    exact hq X d
  | succ r ih =>
    intro j X hj d
    have hjm : j < m := by omega
    have hlt : (j : Int) < (m : Int) := by omega
    obtain ⟨w, h1, h2⟩ := d.b2
    have hlen : (decW zs m).length = m := by simp [decW]
    have hk : (decW zs m)[j]? = some (wd zs j) := by simp [decW, hjm]
    have hin := fun K a2 a6 nx => f23_in (B := H.length) (j := j) (m := m) (n := n) (a2 := a2) (a6 := a6) (Z := Z) (X := X) (K := K) (Q := Q) (R := num 0 ((zs.drop (1 + 8 * j)).take 8)) d.b1 hn hm hjm lZ nx ((zs.drop (1 + 8 * j)).take 8) 0 0 (by simp; omega) (fun i x hx => by
      have hi : i < 8 := by
        have := (List.getElem?_eq_some_iff.1 hx).1
        simp at this
        omega
      rw [List.getElem?_take_of_lt hi, List.getElem?_drop] at hx
      refine ⟨?_, hz x (List.mem_of_getElem? hx)⟩
      rw [← hZ, Nat.zero_add]
      have hx2 : (zs.take n)[1 + 8 * j + i]? = some x := by rw [List.getElem?_take_of_lt (by omega)]; exact hx
      rw [getMapF hx2]
      rfl) (by decide) rfl
    have lt2 := blkAt_lt h1
    have hwd : IntKind.i64.wrap ((num 0 ((zs.drop (1 + 8 * j)).take 8) : Nat) : Int) = wd zs j := rfl
    have ih' := ih (j + 1)
    generalize num 0 ((zs.drop (1 + 8 * j)).take 8) = R at *
    generalize wd zs j = x at *
    generalize decW zs m = ws at *
    simp only [List.append_assoc, List.cons_append, List.nil_append, List.length_append, List.length_cons, List.length_nil, Nat.reduceAdd, Nat.add_assoc, Nat.zero_add, Nat.add_zero, Int.natCast_add, Int.cast_ofNat_Int, ] at ih'
    rw [acs_lp]; conv in Fr.code c23l1 => unfold c23l1
    simp (maxSteps := 1000000) (disch := omega) only [go_sem, Nat.reduceEqDiff, Nat.reduceLT, Nat.reduceAdd, Nat.reduceSub, Nat.reduceMul, Nat.reduceBEq, Int.reduceLT, Int.reduceAdd, Int.reduceMul, Int.reduceSub, Int.reduceToNat, Int.reduceLE, Int.reduceEq, ↓reduceIte, reduceCtorEq, Int.reduceNeg, Nat.reduceLeDiff,  hlt]
    refine hin _ _ _ ?_
    rcases h2 with ⟨rfl, rfl⟩ | ⟨q, h3, rfl, h5⟩
    · simp (maxSteps := 1000000) (disch := omega) only [go_sem, Nat.reduceEqDiff, Nat.reduceLT, Nat.reduceAdd, Nat.reduceSub, Nat.reduceMul, Nat.reduceBEq, Int.reduceLT, Int.reduceAdd, Int.reduceMul, Int.reduceSub, Int.reduceToNat, Int.reduceLE, Int.reduceEq, ↓reduceIte, reduceCtorEq, Int.reduceNeg, Nat.reduceLeDiff,  h1, lt2, blkAt_lo, set_lo, hwd]
      have dn : DJ H Z kk ws (0 + 1) (X.set (H.length + 2) (some ⟨[.int .i64 kk, .sl (X.length + 1) 0 1 1 none], true⟩) ++ [some ⟨[.int .i64 x], true⟩, some ⟨[.int .i64 x], true⟩]) := by
        refine d.next (q := X.length + 1) ((d.ext.set (by omega) _).to _) (fun i h6 => ?_) (by omega) ?_ ?_
        · rw [blkAt_lo _ (by rw [List.length_set]; omega), blkAt_set_ne (by omega)]
        · rw [blkAt_lo _ (by rw [List.length_set]; omega), blkAt_set_self lt2]
        · have := blkAt_app (X.set (H.length + 2) (some ⟨[.int .i64 kk, .sl (X.length + 1) 0 1 1 none], true⟩)) [some ⟨[.int .i64 x], true⟩, some ⟨[.int .i64 x], true⟩] 1
          rw [List.length_set] at this
          rw [this, List.take_add_one, hk]
          rfl
      exact ih' _ (by omega) dn
    · have lq := blkAt_lt h5
      have hlw : ((ws.take j).map i64).length = j := by simp; omega
      have htk : (ws.take (j + 1)).map i64 = (ws.take j).map i64 ++ [.int .i64 x] := by rw [List.take_add_one, hk, List.map_append]; rfl
      have hW0 : List.take j ((ws.take j).map i64) = (ws.take j).map i64 := by rw [List.take_of_length_le (by rw [hlw]; exact Nat.le_refl _)]
      have big : (j + 1) * 8 ≤ 140737488355328 := by omega
      have h1' : ∀ G, blkAt (X.set q none ++ G) (H.length + 2) = some ⟨[.int .i64 kk, .sl q 0 j 1 none], true⟩ := fun G => by rw [blkAt_lo _ (by rw [List.length_set]; omega), blkAt_set_ne (by omega)]; exact h1
      generalize hW : (ws.take j).map i64 = W at *
      simp (maxSteps := 1000000) (disch := omega) only [go_sem, Nat.reduceEqDiff, Nat.reduceLT, Nat.reduceAdd, Nat.reduceSub, Nat.reduceMul, Nat.reduceBEq, Int.reduceLT, Int.reduceAdd, Int.reduceMul, Int.reduceSub, Int.reduceToNat, Int.reduceLE, Int.reduceEq, ↓reduceIte, reduceCtorEq, Int.reduceNeg, Nat.reduceLeDiff,  h1, lt2, h5, lq, blkAt_lo, set_lo, hlw, hW0, big, Nat.le_refl, h1', List.length_set, hwd]
      have dn : DJ H Z kk ws (j + 1) ((X.set q none ++ [some ⟨[.int .i64 x], true⟩, some ⟨W ++ [.int .i64 x], true⟩] : Heap).set (H.length + 2) (some ⟨[.int .i64 kk, .sl (X.length + 1) 0 (j + 1) 1 none], true⟩)) := by
        refine d.next (q := X.length + 1) (Ext.set (b := H.length + 2) ((Ext.set (b := q) d.ext (by omega) none).to _) (by omega) _) (fun i h6 => ?_) (by omega) ?_ ?_
        · rw [blkAt_set_ne (by omega), blkAt_lo _ (by simp only [List.length_set]; omega), blkAt_set_ne (by omega)]
        · rw [blkAt_set_self (by simp only [List.length_append, List.length_set]; omega)]
        · have := blkAt_app (X.set q none) [some ⟨[.int .i64 x], true⟩, some ⟨W ++ [.int .i64 x], true⟩] 1
          rw [List.length_set] at this
          rw [blkAt_set_ne (by omega), this, htk]
          rfl
      exact ih' _ (by omega) dn
theorem f23_ok {zs : List Nat} {p off m : Nat} {cp : Option Nat} {H : Heap} (hs : Sl u8 H p off zs) (hz : By zs) (hn : zs.length = 1 + 8 * m + 4) (hm : lng (dk zs) = (m : Int)) (h0 : 0 < m) (hw : whole zs (1 + 8 * m) = true) :
    ACallE Try.prog 23 [.sl p off zs.length 1 cp] H fun v H' => ∃ w, v = .tup [.agg [.int .i64 (dk zs), w], .int .i64 0] ∧ Rw i64 H' w (decW zs m) := by
  have hm18 : m ≤ 18 := by have := (lng_in (dk zs)).2; omega
  have g37 := fun G => f37_ok (cp := cp) (hs.app G) hz hn (by omega) hw
  have fz := dk_get (zs := zs) (n := 1 + 8 * m) (by omega) (by omega)
  have hd := dk_in hz
  have g25 := fun G => f25 (dk zs) G
  have lZ : ((zs.take (1 + 8 * m)).map u8).length = 1 + 8 * m := by simp; omega
  rw [hm] at g25
  generalize hZ : (zs.take (1 + 8 * m)).map u8 = Z at *
  generalize hk : dk zs = k at *
  obtain ⟨n, hnn⟩ : ∃ n, n = 1 + 8 * m := ⟨_, rfl⟩
  rw [← hnn] at g37 lZ hZ
  refine acallE (fun v Hf h => acallK23 (by simp) h) (acs_start ?_)
  have e1 : ¬ (n : Int) = 0 := by omega
  have e2 : (0 : Int) < (n : Int) := by omega
  have e3 : ¬ (m : Int) = 0 := by omega
  have e4 : (n : Int) = 1 + 8 * (m : Int) := by omega
  have out := fun Q hq => f23_out (H := H) (Z := Z) (kk := k) (zs := zs) (m := m) (n := n) (Q := Q) hnn hm18 lZ hZ hz (by omega) hq m 0 _ (by omega) ⟨Ext.app H [some ⟨[.int .i64 0, .nils], true⟩, some ⟨Z, false⟩, some ⟨[.int .i64 k, .nils], true⟩], by simp only [go_sem, Nat.reduceEqDiff, Nat.reduceLT, Nat.reduceAdd, Nat.reduceSub, Nat.reduceMul, Nat.reduceBEq, Int.reduceLT, Int.reduceAdd, Int.reduceMul, Int.reduceSub, Int.reduceToNat, Int.reduceLE, Int.reduceEq, ↓reduceIte, reduceCtorEq, Int.reduceNeg, Nat.reduceLeDiff], by simp only [go_sem, Nat.reduceEqDiff, Nat.reduceLT, Nat.reduceAdd, Nat.reduceSub, Nat.reduceMul, Nat.reduceBEq, Int.reduceLT, Int.reduceAdd, Int.reduceMul, Int.reduceSub, Int.reduceToNat, Int.reduceLE, Int.reduceEq, ↓reduceIte, reduceCtorEq, Int.reduceNeg, Nat.reduceLeDiff], ⟨_, by simp only [go_sem, Nat.reduceEqDiff, Nat.reduceLT, Nat.reduceAdd, Nat.reduceSub, Nat.reduceMul, Nat.reduceBEq, Int.reduceLT, Int.reduceAdd, Int.reduceMul, Int.reduceSub, Int.reduceToNat, Int.reduceLE, Int.reduceEq, ↓reduceIte, reduceCtorEq, Int.reduceNeg, Nat.reduceLeDiff], .inl ⟨rfl, rfl⟩⟩⟩
  unfold c23t tls tls tls tls tls tls tls tls tls tl2 c23 at out
  unfold c23
  simp (maxSteps := 1000000) (disch := omega) only [go_sem, Nat.reduceEqDiff, Nat.reduceLT, Nat.reduceAdd, Nat.reduceSub, Nat.reduceMul, Nat.reduceBEq, Int.reduceLT, Int.reduceAdd, Int.reduceMul, Int.reduceSub, Int.reduceToNat, Int.reduceLE, Int.reduceEq, ↓reduceIte, reduceCtorEq, Int.reduceNeg, Nat.reduceLeDiff]
  first | refine callB_intro (g37 _) ?_ | refine callD_intro (g37 _) ?_ | refine callP_intro (fun _ => (g37 _)) ?_ | refine callX_pure (g37 _) ?_
  simp (maxSteps := 1000000) (disch := omega) only [go_sem, Nat.reduceEqDiff, Nat.reduceLT, Nat.reduceAdd, Nat.reduceSub, Nat.reduceMul, Nat.reduceBEq, Int.reduceLT, Int.reduceAdd, Int.reduceMul, Int.reduceSub, Int.reduceToNat, Int.reduceLE, Int.reduceEq, ↓reduceIte, reduceCtorEq, Int.reduceNeg, Nat.reduceLeDiff,  fz, e1, e2]
  first | refine callB_intro (g25 _) ?_ | refine callD_intro (g25 _) ?_ | refine callP_intro (fun _ => (g25 _)) ?_ | refine callX_pure (g25 _) ?_
  have e5 : ¬ ((n : Int) ≠ 1 + 8 * (m : Int)) := by omega
  rw [← e4] at e5
  simp (maxSteps := 1000000) (disch := omega) only [go_sem, Nat.reduceEqDiff, Nat.reduceLT, Nat.reduceAdd, Nat.reduceSub, Nat.reduceMul, Nat.reduceBEq, Int.reduceLT, Int.reduceAdd, Int.reduceMul, Int.reduceSub, Int.reduceToNat, Int.reduceLE, Int.reduceEq, ↓reduceIte, reduceCtorEq, Int.reduceNeg, Nat.reduceLeDiff,  fz, e1, e2, e3, ← e4]
  refine out _ ?_
  rintro X d
  obtain ⟨w, h2, h3⟩ := d.b2
  have k0 := d.b0
  have kl := blkAt_lt k0
  rcases h3 with ⟨h3, _⟩ | ⟨q, h3, rfl, h5⟩
  · omega
  have hwl : (decW zs m).take m = decW zs m := List.take_of_length_le (by simp [decW])
  rw [hwl] at h5
  simp (maxSteps := 1000000) (disch := omega) only [go_sem, Nat.reduceEqDiff, Nat.reduceLT, Nat.reduceAdd, Nat.reduceSub, Nat.reduceMul, Nat.reduceBEq, Int.reduceLT, Int.reduceAdd, Int.reduceMul, Int.reduceSub, Int.reduceToNat, Int.reduceLE, Int.reduceEq, ↓reduceIte, reduceCtorEq, Int.reduceNeg, Nat.reduceLeDiff,  h2, k0]
  have hR := Rw.mk (f := i64) (H := X.set H.length (some ⟨[.int .i64 k, .sl q 0 m 1 none], true⟩)) (p := q) (off := 0) (zs := decW zs m) none (Sl.whole (o := true) (by rw [blkAt_set_ne (by omega)]; exact h5))
  rw [show (decW zs m).length = m by simp [decW]] at hR
  refine fin_e (by simp) (by simp (maxSteps := 1000000) (disch := omega) only [resVal, resAll, resOne, rs23, Env.get, go_sem, Nat.reduceEqDiff, Nat.reduceLT, Nat.reduceAdd, Nat.reduceSub, Nat.reduceMul, Nat.reduceBEq, Int.reduceLT, Int.reduceAdd, Int.reduceMul, Int.reduceSub, Int.reduceToNat, Int.reduceLE, Int.reduceEq, ↓reduceIte, reduceCtorEq, Int.reduceNeg, Nat.reduceLeDiff, blkAt_set_self kl] <;> rfl) (d.ext.set (Nat.le_refl _) _) ⟨_, rfl, hR⟩
theorem f23 {zs : List Nat} {p off : Nat} {cp : Option Nat} {H : Heap} (hs : Sl u8 H p off zs) (hz : By zs) (hl : zs.length ≤ 35184372088832) :
    ACallE Try.prog 23 [.sl p off zs.length 1 cp] H fun v H' => ∃ w, v = .tup [.agg [.int .i64 (decK zs), w], .int .i64 (decE zs)] ∧ Rw i64 H' w (decL zs) := by
  by_cases he : decE zs = 0
  · obtain ⟨h1, h2, h3⟩ := dec_ok he
    have := f23_ok (cp := cp) hs hz h1 (decM_eq zs).1 h2 h3
    unfold decK decL
    rw [if_pos he, if_pos he, he]
    exact this
  · obtain ⟨h1, h2⟩ := dec_bad he
    rw [h1, h2]
    refine callE_nlr 1 ((f23_err (cp := cp) hs hz hl he).mono fun v H' _ hv => ?_)
    subst hv
    exact ⟨_, rfl, Rw.empty _⟩
end Go.Proofs.Ytjibphejlmiocaa.Ah
