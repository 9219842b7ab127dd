/- V08r: a part of the proof: contracts of functions, or plain laws. Conditions: none. -/
import Derived.Test.YtjibphejlmiocaaV08q
namespace Go.Proofs.Ytjibphejlmiocaa.Ah
open Go Go.WideShapes
attribute [local irreducible] acs aopsK drawK leave condK bindR bindD bindX guardK guardD callB callD callX callP callPv rfunG rfunK yldB yldD
attribute [local go_sem] acs_nil acs_blk acs_skip acs_reg acs_dreg acs_freg acs_nam0 acs_nam nones acs_seq acs_cond acs_block acs_exit acs_ret acs_kl acs_loop leave_nil leave_code leave_lp leave_blk aopsK_nil aopsK_cons aopsK_guard bindR_val bindR_need bindR_br bindR_call bindR_ycall acs_rfun rfunG_fn bindR_bad drawK_nil drawK_cons drawK_ext drawK_pur drawK_guard callPv_fn drawK_purv bindD_val bindD_need bindD_br bindD_call bindD_ycall bindD_bad bindX_val bindX_need bindX_br bindX_call guardD_bool guardD_tup grows grows0 List.append_cancel_left_eq List.cons.injEq exists_eq' exists_eq condK_bool guardK_bool guardK_tup sor r0 r1 r2 r3 rC rB rI rP rA rT rS rF rSl rO rbin rcut run1 Env.evals Env.eval Env.get Env.put Env.ins Env.del Env.dels argEnv AV.full AV.cells AV.cell eqCells decide_true decide_false decide_eq_true_eq decide_eq_false_iff_not Bool.not_eq_true' Bool.not_eq_false' true_and and_true false_implies true_implies forall_const Bool.not_true Bool.not_false Bool.false_eq_true Bool.true_eq_false List.getElem?_cons_zero List.getElem?_cons_succ List.length_cons List.length_nil List.length_append List.all_cons List.all_nil Bool.and_true Bool.and_self implies_true List.append_assoc List.cons_append List.nil_append List.append_nil i64_in imin_eq imax_eq cast3 cast0 cast1 cast2 Option.map_none ite_self and_false false_and Option.isSome_some or_true true_or Int.sub_zero Int.mul_one Nat.sub_zero Nat.zero_le Int.cast_ofNat_Int Int.natCast_nonneg Int.toNat_natCast ne_eq not_false_eq_true not_true_eq_false strC blkAt_app blkAt_app0 blkAt_zero blkAt_succ List.set_cons_zero List.set_cons_succ set_app set_app0 Option.map_some Option.bind_some rd setCells lay rdS szOk rapp ownAt lenAt Option.any_some Option.getD_some List.drop_zero List.drop_succ_cons List.take_succ_cons List.take_zero List.drop_nil List.take_nil Nat.lt_irrefl Nat.zero_add Nat.add_zero Nat.mul_one Nat.one_mul Nat.add_assoc Option.some.injEq eq_self
set_option maxHeartbeats 4000000
set_option linter.unusedSimpArgs false
set_option linter.unusedVariables false
/-! A frame of bytes. -/
def dk (zs : List Nat) : Int := ((zs.headD 0 : Nat) : Int)
def wd (zs : List Nat) (k : Nat) : Int := IntKind.i64.wrap ((num 0 ((zs.drop (1 + 8 * k)).take 8) : Nat) : Int)
def decW (zs : List Nat) (m : Nat) : List Int := (List.range m).map (wd zs)
/-- What stands on the way. -/
structure DI (H : Heap) (Z : List AV) (kk : Int) (S : AV) (L : AV) (ws : List Int) (k : Nat) (X : Heap) : Prop where
  ext : Ext H X
  b0 : blkAt X H.length = some ⟨[.int .i64 0, .nils], true⟩
  b1 : blkAt X (H.length + 1) = some ⟨Z, false⟩
  b2 : ∃ w, blkAt X (H.length + 2) = some ⟨[.int .i64 kk, w], true⟩ ∧ (k = 0 ∧ w = .nils ∨ ∃ q, H.length + 5 < q ∧ w = .sl q 0 k 1 none ∧ blkAt X q = some ⟨(ws.take k).map i64, true⟩)
  b3 : blkAt X (H.length + 3) = some ⟨[S], true⟩
  b4 : blkAt X (H.length + 4) = some ⟨[.int .i64 8], true⟩
  b5 : blkAt X (H.length + 5) = some ⟨[L], true⟩
theorem DI.turn {H : Heap} {Z : List AV} {kk : Int} {S L L2 : AV} {ws : List Int} {k : Nat} {X : Heap} (d : DI H Z kk S L ws k X) : DI H Z kk S L2 ws k (X.set (H.length + 5) (some ⟨[L2], true⟩)) := by
  obtain ⟨w, h1, h2⟩ := d.b2
  refine ⟨d.ext.set (by omega) _, ?_, ?_, ⟨w, ?_, ?_⟩, ?_, ?_, blkAt_set_self (blkAt_lt d.b5) _⟩
  · rw [blkAt_set_ne (by omega)]; exact d.b0
  · rw [blkAt_set_ne (by omega)]; exact d.b1
  · rw [blkAt_set_ne (by omega)]; exact h1
  · rcases h2 with h2 | ⟨q, h3, h4, h5⟩
    · exact .inl h2
    · exact .inr ⟨q, h3, h4, by rw [blkAt_set_ne (by omega)]; exact h5⟩
  · rw [blkAt_set_ne (by omega)]; exact d.b3
  · rw [blkAt_set_ne (by omega)]; exact d.b4
theorem DI.next {H : Heap} {Z : List AV} {kk : Int} {S L : AV} {ws : List Int} {k : Nat} {X Y : Heap} (d : DI H Z kk S L ws k X) (he : Ext H Y) (hs : ∀ i, i ≤ 5 → i ≠ 2 → blkAt Y (H.length + i) = blkAt X (H.length + i)) {q : Nat} (hq : H.length + 5 < q)
    (h2 : blkAt Y (H.length + 2) = some ⟨[.int .i64 kk, .sl q 0 (k + 1) 1 none], true⟩) (h5 : blkAt Y q = some ⟨(ws.take (k + 1)).map i64, true⟩) : DI H Z kk S L ws (k + 1) Y :=
  ⟨he, by rw [← d.b0]; exact hs 0 (by omega) (by omega), by rw [← d.b1]; exact hs 1 (by omega) (by omega), ⟨_, h2, .inr ⟨q, hq, rfl, h5⟩⟩, by rw [← d.b3]; exact hs 3 (by omega) (by omega), by rw [← d.b4]; exact hs 4 (by omega) (by omega), by rw [← d.b5]; exact hs 5 (by omega) (by omega)⟩
theorem f20_body {H : Heap} {Z : List AV} {kk : Int} {S L : AV} {ws : List Int} {k : Nat} {X : Heap} {bs : List Nat} {x : Int} {Q : Post} (d : DI H Z kk S L ws k X) (hk : ws[k]? = some x) (hx : x = IntKind.i64.wrap ((num 0 bs : Nat) : Int))
    (hbs : ∀ X, blkAt X (H.length + 1) = some ⟨Z, false⟩ → Sl u8 X (H.length + 1) (1 + 8 * k) bs) (lb : bs.length = 8) (hz : By bs) (hl : ws.length ≤ 18) (hq : ∀ T' X', DI H Z kk S L ws (k + 1) X' → Q .normal T' X') :
    acs Try.prog [.code c20l0] [(6, .ptr (H.length + 2) 0), (7, .sl (H.length + 1) (1 + 8 * k) 8 1 (some 8))] X Q := by
  obtain ⟨w, h1, h2⟩ := d.b2
  have hkl : k < ws.length := (List.getElem?_eq_some_iff.1 hk).1
  have g35 : ∀ G, ACall Try.prog 35 [.sl (H.length + 1) (1 + 8 * k) 8 1 (some 8)] (X ++ G) (.int .i64 x) (X ++ G) := fun G => by
    have := f35 (cp := some 8) ((hbs X d.b1).app G) hz (by omega)
    rw [lb, ← hx] at this
    exact this
  have lt2 := blkAt_lt h1
  unfold c20l0
  rcases h2 with ⟨rfl, rfl⟩ | ⟨q, h3, rfl, h5⟩
  · simp (maxSteps := 1000000) (disch := omega) only [go_sem, Nat.reduceEqDiff, Nat.reduceLT, Nat.reduceAdd, Nat.reduceSub, Nat.reduceMul, Nat.reduceBEq, Int.reduceLT, Int.reduceAdd, Int.reduceMul, Int.reduceSub, Int.reduceToNat, Int.reduceLE, Int.reduceEq, ↓reduceIte, reduceCtorEq, Int.reduceNeg, Nat.reduceLeDiff,  h1, lt2, blkAt_lo, set_lo]
    refine callP_intro g35 ?_
    simp (maxSteps := 1000000) (disch := omega) only [go_sem, Nat.reduceEqDiff, Nat.reduceLT, Nat.reduceAdd, Nat.reduceSub, Nat.reduceMul, Nat.reduceBEq, Int.reduceLT, Int.reduceAdd, Int.reduceMul, Int.reduceSub, Int.reduceToNat, Int.reduceLE, Int.reduceEq, ↓reduceIte, reduceCtorEq, Int.reduceNeg, Nat.reduceLeDiff,  h1, lt2, blkAt_lo, set_lo]
    have l5 := blkAt_lt d.b5
    refine hq _ _ (d.next (q := X.length + 1) ((d.ext.set (by omega) _).to _) (fun i h6 h7 => ?_) (by omega) ?_ ?_)
    · rw [blkAt_lo _ (by rw [List.length_set]; omega), blkAt_set_ne (by omega)]
    · rw [blkAt_lo _ (by rw [List.length_set]; omega), blkAt_set_self lt2]
    · have := blkAt_app (X.set (H.length + 2) (some ⟨[.int .i64 kk, .sl (X.length + 1) 0 1 1 none], true⟩)) [some ⟨[.int .i64 x], true⟩, some ⟨[.int .i64 x], true⟩] 1
      rw [List.length_set] at this
      rw [this, List.take_add_one, hk]
      rfl
  · have lq := blkAt_lt h5
    have hlw : ((ws.take k).map i64).length = k := by simp; omega
    have htk : (ws.take (k + 1)).map i64 = (ws.take k).map i64 ++ [.int .i64 x] := by rw [List.take_add_one, hk, List.map_append]; rfl
    have hW0 : List.take k ((ws.take k).map i64) = (ws.take k).map i64 := by rw [List.take_of_length_le (by rw [hlw]; exact Nat.le_refl _)]
    have big : (k + 1) * 8 ≤ 140737488355328 := by omega
    have h1' : ∀ G, blkAt (X.set q none ++ G) (H.length + 2) = some ⟨[.int .i64 kk, .sl q 0 k 1 none], true⟩ := fun G => by rw [blkAt_lo _ (by rw [List.length_set]; omega), blkAt_set_ne (by omega)]; exact h1
    have l5 := blkAt_lt d.b5
    generalize hW : (ws.take k).map i64 = W at *
    simp (maxSteps := 1000000) (disch := omega) only [go_sem, Nat.reduceEqDiff, Nat.reduceLT, Nat.reduceAdd, Nat.reduceSub, Nat.reduceMul, Nat.reduceBEq, Int.reduceLT, Int.reduceAdd, Int.reduceMul, Int.reduceSub, Int.reduceToNat, Int.reduceLE, Int.reduceEq, ↓reduceIte, reduceCtorEq, Int.reduceNeg, Nat.reduceLeDiff,  h1, lt2, h5, lq, blkAt_lo, set_lo]
    refine callP_intro g35 ?_
    simp (maxSteps := 1000000) (disch := omega) only [go_sem, Nat.reduceEqDiff, Nat.reduceLT, Nat.reduceAdd, Nat.reduceSub, Nat.reduceMul, Nat.reduceBEq, Int.reduceLT, Int.reduceAdd, Int.reduceMul, Int.reduceSub, Int.reduceToNat, Int.reduceLE, Int.reduceEq, ↓reduceIte, reduceCtorEq, Int.reduceNeg, Nat.reduceLeDiff,  h1, lt2, h5, lq, blkAt_lo, set_lo, hlw, hW0, big, Nat.le_refl, h1', List.length_set]
    refine hq _ _ (d.next (q := X.length + 1) (Ext.set (b := H.length + 2) ((Ext.set (b := q) d.ext (by omega) none).to _) (by omega) _) (fun i h6 h7 => ?_) (by omega) ?_ ?_)
    · rw [blkAt_set_ne (by omega), blkAt_lo _ (by simp only [List.length_set]; omega), blkAt_set_ne (by omega)]
    · rw [blkAt_set_self (by simp only [List.length_append, List.length_set]; omega)]
    · have := blkAt_app (X.set q none) [some ⟨[.int .i64 x], true⟩, some ⟨W ++ [.int .i64 x], true⟩] 1
      rw [List.length_set] at this
      rw [blkAt_set_ne (by omega), this, htk]
      rfl
theorem dk_get {zs : List Nat} {n : Nat} (h : 0 < n) (hn : n ≤ zs.length) : ((zs.take n).map u8)[0]? = some (.int .u8 (dk zs)) := by
  cases zs with
  | nil => simp at hn; omega
  | cons z r =>
    obtain ⟨m, rfl⟩ : ∃ m, n = m + 1 := ⟨n - 1, by omega⟩
    rfl
theorem dk_in {zs : List Nat} (hz : By zs) : 0 ≤ dk zs ∧ dk zs ≤ 255 := by
  unfold dk
  cases zs with
  | nil => simp
  | cons z r => have := hz z (by simp); simp; omega
theorem f20_ok {zs : List Nat} {p off m : Nat} {cp : Option Nat} {H : Heap} (hs : Sl u8 H p off zs) (hz : By zs) (hn : zs.length = 1 + 8 * m + 4) (hm : lng (dk zs) = (m : Int)) (h0 : 0 < m) (hw : whole zs (1 + 8 * m) = true) :
    ACallE Try.prog 20 [.sl p off zs.length 1 cp] H fun v H' => ∃ w, v = .tup [.agg [.int .i64 (dk zs), w], .int .i64 0] ∧ Rw i64 H' w (decW zs m) := by
  have hm18 : m ≤ 18 := by have := (lng_in (dk zs)).2; omega
  have g33 := fun G => f33_ok (cp := cp) (hs.app G) hz hn (by omega) hw
  have fz := dk_get (zs := zs) (n := 1 + 8 * m) (by omega) (by omega)
  have hd := dk_in hz
  have g21 := fun G => f21 (dk zs) G
  have lZ : ((zs.take (1 + 8 * m)).map u8).length = 1 + 8 * m := by simp; omega
  rw [hm] at g21
  generalize hZ : (zs.take (1 + 8 * m)).map u8 = Z at *
  generalize hk : dk zs = k at *
  refine acallE (fun v Hf h => acallK20 (by simp) h) (acs_start ?_)
  unfold c20
  simp (maxSteps := 1000000) (disch := omega) only [go_sem, Nat.reduceEqDiff, Nat.reduceLT, Nat.reduceAdd, Nat.reduceSub, Nat.reduceMul, Nat.reduceBEq, Int.reduceLT, Int.reduceAdd, Int.reduceMul, Int.reduceSub, Int.reduceToNat, Int.reduceLE, Int.reduceEq, ↓reduceIte, reduceCtorEq, Int.reduceNeg, Nat.reduceLeDiff]
  first | refine callB_intro (g33 _) ?_ | refine callD_intro (g33 _) ?_ | refine callP_intro (fun _ => (g33 _)) ?_ | refine callX_pure (g33 _) ?_
  have e1 : ¬ ((1 + 8 * m : Nat) : Int) = 0 := by omega
  have e2 : (0 : Int) < ((1 + 8 * m : Nat) : Int) := by omega
  have e3 : ¬ (m : Int) = 0 := by omega
  simp (maxSteps := 1000000) (disch := omega) only [go_sem, Nat.reduceEqDiff, Nat.reduceLT, Nat.reduceAdd, Nat.reduceSub, Nat.reduceMul, Nat.reduceBEq, Int.reduceLT, Int.reduceAdd, Int.reduceMul, Int.reduceSub, Int.reduceToNat, Int.reduceLE, Int.reduceEq, ↓reduceIte, reduceCtorEq, Int.reduceNeg, Nat.reduceLeDiff,  fz, e1, e2]
  first | refine callB_intro (g21 _) ?_ | refine callD_intro (g21 _) ?_ | refine callP_intro (fun _ => (g21 _)) ?_ | refine callX_pure (g21 _) ?_
  simp (maxSteps := 1000000) (disch := omega) only [go_sem, Nat.reduceEqDiff, Nat.reduceLT, Nat.reduceAdd, Nat.reduceSub, Nat.reduceMul, Nat.reduceBEq, Int.reduceLT, Int.reduceAdd, Int.reduceMul, Int.reduceSub, Int.reduceToNat, Int.reduceLE, Int.reduceEq, ↓reduceIte, reduceCtorEq, Int.reduceNeg, Nat.reduceLeDiff,  fz, e1, e2, e3]
  first | refine callB_intro (g21 _) ?_ | refine callD_intro (g21 _) ?_ | refine callP_intro (fun _ => (g21 _)) ?_ | refine callX_pure (g21 _) ?_
  have e4 : ((1 + 8 * m : Nat) : Int) = 1 + 8 * (m : Int) := by omega
  have e5 : (1 : Int) ≤ 1 + 8 * (m : Int) := by omega
  have e6 : 1 + 8 * m - 1 = 8 * m := by omega
  have e7 : (0 : Int) < 1 + 8 * (m : Int) := by omega
  simp (maxSteps := 1000000) (disch := omega) only [go_sem, Nat.reduceEqDiff, Nat.reduceLT, Nat.reduceAdd, Nat.reduceSub, Nat.reduceMul, Nat.reduceBEq, Int.reduceLT, Int.reduceAdd, Int.reduceMul, Int.reduceSub, Int.reduceToNat, Int.reduceLE, Int.reduceEq, ↓reduceIte, reduceCtorEq, Int.reduceNeg, Nat.reduceLeDiff,  fz, e1, e2, e3, e4, e5, e6, e7]
  first | refine callB_intro (f34) ?_ | refine callD_intro (f34) ?_ | refine callP_intro (fun _ => (f34)) ?_ | refine callX_pure (f34) ?_
  simp (maxSteps := 1000000) (disch := omega) only [go_sem, Nat.reduceEqDiff, Nat.reduceLT, Nat.reduceAdd, Nat.reduceSub, Nat.reduceMul, Nat.reduceBEq, Int.reduceLT, Int.reduceAdd, Int.reduceMul, Int.reduceSub, Int.reduceToNat, Int.reduceLE, Int.reduceEq, ↓reduceIte, reduceCtorEq, Int.reduceNeg, Nat.reduceLeDiff]
  have hbs : ∀ j X, j < m → blkAt X (H.length + 1) = some ⟨Z, false⟩ → Sl u8 X (H.length + 1) (1 + 8 * j) ((zs.drop (1 + 8 * j)).take 8) := by
    intro j X hj hX
    rw [← hZ] at hX
    have s1 : Sl u8 X (H.length + 1) 0 (zs.take (1 + 8 * m)) := Sl.whole (o := false) hX
    have s2 := (s1.drop (n := 1 + 8 * j) (by rw [List.length_take]; omega)).take 8
    rw [Nat.zero_add] at s2
    have e : List.take 8 (List.drop (1 + 8 * j) (List.take (1 + 8 * m) zs)) = (zs.drop (1 + 8 * j)).take 8 := by
      rw [List.drop_take, List.take_take]
      congr 1
      omega
    rwa [e] at s2
  have hyl : ∀ (L : AV) (T : Env), T = [(2, .ptr H.length 0), (6, .ptr (H.length + 2) 0), (50, .fn (.func 42) [] [.ptr (H.length + 3) 0, .ptr (H.length + 4) 0])] → L = loopB Try.prog 60 [51] c20l1 c20l0 T → ∀ j X, 8 * j < 8 * m → DI H Z k (.sl (H.length + 1) 1 (8 * m) 1 none) L (decW zs m) j X →
      ∃ X', AYield Try.prog (H.length + 5) [.sl (H.length + 1) (1 + 8 * j) (min 8 (8 * m - 8 * j)) 1 (some (min 8 (8 * m - 8 * j)))] X (.bool true) X' ∧ DI H Z k (.sl (H.length + 1) 1 (8 * m) 1 none) L (decW zs m) (j + 1) X' := by
    rintro L T hT rfl j X hj d
    have hj' : j < m := by omega
    have em : min 8 (8 * m - 8 * j) = 8 := by omega
    rw [em]
    refine ayieldX d.b5 (by rw [hT]; rfl) rfl rfl rfl rfl (acs_start ?_)
    rw [hT]
    conv in Fr.code c20l1 => unfold c20l1
    simp (maxSteps := 1000000) (disch := omega) only [go_sem, Nat.reduceEqDiff, Nat.reduceLT, Nat.reduceAdd, Nat.reduceSub, Nat.reduceMul, Nat.reduceBEq, Int.reduceLT, Int.reduceAdd, Int.reduceMul, Int.reduceSub, Int.reduceToNat, Int.reduceLE, Int.reduceEq, ↓reduceIte, reduceCtorEq, Int.reduceNeg, Nat.reduceLeDiff,  puts]
    refine ⟨rfl, by rw [d.b5, hT], acs_start ?_⟩
    have d2 := d.turn (L2 := loopB Try.prog 60 [51] c20l1 c20l0 T false)
    rw [hT] at d2
    refine f20_body d2 (x := wd zs j) (bs := (zs.drop (1 + 8 * j)).take 8) (by simp [decW, hj']) rfl (fun X hX => hbs j X hj' hX) (by simp; omega) (fun x hx => hz x (List.mem_of_mem_drop (List.mem_of_mem_take hx))) (by simp [decW]; omega) ?_
    intro T' X' d3
    refine ⟨rfl, d3.b5, ?_⟩
    rw [← hT]
    exact d3.turn
  have hy := hyl _ _ rfl rfl
  generalize loopB Try.prog 60 [51] c20l1 c20l0 _ = L at *
  refine ⟨hb42, rfunX (f42 (Inv := fun j X => DI H Z k (.sl (H.length + 1) 1 (8 * m) 1 none) L (decW zs m) j X) (L := 8 * m) (cp := none) (fun j X d => ⟨⟨_, d.b3⟩, _, d.b4⟩) (by omega) hy ?_) ?_⟩
  · exact ⟨(Ext.app _ _).to _, by simp only [go_sem, Nat.reduceEqDiff, Nat.reduceLT, Nat.reduceAdd, Nat.reduceSub, Nat.reduceMul, Nat.reduceBEq, Int.reduceLT, Int.reduceAdd, Int.reduceMul, Int.reduceSub, Int.reduceToNat, Int.reduceLE, Int.reduceEq, ↓reduceIte, reduceCtorEq, Int.reduceNeg, Nat.reduceLeDiff], by simp only [go_sem, Nat.reduceEqDiff, Nat.reduceLT, Nat.reduceAdd, Nat.reduceSub, Nat.reduceMul, Nat.reduceBEq, Int.reduceLT, Int.reduceAdd, Int.reduceMul, Int.reduceSub, Int.reduceToNat, Int.reduceLE, Int.reduceEq, ↓reduceIte, reduceCtorEq, Int.reduceNeg, Nat.reduceLeDiff], ⟨_, by simp only [go_sem, Nat.reduceEqDiff, Nat.reduceLT, Nat.reduceAdd, Nat.reduceSub, Nat.reduceMul, Nat.reduceBEq, Int.reduceLT, Int.reduceAdd, Int.reduceMul, Int.reduceSub, Int.reduceToNat, Int.reduceLE, Int.reduceEq, ↓reduceIte, reduceCtorEq, Int.reduceNeg, Nat.reduceLeDiff], .inl ⟨rfl, rfl⟩⟩, by simp only [go_sem, Nat.reduceEqDiff, Nat.reduceLT, Nat.reduceAdd, Nat.reduceSub, Nat.reduceMul, Nat.reduceBEq, Int.reduceLT, Int.reduceAdd, Int.reduceMul, Int.reduceSub, Int.reduceToNat, Int.reduceLE, Int.reduceEq, ↓reduceIte, reduceCtorEq, Int.reduceNeg, Nat.reduceLeDiff], by simp only [go_sem, Nat.reduceEqDiff, Nat.reduceLT, Nat.reduceAdd, Nat.reduceSub, Nat.reduceMul, Nat.reduceBEq, Int.reduceLT, Int.reduceAdd, Int.reduceMul, Int.reduceSub, Int.reduceToNat, Int.reduceLE, Int.reduceEq, ↓reduceIte, reduceCtorEq, Int.reduceNeg, Nat.reduceLeDiff], by simp only [go_sem, Nat.reduceEqDiff, Nat.reduceLT, Nat.reduceAdd, Nat.reduceSub, Nat.reduceMul, Nat.reduceBEq, Int.reduceLT, Int.reduceAdd, Int.reduceMul, Int.reduceSub, Int.reduceToNat, Int.reduceLE, Int.reduceEq, ↓reduceIte, reduceCtorEq, Int.reduceNeg, Nat.reduceLeDiff]⟩
  rintro v X ⟨rfl, d⟩
  have hm7 : (8 * m + 7) / 8 = m := by omega
  rw [hm7] at d
  have d2 := d.turn (L2 := L)
  obtain ⟨w, h2, h3⟩ := d.b2
  rcases h3 with ⟨h3, _⟩ | ⟨q, h3, rfl, h5⟩
  · omega
  simp only [List.length_append, List.length_cons, List.length_nil, Nat.reduceAdd, Nat.zero_add]
  refine ⟨d.b5, ?_⟩
  have l5 := blkAt_lt d.b5
  have k2 : blkAt (X.set (H.length + 5) none) (H.length + 2) = some ⟨[.int .i64 k, .sl q 0 m 1 none], true⟩ := by rw [blkAt_set_ne (by omega)]; exact h2
  have k0 : blkAt (X.set (H.length + 5) none) H.length = some ⟨[.int .i64 0, .nils], true⟩ := by rw [blkAt_set_ne (by omega)]; exact d.b0
  have k5 : blkAt (X.set (H.length + 5) none) q = some ⟨((decW zs m).take m).map i64, true⟩ := by rw [blkAt_set_ne (by omega)]; exact h5
  have kx : Ext H (X.set (H.length + 5) none) := d.ext.set (by omega) _
  have kl := blkAt_lt k0
  have hwl : (decW zs m).take m = decW zs m := List.take_of_length_le (by simp [decW])
  rw [hwl] at k5
  generalize X.set (H.length + 5) none = Y at *
  simp (maxSteps := 1000000) (disch := omega) only [go_sem, Nat.reduceEqDiff, Nat.reduceLT, Nat.reduceAdd, Nat.reduceSub, Nat.reduceMul, Nat.reduceBEq, Int.reduceLT, Int.reduceAdd, Int.reduceMul, Int.reduceSub, Int.reduceToNat, Int.reduceLE, Int.reduceEq, ↓reduceIte, reduceCtorEq, Int.reduceNeg, Nat.reduceLeDiff,  k2, k0]
  have hR := Rw.mk (f := i64) (H := Y.set H.length (some ⟨[.int .i64 k, .sl q 0 m 1 none], true⟩)) (p := q) (off := 0) (zs := decW zs m) none (Sl.whole (o := true) (by rw [blkAt_set_ne (by omega)]; exact k5))
  rw [show (decW zs m).length = m by simp [decW]] at hR
  refine fin_e (by simp) (by simp (maxSteps := 1000000) (disch := omega) only [resVal, resAll, resOne, rs20, Env.get, go_sem, Nat.reduceEqDiff, Nat.reduceLT, Nat.reduceAdd, Nat.reduceSub, Nat.reduceMul, Nat.reduceBEq, Int.reduceLT, Int.reduceAdd, Int.reduceMul, Int.reduceSub, Int.reduceToNat, Int.reduceLE, Int.reduceEq, ↓reduceIte, reduceCtorEq, Int.reduceNeg, Nat.reduceLeDiff, blkAt_set_self kl] <;> rfl) (kx.set (Nat.le_refl _) _) ⟨_, rfl, hR⟩
end Go.Proofs.Ytjibphejlmiocaa.Ah
