/- Vf: a part of the proof: contracts of functions, or plain laws. Conditions: none. -/
import Derived.Test.YtaiboicipbhmhaaVe
namespace Go.Proofs.Ytaiboicipbhmhaa.Ah
open Go Go.WideShapes
attribute [local irreducible] acs aopsK drawK leave condK bindR bindD bindX guardK guardD callB callD callX callP callPv rfunG rfunK yldB yldD
attribute [local go_sem] Nat.reduceEqDiff Nat.reduceLT Nat.reduceAdd Nat.reduceSub Nat.reduceMul Nat.reduceBEq Int.reduceLT Int.reduceAdd Int.reduceMul Int.reduceSub Int.reduceToNat Int.reduceLE Int.reduceEq Int.reduceNeg Nat.reduceLeDiff
attribute [local go_sem] mop mget mfind mput mres keyed AV.isAgg beq_self_eq_true Bool.true_and Option.isSome_some List.set_cons_zero acs_nil acs_blk acs_skip acs_reg acs_dreg acs_freg acs_nam0 acs_nam nones acs_seq acs_cond acs_block acs_exit acs_ret acs_kl acs_loop leave_nil leave_code leave_lp leave_blk aopsK_nil aopsK_cons aopsK_guard bindR_val bindR_need bindR_br bindR_call bindR_ycall acs_rfun rfunG_fn bindR_bad drawK_nil drawK_cons drawK_wat bindW_val bindW_need bindW_br WatL_nil WatL_cons isP_ptr drawK_ext drawK_pur drawK_guard callPv_fn drawK_purv bindD_val bindD_need bindD_br bindD_call bindD_ycall bindD_bad bindX_val bindX_need bindX_br bindX_call guardD_bool guardD_tup grows grows0 List.append_cancel_left_eq List.cons.injEq exists_eq' exists_eq condK_bool guardK_bool guardK_tup sor r0 r1 r2 r3 rC rB rI rP rA rT rS rF rSl rO rbin rcut run1 Env.evals Env.eval Env.get Env.put Env.ins Env.del Env.dels argEnv AV.full AV.cells AV.cell eqCells decide_true decide_false decide_eq_true_eq decide_eq_false_iff_not Bool.not_eq_true' Bool.not_eq_false' true_and and_true false_implies true_implies forall_const Bool.not_true Bool.not_false Bool.false_eq_true Bool.true_eq_false List.getElem?_cons_zero List.getElem?_cons_succ List.length_cons List.length_nil List.length_append List.all_cons List.all_nil Bool.and_true Bool.and_self implies_true List.append_assoc List.cons_append List.nil_append List.append_nil i64_in imin_eq imax_eq cast3 cast0 cast1 cast2 Option.map_none ite_self and_false false_and Option.isSome_some or_true true_or Int.sub_zero Int.mul_one Nat.sub_zero Nat.zero_le Int.cast_ofNat_Int Int.natCast_nonneg Int.toNat_natCast ne_eq not_false_eq_true not_true_eq_false strC blkAt_app blkAt_app0 blkAt_zero blkAt_succ List.set_cons_zero List.set_cons_succ set_app set_app0 Option.map_some Option.bind_some rd setCells lay rdS szOk rapp ownAt lenAt Option.any_some Option.getD_some List.drop_zero List.drop_succ_cons List.take_succ_cons List.take_zero List.drop_nil List.take_nil Nat.lt_irrefl Nat.zero_add Nat.add_zero Nat.mul_one Nat.one_mul Nat.add_assoc Option.some.injEq eq_self
set_option maxHeartbeats 8000000
set_option linter.unusedSimpArgs false
set_option linter.unusedVariables false
set_option maxRecDepth 100000
def WP (s : Se) (p off n : Nat) (cp : Option Nat) (W : Nat) (H : Heap) (o : Option Hd) (v : AV) (H' : Heap) : Prop :=
  Ext (H.set W none) (H'.set W none) ∧ match o with
  | none => v = .bool false
  | some h => v = .bool true ∧ ∃ (S' : Stt) (an : AV), S'.ok (H'.set W none) ∧ S'.pu = (if h.st = true then tornP s.n.pu h.v.ws 13 else s.n.pu) ∧ AnsIs (H'.set W none) an h.ans ∧ blkAt H' W = some ⟨Wk ⟨s.t, S', h.v, h.c, h.l⟩ p off n cp an h.took h.st, true⟩
theorem Sl.shown {α : Type} {f : α → AV} {H : Heap} {p off b : Nat} {zs : List α} {x : Blk} (hs : Sl f (H.set b none) p off zs) (hb : blkAt H b = some x) : Sl f H p off zs := by
  have := hs.unset (some x)
  rwa [set_same hb] at this
theorem Ck.out {c : Ck} (h : c.ok = true) : 0 ≤ c.n ∧ c.n ≤ 4611686018427387904 ∧ 0 ≤ c.u ∧ c.u ≤ 4611686018427387904 ∧ 0 ≤ c.q ∧ c.q ≤ 4611686018427387904 := of_decide_eq_true h
section
variable {s : Se} {p off : Nat} {cp : Option Nat} {W : Nat} {H : Heap}
theorem f59 {x y e q o : Int} (hw : blkAt H W = some ⟨Wk s p off 5 cp .nils false false, true⟩) (hn : s.n.ok (H.set W none)) (hs : Sl i64 (H.set W none) p off [x, y, e, q, o]) (hl : lastP s.n.pu < 2305843009213693952) (hc : s.c.ok = true) :
    ACallX Try.prog 59 [.ptr W 0] H (WP s p off 5 cp W H (syncP s.v s.c s.l x y e q o)) := by
  refine acallX (fun v Hf h => acallK59 (by simp) h) (acs_start ?_)
  have hs2 := hs.shown hw
  have g80 := f80 (ns := [x, y, e, q, o]) hw hs2 rfl rfl
  have g55 := f55 o (-1) 4611686018427387904
  obtain ⟨c1, c2, c3, c4, c5, c6⟩ := Ck.out hc
  have g84 := fun H => f84 s.c.n s.c.u s.c.q H ⟨c1, c2⟩ ⟨c3, by omega⟩
  unfold vec at g84
  have hw0 := hw
  obtain ⟨cs, o', hp, hle, hcs⟩ := hs2
  have hwl := blkAt_lt hw
  have hpl := blkAt_lt hp
  have x2 := sl_get hcs (j := 2) rfl
  have x3 := sl_get hcs (j := 3) rfl
  have x4 := sl_get hcs (j := 4) rfl
  simp only [i64] at x2 x3 x4
  unfold Wk at hw
  unfold c59
  unfold syncP
  simp (maxSteps:=1000000) (disch:=omega) only [go_sem, ↓reduceIte, reduceCtorEq, hw, hwl, hp, hpl, x2, x3, x4]
  first | refine callB_intro (g80) ?_ | refine callD_intro (g80) ?_ | refine callP_intro (fun _ => (g80)) ?_ | refine callX_pure (g80) ?_
  by_cases h1 : mst s.v x y = true
  rotate_left
  · rw [if_neg (fun h => h1 h.1)]
    simp (maxSteps:=1000000) (disch:=omega) only [go_sem, ↓reduceIte, reduceCtorEq, h1]
    refine fin_x (by simp) (by simp (maxSteps:=1000000) (disch:=omega) only [resVal, resAll, resOne, rs59, Env.get, go_sem, ↓reduceIte, reduceCtorEq] <;> rfl) ⟨Ext.refl _, rfl⟩
  by_cases h2 : e = s.v.e
  rotate_left
  · rw [if_neg (fun h => h2 h.2.1)]
    simp (maxSteps:=1000000) (disch:=omega) only [go_sem, ↓reduceIte, reduceCtorEq, h1, h2, hw, hwl]
    refine fin_x (by simp) (by simp (maxSteps:=1000000) (disch:=omega) only [resVal, resAll, resOne, rs59, Env.get, go_sem, ↓reduceIte, reduceCtorEq] <;> rfl) ⟨Ext.refl _, rfl⟩
  by_cases h3 : -1 ≤ o ∧ o ≤ 4611686018427387904
  rotate_left
  · rw [if_neg (fun h => h3 h.2.2)]
    rw [decide_eq_false h3] at g55
    simp (maxSteps:=1000000) (disch:=omega) only [go_sem, ↓reduceIte, reduceCtorEq, h1, h2, hw, hwl]
    first | refine callB_intro (g55 _) ?_ | refine callD_intro (g55 _) ?_ | refine callP_intro (fun _ => (g55 _)) ?_ | refine callX_pure (g55 _) ?_
    simp (maxSteps:=1000000) (disch:=omega) only [go_sem, ↓reduceIte, reduceCtorEq]
    refine fin_x (by simp) (by simp (maxSteps:=1000000) (disch:=omega) only [resVal, resAll, resOne, rs59, Env.get, go_sem, ↓reduceIte, reduceCtorEq] <;> rfl) ⟨Ext.refl _, rfl⟩
  rw [if_pos ⟨h1, h2, h3⟩]
  rw [decide_eq_true h3] at g55
  unfold syncV
  have last : ∀ (s1 : Se) (st : Bool) (H1 : Heap) (hx : Ext (H.set W none) (H1.set W none)) (b1 : blkAt H1 W = some ⟨Wk s1 p off 5 cp .nils false st, true⟩), s1.c = s.c → s1.l = s.l → s1.t = s.t → s1.n.ok (H1.set W none) → s1.n.pu = (if st = true then tornP s.n.pu s1.v.ws 13 else s.n.pu) →
      ACallX Try.prog 83 [.ptr W 0, .int .i64 (imax (s.c.u - s.c.n) 0), .int .i64 0] H1 fun v H' => v = .tup [] ∧ WP s p off 5 cp W H (some ⟨s1.v, s.c, s.l, some (ansP s1.v x y (imax (s.c.u - s.c.n) 0) 0), false, st⟩) (.bool true) H' := by
    intro s1 st H1 hx b1 e1 e2 e3 k1 k2
    refine (f83 (ns := [x, y, e, q, o]) b1 (hx.sl hs) rfl rfl).mono ?_
    rintro v H2 ⟨rfl, hx2, an, h4, h5⟩
    obtain ⟨t, n, vv, c, l⟩ := s1
    simp only at e1 e2 e3 k1 k2
    subst e1 e2 e3
    exact ⟨rfl, hx.trans hx2, rfl, n, an, k1.ext hx2, k2, h4, h5⟩
  by_cases h4 : s.v.q < q
  · by_cases h5 : q ≤ 4611686018427387904
    · rw [if_pos ⟨h4, h5⟩, decide_eq_true ⟨h4, h5⟩]
      simp (maxSteps:=1000000) (disch:=omega) only [go_sem, ↓reduceIte, reduceCtorEq, h1, h2, hw, hwl]
      first | refine callB_intro (g55 _) ?_ | refine callD_intro (g55 _) ?_ | refine callP_intro (fun _ => (g55 _)) ?_ | refine callX_pure (g55 _) ?_
      simp (maxSteps:=1000000) (disch:=omega) only [go_sem, ↓reduceIte, reduceCtorEq, h4, h5, hw, hwl, blkAt_set_self, List.set_set, List.length_set]
      first | refine callBX (f82 (s := ⟨s.t, s.n, { s.v with q := q, y := o }, s.c, s.l⟩) (ns := [x, y, e, q, o]) (p := p) (off := off) (cp := cp) (an := .nils) (tk := false) (st := false) (blkAt_set_self hwl _) (by rw [List.set_set]; exact hn) (err_no (show 10 ≤ 600 by decide) hl)) ?_ | refine callDX (f82 (s := ⟨s.t, s.n, { s.v with q := q, y := o }, s.c, s.l⟩) (ns := [x, y, e, q, o]) (p := p) (off := off) (cp := cp) (an := .nils) (tk := false) (st := false) (blkAt_set_self hwl _) (by rw [List.set_set]; exact hn) (err_no (show 10 ≤ 600 by decide) hl)) ?_
      rintro v1 H1 ⟨rfl, hx1, S', k1, e1, b1⟩
      rw [List.set_set] at hx1
      have bl1 := blkAt_lt b1
      have b2 := b1
      unfold Wk at b2
      simp (maxSteps:=1000000) (disch:=omega) only [go_sem, ↓reduceIte, reduceCtorEq, b2, bl1]
      first | refine callB_intro (g84 _) ?_ | refine callD_intro (g84 _) ?_ | refine callP_intro (fun _ => (g84 _)) ?_ | refine callX_pure (g84 _) ?_
      simp (maxSteps:=1000000) (disch:=omega) only [go_sem, ↓reduceIte, reduceCtorEq]
      first | refine callBX (last ⟨s.t, S', { s.v with q := q, y := o }, s.c, s.l⟩ true H1 hx1 b1 rfl rfl rfl k1 e1) ?_ | refine callDX (last ⟨s.t, S', { s.v with q := q, y := o }, s.c, s.l⟩ true H1 hx1 b1 rfl rfl rfl k1 e1) ?_
      rintro v2 H2 ⟨rfl, hx2⟩
      simp (maxSteps:=1000000) (disch:=omega) only [go_sem, ↓reduceIte, reduceCtorEq]
      refine fin_x (by simp) (by simp (maxSteps:=1000000) (disch:=omega) only [resVal, resAll, resOne, rs59, Env.get, go_sem, ↓reduceIte, reduceCtorEq] <;> rfl) hx2
    · rw [if_neg (fun h => h5 h.2), decide_eq_false (fun h => h5 h.2)]
      simp (maxSteps:=1000000) (disch:=omega) only [go_sem, ↓reduceIte, reduceCtorEq, h1, h2, hw, hwl]
      first | refine callB_intro (g55 _) ?_ | refine callD_intro (g55 _) ?_ | refine callP_intro (fun _ => (g55 _)) ?_ | refine callX_pure (g55 _) ?_
      simp (maxSteps:=1000000) (disch:=omega) only [go_sem, ↓reduceIte, reduceCtorEq, h4, h5, hw, hwl]
      first | refine callB_intro (g84 _) ?_ | refine callD_intro (g84 _) ?_ | refine callP_intro (fun _ => (g84 _)) ?_ | refine callX_pure (g84 _) ?_
      simp (maxSteps:=1000000) (disch:=omega) only [go_sem, ↓reduceIte, reduceCtorEq]
      first | refine callBX (last s false H (Ext.refl _) hw0 rfl rfl rfl hn rfl) ?_ | refine callDX (last s false H (Ext.refl _) hw0 rfl rfl rfl hn rfl) ?_
      rintro v2 H2 ⟨rfl, hx2⟩
      simp (maxSteps:=1000000) (disch:=omega) only [go_sem, ↓reduceIte, reduceCtorEq]
      refine fin_x (by simp) (by simp (maxSteps:=1000000) (disch:=omega) only [resVal, resAll, resOne, rs59, Env.get, go_sem, ↓reduceIte, reduceCtorEq] <;> rfl) hx2
  · rw [if_neg (fun h => h4 h.1), decide_eq_false (fun h => h4 h.1)]
    simp (maxSteps:=1000000) (disch:=omega) only [go_sem, ↓reduceIte, reduceCtorEq, h1, h2, hw, hwl]
    first | refine callB_intro (g55 _) ?_ | refine callD_intro (g55 _) ?_ | refine callP_intro (fun _ => (g55 _)) ?_ | refine callX_pure (g55 _) ?_
    simp (maxSteps:=1000000) (disch:=omega) only [go_sem, ↓reduceIte, reduceCtorEq, h4, hw, hwl]
    first | refine callB_intro (g84 _) ?_ | refine callD_intro (g84 _) ?_ | refine callP_intro (fun _ => (g84 _)) ?_ | refine callX_pure (g84 _) ?_
    simp (maxSteps:=1000000) (disch:=omega) only [go_sem, ↓reduceIte, reduceCtorEq]
    first | refine callBX (last s false H (Ext.refl _) hw0 rfl rfl rfl hn rfl) ?_ | refine callDX (last s false H (Ext.refl _) hw0 rfl rfl rfl hn rfl) ?_
    rintro v2 H2 ⟨rfl, hx2⟩
    simp (maxSteps:=1000000) (disch:=omega) only [go_sem, ↓reduceIte, reduceCtorEq]
    refine fin_x (by simp) (by simp (maxSteps:=1000000) (disch:=omega) only [resVal, resAll, resOne, rs59, Env.get, go_sem, ↓reduceIte, reduceCtorEq] <;> rfl) hx2
theorem f60 {x y g e k a b d : Int} (hw : blkAt H W = some ⟨Wk s p off 8 cp .nils false false, true⟩) (hn : s.n.ok (H.set W none)) (hs : Sl i64 (H.set W none) p off [x, y, g, e, k, a, b, d]) (hl : lastP s.n.pu < 2305843009213693952) (ht : s.t.ok = true) (hll : 0 ≤ s.v.l ∧ s.v.l ≤ 4611686018427387904) (hb : BQ s.l.a ∧ BQ s.l.b ∧ BQ s.l.c) :
    ACallX Try.prog 60 [.ptr W 0] H (WP s p off 8 cp W H (outP s.t s.v s.c s.l x y g e k a b d)) := by
  refine acallX (fun v Hf h => acallK60 (by simp) h) (acs_start ?_)
  have hs2 := hs.shown hw
  have hwl := blkAt_lt hw
  have g80 := fun K => f80 (ns := [x, y, g, e, k, a, b, d]) ((blkAt_lo K hwl).trans hw) (hs2.app K) rfl rfl
  have g55 := f55 k (s.v.l + 1) 4611686018427387904
  have g77 := f77 a b d
  have hs3 : SQ s.t.e := by
    have := of_decide_eq_true (show mayT _ _ _ _ _ = true from ht)
    unfold SQ
    omega
  have hw0 := hw
  obtain ⟨cs, o', hp, hle, hcs⟩ := hs2
  have hpl := blkAt_lt hp
  have x2 := sl_get hcs (j := 2) rfl
  have x3 := sl_get hcs (j := 3) rfl
  have x4 := sl_get hcs (j := 4) rfl
  have x5 := sl_get hcs (j := 5) rfl
  have x6 := sl_get hcs (j := 6) rfl
  have x7 := sl_get hcs (j := 7) rfl
  simp only [i64] at x2 x3 x4 x5 x6 x7
  unfold Wk at hw
  unfold vec at g77
  unfold c60
  unfold outP
  simp (maxSteps:=1000000) (disch:=omega) only [go_sem, ↓reduceIte, reduceCtorEq, hw, hwl, hp, hpl, x5, x6, x7, blkAt_lo]
  first | refine callB_intro (g80 _) ?_ | refine callD_intro (g80 _) ?_ | refine callP_intro (fun _ => (g80 _)) ?_ | refine callX_pure (g80 _) ?_
  have none_ : ∀ H', Ext (H.set W none) ((H ++ H').set W none) := fun H' => by rw [set_lo _ _ hwl]; exact ⟨_, rfl⟩
  by_cases h1 : mst s.v x y = true
  rotate_left
  · rw [if_neg (fun h => h1 h.1)]
    simp (maxSteps:=1000000) (disch:=omega) only [go_sem, ↓reduceIte, reduceCtorEq, h1]
    refine fin_x (by simp) (by simp (maxSteps:=1000000) (disch:=omega) only [resVal, resAll, resOne, rs60, Env.get, go_sem, ↓reduceIte, reduceCtorEq] <;> rfl) ⟨none_ _, rfl⟩
  by_cases h2 : g = s.v.g
  rotate_left
  · rw [if_neg (fun h => h2 h.2.1)]
    simp (maxSteps:=1000000) (disch:=omega) only [go_sem, ↓reduceIte, reduceCtorEq, h1, h2, hw, hwl, hp, hpl, x2, blkAt_lo]
    refine fin_x (by simp) (by simp (maxSteps:=1000000) (disch:=omega) only [resVal, resAll, resOne, rs60, Env.get, go_sem, ↓reduceIte, reduceCtorEq] <;> rfl) ⟨none_ _, rfl⟩
  by_cases h3 : e = s.v.e
  rotate_left
  · rw [if_neg (fun h => h3 h.2.2.1)]
    simp (maxSteps:=1000000) (disch:=omega) only [go_sem, ↓reduceIte, reduceCtorEq, h1, h2, h3, hw, hwl, hp, hpl, x2, x3, blkAt_lo]
    refine fin_x (by simp) (by simp (maxSteps:=1000000) (disch:=omega) only [resVal, resAll, resOne, rs60, Env.get, go_sem, ↓reduceIte, reduceCtorEq] <;> rfl) ⟨none_ _, rfl⟩
  have hadd : -9223372036854775808 ≤ s.v.l + 1 ∧ s.v.l + 1 < 9223372036854775808 := by omega
  by_cases h4 : s.v.l + 1 ≤ k ∧ k ≤ 4611686018427387904
  rotate_left
  · rw [if_neg (fun h => h4 ⟨by omega, by omega⟩)]
    rw [decide_eq_false h4] at g55
    simp (maxSteps:=1000000) (disch:=omega) only [go_sem, ↓reduceIte, reduceCtorEq, h1, h2, h3, hw, hwl, hp, hpl, x2, x3, x4, blkAt_lo]
    first | refine callB_intro (g55 _) ?_ | refine callD_intro (g55 _) ?_ | refine callP_intro (fun _ => (g55 _)) ?_ | refine callX_pure (g55 _) ?_
    simp (maxSteps:=1000000) (disch:=omega) only [go_sem, ↓reduceIte, reduceCtorEq]
    refine fin_x (by simp) (by simp (maxSteps:=1000000) (disch:=omega) only [resVal, resAll, resOne, rs60, Env.get, go_sem, ↓reduceIte, reduceCtorEq] <;> rfl) ⟨none_ _, rfl⟩
  rw [decide_eq_true h4] at g55
  by_cases h5 : BQ a ∧ BQ b ∧ BQ d
  rotate_left
  · rw [if_neg (fun h => h5 ⟨h.2.2.2.2.2.1, h.2.2.2.2.2.2.1, h.2.2.2.2.2.2.2⟩)]
    unfold bqs at g77
    rw [decide_eq_false h5] at g77
    simp (maxSteps:=1000000) (disch:=omega) only [go_sem, ↓reduceIte, reduceCtorEq, h1, h2, h3, hw, hwl, hp, hpl, x2, x3, x4, blkAt_lo]
    first | refine callB_intro (g55 _) ?_ | refine callD_intro (g55 _) ?_ | refine callP_intro (fun _ => (g55 _)) ?_ | refine callX_pure (g55 _) ?_
    simp (maxSteps:=1000000) (disch:=omega) only [go_sem, ↓reduceIte, reduceCtorEq]
    first | refine callB_intro (g77 _) ?_ | refine callD_intro (g77 _) ?_ | refine callP_intro (fun _ => (g77 _)) ?_ | refine callX_pure (g77 _) ?_
    simp (maxSteps:=1000000) (disch:=omega) only [go_sem, ↓reduceIte, reduceCtorEq]
    refine fin_x (by simp) (by simp (maxSteps:=1000000) (disch:=omega) only [resVal, resAll, resOne, rs60, Env.get, go_sem, ↓reduceIte, reduceCtorEq] <;> rfl) ⟨none_ _, rfl⟩
  rw [if_pos ⟨h1, h2, h3, by omega, h4.2, h5.1, h5.2.1, h5.2.2⟩]
  unfold bqs at g77
  rw [decide_eq_true h5] at g77
  have g85 := fun H => f85 (since := s.l.s) (now := s.c.n) (stale := s.l.o) (H := H) hb.1 hb.2.1 hb.2.2 h5.1 h5.2.1 h5.2.2 hs3
  unfold latch vec at g85
  clear hs3 hb
  generalize mv1 s.l.a a s.t.e = A at *
  generalize mv1 s.l.b b s.t.e = B at *
  generalize mv1 s.l.c d s.t.e = D at *
  simp (maxSteps:=1000000) (disch:=omega) only [go_sem, ↓reduceIte, reduceCtorEq, h1, h2, h3, hw, hwl, hp, hpl, x2, x3, x4, blkAt_lo]
  first | refine callB_intro (g55 _) ?_ | refine callD_intro (g55 _) ?_ | refine callP_intro (fun _ => (g55 _)) ?_ | refine callX_pure (g55 _) ?_
  simp (maxSteps:=1000000) (disch:=omega) only [go_sem, ↓reduceIte, reduceCtorEq]
  first | refine callB_intro (g77 _) ?_ | refine callD_intro (g77 _) ?_ | refine callP_intro (fun _ => (g77 _)) ?_ | refine callX_pure (g77 _) ?_
  simp (maxSteps:=1000000) (disch:=omega) only [go_sem, ↓reduceIte, reduceCtorEq, hw, hwl, hp, hpl, x4, blkAt_lo, set_lo, blkAt_los, set_los, List.length_set, blkAt_set_self, List.set_set, blkAt_set_ne, blkAt_setapp, blkAt_setapp0]
  first | refine callB_intro (g85 _) ?_ | refine callD_intro (g85 _) ?_ | refine callP_intro (fun _ => (g85 _)) ?_ | refine callX_pure (g85 _) ?_
  simp (maxSteps:=1000000) (disch:=omega) only [go_sem, ↓reduceIte, reduceCtorEq, hwl, blkAt_los, set_los, List.length_set, blkAt_set_self, List.set_set]
  first | refine callBX (f82 (s := ⟨s.t, s.n, { s.v with l := k, a := A, b := B, c := D }, s.c, ⟨A, B, D, s.c.n, false⟩⟩) (ns := [x, y, g, e, k, a, b, d]) (p := p) (off := off) (cp := cp) (an := .nils) (tk := true) (st := false) ((blkAt_los _ _ hwl).trans (blkAt_set_self hwl _)) (by rw [set_los _ _ _ hwl, List.set_set]; exact hn.app _) (err_no (show 10 ≤ 600 by decide) hl)) ?_ | refine callDX (f82 (s := ⟨s.t, s.n, { s.v with l := k, a := A, b := B, c := D }, s.c, ⟨A, B, D, s.c.n, false⟩⟩) (ns := [x, y, g, e, k, a, b, d]) (p := p) (off := off) (cp := cp) (an := .nils) (tk := true) (st := false) ((blkAt_los _ _ hwl).trans (blkAt_set_self hwl _)) (by rw [set_los _ _ _ hwl, List.set_set]; exact hn.app _) (err_no (show 10 ≤ 600 by decide) hl)) ?_
  rintro v1 H1 ⟨rfl, hx1, S', k1, e1, b1⟩
  rw [set_los _ _ _ hwl, List.set_set] at hx1
  simp (maxSteps:=1000000) (disch:=omega) only [go_sem, ↓reduceIte, reduceCtorEq]
  refine fin_x (by simp) (by simp (maxSteps:=1000000) (disch:=omega) only [resVal, resAll, resOne, rs60, Env.get, go_sem, ↓reduceIte, reduceCtorEq] <;> rfl) ⟨(Ext.app _ _).trans hx1, rfl, S', .nils, k1, e1, rfl, b1⟩
end

theorem Tm.out {t : Tm} (h : t.ok = true) : 1 ≤ t.a ∧ t.a ≤ 1000000000 ∧ 1 ≤ t.b ∧ t.b ≤ 1000000000 ∧ 1 ≤ t.c ∧ t.c ≤ 1000000000 ∧ 1 ≤ t.d ∧ t.d ≤ 1000000000 ∧ t.a ≤ t.b ∧ 1 ≤ t.e ∧ t.e ≤ 70368744177663 := of_decide_eq_true h
theorem Vw.out {v : Vw} (h : v.ok = true) : 0 ≤ v.g ∧ v.g ≤ 4611686018427387904 ∧ 0 ≤ v.e ∧ v.e ≤ 4611686018427387904 ∧ 0 ≤ v.i ∧ v.i ≤ 4611686018427387904 ∧ 0 ≤ v.q ∧ v.q ≤ 4611686018427387904 ∧ 0 ≤ v.l ∧ v.l ≤ 4611686018427387904 ∧ -1 ≤ v.u ∧ v.u ≤ 1 ∧ -1 ≤ v.y ∧ v.y ≤ 4611686018427387904 ∧ BQ v.a ∧ BQ v.b ∧ BQ v.c := of_decide_eq_true h
section
variable {s : Se} {p off : Nat} {cp : Option Nat} {W : Nat} {H : Heap}
theorem f58 {x y z : Int} (hw : blkAt H W = some ⟨Wk s p off 3 cp .nils false false, true⟩) (hn : s.n.ok (H.set W none)) (hs : Sl i64 (H.set W none) p off [x, y, z]) (hl : lastP s.n.pu < 2305843009213693952) (ht : s.t.ok = true) (hc : s.c.ok = true) (hv : s.v.ok = true) :
    ACallX Try.prog 58 [.ptr W 0] H (WP s p off 3 cp W H (askP s.t s.v s.c s.l x y z)) := by
  refine acallX (fun v Hf h => acallK58 (by simp) h) (acs_start ?_)
  have hs2 := hs.shown hw
  have hwl := blkAt_lt hw
  obtain ⟨t1, t2, -⟩ := Tm.out ht
  obtain ⟨c1, c2, c3, c4, c5, c6⟩ := Ck.out hc
  obtain ⟨v1, v2, v3, v4, -, -, -, -, -, -, v5, v6, -⟩ := Vw.out hv
  have g80 := fun K G => f80 (ns := [x, y, z]) ((blkAt_lo G (by simp; omega)).trans ((blkAt_lo K hwl).trans hw)) ((hs2.app K).app G) rfl rfl
  have g81 := fun K G => f81 (ns := [x, y, z]) ((blkAt_lo G (by simp; omega)).trans ((blkAt_lo K hwl).trans hw)) ((hs2.app K).app G) rfl rfl ⟨v5, v6⟩
  have g1 := f55 x 0 1
  have g2 : ∀ H, ACall Try.prog 55 [.int .i64 y, .int .i64 0, .int .i64 4611686018427387904] H (.bool (num y)) H := f55 y 0 4611686018427387904
  have g3 : ∀ H, ACall Try.prog 55 [.int .i64 z, .int .i64 0, .int .i64 4611686018427387904] H (.bool (num z)) H := f55 z 0 4611686018427387904
  have g79 := fun H => f79 (a := s.t.a) (b := s.t.b) (c := s.t.c) (d := s.t.d) (e := s.t.e) (n := s.c.n) (u := s.c.u) (q := s.c.q) (mst s.v x y) (stp2 s.v x y) H ⟨c1, c2⟩ ⟨c3, by omega⟩ ⟨c5, c6⟩ ⟨t1, t2⟩
  have hh := how_in s.t.c s.c.n s.c.u s.c.q (mst s.v x y) (stp2 s.v x y)
  unfold tms vec lent at g79
  obtain ⟨R, hR⟩ : ∃ R, R = askP s.t s.v s.c s.l x y z := ⟨_, rfl⟩
  rw [← hR]
  unfold askP at hR
  generalize mst s.v x y = M1 at *
  generalize stp2 s.v x y = M2 at *
  generalize how s.t.c s.c.n s.c.u s.c.q M1 M2 = h at *
  have hw0 := hw
  obtain ⟨cs, o', hp, hle, hcs⟩ := hs2
  have hpl := blkAt_lt hp
  have x0 := sl_get hcs (j := 0) rfl
  have x1 := sl_get hcs (j := 1) rfl
  have x2 := sl_get hcs (j := 2) rfl
  simp only [i64, Nat.add_zero] at x0 x1 x2
  unfold Wk at hw
  have none_ : ∀ H', Ext (H.set W none) ((H ++ H').set W none) := fun H' => by rw [set_lo _ _ hwl]; exact ⟨_, rfl⟩
  have last : ∀ (s1 : Se) (st : Bool) (H1 : Heap) (hx : Ext (H.set W none) (H1.set W none)) (b1 : blkAt H1 W = some ⟨Wk s1 p off 3 cp .nils false st, true⟩), s1.c = ⟨s.c.n, s.c.n + s.t.a, s.c.q⟩ → s1.l = s.l → s1.t = s.t → s1.n.ok (H1.set W none) → s1.n.pu = (if st = true then tornP s.n.pu s1.v.ws 13 else s.n.pu) →
      ACallX Try.prog 83 [.ptr W 0, .int .i64 s.t.a, .int .i64 z] H1 fun v H' => v = .tup [] ∧ WP s p off 3 cp W H (some ⟨s1.v, ⟨s.c.n, s.c.n + s.t.a, s.c.q⟩, s.l, some (ansP s1.v x y s.t.a z), false, st⟩) (.bool true) H' := by
    intro s1 st H1 hx b1 e1 e2 e3 k1 k2
    refine (f83 (ns := [x, y, z]) b1 (hx.sl hs) rfl rfl).mono ?_
    rintro v H2 ⟨rfl, hx2, an, h4, h5⟩
    obtain ⟨t, n, vv, c, l⟩ := s1
    simp only at e1 e2 e3 k1 k2
    subst e1 e2 e3
    exact ⟨rfl, hx.trans hx2, rfl, n, an, k1.ext hx2, k2, h4, h5⟩
  unfold c58
  simp (maxSteps:=1000000) (disch:=omega) only [go_sem, ↓reduceIte, reduceCtorEq, hw, hwl, hp, hpl, x0, x1, x2]
  first | refine callB_intro (g1 _) ?_ | refine callD_intro (g1 _) ?_ | refine callP_intro (fun _ => (g1 _)) ?_ | refine callX_pure (g1 _) ?_
  by_cases a1 : 0 ≤ x ∧ x ≤ 1
  rotate_left
  · rw [if_neg (fun h => a1 ⟨h.1, h.2.1⟩)] at hR
    rw [hR, decide_eq_false a1]
    simp (maxSteps:=1000000) (disch:=omega) only [go_sem, ↓reduceIte, reduceCtorEq]
    refine fin_x (by simp) (by simp (maxSteps:=1000000) (disch:=omega) only [resVal, resAll, resOne, rs58, Env.get, go_sem, ↓reduceIte, reduceCtorEq] <;> rfl) ⟨Ext.refl _, rfl⟩
  rw [decide_eq_true a1]
  simp (maxSteps:=1000000) (disch:=omega) only [go_sem, ↓reduceIte, reduceCtorEq]
  first | refine callB_intro (g2 _) ?_ | refine callD_intro (g2 _) ?_ | refine callP_intro (fun _ => (g2 _)) ?_ | refine callX_pure (g2 _) ?_
  by_cases a2 : num y = true
  rotate_left
  · rw [if_neg (fun h => a2 h.2.2.1)] at hR
    rw [hR]
    simp (maxSteps:=1000000) (disch:=omega) only [go_sem, ↓reduceIte, reduceCtorEq, a2]
    refine fin_x (by simp) (by simp (maxSteps:=1000000) (disch:=omega) only [resVal, resAll, resOne, rs58, Env.get, go_sem, ↓reduceIte, reduceCtorEq] <;> rfl) ⟨Ext.refl _, rfl⟩
  simp (maxSteps:=1000000) (disch:=omega) only [go_sem, ↓reduceIte, reduceCtorEq, a2]
  first | refine callB_intro (g3 _) ?_ | refine callD_intro (g3 _) ?_ | refine callP_intro (fun _ => (g3 _)) ?_ | refine callX_pure (g3 _) ?_
  by_cases a3 : num z = true
  rotate_left
  · rw [if_neg (fun h => a3 h.2.2.2)] at hR
    rw [hR]
    simp (maxSteps:=1000000) (disch:=omega) only [go_sem, ↓reduceIte, reduceCtorEq, a3]
    refine fin_x (by simp) (by simp (maxSteps:=1000000) (disch:=omega) only [resVal, resAll, resOne, rs58, Env.get, go_sem, ↓reduceIte, reduceCtorEq] <;> rfl) ⟨Ext.refl _, rfl⟩
  rw [if_pos ⟨a1.1, a1.2, a2, a3⟩] at hR
  simp (maxSteps:=1000000) (disch:=omega) only [go_sem, ↓reduceIte, reduceCtorEq, a3, hw, hwl, blkAt_lo]
  first | refine callB_intro (g80 _ _) ?_ | refine callD_intro (g80 _ _) ?_ | refine callP_intro (fun _ => (g80 _ _)) ?_ | refine callX_pure (g80 _ _) ?_
  simp (maxSteps:=1000000) (disch:=omega) only [go_sem, ↓reduceIte, reduceCtorEq]
  first | refine callB_intro (g81 _ _) ?_ | refine callD_intro (g81 _ _) ?_ | refine callP_intro (fun _ => (g81 _ _)) ?_ | refine callX_pure (g81 _ _) ?_
  simp (maxSteps:=1000000) (disch:=omega) only [go_sem, ↓reduceIte, reduceCtorEq]
  first | refine callB_intro (g79 _) ?_ | refine callD_intro (g79 _) ?_ | refine callP_intro (fun _ => (g79 _)) ?_ | refine callX_pure (g79 _) ?_
  have hcase : h = 0 ∨ h = 1 ∨ h = 2 ∨ h = 3 ∨ h = 4 := by omega
  rcases hcase with rfl | rfl | rfl | rfl | rfl
  · rw [if_pos (.inl rfl)] at hR
    rw [hR]
    simp (maxSteps:=1000000) (disch:=omega) only [go_sem, ↓reduceIte, reduceCtorEq]
    refine fin_x (by simp) (by simp (maxSteps:=1000000) (disch:=omega) only [resVal, resAll, resOne, rs58, Env.get, go_sem, ↓reduceIte, reduceCtorEq] <;> rfl) ⟨none_ _, rfl⟩
  · rw [if_neg (by omega), show askV 1 s.v x y = s.v from rfl, show decide ((1 : Int) < 1) = false from rfl] at hR
    rw [hR]
    simp (maxSteps:=1000000) (disch:=omega) only [go_sem, ↓reduceIte, reduceCtorEq, hw, hwl, blkAt_lo, set_lo, blkAt_los, set_los, List.length_set, blkAt_set_self, List.set_set, blkAt_set_ne, blkAt_setapp, blkAt_setapp0]
    first | refine callBX (last ⟨s.t, s.n, s.v, ⟨s.c.n, s.c.n + s.t.a, s.c.q⟩, s.l⟩ false _ (by rw [set_los _ _ _ hwl, List.set_set]; exact ⟨_, rfl⟩) ((blkAt_los _ _ hwl).trans (blkAt_set_self hwl _)) rfl rfl rfl (by rw [set_los _ _ _ hwl, List.set_set]; exact hn.app _) rfl) ?_ | refine callDX (last ⟨s.t, s.n, s.v, ⟨s.c.n, s.c.n + s.t.a, s.c.q⟩, s.l⟩ false _ (by rw [set_los _ _ _ hwl, List.set_set]; exact ⟨_, rfl⟩) ((blkAt_los _ _ hwl).trans (blkAt_set_self hwl _)) rfl rfl rfl (by rw [set_los _ _ _ hwl, List.set_set]; exact hn.app _) rfl) ?_
    rintro v2 H2 ⟨rfl, hx2⟩
    simp (maxSteps:=1000000) (disch:=omega) only [go_sem, ↓reduceIte, reduceCtorEq]
    refine fin_x (by simp) (by simp (maxSteps:=1000000) (disch:=omega) only [resVal, resAll, resOne, rs58, Env.get, go_sem, ↓reduceIte, reduceCtorEq] <;> rfl) hx2
  · by_cases he : s.v.e = 4611686018427387904
    · rw [if_pos (.inr (.inl ⟨by omega, he⟩))] at hR
      rw [hR]
      simp (maxSteps:=1000000) (disch:=omega) only [go_sem, ↓reduceIte, reduceCtorEq, hw, hwl, blkAt_lo, set_lo, blkAt_los, set_los, List.length_set, blkAt_set_self, List.set_set, blkAt_set_ne, blkAt_setapp, blkAt_setapp0, he]
      refine fin_x (by simp) (by simp (maxSteps:=1000000) (disch:=omega) only [resVal, resAll, resOne, rs58, Env.get, go_sem, ↓reduceIte, reduceCtorEq] <;> rfl) ⟨by rw [set_lo _ _ hwl]; exact ⟨_, rfl⟩, rfl⟩
    rw [if_neg (by omega), show askV 2 s.v x y = { s.v with e := s.v.e + 1, q := 0 } from rfl, show decide ((1 : Int) < 2) = true from rfl] at hR
    rw [hR]
    simp (maxSteps:=1000000) (disch:=omega) only [go_sem, ↓reduceIte, reduceCtorEq, hw, hwl, blkAt_lo, set_lo, blkAt_los, set_los, List.length_set, blkAt_set_self, List.set_set, blkAt_set_ne, blkAt_setapp, blkAt_setapp0, he]
    first | refine callBX (f82 (s := ⟨s.t, s.n, { s.v with e := s.v.e + 1, q := 0 }, ⟨s.c.n, s.c.n + s.t.a, s.c.q⟩, s.l⟩) (ns := [x, y, z]) (p := p) (off := off) (cp := cp) (an := .nils) (tk := false) (st := false) ((blkAt_los _ _ hwl).trans (blkAt_set_self hwl _)) (by rw [set_los _ _ _ hwl, List.set_set]; exact hn.app _) (err_no (show 10 ≤ 600 by decide) hl)) ?_ | refine callDX (f82 (s := ⟨s.t, s.n, { s.v with e := s.v.e + 1, q := 0 }, ⟨s.c.n, s.c.n + s.t.a, s.c.q⟩, s.l⟩) (ns := [x, y, z]) (p := p) (off := off) (cp := cp) (an := .nils) (tk := false) (st := false) ((blkAt_los _ _ hwl).trans (blkAt_set_self hwl _)) (by rw [set_los _ _ _ hwl, List.set_set]; exact hn.app _) (err_no (show 10 ≤ 600 by decide) hl)) ?_
    rintro v1 H1 ⟨rfl, hx1, S', k1, e1, b1⟩
    rw [set_los _ _ _ hwl, List.set_set] at hx1
    have bl1 := blkAt_lt b1
    have b2 := b1
    unfold Wk at b2
    simp (maxSteps:=1000000) (disch:=omega) only [go_sem, ↓reduceIte, reduceCtorEq, b2, bl1]
    first | refine callBX (last ⟨s.t, S', { s.v with e := s.v.e + 1, q := 0 }, ⟨s.c.n, s.c.n + s.t.a, s.c.q⟩, s.l⟩ true H1 ((Ext.app _ _).trans hx1) b1 rfl rfl rfl k1 e1) ?_ | refine callDX (last ⟨s.t, S', { s.v with e := s.v.e + 1, q := 0 }, ⟨s.c.n, s.c.n + s.t.a, s.c.q⟩, s.l⟩ true H1 ((Ext.app _ _).trans hx1) b1 rfl rfl rfl k1 e1) ?_
    rintro v2 H2 ⟨rfl, hx2⟩
    simp (maxSteps:=1000000) (disch:=omega) only [go_sem, ↓reduceIte, reduceCtorEq]
    refine fin_x (by simp) (by simp (maxSteps:=1000000) (disch:=omega) only [resVal, resAll, resOne, rs58, Env.get, go_sem, ↓reduceIte, reduceCtorEq] <;> rfl) hx2
  · by_cases he : s.v.e = 4611686018427387904
    · rw [if_pos (.inr (.inl ⟨by omega, he⟩))] at hR
      rw [hR]
      simp (maxSteps:=1000000) (disch:=omega) only [go_sem, ↓reduceIte, reduceCtorEq, hw, hwl, blkAt_lo, set_lo, blkAt_los, set_los, List.length_set, blkAt_set_self, List.set_set, blkAt_set_ne, blkAt_setapp, blkAt_setapp0, he]
      refine fin_x (by simp) (by simp (maxSteps:=1000000) (disch:=omega) only [resVal, resAll, resOne, rs58, Env.get, go_sem, ↓reduceIte, reduceCtorEq] <;> rfl) ⟨by rw [set_lo _ _ hwl]; exact ⟨_, rfl⟩, rfl⟩
    rw [if_neg (by omega), show askV 3 s.v x y = { s.v with e := s.v.e + 1, q := 0, u := x, i := y, y := -1 } from rfl, show decide ((1 : Int) < 3) = true from rfl] at hR
    rw [hR]
    simp (maxSteps:=1000000) (disch:=omega) only [go_sem, ↓reduceIte, reduceCtorEq, hw, hwl, blkAt_lo, set_lo, blkAt_los, set_los, List.length_set, blkAt_set_self, List.set_set, blkAt_set_ne, blkAt_setapp, blkAt_setapp0, he]
    first | refine callBX (f82 (s := ⟨s.t, s.n, { s.v with e := s.v.e + 1, q := 0, u := x, i := y, y := -1 }, ⟨s.c.n, s.c.n + s.t.a, s.c.q⟩, s.l⟩) (ns := [x, y, z]) (p := p) (off := off) (cp := cp) (an := .nils) (tk := false) (st := false) ((blkAt_los _ _ hwl).trans (blkAt_set_self hwl _)) (by rw [set_los _ _ _ hwl, List.set_set]; exact hn.app _) (err_no (show 10 ≤ 600 by decide) hl)) ?_ | refine callDX (f82 (s := ⟨s.t, s.n, { s.v with e := s.v.e + 1, q := 0, u := x, i := y, y := -1 }, ⟨s.c.n, s.c.n + s.t.a, s.c.q⟩, s.l⟩) (ns := [x, y, z]) (p := p) (off := off) (cp := cp) (an := .nils) (tk := false) (st := false) ((blkAt_los _ _ hwl).trans (blkAt_set_self hwl _)) (by rw [set_los _ _ _ hwl, List.set_set]; exact hn.app _) (err_no (show 10 ≤ 600 by decide) hl)) ?_
    rintro v1 H1 ⟨rfl, hx1, S', k1, e1, b1⟩
    rw [set_los _ _ _ hwl, List.set_set] at hx1
    have bl1 := blkAt_lt b1
    have b2 := b1
    unfold Wk at b2
    simp (maxSteps:=1000000) (disch:=omega) only [go_sem, ↓reduceIte, reduceCtorEq, b2, bl1]
    first | refine callBX (last ⟨s.t, S', { s.v with e := s.v.e + 1, q := 0, u := x, i := y, y := -1 }, ⟨s.c.n, s.c.n + s.t.a, s.c.q⟩, s.l⟩ true H1 ((Ext.app _ _).trans hx1) b1 rfl rfl rfl k1 e1) ?_ | refine callDX (last ⟨s.t, S', { s.v with e := s.v.e + 1, q := 0, u := x, i := y, y := -1 }, ⟨s.c.n, s.c.n + s.t.a, s.c.q⟩, s.l⟩ true H1 ((Ext.app _ _).trans hx1) b1 rfl rfl rfl k1 e1) ?_
    rintro v2 H2 ⟨rfl, hx2⟩
    simp (maxSteps:=1000000) (disch:=omega) only [go_sem, ↓reduceIte, reduceCtorEq]
    refine fin_x (by simp) (by simp (maxSteps:=1000000) (disch:=omega) only [resVal, resAll, resOne, rs58, Env.get, go_sem, ↓reduceIte, reduceCtorEq] <;> rfl) hx2
  · by_cases he : s.v.e = 4611686018427387904
    · rw [if_pos (.inr (.inl ⟨by omega, he⟩))] at hR
      rw [hR]
      simp (maxSteps:=1000000) (disch:=omega) only [go_sem, ↓reduceIte, reduceCtorEq, hw, hwl, blkAt_lo, set_lo, blkAt_los, set_los, List.length_set, blkAt_set_self, List.set_set, blkAt_set_ne, blkAt_setapp, blkAt_setapp0, he]
      refine fin_x (by simp) (by simp (maxSteps:=1000000) (disch:=omega) only [resVal, resAll, resOne, rs58, Env.get, go_sem, ↓reduceIte, reduceCtorEq] <;> rfl) ⟨by rw [set_lo _ _ hwl]; exact ⟨_, rfl⟩, rfl⟩
    by_cases hg : s.v.g = 4611686018427387904
    · rw [if_pos (.inr (.inr ⟨rfl, hg⟩))] at hR
      rw [hR]
      simp (maxSteps:=1000000) (disch:=omega) only [go_sem, ↓reduceIte, reduceCtorEq, hw, hwl, blkAt_lo, set_lo, blkAt_los, set_los, List.length_set, blkAt_set_self, List.set_set, blkAt_set_ne, blkAt_setapp, blkAt_setapp0, he, hg]
      refine fin_x (by simp) (by simp (maxSteps:=1000000) (disch:=omega) only [resVal, resAll, resOne, rs58, Env.get, go_sem, ↓reduceIte, reduceCtorEq] <;> rfl) ⟨by rw [set_lo _ _ hwl]; exact ⟨_, rfl⟩, rfl⟩
    rw [if_neg (by omega), show askV 4 s.v x y = { s.v with e := s.v.e + 1, q := 0, u := x, i := y, y := -1, g := s.v.g + 1, l := 0 } from rfl, show decide ((1 : Int) < 4) = true from rfl] at hR
    rw [hR]
    simp (maxSteps:=1000000) (disch:=omega) only [go_sem, ↓reduceIte, reduceCtorEq, hw, hwl, blkAt_lo, set_lo, blkAt_los, set_los, List.length_set, blkAt_set_self, List.set_set, blkAt_set_ne, blkAt_setapp, blkAt_setapp0, he, hg]
    first | refine callBX (f82 (s := ⟨s.t, s.n, { s.v with e := s.v.e + 1, q := 0, u := x, i := y, y := -1, g := s.v.g + 1, l := 0 }, ⟨s.c.n, s.c.n + s.t.a, s.c.q⟩, s.l⟩) (ns := [x, y, z]) (p := p) (off := off) (cp := cp) (an := .nils) (tk := false) (st := false) ((blkAt_los _ _ hwl).trans (blkAt_set_self hwl _)) (by rw [set_los _ _ _ hwl, List.set_set]; exact hn.app _) (err_no (show 10 ≤ 600 by decide) hl)) ?_ | refine callDX (f82 (s := ⟨s.t, s.n, { s.v with e := s.v.e + 1, q := 0, u := x, i := y, y := -1, g := s.v.g + 1, l := 0 }, ⟨s.c.n, s.c.n + s.t.a, s.c.q⟩, s.l⟩) (ns := [x, y, z]) (p := p) (off := off) (cp := cp) (an := .nils) (tk := false) (st := false) ((blkAt_los _ _ hwl).trans (blkAt_set_self hwl _)) (by rw [set_los _ _ _ hwl, List.set_set]; exact hn.app _) (err_no (show 10 ≤ 600 by decide) hl)) ?_
    rintro v1 H1 ⟨rfl, hx1, S', k1, e1, b1⟩
    rw [set_los _ _ _ hwl, List.set_set] at hx1
    have bl1 := blkAt_lt b1
    have b2 := b1
    unfold Wk at b2
    simp (maxSteps:=1000000) (disch:=omega) only [go_sem, ↓reduceIte, reduceCtorEq, b2, bl1]
    first | refine callBX (last ⟨s.t, S', { s.v with e := s.v.e + 1, q := 0, u := x, i := y, y := -1, g := s.v.g + 1, l := 0 }, ⟨s.c.n, s.c.n + s.t.a, s.c.q⟩, s.l⟩ true H1 ((Ext.app _ _).trans hx1) b1 rfl rfl rfl k1 e1) ?_ | refine callDX (last ⟨s.t, S', { s.v with e := s.v.e + 1, q := 0, u := x, i := y, y := -1, g := s.v.g + 1, l := 0 }, ⟨s.c.n, s.c.n + s.t.a, s.c.q⟩, s.l⟩ true H1 ((Ext.app _ _).trans hx1) b1 rfl rfl rfl k1 e1) ?_
    rintro v2 H2 ⟨rfl, hx2⟩
    simp (maxSteps:=1000000) (disch:=omega) only [go_sem, ↓reduceIte, reduceCtorEq]
    refine fin_x (by simp) (by simp (maxSteps:=1000000) (disch:=omega) only [resVal, resAll, resOne, rs58, Env.get, go_sem, ↓reduceIte, reduceCtorEq] <;> rfl) hx2
end

theorem ext_of_get {H H' : Heap} (hl : H.length ≤ H'.length) (h : ∀ p, p < H.length → H'[p]? = H[p]?) : Ext H H' := by
  refine ⟨H'.drop H.length, ?_⟩
  refine List.ext_getElem? fun p => ?_
  by_cases hp : p < H.length
  · rw [List.getElem?_append_left hp, h p hp]
  · rw [List.getElem?_append_right (by omega), List.getElem?_drop]
    congr 1
    omega
theorem Ext.unhide {H A B : Heap} {W : Nat} (h : Ext H A) (h2 : Ext (A.set W none) (B.set W none)) (hW : H.length ≤ W) : Ext H B := by
  have l1 := h.len
  have l2 := h2.len
  simp only [List.length_set] at l2
  refine ext_of_get (by omega) fun q hq => ?_
  obtain ⟨G, rfl⟩ := h
  obtain ⟨G2, e⟩ := h2
  have this : (B.set W none)[q]? = ((H ++ G).set W none ++ G2)[q]? := by rw [e]
  rw [List.getElem?_set_ne (by omega), List.getElem?_append_left (by simp; omega), List.getElem?_set_ne (by omega), List.getElem?_append_left hq] at this
  exact this
theorem hears_no {t : Tm} {v : Vw} {c : Ck} {l : La} {k : Int} {n : List Int} (h1 : k ≠ 1) (h3 : k ≠ 3) (h4 : k ≠ 4) : hearsP t v c l k n = none := by
  unfold hearsP
  split
  · rw [if_neg h1]
  · rw [if_neg h4]
  · rw [if_neg h3]
  · rfl
theorem hears_wrong {t : Tm} {v : Vw} {c : Ck} {l : La} {k : Int} {n : List Int} (h : rightF k n.length = false) : hearsP t v c l k n = none := by
  unfold hearsP
  split
  · split
    · next e => subst e; simp [rightF, lng] at h
    · rfl
  · split
    · next e => subst e; simp [rightF, lng] at h
    · rfl
  · split
    · next e => subst e; simp [rightF, lng] at h
    · rfl
  · rfl
theorem right_len {k : Int} {n : Nat} (h : rightF k n = true) : (n : Int) = lng k := (of_decide_eq_true h).2
theorem three {l : List Int} (h : l.length = 3) : ∃ x y z, l = [x, y, z] := by
  match l, h with
  | [x, y, z], _ => exact ⟨x, y, z, rfl⟩
theorem five {l : List Int} (h : l.length = 5) : ∃ x y z a b, l = [x, y, z, a, b] := by
  match l, h with
  | [x, y, z, a, b], _ => exact ⟨x, y, z, a, b, rfl⟩
theorem eight {l : List Int} (h : l.length = 8) : ∃ x y z a b c d e, l = [x, y, z, a, b, c, d, e] := by
  match l, h with
  | [x, y, z, a, b, c, d, e], _ => exact ⟨x, y, z, a, b, c, d, e, rfl⟩
theorem right_out {s : PSe} (h : rightP s = true) : s.t.ok = true ∧ s.c.ok = true ∧ s.v.ok = true ∧ (s.l.a = s.v.a ∧ s.l.b = s.v.b ∧ s.l.c = s.v.c) ∧ (0 ≤ s.l.s ∧ s.l.s ≤ 4611686018427387904) ∧ onP s.n = true ∧ lastP s.n < 2305843009213693952 ∧ rdP s.n = s.v.ws := by
  unfold rightP at h
  simp only [Bool.and_eq_true, decide_eq_true_eq] at h
  obtain ⟨⟨⟨⟨⟨h1, h2⟩, h3⟩, h4⟩, h5⟩, ⟨h6, h7⟩, h8⟩ := h
  exact ⟨h1, h2, h3, h4, h5, h6, h7, h8⟩
def HP (s : Se) (H : Heap) (o : Option Hd) (v : AV) (H' : Heap) : Prop := ∃ W, H.length ≤ W ∧ v = .tup [.ptr W 0, .bool o.isSome] ∧ ∀ h, o = some h →
  ∃ (S' : Stt) (an : AV) (p off n : Nat) (cp : Option Nat), S'.ok (H'.set W none) ∧ S'.pu = (if h.st = true then tornP s.n.pu h.v.ws 13 else s.n.pu) ∧ AnsIs (H'.set W none) an h.ans ∧ blkAt H' W = some ⟨Wk ⟨s.t, S', h.v, h.c, h.l⟩ p off n cp an h.took h.st, true⟩
theorem WP.hp {s : Se} {p off n : Nat} {cp : Option Nat} {W : Nat} {H A : Heap} {o : Option Hd} {v : AV} {H' : Heap} (h : WP s p off n cp W A o v H') (hx : Ext H A) (hW : H.length ≤ W) : Ext H H' ∧ v = .bool o.isSome ∧ HP s H o (.tup [.ptr W 0, v]) H' := by
  obtain ⟨h1, h2⟩ := h
  refine ⟨hx.unhide h1 hW, ?_⟩
  cases o with
  | none =>
    simp only at h2
    subst h2
    exact ⟨rfl, W, hW, rfl, fun h e => by cases e⟩
  | some h =>
    simp only at h2
    obtain ⟨rfl, S', an, k1, k2, k3, k4⟩ := h2
    refine ⟨rfl, W, hW, rfl, fun h' e => ?_⟩
    cases e
    exact ⟨S', an, p, off, n, cp, k1, k2, k3, k4⟩
theorem hb58 : hasBody Try.prog 58 = true := by kernel_rfl
theorem hb59 : hasBody Try.prog 59 = true := by kernel_rfl
theorem hb60 : hasBody Try.prog 60 = true := by kernel_rfl
theorem f34 {s : Se} {k : Int} {ns : List Int} {p off : Nat} {cp : Option Nat} {H : Heap} (hn : s.n.ok H) (hs : Sl i64 H p off ns) (hr : rightP s.pl = true) :
    ACallE Try.prog 34 [.agg s.av, .agg [.int .i64 k, .sl p off ns.length 1 cp]] H (HP s H (hearsP s.t s.v s.c s.l k ns)) := by
  refine acallE (fun v Hf h => acallK34 (by simp) h) (acs_start ?_)
  obtain ⟨ht, hc, hv, hb, hsn, -, hl, -⟩ := right_out hr
  have g61 := fun H => f61 (k := k) (p := p) (off := off) (n := ns.length) (c := cp) (H := H)
  have V := Vw.out hv
  have hbq : BQ s.l.a ∧ BQ s.l.b ∧ BQ s.l.c := by
    obtain ⟨e1, e2, e3⟩ := hb
    have e1 : s.l.a = s.v.a := e1
    have e2 : s.l.b = s.v.b := e2
    have e3 : s.l.c = s.v.c := e3
    rw [e1, e2, e3]
    exact ⟨V.2.2.2.2.2.2.2.2.2.2.2.2.2.2.1, V.2.2.2.2.2.2.2.2.2.2.2.2.2.2.2.1, V.2.2.2.2.2.2.2.2.2.2.2.2.2.2.2.2⟩
  unfold c34 Se.av
  by_cases k1 : k = 1
  · subst k1
    simp (maxSteps:=1000000) (disch:=omega) only [go_sem, ↓reduceIte, reduceCtorEq, hb58, hb59, hb60]
    first | refine callB_intro (g61 _) ?_ | refine callD_intro (g61 _) ?_ | refine callP_intro (fun _ => (g61 _)) ?_ | refine callX_pure (g61 _) ?_
    cases hf : rightF 1 ns.length with
    | false =>
      rw [hears_wrong hf]
      simp (maxSteps:=1000000) (disch:=omega) only [go_sem, ↓reduceIte, reduceCtorEq]
      refine fin_e (by simp) (by simp (maxSteps:=1000000) (disch:=omega) only [resVal, resAll, resOne, rs34, Env.get, go_sem, ↓reduceIte, reduceCtorEq] <;> rfl) (Ext.app _ _) ⟨H.length + 2, by omega, rfl, fun h e => by cases e⟩
    | true =>
      obtain ⟨x, y, z, rfl⟩ := three (show ns.length = 3 by have h : (ns.length : Int) = 3 := right_len hf; omega)
      simp (maxSteps:=1000000) (disch:=omega) only [go_sem, ↓reduceIte, reduceCtorEq, hb58]
      first | refine callBX (f58 (s := s) (p := p) (off := off) (cp := cp) (W := H.length + 2) (by simp only [go_sem, ↓reduceIte, reduceCtorEq]; rfl) (hn.app_set (by omega) none) (hs.app_set (by omega) none) hl ht hc hv) ?_ | refine callDX (f58 (s := s) (p := p) (off := off) (cp := cp) (W := H.length + 2) (by simp only [go_sem, ↓reduceIte, reduceCtorEq]; rfl) (hn.app_set (by omega) none) (hs.app_set (by omega) none) hl ht hc hv) ?_
      rintro v1 H1 h1
      obtain ⟨h2, rfl, h3⟩ := h1.hp (Ext.app _ _) (by omega)
      simp (maxSteps:=1000000) (disch:=omega) only [go_sem, ↓reduceIte, reduceCtorEq]
      refine fin_e (by simp) (by simp (maxSteps:=1000000) (disch:=omega) only [resVal, resAll, resOne, rs34, Env.get, go_sem, ↓reduceIte, reduceCtorEq] <;> rfl) h2 h3
  by_cases k4 : k = 4
  · subst k4
    simp (maxSteps:=1000000) (disch:=omega) only [go_sem, ↓reduceIte, reduceCtorEq, hb58, hb59, hb60]
    first | refine callB_intro (g61 _) ?_ | refine callD_intro (g61 _) ?_ | refine callP_intro (fun _ => (g61 _)) ?_ | refine callX_pure (g61 _) ?_
    cases hf : rightF 4 ns.length with
    | false =>
      rw [hears_wrong hf]
      simp (maxSteps:=1000000) (disch:=omega) only [go_sem, ↓reduceIte, reduceCtorEq]
      refine fin_e (by simp) (by simp (maxSteps:=1000000) (disch:=omega) only [resVal, resAll, resOne, rs34, Env.get, go_sem, ↓reduceIte, reduceCtorEq] <;> rfl) (Ext.app _ _) ⟨H.length + 2, by omega, rfl, fun h e => by cases e⟩
    | true =>
      obtain ⟨x, y, e, q, o, rfl⟩ := five (show ns.length = 5 by have h : (ns.length : Int) = 5 := right_len hf; omega)
      simp (maxSteps:=1000000) (disch:=omega) only [go_sem, ↓reduceIte, reduceCtorEq, hb59]
      first | refine callBX (f59 (s := s) (p := p) (off := off) (cp := cp) (W := H.length + 2) (by simp only [go_sem, ↓reduceIte, reduceCtorEq]; rfl) (hn.app_set (by omega) none) (hs.app_set (by omega) none) hl hc) ?_ | refine callDX (f59 (s := s) (p := p) (off := off) (cp := cp) (W := H.length + 2) (by simp only [go_sem, ↓reduceIte, reduceCtorEq]; rfl) (hn.app_set (by omega) none) (hs.app_set (by omega) none) hl hc) ?_
      rintro v1 H1 h1
      obtain ⟨h2, rfl, h3⟩ := h1.hp (Ext.app _ _) (by omega)
      simp (maxSteps:=1000000) (disch:=omega) only [go_sem, ↓reduceIte, reduceCtorEq]
      refine fin_e (by simp) (by simp (maxSteps:=1000000) (disch:=omega) only [resVal, resAll, resOne, rs34, Env.get, go_sem, ↓reduceIte, reduceCtorEq] <;> rfl) h2 h3
  by_cases k3 : k = 3
  · subst k3
    simp (maxSteps:=1000000) (disch:=omega) only [go_sem, ↓reduceIte, reduceCtorEq, hb58, hb59, hb60]
    first | refine callB_intro (g61 _) ?_ | refine callD_intro (g61 _) ?_ | refine callP_intro (fun _ => (g61 _)) ?_ | refine callX_pure (g61 _) ?_
    cases hf : rightF 3 ns.length with
    | false =>
      rw [hears_wrong hf]
      simp (maxSteps:=1000000) (disch:=omega) only [go_sem, ↓reduceIte, reduceCtorEq]
      refine fin_e (by simp) (by simp (maxSteps:=1000000) (disch:=omega) only [resVal, resAll, resOne, rs34, Env.get, go_sem, ↓reduceIte, reduceCtorEq] <;> rfl) (Ext.app _ _) ⟨H.length + 2, by omega, rfl, fun h e => by cases e⟩
    | true =>
      obtain ⟨x, y, g, e, m, a, b, d, rfl⟩ := eight (show ns.length = 8 by have h : (ns.length : Int) = 8 := right_len hf; omega)
      simp (maxSteps:=1000000) (disch:=omega) only [go_sem, ↓reduceIte, reduceCtorEq, hb60]
      first | refine callBX (f60 (s := s) (p := p) (off := off) (cp := cp) (W := H.length + 2) (by simp only [go_sem, ↓reduceIte, reduceCtorEq]; rfl) (hn.app_set (by omega) none) (hs.app_set (by omega) none) hl ht ⟨V.2.2.2.2.2.2.2.2.1, V.2.2.2.2.2.2.2.2.2.1⟩ hbq) ?_ | refine callDX (f60 (s := s) (p := p) (off := off) (cp := cp) (W := H.length + 2) (by simp only [go_sem, ↓reduceIte, reduceCtorEq]; rfl) (hn.app_set (by omega) none) (hs.app_set (by omega) none) hl ht ⟨V.2.2.2.2.2.2.2.2.1, V.2.2.2.2.2.2.2.2.2.1⟩ hbq) ?_
      rintro v1 H1 h1
      obtain ⟨h2, rfl, h3⟩ := h1.hp (Ext.app _ _) (by omega)
      simp (maxSteps:=1000000) (disch:=omega) only [go_sem, ↓reduceIte, reduceCtorEq]
      refine fin_e (by simp) (by simp (maxSteps:=1000000) (disch:=omega) only [resVal, resAll, resOne, rs34, Env.get, go_sem, ↓reduceIte, reduceCtorEq] <;> rfl) h2 h3
  rw [hears_no k1 k3 k4]
  simp (maxSteps:=1000000) (disch:=omega) only [go_sem, ↓reduceIte, reduceCtorEq, hb58, hb59, hb60, k1, k3, k4]
  first | refine callB_intro (g61 _) ?_ | refine callD_intro (g61 _) ?_ | refine callP_intro (fun _ => (g61 _)) ?_ | refine callX_pure (g61 _) ?_
  cases rightF k ns.length with
  | false =>
    simp (maxSteps:=1000000) (disch:=omega) only [go_sem, ↓reduceIte, reduceCtorEq]
    refine fin_e (by simp) (by simp (maxSteps:=1000000) (disch:=omega) only [resVal, resAll, resOne, rs34, Env.get, go_sem, ↓reduceIte, reduceCtorEq] <;> rfl) (Ext.app _ _) ⟨H.length + 2, by omega, rfl, fun h e => by cases e⟩
  | true =>
    simp (maxSteps:=1000000) (disch:=omega) only [go_sem, ↓reduceIte, reduceCtorEq]
    refine fin_e (by simp) (by simp (maxSteps:=1000000) (disch:=omega) only [resVal, resAll, resOne, rs34, Env.get, go_sem, ↓reduceIte, reduceCtorEq] <;> rfl) (Ext.app _ _) ⟨H.length + 2, by omega, rfl, fun h e => by cases e⟩

def Sub (A B : Heap) : Prop := ∀ q x, blkAt A q = some x → blkAt B q = some x
theorem Sub.trans {A B C : Heap} (h : Sub A B) (h' : Sub B C) : Sub A C := fun q x e => h' q x (h q x e)
theorem Ext.sub {A B : Heap} (h : Ext A B) : Sub A B := fun q x e => h.blk e
theorem Sub.hid {H : Heap} {b : Nat} {x : Option Blk} : Sub (H.set b none) (H.set b x) := by
  intro q y e
  by_cases hq : b = q
  · subst hq
    by_cases hl : b < H.length
    · rw [blkAt_set_self hl] at e
      cases e
    · rw [List.set_eq_of_length_le (by omega)] at e ⊢
      exact e
  · rw [blkAt_set_ne hq] at e ⊢
    exact e
theorem Sub.show {H : Heap} {b : Nat} : Sub (H.set b none) H := by
  intro q y e
  by_cases hq : b = q
  · subst hq
    by_cases hl : b < H.length
    · rw [blkAt_set_self hl] at e
      cases e
    · rw [List.set_eq_of_length_le (by omega)] at e
      exact e
  · rw [blkAt_set_ne hq] at e
    exact e
theorem Sub.hide {A B : Heap} (h : Sub A B) {b : Nat} (hb : b < A.length) : Sub (A.set b none) (B.set b none) := by
  intro q x e
  by_cases hq : b = q
  · subst hq
    rw [blkAt_set_self hb] at e
    cases e
  · rw [blkAt_set_ne hq] at e ⊢
    exact h q x e
theorem Sub.sl {α : Type} {f : α → AV} {A B : Heap} (h : Sub A B) {p off : Nat} {zs : List α} (hs : Sl f A p off zs) : Sl f B p off zs := by
  obtain ⟨cs, o, h1, h2⟩ := hs
  exact ⟨cs, o, h _ _ h1, h2⟩
theorem Sub.ok {S : Stt} {A B : Heap} (h : Sub A B) (k : S.ok A) : S.ok B := ⟨h.sl k.h0, h.sl k.h1, k.l0, k.l1⟩
theorem Sub.ans {A B : Heap} (h : Sub A B) {an : AV} {o : Option (List Int)} (k : AnsIs A an o) : AnsIs B an o := by
  cases o with
  | none => exact k
  | some l =>
    obtain ⟨q, p, c, d, o, h1, h2, h3⟩ := k
    exact ⟨q, p, c, d, o, h1, h _ _ h2, h.sl h3⟩
def HearR (q : PSe × Option (List Int) × Bool) (v : AV) (H' : Heap) : Prop := ∃ (S' : Se) (an : AV), v = .tup [.agg S'.av, an, .bool q.2.2] ∧ S'.n.ok H' ∧ S'.pl = q.1 ∧ AnsIs H' an q.2.1
section
variable {s : Se} {k : Int} {ns : List Int} {p off : Nat} {cp : Option Nat} {H : Heap}
theorem f12 (hn : s.n.ok H) (hs : Sl i64 H p off ns) (hr : rightP s.pl = true) :
    ACallE Try.prog 12 [.agg s.av, .agg [.int .i64 k, .sl p off ns.length 1 cp]] H (HearR (hearP s.pl k ns)) := by
  refine acallE (fun v Hf h => acallK12 (by simp) h) (acs_start ?_)
  have g34 := fun K => f34 (s := s) (k := k) (cp := cp) (H := (H ++ K).set (H.length + 2) none) (hn.app_set (by omega) none) (hs.app_set (by omega) none) hr
  have eh : ∀ o, hearsP s.t s.v s.c s.l k ns = o → hearP s.pl k ns = (match o with | none => (s.pl, none, false) | some h => (⟨s.t, if h.st = true then tornP s.n.pu h.v.ws 13 else s.n.pu, h.v, h.c, h.l⟩, h.ans, h.took)) := by
    intro o e
    subst e
    rfl
  generalize hearsP s.t s.v s.c s.l k ns = o at *
  rw [eh o rfl]
  clear eh
  have kn := fun K => hn.app_set (G := K) (b := H.length + 2) (by omega)
  unfold c12
  unfold Se.av at *
  simp (maxSteps:=1000000) (disch:=omega) only [go_sem, ↓reduceIte, reduceCtorEq]
  first | refine callBE (ACallE.frame (b := H.length + 2) (by simp only [go_sem, ↓reduceIte, reduceCtorEq]; rfl) rfl (g34 _)) ?_ | refine callDE (ACallE.frame (b := H.length + 2) (by simp only [go_sem, ↓reduceIte, reduceCtorEq]; rfl) rfl (g34 _)) ?_ | refine callXE (ACallE.frame (b := H.length + 2) (by simp only [go_sem, ↓reduceIte, reduceCtorEq]; rfl) rfl (g34 _)) ?_
  rintro v1 H1 hx1 ⟨bR, W, hW, rfl, hh⟩
  have b0 := hx1.blk (b := H.length) (by simp only [go_sem, ↓reduceIte, reduceCtorEq]; rfl)
  have hy1 : Ext H H1 := (Ext.app _ _).trans hx1
  have bl0 := blkAt_lt b0
  have blR := blkAt_lt bR
  cases o with
  | none =>
    simp (maxSteps:=1000000) (disch:=omega) only [go_sem, ↓reduceIte, reduceCtorEq, b0, bl0, bR, blR, blkAt_set_self, Option.isSome_none]
    refine fin_e (by simp) (by simp (maxSteps:=1000000) (disch:=omega) only [resVal, resAll, resOne, rs12, Env.get, go_sem, ↓reduceIte, reduceCtorEq, b0, bl0, bR, blR, blkAt_set_self] <;> rfl) (hy1.set (by omega) _) ⟨s, .nils, rfl, hn.ext (hy1.set (by omega) _), rfl, rfl⟩
  | some h =>
    obtain ⟨S', an, p', off', n', cp', k1, k2, k3, k4⟩ := hh h rfl
    simp only [List.length_set, List.length_append, List.length_cons, List.length_nil] at hW
    rw [blkAt_set_ne (by omega)] at k4
    have hWl := blkAt_lt k4
    have hu : Sub ((H1.set (H.length + 2) none).set W none) (H1.set (H.length + 2) none) := Sub.show
    unfold Wk at k4
    simp (maxSteps:=1000000) (disch:=omega) only [go_sem, ↓reduceIte, reduceCtorEq, b0, bl0, bR, blR, blkAt_set_self, k4, hWl, Option.isSome_some]
    refine ⟨⟨by rw [blkAt_set_ne (by omega)]; exact k4, by rw [blkAt_set_ne (by omega)]; exact k4⟩, ?_⟩
    refine fin_e (by simp) (by simp (maxSteps:=1000000) (disch:=omega) only [resVal, resAll, resOne, rs12, Env.get, go_sem, ↓reduceIte, reduceCtorEq, bR, blR, blkAt_set_self] <;> rfl) (hy1.set (by omega) _) ⟨⟨s.t, S', h.v, h.c, h.l⟩, an, rfl, (hu.trans Sub.hid).ok k1, by unfold Se.pl; rw [k2], (hu.trans Sub.hid).ans k3⟩
theorem f16 {done : Int} (hn : s.n.ok H) (hs : Sl i64 H p off ns) (hr : rightP s.pl = true) :
    ACallE Try.prog 16 [.agg s.av, .agg [.int .i64 k, .sl p off ns.length 1 cp], .int .i64 done] H fun v H' => Sel v H' (diesP s.pl k ns done) := by
  refine acallE (fun v Hf h => acallK16 (by simp) h) (acs_start ?_)
  have g34 := fun K => f34 (s := s) (k := k) (cp := cp) (H := (H ++ K).set (H.length + 2) none) (hn.app_set (by omega) none) (hs.app_set (by omega) none) hr
  obtain ⟨-, -, -, -, -, -, hl, -⟩ := right_out hr
  have eh : ∀ o, hearsP s.t s.v s.c s.l k ns = o → diesP s.pl k ns done = (match o with | none => resetP s.pl | some h => if h.st = true then resetP { s.pl with n := tornP s.pl.n h.v.ws done } else resetP s.pl) := by
    intro o e
    subst e
    rfl
  generalize hearsP s.t s.v s.c s.l k ns = o at *
  rw [eh o rfl]
  clear eh
  have g21 := fun (H1 : Heap) (h : Ext H H1) (hb : H.length ≤ H.length + 2) => f21 (s := s) (H := H1.set (H.length + 2) none) (hn.ext (h.set hb none))
  unfold c16
  unfold Se.av at *
  simp (maxSteps:=1000000) (disch:=omega) only [go_sem, ↓reduceIte, reduceCtorEq]
  first | refine callBE (ACallE.frame (b := H.length + 2) (by simp only [go_sem, ↓reduceIte, reduceCtorEq]; rfl) rfl (g34 _)) ?_ | refine callDE (ACallE.frame (b := H.length + 2) (by simp only [go_sem, ↓reduceIte, reduceCtorEq]; rfl) rfl (g34 _)) ?_ | refine callXE (ACallE.frame (b := H.length + 2) (by simp only [go_sem, ↓reduceIte, reduceCtorEq]; rfl) rfl (g34 _)) ?_
  rintro v1 H1 hx1 ⟨bR, W, hW, rfl, hh⟩
  have b0 := hx1.blk (b := H.length) (by simp only [go_sem, ↓reduceIte, reduceCtorEq]; rfl)
  have hy1 : Ext H H1 := (Ext.app _ _).trans hx1
  have bl0 := blkAt_lt b0
  have blR := blkAt_lt bR
  have noth : ACallE Try.prog 21 [.agg s.av] H1 fun v H' => blkAt H' (H.length + 2) = some ⟨[.int .i64 0, .int .i64 0, .int .i64 0, .int .i64 0, .int .i64 0, .nils, .int .i64 0, .nils, .int .i64 0, .int .i64 0, .int .i64 0, .int .i64 0, .int .i64 0, .int .i64 0, .int .i64 0, .int .i64 0, .int .i64 0, .int .i64 0, .int .i64 0, .int .i64 0, .int .i64 0, .int .i64 0, .int .i64 0, .int .i64 0, .int .i64 0, .int .i64 0, .bool false], true⟩ ∧ Sel v (H'.set (H.length + 2) none) (resetP s.pl) := ACallE.frame bR rfl (g21 _ hy1 (by omega))
  unfold Se.av at noth
  cases o with
  | none =>
    simp (maxSteps:=1000000) (disch:=omega) only [go_sem, ↓reduceIte, reduceCtorEq, b0, bl0, Option.isSome_none]
    first | refine callBE (noth) ?_ | refine callDE (noth) ?_ | refine callXE (noth) ?_
    rintro v2 H2 hx2 ⟨bR, s', rfl, k3, e3⟩
    replace blR := blkAt_lt bR
    have a1 := s'.len
    have a2 := s'.all
    have a3 := s'.take
    simp (maxSteps:=1000000) (disch:=omega) only [go_sem, ↓reduceIte, reduceCtorEq, a1, a2, a3, bR, blR, blkAt_set_self]
    refine fin_e (by simp) (by simp (maxSteps:=1000000) (disch:=omega) only [resVal, resAll, resOne, rs16, Env.get, go_sem, ↓reduceIte, reduceCtorEq, a1, a2, a3, bR, blR, blkAt_set_self] <;> rfl) ((hy1.trans hx2).set (by omega) _) ⟨s', rfl, Sub.hid.ok k3, e3⟩
  | some h =>
    obtain ⟨S', an, p', off', n', cp', -, -, -, k4⟩ := hh h rfl
    simp only [List.length_set, List.length_append, List.length_cons, List.length_nil] at hW
    rw [blkAt_set_ne (by omega)] at k4
    have hWl := blkAt_lt k4
    unfold Wk at k4
    by_cases hst : h.st = true
    rotate_left
    · dsimp only
      rw [if_neg hst]
      simp (maxSteps:=1000000) (disch:=omega) only [go_sem, ↓reduceIte, reduceCtorEq, b0, bl0, k4, hWl, hst, Option.isSome_some]
      first | refine callBE (noth) ?_ | refine callDE (noth) ?_ | refine callXE (noth) ?_
      rintro v2 H2 hx2 ⟨bR, s', rfl, k3, e3⟩
      replace blR := blkAt_lt bR
      have a1 := s'.len
      have a2 := s'.all
      have a3 := s'.take
      simp (maxSteps:=1000000) (disch:=omega) only [go_sem, ↓reduceIte, reduceCtorEq, a1, a2, a3, bR, blR, blkAt_set_self]
      refine fin_e (by simp) (by simp (maxSteps:=1000000) (disch:=omega) only [resVal, resAll, resOne, rs16, Env.get, go_sem, ↓reduceIte, reduceCtorEq, a1, a2, a3, bR, blR, blkAt_set_self] <;> rfl) ((hy1.trans hx2).set (by omega) _) ⟨s', rfl, Sub.hid.ok k3, e3⟩
    dsimp only
    rw [if_pos hst]
    have g40 := fun H => f40 h.v H
    unfold Vw.av at g40
    simp (maxSteps:=1000000) (disch:=omega) only [go_sem, ↓reduceIte, reduceCtorEq, b0, bl0, k4, hWl, hst, Option.isSome_some]
    first | refine callBE (ACallE.frame (b := H.length) b0 rfl (ACallE.frame (b := H.length + 2) (by rw [blkAt_set_ne (by omega)]; exact bR) rfl (g40 _))) ?_ | refine callDE (ACallE.frame (b := H.length) b0 rfl (ACallE.frame (b := H.length + 2) (by rw [blkAt_set_ne (by omega)]; exact bR) rfl (g40 _))) ?_ | refine callXE (ACallE.frame (b := H.length) b0 rfl (ACallE.frame (b := H.length + 2) (by rw [blkAt_set_ne (by omega)]; exact bR) rfl (g40 _))) ?_
    rintro v2 H2 hx2 ⟨b0, bR', q, oq, cq, rfl, s1⟩
    have hy2 := hy1.trans hx2
    rw [blkAt_set_ne (by omega)] at bR'
    have g39 := f39_t (kq := cq) (done := done) (hn.ext ((hy2.set (b := H.length) (by omega) none).set (b := H.length + 2) (by omega) none)) s1 (show 10 ≤ 1000 by decide)
    unfold Torn at g39
    unfold Stt.av nvc at g39
    simp (maxSteps:=1000000) (disch:=omega) only [go_sem, ↓reduceIte, reduceCtorEq]
    first | refine callBE (ACallE.frame (b := H.length) b0 rfl (ACallE.frame (b := H.length + 2) (by rw [blkAt_set_ne (by omega)]; exact bR') rfl g39)) ?_ | refine callDE (ACallE.frame (b := H.length) b0 rfl (ACallE.frame (b := H.length + 2) (by rw [blkAt_set_ne (by omega)]; exact bR') rfl g39)) ?_ | refine callXE (ACallE.frame (b := H.length) b0 rfl (ACallE.frame (b := H.length + 2) (by rw [blkAt_set_ne (by omega)]; exact bR') rfl g39)) ?_
    rintro v3 H3 hx3 ⟨b0, bR, S', rfl, k3, e3⟩
    have hy3 := hy2.trans hx3
    rw [blkAt_set_ne (by omega)] at bR
    replace bl0 := blkAt_lt b0
    replace blR := blkAt_lt bR
    have g22 := fun x => f21 (s := ⟨s.t, S', s.v, s.c, s.l⟩) (H := (H3.set H.length x).set (H.length + 2) none) ((Sub.hid.hide (by simpa using blR)).ok k3)
    have er : resetP (Se.pl ⟨s.t, S', s.v, s.c, s.l⟩) = resetP { s.pl with n := tornP s.pl.n h.v.ws done } := by
      unfold Se.pl
      simp only
      rw [e3]
    rw [er] at g22
    unfold Se.av at g22
    simp (maxSteps:=1000000) (disch:=omega) only [go_sem, ↓reduceIte, reduceCtorEq, b0, bl0, blkAt_set_self]
    first | refine callBE (ACallE.frame (b := H.length + 2) ((blkAt_set_ne (by omega) _).trans bR) rfl (g22 _)) ?_ | refine callDE (ACallE.frame (b := H.length + 2) ((blkAt_set_ne (by omega) _).trans bR) rfl (g22 _)) ?_ | refine callXE (ACallE.frame (b := H.length + 2) ((blkAt_set_ne (by omega) _).trans bR) rfl (g22 _)) ?_
    rintro v4 H4 hx4 ⟨bR, s', rfl, k5, e5⟩
    replace blR := blkAt_lt bR
    have a1 := s'.len
    have a2 := s'.all
    have a3 := s'.take
    simp (maxSteps:=1000000) (disch:=omega) only [go_sem, ↓reduceIte, reduceCtorEq, a1, a2, a3, bR, blR, blkAt_set_self]
    refine fin_e (by simp) (by simp (maxSteps:=1000000) (disch:=omega) only [resVal, resAll, resOne, rs16, Env.get, go_sem, ↓reduceIte, reduceCtorEq, a1, a2, a3, bR, blR, blkAt_set_self] <;> rfl) (((hy3.set (by omega) _).trans hx4).set (by omega) _) ⟨s', rfl, Sub.hid.ok k5, e5⟩
end

theorem f26_nil {n m p o q o2 : Nat} {a b : Option Nat} {c0 c1 : Int} {H : Heap} (h1 : n ≤ 281474976710656) (h2 : m ≤ 281474976710656) :
    ACall Try.prog 26 [.agg [.sl p o n 1 a, .int .i64 c0, .sl q o2 m 1 b, .int .i64 c1], .nils] H (.bool (decide (n + m ≤ 900))) H := by
  refine acall26 (by simp) (acs_start ?_)
  have e : decide ((n : Int) + (m : Int) ≤ 900) = decide (n + m ≤ 900) := decide_eq_decide.2 (by omega)
  unfold c26
  simp (maxSteps:=1000000) (disch:=omega) only [go_sem, ↓reduceIte, reduceCtorEq, e, Int.add_zero]
  exact fin_same (by simp) _ (by first | exact (List.append_nil _).symm | rfl) (by simp (maxSteps:=1000000) (disch:=omega) only [resVal, resAll, resOne, rs26, Env.get, go_sem, ↓reduceIte, reduceCtorEq]) (by simp only [AV.und, AV.unds, and_self])
def smallP (s : Se) (n : Nat) : Bool := decide (s.n.ws.length + s.n.vs.length ≤ 900) && decide (n ≤ 100)
theorem f9 {s : Se} {k : Int} {p off n : Nat} {cp : Option Nat} {H : Heap} (h1 : s.n.ws.length ≤ 281474976710656) (h2 : s.n.vs.length ≤ 281474976710656) :
    ACall Try.prog 9 [.agg s.av, .agg [.int .i64 k, .sl p off n 1 cp]] H (.bool (smallP s n)) H := by
  refine acall9 (by simp) (acs_start ?_)
  have g := fun H => f26_nil (p := s.n.p0) (o := s.n.o0) (q := s.n.p1) (o2 := s.n.o1) (a := s.n.k0) (b := s.n.k1) (c0 := s.n.c0) (c1 := s.n.c1) (H := H) h1 h2
  unfold smallP
  unfold c9 Se.av
  generalize decide (s.n.ws.length + s.n.vs.length ≤ 900) = z at *
  have e : decide ((n : Int) ≤ 100) = decide (n ≤ 100) := decide_eq_decide.2 (by omega)
  simp (maxSteps:=1000000) (disch:=omega) only [go_sem, ↓reduceIte, reduceCtorEq]
  first | refine callB_intro (g _) ?_ | refine callD_intro (g _) ?_ | refine callP_intro (fun _ => (g _)) ?_ | refine callX_pure (g _) ?_
  cases z with
  | false =>
    simp (maxSteps:=1000000) (disch:=omega) only [go_sem, ↓reduceIte, reduceCtorEq]
    exact fin_b _ (by first | exact (List.append_nil _).symm | rfl) (by simp) (by simp (maxSteps:=1000000) (disch:=omega) only [resVal, resAll, resOne, rs9, Env.get, go_sem, ↓reduceIte, reduceCtorEq] <;> rfl) (by rw [Bool.eq_iff_iff]; (try simp only [decide_eq_true_eq, Bool.and_eq_true, Bool.or_eq_true, Bool.not_eq_true', decide_eq_false_iff_not, Bool.true_eq_false, Bool.false_eq_true, true_iff, iff_true, false_iff, iff_false, not_false_eq_true, not_true_eq_false]); first | done | omega | (simp; done) | (rw [Bool.eq_iff_iff]; (try simp only [decide_eq_true_eq, Bool.and_eq_true, Bool.or_eq_true, Bool.not_eq_true', decide_eq_false_iff_not, Bool.true_eq_false, Bool.false_eq_true, true_iff, iff_true, false_iff, iff_false, not_false_eq_true, not_true_eq_false]); omega) | (simp; omega))
  | true =>
    simp (maxSteps:=1000000) (disch:=omega) only [go_sem, ↓reduceIte, reduceCtorEq, e]
    exact fin_b _ (by first | exact (List.append_nil _).symm | rfl) (by simp) (by simp (maxSteps:=1000000) (disch:=omega) only [resVal, resAll, resOne, rs9, Env.get, go_sem, ↓reduceIte, reduceCtorEq] <;> rfl) (by rw [Bool.eq_iff_iff]; (try simp only [decide_eq_true_eq, Bool.and_eq_true, Bool.or_eq_true, Bool.not_eq_true', decide_eq_false_iff_not, Bool.true_eq_false, Bool.false_eq_true, true_iff, iff_true, false_iff, iff_false, not_false_eq_true, not_true_eq_false]); first | done | omega | (simp; done) | (rw [Bool.eq_iff_iff]; (try simp only [decide_eq_true_eq, Bool.and_eq_true, Bool.or_eq_true, Bool.not_eq_true', decide_eq_false_iff_not, Bool.true_eq_false, Bool.false_eq_true, true_iff, iff_true, false_iff, iff_false, not_false_eq_true, not_true_eq_false]); omega) | (simp; omega))
theorem f13 {s r : Se} {H : Heap} (hs : s.n.ok H) (hr : r.n.ok H) : ACall Try.prog 13 [.agg s.av, .agg r.av] H (.bool (decide (s.pl = r.pl))) H := by
  refine acall13 (by simp) (acs_start ?_)
  have g := fun G => f35 (hs.app G) (hr.app G)
  obtain ⟨⟨ta, tb, tc, td, te⟩, S, ⟨vg, ve, vu, vi, vy, vq, vl, va, vb, vc⟩, ⟨cn, cu, cq⟩, ⟨la, lb, lc, ls, lo⟩⟩ := s
  obtain ⟨⟨xa, xb, xc, xd, xe⟩, R, ⟨yg, ye, yu, yi, yy, yq, yl, ya, yb, yc⟩, ⟨zn, zu, zq⟩, ⟨ma, mb, mc, ms, mo⟩⟩ := r
  have e : decide ((Se.mk ⟨ta, tb, tc, td, te⟩ S ⟨vg, ve, vu, vi, vy, vq, vl, va, vb, vc⟩ ⟨cn, cu, cq⟩ ⟨la, lb, lc, ls, lo⟩).pl = (Se.mk ⟨xa, xb, xc, xd, xe⟩ R ⟨yg, ye, yu, yi, yy, yq, yl, ya, yb, yc⟩ ⟨zn, zu, zq⟩ ⟨ma, mb, mc, ms, mo⟩).pl) = (decide (S.pu = R.pu) && (decide (Tm.mk ta tb tc td te = ⟨xa, xb, xc, xd, xe⟩) && (decide (Vw.mk vg ve vu vi vy vq vl va vb vc = ⟨yg, ye, yu, yi, yy, yq, yl, ya, yb, yc⟩) && (decide (Ck.mk cn cu cq = ⟨zn, zu, zq⟩) && decide (La.mk la lb lc ls lo = ⟨ma, mb, mc, ms, mo⟩))))) := by
    rw [Bool.eq_iff_iff]
    simp only [Bool.and_eq_true, decide_eq_true_eq, Se.pl, PSe.mk.injEq]
    constructor
    · rintro ⟨a, b, c, d, e⟩
      exact ⟨b, a, c, d, e⟩
    · rintro ⟨b, a, c, d, e⟩
      exact ⟨a, b, c, d, e⟩
  rw [e]
  clear e
  have e1 : (decide (ta = xa) && (decide (tb = xb) && (decide (tc = xc) && (decide (td = xd) && decide (te = xe))))) = decide (Tm.mk ta tb tc td te = ⟨xa, xb, xc, xd, xe⟩) := by rw [Bool.eq_iff_iff]; simp
  have e2 : (decide (vg = yg) && (decide (ve = ye) && (decide (vu = yu) && (decide (vi = yi) && (decide (vy = yy) && (decide (vq = yq) && (decide (vl = yl) && (decide (va = ya) && (decide (vb = yb) && decide (vc = yc)))))))))) = decide (Vw.mk vg ve vu vi vy vq vl va vb vc = ⟨yg, ye, yu, yi, yy, yq, yl, ya, yb, yc⟩) := by rw [Bool.eq_iff_iff]; simp
  have e3 : (decide (cn = zn) && (decide (cu = zu) && decide (cq = zq))) = decide (Ck.mk cn cu cq = ⟨zn, zu, zq⟩) := by rw [Bool.eq_iff_iff]; simp
  have e4 : (decide (la = ma) && (decide (lb = mb) && (decide (lc = mc) && (decide (ls = ms) && decide (lo = mo))))) = decide (La.mk la lb lc ls lo = ⟨ma, mb, mc, ms, mo⟩) := by rw [Bool.eq_iff_iff]; simp
  generalize decide (S.pu = R.pu) = z0 at *
  generalize decide (Tm.mk ta tb tc td te = ⟨xa, xb, xc, xd, xe⟩) = z1 at *
  generalize decide (Vw.mk vg ve vu vi vy vq vl va vb vc = ⟨yg, ye, yu, yi, yy, yq, yl, ya, yb, yc⟩) = z2 at *
  generalize decide (Ck.mk cn cu cq = ⟨zn, zu, zq⟩) = z3 at *
  generalize decide (La.mk la lb lc ls lo = ⟨ma, mb, mc, ms, mo⟩) = z4 at *
  unfold Stt.av nvc at g
  unfold c13 Se.av
  simp (maxSteps:=1000000) (disch:=omega) only [go_sem, ↓reduceIte, reduceCtorEq]
  first | refine callB_intro (g _) ?_ | refine callD_intro (g _) ?_ | refine callP_intro (fun _ => (g _)) ?_ | refine callX_pure (g _) ?_
  cases z0 with
  | false =>
    simp (maxSteps:=1000000) (disch:=omega) only [go_sem, ↓reduceIte, reduceCtorEq]
    exact fin_b _ (by first | exact (List.append_nil _).symm | rfl) (by simp) (by simp (maxSteps:=1000000) (disch:=omega) only [resVal, resAll, resOne, rs13, Env.get, go_sem, ↓reduceIte, reduceCtorEq] <;> rfl) (by rw [Bool.eq_iff_iff]; (try simp only [decide_eq_true_eq, Bool.and_eq_true, Bool.or_eq_true, Bool.not_eq_true', decide_eq_false_iff_not, Bool.true_eq_false, Bool.false_eq_true, true_iff, iff_true, false_iff, iff_false, not_false_eq_true, not_true_eq_false]); first | done | omega | (simp; done) | (rw [Bool.eq_iff_iff]; (try simp only [decide_eq_true_eq, Bool.and_eq_true, Bool.or_eq_true, Bool.not_eq_true', decide_eq_false_iff_not, Bool.true_eq_false, Bool.false_eq_true, true_iff, iff_true, false_iff, iff_false, not_false_eq_true, not_true_eq_false]); omega) | (simp; omega))
  | true =>
    cases z1 with
    | false =>
      simp (maxSteps:=1000000) (disch:=omega) only [go_sem, ↓reduceIte, reduceCtorEq, e1]
      exact fin_b _ (by first | exact (List.append_nil _).symm | rfl) (by simp) (by simp (maxSteps:=1000000) (disch:=omega) only [resVal, resAll, resOne, rs13, Env.get, go_sem, ↓reduceIte, reduceCtorEq] <;> rfl) (by rw [Bool.eq_iff_iff]; (try simp only [decide_eq_true_eq, Bool.and_eq_true, Bool.or_eq_true, Bool.not_eq_true', decide_eq_false_iff_not, Bool.true_eq_false, Bool.false_eq_true, true_iff, iff_true, false_iff, iff_false, not_false_eq_true, not_true_eq_false]); first | done | omega | (simp; done) | (rw [Bool.eq_iff_iff]; (try simp only [decide_eq_true_eq, Bool.and_eq_true, Bool.or_eq_true, Bool.not_eq_true', decide_eq_false_iff_not, Bool.true_eq_false, Bool.false_eq_true, true_iff, iff_true, false_iff, iff_false, not_false_eq_true, not_true_eq_false]); omega) | (simp; omega))
    | true =>
      cases z2 with
      | false =>
        simp (maxSteps:=1000000) (disch:=omega) only [go_sem, ↓reduceIte, reduceCtorEq, e1, e2]
        exact fin_b _ (by first | exact (List.append_nil _).symm | rfl) (by simp) (by simp (maxSteps:=1000000) (disch:=omega) only [resVal, resAll, resOne, rs13, Env.get, go_sem, ↓reduceIte, reduceCtorEq] <;> rfl) (by rw [Bool.eq_iff_iff]; (try simp only [decide_eq_true_eq, Bool.and_eq_true, Bool.or_eq_true, Bool.not_eq_true', decide_eq_false_iff_not, Bool.true_eq_false, Bool.false_eq_true, true_iff, iff_true, false_iff, iff_false, not_false_eq_true, not_true_eq_false]); first | done | omega | (simp; done) | (rw [Bool.eq_iff_iff]; (try simp only [decide_eq_true_eq, Bool.and_eq_true, Bool.or_eq_true, Bool.not_eq_true', decide_eq_false_iff_not, Bool.true_eq_false, Bool.false_eq_true, true_iff, iff_true, false_iff, iff_false, not_false_eq_true, not_true_eq_false]); omega) | (simp; omega))
      | true =>
        cases z3 with
        | false =>
          simp (maxSteps:=1000000) (disch:=omega) only [go_sem, ↓reduceIte, reduceCtorEq, e1, e2, e3]
          exact fin_b _ (by first | exact (List.append_nil _).symm | rfl) (by simp) (by simp (maxSteps:=1000000) (disch:=omega) only [resVal, resAll, resOne, rs13, Env.get, go_sem, ↓reduceIte, reduceCtorEq] <;> rfl) (by rw [Bool.eq_iff_iff]; (try simp only [decide_eq_true_eq, Bool.and_eq_true, Bool.or_eq_true, Bool.not_eq_true', decide_eq_false_iff_not, Bool.true_eq_false, Bool.false_eq_true, true_iff, iff_true, false_iff, iff_false, not_false_eq_true, not_true_eq_false]); first | done | omega | (simp; done) | (rw [Bool.eq_iff_iff]; (try simp only [decide_eq_true_eq, Bool.and_eq_true, Bool.or_eq_true, Bool.not_eq_true', decide_eq_false_iff_not, Bool.true_eq_false, Bool.false_eq_true, true_iff, iff_true, false_iff, iff_false, not_false_eq_true, not_true_eq_false]); omega) | (simp; omega))
        | true =>
          simp (maxSteps:=1000000) (disch:=omega) only [go_sem, ↓reduceIte, reduceCtorEq, e1, e2, e3, e4]
          exact fin_b _ (by first | exact (List.append_nil _).symm | rfl) (by simp) (by simp (maxSteps:=1000000) (disch:=omega) only [resVal, resAll, resOne, rs13, Env.get, go_sem, ↓reduceIte, reduceCtorEq] <;> rfl) (by rw [Bool.eq_iff_iff]; (try simp only [decide_eq_true_eq, Bool.and_eq_true, Bool.or_eq_true, Bool.not_eq_true', decide_eq_false_iff_not, Bool.true_eq_false, Bool.false_eq_true, true_iff, iff_true, false_iff, iff_false, not_false_eq_true, not_true_eq_false]); first | done | omega | (simp; done) | (rw [Bool.eq_iff_iff]; (try simp only [decide_eq_true_eq, Bool.and_eq_true, Bool.or_eq_true, Bool.not_eq_true', decide_eq_false_iff_not, Bool.true_eq_false, Bool.false_eq_true, true_iff, iff_true, false_iff, iff_false, not_false_eq_true, not_true_eq_false]); omega) | (simp; omega))
theorem right_eq (s : PSe) : rightP s = (s.t.ok && (s.c.ok && (s.v.ok && (decide (s.l.a = s.v.a ∧ s.l.b = s.v.b ∧ s.l.c = s.v.c) && (num s.l.s && (onP s.n && (decide (lastP s.n < 2305843009213693952) && decide (rdP s.n = s.v.ws)))))))) := by
  unfold rightP num
  simp only [Bool.and_assoc]
theorem right_se (s : Se) : rightP s.pl = (s.t.ok && (s.c.ok && (s.v.ok && (decide (s.l.a = s.v.a ∧ s.l.b = s.v.b ∧ s.l.c = s.v.c) && (num s.l.s && (onP s.n.pu && (decide (lastP s.n.pu < 2305843009213693952) && decide (rdP s.n.pu = s.v.ws)))))))) := right_eq s.pl
theorem f22 {s : Se} {H : Heap} (h : s.n.ok H) : ACallE Try.prog 22 [.agg s.av] H fun v H' => v = .bool (rightP s.pl) := by
  refine acallE (fun v Hf h => acallK22 (by simp) h) (acs_start ?_)
  rw [right_se]
  have g49 := fun G => f49_t (h.app G)
  have hrl := rd_short h
  have g40 := fun H => f40 s.v H
  have g44 : ∀ H, ACall Try.prog 44 [tms s.t.a s.t.b s.t.c s.t.d s.t.e] H (.bool s.t.ok) H := f44 s.t.a s.t.b s.t.c s.t.d s.t.e
  have g53 : ∀ H, ACall Try.prog 53 [vec s.c.n s.c.u s.c.q] H (.bool s.c.ok) H := f53 s.c.n s.c.u s.c.q
  have g54 := f54 s.v
  have g55 : ∀ H, ACall Try.prog 55 [.int .i64 s.l.s, .int .i64 0, .int .i64 4611686018427387904] H (.bool (num s.l.s)) H := f55 s.l.s 0 4611686018427387904
  have e4 : (decide (s.l.a = s.v.a) && (decide (s.l.b = s.v.b) && decide (s.l.c = s.v.c))) = decide (s.l.a = s.v.a ∧ s.l.b = s.v.b ∧ s.l.c = s.v.c) := by rw [Bool.eq_iff_iff]; simp
  generalize s.t.ok = z1 at *
  generalize s.c.ok = z2 at *
  generalize s.v.ok = z3 at *
  generalize decide (s.l.a = s.v.a ∧ s.l.b = s.v.b ∧ s.l.c = s.v.c) = z4 at *
  generalize num s.l.s = z5 at *
  unfold Stt.av nvc at g49
  unfold Vw.av at g40 g54
  unfold tms at g44
  unfold vec at g53
  unfold c22 Se.av
  simp (maxSteps:=1000000) (disch:=omega) only [go_sem, ↓reduceIte, reduceCtorEq]
  first | refine callBE (g49 _) ?_ | refine callDE (g49 _) ?_ | refine callXE (g49 _) ?_
  rintro v1 H1 hx1 ⟨w, rfl, q, oq, cq, rfl, s1⟩
  have b0 := hx1.blk (b := H.length) (by simp only [go_sem, ↓reduceIte, reduceCtorEq]; rfl)
  have hy1 : Ext H H1 := (Ext.app _ _).trans hx1
  have bl0 := blkAt_lt b0
  cases onP s.n.pu with
  | false =>
    simp (maxSteps:=1000000) (disch:=omega) only [go_sem, ↓reduceIte, reduceCtorEq, b0, bl0]
    first | refine callB_intro (g44 _) ?_ | refine callD_intro (g44 _) ?_ | refine callP_intro (fun _ => (g44 _)) ?_ | refine callX_pure (g44 _) ?_
    cases z1 with
    | false =>
      simp (maxSteps:=1000000) (disch:=omega) only [go_sem, ↓reduceIte, reduceCtorEq, b0, bl0]
      refine fin_e (by simp) (by simp (maxSteps:=1000000) (disch:=omega) only [resVal, resAll, resOne, rs22, Env.get, go_sem, ↓reduceIte, reduceCtorEq] <;> rfl) hy1 (by simp)
    | true =>
      simp (maxSteps:=1000000) (disch:=omega) only [go_sem, ↓reduceIte, reduceCtorEq, b0, bl0]
      first | refine callB_intro (g53 _) ?_ | refine callD_intro (g53 _) ?_ | refine callP_intro (fun _ => (g53 _)) ?_ | refine callX_pure (g53 _) ?_
      cases z2 with
      | false =>
        simp (maxSteps:=1000000) (disch:=omega) only [go_sem, ↓reduceIte, reduceCtorEq, b0, bl0]
        refine fin_e (by simp) (by simp (maxSteps:=1000000) (disch:=omega) only [resVal, resAll, resOne, rs22, Env.get, go_sem, ↓reduceIte, reduceCtorEq] <;> rfl) hy1 (by simp)
      | true =>
        simp (maxSteps:=1000000) (disch:=omega) only [go_sem, ↓reduceIte, reduceCtorEq, b0, bl0]
        first | refine callB_intro (g54 _) ?_ | refine callD_intro (g54 _) ?_ | refine callP_intro (fun _ => (g54 _)) ?_ | refine callX_pure (g54 _) ?_
        cases z3 with
        | false =>
          simp (maxSteps:=1000000) (disch:=omega) only [go_sem, ↓reduceIte, reduceCtorEq, b0, bl0]
          refine fin_e (by simp) (by simp (maxSteps:=1000000) (disch:=omega) only [resVal, resAll, resOne, rs22, Env.get, go_sem, ↓reduceIte, reduceCtorEq] <;> rfl) hy1 (by simp)
        | true =>
          cases z4 with
          | false =>
            simp (maxSteps:=1000000) (disch:=omega) only [go_sem, ↓reduceIte, reduceCtorEq, b0, bl0, e4]
            refine fin_e (by simp) (by simp (maxSteps:=1000000) (disch:=omega) only [resVal, resAll, resOne, rs22, Env.get, go_sem, ↓reduceIte, reduceCtorEq] <;> rfl) hy1 (by simp)
          | true =>
            simp (maxSteps:=1000000) (disch:=omega) only [go_sem, ↓reduceIte, reduceCtorEq, b0, bl0, e4]
            first | refine callB_intro (g55 _) ?_ | refine callD_intro (g55 _) ?_ | refine callP_intro (fun _ => (g55 _)) ?_ | refine callX_pure (g55 _) ?_
            cases z5 with
            | false =>
              simp (maxSteps:=1000000) (disch:=omega) only [go_sem, ↓reduceIte, reduceCtorEq, b0, bl0]
              refine fin_e (by simp) (by simp (maxSteps:=1000000) (disch:=omega) only [resVal, resAll, resOne, rs22, Env.get, go_sem, ↓reduceIte, reduceCtorEq] <;> rfl) hy1 (by simp)
            | true =>
              simp (maxSteps:=1000000) (disch:=omega) only [go_sem, ↓reduceIte, reduceCtorEq, b0, bl0]
              refine fin_e (by simp) (by simp (maxSteps:=1000000) (disch:=omega) only [resVal, resAll, resOne, rs22, Env.get, go_sem, ↓reduceIte, reduceCtorEq] <;> rfl) hy1 (by simp)
  | true =>
    by_cases h7 : lastP s.n.pu < 2305843009213693952
    rotate_left
    · rw [decide_eq_false h7]
      simp (maxSteps:=1000000) (disch:=omega) only [go_sem, ↓reduceIte, reduceCtorEq, b0, bl0, h7]
      first | refine callB_intro (g44 _) ?_ | refine callD_intro (g44 _) ?_ | refine callP_intro (fun _ => (g44 _)) ?_ | refine callX_pure (g44 _) ?_
      cases z1 with
      | false =>
        simp (maxSteps:=1000000) (disch:=omega) only [go_sem, ↓reduceIte, reduceCtorEq, b0, bl0]
        refine fin_e (by simp) (by simp (maxSteps:=1000000) (disch:=omega) only [resVal, resAll, resOne, rs22, Env.get, go_sem, ↓reduceIte, reduceCtorEq] <;> rfl) hy1 (by simp)
      | true =>
        simp (maxSteps:=1000000) (disch:=omega) only [go_sem, ↓reduceIte, reduceCtorEq, b0, bl0]
        first | refine callB_intro (g53 _) ?_ | refine callD_intro (g53 _) ?_ | refine callP_intro (fun _ => (g53 _)) ?_ | refine callX_pure (g53 _) ?_
        cases z2 with
        | false =>
          simp (maxSteps:=1000000) (disch:=omega) only [go_sem, ↓reduceIte, reduceCtorEq, b0, bl0]
          refine fin_e (by simp) (by simp (maxSteps:=1000000) (disch:=omega) only [resVal, resAll, resOne, rs22, Env.get, go_sem, ↓reduceIte, reduceCtorEq] <;> rfl) hy1 (by simp)
        | true =>
          simp (maxSteps:=1000000) (disch:=omega) only [go_sem, ↓reduceIte, reduceCtorEq, b0, bl0]
          first | refine callB_intro (g54 _) ?_ | refine callD_intro (g54 _) ?_ | refine callP_intro (fun _ => (g54 _)) ?_ | refine callX_pure (g54 _) ?_
          cases z3 with
          | false =>
            simp (maxSteps:=1000000) (disch:=omega) only [go_sem, ↓reduceIte, reduceCtorEq, b0, bl0]
            refine fin_e (by simp) (by simp (maxSteps:=1000000) (disch:=omega) only [resVal, resAll, resOne, rs22, Env.get, go_sem, ↓reduceIte, reduceCtorEq] <;> rfl) hy1 (by simp)
          | true =>
            cases z4 with
            | false =>
              simp (maxSteps:=1000000) (disch:=omega) only [go_sem, ↓reduceIte, reduceCtorEq, b0, bl0, e4]
              refine fin_e (by simp) (by simp (maxSteps:=1000000) (disch:=omega) only [resVal, resAll, resOne, rs22, Env.get, go_sem, ↓reduceIte, reduceCtorEq] <;> rfl) hy1 (by simp)
            | true =>
              simp (maxSteps:=1000000) (disch:=omega) only [go_sem, ↓reduceIte, reduceCtorEq, b0, bl0, e4]
              first | refine callB_intro (g55 _) ?_ | refine callD_intro (g55 _) ?_ | refine callP_intro (fun _ => (g55 _)) ?_ | refine callX_pure (g55 _) ?_
              cases z5 with
              | false =>
                simp (maxSteps:=1000000) (disch:=omega) only [go_sem, ↓reduceIte, reduceCtorEq, b0, bl0]
                refine fin_e (by simp) (by simp (maxSteps:=1000000) (disch:=omega) only [resVal, resAll, resOne, rs22, Env.get, go_sem, ↓reduceIte, reduceCtorEq] <;> rfl) hy1 (by simp)
              | true =>
                simp (maxSteps:=1000000) (disch:=omega) only [go_sem, ↓reduceIte, reduceCtorEq, b0, bl0]
                refine fin_e (by simp) (by simp (maxSteps:=1000000) (disch:=omega) only [resVal, resAll, resOne, rs22, Env.get, go_sem, ↓reduceIte, reduceCtorEq] <;> rfl) hy1 (by simp)
    rw [decide_eq_true h7]
    simp (maxSteps:=1000000) (disch:=omega) only [go_sem, ↓reduceIte, reduceCtorEq, b0, bl0, h7]
    first | refine callBE (g40 _) ?_ | refine callDE (g40 _) ?_ | refine callXE (g40 _) ?_
    rintro v2 H2 hx2 ⟨q2, oq2, cq2, rfl, s2⟩
    replace b0 := hx2.blk b0
    replace bl0 := blkAt_lt b0
    have hy2 := hy1.trans hx2
    have g52 := f52 (c1 := cq) (c2 := cq2) (hx2.sl s1) s2 (by omega)
    generalize decide (rdP s.n.pu = s.v.ws) = z8 at *
    simp (maxSteps:=1000000) (disch:=omega) only [go_sem, ↓reduceIte, reduceCtorEq]
    first | refine callB_intro (g52) ?_ | refine callD_intro (g52) ?_ | refine callP_intro (fun _ => (g52)) ?_ | refine callX_pure (g52) ?_
    simp (maxSteps:=1000000) (disch:=omega) only [go_sem, ↓reduceIte, reduceCtorEq, b0, bl0]
    first | refine callB_intro (g44 _) ?_ | refine callD_intro (g44 _) ?_ | refine callP_intro (fun _ => (g44 _)) ?_ | refine callX_pure (g44 _) ?_
    cases z1 with
    | false =>
      simp (maxSteps:=1000000) (disch:=omega) only [go_sem, ↓reduceIte, reduceCtorEq, b0, bl0]
      refine fin_e (by simp) (by simp (maxSteps:=1000000) (disch:=omega) only [resVal, resAll, resOne, rs22, Env.get, go_sem, ↓reduceIte, reduceCtorEq] <;> rfl) hy2 (by simp)
    | true =>
      simp (maxSteps:=1000000) (disch:=omega) only [go_sem, ↓reduceIte, reduceCtorEq, b0, bl0]
      first | refine callB_intro (g53 _) ?_ | refine callD_intro (g53 _) ?_ | refine callP_intro (fun _ => (g53 _)) ?_ | refine callX_pure (g53 _) ?_
      cases z2 with
      | false =>
        simp (maxSteps:=1000000) (disch:=omega) only [go_sem, ↓reduceIte, reduceCtorEq, b0, bl0]
        refine fin_e (by simp) (by simp (maxSteps:=1000000) (disch:=omega) only [resVal, resAll, resOne, rs22, Env.get, go_sem, ↓reduceIte, reduceCtorEq] <;> rfl) hy2 (by simp)
      | true =>
        simp (maxSteps:=1000000) (disch:=omega) only [go_sem, ↓reduceIte, reduceCtorEq, b0, bl0]
        first | refine callB_intro (g54 _) ?_ | refine callD_intro (g54 _) ?_ | refine callP_intro (fun _ => (g54 _)) ?_ | refine callX_pure (g54 _) ?_
        cases z3 with
        | false =>
          simp (maxSteps:=1000000) (disch:=omega) only [go_sem, ↓reduceIte, reduceCtorEq, b0, bl0]
          refine fin_e (by simp) (by simp (maxSteps:=1000000) (disch:=omega) only [resVal, resAll, resOne, rs22, Env.get, go_sem, ↓reduceIte, reduceCtorEq] <;> rfl) hy2 (by simp)
        | true =>
          cases z4 with
          | false =>
            simp (maxSteps:=1000000) (disch:=omega) only [go_sem, ↓reduceIte, reduceCtorEq, b0, bl0, e4]
            refine fin_e (by simp) (by simp (maxSteps:=1000000) (disch:=omega) only [resVal, resAll, resOne, rs22, Env.get, go_sem, ↓reduceIte, reduceCtorEq] <;> rfl) hy2 (by simp)
          | true =>
            simp (maxSteps:=1000000) (disch:=omega) only [go_sem, ↓reduceIte, reduceCtorEq, b0, bl0, e4]
            first | refine callB_intro (g55 _) ?_ | refine callD_intro (g55 _) ?_ | refine callP_intro (fun _ => (g55 _)) ?_ | refine callX_pure (g55 _) ?_
            cases z5 with
            | false =>
              simp (maxSteps:=1000000) (disch:=omega) only [go_sem, ↓reduceIte, reduceCtorEq, b0, bl0]
              refine fin_e (by simp) (by simp (maxSteps:=1000000) (disch:=omega) only [resVal, resAll, resOne, rs22, Env.get, go_sem, ↓reduceIte, reduceCtorEq] <;> rfl) hy2 (by simp)
            | true =>
              simp (maxSteps:=1000000) (disch:=omega) only [go_sem, ↓reduceIte, reduceCtorEq, b0, bl0]
              refine fin_e (by simp) (by simp (maxSteps:=1000000) (disch:=omega) only [resVal, resAll, resOne, rs22, Env.get, go_sem, ↓reduceIte, reduceCtorEq] <;> rfl) hy2 (by simp)
theorem f10 {s : Se} {H : Heap} (h : s.n.ok H) : ACallE Try.prog 10 [.agg s.av] H fun v H' => v = .bool (rightP s.pl) := by
  refine acallE (fun v Hf h => acallK10 (by simp) h) (acs_start ?_)
  rw [right_se]
  have g49 := fun G => f29 (h.app G)
  have hrl := rd_short h
  have g40 := fun H => f32 s.v H
  have g44 : ∀ H, ACall Try.prog 18 [tms s.t.a s.t.b s.t.c s.t.d s.t.e] H (.bool s.t.ok) H := f18 s.t.a s.t.b s.t.c s.t.d s.t.e
  have g53 : ∀ H, ACall Try.prog 27 [vec s.c.n s.c.u s.c.q] H (.bool s.c.ok) H := f27 s.c.n s.c.u s.c.q
  have g54 := f28 s.v
  have g55 := f30 s.l.s
  have e4 : (decide (s.l.a = s.v.a) && (decide (s.l.b = s.v.b) && decide (s.l.c = s.v.c))) = decide (s.l.a = s.v.a ∧ s.l.b = s.v.b ∧ s.l.c = s.v.c) := by rw [Bool.eq_iff_iff]; simp
  generalize s.t.ok = z1 at *
  generalize s.c.ok = z2 at *
  generalize s.v.ok = z3 at *
  generalize decide (s.l.a = s.v.a ∧ s.l.b = s.v.b ∧ s.l.c = s.v.c) = z4 at *
  generalize num s.l.s = z5 at *
  unfold Stt.av nvc at g49
  unfold Vw.av at g40 g54
  unfold tms at g44
  unfold vec at g53
  unfold c10 Se.av
  simp (maxSteps:=1000000) (disch:=omega) only [go_sem, ↓reduceIte, reduceCtorEq]
  first | refine callB_intro (g44 _) ?_ | refine callD_intro (g44 _) ?_ | refine callP_intro (fun _ => (g44 _)) ?_ | refine callX_pure (g44 _) ?_
  simp (maxSteps:=1000000) (disch:=omega) only [go_sem, ↓reduceIte, reduceCtorEq]
  first | refine callB_intro (g53 _) ?_ | refine callD_intro (g53 _) ?_ | refine callP_intro (fun _ => (g53 _)) ?_ | refine callX_pure (g53 _) ?_
  simp (maxSteps:=1000000) (disch:=omega) only [go_sem, ↓reduceIte, reduceCtorEq]
  first | refine callB_intro (g54 _) ?_ | refine callD_intro (g54 _) ?_ | refine callP_intro (fun _ => (g54 _)) ?_ | refine callX_pure (g54 _) ?_
  simp (maxSteps:=1000000) (disch:=omega) only [go_sem, ↓reduceIte, reduceCtorEq]
  first | refine callBE (g49 _) ?_ | refine callDE (g49 _) ?_ | refine callXE (g49 _) ?_
  rintro v1 H1 hx1 ⟨w, rfl, q, oq, cq, rfl, s1⟩
  have b0 := hx1.blk (b := H.length) (by simp only [go_sem, ↓reduceIte, reduceCtorEq]; rfl)
  have hy1 : Ext H H1 := (Ext.app _ _).trans hx1
  have bl0 := blkAt_lt b0
  cases z1 with
  | false =>
    simp (maxSteps:=1000000) (disch:=omega) only [go_sem, ↓reduceIte, reduceCtorEq, b0, bl0]
    refine fin_e (by simp) (by simp (maxSteps:=1000000) (disch:=omega) only [resVal, resAll, resOne, rs10, Env.get, go_sem, ↓reduceIte, reduceCtorEq] <;> rfl) hy1 (by simp)
  | true =>
  cases z2 with
  | false =>
    simp (maxSteps:=1000000) (disch:=omega) only [go_sem, ↓reduceIte, reduceCtorEq, b0, bl0]
    refine fin_e (by simp) (by simp (maxSteps:=1000000) (disch:=omega) only [resVal, resAll, resOne, rs10, Env.get, go_sem, ↓reduceIte, reduceCtorEq] <;> rfl) hy1 (by simp)
  | true =>
  cases z3 with
  | false =>
    simp (maxSteps:=1000000) (disch:=omega) only [go_sem, ↓reduceIte, reduceCtorEq, b0, bl0]
    refine fin_e (by simp) (by simp (maxSteps:=1000000) (disch:=omega) only [resVal, resAll, resOne, rs10, Env.get, go_sem, ↓reduceIte, reduceCtorEq] <;> rfl) hy1 (by simp)
  | true =>
  cases onP s.n.pu with
  | false =>
    simp (maxSteps:=1000000) (disch:=omega) only [go_sem, ↓reduceIte, reduceCtorEq, b0, bl0]
    refine fin_e (by simp) (by simp (maxSteps:=1000000) (disch:=omega) only [resVal, resAll, resOne, rs10, Env.get, go_sem, ↓reduceIte, reduceCtorEq] <;> rfl) hy1 (by simp)
  | true =>
  by_cases h7 : lastP s.n.pu < 2305843009213693952
  rotate_left
  · rw [decide_eq_false h7]
    have h7' : (2305843009213693952 : Int) ≤ lastP s.n.pu := by omega
    simp (maxSteps:=1000000) (disch:=omega) only [go_sem, ↓reduceIte, reduceCtorEq, b0, bl0, h7']
    refine fin_e (by simp) (by simp (maxSteps:=1000000) (disch:=omega) only [resVal, resAll, resOne, rs10, Env.get, go_sem, ↓reduceIte, reduceCtorEq] <;> rfl) hy1 (by simp)
  rw [decide_eq_true h7]
  have h7' : ¬ (2305843009213693952 : Int) ≤ lastP s.n.pu := by omega
  cases z4 with
  | false =>
    simp (maxSteps:=1000000) (disch:=omega) only [go_sem, ↓reduceIte, reduceCtorEq, b0, bl0, h7', e4]
    refine fin_e (by simp) (by simp (maxSteps:=1000000) (disch:=omega) only [resVal, resAll, resOne, rs10, Env.get, go_sem, ↓reduceIte, reduceCtorEq] <;> rfl) hy1 (by simp)
  | true =>
  simp (maxSteps:=1000000) (disch:=omega) only [go_sem, ↓reduceIte, reduceCtorEq, b0, bl0, h7', e4]
  first | refine callB_intro (g55 _) ?_ | refine callD_intro (g55 _) ?_ | refine callP_intro (fun _ => (g55 _)) ?_ | refine callX_pure (g55 _) ?_
  cases z5 with
  | false =>
    simp (maxSteps:=1000000) (disch:=omega) only [go_sem, ↓reduceIte, reduceCtorEq, b0, bl0]
    refine fin_e (by simp) (by simp (maxSteps:=1000000) (disch:=omega) only [resVal, resAll, resOne, rs10, Env.get, go_sem, ↓reduceIte, reduceCtorEq] <;> rfl) hy1 (by simp)
  | true =>
  simp (maxSteps:=1000000) (disch:=omega) only [go_sem, ↓reduceIte, reduceCtorEq, b0, bl0]
  first | refine callBE (g40 _) ?_ | refine callDE (g40 _) ?_ | refine callXE (g40 _) ?_
  rintro v2 H2 hx2 ⟨q2, oq2, cq2, rfl, s2⟩
  have hy2 := hy1.trans hx2
  have g52 := f31 (c1 := cq) (c2 := cq2) (hx2.sl s1) s2 (by omega)
  generalize decide (rdP s.n.pu = s.v.ws) = z8 at *
  simp (maxSteps:=1000000) (disch:=omega) only [go_sem, ↓reduceIte, reduceCtorEq]
  first | refine callB_intro (g52) ?_ | refine callD_intro (g52) ?_ | refine callP_intro (fun _ => (g52)) ?_ | refine callX_pure (g52) ?_
  simp (maxSteps:=1000000) (disch:=omega) only [go_sem, ↓reduceIte, reduceCtorEq]
  refine fin_e (by simp) (by simp (maxSteps:=1000000) (disch:=omega) only [resVal, resAll, resOne, rs10, Env.get, go_sem, ↓reduceIte, reduceCtorEq] <;> rfl) hy2 (by simp)

def exT : Tm := ⟨5, 8, 20, 10, 16777216⟩
theorem emptyN : nwP (([], 0), ([], 0)) = -1 := nw_f (wh_zero _) (wh_zero _)
theorem newN_is : rdP newN = frV.ws ∧ onP newN = true ∧ lastP newN = 1 := by
  have e : lastP (([], 0), ([], 0)) = 0 := by simp [lastP, emptyN]
  obtain ⟨h1, h2, h3⟩ := torn_full (q := (([], 0), ([], 0))) (us := frV.ws) (d := 13) (show 10 ≤ 600 by decide) (by rw [e]; decide) (show (10 : Int) + 3 ≤ 13 by decide)
  rw [e] at h3
  exact ⟨h1, h2, h3⟩
theorem newP_eq (t : Tm) : newP t = ⟨t, newN, frV, ⟨0, 0, t.b⟩, ⟨0, 0, 0, 0, false⟩⟩ := by
  unfold newP resetP
  simp only [newN_is.1, view_ws fr_ok]
  rfl
theorem exT_ok : exT.ok = true := by decide
def exV : Vw := ⟨1, 1, 0, 5, -1, 0, 0, 0, 0, 0⟩
def exH : Hd := ⟨exV, ⟨28, 33, 8⟩, ⟨0, 0, 0, 0, true⟩, some [0, 5, 1, 1, 5, 0, -1, 1], false, true⟩
theorem ex_hears : hearsP exT frV ⟨28, 0, 8⟩ ⟨0, 0, 0, 0, true⟩ 1 [0, 5, 1] = some exH := by decide
theorem ex_tick : tickP (newP exT) 28 = ⟨exT, newN, frV, ⟨28, 0, 8⟩, ⟨0, 0, 0, 0, true⟩⟩ := by
  rw [newP_eq]
  rfl
theorem ex_right : rightP (tickP (newP exT) 28) = true := by
  obtain ⟨n1, n2, n3⟩ := newN_is
  rw [ex_tick, right_eq]
  simp only [exT_ok, fr_ok, n1, n2, n3, Bool.true_and]
  decide
def exP : PSe := ⟨exT, tornP newN exV.ws 13, exV, ⟨28, 33, 8⟩, ⟨0, 0, 0, 0, true⟩⟩
theorem ex_hear : hearP (tickP (newP exT) 28) 1 [0, 5, 1] = (exP, some [0, 5, 1, 1, 5, 0, -1, 1], false) := by
  unfold hearP
  rw [ex_tick]
  simp only [ex_hears]
  rfl
theorem exP_right : rightP exP = true := by
  obtain ⟨n1, n2, n3⟩ := newN_is
  obtain ⟨h1, h2, h3⟩ := torn_full (q := newN) (us := exV.ws) (d := 13) (show 10 ≤ 600 by decide) (by rw [n3]; decide) (show (10 : Int) + 3 ≤ 13 by decide)
  rw [right_eq]
  unfold exP
  simp only [h1, h2, h3, n3, exT_ok, Bool.true_and]
  decide
theorem f8 (H : Heap) : ACallE Try.prog 8 [] H fun v H' => v = .bool true := by
  refine acallE (fun v Hf h => acallK8 (by simp) h) (acs_start ?_)
  have g25 := f25
  have g19 := fun H => f19 (t := exT) (H := H) exT_ok
  rw [show exT.av = [.int .i64 5, .int .i64 8, .int .i64 20, .int .i64 10, .int .i64 16777216] from rfl] at g19
  unfold tms at g25
  unfold c8
  simp (maxSteps:=1000000) (disch:=omega) only [go_sem, ↓reduceIte, reduceCtorEq]
  first | refine callB_intro (g25 _) ?_ | refine callD_intro (g25 _) ?_ | refine callP_intro (fun _ => (g25 _)) ?_ | refine callX_pure (g25 _) ?_
  simp (maxSteps:=1000000) (disch:=omega) only [go_sem, ↓reduceIte, reduceCtorEq]
  first | refine callBE (g19 _) ?_ | refine callDE (g19 _) ?_ | refine callXE (g19 _) ?_
  rintro v1 H1 hx1 ⟨w, rfl, s, rfl, k1, e1⟩
  have a1 := s.len
  have a2 := s.all
  have a3 := s.take
  have eq : s.pl = ⟨exT, newN, frV, ⟨0, 0, 8⟩, ⟨0, 0, 0, 0, false⟩⟩ := by rw [e1, newP_eq]; rfl
  have ec : s.c = ⟨0, 0, 8⟩ := congrArg PSe.c eq
  have el : s.l = ⟨0, 0, 0, 0, false⟩ := congrArg PSe.l eq
  have et : s.t = exT := congrArg PSe.t eq
  have g20 := fun K => f20 (s := s) (k := 28) (k1.app K) (by rw [ec]; decide) (by rw [el]; decide) (by rw [et]; decide)
  have e2 : (Se.mk s.t s.n s.v ⟨tick s.c.n 28, s.c.u, s.c.q⟩ ⟨s.l.a, s.l.b, s.l.c, s.l.s, s.l.o || decide (s.l.s + s.t.d ≤ tick s.c.n 28)⟩).pl = tickP (newP exT) 28 := by
    rw [← e1]
    rfl
  have kS : (Se.mk s.t s.n s.v ⟨tick s.c.n 28, s.c.u, s.c.q⟩ ⟨s.l.a, s.l.b, s.l.c, s.l.s, s.l.o || decide (s.l.s + s.t.d ≤ tick s.c.n 28)⟩).n.ok H1 := k1
  generalize Se.mk s.t s.n s.v ⟨tick s.c.n 28, s.c.u, s.c.q⟩ ⟨s.l.a, s.l.b, s.l.c, s.l.s, s.l.o || decide (s.l.s + s.t.d ≤ tick s.c.n 28)⟩ = S2 at *
  simp (maxSteps:=1000000) (disch:=omega) only [go_sem, ↓reduceIte, reduceCtorEq, a1, a2, a3]
  first | refine callB_intro (g20 _) ?_ | refine callD_intro (g20 _) ?_ | refine callP_intro (fun _ => (g20 _)) ?_ | refine callX_pure (g20 _) ?_
  simp (maxSteps:=1000000) (disch:=omega) only [go_sem, ↓reduceIte, reduceCtorEq]
  first | refine callBE (ACallE.frame (b := H1.length) (by simp only [go_sem, ↓reduceIte, reduceCtorEq]; rfl) rfl (f12 (s := S2) (k := 1) (ns := [0, 5, 1]) (p := H1.length + 1) (off := 0) (cp := some 3) (kS.app_set (by omega) none) (Sl.set (Sl.whole (o := true) (by simp only [go_sem, ↓reduceIte, reduceCtorEq]; rfl)) (by omega) none) (by rw [e2]; exact ex_right))) ?_ | refine callDE (ACallE.frame (b := H1.length) (by simp only [go_sem, ↓reduceIte, reduceCtorEq]; rfl) rfl (f12 (s := S2) (k := 1) (ns := [0, 5, 1]) (p := H1.length + 1) (off := 0) (cp := some 3) (kS.app_set (by omega) none) (Sl.set (Sl.whole (o := true) (by simp only [go_sem, ↓reduceIte, reduceCtorEq]; rfl)) (by omega) none) (by rw [e2]; exact ex_right))) ?_ | refine callXE (ACallE.frame (b := H1.length) (by simp only [go_sem, ↓reduceIte, reduceCtorEq]; rfl) rfl (f12 (s := S2) (k := 1) (ns := [0, 5, 1]) (p := H1.length + 1) (off := 0) (cp := some 3) (kS.app_set (by omega) none) (Sl.set (Sl.whole (o := true) (by simp only [go_sem, ↓reduceIte, reduceCtorEq]; rfl)) (by omega) none) (by rw [e2]; exact ex_right))) ?_
  rintro v2 H2 hx2 ⟨bB, S', an, rfl, k2, e3, h2⟩
  rw [e2, ex_hear] at e3 h2 ⊢
  obtain ⟨q, p, c, d, o, rfl, h5, h6⟩ := h2
  simp only at e3
  have bl := blkAt_lt bB
  have w1 := S'.len
  have w2 := S'.all
  have w3 := S'.take
  have ev : S'.v = exV := congrArg PSe.v e3
  have x9 : S'.av[9]? = some (.int .i64 1) := by show some (AV.int .i64 S'.v.g) = _; rw [ev]; rfl
  have x10 : S'.av[10]? = some (.int .i64 1) := by show some (AV.int .i64 S'.v.e) = _; rw [ev]; rfl
  have x11 : S'.av[11]? = some (.int .i64 0) := by show some (AV.int .i64 S'.v.u) = _; rw [ev]; rfl
  have x12 : S'.av[12]? = some (.int .i64 5) := by show some (AV.int .i64 S'.v.i) = _; rw [ev]; rfl
  have h5' := fun x => Sub.hid (x := x) _ _ h5
  have hql := blkAt_lt h5
  rw [List.length_set] at hql
  have g22 := fun x => f22 (s := S') (H := H2.set H1.length x) (Sub.hid.ok k2)
  rw [e3, exP_right] at g22
  have a4 : List.drop 27 s.av = [] := rfl
  simp (maxSteps:=1000000) (disch:=omega) only [go_sem, ↓reduceIte, reduceCtorEq, bB, bl, a1, a2, a3, a4, List.append_nil, Nat.le_refl, w1, w2, w3, x9, x10, x11, x12, h5', hql, blkAt_set_self, List.length_set]
  first | refine callBE (g22 _) ?_ | refine callDE (g22 _) ?_ | refine callXE (g22 _) ?_
  rintro v3 H3 hx3 rfl
  simp (maxSteps:=1000000) (disch:=omega) only [go_sem, ↓reduceIte, reduceCtorEq]
  refine fin_e (by simp) (by simp (maxSteps:=1000000) (disch:=omega) only [resVal, resAll, resOne, rs8, Env.get, go_sem, ↓reduceIte, reduceCtorEq] <;> rfl) (((hx1.trans ((Ext.app _ _).trans hx2)).set (by have := hx1.len; omega) _).trans hx3) rfl

def HdAv (h : Hd) (an : AV) : List AV := [.int .i64 h.v.g, .int .i64 h.v.e, .int .i64 h.v.u, .int .i64 h.v.i, .int .i64 h.v.y, .int .i64 h.v.q, .int .i64 h.v.l, .int .i64 h.v.a, .int .i64 h.v.b, .int .i64 h.v.c,
  .int .i64 h.c.n, .int .i64 h.c.u, .int .i64 h.c.q, .int .i64 h.l.a, .int .i64 h.l.b, .int .i64 h.l.c, .int .i64 h.l.s, .bool h.l.o, an, .bool h.took, .bool h.st, .bool true]
def noHd : List AV := [.int .i64 0, .int .i64 0, .int .i64 0, .int .i64 0, .int .i64 0, .int .i64 0, .int .i64 0, .int .i64 0, .int .i64 0, .int .i64 0, .int .i64 0, .int .i64 0, .int .i64 0, .int .i64 0, .int .i64 0, .int .i64 0, .int .i64 0, .bool false, .nils, .bool false, .bool false, .bool false]
def HdR (o : Option Hd) (v : AV) (H' : Heap) : Prop :=
  match o with
  | none => v = .agg noHd
  | some h => ∃ an, v = .agg (HdAv h an) ∧ AnsIs H' an h.ans
theorem f63 (v : Vw) (x y long nr : Int) (H : Heap) : ACallE Try.prog 63 [.agg v.av, .int .i64 x, .int .i64 y, .int .i64 long, .int .i64 nr] H fun r H' => AnsIs H' r (some (ansP v x y long nr)) := by
  refine acallE (fun v Hf h => acallK63 (by simp) h) (acs_start ?_)
  unfold c63 Vw.av
  simp (maxSteps:=1000000) (disch:=omega) only [go_sem, ↓reduceIte, reduceCtorEq]
  refine fin_e (by simp) (by simp (maxSteps:=1000000) (disch:=omega) only [resVal, resAll, resOne, rs63, Env.get, go_sem, ↓reduceIte, reduceCtorEq] <;> rfl) ⟨_, rfl⟩ ⟨H.length + 2, H.length + 1, some 1, some 8, true, rfl, by simp only [go_sem, ↓reduceIte, reduceCtorEq]; rfl, Sl.whole (o := true) (by simp only [go_sem, ↓reduceIte, reduceCtorEq]; rfl)⟩
def scHd : SC → SC
  | .seq a _ => a
  | a => a
def scTl : SC → SC
  | .seq _ b => b
  | a => a
def c62T : SC := scTl (scTl (scTl (scTl (scTl c62))))
theorem c62_eq : c62 = .seq (scHd c62) (.seq (scHd (scTl c62)) (.seq (scHd (scTl (scTl c62))) (.seq (scHd (scTl (scTl (scTl c62)))) (.seq (scHd (scTl (scTl (scTl (scTl c62))))) c62T)))) := rfl
section
variable {s : Se} {p off : Nat} {cp : Option Nat} {H : Heap}
theorem f62_t {x y z : Int} (hs : Sl i64 H p off [x, y, z]) (ht : s.t.ok = true) (hc : s.c.ok = true) (hv : s.v.ok = true) (a1 : 0 ≤ x ∧ x ≤ 1 ∧ num y = true ∧ num z = true) (m s' : Bool) (em : mst s.v x y = m) (es : stp2 s.v x y = s') :
    acs Try.prog [.code c62T] [(1, .sl p off 3 1 cp), (2, .ptr H.length 0), (4, .ptr (H.length + 1) 0), (5, .ptr (H.length + 2) 0), (6, .bool m), (7, .bool s')] (H ++ [some ⟨s.av, true⟩, some ⟨[.int .i64 0, .int .i64 0, .int .i64 0, .int .i64 0, .int .i64 0, .int .i64 0, .int .i64 0, .int .i64 0, .int .i64 0, .int .i64 0, .int .i64 0, .int .i64 0, .int .i64 0, .int .i64 0, .int .i64 0, .int .i64 0, .int .i64 0, .bool false, .nils, .bool false, .bool false, .bool false], true⟩, some ⟨s.v.av, true⟩]) (FinE H rs62 (HdR (askP s.t s.v s.c s.l x y z))) := by
  obtain ⟨t1, t2, -, -, t3, t4, -⟩ := Tm.out ht
  obtain ⟨c1, c2, c3, c4, c5, c6⟩ := Ck.out hc
  obtain ⟨v1, v2, v3, v4, -⟩ := Vw.out hv
  have g87 := fun H => f87 (a := s.t.a) (b := s.t.b) (c := s.t.c) (d := s.t.d) (e := s.t.e) (n := s.c.n) (u := s.c.u) (q := s.c.q) m s' H ⟨c1, c2⟩ ⟨c3, by omega⟩ ⟨c5, c6⟩ ⟨t1, t2⟩ ⟨t3, t4⟩
  have hh := how_in s.t.c s.c.n s.c.u s.c.q m s'
  obtain ⟨R, hR⟩ : ∃ R, R = askP s.t s.v s.c s.l x y z := ⟨_, rfl⟩
  rw [← hR]
  unfold askP at hR
  rw [if_pos a1, em, es] at hR
  unfold tms vec lent at g87
  generalize how s.t.c s.c.n s.c.u s.c.q m s' = h at *
  have hs3 := fun K => hs.app K
  obtain ⟨cs, o', hp, hle, hcs⟩ := hs
  have hpl := blkAt_lt hp
  have x0 := sl_get hcs (j := 0) rfl
  have x1 := sl_get hcs (j := 1) rfl
  have x2 := sl_get hcs (j := 2) rfl
  simp only [i64, Nat.add_zero] at x0 x1 x2
  have g63 := fun v => f63 v x y s.t.a z
  unfold Vw.av at g63
  unfold c62T c62
  simp only [scTl]
  unfold Se.av Vw.av
  simp (maxSteps:=1000000) (disch:=omega) only [go_sem, ↓reduceIte, reduceCtorEq]
  first | refine callB_intro (g87 _) ?_ | refine callD_intro (g87 _) ?_ | refine callP_intro (fun _ => (g87 _)) ?_ | refine callX_pure (g87 _) ?_
  have hcase : h = 0 ∨ h = 1 ∨ h = 2 ∨ h = 3 ∨ h = 4 := by omega
  clear hh
  rcases hcase with rfl | rfl | rfl | rfl | rfl
  · rw [if_pos (.inl rfl)] at hR
    rw [hR]
    simp (maxSteps:=1000000) (disch:=omega) only [go_sem, ↓reduceIte, reduceCtorEq]
    refine fin_e (by simp) (by simp (maxSteps:=1000000) (disch:=omega) only [resVal, resAll, resOne, rs62, Env.get, go_sem, ↓reduceIte, reduceCtorEq] <;> rfl) ⟨_, rfl⟩ rfl
  · rw [if_neg (by omega), show askV 1 s.v x y = s.v from rfl, show decide ((1 : Int) < 1) = false from rfl] at hR
    rw [hR]
    simp (maxSteps:=1000000) (disch:=omega) only [go_sem, ↓reduceIte, reduceCtorEq, hp, hpl, x0, x1, x2, blkAt_lo]
    first | refine callBE (ACallE.frame (b := H.length + 1) (by simp only [go_sem, ↓reduceIte, reduceCtorEq]; rfl) rfl (g63 s.v _)) ?_ | refine callDE (ACallE.frame (b := H.length + 1) (by simp only [go_sem, ↓reduceIte, reduceCtorEq]; rfl) rfl (g63 s.v _)) ?_ | refine callXE (ACallE.frame (b := H.length + 1) (by simp only [go_sem, ↓reduceIte, reduceCtorEq]; rfl) rfl (g63 s.v _)) ?_
    rintro v1 H1 hx1 ⟨b1, h1⟩
    have h2 := h1
    obtain ⟨q1, q2, q3, q4, q5, rfl, -, -⟩ := h2
    have b0 := hx1.blk (b := H.length) (by simp only [go_sem, ↓reduceIte, reduceCtorEq]; rfl)
    have bl1 := blkAt_lt b1
    simp (maxSteps:=1000000) (disch:=omega) only [go_sem, ↓reduceIte, reduceCtorEq, b1, bl1, blkAt_set_self]
    refine fin_e (by simp) (by simp (maxSteps:=1000000) (disch:=omega) only [resVal, resAll, resOne, rs62, Env.get, go_sem, ↓reduceIte, reduceCtorEq, b1, bl1, blkAt_set_self] <;> rfl) (((Ext.app _ _).trans hx1).set (by omega) _) ⟨_, rfl, Sub.hid.ans h1⟩
  · by_cases he : s.v.e = 4611686018427387904
    · rw [if_pos (.inr (.inl ⟨by omega, he⟩))] at hR
      rw [hR]
      simp (maxSteps:=1000000) (disch:=omega) only [go_sem, ↓reduceIte, reduceCtorEq, he]
      refine fin_e (by simp) (by simp (maxSteps:=1000000) (disch:=omega) only [resVal, resAll, resOne, rs62, Env.get, go_sem, ↓reduceIte, reduceCtorEq] <;> rfl) ⟨_, rfl⟩ rfl
    rw [if_neg (by omega), show askV 2 s.v x y = { s.v with e := s.v.e + 1, q := 0 } from rfl, show decide ((1 : Int) < 2) = true from rfl] at hR
    rw [hR]
    simp (maxSteps:=1000000) (disch:=omega) only [go_sem, ↓reduceIte, reduceCtorEq, hp, hpl, x0, x1, x2, blkAt_lo, he]
    first | refine callBE (ACallE.frame (b := H.length + 1) (by simp only [go_sem, ↓reduceIte, reduceCtorEq]; rfl) rfl (g63 { s.v with e := s.v.e + 1, q := 0 } _)) ?_ | refine callDE (ACallE.frame (b := H.length + 1) (by simp only [go_sem, ↓reduceIte, reduceCtorEq]; rfl) rfl (g63 { s.v with e := s.v.e + 1, q := 0 } _)) ?_ | refine callXE (ACallE.frame (b := H.length + 1) (by simp only [go_sem, ↓reduceIte, reduceCtorEq]; rfl) rfl (g63 { s.v with e := s.v.e + 1, q := 0 } _)) ?_
    rintro v1 H1 hx1 ⟨b1, h1⟩
    have h2 := h1
    obtain ⟨q1, q2, q3, q4, q5, rfl, -, -⟩ := h2
    have b0 := hx1.blk (b := H.length) (by simp only [go_sem, ↓reduceIte, reduceCtorEq]; rfl)
    have bl1 := blkAt_lt b1
    simp (maxSteps:=1000000) (disch:=omega) only [go_sem, ↓reduceIte, reduceCtorEq, b1, bl1, blkAt_set_self]
    refine fin_e (by simp) (by simp (maxSteps:=1000000) (disch:=omega) only [resVal, resAll, resOne, rs62, Env.get, go_sem, ↓reduceIte, reduceCtorEq, b1, bl1, blkAt_set_self] <;> rfl) (((Ext.app _ _).trans hx1).set (by omega) _) ⟨_, rfl, Sub.hid.ans h1⟩
  · by_cases he : s.v.e = 4611686018427387904
    · rw [if_pos (.inr (.inl ⟨by omega, he⟩))] at hR
      rw [hR]
      simp (maxSteps:=1000000) (disch:=omega) only [go_sem, ↓reduceIte, reduceCtorEq, he]
      refine fin_e (by simp) (by simp (maxSteps:=1000000) (disch:=omega) only [resVal, resAll, resOne, rs62, Env.get, go_sem, ↓reduceIte, reduceCtorEq] <;> rfl) ⟨_, rfl⟩ rfl
    rw [if_neg (by omega), show askV 3 s.v x y = { s.v with e := s.v.e + 1, q := 0, u := x, i := y, y := -1 } from rfl, show decide ((1 : Int) < 3) = true from rfl] at hR
    rw [hR]
    simp (maxSteps:=1000000) (disch:=omega) only [go_sem, ↓reduceIte, reduceCtorEq, hp, hpl, x0, x1, x2, blkAt_lo, he]
    first | refine callBE (ACallE.frame (b := H.length + 1) (by simp only [go_sem, ↓reduceIte, reduceCtorEq]; rfl) rfl (g63 { s.v with e := s.v.e + 1, q := 0, u := x, i := y, y := -1 } _)) ?_ | refine callDE (ACallE.frame (b := H.length + 1) (by simp only [go_sem, ↓reduceIte, reduceCtorEq]; rfl) rfl (g63 { s.v with e := s.v.e + 1, q := 0, u := x, i := y, y := -1 } _)) ?_ | refine callXE (ACallE.frame (b := H.length + 1) (by simp only [go_sem, ↓reduceIte, reduceCtorEq]; rfl) rfl (g63 { s.v with e := s.v.e + 1, q := 0, u := x, i := y, y := -1 } _)) ?_
    rintro v1 H1 hx1 ⟨b1, h1⟩
    have h2 := h1
    obtain ⟨q1, q2, q3, q4, q5, rfl, -, -⟩ := h2
    have b0 := hx1.blk (b := H.length) (by simp only [go_sem, ↓reduceIte, reduceCtorEq]; rfl)
    have bl1 := blkAt_lt b1
    simp (maxSteps:=1000000) (disch:=omega) only [go_sem, ↓reduceIte, reduceCtorEq, b1, bl1, blkAt_set_self]
    refine fin_e (by simp) (by simp (maxSteps:=1000000) (disch:=omega) only [resVal, resAll, resOne, rs62, Env.get, go_sem, ↓reduceIte, reduceCtorEq, b1, bl1, blkAt_set_self] <;> rfl) (((Ext.app _ _).trans hx1).set (by omega) _) ⟨_, rfl, Sub.hid.ans h1⟩
  · by_cases he : s.v.e = 4611686018427387904
    · rw [if_pos (.inr (.inl ⟨by omega, he⟩))] at hR
      rw [hR]
      simp (maxSteps:=1000000) (disch:=omega) only [go_sem, ↓reduceIte, reduceCtorEq, he]
      refine fin_e (by simp) (by simp (maxSteps:=1000000) (disch:=omega) only [resVal, resAll, resOne, rs62, Env.get, go_sem, ↓reduceIte, reduceCtorEq] <;> rfl) ⟨_, rfl⟩ rfl
    by_cases hg : s.v.g = 4611686018427387904
    · rw [if_pos (.inr (.inr ⟨rfl, hg⟩))] at hR
      rw [hR]
      simp (maxSteps:=1000000) (disch:=omega) only [go_sem, ↓reduceIte, reduceCtorEq, he, hg]
      refine fin_e (by simp) (by simp (maxSteps:=1000000) (disch:=omega) only [resVal, resAll, resOne, rs62, Env.get, go_sem, ↓reduceIte, reduceCtorEq] <;> rfl) ⟨_, rfl⟩ rfl
    rw [if_neg (by omega), show askV 4 s.v x y = { s.v with e := s.v.e + 1, q := 0, u := x, i := y, y := -1, g := s.v.g + 1, l := 0 } from rfl, show decide ((1 : Int) < 4) = true from rfl] at hR
    rw [hR]
    simp (maxSteps:=1000000) (disch:=omega) only [go_sem, ↓reduceIte, reduceCtorEq, hp, hpl, x0, x1, x2, blkAt_lo, he, hg]
    first | refine callBE (ACallE.frame (b := H.length + 1) (by simp only [go_sem, ↓reduceIte, reduceCtorEq]; rfl) rfl (g63 { s.v with e := s.v.e + 1, q := 0, u := x, i := y, y := -1, g := s.v.g + 1, l := 0 } _)) ?_ | refine callDE (ACallE.frame (b := H.length + 1) (by simp only [go_sem, ↓reduceIte, reduceCtorEq]; rfl) rfl (g63 { s.v with e := s.v.e + 1, q := 0, u := x, i := y, y := -1, g := s.v.g + 1, l := 0 } _)) ?_ | refine callXE (ACallE.frame (b := H.length + 1) (by simp only [go_sem, ↓reduceIte, reduceCtorEq]; rfl) rfl (g63 { s.v with e := s.v.e + 1, q := 0, u := x, i := y, y := -1, g := s.v.g + 1, l := 0 } _)) ?_
    rintro v1 H1 hx1 ⟨b1, h1⟩
    have h2 := h1
    obtain ⟨q1, q2, q3, q4, q5, rfl, -, -⟩ := h2
    have b0 := hx1.blk (b := H.length) (by simp only [go_sem, ↓reduceIte, reduceCtorEq]; rfl)
    have bl1 := blkAt_lt b1
    simp (maxSteps:=1000000) (disch:=omega) only [go_sem, ↓reduceIte, reduceCtorEq, b1, bl1, blkAt_set_self]
    refine fin_e (by simp) (by simp (maxSteps:=1000000) (disch:=omega) only [resVal, resAll, resOne, rs62, Env.get, go_sem, ↓reduceIte, reduceCtorEq, b1, bl1, blkAt_set_self] <;> rfl) (((Ext.app _ _).trans hx1).set (by omega) _) ⟨_, rfl, Sub.hid.ans h1⟩
theorem f62 {x y z : Int} (hs : Sl i64 H p off [x, y, z]) (ht : s.t.ok = true) (hc : s.c.ok = true) (hv : s.v.ok = true) :
    ACallE Try.prog 62 [.agg s.av, .sl p off 3 1 cp] H (HdR (askP s.t s.v s.c s.l x y z)) := by
  refine acallE (fun v Hf h => acallK62 (by simp) h) (acs_start ?_)
  have tail := fun a1 => f62_t (s := s) (cp := cp) hs ht hc hv a1
  obtain ⟨-, -, -, -, -, -, -, -, -, -, u1, u2, -⟩ := Vw.out hv
  have g2 := f30 y
  have g3 := f30 z
  obtain ⟨cs, o', hp, hle, hcs⟩ := hs
  have hpl := blkAt_lt hp
  have x0 := sl_get hcs (j := 0) rfl
  have x1 := sl_get hcs (j := 1) rfl
  have x2 := sl_get hcs (j := 2) rfl
  simp only [i64, Nat.add_zero] at x0 x1 x2
  obtain ⟨R, hR⟩ : ∃ R, R = askP s.t s.v s.c s.l x y z := ⟨_, rfl⟩
  rw [← hR] at tail ⊢
  unfold askP at hR
  rw [c62_eq]
  unfold c62
  simp only [scHd, scTl]
  unfold Se.av Vw.av at *
  by_cases n1 : x < 0
  · rw [if_neg (fun h => by omega)] at hR
    rw [hR]
    simp (maxSteps:=1000000) (disch:=omega) only [go_sem, ↓reduceIte, reduceCtorEq, hp, hpl, x0, x1, x2, blkAt_lo, n1]
    refine fin_e (by simp) (by simp (maxSteps:=1000000) (disch:=omega) only [resVal, resAll, resOne, rs62, Env.get, go_sem, ↓reduceIte, reduceCtorEq] <;> rfl) ⟨_, rfl⟩ rfl
  by_cases n2 : 1 < x
  · rw [if_neg (fun h => by omega)] at hR
    rw [hR]
    simp (maxSteps:=1000000) (disch:=omega) only [go_sem, ↓reduceIte, reduceCtorEq, hp, hpl, x0, x1, x2, blkAt_lo, n1, n2]
    refine fin_e (by simp) (by simp (maxSteps:=1000000) (disch:=omega) only [resVal, resAll, resOne, rs62, Env.get, go_sem, ↓reduceIte, reduceCtorEq] <;> rfl) ⟨_, rfl⟩ rfl
  simp (maxSteps:=1000000) (disch:=omega) only [go_sem, ↓reduceIte, reduceCtorEq, hp, hpl, x0, x1, x2, blkAt_lo, n1, n2]
  first | refine callB_intro (g2 _) ?_ | refine callD_intro (g2 _) ?_ | refine callP_intro (fun _ => (g2 _)) ?_ | refine callX_pure (g2 _) ?_
  by_cases n3 : num y = true
  rotate_left
  · rw [if_neg (fun h => n3 h.2.2.1)] at hR
    rw [hR]
    simp (maxSteps:=1000000) (disch:=omega) only [go_sem, ↓reduceIte, reduceCtorEq, n3]
    refine fin_e (by simp) (by simp (maxSteps:=1000000) (disch:=omega) only [resVal, resAll, resOne, rs62, Env.get, go_sem, ↓reduceIte, reduceCtorEq] <;> rfl) ⟨_, rfl⟩ rfl
  simp (maxSteps:=1000000) (disch:=omega) only [go_sem, ↓reduceIte, reduceCtorEq, hp, hpl, x0, x1, x2, blkAt_lo, n3]
  first | refine callB_intro (g3 _) ?_ | refine callD_intro (g3 _) ?_ | refine callP_intro (fun _ => (g3 _)) ?_ | refine callX_pure (g3 _) ?_
  by_cases n4 : num z = true
  rotate_left
  · rw [if_neg (fun h => n4 h.2.2.2)] at hR
    rw [hR]
    simp (maxSteps:=1000000) (disch:=omega) only [go_sem, ↓reduceIte, reduceCtorEq, n4]
    refine fin_e (by simp) (by simp (maxSteps:=1000000) (disch:=omega) only [resVal, resAll, resOne, rs62, Env.get, go_sem, ↓reduceIte, reduceCtorEq] <;> rfl) ⟨_, rfl⟩ rfl
  have tail := tail ⟨by omega, by omega, n3, n4⟩
  clear hR
  by_cases k1 : x = s.v.u
  · have k1' : (0 : Int) ≤ s.v.u := by omega
    by_cases k2 : y = s.v.i
    · have tail := tail true false (decide_eq_true ⟨by omega, k1, k2⟩) (decide_eq_false (by omega))
      by_cases k3 : 0 ≤ s.v.y
      · simp (maxSteps:=1000000) (disch:=omega) only [go_sem, ↓reduceIte, reduceCtorEq, hp, hpl, x0, x1, x2, blkAt_lo, n4, k1', k1, k2, k3]
        exact tail
      · simp (maxSteps:=1000000) (disch:=omega) only [go_sem, ↓reduceIte, reduceCtorEq, hp, hpl, x0, x1, x2, blkAt_lo, n4, k1', k1, k2, k3]
        exact tail
    · have tail := tail false false (decide_eq_false (fun h => k2 h.2.2)) (decide_eq_false (by omega))
      by_cases k3 : 0 ≤ s.v.y
      · simp (maxSteps:=1000000) (disch:=omega) only [go_sem, ↓reduceIte, reduceCtorEq, hp, hpl, x0, x1, x2, blkAt_lo, n4, k1', k1, k2, k3]
        exact tail
      · simp (maxSteps:=1000000) (disch:=omega) only [go_sem, ↓reduceIte, reduceCtorEq, hp, hpl, x0, x1, x2, blkAt_lo, n4, k1', k1, k2, k3]
        exact tail
  · have em : mst s.v x y = false := decide_eq_false (fun h => k1 h.2.1)
    by_cases k2 : 0 ≤ s.v.u
    · by_cases k3 : 0 ≤ s.v.y
      · by_cases k4 : y = s.v.y
        · have tail := tail false true em (decide_eq_true ⟨by omega, by omega, by omega, k4⟩)
          simp (maxSteps:=1000000) (disch:=omega) only [go_sem, ↓reduceIte, reduceCtorEq, hp, hpl, x0, x1, x2, blkAt_lo, n4, k1, k2, k3, k4]
          exact tail
        · have tail := tail false false em (decide_eq_false (fun h => k4 h.2.2.2))
          simp (maxSteps:=1000000) (disch:=omega) only [go_sem, ↓reduceIte, reduceCtorEq, hp, hpl, x0, x1, x2, blkAt_lo, n4, k1, k2, k3, k4]
          exact tail
      · have hy0 := of_decide_eq_true (show decide (0 ≤ y ∧ y ≤ 4611686018427387904) = true from n3)
        have tail := tail false false em (decide_eq_false (by omega))
        simp (maxSteps:=1000000) (disch:=omega) only [go_sem, ↓reduceIte, reduceCtorEq, hp, hpl, x0, x1, x2, blkAt_lo, n4, k1, k2, k3]
        exact tail
    · have tail := tail false false em (decide_eq_false (by omega))
      simp (maxSteps:=1000000) (disch:=omega) only [go_sem, ↓reduceIte, reduceCtorEq, hp, hpl, x0, x1, x2, blkAt_lo, n4, k1, k2]
      exact tail
end

theorem AnsIs.form {H : Heap} {an : AV} {o : Option (List Int)} (h : AnsIs H an o) : an = .nils ∨ ∃ q c, an = .sl q 0 1 2 c := by
  cases o with
  | none =>
    exact .inl h
  | some l =>
    obtain ⟨q1, q2, q3, q4, q5, rfl, -, -⟩ := h
    exact .inr ⟨_, _, rfl⟩
theorem f36 {s : Se} {k : Int} {ns : List Int} {p off : Nat} {cp : Option Nat} {H : Heap} (hs : Sl i64 H p off ns) (hr : rightP s.pl = true) :
    ACallE Try.prog 36 [.agg s.av, .agg [.int .i64 k, .sl p off ns.length 1 cp]] H (HdR (hearsP s.t s.v s.c s.l k ns)) := by
  refine acallE (fun v Hf h => acallK36 (by simp) h) (acs_start ?_)
  obtain ⟨ht, hc, hv, hb, -⟩ := right_out hr
  replace ht : s.t.ok = true := ht
  replace hc : s.c.ok = true := hc
  replace hv : s.v.ok = true := hv
  have V := Vw.out hv
  have C := Ck.out hc
  have hbq : BQ s.l.a ∧ BQ s.l.b ∧ BQ s.l.c := by
    obtain ⟨e1, e2, e3⟩ := hb
    have e1 : s.l.a = s.v.a := e1
    have e2 : s.l.b = s.v.b := e2
    have e3 : s.l.c = s.v.c := e3
    rw [e1, e2, e3]
    exact ⟨V.2.2.2.2.2.2.2.2.2.2.2.2.2.2.1, V.2.2.2.2.2.2.2.2.2.2.2.2.2.2.2.1, V.2.2.2.2.2.2.2.2.2.2.2.2.2.2.2.2⟩
  have g11 := fun H => f11 (k := k) (p := p) (off := off) (n := ns.length) (c := cp) (H := H)
  unfold c36
  cases hf : rightF k ns.length with
  | false =>
    rw [hf] at g11
    rw [hears_wrong hf]
    unfold Se.av
    simp (maxSteps:=1000000) (disch:=omega) only [go_sem, ↓reduceIte, reduceCtorEq]
    first | refine callB_intro (g11 _) ?_ | refine callD_intro (g11 _) ?_ | refine callP_intro (fun _ => (g11 _)) ?_ | refine callX_pure (g11 _) ?_
    simp (maxSteps:=1000000) (disch:=omega) only [go_sem, ↓reduceIte, reduceCtorEq]
    refine fin_e (by simp) (by simp (maxSteps:=1000000) (disch:=omega) only [resVal, resAll, resOne, rs36, Env.get, go_sem, ↓reduceIte, reduceCtorEq] <;> rfl) ⟨_, rfl⟩ rfl
  | true =>
  rw [hf] at g11
  by_cases k1 : k = 1
  · subst k1
    obtain ⟨x, y, z, rfl⟩ := three (l := ns) (by have h : (ns.length : Int) = 3 := right_len hf; omega)
    rw [show hearsP s.t s.v s.c s.l 1 [x, y, z] = askP s.t s.v s.c s.l x y z from rfl]
    have g62 := fun K => f62 (s := s) (cp := cp) (H := (H ++ K).set (H.length + 2) none) (hs.app_set (by omega) none) ht hc hv
    generalize askP s.t s.v s.c s.l x y z = o at *
    unfold Se.av at *
    simp (maxSteps:=1000000) (disch:=omega) only [go_sem, ↓reduceIte, reduceCtorEq]
    first | refine callB_intro (g11 _) ?_ | refine callD_intro (g11 _) ?_ | refine callP_intro (fun _ => (g11 _)) ?_ | refine callX_pure (g11 _) ?_
    simp (maxSteps:=1000000) (disch:=omega) only [go_sem, ↓reduceIte, reduceCtorEq]
    first | refine callBE (ACallE.frame (b := H.length + 2) (by simp only [go_sem, ↓reduceIte, reduceCtorEq]; rfl) rfl (g62 _)) ?_ | refine callDE (ACallE.frame (b := H.length + 2) (by simp only [go_sem, ↓reduceIte, reduceCtorEq]; rfl) rfl (g62 _)) ?_ | refine callXE (ACallE.frame (b := H.length + 2) (by simp only [go_sem, ↓reduceIte, reduceCtorEq]; rfl) rfl (g62 _)) ?_
    rintro v1 H1 hx1 ⟨b1, h1⟩
    have bl1 := blkAt_lt b1
    have hy1 : Ext H H1 := (Ext.app _ _).trans hx1
    cases o with
    | none =>
      replace h1 : v1 = .agg noHd := h1
      subst h1
      unfold noHd
      simp (maxSteps:=1000000) (disch:=omega) only [go_sem, ↓reduceIte, reduceCtorEq, b1, bl1, blkAt_set_self]
      refine fin_e (by simp) (by simp (maxSteps:=1000000) (disch:=omega) only [resVal, resAll, resOne, rs36, Env.get, go_sem, ↓reduceIte, reduceCtorEq, b1, bl1, blkAt_set_self] <;> rfl) (hy1.set (by omega) _) rfl
    | some h =>
      obtain ⟨an, rfl, h2⟩ := h1
      unfold HdAv
      rcases h2.form with rfl | ⟨q1, q2, rfl⟩
      · simp (maxSteps:=1000000) (disch:=omega) only [go_sem, ↓reduceIte, reduceCtorEq, b1, bl1, blkAt_set_self]
        refine fin_e (by simp) (by simp (maxSteps:=1000000) (disch:=omega) only [resVal, resAll, resOne, rs36, Env.get, go_sem, ↓reduceIte, reduceCtorEq, b1, bl1, blkAt_set_self] <;> rfl) (hy1.set (by omega) _) ⟨_, rfl, Sub.hid.ans h2⟩
      · simp (maxSteps:=1000000) (disch:=omega) only [go_sem, ↓reduceIte, reduceCtorEq, b1, bl1, blkAt_set_self]
        refine fin_e (by simp) (by simp (maxSteps:=1000000) (disch:=omega) only [resVal, resAll, resOne, rs36, Env.get, go_sem, ↓reduceIte, reduceCtorEq, b1, bl1, blkAt_set_self] <;> rfl) (hy1.set (by omega) _) ⟨_, rfl, Sub.hid.ans h2⟩
  by_cases k4 : k = 4
  · subst k4
    obtain ⟨x, y, e, q, o, rfl⟩ := five (l := ns) (by have h : (ns.length : Int) = 5 := right_len hf; omega)
    rw [show hearsP s.t s.v s.c s.l 4 [x, y, e, q, o] = syncP s.v s.c s.l x y e q o from rfl]
    obtain ⟨cs, o', hp, hle, hcs⟩ := hs
    have hpl := blkAt_lt hp
    have x0 := sl_get hcs (j := 0) rfl
    have x1 := sl_get hcs (j := 1) rfl
    have x2 := sl_get hcs (j := 2) rfl
    have x3 := sl_get hcs (j := 3) rfl
    have x4 := sl_get hcs (j := 4) rfl
    simp only [i64, Nat.add_zero] at x0 x1 x2 x3 x4
    clear hcs hle
    unfold Se.av
    unfold syncP
    by_cases j0 : s.v.u < 0
    · rw [if_neg (fun h => by have := (of_decide_eq_true (show decide _ = true from h.1)); omega)]
      simp (maxSteps:=1000000) (disch:=omega) only [go_sem, ↓reduceIte, reduceCtorEq]
      first | refine callB_intro (g11 _) ?_ | refine callD_intro (g11 _) ?_ | refine callP_intro (fun _ => (g11 _)) ?_ | refine callX_pure (g11 _) ?_
      simp (maxSteps:=1000000) (disch:=omega) only [go_sem, ↓reduceIte, reduceCtorEq, hp, hpl, x0, x1, x2, x3, x4, blkAt_lo, j0]
      refine fin_e (by simp) (by simp (maxSteps:=1000000) (disch:=omega) only [resVal, resAll, resOne, rs36, Env.get, go_sem, ↓reduceIte, reduceCtorEq] <;> rfl) ⟨_, rfl⟩ rfl
    by_cases j1 : x = s.v.u
    rotate_left
    · rw [if_neg (fun h => j1 (of_decide_eq_true (show decide _ = true from h.1)).2.1)]
      simp (maxSteps:=1000000) (disch:=omega) only [go_sem, ↓reduceIte, reduceCtorEq]
      first | refine callB_intro (g11 _) ?_ | refine callD_intro (g11 _) ?_ | refine callP_intro (fun _ => (g11 _)) ?_ | refine callX_pure (g11 _) ?_
      simp (maxSteps:=1000000) (disch:=omega) only [go_sem, ↓reduceIte, reduceCtorEq, hp, hpl, x0, x1, x2, x3, x4, blkAt_lo, j0, j1]
      refine fin_e (by simp) (by simp (maxSteps:=1000000) (disch:=omega) only [resVal, resAll, resOne, rs36, Env.get, go_sem, ↓reduceIte, reduceCtorEq] <;> rfl) ⟨_, rfl⟩ rfl
    by_cases j2 : y = s.v.i
    rotate_left
    · rw [if_neg (fun h => j2 (of_decide_eq_true (show decide _ = true from h.1)).2.2)]
      simp (maxSteps:=1000000) (disch:=omega) only [go_sem, ↓reduceIte, reduceCtorEq]
      first | refine callB_intro (g11 _) ?_ | refine callD_intro (g11 _) ?_ | refine callP_intro (fun _ => (g11 _)) ?_ | refine callX_pure (g11 _) ?_
      simp (maxSteps:=1000000) (disch:=omega) only [go_sem, ↓reduceIte, reduceCtorEq, hp, hpl, x0, x1, x2, x3, x4, blkAt_lo, j0, j1, j2]
      refine fin_e (by simp) (by simp (maxSteps:=1000000) (disch:=omega) only [resVal, resAll, resOne, rs36, Env.get, go_sem, ↓reduceIte, reduceCtorEq] <;> rfl) ⟨_, rfl⟩ rfl
    by_cases j3 : e = s.v.e
    rotate_left
    · rw [if_neg (fun h => j3 h.2.1)]
      simp (maxSteps:=1000000) (disch:=omega) only [go_sem, ↓reduceIte, reduceCtorEq]
      first | refine callB_intro (g11 _) ?_ | refine callD_intro (g11 _) ?_ | refine callP_intro (fun _ => (g11 _)) ?_ | refine callX_pure (g11 _) ?_
      simp (maxSteps:=1000000) (disch:=omega) only [go_sem, ↓reduceIte, reduceCtorEq, hp, hpl, x0, x1, x2, x3, x4, blkAt_lo, j0, j1, j2, j3]
      refine fin_e (by simp) (by simp (maxSteps:=1000000) (disch:=omega) only [resVal, resAll, resOne, rs36, Env.get, go_sem, ↓reduceIte, reduceCtorEq] <;> rfl) ⟨_, rfl⟩ rfl
    by_cases j4 : o < -1
    · rw [if_neg (fun h => by omega)]
      simp (maxSteps:=1000000) (disch:=omega) only [go_sem, ↓reduceIte, reduceCtorEq]
      first | refine callB_intro (g11 _) ?_ | refine callD_intro (g11 _) ?_ | refine callP_intro (fun _ => (g11 _)) ?_ | refine callX_pure (g11 _) ?_
      simp (maxSteps:=1000000) (disch:=omega) only [go_sem, ↓reduceIte, reduceCtorEq, hp, hpl, x0, x1, x2, x3, x4, blkAt_lo, j0, j1, j2, j3, j4]
      refine fin_e (by simp) (by simp (maxSteps:=1000000) (disch:=omega) only [resVal, resAll, resOne, rs36, Env.get, go_sem, ↓reduceIte, reduceCtorEq] <;> rfl) ⟨_, rfl⟩ rfl
    by_cases j5 : 4611686018427387904 < o
    · rw [if_neg (fun h => by omega)]
      simp (maxSteps:=1000000) (disch:=omega) only [go_sem, ↓reduceIte, reduceCtorEq]
      first | refine callB_intro (g11 _) ?_ | refine callD_intro (g11 _) ?_ | refine callP_intro (fun _ => (g11 _)) ?_ | refine callX_pure (g11 _) ?_
      simp (maxSteps:=1000000) (disch:=omega) only [go_sem, ↓reduceIte, reduceCtorEq, hp, hpl, x0, x1, x2, x3, x4, blkAt_lo, j0, j1, j2, j3, j4, j5]
      refine fin_e (by simp) (by simp (maxSteps:=1000000) (disch:=omega) only [resVal, resAll, resOne, rs36, Env.get, go_sem, ↓reduceIte, reduceCtorEq] <;> rfl) ⟨_, rfl⟩ rfl
    rw [if_pos ⟨decide_eq_true ⟨by omega, j1, j2⟩, j3, by omega, by omega⟩]
    have g64 := fun H => f64 s.c.n s.c.u s.c.q H ⟨C.1, C.2.1⟩ ⟨C.2.2.1, by omega⟩
    unfold vec at g64
    subst j1 j2
    have g63 := fun v => f63 v s.v.u s.v.i (imax (s.c.u - s.c.n) 0) 0
    unfold Vw.av at g63
    unfold syncV
    by_cases j6 : s.v.q < q
    · by_cases j7 : q ≤ 4611686018427387904
      · rw [if_pos ⟨j6, j7⟩, decide_eq_true ⟨j6, j7⟩]
        simp (maxSteps:=1000000) (disch:=omega) only [go_sem, ↓reduceIte, reduceCtorEq]
        first | refine callB_intro (g11 _) ?_ | refine callD_intro (g11 _) ?_ | refine callP_intro (fun _ => (g11 _)) ?_ | refine callX_pure (g11 _) ?_
        simp (maxSteps:=1000000) (disch:=omega) only [go_sem, ↓reduceIte, reduceCtorEq, hp, hpl, x0, x1, x2, x3, x4, blkAt_lo, j0, j3, j4, j5, j6, j7]
        first | refine callB_intro (g64 _) ?_ | refine callD_intro (g64 _) ?_ | refine callP_intro (fun _ => (g64 _)) ?_ | refine callX_pure (g64 _) ?_
        simp (maxSteps:=1000000) (disch:=omega) only [go_sem, ↓reduceIte, reduceCtorEq, hp, hpl, x0, x1, x2, x3, x4, blkAt_lo, j6, j7]
        first | refine callBE (ACallE.frame (b := H.length + 2) (by simp only [go_sem, ↓reduceIte, reduceCtorEq]; rfl) rfl (g63 { s.v with q := q, y := o } _)) ?_ | refine callDE (ACallE.frame (b := H.length + 2) (by simp only [go_sem, ↓reduceIte, reduceCtorEq]; rfl) rfl (g63 { s.v with q := q, y := o } _)) ?_ | refine callXE (ACallE.frame (b := H.length + 2) (by simp only [go_sem, ↓reduceIte, reduceCtorEq]; rfl) rfl (g63 { s.v with q := q, y := o } _)) ?_
        rintro v1 H1 hx1 ⟨b1, h1⟩
        have h2 := h1
        obtain ⟨q1, q2, q3, q4, q5, rfl, -, -⟩ := h2
        have bl1 := blkAt_lt b1
        have hy1 : Ext H H1 := (Ext.app _ _).trans hx1
        simp (maxSteps:=1000000) (disch:=omega) only [go_sem, ↓reduceIte, reduceCtorEq, b1, bl1, blkAt_set_self]
        refine fin_e (by simp) (by simp (maxSteps:=1000000) (disch:=omega) only [resVal, resAll, resOne, rs36, Env.get, go_sem, ↓reduceIte, reduceCtorEq, b1, bl1, blkAt_set_self] <;> rfl) (hy1.set (by omega) _) ⟨_, rfl, Sub.hid.ans h1⟩
      · rw [if_neg (fun h => j7 h.2), decide_eq_false (fun h => j7 h.2)]
        simp (maxSteps:=1000000) (disch:=omega) only [go_sem, ↓reduceIte, reduceCtorEq]
        first | refine callB_intro (g11 _) ?_ | refine callD_intro (g11 _) ?_ | refine callP_intro (fun _ => (g11 _)) ?_ | refine callX_pure (g11 _) ?_
        simp (maxSteps:=1000000) (disch:=omega) only [go_sem, ↓reduceIte, reduceCtorEq, hp, hpl, x0, x1, x2, x3, x4, blkAt_lo, j0, j3, j4, j5, j6, j7]
        first | refine callB_intro (g64 _) ?_ | refine callD_intro (g64 _) ?_ | refine callP_intro (fun _ => (g64 _)) ?_ | refine callX_pure (g64 _) ?_
        simp (maxSteps:=1000000) (disch:=omega) only [go_sem, ↓reduceIte, reduceCtorEq, hp, hpl, x0, x1, x2, x3, x4, blkAt_lo, j6, j7]
        first | refine callBE (ACallE.frame (b := H.length + 2) (by simp only [go_sem, ↓reduceIte, reduceCtorEq]; rfl) rfl (g63 s.v _)) ?_ | refine callDE (ACallE.frame (b := H.length + 2) (by simp only [go_sem, ↓reduceIte, reduceCtorEq]; rfl) rfl (g63 s.v _)) ?_ | refine callXE (ACallE.frame (b := H.length + 2) (by simp only [go_sem, ↓reduceIte, reduceCtorEq]; rfl) rfl (g63 s.v _)) ?_
        rintro v1 H1 hx1 ⟨b1, h1⟩
        have h2 := h1
        obtain ⟨q1, q2, q3, q4, q5, rfl, -, -⟩ := h2
        have bl1 := blkAt_lt b1
        have hy1 : Ext H H1 := (Ext.app _ _).trans hx1
        simp (maxSteps:=1000000) (disch:=omega) only [go_sem, ↓reduceIte, reduceCtorEq, b1, bl1, blkAt_set_self]
        refine fin_e (by simp) (by simp (maxSteps:=1000000) (disch:=omega) only [resVal, resAll, resOne, rs36, Env.get, go_sem, ↓reduceIte, reduceCtorEq, b1, bl1, blkAt_set_self] <;> rfl) (hy1.set (by omega) _) ⟨_, rfl, Sub.hid.ans h1⟩
    · rw [if_neg (fun h => j6 h.1), decide_eq_false (fun h => j6 h.1)]
      simp (maxSteps:=1000000) (disch:=omega) only [go_sem, ↓reduceIte, reduceCtorEq]
      first | refine callB_intro (g11 _) ?_ | refine callD_intro (g11 _) ?_ | refine callP_intro (fun _ => (g11 _)) ?_ | refine callX_pure (g11 _) ?_
      simp (maxSteps:=1000000) (disch:=omega) only [go_sem, ↓reduceIte, reduceCtorEq, hp, hpl, x0, x1, x2, x3, x4, blkAt_lo, j0, j3, j4, j5, j6]
      first | refine callB_intro (g64 _) ?_ | refine callD_intro (g64 _) ?_ | refine callP_intro (fun _ => (g64 _)) ?_ | refine callX_pure (g64 _) ?_
      simp (maxSteps:=1000000) (disch:=omega) only [go_sem, ↓reduceIte, reduceCtorEq, hp, hpl, x0, x1, x2, x3, x4, blkAt_lo, j6]
      first | refine callBE (ACallE.frame (b := H.length + 2) (by simp only [go_sem, ↓reduceIte, reduceCtorEq]; rfl) rfl (g63 s.v _)) ?_ | refine callDE (ACallE.frame (b := H.length + 2) (by simp only [go_sem, ↓reduceIte, reduceCtorEq]; rfl) rfl (g63 s.v _)) ?_ | refine callXE (ACallE.frame (b := H.length + 2) (by simp only [go_sem, ↓reduceIte, reduceCtorEq]; rfl) rfl (g63 s.v _)) ?_
      rintro v1 H1 hx1 ⟨b1, h1⟩
      have h2 := h1
      obtain ⟨q1, q2, q3, q4, q5, rfl, -, -⟩ := h2
      have bl1 := blkAt_lt b1
      have hy1 : Ext H H1 := (Ext.app _ _).trans hx1
      simp (maxSteps:=1000000) (disch:=omega) only [go_sem, ↓reduceIte, reduceCtorEq, b1, bl1, blkAt_set_self]
      refine fin_e (by simp) (by simp (maxSteps:=1000000) (disch:=omega) only [resVal, resAll, resOne, rs36, Env.get, go_sem, ↓reduceIte, reduceCtorEq, b1, bl1, blkAt_set_self] <;> rfl) (hy1.set (by omega) _) ⟨_, rfl, Sub.hid.ans h1⟩
  by_cases k3 : k = 3
  · subst k3
    obtain ⟨x, y, g, e, m, a, b, d, rfl⟩ := eight (l := ns) (by have h : (ns.length : Int) = 8 := right_len hf; omega)
    rw [show hearsP s.t s.v s.c s.l 3 [x, y, g, e, m, a, b, d] = outP s.t s.v s.c s.l x y g e m a b d from rfl]
    obtain ⟨cs, o', hp, hle, hcs⟩ := hs
    have hpl := blkAt_lt hp
    have x0 := sl_get hcs (j := 0) rfl
    have x1 := sl_get hcs (j := 1) rfl
    have x2 := sl_get hcs (j := 2) rfl
    have x3 := sl_get hcs (j := 3) rfl
    have x4 := sl_get hcs (j := 4) rfl
    have x5 := sl_get hcs (j := 5) rfl
    have x6 := sl_get hcs (j := 6) rfl
    have x7 := sl_get hcs (j := 7) rfl
    simp only [i64, Nat.add_zero] at x0 x1 x2 x3 x4 x5 x6 x7
    clear hcs hle
    unfold Se.av
    unfold outP
    by_cases j0 : s.v.u < 0
    · rw [if_neg (fun h => by have := (of_decide_eq_true (show decide _ = true from h.1)); omega)]
      simp (maxSteps:=1000000) (disch:=omega) only [go_sem, ↓reduceIte, reduceCtorEq]
      first | refine callB_intro (g11 _) ?_ | refine callD_intro (g11 _) ?_ | refine callP_intro (fun _ => (g11 _)) ?_ | refine callX_pure (g11 _) ?_
      simp (maxSteps:=1000000) (disch:=omega) only [go_sem, ↓reduceIte, reduceCtorEq, hp, hpl, x0, x1, x2, x3, x4, x5, x6, x7, blkAt_lo, j0]
      refine fin_e (by simp) (by simp (maxSteps:=1000000) (disch:=omega) only [resVal, resAll, resOne, rs36, Env.get, go_sem, ↓reduceIte, reduceCtorEq] <;> rfl) ⟨_, rfl⟩ rfl
    by_cases j1 : x = s.v.u
    rotate_left
    · rw [if_neg (fun h => j1 (of_decide_eq_true (show decide _ = true from h.1)).2.1)]
      simp (maxSteps:=1000000) (disch:=omega) only [go_sem, ↓reduceIte, reduceCtorEq]
      first | refine callB_intro (g11 _) ?_ | refine callD_intro (g11 _) ?_ | refine callP_intro (fun _ => (g11 _)) ?_ | refine callX_pure (g11 _) ?_
      simp (maxSteps:=1000000) (disch:=omega) only [go_sem, ↓reduceIte, reduceCtorEq, hp, hpl, x0, x1, x2, x3, x4, x5, x6, x7, blkAt_lo, j0, j1]
      refine fin_e (by simp) (by simp (maxSteps:=1000000) (disch:=omega) only [resVal, resAll, resOne, rs36, Env.get, go_sem, ↓reduceIte, reduceCtorEq] <;> rfl) ⟨_, rfl⟩ rfl
    by_cases j2 : y = s.v.i
    rotate_left
    · rw [if_neg (fun h => j2 (of_decide_eq_true (show decide _ = true from h.1)).2.2)]
      simp (maxSteps:=1000000) (disch:=omega) only [go_sem, ↓reduceIte, reduceCtorEq]
      first | refine callB_intro (g11 _) ?_ | refine callD_intro (g11 _) ?_ | refine callP_intro (fun _ => (g11 _)) ?_ | refine callX_pure (g11 _) ?_
      simp (maxSteps:=1000000) (disch:=omega) only [go_sem, ↓reduceIte, reduceCtorEq, hp, hpl, x0, x1, x2, x3, x4, x5, x6, x7, blkAt_lo, j0, j1, j2]
      refine fin_e (by simp) (by simp (maxSteps:=1000000) (disch:=omega) only [resVal, resAll, resOne, rs36, Env.get, go_sem, ↓reduceIte, reduceCtorEq] <;> rfl) ⟨_, rfl⟩ rfl
    have g56 := f56 a b d 1
    have eq1 : rightQ a b d 1 = decide (BQ a ∧ BQ b ∧ BQ d) := by
      unfold rightQ BQ
      rw [Bool.eq_iff_iff]
      simp only [decide_eq_true_eq]
      omega
    rw [eq1] at g56
    unfold vec at g56
    clear eq1
    by_cases j3 : g = s.v.g
    rotate_left
    · rw [if_neg (fun h => j3 h.2.1)]
      simp (maxSteps:=1000000) (disch:=omega) only [go_sem, ↓reduceIte, reduceCtorEq]
      first | refine callB_intro (g11 _) ?_ | refine callD_intro (g11 _) ?_ | refine callP_intro (fun _ => (g11 _)) ?_ | refine callX_pure (g11 _) ?_
      simp (maxSteps:=1000000) (disch:=omega) only [go_sem, ↓reduceIte, reduceCtorEq, hp, hpl, x0, x1, x2, x3, x4, x5, x6, x7, blkAt_lo, j0, j1, j2]
      first | refine callB_intro (g56 _) ?_ | refine callD_intro (g56 _) ?_ | refine callP_intro (fun _ => (g56 _)) ?_ | refine callX_pure (g56 _) ?_
      simp (maxSteps:=1000000) (disch:=omega) only [go_sem, ↓reduceIte, reduceCtorEq, hp, hpl, x0, x1, x2, x3, x4, x5, x6, x7, blkAt_lo, j3]
      refine fin_e (by simp) (by simp (maxSteps:=1000000) (disch:=omega) only [resVal, resAll, resOne, rs36, Env.get, go_sem, ↓reduceIte, reduceCtorEq] <;> rfl) ⟨_, rfl⟩ rfl
    by_cases j4 : e = s.v.e
    rotate_left
    · rw [if_neg (fun h => j4 h.2.2.1)]
      simp (maxSteps:=1000000) (disch:=omega) only [go_sem, ↓reduceIte, reduceCtorEq]
      first | refine callB_intro (g11 _) ?_ | refine callD_intro (g11 _) ?_ | refine callP_intro (fun _ => (g11 _)) ?_ | refine callX_pure (g11 _) ?_
      simp (maxSteps:=1000000) (disch:=omega) only [go_sem, ↓reduceIte, reduceCtorEq, hp, hpl, x0, x1, x2, x3, x4, x5, x6, x7, blkAt_lo, j0, j1, j2]
      first | refine callB_intro (g56 _) ?_ | refine callD_intro (g56 _) ?_ | refine callP_intro (fun _ => (g56 _)) ?_ | refine callX_pure (g56 _) ?_
      simp (maxSteps:=1000000) (disch:=omega) only [go_sem, ↓reduceIte, reduceCtorEq, hp, hpl, x0, x1, x2, x3, x4, x5, x6, x7, blkAt_lo, j3, j4]
      refine fin_e (by simp) (by simp (maxSteps:=1000000) (disch:=omega) only [resVal, resAll, resOne, rs36, Env.get, go_sem, ↓reduceIte, reduceCtorEq] <;> rfl) ⟨_, rfl⟩ rfl
    by_cases j5 : m ≤ s.v.l
    · rw [if_neg (fun h => by omega)]
      simp (maxSteps:=1000000) (disch:=omega) only [go_sem, ↓reduceIte, reduceCtorEq]
      first | refine callB_intro (g11 _) ?_ | refine callD_intro (g11 _) ?_ | refine callP_intro (fun _ => (g11 _)) ?_ | refine callX_pure (g11 _) ?_
      simp (maxSteps:=1000000) (disch:=omega) only [go_sem, ↓reduceIte, reduceCtorEq, hp, hpl, x0, x1, x2, x3, x4, x5, x6, x7, blkAt_lo, j0, j1, j2]
      first | refine callB_intro (g56 _) ?_ | refine callD_intro (g56 _) ?_ | refine callP_intro (fun _ => (g56 _)) ?_ | refine callX_pure (g56 _) ?_
      simp (maxSteps:=1000000) (disch:=omega) only [go_sem, ↓reduceIte, reduceCtorEq, hp, hpl, x0, x1, x2, x3, x4, x5, x6, x7, blkAt_lo, j3, j4, j5]
      refine fin_e (by simp) (by simp (maxSteps:=1000000) (disch:=omega) only [resVal, resAll, resOne, rs36, Env.get, go_sem, ↓reduceIte, reduceCtorEq] <;> rfl) ⟨_, rfl⟩ rfl
    by_cases j6 : 4611686018427387904 < m
    · rw [if_neg (fun h => by omega)]
      simp (maxSteps:=1000000) (disch:=omega) only [go_sem, ↓reduceIte, reduceCtorEq]
      first | refine callB_intro (g11 _) ?_ | refine callD_intro (g11 _) ?_ | refine callP_intro (fun _ => (g11 _)) ?_ | refine callX_pure (g11 _) ?_
      simp (maxSteps:=1000000) (disch:=omega) only [go_sem, ↓reduceIte, reduceCtorEq, hp, hpl, x0, x1, x2, x3, x4, x5, x6, x7, blkAt_lo, j0, j1, j2]
      first | refine callB_intro (g56 _) ?_ | refine callD_intro (g56 _) ?_ | refine callP_intro (fun _ => (g56 _)) ?_ | refine callX_pure (g56 _) ?_
      simp (maxSteps:=1000000) (disch:=omega) only [go_sem, ↓reduceIte, reduceCtorEq, hp, hpl, x0, x1, x2, x3, x4, x5, x6, x7, blkAt_lo, j3, j4, j5, j6]
      refine fin_e (by simp) (by simp (maxSteps:=1000000) (disch:=omega) only [resVal, resAll, resOne, rs36, Env.get, go_sem, ↓reduceIte, reduceCtorEq] <;> rfl) ⟨_, rfl⟩ rfl
    by_cases j7 : BQ a ∧ BQ b ∧ BQ d
    rotate_left
    · rw [decide_eq_false j7] at g56
      rw [if_neg (fun h => j7 ⟨h.2.2.2.2.2.1, h.2.2.2.2.2.2.1, h.2.2.2.2.2.2.2⟩)]
      simp (maxSteps:=1000000) (disch:=omega) only [go_sem, ↓reduceIte, reduceCtorEq]
      first | refine callB_intro (g11 _) ?_ | refine callD_intro (g11 _) ?_ | refine callP_intro (fun _ => (g11 _)) ?_ | refine callX_pure (g11 _) ?_
      simp (maxSteps:=1000000) (disch:=omega) only [go_sem, ↓reduceIte, reduceCtorEq, hp, hpl, x0, x1, x2, x3, x4, x5, x6, x7, blkAt_lo, j0, j1, j2]
      first | refine callB_intro (g56 _) ?_ | refine callD_intro (g56 _) ?_ | refine callP_intro (fun _ => (g56 _)) ?_ | refine callX_pure (g56 _) ?_
      simp (maxSteps:=1000000) (disch:=omega) only [go_sem, ↓reduceIte, reduceCtorEq, hp, hpl, x0, x1, x2, x3, x4, x5, x6, x7, blkAt_lo, j3, j4, j5, j6]
      refine fin_e (by simp) (by simp (maxSteps:=1000000) (disch:=omega) only [resVal, resAll, resOne, rs36, Env.get, go_sem, ↓reduceIte, reduceCtorEq] <;> rfl) ⟨_, rfl⟩ rfl
    rw [decide_eq_true j7] at g56
    rw [if_pos ⟨decide_eq_true ⟨by omega, j1, j2⟩, j3, j4, by omega, by omega, j7.1, j7.2.1, j7.2.2⟩]
    have hsq : SQ s.t.e := by
      have := Tm.out ht
      unfold SQ
      omega
    have g65 := fun H => f65 (since := s.l.s) (now := s.c.n) (stale := s.l.o) (H := H) hbq.1 hbq.2.1 hbq.2.2 j7.1 j7.2.1 j7.2.2 hsq
    unfold latch vec at g65
    clear hsq hbq
    generalize mv1 s.l.a a s.t.e = A at *
    generalize mv1 s.l.b b s.t.e = B at *
    generalize mv1 s.l.c d s.t.e = D at *
    simp (maxSteps:=1000000) (disch:=omega) only [go_sem, ↓reduceIte, reduceCtorEq]
    first | refine callB_intro (g11 _) ?_ | refine callD_intro (g11 _) ?_ | refine callP_intro (fun _ => (g11 _)) ?_ | refine callX_pure (g11 _) ?_
    simp (maxSteps:=1000000) (disch:=omega) only [go_sem, ↓reduceIte, reduceCtorEq, hp, hpl, x0, x1, x2, x3, x4, x5, x6, x7, blkAt_lo, j0, j1, j2]
    first | refine callB_intro (g56 _) ?_ | refine callD_intro (g56 _) ?_ | refine callP_intro (fun _ => (g56 _)) ?_ | refine callX_pure (g56 _) ?_
    simp (maxSteps:=1000000) (disch:=omega) only [go_sem, ↓reduceIte, reduceCtorEq, hp, hpl, x0, x1, x2, x3, x4, x5, x6, x7, blkAt_lo, j3, j4, j5, j6]
    first | refine callB_intro (g65 _) ?_ | refine callD_intro (g65 _) ?_ | refine callP_intro (fun _ => (g65 _)) ?_ | refine callX_pure (g65 _) ?_
    simp (maxSteps:=1000000) (disch:=omega) only [go_sem, ↓reduceIte, reduceCtorEq, hp, hpl, x0, x1, x2, x3, x4, x5, x6, x7, blkAt_lo]
    refine fin_e (by simp) (by simp (maxSteps:=1000000) (disch:=omega) only [resVal, resAll, resOne, rs36, Env.get, go_sem, ↓reduceIte, reduceCtorEq] <;> rfl) ⟨_, rfl⟩ ⟨.nils, rfl, rfl⟩
  rw [hears_no k1 k3 k4]
  unfold Se.av
  simp (maxSteps:=1000000) (disch:=omega) only [go_sem, ↓reduceIte, reduceCtorEq]
  first | refine callB_intro (g11 _) ?_ | refine callD_intro (g11 _) ?_ | refine callP_intro (fun _ => (g11 _)) ?_ | refine callX_pure (g11 _) ?_
  simp (maxSteps:=1000000) (disch:=omega) only [go_sem, ↓reduceIte, reduceCtorEq, k1, k3, k4]
  refine fin_e (by simp) (by simp (maxSteps:=1000000) (disch:=omega) only [resVal, resAll, resOne, rs36, Env.get, go_sem, ↓reduceIte, reduceCtorEq] <;> rfl) ⟨_, rfl⟩ rfl

theorem Sub.refl (A : Heap) : Sub A A := fun _ _ h => h
theorem Sub.app2 {A B L L' : Heap} (h : Sub A B) (hl : A.length = B.length) (h2 : Sub L L') : Sub (A ++ L) (B ++ L') := by
  intro q x e
  by_cases hq : q < A.length
  · rw [blkAt_lo _ hq] at e
    rw [blkAt_lo _ (by omega)]
    exact h q x e
  · obtain ⟨k, rfl⟩ : ∃ k, q = A.length + k := ⟨q - A.length, by omega⟩
    rw [blkAt_app] at e
    rw [hl, blkAt_app]
    exact h2 k x e
theorem Sub.cons {L L' : Heap} {X : Option Blk} (h : Sub L L') : Sub (X :: L) (X :: L') := by
  intro q x e
  cases q with
  | zero => exact e
  | succ q => exact h q x e
theorem Sub.cons_none {L L' : Heap} {X : Option Blk} (h : Sub L L') : Sub (none :: L) (X :: L') := by
  intro q x e
  cases q with
  | zero => cases e
  | succ q => exact h q x e
theorem Sub.slots {H1 : Heap} {R : Nat} (hR : R < H1.length) {A S8 Z Y X : Option Blk} {G : Heap} : Sub (((H1 ++ [A, S8, none] ++ G).set R none).set (H1.length + 1) none) (H1.set R Z ++ A :: Y :: X :: G) := by
  rw [set_lo _ _ (by simp; omega), set_lo _ _ hR, List.append_assoc, List.set_append_right _ _ (by simp), List.length_set, Nat.add_sub_cancel_left]
  exact Sub.app2 Sub.hid (by simp) (Sub.cons (Sub.cons_none (Sub.cons_none (Sub.refl _))))
section
variable {s : Se} {k : Int} {ns : List Int} {p off : Nat} {cp : Option Nat} {H : Heap}
theorem f14 (hn : s.n.ok H) (hs : Sl i64 H p off ns) (hr : rightP s.pl = true) :
    ACallE Try.prog 14 [.agg s.av, .agg [.int .i64 k, .sl p off ns.length 1 cp]] H (HearR (hearP s.pl k ns)) := by
  refine acallE (fun v Hf h => acallK14 (by simp) h) (acs_start ?_)
  have g36 := fun K => f36 (s := s) (k := k) (cp := cp) (H := (H ++ K).set (H.length + 2) none) (hs.app_set (by omega) none) hr
  obtain ⟨-, -, -, -, -, -, hl, -⟩ := right_out hr
  have eh : ∀ o, hearsP s.t s.v s.c s.l k ns = o → hearP s.pl k ns = (match o with | none => (s.pl, none, false) | some h => (⟨s.t, if h.st = true then tornP s.n.pu h.v.ws 13 else s.n.pu, h.v, h.c, h.l⟩, h.ans, h.took)) := by
    intro o e
    subst e
    rfl
  generalize hearsP s.t s.v s.c s.l k ns = o at *
  rw [eh o rfl]
  clear eh
  unfold c14
  unfold Se.av at *
  simp (maxSteps:=1000000) (disch:=omega) only [go_sem, ↓reduceIte, reduceCtorEq]
  first | refine callBE (ACallE.frame (b := H.length + 2) (by simp only [go_sem, ↓reduceIte, reduceCtorEq]; rfl) rfl (g36 _)) ?_ | refine callDE (ACallE.frame (b := H.length + 2) (by simp only [go_sem, ↓reduceIte, reduceCtorEq]; rfl) rfl (g36 _)) ?_ | refine callXE (ACallE.frame (b := H.length + 2) (by simp only [go_sem, ↓reduceIte, reduceCtorEq]; rfl) rfl (g36 _)) ?_
  rintro v1 H1 hx1 ⟨bR, h1⟩
  have b0 := hx1.blk (b := H.length) (by simp only [go_sem, ↓reduceIte, reduceCtorEq]; rfl)
  have hy1 : Ext H H1 := (Ext.app _ _).trans hx1
  have bl0 := blkAt_lt b0
  have blR := blkAt_lt bR
  cases o with
  | none =>
    replace h1 : v1 = .agg noHd := h1
    subst h1
    unfold noHd
    simp (maxSteps:=1000000) (disch:=omega) only [go_sem, ↓reduceIte, reduceCtorEq, b0, bl0, bR, blR, blkAt_lo, set_lo]
    refine fin_e (by simp) (by simp (maxSteps:=1000000) (disch:=omega) only [resVal, resAll, resOne, rs14, Env.get, go_sem, ↓reduceIte, reduceCtorEq, b0, bl0, bR, blR, blkAt_lo, blkAt_los, set_lo, blkAt_set_self] <;> rfl) ((hy1.set (by omega) _).to _) ⟨s, .nils, rfl, hn.ext ((hy1.set (by omega) _).to _), rfl, rfl⟩
  | some h =>
    obtain ⟨an, rfl, h2⟩ := h1
    unfold HdAv
    dsimp only
    by_cases hst : h.st = true
    rotate_left
    · rw [if_neg hst]
      rcases h2.form with rfl | ⟨q1, q2, rfl⟩
      · simp (maxSteps:=1000000) (disch:=omega) only [go_sem, ↓reduceIte, reduceCtorEq, b0, bl0, bR, blR, blkAt_lo, set_lo, blkAt_los, set_los, blkAt_setapp, blkAt_setapp0, blkAt_set_self, List.length_set, List.set_set, hst]
        refine fin_e (by simp) (by simp (maxSteps:=1000000) (disch:=omega) only [resVal, resAll, resOne, rs14, Env.get, go_sem, ↓reduceIte, reduceCtorEq, b0, bl0, bR, blR, blkAt_lo, set_lo, blkAt_los, set_los, blkAt_setapp, blkAt_setapp0, blkAt_set_self, List.length_set, List.set_set, hst] <;> rfl) ((hy1.set (by omega) _).to _) ⟨⟨s.t, s.n, h.v, h.c, h.l⟩, _, rfl, hn.ext ((hy1.set (by omega) _).to _), rfl, (Sub.hid.trans (Ext.app _ _).sub).ans h2⟩
      · simp (maxSteps:=1000000) (disch:=omega) only [go_sem, ↓reduceIte, reduceCtorEq, b0, bl0, bR, blR, blkAt_lo, set_lo, blkAt_los, set_los, blkAt_setapp, blkAt_setapp0, blkAt_set_self, List.length_set, List.set_set, hst]
        refine fin_e (by simp) (by simp (maxSteps:=1000000) (disch:=omega) only [resVal, resAll, resOne, rs14, Env.get, go_sem, ↓reduceIte, reduceCtorEq, b0, bl0, bR, blR, blkAt_lo, set_lo, blkAt_los, set_los, blkAt_setapp, blkAt_setapp0, blkAt_set_self, List.length_set, List.set_set, hst] <;> rfl) ((hy1.set (by omega) _).to _) ⟨⟨s.t, s.n, h.v, h.c, h.l⟩, _, rfl, hn.ext ((hy1.set (by omega) _).to _), rfl, (Sub.hid.trans (Ext.app _ _).sub).ans h2⟩
    · rw [if_pos hst]
      have g32 := fun H => f32 h.v H
      have he : errP s.n.pu h.v.ws = 0 := err_no (show 10 ≤ 600 by decide) hl
      unfold Vw.av at g32
      rcases h2.form with rfl | ⟨q1, q2, rfl⟩
      · simp (maxSteps:=1000000) (disch:=omega) only [go_sem, ↓reduceIte, reduceCtorEq, b0, bl0, bR, blR, blkAt_lo, set_lo, blkAt_los, set_los, blkAt_setapp, blkAt_setapp0, blkAt_set_self, List.length_set, List.set_set, hst]
        first | refine callBE (ACallE.frame (b := H.length + 2) (by rw [blkAt_lo _ blR]; exact bR) rfl (ACallE.frame (b := H1.length + 1) (by rw [set_lo _ _ blR, blkAt_setapp]; rfl) rfl (g32 _))) ?_ | refine callDE (ACallE.frame (b := H.length + 2) (by rw [blkAt_lo _ blR]; exact bR) rfl (ACallE.frame (b := H1.length + 1) (by rw [set_lo _ _ blR, blkAt_setapp]; rfl) rfl (g32 _))) ?_ | refine callXE (ACallE.frame (b := H.length + 2) (by rw [blkAt_lo _ blR]; exact bR) rfl (ACallE.frame (b := H1.length + 1) (by rw [set_lo _ _ blR, blkAt_setapp]; rfl) rfl (g32 _))) ?_
        rintro v2 H2 hx2 ⟨b2, b3, q, oq, cq, rfl, s1⟩
        have hy2 := hy1.trans ((Ext.app _ _).trans hx2)
        have g37 := f37 (kq := cq) (hn.ext ((hy2.set (b := H.length + 2) (by omega) none).set (b := H1.length + 1) (by have := hy1.len; omega) none)) s1 (show 10 ≤ 1000 by decide)
        unfold Torn at g37
        rw [he] at g37
        unfold Stt.av nvc at g37
        simp (maxSteps:=1000000) (disch:=omega) only [go_sem, ↓reduceIte, reduceCtorEq]
        first | refine callBE (ACallE.frame (b := H.length + 2) b2 rfl (ACallE.frame (b := H1.length + 1) b3 rfl g37)) ?_ | refine callDE (ACallE.frame (b := H.length + 2) b2 rfl (ACallE.frame (b := H1.length + 1) b3 rfl g37)) ?_ | refine callXE (ACallE.frame (b := H.length + 2) b2 rfl (ACallE.frame (b := H1.length + 1) b3 rfl g37)) ?_
        rintro v3 H3 hx3 ⟨b2, b3, S', rfl, k3, e3⟩
        obtain ⟨G, rfl⟩ := hx2.trans hx3
        simp (maxSteps:=1000000) (disch:=omega) only [go_sem, ↓reduceIte, reduceCtorEq, b0, bl0, bR, blR, blkAt_lo, set_lo, blkAt_los, set_los, blkAt_setapp, blkAt_setapp0, blkAt_set_self, List.length_set, List.set_set, hst]
        refine fin_e (by simp) (by simp (maxSteps:=1000000) (disch:=omega) only [resVal, resAll, resOne, rs14, Env.get, go_sem, ↓reduceIte, reduceCtorEq, b0, bl0, bR, blR, blkAt_lo, set_lo, blkAt_los, set_los, blkAt_setapp, blkAt_setapp0, blkAt_set_self, List.length_set, List.set_set, hst] <;> rfl) ((hy1.set (by omega) _).to _) ⟨⟨s.t, S', h.v, h.c, h.l⟩, _, rfl, (Sub.slots blR).ok k3, by unfold Se.pl; simp only; rw [e3]; rfl, (Sub.hid.trans (Ext.app _ _).sub).ans h2⟩
      · simp (maxSteps:=1000000) (disch:=omega) only [go_sem, ↓reduceIte, reduceCtorEq, b0, bl0, bR, blR, blkAt_lo, set_lo, blkAt_los, set_los, blkAt_setapp, blkAt_setapp0, blkAt_set_self, List.length_set, List.set_set, hst]
        first | refine callBE (ACallE.frame (b := H.length + 2) (by rw [blkAt_lo _ blR]; exact bR) rfl (ACallE.frame (b := H1.length + 1) (by rw [set_lo _ _ blR, blkAt_setapp]; rfl) rfl (g32 _))) ?_ | refine callDE (ACallE.frame (b := H.length + 2) (by rw [blkAt_lo _ blR]; exact bR) rfl (ACallE.frame (b := H1.length + 1) (by rw [set_lo _ _ blR, blkAt_setapp]; rfl) rfl (g32 _))) ?_ | refine callXE (ACallE.frame (b := H.length + 2) (by rw [blkAt_lo _ blR]; exact bR) rfl (ACallE.frame (b := H1.length + 1) (by rw [set_lo _ _ blR, blkAt_setapp]; rfl) rfl (g32 _))) ?_
        rintro v2 H2 hx2 ⟨b2, b3, q, oq, cq, rfl, s1⟩
        have hy2 := hy1.trans ((Ext.app _ _).trans hx2)
        have g37 := f37 (kq := cq) (hn.ext ((hy2.set (b := H.length + 2) (by omega) none).set (b := H1.length + 1) (by have := hy1.len; omega) none)) s1 (show 10 ≤ 1000 by decide)
        unfold Torn at g37
        rw [he] at g37
        unfold Stt.av nvc at g37
        simp (maxSteps:=1000000) (disch:=omega) only [go_sem, ↓reduceIte, reduceCtorEq]
        first | refine callBE (ACallE.frame (b := H.length + 2) b2 rfl (ACallE.frame (b := H1.length + 1) b3 rfl g37)) ?_ | refine callDE (ACallE.frame (b := H.length + 2) b2 rfl (ACallE.frame (b := H1.length + 1) b3 rfl g37)) ?_ | refine callXE (ACallE.frame (b := H.length + 2) b2 rfl (ACallE.frame (b := H1.length + 1) b3 rfl g37)) ?_
        rintro v3 H3 hx3 ⟨b2, b3, S', rfl, k3, e3⟩
        obtain ⟨G, rfl⟩ := hx2.trans hx3
        simp (maxSteps:=1000000) (disch:=omega) only [go_sem, ↓reduceIte, reduceCtorEq, b0, bl0, bR, blR, blkAt_lo, set_lo, blkAt_los, set_los, blkAt_setapp, blkAt_setapp0, blkAt_set_self, List.length_set, List.set_set, hst]
        refine fin_e (by simp) (by simp (maxSteps:=1000000) (disch:=omega) only [resVal, resAll, resOne, rs14, Env.get, go_sem, ↓reduceIte, reduceCtorEq, b0, bl0, bR, blR, blkAt_lo, set_lo, blkAt_los, set_los, blkAt_setapp, blkAt_setapp0, blkAt_set_self, List.length_set, List.set_set, hst] <;> rfl) ((hy1.set (by omega) _).to _) ⟨⟨s.t, S', h.v, h.c, h.l⟩, _, rfl, (Sub.slots blR).ok k3, by unfold Se.pl; simp only; rw [e3]; rfl, (Sub.hid.trans (Ext.app _ _).sub).ans h2⟩
end

theorem Sub.slot1 {H1 : Heap} {R : Nat} (hR : R < H1.length) {A X : Option Blk} {G : Heap} : Sub ((H1 ++ [A, none] ++ G).set R none) ((H1 ++ A :: X :: G).set R none) := by
  rw [set_lo _ _ (by simp; omega), set_lo _ _ hR, set_lo _ _ hR, List.append_assoc]
  exact Sub.app2 (Sub.refl _) rfl (Sub.cons (Sub.cons_none (Sub.refl _)))
section
variable {s : Se} {k : Int} {ns : List Int} {p off : Nat} {cp : Option Nat} {H : Heap}
theorem f17 {done : Int} (hn : s.n.ok H) (hs : Sl i64 H p off ns) (hr : rightP s.pl = true) :
    ACallE Try.prog 17 [.agg s.av, .agg [.int .i64 k, .sl p off ns.length 1 cp], .int .i64 done] H fun v H' => Sel v H' (diesP s.pl k ns done) := by
  refine acallE (fun v Hf h => acallK17 (by simp) h) (acs_start ?_)
  have g36 := fun K => f36 (s := s) (k := k) (cp := cp) (H := (H ++ K).set (H.length + 2) none) (hs.app_set (by omega) none) hr
  have eh : ∀ o, hearsP s.t s.v s.c s.l k ns = o → diesP s.pl k ns done = (match o with | none => resetP s.pl | some h => if h.st = true then resetP { s.pl with n := tornP s.pl.n h.v.ws done } else resetP s.pl) := by
    intro o e
    subst e
    rfl
  generalize hearsP s.t s.v s.c s.l k ns = o at *
  rw [eh o rfl]
  clear eh
  have noth : ∀ (H1 : Heap) (bR : blkAt H1 (H.length + 2) = some ⟨[.int .i64 0, .int .i64 0, .int .i64 0, .int .i64 0, .int .i64 0, .nils, .int .i64 0, .nils, .int .i64 0, .int .i64 0, .int .i64 0, .int .i64 0, .int .i64 0, .int .i64 0, .int .i64 0, .int .i64 0, .int .i64 0, .int .i64 0, .int .i64 0, .int .i64 0, .int .i64 0, .int .i64 0, .int .i64 0, .int .i64 0, .int .i64 0, .int .i64 0, .bool false], true⟩) (hx : Ext H H1), ACallE Try.prog 42 [.agg s.av] H1 fun v H' => blkAt H' (H.length + 2) = some ⟨[.int .i64 0, .int .i64 0, .int .i64 0, .int .i64 0, .int .i64 0, .nils, .int .i64 0, .nils, .int .i64 0, .int .i64 0, .int .i64 0, .int .i64 0, .int .i64 0, .int .i64 0, .int .i64 0, .int .i64 0, .int .i64 0, .int .i64 0, .int .i64 0, .int .i64 0, .int .i64 0, .int .i64 0, .int .i64 0, .int .i64 0, .int .i64 0, .int .i64 0, .bool false], true⟩ ∧ Sel v (H'.set (H.length + 2) none) (resetP s.pl) := fun H1 bR hx => ACallE.frame bR rfl (f42 (s := s) (hn.ext (hx.set (by omega) none)))
  unfold c17
  unfold Se.av at *
  simp (maxSteps:=1000000) (disch:=omega) only [go_sem, ↓reduceIte, reduceCtorEq]
  first | refine callBE (ACallE.frame (b := H.length + 2) (by simp only [go_sem, ↓reduceIte, reduceCtorEq]; rfl) rfl (g36 _)) ?_ | refine callDE (ACallE.frame (b := H.length + 2) (by simp only [go_sem, ↓reduceIte, reduceCtorEq]; rfl) rfl (g36 _)) ?_ | refine callXE (ACallE.frame (b := H.length + 2) (by simp only [go_sem, ↓reduceIte, reduceCtorEq]; rfl) rfl (g36 _)) ?_
  rintro v1 H1 hx1 ⟨bR, h1⟩
  have b0 := hx1.blk (b := H.length) (by simp only [go_sem, ↓reduceIte, reduceCtorEq]; rfl)
  have hy1 : Ext H H1 := (Ext.app _ _).trans hx1
  have bl0 := blkAt_lt b0
  have blR := blkAt_lt bR
  cases o with
  | none =>
    replace h1 : v1 = .agg noHd := h1
    subst h1
    unfold noHd
    simp (maxSteps:=1000000) (disch:=omega) only [go_sem, ↓reduceIte, reduceCtorEq, b0, bl0, bR, blR, blkAt_lo, set_lo, blkAt_los, set_los, blkAt_setapp, blkAt_setapp0, blkAt_set_self, List.length_set, List.set_set]
    first | refine callBE (noth _ ((blkAt_lo _ blR).trans bR) (hy1.to _)) ?_ | refine callDE (noth _ ((blkAt_lo _ blR).trans bR) (hy1.to _)) ?_ | refine callXE (noth _ ((blkAt_lo _ blR).trans bR) (hy1.to _)) ?_
    rintro v2 H2 hx2 ⟨bR, s', rfl, k3, e3⟩
    replace blR := blkAt_lt bR
    have a1 := s'.len
    have a2 := s'.all
    have a3 := s'.take
    simp (maxSteps:=1000000) (disch:=omega) only [go_sem, ↓reduceIte, reduceCtorEq, a1, a2, a3, bR, blR, blkAt_set_self]
    refine fin_e (by simp) (by simp (maxSteps:=1000000) (disch:=omega) only [resVal, resAll, resOne, rs17, Env.get, go_sem, ↓reduceIte, reduceCtorEq, a1, a2, a3, bR, blR, blkAt_set_self] <;> rfl) (((hy1.to _).trans hx2).set (by omega) _) ⟨s', rfl, Sub.hid.ok k3, e3⟩
  | some h =>
    obtain ⟨an, rfl, h2⟩ := h1
    unfold HdAv
    dsimp only
    by_cases hst : h.st = true
    rotate_left
    · rw [if_neg hst]
      rcases h2.form with rfl | ⟨q1, q2, rfl⟩
      · simp (maxSteps:=1000000) (disch:=omega) only [go_sem, ↓reduceIte, reduceCtorEq, b0, bl0, bR, blR, blkAt_lo, set_lo, blkAt_los, set_los, blkAt_setapp, blkAt_setapp0, blkAt_set_self, List.length_set, List.set_set, hst]
        first | refine callBE (noth _ ((blkAt_lo _ blR).trans bR) (hy1.to _)) ?_ | refine callDE (noth _ ((blkAt_lo _ blR).trans bR) (hy1.to _)) ?_ | refine callXE (noth _ ((blkAt_lo _ blR).trans bR) (hy1.to _)) ?_
        rintro v2 H2 hx2 ⟨bR, s', rfl, k3, e3⟩
        replace blR := blkAt_lt bR
        have a1 := s'.len
        have a2 := s'.all
        have a3 := s'.take
        simp (maxSteps:=1000000) (disch:=omega) only [go_sem, ↓reduceIte, reduceCtorEq, a1, a2, a3, bR, blR, blkAt_set_self]
        refine fin_e (by simp) (by simp (maxSteps:=1000000) (disch:=omega) only [resVal, resAll, resOne, rs17, Env.get, go_sem, ↓reduceIte, reduceCtorEq, a1, a2, a3, bR, blR, blkAt_set_self] <;> rfl) (((hy1.to _).trans hx2).set (by omega) _) ⟨s', rfl, Sub.hid.ok k3, e3⟩
      · simp (maxSteps:=1000000) (disch:=omega) only [go_sem, ↓reduceIte, reduceCtorEq, b0, bl0, bR, blR, blkAt_lo, set_lo, blkAt_los, set_los, blkAt_setapp, blkAt_setapp0, blkAt_set_self, List.length_set, List.set_set, hst]
        first | refine callBE (noth _ ((blkAt_lo _ blR).trans bR) (hy1.to _)) ?_ | refine callDE (noth _ ((blkAt_lo _ blR).trans bR) (hy1.to _)) ?_ | refine callXE (noth _ ((blkAt_lo _ blR).trans bR) (hy1.to _)) ?_
        rintro v2 H2 hx2 ⟨bR, s', rfl, k3, e3⟩
        replace blR := blkAt_lt bR
        have a1 := s'.len
        have a2 := s'.all
        have a3 := s'.take
        simp (maxSteps:=1000000) (disch:=omega) only [go_sem, ↓reduceIte, reduceCtorEq, a1, a2, a3, bR, blR, blkAt_set_self]
        refine fin_e (by simp) (by simp (maxSteps:=1000000) (disch:=omega) only [resVal, resAll, resOne, rs17, Env.get, go_sem, ↓reduceIte, reduceCtorEq, a1, a2, a3, bR, blR, blkAt_set_self] <;> rfl) (((hy1.to _).trans hx2).set (by omega) _) ⟨s', rfl, Sub.hid.ok k3, e3⟩
    · rw [if_pos hst]
      have g32 := fun H => f32 h.v H
      unfold Vw.av at g32
      rcases h2.form with rfl | ⟨q1, q2, rfl⟩
      · simp (maxSteps:=1000000) (disch:=omega) only [go_sem, ↓reduceIte, reduceCtorEq, b0, bl0, bR, blR, blkAt_lo, set_lo, blkAt_los, set_los, blkAt_setapp, blkAt_setapp0, blkAt_set_self, List.length_set, List.set_set, hst]
        first | refine callBE (ACallE.frame (b := H.length + 2) (by rw [blkAt_lo _ blR]; exact bR) rfl (g32 _)) ?_ | refine callDE (ACallE.frame (b := H.length + 2) (by rw [blkAt_lo _ blR]; exact bR) rfl (g32 _)) ?_ | refine callXE (ACallE.frame (b := H.length + 2) (by rw [blkAt_lo _ blR]; exact bR) rfl (g32 _)) ?_
        rintro v2 H2 hx2 ⟨b2, q, oq, cq, rfl, s1⟩
        have hy2 := hy1.trans ((Ext.app _ _).trans hx2)
        have g41 := f41 (kq := cq) (done := done) (hn.ext (hy2.set (b := H.length + 2) (by omega) none)) s1 (show 10 ≤ 1000 by decide)
        unfold Torn at g41
        unfold Stt.av nvc at g41
        simp (maxSteps:=1000000) (disch:=omega) only [go_sem, ↓reduceIte, reduceCtorEq]
        first | refine callBE (ACallE.frame (b := H.length + 2) b2 rfl g41) ?_ | refine callDE (ACallE.frame (b := H.length + 2) b2 rfl g41) ?_ | refine callXE (ACallE.frame (b := H.length + 2) b2 rfl g41) ?_
        rintro v3 H3 hx3 ⟨b2, S', rfl, k3, e3⟩
        obtain ⟨G, rfl⟩ := hx2.trans hx3
        have k4 := fun X => (Sub.slot1 (X := X) blR).ok k3
        have g42 := fun X => f42 (s := ⟨s.t, S', ⟨0, 0, 0, 0, 0, 0, 0, 0, 0, 0⟩, ⟨0, 0, 0⟩, ⟨0, 0, 0, 0, false⟩⟩) (k4 X)
        have er : resetP (Se.pl ⟨s.t, S', ⟨0, 0, 0, 0, 0, 0, 0, 0, 0, 0⟩, ⟨0, 0, 0⟩, ⟨0, 0, 0, 0, false⟩⟩) = resetP { s.pl with n := tornP s.pl.n h.v.ws done } := by
          unfold resetP Se.pl
          simp only
          rw [e3]
        rw [er] at g42
        unfold Se.av at g42
        simp (maxSteps:=1000000) (disch:=omega) only [go_sem, ↓reduceIte, reduceCtorEq, b0, bl0, bR, blR, blkAt_lo, set_lo, blkAt_los, set_los, blkAt_setapp, blkAt_setapp0, blkAt_set_self, List.length_set, List.set_set, hst]
        first | refine callBE (ACallE.frame (b := H.length + 2) ((blkAt_lo _ blR).trans bR) rfl (g42 _)) ?_ | refine callDE (ACallE.frame (b := H.length + 2) ((blkAt_lo _ blR).trans bR) rfl (g42 _)) ?_ | refine callXE (ACallE.frame (b := H.length + 2) ((blkAt_lo _ blR).trans bR) rfl (g42 _)) ?_
        rintro v4 H4 hx4 ⟨bR, s', rfl, k5, e5⟩
        replace blR := blkAt_lt bR
        have a1 := s'.len
        have a2 := s'.all
        have a3 := s'.take
        simp (maxSteps:=1000000) (disch:=omega) only [go_sem, ↓reduceIte, reduceCtorEq, a1, a2, a3, bR, blR, blkAt_set_self]
        refine fin_e (by simp) (by simp (maxSteps:=1000000) (disch:=omega) only [resVal, resAll, resOne, rs17, Env.get, go_sem, ↓reduceIte, reduceCtorEq, a1, a2, a3, bR, blR, blkAt_set_self] <;> rfl) (((hy1.to _).trans hx4).set (by omega) _) ⟨s', rfl, Sub.hid.ok k5, e5⟩
      · simp (maxSteps:=1000000) (disch:=omega) only [go_sem, ↓reduceIte, reduceCtorEq, b0, bl0, bR, blR, blkAt_lo, set_lo, blkAt_los, set_los, blkAt_setapp, blkAt_setapp0, blkAt_set_self, List.length_set, List.set_set, hst]
        first | refine callBE (ACallE.frame (b := H.length + 2) (by rw [blkAt_lo _ blR]; exact bR) rfl (g32 _)) ?_ | refine callDE (ACallE.frame (b := H.length + 2) (by rw [blkAt_lo _ blR]; exact bR) rfl (g32 _)) ?_ | refine callXE (ACallE.frame (b := H.length + 2) (by rw [blkAt_lo _ blR]; exact bR) rfl (g32 _)) ?_
        rintro v2 H2 hx2 ⟨b2, q, oq, cq, rfl, s1⟩
        have hy2 := hy1.trans ((Ext.app _ _).trans hx2)
        have g41 := f41 (kq := cq) (done := done) (hn.ext (hy2.set (b := H.length + 2) (by omega) none)) s1 (show 10 ≤ 1000 by decide)
        unfold Torn at g41
        unfold Stt.av nvc at g41
        simp (maxSteps:=1000000) (disch:=omega) only [go_sem, ↓reduceIte, reduceCtorEq]
        first | refine callBE (ACallE.frame (b := H.length + 2) b2 rfl g41) ?_ | refine callDE (ACallE.frame (b := H.length + 2) b2 rfl g41) ?_ | refine callXE (ACallE.frame (b := H.length + 2) b2 rfl g41) ?_
        rintro v3 H3 hx3 ⟨b2, S', rfl, k3, e3⟩
        obtain ⟨G, rfl⟩ := hx2.trans hx3
        have k4 := fun X => (Sub.slot1 (X := X) blR).ok k3
        have g42 := fun X => f42 (s := ⟨s.t, S', ⟨0, 0, 0, 0, 0, 0, 0, 0, 0, 0⟩, ⟨0, 0, 0⟩, ⟨0, 0, 0, 0, false⟩⟩) (k4 X)
        have er : resetP (Se.pl ⟨s.t, S', ⟨0, 0, 0, 0, 0, 0, 0, 0, 0, 0⟩, ⟨0, 0, 0⟩, ⟨0, 0, 0, 0, false⟩⟩) = resetP { s.pl with n := tornP s.pl.n h.v.ws done } := by
          unfold resetP Se.pl
          simp only
          rw [e3]
        rw [er] at g42
        unfold Se.av at g42
        simp (maxSteps:=1000000) (disch:=omega) only [go_sem, ↓reduceIte, reduceCtorEq, b0, bl0, bR, blR, blkAt_lo, set_lo, blkAt_los, set_los, blkAt_setapp, blkAt_setapp0, blkAt_set_self, List.length_set, List.set_set, hst]
        first | refine callBE (ACallE.frame (b := H.length + 2) ((blkAt_lo _ blR).trans bR) rfl (g42 _)) ?_ | refine callDE (ACallE.frame (b := H.length + 2) ((blkAt_lo _ blR).trans bR) rfl (g42 _)) ?_ | refine callXE (ACallE.frame (b := H.length + 2) ((blkAt_lo _ blR).trans bR) rfl (g42 _)) ?_
        rintro v4 H4 hx4 ⟨bR, s', rfl, k5, e5⟩
        replace blR := blkAt_lt bR
        have a1 := s'.len
        have a2 := s'.all
        have a3 := s'.take
        simp (maxSteps:=1000000) (disch:=omega) only [go_sem, ↓reduceIte, reduceCtorEq, a1, a2, a3, bR, blR, blkAt_set_self]
        refine fin_e (by simp) (by simp (maxSteps:=1000000) (disch:=omega) only [resVal, resAll, resOne, rs17, Env.get, go_sem, ↓reduceIte, reduceCtorEq, a1, a2, a3, bR, blR, blkAt_set_self] <;> rfl) (((hy1.to _).trans hx4).set (by omega) _) ⟨s', rfl, Sub.hid.ok k5, e5⟩
end

theorem small_ok {s : Se} {n : Nat} {H : Heap} (h : smallP s n = true) (h0 : Sl i64 H s.n.p0 s.n.o0 s.n.ws) (h1 : Sl i64 H s.n.p1 s.n.o1 s.n.vs) : s.n.ok H ∧ n ≤ 100 := by
  unfold smallP at h
  simp only [Bool.and_eq_true, decide_eq_true_eq] at h
  exact ⟨⟨h0, h1, by omega, by omega⟩, h.2⟩
theorem hear_some {s : PSe} {k : Int} {n : List Int} {h : Hd} (e : hearsP s.t s.v s.c s.l k n = some h) : hearP s k n = (⟨s.t, if h.st = true then tornP s.n h.v.ws 13 else s.n, h.v, h.c, h.l⟩, h.ans, h.took) := by
  unfold hearP
  rw [e]
theorem hear_none {s : PSe} {k : Int} {n : List Int} (e : hearsP s.t s.v s.c s.l k n = none) : hearP s k n = (s, none, false) := by
  unfold hearP
  rw [e]

theorem f15 {a b : AV} {o : Option (List Int)} {H : Heap} (ha : AnsIs H a o) (hb : AnsIs H b o) (hl : ∀ l, o = some l → l.length ≤ 1000) : ACall Try.prog 15 [a, b] H (.bool true) H := by
  refine acall15 (by simp) (acs_start ?_)
  unfold c15
  cases o with
  | none =>
    replace ha : a = .nils := ha
    replace hb : b = .nils := hb
    subst ha hb
    simp (maxSteps:=1000000) (disch:=omega) only [go_sem, ↓reduceIte, reduceCtorEq]
    rw [acs_lp]; conv in Fr.code c15l0 => unfold c15l0
    simp (maxSteps:=1000000) (disch:=omega) only [go_sem, ↓reduceIte, reduceCtorEq]
    exact fin_same (by simp) _ (by first | exact (List.append_nil _).symm | rfl) (by simp (maxSteps:=1000000) (disch:=omega) only [resVal, resAll, resOne, rs15, Env.get, go_sem, ↓reduceIte, reduceCtorEq]) (by simp only [AV.und, AV.unds, and_self])
  | some l =>
    have hl := hl l rfl
    obtain ⟨q, p, c, d, o, rfl, h1, h2⟩ := ha
    obtain ⟨q', p', c', d', o', rfl, h1', h2'⟩ := hb
    have l1 := blkAt_lt h1
    have l2 := blkAt_lt h1'
    have g := f38 (a := 2) (b := 2) (c1 := d) (c2 := d') h2 h2' (by omega)
    simp only [and_self, decide_true] at g
    simp (maxSteps:=1000000) (disch:=omega) only [go_sem, ↓reduceIte, reduceCtorEq]
    rw [acs_lp]; conv in Fr.code c15l0 => unfold c15l0
    simp (maxSteps:=1000000) (disch:=omega) only [go_sem, ↓reduceIte, reduceCtorEq, h1, h1', l1, l2]
    first | refine callB_intro (g) ?_ | refine callD_intro (g) ?_ | refine callP_intro (fun _ => (g)) ?_ | refine callX_pure (g) ?_
    simp (maxSteps:=1000000) (disch:=omega) only [go_sem, ↓reduceIte, reduceCtorEq]
    rw [acs_lp]; conv in Fr.code c15l0 => unfold c15l0
    simp (maxSteps:=1000000) (disch:=omega) only [go_sem, ↓reduceIte, reduceCtorEq]
    exact fin_same (by simp) _ (by first | exact (List.append_nil _).symm | rfl) (by simp (maxSteps:=1000000) (disch:=omega) only [resVal, resAll, resOne, rs15, Env.get, go_sem, ↓reduceIte, reduceCtorEq]) (by simp only [AV.und, AV.unds, and_self])
theorem ans_len {t : Tm} {v : Vw} {c : Ck} {l : La} {k : Int} {n : List Int} {h : Hd} {m : List Int} (e : hearsP t v c l k n = some h) (e2 : h.ans = some m) : m.length ≤ 1000 := by
  unfold hearsP at e
  split at e
  · split at e
    · unfold askP at e
      split at e
      · split at e
        · cases e
        · cases e; cases e2; exact (show 8 ≤ 1000 by decide)
      · cases e
    · cases e
  · split at e
    · unfold syncP at e
      split at e
      · cases e; cases e2; exact (show 8 ≤ 1000 by decide)
      · cases e
    · cases e
  · split at e
    · unfold outP at e
      split at e
      · cases e; cases e2
      · cases e
    · cases e
  · cases e
theorem hear_len {s : PSe} {k : Int} {n m : List Int} (e : (hearP s k n).2.1 = some m) : m.length ≤ 1000 := by
  cases h : hearsP s.t s.v s.c s.l k n with
  | none => rw [hear_none h] at e; cases e
  | some x => rw [hear_some h] at e; exact ans_len h e
theorem f6 (s : Se) (k : Int) (p off : Nat) (cp : Option Nat) (ns : List Int) (done : Int) (H : Heap) (h0 : Sl i64 H s.n.p0 s.n.o0 s.n.ws) (h1 : Sl i64 H s.n.p1 s.n.o1 s.n.vs) (hs : Sl i64 H p off ns) (l0 : s.n.ws.length ≤ 140737488351232) (l1 : s.n.vs.length ≤ 140737488351232) (l2 : ns.length ≤ 140737488351232) :
    ACall Try.prog 6 [.agg s.av, .agg [.int .i64 k, .sl p off ns.length 1 cp], .int .i64 done] H (.bool true) H := by
  refine acall6 (by simp) (acs_start ?_)
  have g9 := fun H => f9 (s := s) (k := k) (p := p) (off := off) (n := ns.length) (cp := cp) (H := H) (by omega) (by omega)
  unfold c6
  have av := s.len
  have av2 := s.all
  have av3 := s.take
  simp (maxSteps:=1000000) (disch:=omega) only [go_sem, ↓reduceIte, reduceCtorEq, av, av2, av3]
  first | refine callBE (f8 _) ?_ | refine callDE (f8 _) ?_ | refine callXE (f8 _) ?_
  rintro v0 H1 hx1 rfl
  have b0 := hx1.blk (b := H.length) (by simp only [go_sem, ↓reduceIte, reduceCtorEq]; rfl)
  have b1 := hx1.blk (b := H.length + 1) (by simp only [go_sem, ↓reduceIte, reduceCtorEq]; rfl)
  have hy1 : Ext H H1 := (Ext.app _ _).trans hx1
  have bl0 := blkAt_lt b0
  have bl1 := blkAt_lt b1
  simp (maxSteps:=1000000) (disch:=omega) only [go_sem, ↓reduceIte, reduceCtorEq, av, av2, av3, b0, bl0, b1, bl1]
  first | refine callB_intro (g9 _) ?_ | refine callD_intro (g9 _) ?_ | refine callP_intro (fun _ => (g9 _)) ?_ | refine callX_pure (g9 _) ?_
  cases hsm : smallP s ns.length with
  | false =>
    simp (maxSteps:=1000000) (disch:=omega) only [go_sem, ↓reduceIte, reduceCtorEq]
    exact fin_ext (by simp) hy1 (by simp (maxSteps:=1000000) (disch:=omega) only [resVal, resAll, resOne, rs6, Env.get, go_sem, ↓reduceIte, reduceCtorEq]) (by simp only [AV.und, AV.unds, and_self])
  | true =>
  obtain ⟨ok, -⟩ := small_ok hsm h0 h1
  replace ok := ok.ext hy1
  simp (maxSteps:=1000000) (disch:=omega) only [go_sem, ↓reduceIte, reduceCtorEq, av, av2, av3, b0, bl0]
  first | refine callBE (f10 ok) ?_ | refine callDE (f10 ok) ?_ | refine callXE (f10 ok) ?_
  rintro v1 H2 hx2 rfl
  replace b0 := hx2.blk b0
  replace bl0 := blkAt_lt b0
  replace b1 := hx2.blk b1
  replace bl1 := blkAt_lt b1
  replace ok := ok.ext hx2
  have hy2 := hy1.trans hx2
  cases hr : rightP s.pl with
  | false =>
    simp (maxSteps:=1000000) (disch:=omega) only [go_sem, ↓reduceIte, reduceCtorEq]
    exact fin_ext (by simp) hy2 (by simp (maxSteps:=1000000) (disch:=omega) only [resVal, resAll, resOne, rs6, Env.get, go_sem, ↓reduceIte, reduceCtorEq]) (by simp only [AV.und, AV.unds, and_self])
  | true =>
  have hlen := fun m => @hear_len s.pl k ns m
  simp (maxSteps:=1000000) (disch:=omega) only [go_sem, ↓reduceIte, reduceCtorEq, av, av2, av3, b0, bl0, b1, bl1]
  first | refine callBE (f12 (k := k) (cp := cp) ok (hy2.sl hs) hr) ?_ | refine callDE (f12 (k := k) (cp := cp) ok (hy2.sl hs) hr) ?_ | refine callXE (f12 (k := k) (cp := cp) ok (hy2.sl hs) hr) ?_
  rintro v2 H3 hx3 ⟨S1, an1, rfl, k1, e1, m1⟩
  replace b0 := hx3.blk b0
  replace bl0 := blkAt_lt b0
  replace b1 := hx3.blk b1
  replace bl1 := blkAt_lt b1
  replace ok := ok.ext hx3
  have hy3 := hy2.trans hx3
  have w1 := S1.len
  have w2 := S1.all
  have w3 := S1.take
  simp (maxSteps:=1000000) (disch:=omega) only [go_sem, ↓reduceIte, reduceCtorEq, av, av2, av3, b0, bl0, b1, bl1, w1, w2, w3, blkAt_lo]
  first | refine callBE (f14 (k := k) (cp := cp) (ok.app _) ((hy3.sl hs).app _) hr) ?_ | refine callDE (f14 (k := k) (cp := cp) (ok.app _) ((hy3.sl hs).app _) hr) ?_ | refine callXE (f14 (k := k) (cp := cp) (ok.app _) ((hy3.sl hs).app _) hr) ?_
  rintro v3 H4 hx4 ⟨S2, an2, rfl, k2, e2, m2⟩
  have hz4 := (Ext.app _ _).trans hx4
  have b2 := hx4.blk (b := H3.length) (by simp only [go_sem, ↓reduceIte, reduceCtorEq]; rfl)
  have bl2 := blkAt_lt b2
  replace b0 := hz4.blk b0
  replace bl0 := blkAt_lt b0
  replace b1 := hz4.blk b1
  replace bl1 := blkAt_lt b1
  replace ok := ok.ext hz4
  replace k1 := k1.ext hz4
  replace m1 := hz4.sub.ans m1
  have hy4 := hy3.trans hz4
  have z1 := S2.len
  have z2 := S2.all
  have z3 := S2.take
  have g13 := fun K => f13 (s := S1) (r := S2) (k1.app K) (k2.app K)
  rw [e1, e2] at g13
  simp only [decide_true] at g13
  have g15 := fun K => f15 ((Ext.app H4 K).sub.ans m1) ((Ext.app H4 K).sub.ans m2) hlen
  generalize (hearP s.pl k ns).2.2 = tk at *
  clear hlen e1 e2
  simp (maxSteps:=1000000) (disch:=omega) only [go_sem, ↓reduceIte, reduceCtorEq, b2, bl2, w1, w2, w3, z1, z2, z3, blkAt_lo]
  first | refine callB_intro (g13 _) ?_ | refine callD_intro (g13 _) ?_ | refine callP_intro (fun _ => (g13 _)) ?_ | refine callX_pure (g13 _) ?_
  simp (maxSteps:=1000000) (disch:=omega) only [go_sem, ↓reduceIte, reduceCtorEq]
  first | refine callB_intro (g15 _) ?_ | refine callD_intro (g15 _) ?_ | refine callP_intro (fun _ => (g15 _)) ?_ | refine callX_pure (g15 _) ?_
  simp (maxSteps:=1000000) (disch:=omega) only [go_sem, ↓reduceIte, reduceCtorEq, av, av2, av3, b0, bl0, b1, bl1, blkAt_lo]
  first | refine callBE (f16 (k := k) (cp := cp) (done := done) (ok.app _) ((hy4.sl hs).app _) hr) ?_ | refine callDE (f16 (k := k) (cp := cp) (done := done) (ok.app _) ((hy4.sl hs).app _) hr) ?_ | refine callXE (f16 (k := k) (cp := cp) (done := done) (ok.app _) ((hy4.sl hs).app _) hr) ?_
  rintro v4 H5 hx5 ⟨S3, rfl, k3, e3⟩
  have hz5 := (Ext.app _ _).trans hx5
  replace b0 := hz5.blk b0
  replace bl0 := blkAt_lt b0
  replace b1 := hz5.blk b1
  replace bl1 := blkAt_lt b1
  replace ok := ok.ext hz5
  have hy5 := hy4.trans hz5
  simp (maxSteps:=1000000) (disch:=omega) only [go_sem, ↓reduceIte, reduceCtorEq, av, av2, av3, b0, bl0, b1, bl1]
  first | refine callBE (f17 (k := k) (cp := cp) (done := done) ok (hy5.sl hs) hr) ?_ | refine callDE (f17 (k := k) (cp := cp) (done := done) ok (hy5.sl hs) hr) ?_ | refine callXE (f17 (k := k) (cp := cp) (done := done) ok (hy5.sl hs) hr) ?_
  rintro v5 H6 hx6 ⟨S4, rfl, k4, e4⟩
  have g13 := f13 (s := S3) (r := S4) (k3.ext hx6) k4
  rw [e3, e4] at g13
  simp only [decide_true] at g13
  simp (maxSteps:=1000000) (disch:=omega) only [go_sem, ↓reduceIte, reduceCtorEq]
  first | refine callB_intro (g13) ?_ | refine callD_intro (g13) ?_ | refine callP_intro (fun _ => (g13)) ?_ | refine callX_pure (g13) ?_
  simp (maxSteps:=1000000) (disch:=omega) only [go_sem, ↓reduceIte, reduceCtorEq]
  exact fin_ext (by simp) (hy5.trans hx6) (by simp (maxSteps:=1000000) (disch:=omega) only [resVal, resAll, resOne, rs6, Env.get, go_sem, ↓reduceIte, reduceCtorEq]) (by simp only [AV.und, AV.unds, and_self])
end Go.Proofs.Ytaiboicipbhmhaa.Ah
