/- Vf: a part of the proof: contracts of functions, or plain laws. Conditions: none. -/
import Derived.Test.YtaiboicipbhmhaaVe
import Derived.Test.YtaiboicipbhmhaaEc
namespace Go.Proofs.Ytaiboicipbhmhaa.Ah
open Go Go.WideShapes
attribute [local irreducible] acs aopsK drawK leave condK bindR bindD bindX guardK guardD callB callD callX callP callPv rfunG rfunK yldB yldD
attribute [local go_sem] Nat.reduceEqDiff Nat.reduceLT Nat.reduceAdd Nat.reduceSub Nat.reduceMul Nat.reduceBEq Int.reduceLT Int.reduceAdd Int.reduceMul Int.reduceSub Int.reduceToNat Int.reduceLE Int.reduceEq Int.reduceNeg Nat.reduceLeDiff
attribute [local go_sem] mop mget mfind mput mres keyed AV.isAgg beq_self_eq_true Bool.true_and Option.isSome_some List.set_cons_zero acs_nil acs_blk acs_skip acs_reg acs_dreg acs_freg acs_nam0 acs_nam nones acs_seq acs_cond acs_block acs_exit acs_ret acs_kl acs_loop leave_nil leave_code leave_lp leave_blk aopsK_nil aopsK_cons aopsK_guard bindR_val bindR_need bindR_br bindR_call bindR_ycall acs_rfun rfunG_fn bindR_bad drawK_nil drawK_cons drawK_wat bindW_val bindW_need bindW_br WatL_nil WatL_cons isP_ptr drawK_ext drawK_pur drawK_guard callPv_fn drawK_purv bindD_val bindD_need bindD_br bindD_call bindD_ycall bindD_bad bindX_val bindX_need bindX_br bindX_call guardD_bool guardD_tup grows grows0 List.append_cancel_left_eq List.cons.injEq exists_eq' exists_eq condK_bool guardK_bool guardK_tup sor r0 r1 r2 r3 rC rB rI rP rA rT rS rF rSl rO rbin rcut run1 Env.evals Env.eval Env.get Env.put Env.ins Env.del Env.dels argEnv AV.full AV.cells AV.cell eqCells decide_true decide_false decide_eq_true_eq decide_eq_false_iff_not Bool.not_eq_true' Bool.not_eq_false' true_and and_true false_implies true_implies forall_const Bool.not_true Bool.not_false Bool.false_eq_true Bool.true_eq_false List.getElem?_cons_zero List.getElem?_cons_succ List.length_cons List.length_nil List.length_append List.all_cons List.all_nil Bool.and_true Bool.and_self implies_true List.append_assoc List.cons_append List.nil_append List.append_nil i64_in imin_eq imax_eq cast3 cast0 cast1 cast2 Option.map_none ite_self and_false false_and Option.isSome_some or_true true_or Int.sub_zero Int.mul_one Nat.sub_zero Nat.zero_le Int.cast_ofNat_Int Int.natCast_nonneg Int.toNat_natCast ne_eq not_false_eq_true not_true_eq_false strC blkAt_app blkAt_app0 blkAt_zero blkAt_succ List.set_cons_zero List.set_cons_succ set_app set_app0 Option.map_some Option.bind_some rd setCells lay rdS szOk rapp ownAt lenAt Option.any_some Option.getD_some List.drop_zero List.drop_succ_cons List.take_succ_cons List.take_zero List.drop_nil List.take_nil Nat.lt_irrefl Nat.zero_add Nat.add_zero Nat.mul_one Nat.one_mul Nat.add_assoc Option.some.injEq eq_self
set_option maxHeartbeats 8000000
set_option linter.unusedSimpArgs false
set_option linter.unusedVariables false
set_option maxRecDepth 100000
def WP (s : Se) (p off n : Nat) (cp : Option Nat) (W : Nat) (H : Heap) (o : Option Hd) (v : AV) (H' : Heap) : Prop :=
  Ext (H.set W none) (H'.set W none) ∧ match o with
  | none => v = .bool false
  | some h => v = .bool true ∧ ∃ (S' : Stt) (an : AV), S'.ok (H'.set W none) ∧ S'.pu = (if h.st = true then tornP s.n.pu h.v.ws 13 else s.n.pu) ∧ AnsIs (H'.set W none) an h.ans ∧ blkAt H' W = some ⟨Wk ⟨s.t, S', h.v, h.c, h.l⟩ p off n cp an h.took h.st, true⟩
theorem Sl.shown {α : Type} {f : α → AV} {H : Heap} {p off b : Nat} {zs : List α} {x : Blk} (hs : Sl f (H.set b none) p off zs) (hb : blkAt H b = some x) : Sl f H p off zs := by
  have := hs.unset (some x)
  rwa [set_same hb] at this
theorem Ck.out {c : Ck} (h : c.ok = true) : 0 ≤ c.n ∧ c.n ≤ 4611686018427387904 ∧ 0 ≤ c.u ∧ c.u ≤ 4611686018427387904 ∧ 0 ≤ c.q ∧ c.q ≤ 4611686018427387904 := of_decide_eq_true h
section
variable {s : Se} {p off : Nat} {cp : Option Nat} {W : Nat} {H : Heap}
theorem f59 {x y e q o : Int} (hw : blkAt H W = some ⟨Wk s p off 5 cp .nils false false, true⟩) (hn : s.n.ok (H.set W none)) (hs : Sl i64 (H.set W none) p off [x, y, e, q, o]) (hl : lastP s.n.pu < 2305843009213693952) (hc : s.c.ok = true) :
    ACallX Try.prog 59 [.ptr W 0] H (WP s p off 5 cp W H (syncP s.v s.c s.l x y e q o)) := by
  refine acallX (fun v Hf h => acallK59 (by simp) h) (acs_start ?_)
  have hs2 := hs.shown hw
  have g80 := f80 (ns := [x, y, e, q, o]) hw hs2 rfl rfl
  have g55 := f55 o (-1) 4611686018427387904
  obtain ⟨c1, c2, c3, c4, c5, c6⟩ := Ck.out hc
  have g84 := fun H => f84 s.c.n s.c.u s.c.q H ⟨c1, c2⟩ ⟨c3, by omega⟩
  unfold vec at g84
  have hw0 := hw
  obtain ⟨cs, o', hp, hle, hcs⟩ := hs2
  have hwl := blkAt_lt hw
  have hpl := blkAt_lt hp
  have x2 := sl_get hcs (j := 2) rfl
  have x3 := sl_get hcs (j := 3) rfl
  have x4 := sl_get hcs (j := 4) rfl
  simp only [i64] at x2 x3 x4
  unfold Wk at hw
  unfold c59
  unfold syncP
  simp (maxSteps:=1000000) (disch:=omega) only [go_sem, ↓reduceIte, reduceCtorEq, hw, hwl, hp, hpl, x2, x3, x4]
  first | refine callB_intro (g80) ?_ | refine callD_intro (g80) ?_ | refine callP_intro (fun _ => (g80)) ?_ | refine callX_pure (g80) ?_
  by_cases h1 : mst s.v x y = true
  rotate_left
  · rw [if_neg (fun h => h1 h.1)]
    simp (maxSteps:=1000000) (disch:=omega) only [go_sem, ↓reduceIte, reduceCtorEq, h1]
    refine fin_x (by simp) (by simp (maxSteps:=1000000) (disch:=omega) only [resVal, resAll, resOne, rs59, Env.get, go_sem, ↓reduceIte, reduceCtorEq] <;> rfl) ⟨Ext.refl _, rfl⟩
  by_cases h2 : e = s.v.e
  rotate_left
  · rw [if_neg (fun h => h2 h.2.1)]
    simp (maxSteps:=1000000) (disch:=omega) only [go_sem, ↓reduceIte, reduceCtorEq, h1, h2, hw, hwl]
    refine fin_x (by simp) (by simp (maxSteps:=1000000) (disch:=omega) only [resVal, resAll, resOne, rs59, Env.get, go_sem, ↓reduceIte, reduceCtorEq] <;> rfl) ⟨Ext.refl _, rfl⟩
  by_cases h3 : -1 ≤ o ∧ o ≤ 4611686018427387904
  rotate_left
  · rw [if_neg (fun h => h3 h.2.2)]
    rw [decide_eq_false h3] at g55
    simp (maxSteps:=1000000) (disch:=omega) only [go_sem, ↓reduceIte, reduceCtorEq, h1, h2, hw, hwl]
    first | refine callB_intro (g55 _) ?_ | refine callD_intro (g55 _) ?_ | refine callP_intro (fun _ => (g55 _)) ?_ | refine callX_pure (g55 _) ?_
    simp (maxSteps:=1000000) (disch:=omega) only [go_sem, ↓reduceIte, reduceCtorEq]
    refine fin_x (by simp) (by simp (maxSteps:=1000000) (disch:=omega) only [resVal, resAll, resOne, rs59, Env.get, go_sem, ↓reduceIte, reduceCtorEq] <;> rfl) ⟨Ext.refl _, rfl⟩
  rw [if_pos ⟨h1, h2, h3⟩]
  rw [decide_eq_true h3] at g55
  unfold syncV
  have last : ∀ (s1 : Se) (st : Bool) (H1 : Heap) (hx : Ext (H.set W none) (H1.set W none)) (b1 : blkAt H1 W = some ⟨Wk s1 p off 5 cp .nils false st, true⟩), s1.c = s.c → s1.l = s.l → s1.t = s.t → s1.n.ok (H1.set W none) → s1.n.pu = (if st = true then tornP s.n.pu s1.v.ws 13 else s.n.pu) →
      ACallX Try.prog 83 [.ptr W 0, .int .i64 (imax (s.c.u - s.c.n) 0), .int .i64 0] H1 fun v H' => v = .tup [] ∧ WP s p off 5 cp W H (some ⟨s1.v, s.c, s.l, some (ansP s1.v x y (imax (s.c.u - s.c.n) 0) 0), false, st⟩) (.bool true) H' := by
    intro s1 st H1 hx b1 e1 e2 e3 k1 k2
    refine (f83 (ns := [x, y, e, q, o]) b1 (hx.sl hs) rfl rfl).mono ?_
    rintro v H2 ⟨rfl, hx2, an, h4, h5⟩
    obtain ⟨t, n, vv, c, l⟩ := s1
    simp only at e1 e2 e3 k1 k2
    subst e1 e2 e3
    exact ⟨rfl, hx.trans hx2, rfl, n, an, k1.ext hx2, k2, h4, h5⟩
  by_cases h4 : s.v.q < q
  · by_cases h5 : q ≤ 4611686018427387904
    · rw [if_pos ⟨h4, h5⟩, decide_eq_true ⟨h4, h5⟩]
      simp (maxSteps:=1000000) (disch:=omega) only [go_sem, ↓reduceIte, reduceCtorEq, h1, h2, hw, hwl]
      first | refine callB_intro (g55 _) ?_ | refine callD_intro (g55 _) ?_ | refine callP_intro (fun _ => (g55 _)) ?_ | refine callX_pure (g55 _) ?_
      simp (maxSteps:=1000000) (disch:=omega) only [go_sem, ↓reduceIte, reduceCtorEq, h4, h5, hw, hwl, blkAt_set_self, List.set_set, List.length_set]
      first | refine callBX (f82 (s := ⟨s.t, s.n, { s.v with q := q, y := o }, s.c, s.l⟩) (ns := [x, y, e, q, o]) (p := p) (off := off) (cp := cp) (an := .nils) (tk := false) (st := false) (blkAt_set_self hwl _) (by rw [List.set_set]; exact hn) (err_no (show 10 ≤ 600 by decide) hl)) ?_ | refine callDX (f82 (s := ⟨s.t, s.n, { s.v with q := q, y := o }, s.c, s.l⟩) (ns := [x, y, e, q, o]) (p := p) (off := off) (cp := cp) (an := .nils) (tk := false) (st := false) (blkAt_set_self hwl _) (by rw [List.set_set]; exact hn) (err_no (show 10 ≤ 600 by decide) hl)) ?_
      rintro v1 H1 ⟨rfl, hx1, S', k1, e1, b1⟩
      rw [List.set_set] at hx1
      have bl1 := blkAt_lt b1
      have b2 := b1
      unfold Wk at b2
      simp (maxSteps:=1000000) (disch:=omega) only [go_sem, ↓reduceIte, reduceCtorEq, b2, bl1]
      first | refine callB_intro (g84 _) ?_ | refine callD_intro (g84 _) ?_ | refine callP_intro (fun _ => (g84 _)) ?_ | refine callX_pure (g84 _) ?_
      simp (maxSteps:=1000000) (disch:=omega) only [go_sem, ↓reduceIte, reduceCtorEq]
      first | refine callBX (last ⟨s.t, S', { s.v with q := q, y := o }, s.c, s.l⟩ true H1 hx1 b1 rfl rfl rfl k1 e1) ?_ | refine callDX (last ⟨s.t, S', { s.v with q := q, y := o }, s.c, s.l⟩ true H1 hx1 b1 rfl rfl rfl k1 e1) ?_
      rintro v2 H2 ⟨rfl, hx2⟩
      simp (maxSteps:=1000000) (disch:=omega) only [go_sem, ↓reduceIte, reduceCtorEq]
      refine fin_x (by simp) (by simp (maxSteps:=1000000) (disch:=omega) only [resVal, resAll, resOne, rs59, Env.get, go_sem, ↓reduceIte, reduceCtorEq] <;> rfl) hx2
    · rw [if_neg (fun h => h5 h.2), decide_eq_false (fun h => h5 h.2)]
      simp (maxSteps:=1000000) (disch:=omega) only [go_sem, ↓reduceIte, reduceCtorEq, h1, h2, hw, hwl]
      first | refine callB_intro (g55 _) ?_ | refine callD_intro (g55 _) ?_ | refine callP_intro (fun _ => (g55 _)) ?_ | refine callX_pure (g55 _) ?_
      simp (maxSteps:=1000000) (disch:=omega) only [go_sem, ↓reduceIte, reduceCtorEq, h4, h5, hw, hwl]
      first | refine callB_intro (g84 _) ?_ | refine callD_intro (g84 _) ?_ | refine callP_intro (fun _ => (g84 _)) ?_ | refine callX_pure (g84 _) ?_
      simp (maxSteps:=1000000) (disch:=omega) only [go_sem, ↓reduceIte, reduceCtorEq]
      first | refine callBX (last s false H (Ext.refl _) hw0 rfl rfl rfl hn rfl) ?_ | refine callDX (last s false H (Ext.refl _) hw0 rfl rfl rfl hn rfl) ?_
      rintro v2 H2 ⟨rfl, hx2⟩
      simp (maxSteps:=1000000) (disch:=omega) only [go_sem, ↓reduceIte, reduceCtorEq]
      refine fin_x (by simp) (by simp (maxSteps:=1000000) (disch:=omega) only [resVal, resAll, resOne, rs59, Env.get, go_sem, ↓reduceIte, reduceCtorEq] <;> rfl) hx2
  · rw [if_neg (fun h => h4 h.1), decide_eq_false (fun h => h4 h.1)]
    simp (maxSteps:=1000000) (disch:=omega) only [go_sem, ↓reduceIte, reduceCtorEq, h1, h2, hw, hwl]
    first | refine callB_intro (g55 _) ?_ | refine callD_intro (g55 _) ?_ | refine callP_intro (fun _ => (g55 _)) ?_ | refine callX_pure (g55 _) ?_
    simp (maxSteps:=1000000) (disch:=omega) only [go_sem, ↓reduceIte, reduceCtorEq, h4, hw, hwl]
    first | refine callB_intro (g84 _) ?_ | refine callD_intro (g84 _) ?_ | refine callP_intro (fun _ => (g84 _)) ?_ | refine callX_pure (g84 _) ?_
    simp (maxSteps:=1000000) (disch:=omega) only [go_sem, ↓reduceIte, reduceCtorEq]
    first | refine callBX (last s false H (Ext.refl _) hw0 rfl rfl rfl hn rfl) ?_ | refine callDX (last s false H (Ext.refl _) hw0 rfl rfl rfl hn rfl) ?_
    rintro v2 H2 ⟨rfl, hx2⟩
    simp (maxSteps:=1000000) (disch:=omega) only [go_sem, ↓reduceIte, reduceCtorEq]
    refine fin_x (by simp) (by simp (maxSteps:=1000000) (disch:=omega) only [resVal, resAll, resOne, rs59, Env.get, go_sem, ↓reduceIte, reduceCtorEq] <;> rfl) hx2
theorem f60 {x y g e k a b d : Int} (hw : blkAt H W = some ⟨Wk s p off 8 cp .nils false false, true⟩) (hn : s.n.ok (H.set W none)) (hs : Sl i64 (H.set W none) p off [x, y, g, e, k, a, b, d]) (hl : lastP s.n.pu < 2305843009213693952) (ht : s.t.ok = true) (hll : 0 ≤ s.v.l ∧ s.v.l ≤ 4611686018427387904) (hb : BQ s.l.a ∧ BQ s.l.b ∧ BQ s.l.c) :
    ACallX Try.prog 60 [.ptr W 0] H (WP s p off 8 cp W H (outP s.t s.v s.c s.l x y g e k a b d)) := by
  refine acallX (fun v Hf h => acallK60 (by simp) h) (acs_start ?_)
  have hs2 := hs.shown hw
  have hwl := blkAt_lt hw
  have g80 := fun K => f80 (ns := [x, y, g, e, k, a, b, d]) ((blkAt_lo K hwl).trans hw) (hs2.app K) rfl rfl
  have g55 := f55 k (s.v.l + 1) 4611686018427387904
  have g77 := f77 a b d
  have hs3 : SQ s.t.e := by
    have := of_decide_eq_true (show mayT _ _ _ _ _ = true from ht)
    unfold SQ
    omega
  have hw0 := hw
  obtain ⟨cs, o', hp, hle, hcs⟩ := hs2
  have hpl := blkAt_lt hp
  have x2 := sl_get hcs (j := 2) rfl
  have x3 := sl_get hcs (j := 3) rfl
  have x4 := sl_get hcs (j := 4) rfl
  have x5 := sl_get hcs (j := 5) rfl
  have x6 := sl_get hcs (j := 6) rfl
  have x7 := sl_get hcs (j := 7) rfl
  simp only [i64] at x2 x3 x4 x5 x6 x7
  unfold Wk at hw
  unfold vec at g77
  unfold c60
  unfold outP
  simp (maxSteps:=1000000) (disch:=omega) only [go_sem, ↓reduceIte, reduceCtorEq, hw, hwl, hp, hpl, x5, x6, x7, blkAt_lo]
  first | refine callB_intro (g80 _) ?_ | refine callD_intro (g80 _) ?_ | refine callP_intro (fun _ => (g80 _)) ?_ | refine callX_pure (g80 _) ?_
  have none_ : ∀ H', Ext (H.set W none) ((H ++ H').set W none) := fun H' => by rw [set_lo _ _ hwl]; exact ⟨_, rfl⟩
  by_cases h1 : mst s.v x y = true
  rotate_left
  · rw [if_neg (fun h => h1 h.1)]
    simp (maxSteps:=1000000) (disch:=omega) only [go_sem, ↓reduceIte, reduceCtorEq, h1]
    refine fin_x (by simp) (by simp (maxSteps:=1000000) (disch:=omega) only [resVal, resAll, resOne, rs60, Env.get, go_sem, ↓reduceIte, reduceCtorEq] <;> rfl) ⟨none_ _, rfl⟩
  by_cases h2 : g = s.v.g
  rotate_left
  · rw [if_neg (fun h => h2 h.2.1)]
    simp (maxSteps:=1000000) (disch:=omega) only [go_sem, ↓reduceIte, reduceCtorEq, h1, h2, hw, hwl, hp, hpl, x2, blkAt_lo]
    refine fin_x (by simp) (by simp (maxSteps:=1000000) (disch:=omega) only [resVal, resAll, resOne, rs60, Env.get, go_sem, ↓reduceIte, reduceCtorEq] <;> rfl) ⟨none_ _, rfl⟩
  by_cases h3 : e = s.v.e
  rotate_left
  · rw [if_neg (fun h => h3 h.2.2.1)]
    simp (maxSteps:=1000000) (disch:=omega) only [go_sem, ↓reduceIte, reduceCtorEq, h1, h2, h3, hw, hwl, hp, hpl, x2, x3, blkAt_lo]
    refine fin_x (by simp) (by simp (maxSteps:=1000000) (disch:=omega) only [resVal, resAll, resOne, rs60, Env.get, go_sem, ↓reduceIte, reduceCtorEq] <;> rfl) ⟨none_ _, rfl⟩
  have hadd : -9223372036854775808 ≤ s.v.l + 1 ∧ s.v.l + 1 < 9223372036854775808 := by omega
  by_cases h4 : s.v.l + 1 ≤ k ∧ k ≤ 4611686018427387904
  rotate_left
  · rw [if_neg (fun h => h4 ⟨by omega, by omega⟩)]
    rw [decide_eq_false h4] at g55
    simp (maxSteps:=1000000) (disch:=omega) only [go_sem, ↓reduceIte, reduceCtorEq, h1, h2, h3, hw, hwl, hp, hpl, x2, x3, x4, blkAt_lo]
    first | refine callB_intro (g55 _) ?_ | refine callD_intro (g55 _) ?_ | refine callP_intro (fun _ => (g55 _)) ?_ | refine callX_pure (g55 _) ?_
    simp (maxSteps:=1000000) (disch:=omega) only [go_sem, ↓reduceIte, reduceCtorEq]
    refine fin_x (by simp) (by simp (maxSteps:=1000000) (disch:=omega) only [resVal, resAll, resOne, rs60, Env.get, go_sem, ↓reduceIte, reduceCtorEq] <;> rfl) ⟨none_ _, rfl⟩
  rw [decide_eq_true h4] at g55
  by_cases h5 : BQ a ∧ BQ b ∧ BQ d
  rotate_left
  · rw [if_neg (fun h => h5 ⟨h.2.2.2.2.2.1, h.2.2.2.2.2.2.1, h.2.2.2.2.2.2.2⟩)]
    unfold bqs at g77
    rw [decide_eq_false h5] at g77
    simp (maxSteps:=1000000) (disch:=omega) only [go_sem, ↓reduceIte, reduceCtorEq, h1, h2, h3, hw, hwl, hp, hpl, x2, x3, x4, blkAt_lo]
    first | refine callB_intro (g55 _) ?_ | refine callD_intro (g55 _) ?_ | refine callP_intro (fun _ => (g55 _)) ?_ | refine callX_pure (g55 _) ?_
    simp (maxSteps:=1000000) (disch:=omega) only [go_sem, ↓reduceIte, reduceCtorEq]
    first | refine callB_intro (g77 _) ?_ | refine callD_intro (g77 _) ?_ | refine callP_intro (fun _ => (g77 _)) ?_ | refine callX_pure (g77 _) ?_
    simp (maxSteps:=1000000) (disch:=omega) only [go_sem, ↓reduceIte, reduceCtorEq]
    refine fin_x (by simp) (by simp (maxSteps:=1000000) (disch:=omega) only [resVal, resAll, resOne, rs60, Env.get, go_sem, ↓reduceIte, reduceCtorEq] <;> rfl) ⟨none_ _, rfl⟩
  rw [if_pos ⟨h1, h2, h3, by omega, h4.2, h5.1, h5.2.1, h5.2.2⟩]
  unfold bqs at g77
  rw [decide_eq_true h5] at g77
  have g85 := fun H => f85 (since := s.l.s) (now := s.c.n) (stale := s.l.o) (H := H) hb.1 hb.2.1 hb.2.2 h5.1 h5.2.1 h5.2.2 hs3
  unfold latch vec at g85
  clear hs3 hb
  generalize mv1 s.l.a a s.t.e = A at *
  generalize mv1 s.l.b b s.t.e = B at *
  generalize mv1 s.l.c d s.t.e = D at *
  simp (maxSteps:=1000000) (disch:=omega) only [go_sem, ↓reduceIte, reduceCtorEq, h1, h2, h3, hw, hwl, hp, hpl, x2, x3, x4, blkAt_lo]
  first | refine callB_intro (g55 _) ?_ | refine callD_intro (g55 _) ?_ | refine callP_intro (fun _ => (g55 _)) ?_ | refine callX_pure (g55 _) ?_
  simp (maxSteps:=1000000) (disch:=omega) only [go_sem, ↓reduceIte, reduceCtorEq]
  first | refine callB_intro (g77 _) ?_ | refine callD_intro (g77 _) ?_ | refine callP_intro (fun _ => (g77 _)) ?_ | refine callX_pure (g77 _) ?_
  simp (maxSteps:=1000000) (disch:=omega) only [go_sem, ↓reduceIte, reduceCtorEq, hw, hwl, hp, hpl, x4, blkAt_lo, set_lo, blkAt_los, set_los, List.length_set, blkAt_set_self, List.set_set, blkAt_set_ne, blkAt_setapp, blkAt_setapp0]
  first | refine callB_intro (g85 _) ?_ | refine callD_intro (g85 _) ?_ | refine callP_intro (fun _ => (g85 _)) ?_ | refine callX_pure (g85 _) ?_
  simp (maxSteps:=1000000) (disch:=omega) only [go_sem, ↓reduceIte, reduceCtorEq, hwl, blkAt_los, set_los, List.length_set, blkAt_set_self, List.set_set]
  first | refine callBX (f82 (s := ⟨s.t, s.n, { s.v with l := k, a := A, b := B, c := D }, s.c, ⟨A, B, D, s.c.n, false⟩⟩) (ns := [x, y, g, e, k, a, b, d]) (p := p) (off := off) (cp := cp) (an := .nils) (tk := true) (st := false) ((blkAt_los _ _ hwl).trans (blkAt_set_self hwl _)) (by rw [set_los _ _ _ hwl, List.set_set]; exact hn.app _) (err_no (show 10 ≤ 600 by decide) hl)) ?_ | refine callDX (f82 (s := ⟨s.t, s.n, { s.v with l := k, a := A, b := B, c := D }, s.c, ⟨A, B, D, s.c.n, false⟩⟩) (ns := [x, y, g, e, k, a, b, d]) (p := p) (off := off) (cp := cp) (an := .nils) (tk := true) (st := false) ((blkAt_los _ _ hwl).trans (blkAt_set_self hwl _)) (by rw [set_los _ _ _ hwl, List.set_set]; exact hn.app _) (err_no (show 10 ≤ 600 by decide) hl)) ?_
  rintro v1 H1 ⟨rfl, hx1, S', k1, e1, b1⟩
  rw [set_los _ _ _ hwl, List.set_set] at hx1
  simp (maxSteps:=1000000) (disch:=omega) only [go_sem, ↓reduceIte, reduceCtorEq]
  refine fin_x (by simp) (by simp (maxSteps:=1000000) (disch:=omega) only [resVal, resAll, resOne, rs60, Env.get, go_sem, ↓reduceIte, reduceCtorEq] <;> rfl) ⟨(Ext.app _ _).trans hx1, rfl, S', .nils, k1, e1, rfl, b1⟩
end

theorem Tm.out {t : Tm} (h : t.ok = true) : 1 ≤ t.a ∧ t.a ≤ 1000000000 ∧ 1 ≤ t.b ∧ t.b ≤ 1000000000 ∧ 1 ≤ t.c ∧ t.c ≤ 1000000000 ∧ 1 ≤ t.d ∧ t.d ≤ 1000000000 ∧ t.a ≤ t.b ∧ 1 ≤ t.e ∧ t.e ≤ 70368744177663 := of_decide_eq_true h
theorem Vw.out {v : Vw} (h : v.ok = true) : 0 ≤ v.g ∧ v.g ≤ 4611686018427387904 ∧ 0 ≤ v.e ∧ v.e ≤ 4611686018427387904 ∧ 0 ≤ v.i ∧ v.i ≤ 4611686018427387904 ∧ 0 ≤ v.q ∧ v.q ≤ 4611686018427387904 ∧ 0 ≤ v.l ∧ v.l ≤ 4611686018427387904 ∧ -1 ≤ v.u ∧ v.u ≤ 1 ∧ -1 ≤ v.y ∧ v.y ≤ 4611686018427387904 ∧ BQ v.a ∧ BQ v.b ∧ BQ v.c := of_decide_eq_true h
section
variable {s : Se} {p off : Nat} {cp : Option Nat} {W : Nat} {H : Heap}
theorem f58 {x y z : Int} (hw : blkAt H W = some ⟨Wk s p off 3 cp .nils false false, true⟩) (hn : s.n.ok (H.set W none)) (hs : Sl i64 (H.set W none) p off [x, y, z]) (hl : lastP s.n.pu < 2305843009213693952) (ht : s.t.ok = true) (hc : s.c.ok = true) (hv : s.v.ok = true) :
    ACallX Try.prog 58 [.ptr W 0] H (WP s p off 3 cp W H (askP s.t s.v s.c s.l x y z)) := by
  refine acallX (fun v Hf h => acallK58 (by simp) h) (acs_start ?_)
  have hs2 := hs.shown hw
  have hwl := blkAt_lt hw
  obtain ⟨t1, t2, -⟩ := Tm.out ht
  obtain ⟨c1, c2, c3, c4, c5, c6⟩ := Ck.out hc
  obtain ⟨v1, v2, v3, v4, -, -, -, -, -, -, v5, v6, -⟩ := Vw.out hv
  have g80 := fun K G => f80 (ns := [x, y, z]) ((blkAt_lo G (by simp; omega)).trans ((blkAt_lo K hwl).trans hw)) ((hs2.app K).app G) rfl rfl
  have g81 := fun K G => f81 (ns := [x, y, z]) ((blkAt_lo G (by simp; omega)).trans ((blkAt_lo K hwl).trans hw)) ((hs2.app K).app G) rfl rfl ⟨v5, v6⟩
  have g1 := f55 x 0 1
  have g2 : ∀ H, ACall Try.prog 55 [.int .i64 y, .int .i64 0, .int .i64 4611686018427387904] H (.bool (num y)) H := f55 y 0 4611686018427387904
  have g3 : ∀ H, ACall Try.prog 55 [.int .i64 z, .int .i64 0, .int .i64 4611686018427387904] H (.bool (num z)) H := f55 z 0 4611686018427387904
  have g79 := fun H => f79 (a := s.t.a) (b := s.t.b) (c := s.t.c) (d := s.t.d) (e := s.t.e) (n := s.c.n) (u := s.c.u) (q := s.c.q) (mst s.v x y) (stp2 s.v x y) H ⟨c1, c2⟩ ⟨c3, by omega⟩ ⟨c5, c6⟩ ⟨t1, t2⟩
  have hh := how_in s.t.c s.c.n s.c.u s.c.q (mst s.v x y) (stp2 s.v x y)
  unfold tms vec lent at g79
  obtain ⟨R, hR⟩ : ∃ R, R = askP s.t s.v s.c s.l x y z := ⟨_, rfl⟩
  rw [← hR]
  unfold askP at hR
  generalize mst s.v x y = M1 at *
  generalize stp2 s.v x y = M2 at *
  generalize how s.t.c s.c.n s.c.u s.c.q M1 M2 = h at *
  have hw0 := hw
  obtain ⟨cs, o', hp, hle, hcs⟩ := hs2
  have hpl := blkAt_lt hp
  have x0 := sl_get hcs (j := 0) rfl
  have x1 := sl_get hcs (j := 1) rfl
  have x2 := sl_get hcs (j := 2) rfl
  simp only [i64, Nat.add_zero] at x0 x1 x2
  unfold Wk at hw
  have none_ : ∀ H', Ext (H.set W none) ((H ++ H').set W none) := fun H' => by rw [set_lo _ _ hwl]; exact ⟨_, rfl⟩
  have last : ∀ (s1 : Se) (st : Bool) (H1 : Heap) (hx : Ext (H.set W none) (H1.set W none)) (b1 : blkAt H1 W = some ⟨Wk s1 p off 3 cp .nils false st, true⟩), s1.c = ⟨s.c.n, s.c.n + s.t.a, s.c.q⟩ → s1.l = s.l → s1.t = s.t → s1.n.ok (H1.set W none) → s1.n.pu = (if st = true then tornP s.n.pu s1.v.ws 13 else s.n.pu) →
      ACallX Try.prog 83 [.ptr W 0, .int .i64 s.t.a, .int .i64 z] H1 fun v H' => v = .tup [] ∧ WP s p off 3 cp W H (some ⟨s1.v, ⟨s.c.n, s.c.n + s.t.a, s.c.q⟩, s.l, some (ansP s1.v x y s.t.a z), false, st⟩) (.bool true) H' := by
    intro s1 st H1 hx b1 e1 e2 e3 k1 k2
    refine (f83 (ns := [x, y, z]) b1 (hx.sl hs) rfl rfl).mono ?_
    rintro v H2 ⟨rfl, hx2, an, h4, h5⟩
    obtain ⟨t, n, vv, c, l⟩ := s1
    simp only at e1 e2 e3 k1 k2
    subst e1 e2 e3
    exact ⟨rfl, hx.trans hx2, rfl, n, an, k1.ext hx2, k2, h4, h5⟩
  unfold c58
  simp (maxSteps:=1000000) (disch:=omega) only [go_sem, ↓reduceIte, reduceCtorEq, hw, hwl, hp, hpl, x0, x1, x2]
  first | refine callB_intro (g1 _) ?_ | refine callD_intro (g1 _) ?_ | refine callP_intro (fun _ => (g1 _)) ?_ | refine callX_pure (g1 _) ?_
  by_cases a1 : 0 ≤ x ∧ x ≤ 1
  rotate_left
  · rw [if_neg (fun h => a1 ⟨h.1, h.2.1⟩)] at hR
    rw [hR, decide_eq_false a1]
    simp (maxSteps:=1000000) (disch:=omega) only [go_sem, ↓reduceIte, reduceCtorEq]
    refine fin_x (by simp) (by simp (maxSteps:=1000000) (disch:=omega) only [resVal, resAll, resOne, rs58, Env.get, go_sem, ↓reduceIte, reduceCtorEq] <;> rfl) ⟨Ext.refl _, rfl⟩
  rw [decide_eq_true a1]
  simp (maxSteps:=1000000) (disch:=omega) only [go_sem, ↓reduceIte, reduceCtorEq]
  first | refine callB_intro (g2 _) ?_ | refine callD_intro (g2 _) ?_ | refine callP_intro (fun _ => (g2 _)) ?_ | refine callX_pure (g2 _) ?_
  by_cases a2 : num y = true
  rotate_left
  · rw [if_neg (fun h => a2 h.2.2.1)] at hR
    rw [hR]
    simp (maxSteps:=1000000) (disch:=omega) only [go_sem, ↓reduceIte, reduceCtorEq, a2]
    refine fin_x (by simp) (by simp (maxSteps:=1000000) (disch:=omega) only [resVal, resAll, resOne, rs58, Env.get, go_sem, ↓reduceIte, reduceCtorEq] <;> rfl) ⟨Ext.refl _, rfl⟩
  simp (maxSteps:=1000000) (disch:=omega) only [go_sem, ↓reduceIte, reduceCtorEq, a2]
  first | refine callB_intro (g3 _) ?_ | refine callD_intro (g3 _) ?_ | refine callP_intro (fun _ => (g3 _)) ?_ | refine callX_pure (g3 _) ?_
  by_cases a3 : num z = true
  rotate_left
  · rw [if_neg (fun h => a3 h.2.2.2)] at hR
    rw [hR]
    simp (maxSteps:=1000000) (disch:=omega) only [go_sem, ↓reduceIte, reduceCtorEq, a3]
    refine fin_x (by simp) (by simp (maxSteps:=1000000) (disch:=omega) only [resVal, resAll, resOne, rs58, Env.get, go_sem, ↓reduceIte, reduceCtorEq] <;> rfl) ⟨Ext.refl _, rfl⟩
  rw [if_pos ⟨a1.1, a1.2, a2, a3⟩] at hR
  simp (maxSteps:=1000000) (disch:=omega) only [go_sem, ↓reduceIte, reduceCtorEq, a3, hw, hwl, blkAt_lo]
  first | refine callB_intro (g80 _ _) ?_ | refine callD_intro (g80 _ _) ?_ | refine callP_intro (fun _ => (g80 _ _)) ?_ | refine callX_pure (g80 _ _) ?_
  simp (maxSteps:=1000000) (disch:=omega) only [go_sem, ↓reduceIte, reduceCtorEq]
  first | refine callB_intro (g81 _ _) ?_ | refine callD_intro (g81 _ _) ?_ | refine callP_intro (fun _ => (g81 _ _)) ?_ | refine callX_pure (g81 _ _) ?_
  simp (maxSteps:=1000000) (disch:=omega) only [go_sem, ↓reduceIte, reduceCtorEq]
  first | refine callB_intro (g79 _) ?_ | refine callD_intro (g79 _) ?_ | refine callP_intro (fun _ => (g79 _)) ?_ | refine callX_pure (g79 _) ?_
  have hcase : h = 0 ∨ h = 1 ∨ h = 2 ∨ h = 3 ∨ h = 4 := by omega
  rcases hcase with rfl | rfl | rfl | rfl | rfl
  · rw [if_pos (.inl rfl)] at hR
    rw [hR]
    simp (maxSteps:=1000000) (disch:=omega) only [go_sem, ↓reduceIte, reduceCtorEq]
    refine fin_x (by simp) (by simp (maxSteps:=1000000) (disch:=omega) only [resVal, resAll, resOne, rs58, Env.get, go_sem, ↓reduceIte, reduceCtorEq] <;> rfl) ⟨none_ _, rfl⟩
  · rw [if_neg (by omega), show askV 1 s.v x y = s.v from rfl, show decide ((1 : Int) < 1) = false from rfl] at hR
    rw [hR]
    simp (maxSteps:=1000000) (disch:=omega) only [go_sem, ↓reduceIte, reduceCtorEq, hw, hwl, blkAt_lo, set_lo, blkAt_los, set_los, List.length_set, blkAt_set_self, List.set_set, blkAt_set_ne, blkAt_setapp, blkAt_setapp0]
    first | refine callBX (last ⟨s.t, s.n, s.v, ⟨s.c.n, s.c.n + s.t.a, s.c.q⟩, s.l⟩ false _ (by rw [set_los _ _ _ hwl, List.set_set]; exact ⟨_, rfl⟩) ((blkAt_los _ _ hwl).trans (blkAt_set_self hwl _)) rfl rfl rfl (by rw [set_los _ _ _ hwl, List.set_set]; exact hn.app _) rfl) ?_ | refine callDX (last ⟨s.t, s.n, s.v, ⟨s.c.n, s.c.n + s.t.a, s.c.q⟩, s.l⟩ false _ (by rw [set_los _ _ _ hwl, List.set_set]; exact ⟨_, rfl⟩) ((blkAt_los _ _ hwl).trans (blkAt_set_self hwl _)) rfl rfl rfl (by rw [set_los _ _ _ hwl, List.set_set]; exact hn.app _) rfl) ?_
    rintro v2 H2 ⟨rfl, hx2⟩
    simp (maxSteps:=1000000) (disch:=omega) only [go_sem, ↓reduceIte, reduceCtorEq]
    refine fin_x (by simp) (by simp (maxSteps:=1000000) (disch:=omega) only [resVal, resAll, resOne, rs58, Env.get, go_sem, ↓reduceIte, reduceCtorEq] <;> rfl) hx2
  · by_cases he : s.v.e = 4611686018427387904
    · rw [if_pos (.inr (.inl ⟨by omega, he⟩))] at hR
      rw [hR]
      simp (maxSteps:=1000000) (disch:=omega) only [go_sem, ↓reduceIte, reduceCtorEq, hw, hwl, blkAt_lo, set_lo, blkAt_los, set_los, List.length_set, blkAt_set_self, List.set_set, blkAt_set_ne, blkAt_setapp, blkAt_setapp0, he]
      refine fin_x (by simp) (by simp (maxSteps:=1000000) (disch:=omega) only [resVal, resAll, resOne, rs58, Env.get, go_sem, ↓reduceIte, reduceCtorEq] <;> rfl) ⟨by rw [set_lo _ _ hwl]; exact ⟨_, rfl⟩, rfl⟩
    rw [if_neg (by omega), show askV 2 s.v x y = { s.v with e := s.v.e + 1, q := 0 } from rfl, show decide ((1 : Int) < 2) = true from rfl] at hR
    rw [hR]
    simp (maxSteps:=1000000) (disch:=omega) only [go_sem, ↓reduceIte, reduceCtorEq, hw, hwl, blkAt_lo, set_lo, blkAt_los, set_los, List.length_set, blkAt_set_self, List.set_set, blkAt_set_ne, blkAt_setapp, blkAt_setapp0, he]
    first | refine callBX (f82 (s := ⟨s.t, s.n, { s.v with e := s.v.e + 1, q := 0 }, ⟨s.c.n, s.c.n + s.t.a, s.c.q⟩, s.l⟩) (ns := [x, y, z]) (p := p) (off := off) (cp := cp) (an := .nils) (tk := false) (st := false) ((blkAt_los _ _ hwl).trans (blkAt_set_self hwl _)) (by rw [set_los _ _ _ hwl, List.set_set]; exact hn.app _) (err_no (show 10 ≤ 600 by decide) hl)) ?_ | refine callDX (f82 (s := ⟨s.t, s.n, { s.v with e := s.v.e + 1, q := 0 }, ⟨s.c.n, s.c.n + s.t.a, s.c.q⟩, s.l⟩) (ns := [x, y, z]) (p := p) (off := off) (cp := cp) (an := .nils) (tk := false) (st := false) ((blkAt_los _ _ hwl).trans (blkAt_set_self hwl _)) (by rw [set_los _ _ _ hwl, List.set_set]; exact hn.app _) (err_no (show 10 ≤ 600 by decide) hl)) ?_
    rintro v1 H1 ⟨rfl, hx1, S', k1, e1, b1⟩
    rw [set_los _ _ _ hwl, List.set_set] at hx1
    have bl1 := blkAt_lt b1
    have b2 := b1
    unfold Wk at b2
    simp (maxSteps:=1000000) (disch:=omega) only [go_sem, ↓reduceIte, reduceCtorEq, b2, bl1]
    first | refine callBX (last ⟨s.t, S', { s.v with e := s.v.e + 1, q := 0 }, ⟨s.c.n, s.c.n + s.t.a, s.c.q⟩, s.l⟩ true H1 ((Ext.app _ _).trans hx1) b1 rfl rfl rfl k1 e1) ?_ | refine callDX (last ⟨s.t, S', { s.v with e := s.v.e + 1, q := 0 }, ⟨s.c.n, s.c.n + s.t.a, s.c.q⟩, s.l⟩ true H1 ((Ext.app _ _).trans hx1) b1 rfl rfl rfl k1 e1) ?_
    rintro v2 H2 ⟨rfl, hx2⟩
    simp (maxSteps:=1000000) (disch:=omega) only [go_sem, ↓reduceIte, reduceCtorEq]
    refine fin_x (by simp) (by simp (maxSteps:=1000000) (disch:=omega) only [resVal, resAll, resOne, rs58, Env.get, go_sem, ↓reduceIte, reduceCtorEq] <;> rfl) hx2
  · by_cases he : s.v.e = 4611686018427387904
    · rw [if_pos (.inr (.inl ⟨by omega, he⟩))] at hR
      rw [hR]
      simp (maxSteps:=1000000) (disch:=omega) only [go_sem, ↓reduceIte, reduceCtorEq, hw, hwl, blkAt_lo, set_lo, blkAt_los, set_los, List.length_set, blkAt_set_self, List.set_set, blkAt_set_ne, blkAt_setapp, blkAt_setapp0, he]
      refine fin_x (by simp) (by simp (maxSteps:=1000000) (disch:=omega) only [resVal, resAll, resOne, rs58, Env.get, go_sem, ↓reduceIte, reduceCtorEq] <;> rfl) ⟨by rw [set_lo _ _ hwl]; exact ⟨_, rfl⟩, rfl⟩
    rw [if_neg (by omega), show askV 3 s.v x y = { s.v with e := s.v.e + 1, q := 0, u := x, i := y, y := -1 } from rfl, show decide ((1 : Int) < 3) = true from rfl] at hR
    rw [hR]
    simp (maxSteps:=1000000) (disch:=omega) only [go_sem, ↓reduceIte, reduceCtorEq, hw, hwl, blkAt_lo, set_lo, blkAt_los, set_los, List.length_set, blkAt_set_self, List.set_set, blkAt_set_ne, blkAt_setapp, blkAt_setapp0, he]
    first | refine callBX (f82 (s := ⟨s.t, s.n, { s.v with e := s.v.e + 1, q := 0, u := x, i := y, y := -1 }, ⟨s.c.n, s.c.n + s.t.a, s.c.q⟩, s.l⟩) (ns := [x, y, z]) (p := p) (off := off) (cp := cp) (an := .nils) (tk := false) (st := false) ((blkAt_los _ _ hwl).trans (blkAt_set_self hwl _)) (by rw [set_los _ _ _ hwl, List.set_set]; exact hn.app _) (err_no (show 10 ≤ 600 by decide) hl)) ?_ | refine callDX (f82 (s := ⟨s.t, s.n, { s.v with e := s.v.e + 1, q := 0, u := x, i := y, y := -1 }, ⟨s.c.n, s.c.n + s.t.a, s.c.q⟩, s.l⟩) (ns := [x, y, z]) (p := p) (off := off) (cp := cp) (an := .nils) (tk := false) (st := false) ((blkAt_los _ _ hwl).trans (blkAt_set_self hwl _)) (by rw [set_los _ _ _ hwl, List.set_set]; exact hn.app _) (err_no (show 10 ≤ 600 by decide) hl)) ?_
    rintro v1 H1 ⟨rfl, hx1, S', k1, e1, b1⟩
    rw [set_los _ _ _ hwl, List.set_set] at hx1
    have bl1 := blkAt_lt b1
    have b2 := b1
    unfold Wk at b2
    simp (maxSteps:=1000000) (disch:=omega) only [go_sem, ↓reduceIte, reduceCtorEq, b2, bl1]
    first | refine callBX (last ⟨s.t, S', { s.v with e := s.v.e + 1, q := 0, u := x, i := y, y := -1 }, ⟨s.c.n, s.c.n + s.t.a, s.c.q⟩, s.l⟩ true H1 ((Ext.app _ _).trans hx1) b1 rfl rfl rfl k1 e1) ?_ | refine callDX (last ⟨s.t, S', { s.v with e := s.v.e + 1, q := 0, u := x, i := y, y := -1 }, ⟨s.c.n, s.c.n + s.t.a, s.c.q⟩, s.l⟩ true H1 ((Ext.app _ _).trans hx1) b1 rfl rfl rfl k1 e1) ?_
    rintro v2 H2 ⟨rfl, hx2⟩
    simp (maxSteps:=1000000) (disch:=omega) only [go_sem, ↓reduceIte, reduceCtorEq]
    refine fin_x (by simp) (by simp (maxSteps:=1000000) (disch:=omega) only [resVal, resAll, resOne, rs58, Env.get, go_sem, ↓reduceIte, reduceCtorEq] <;> rfl) hx2
  · by_cases he : s.v.e = 4611686018427387904
    · rw [if_pos (.inr (.inl ⟨by omega, he⟩))] at hR
      rw [hR]
      simp (maxSteps:=1000000) (disch:=omega) only [go_sem, ↓reduceIte, reduceCtorEq, hw, hwl, blkAt_lo, set_lo, blkAt_los, set_los, List.length_set, blkAt_set_self, List.set_set, blkAt_set_ne, blkAt_setapp, blkAt_setapp0, he]
      refine fin_x (by simp) (by simp (maxSteps:=1000000) (disch:=omega) only [resVal, resAll, resOne, rs58, Env.get, go_sem, ↓reduceIte, reduceCtorEq] <;> rfl) ⟨by rw [set_lo _ _ hwl]; exact ⟨_, rfl⟩, rfl⟩
    by_cases hg : s.v.g = 4611686018427387904
    · rw [if_pos (.inr (.inr ⟨rfl, hg⟩))] at hR
      rw [hR]
      simp (maxSteps:=1000000) (disch:=omega) only [go_sem, ↓reduceIte, reduceCtorEq, hw, hwl, blkAt_lo, set_lo, blkAt_los, set_los, List.length_set, blkAt_set_self, List.set_set, blkAt_set_ne, blkAt_setapp, blkAt_setapp0, he, hg]
      refine fin_x (by simp) (by simp (maxSteps:=1000000) (disch:=omega) only [resVal, resAll, resOne, rs58, Env.get, go_sem, ↓reduceIte, reduceCtorEq] <;> rfl) ⟨by rw [set_lo _ _ hwl]; exact ⟨_, rfl⟩, rfl⟩
    rw [if_neg (by omega), show askV 4 s.v x y = { s.v with e := s.v.e + 1, q := 0, u := x, i := y, y := -1, g := s.v.g + 1, l := 0 } from rfl, show decide ((1 : Int) < 4) = true from rfl] at hR
    rw [hR]
    simp (maxSteps:=1000000) (disch:=omega) only [go_sem, ↓reduceIte, reduceCtorEq, hw, hwl, blkAt_lo, set_lo, blkAt_los, set_los, List.length_set, blkAt_set_self, List.set_set, blkAt_set_ne, blkAt_setapp, blkAt_setapp0, he, hg]
    first | refine callBX (f82 (s := ⟨s.t, s.n, { s.v with e := s.v.e + 1, q := 0, u := x, i := y, y := -1, g := s.v.g + 1, l := 0 }, ⟨s.c.n, s.c.n + s.t.a, s.c.q⟩, s.l⟩) (ns := [x, y, z]) (p := p) (off := off) (cp := cp) (an := .nils) (tk := false) (st := false) ((blkAt_los _ _ hwl).trans (blkAt_set_self hwl _)) (by rw [set_los _ _ _ hwl, List.set_set]; exact hn.app _) (err_no (show 10 ≤ 600 by decide) hl)) ?_ | refine callDX (f82 (s := ⟨s.t, s.n, { s.v with e := s.v.e + 1, q := 0, u := x, i := y, y := -1, g := s.v.g + 1, l := 0 }, ⟨s.c.n, s.c.n + s.t.a, s.c.q⟩, s.l⟩) (ns := [x, y, z]) (p := p) (off := off) (cp := cp) (an := .nils) (tk := false) (st := false) ((blkAt_los _ _ hwl).trans (blkAt_set_self hwl _)) (by rw [set_los _ _ _ hwl, List.set_set]; exact hn.app _) (err_no (show 10 ≤ 600 by decide) hl)) ?_
    rintro v1 H1 ⟨rfl, hx1, S', k1, e1, b1⟩
    rw [set_los _ _ _ hwl, List.set_set] at hx1
    have bl1 := blkAt_lt b1
    have b2 := b1
    unfold Wk at b2
    simp (maxSteps:=1000000) (disch:=omega) only [go_sem, ↓reduceIte, reduceCtorEq, b2, bl1]
    first | refine callBX (last ⟨s.t, S', { s.v with e := s.v.e + 1, q := 0, u := x, i := y, y := -1, g := s.v.g + 1, l := 0 }, ⟨s.c.n, s.c.n + s.t.a, s.c.q⟩, s.l⟩ true H1 ((Ext.app _ _).trans hx1) b1 rfl rfl rfl k1 e1) ?_ | refine callDX (last ⟨s.t, S', { s.v with e := s.v.e + 1, q := 0, u := x, i := y, y := -1, g := s.v.g + 1, l := 0 }, ⟨s.c.n, s.c.n + s.t.a, s.c.q⟩, s.l⟩ true H1 ((Ext.app _ _).trans hx1) b1 rfl rfl rfl k1 e1) ?_
    rintro v2 H2 ⟨rfl, hx2⟩
    simp (maxSteps:=1000000) (disch:=omega) only [go_sem, ↓reduceIte, reduceCtorEq]
    refine fin_x (by simp) (by simp (maxSteps:=1000000) (disch:=omega) only [resVal, resAll, resOne, rs58, Env.get, go_sem, ↓reduceIte, reduceCtorEq] <;> rfl) hx2
end

theorem ext_of_get {H H' : Heap} (hl : H.length ≤ H'.length) (h : ∀ p, p < H.length → H'[p]? = H[p]?) : Ext H H' := by
  refine ⟨H'.drop H.length, ?_⟩
  refine List.ext_getElem? fun p => ?_
  by_cases hp : p < H.length
  · rw [List.getElem?_append_left hp, h p hp]
  · rw [List.getElem?_append_right (by omega), List.getElem?_drop]
    congr 1
    omega
theorem Ext.unhide {H A B : Heap} {W : Nat} (h : Ext H A) (h2 : Ext (A.set W none) (B.set W none)) (hW : H.length ≤ W) : Ext H B := by
  have l1 := h.len
  have l2 := h2.len
  simp only [List.length_set] at l2
  refine ext_of_get (by omega) fun q hq => ?_
  obtain ⟨G, rfl⟩ := h
  obtain ⟨G2, e⟩ := h2
  have this : (B.set W none)[q]? = ((H ++ G).set W none ++ G2)[q]? := by rw [e]
  rw [List.getElem?_set_ne (by omega), List.getElem?_append_left (by simp; omega), List.getElem?_set_ne (by omega), List.getElem?_append_left hq] at this
  exact this
theorem hears_no {t : Tm} {v : Vw} {c : Ck} {l : La} {k : Int} {n : List Int} (h1 : k ≠ 1) (h3 : k ≠ 3) (h4 : k ≠ 4) : hearsP t v c l k n = none := by
  unfold hearsP
  split
  · rw [if_neg h1]
  · rw [if_neg h4]
  · rw [if_neg h3]
  · rfl
theorem hears_wrong {t : Tm} {v : Vw} {c : Ck} {l : La} {k : Int} {n : List Int} (h : rightF k n.length = false) : hearsP t v c l k n = none := by
  unfold hearsP
  split
  · split
    · next e => subst e; simp [rightF, lng] at h
    · rfl
  · split
    · next e => subst e; simp [rightF, lng] at h
    · rfl
  · split
    · next e => subst e; simp [rightF, lng] at h
    · rfl
  · rfl
theorem right_len {k : Int} {n : Nat} (h : rightF k n = true) : (n : Int) = lng k := (of_decide_eq_true h).2
theorem three {l : List Int} (h : l.length = 3) : ∃ x y z, l = [x, y, z] := by
  match l, h with
  | [x, y, z], _ => exact ⟨x, y, z, rfl⟩
theorem five {l : List Int} (h : l.length = 5) : ∃ x y z a b, l = [x, y, z, a, b] := by
  match l, h with
  | [x, y, z, a, b], _ => exact ⟨x, y, z, a, b, rfl⟩
theorem eight {l : List Int} (h : l.length = 8) : ∃ x y z a b c d e, l = [x, y, z, a, b, c, d, e] := by
  match l, h with
  | [x, y, z, a, b, c, d, e], _ => exact ⟨x, y, z, a, b, c, d, e, rfl⟩
theorem right_out {s : PSe} (h : rightP s = true) : s.t.ok = true ∧ s.c.ok = true ∧ s.v.ok = true ∧ (s.l.a = s.v.a ∧ s.l.b = s.v.b ∧ s.l.c = s.v.c) ∧ (0 ≤ s.l.s ∧ s.l.s ≤ 4611686018427387904) ∧ onP s.n = true ∧ lastP s.n < 2305843009213693952 ∧ rdP s.n = s.v.ws := by
  unfold rightP at h
  simp only [Bool.and_eq_true, decide_eq_true_eq] at h
  obtain ⟨⟨⟨⟨⟨h1, h2⟩, h3⟩, h4⟩, h5⟩, ⟨h6, h7⟩, h8⟩ := h
  exact ⟨h1, h2, h3, h4, h5, h6, h7, h8⟩
def HP (s : Se) (H : Heap) (o : Option Hd) (v : AV) (H' : Heap) : Prop := ∃ W, H.length ≤ W ∧ v = .tup [.ptr W 0, .bool o.isSome] ∧ ∀ h, o = some h →
  ∃ (S' : Stt) (an : AV) (p off n : Nat) (cp : Option Nat), S'.ok (H'.set W none) ∧ S'.pu = (if h.st = true then tornP s.n.pu h.v.ws 13 else s.n.pu) ∧ AnsIs (H'.set W none) an h.ans ∧ blkAt H' W = some ⟨Wk ⟨s.t, S', h.v, h.c, h.l⟩ p off n cp an h.took h.st, true⟩
theorem WP.hp {s : Se} {p off n : Nat} {cp : Option Nat} {W : Nat} {H A : Heap} {o : Option Hd} {v : AV} {H' : Heap} (h : WP s p off n cp W A o v H') (hx : Ext H A) (hW : H.length ≤ W) : Ext H H' ∧ v = .bool o.isSome ∧ HP s H o (.tup [.ptr W 0, v]) H' := by
  obtain ⟨h1, h2⟩ := h
  refine ⟨hx.unhide h1 hW, ?_⟩
  cases o with
  | none =>
    simp only at h2
    subst h2
    exact ⟨rfl, W, hW, rfl, fun h e => by cases e⟩
  | some h =>
    simp only at h2
    obtain ⟨rfl, S', an, k1, k2, k3, k4⟩ := h2
    refine ⟨rfl, W, hW, rfl, fun h' e => ?_⟩
    cases e
    exact ⟨S', an, p, off, n, cp, k1, k2, k3, k4⟩
theorem hb58 : hasBody Try.prog 58 = true := by kernel_rfl
theorem hb59 : hasBody Try.prog 59 = true := by kernel_rfl
theorem hb60 : hasBody Try.prog 60 = true := by kernel_rfl
theorem f34 {s : Se} {k : Int} {ns : List Int} {p off : Nat} {cp : Option Nat} {H : Heap} (hn : s.n.ok H) (hs : Sl i64 H p off ns) (hr : rightP s.pl = true) :
    ACallE Try.prog 34 [.agg s.av, .agg [.int .i64 k, .sl p off ns.length 1 cp]] H (HP s H (hearsP s.t s.v s.c s.l k ns)) := by
  refine acallE (fun v Hf h => acallK34 (by simp) h) (acs_start ?_)
  obtain ⟨ht, hc, hv, hb, hsn, -, hl, -⟩ := right_out hr
  have g61 := fun H => f61 (k := k) (p := p) (off := off) (n := ns.length) (c := cp) (H := H)
  have V := Vw.out hv
  have hbq : BQ s.l.a ∧ BQ s.l.b ∧ BQ s.l.c := by
    obtain ⟨e1, e2, e3⟩ := hb
    have e1 : s.l.a = s.v.a := e1
    have e2 : s.l.b = s.v.b := e2
    have e3 : s.l.c = s.v.c := e3
    rw [e1, e2, e3]
    exact ⟨V.2.2.2.2.2.2.2.2.2.2.2.2.2.2.1, V.2.2.2.2.2.2.2.2.2.2.2.2.2.2.2.1, V.2.2.2.2.2.2.2.2.2.2.2.2.2.2.2.2⟩
  unfold c34 Se.av
  by_cases k1 : k = 1
  · subst k1
    simp (maxSteps:=1000000) (disch:=omega) only [go_sem, ↓reduceIte, reduceCtorEq, hb58, hb59, hb60]
    first | refine callB_intro (g61 _) ?_ | refine callD_intro (g61 _) ?_ | refine callP_intro (fun _ => (g61 _)) ?_ | refine callX_pure (g61 _) ?_
    cases hf : rightF 1 ns.length with
    | false =>
      rw [hears_wrong hf]
      simp (maxSteps:=1000000) (disch:=omega) only [go_sem, ↓reduceIte, reduceCtorEq]
      refine fin_e (by simp) (by simp (maxSteps:=1000000) (disch:=omega) only [resVal, resAll, resOne, rs34, Env.get, go_sem, ↓reduceIte, reduceCtorEq] <;> rfl) (Ext.app _ _) ⟨H.length + 2, by omega, rfl, fun h e => by cases e⟩
    | true =>
      obtain ⟨x, y, z, rfl⟩ := three (show ns.length = 3 by have h : (ns.length : Int) = 3 := right_len hf; omega)
      simp (maxSteps:=1000000) (disch:=omega) only [go_sem, ↓reduceIte, reduceCtorEq, hb58]
      first | refine callBX (f58 (s := s) (p := p) (off := off) (cp := cp) (W := H.length + 2) (by simp only [go_sem, ↓reduceIte, reduceCtorEq]; rfl) (hn.app_set (by omega) none) (hs.app_set (by omega) none) hl ht hc hv) ?_ | refine callDX (f58 (s := s) (p := p) (off := off) (cp := cp) (W := H.length + 2) (by simp only [go_sem, ↓reduceIte, reduceCtorEq]; rfl) (hn.app_set (by omega) none) (hs.app_set (by omega) none) hl ht hc hv) ?_
      rintro v1 H1 h1
      obtain ⟨h2, rfl, h3⟩ := h1.hp (Ext.app _ _) (by omega)
      simp (maxSteps:=1000000) (disch:=omega) only [go_sem, ↓reduceIte, reduceCtorEq]
      refine fin_e (by simp) (by simp (maxSteps:=1000000) (disch:=omega) only [resVal, resAll, resOne, rs34, Env.get, go_sem, ↓reduceIte, reduceCtorEq] <;> rfl) h2 h3
  by_cases k4 : k = 4
  · subst k4
    simp (maxSteps:=1000000) (disch:=omega) only [go_sem, ↓reduceIte, reduceCtorEq, hb58, hb59, hb60]
    first | refine callB_intro (g61 _) ?_ | refine callD_intro (g61 _) ?_ | refine callP_intro (fun _ => (g61 _)) ?_ | refine callX_pure (g61 _) ?_
    cases hf : rightF 4 ns.length with
    | false =>
      rw [hears_wrong hf]
      simp (maxSteps:=1000000) (disch:=omega) only [go_sem, ↓reduceIte, reduceCtorEq]
      refine fin_e (by simp) (by simp (maxSteps:=1000000) (disch:=omega) only [resVal, resAll, resOne, rs34, Env.get, go_sem, ↓reduceIte, reduceCtorEq] <;> rfl) (Ext.app _ _) ⟨H.length + 2, by omega, rfl, fun h e => by cases e⟩
    | true =>
      obtain ⟨x, y, e, q, o, rfl⟩ := five (show ns.length = 5 by have h : (ns.length : Int) = 5 := right_len hf; omega)
      simp (maxSteps:=1000000) (disch:=omega) only [go_sem, ↓reduceIte, reduceCtorEq, hb59]
      first | refine callBX (f59 (s := s) (p := p) (off := off) (cp := cp) (W := H.length + 2) (by simp only [go_sem, ↓reduceIte, reduceCtorEq]; rfl) (hn.app_set (by omega) none) (hs.app_set (by omega) none) hl hc) ?_ | refine callDX (f59 (s := s) (p := p) (off := off) (cp := cp) (W := H.length + 2) (by simp only [go_sem, ↓reduceIte, reduceCtorEq]; rfl) (hn.app_set (by omega) none) (hs.app_set (by omega) none) hl hc) ?_
      rintro v1 H1 h1
      obtain ⟨h2, rfl, h3⟩ := h1.hp (Ext.app _ _) (by omega)
      simp (maxSteps:=1000000) (disch:=omega) only [go_sem, ↓reduceIte, reduceCtorEq]
      refine fin_e (by simp) (by simp (maxSteps:=1000000) (disch:=omega) only [resVal, resAll, resOne, rs34, Env.get, go_sem, ↓reduceIte, reduceCtorEq] <;> rfl) h2 h3
  by_cases k3 : k = 3
  · subst k3
    simp (maxSteps:=1000000) (disch:=omega) only [go_sem, ↓reduceIte, reduceCtorEq, hb58, hb59, hb60]
    first | refine callB_intro (g61 _) ?_ | refine callD_intro (g61 _) ?_ | refine callP_intro (fun _ => (g61 _)) ?_ | refine callX_pure (g61 _) ?_
    cases hf : rightF 3 ns.length with
    | false =>
      rw [hears_wrong hf]
      simp (maxSteps:=1000000) (disch:=omega) only [go_sem, ↓reduceIte, reduceCtorEq]
      refine fin_e (by simp) (by simp (maxSteps:=1000000) (disch:=omega) only [resVal, resAll, resOne, rs34, Env.get, go_sem, ↓reduceIte, reduceCtorEq] <;> rfl) (Ext.app _ _) ⟨H.length + 2, by omega, rfl, fun h e => by cases e⟩
    | true =>
      obtain ⟨x, y, g, e, m, a, b, d, rfl⟩ := eight (show ns.length = 8 by have h : (ns.length : Int) = 8 := right_len hf; omega)
      simp (maxSteps:=1000000) (disch:=omega) only [go_sem, ↓reduceIte, reduceCtorEq, hb60]
      first | refine callBX (f60 (s := s) (p := p) (off := off) (cp := cp) (W := H.length + 2) (by simp only [go_sem, ↓reduceIte, reduceCtorEq]; rfl) (hn.app_set (by omega) none) (hs.app_set (by omega) none) hl ht ⟨V.2.2.2.2.2.2.2.2.1, V.2.2.2.2.2.2.2.2.2.1⟩ hbq) ?_ | refine callDX (f60 (s := s) (p := p) (off := off) (cp := cp) (W := H.length + 2) (by simp only [go_sem, ↓reduceIte, reduceCtorEq]; rfl) (hn.app_set (by omega) none) (hs.app_set (by omega) none) hl ht ⟨V.2.2.2.2.2.2.2.2.1, V.2.2.2.2.2.2.2.2.2.1⟩ hbq) ?_
      rintro v1 H1 h1
      obtain ⟨h2, rfl, h3⟩ := h1.hp (Ext.app _ _) (by omega)
      simp (maxSteps:=1000000) (disch:=omega) only [go_sem, ↓reduceIte, reduceCtorEq]
      refine fin_e (by simp) (by simp (maxSteps:=1000000) (disch:=omega) only [resVal, resAll, resOne, rs34, Env.get, go_sem, ↓reduceIte, reduceCtorEq] <;> rfl) h2 h3
  rw [hears_no k1 k3 k4]
  simp (maxSteps:=1000000) (disch:=omega) only [go_sem, ↓reduceIte, reduceCtorEq, hb58, hb59, hb60, k1, k3, k4]
  first | refine callB_intro (g61 _) ?_ | refine callD_intro (g61 _) ?_ | refine callP_intro (fun _ => (g61 _)) ?_ | refine callX_pure (g61 _) ?_
  cases rightF k ns.length with
  | false =>
    simp (maxSteps:=1000000) (disch:=omega) only [go_sem, ↓reduceIte, reduceCtorEq]
    refine fin_e (by simp) (by simp (maxSteps:=1000000) (disch:=omega) only [resVal, resAll, resOne, rs34, Env.get, go_sem, ↓reduceIte, reduceCtorEq] <;> rfl) (Ext.app _ _) ⟨H.length + 2, by omega, rfl, fun h e => by cases e⟩
  | true =>
    simp (maxSteps:=1000000) (disch:=omega) only [go_sem, ↓reduceIte, reduceCtorEq]
    refine fin_e (by simp) (by simp (maxSteps:=1000000) (disch:=omega) only [resVal, resAll, resOne, rs34, Env.get, go_sem, ↓reduceIte, reduceCtorEq] <;> rfl) (Ext.app _ _) ⟨H.length + 2, by omega, rfl, fun h e => by cases e⟩

def Sub (A B : Heap) : Prop := ∀ q x, blkAt A q = some x → blkAt B q = some x
theorem Sub.trans {A B C : Heap} (h : Sub A B) (h' : Sub B C) : Sub A C := fun q x e => h' q x (h q x e)
theorem Ext.sub {A B : Heap} (h : Ext A B) : Sub A B := fun q x e => h.blk e
theorem Sub.hid {H : Heap} {b : Nat} {x : Option Blk} : Sub (H.set b none) (H.set b x) := by
  intro q y e
  by_cases hq : b = q
  · subst hq
    by_cases hl : b < H.length
    · rw [blkAt_set_self hl] at e
      cases e
    · rw [List.set_eq_of_length_le (by omega)] at e ⊢
      exact e
  · rw [blkAt_set_ne hq] at e ⊢
    exact e
theorem Sub.show {H : Heap} {b : Nat} : Sub (H.set b none) H := by
  intro q y e
  by_cases hq : b = q
  · subst hq
    by_cases hl : b < H.length
    · rw [blkAt_set_self hl] at e
      cases e
    · rw [List.set_eq_of_length_le (by omega)] at e
      exact e
  · rw [blkAt_set_ne hq] at e
    exact e
theorem Sub.hide {A B : Heap} (h : Sub A B) {b : Nat} (hb : b < A.length) : Sub (A.set b none) (B.set b none) := by
  intro q x e
  by_cases hq : b = q
  · subst hq
    rw [blkAt_set_self hb] at e
    cases e
  · rw [blkAt_set_ne hq] at e ⊢
    exact h q x e
theorem Sub.sl {α : Type} {f : α → AV} {A B : Heap} (h : Sub A B) {p off : Nat} {zs : List α} (hs : Sl f A p off zs) : Sl f B p off zs := by
  obtain ⟨cs, o, h1, h2⟩ := hs
  exact ⟨cs, o, h _ _ h1, h2⟩
theorem Sub.ok {S : Stt} {A B : Heap} (h : Sub A B) (k : S.ok A) : S.ok B := ⟨h.sl k.h0, h.sl k.h1, k.l0, k.l1⟩
theorem Sub.ans {A B : Heap} (h : Sub A B) {an : AV} {o : Option (List Int)} (k : AnsIs A an o) : AnsIs B an o := by
  cases o with
  | none => exact k
  | some l =>
    obtain ⟨q, p, c, d, o, h1, h2, h3⟩ := k
    exact ⟨q, p, c, d, o, h1, h _ _ h2, h.sl h3⟩
def HearR (q : PSe × Option (List Int) × Bool) (v : AV) (H' : Heap) : Prop := ∃ (S' : Se) (an : AV), v = .tup [.agg S'.av, an, .bool q.2.2] ∧ S'.n.ok H' ∧ S'.pl = q.1 ∧ AnsIs H' an q.2.1
section
variable {s : Se} {k : Int} {ns : List Int} {p off : Nat} {cp : Option Nat} {H : Heap}
theorem f12 (hn : s.n.ok H) (hs : Sl i64 H p off ns) (hr : rightP s.pl = true) :
    ACallE Try.prog 12 [.agg s.av, .agg [.int .i64 k, .sl p off ns.length 1 cp]] H (HearR (hearP s.pl k ns)) := by
  refine acallE (fun v Hf h => acallK12 (by simp) h) (acs_start ?_)
  have g34 := fun K => f34 (s := s) (k := k) (cp := cp) (H := (H ++ K).set (H.length + 2) none) (hn.app_set (by omega) none) (hs.app_set (by omega) none) hr
  have eh : ∀ o, hearsP s.t s.v s.c s.l k ns = o → hearP s.pl k ns = (match o with | none => (s.pl, none, false) | some h => (⟨s.t, if h.st = true then tornP s.n.pu h.v.ws 13 else s.n.pu, h.v, h.c, h.l⟩, h.ans, h.took)) := by
    intro o e
    subst e
    rfl
  generalize hearsP s.t s.v s.c s.l k ns = o at *
  rw [eh o rfl]
  clear eh
  have kn := fun K => hn.app_set (G := K) (b := H.length + 2) (by omega)
  unfold c12
  unfold Se.av at *
  simp (maxSteps:=1000000) (disch:=omega) only [go_sem, ↓reduceIte, reduceCtorEq]
  first | refine callBE (ACallE.frame (b := H.length + 2) (by simp only [go_sem, ↓reduceIte, reduceCtorEq]; rfl) rfl (g34 _)) ?_ | refine callDE (ACallE.frame (b := H.length + 2) (by simp only [go_sem, ↓reduceIte, reduceCtorEq]; rfl) rfl (g34 _)) ?_ | refine callXE (ACallE.frame (b := H.length + 2) (by simp only [go_sem, ↓reduceIte, reduceCtorEq]; rfl) rfl (g34 _)) ?_
  rintro v1 H1 hx1 ⟨bR, W, hW, rfl, hh⟩
  have b0 := hx1.blk (b := H.length) (by simp only [go_sem, ↓reduceIte, reduceCtorEq]; rfl)
  have hy1 : Ext H H1 := (Ext.app _ _).trans hx1
  have bl0 := blkAt_lt b0
  have blR := blkAt_lt bR
  cases o with
  | none =>
    simp (maxSteps:=1000000) (disch:=omega) only [go_sem, ↓reduceIte, reduceCtorEq, b0, bl0, bR, blR, blkAt_set_self, Option.isSome_none]
    refine fin_e (by simp) (by simp (maxSteps:=1000000) (disch:=omega) only [resVal, resAll, resOne, rs12, Env.get, go_sem, ↓reduceIte, reduceCtorEq, b0, bl0, bR, blR, blkAt_set_self] <;> rfl) (hy1.set (by omega) _) ⟨s, .nils, rfl, hn.ext (hy1.set (by omega) _), rfl, rfl⟩
  | some h =>
    obtain ⟨S', an, p', off', n', cp', k1, k2, k3, k4⟩ := hh h rfl
    simp only [List.length_set, List.length_append, List.length_cons, List.length_nil] at hW
    rw [blkAt_set_ne (by omega)] at k4
    have hWl := blkAt_lt k4
    have hu : Sub ((H1.set (H.length + 2) none).set W none) (H1.set (H.length + 2) none) := Sub.show
    unfold Wk at k4
    simp (maxSteps:=1000000) (disch:=omega) only [go_sem, ↓reduceIte, reduceCtorEq, b0, bl0, bR, blR, blkAt_set_self, k4, hWl, Option.isSome_some]
    refine ⟨⟨by rw [blkAt_set_ne (by omega)]; exact k4, by rw [blkAt_set_ne (by omega)]; exact k4⟩, ?_⟩
    refine fin_e (by simp) (by simp (maxSteps:=1000000) (disch:=omega) only [resVal, resAll, resOne, rs12, Env.get, go_sem, ↓reduceIte, reduceCtorEq, bR, blR, blkAt_set_self] <;> rfl) (hy1.set (by omega) _) ⟨⟨s.t, S', h.v, h.c, h.l⟩, an, rfl, (hu.trans Sub.hid).ok k1, by unfold Se.pl; rw [k2], (hu.trans Sub.hid).ans k3⟩
theorem f16 {done : Int} (hn : s.n.ok H) (hs : Sl i64 H p off ns) (hr : rightP s.pl = true) :
    ACallE Try.prog 16 [.agg s.av, .agg [.int .i64 k, .sl p off ns.length 1 cp], .int .i64 done] H fun v H' => Sel v H' (diesP s.pl k ns done) := by
  refine acallE (fun v Hf h => acallK16 (by simp) h) (acs_start ?_)
  have g34 := fun K => f34 (s := s) (k := k) (cp := cp) (H := (H ++ K).set (H.length + 2) none) (hn.app_set (by omega) none) (hs.app_set (by omega) none) hr
  obtain ⟨-, -, -, -, -, -, hl, -⟩ := right_out hr
  have eh : ∀ o, hearsP s.t s.v s.c s.l k ns = o → diesP s.pl k ns done = (match o with | none => resetP s.pl | some h => if h.st = true then resetP { s.pl with n := tornP s.pl.n h.v.ws done } else resetP s.pl) := by
    intro o e
    subst e
    rfl
  generalize hearsP s.t s.v s.c s.l k ns = o at *
  rw [eh o rfl]
  clear eh
  have g21 := fun (H1 : Heap) (h : Ext H H1) (hb : H.length ≤ H.length + 2) => f21 (s := s) (H := H1.set (H.length + 2) none) (hn.ext (h.set hb none))
  unfold c16
  unfold Se.av at *
  simp (maxSteps:=1000000) (disch:=omega) only [go_sem, ↓reduceIte, reduceCtorEq]
  first | refine callBE (ACallE.frame (b := H.length + 2) (by simp only [go_sem, ↓reduceIte, reduceCtorEq]; rfl) rfl (g34 _)) ?_ | refine callDE (ACallE.frame (b := H.length + 2) (by simp only [go_sem, ↓reduceIte, reduceCtorEq]; rfl) rfl (g34 _)) ?_ | refine callXE (ACallE.frame (b := H.length + 2) (by simp only [go_sem, ↓reduceIte, reduceCtorEq]; rfl) rfl (g34 _)) ?_
  rintro v1 H1 hx1 ⟨bR, W, hW, rfl, hh⟩
  have b0 := hx1.blk (b := H.length) (by simp only [go_sem, ↓reduceIte, reduceCtorEq]; rfl)
  have hy1 : Ext H H1 := (Ext.app _ _).trans hx1
  have bl0 := blkAt_lt b0
  have blR := blkAt_lt bR
  have noth : ACallE Try.prog 21 [.agg s.av] H1 fun v H' => blkAt H' (H.length + 2) = some ⟨[.int .i64 0, .int .i64 0, .int .i64 0, .int .i64 0, .int .i64 0, .nils, .int .i64 0, .nils, .int .i64 0, .int .i64 0, .int .i64 0, .int .i64 0, .int .i64 0, .int .i64 0, .int .i64 0, .int .i64 0, .int .i64 0, .int .i64 0, .int .i64 0, .int .i64 0, .int .i64 0, .int .i64 0, .int .i64 0, .int .i64 0, .int .i64 0, .int .i64 0, .bool false], true⟩ ∧ Sel v (H'.set (H.length + 2) none) (resetP s.pl) := ACallE.frame bR rfl (g21 _ hy1 (by omega))
  unfold Se.av at noth
  cases o with
  | none =>
    simp (maxSteps:=1000000) (disch:=omega) only [go_sem, ↓reduceIte, reduceCtorEq, b0, bl0, Option.isSome_none]
    first | refine callBE (noth) ?_ | refine callDE (noth) ?_ | refine callXE (noth) ?_
    rintro v2 H2 hx2 ⟨bR, s', rfl, k3, e3⟩
    replace blR := blkAt_lt bR
    have a1 := s'.len
    have a2 := s'.all
    have a3 := s'.take
    simp (maxSteps:=1000000) (disch:=omega) only [go_sem, ↓reduceIte, reduceCtorEq, a1, a2, a3, bR, blR, blkAt_set_self]
    refine fin_e (by simp) (by simp (maxSteps:=1000000) (disch:=omega) only [resVal, resAll, resOne, rs16, Env.get, go_sem, ↓reduceIte, reduceCtorEq, a1, a2, a3, bR, blR, blkAt_set_self] <;> rfl) ((hy1.trans hx2).set (by omega) _) ⟨s', rfl, Sub.hid.ok k3, e3⟩
  | some h =>
    obtain ⟨S', an, p', off', n', cp', -, -, -, k4⟩ := hh h rfl
    simp only [List.length_set, List.length_append, List.length_cons, List.length_nil] at hW
    rw [blkAt_set_ne (by omega)] at k4
    have hWl := blkAt_lt k4
    unfold Wk at k4
    by_cases hst : h.st = true
    rotate_left
    · dsimp only
      rw [if_neg hst]
      simp (maxSteps:=1000000) (disch:=omega) only [go_sem, ↓reduceIte, reduceCtorEq, b0, bl0, k4, hWl, hst, Option.isSome_some]
      first | refine callBE (noth) ?_ | refine callDE (noth) ?_ | refine callXE (noth) ?_
      rintro v2 H2 hx2 ⟨bR, s', rfl, k3, e3⟩
      replace blR := blkAt_lt bR
      have a1 := s'.len
      have a2 := s'.all
      have a3 := s'.take
      simp (maxSteps:=1000000) (disch:=omega) only [go_sem, ↓reduceIte, reduceCtorEq, a1, a2, a3, bR, blR, blkAt_set_self]
      refine fin_e (by simp) (by simp (maxSteps:=1000000) (disch:=omega) only [resVal, resAll, resOne, rs16, Env.get, go_sem, ↓reduceIte, reduceCtorEq, a1, a2, a3, bR, blR, blkAt_set_self] <;> rfl) ((hy1.trans hx2).set (by omega) _) ⟨s', rfl, Sub.hid.ok k3, e3⟩
    dsimp only
    rw [if_pos hst]
    have g40 := fun H => f40 h.v H
    unfold Vw.av at g40
    simp (maxSteps:=1000000) (disch:=omega) only [go_sem, ↓reduceIte, reduceCtorEq, b0, bl0, k4, hWl, hst, Option.isSome_some]
    first | refine callBE (ACallE.frame (b := H.length) b0 rfl (ACallE.frame (b := H.length + 2) (by rw [blkAt_set_ne (by omega)]; exact bR) rfl (g40 _))) ?_ | refine callDE (ACallE.frame (b := H.length) b0 rfl (ACallE.frame (b := H.length + 2) (by rw [blkAt_set_ne (by omega)]; exact bR) rfl (g40 _))) ?_ | refine callXE (ACallE.frame (b := H.length) b0 rfl (ACallE.frame (b := H.length + 2) (by rw [blkAt_set_ne (by omega)]; exact bR) rfl (g40 _))) ?_
    rintro v2 H2 hx2 ⟨b0, bR', q, oq, cq, rfl, s1⟩
    have hy2 := hy1.trans hx2
    rw [blkAt_set_ne (by omega)] at bR'
    have g39 := f39_t (kq := cq) (done := done) (hn.ext ((hy2.set (b := H.length) (by omega) none).set (b := H.length + 2) (by omega) none)) s1 (show 10 ≤ 1000 by decide)
    unfold Torn at g39
    unfold Stt.av nvc at g39
    simp (maxSteps:=1000000) (disch:=omega) only [go_sem, ↓reduceIte, reduceCtorEq]
    first | refine callBE (ACallE.frame (b := H.length) b0 rfl (ACallE.frame (b := H.length + 2) (by rw [blkAt_set_ne (by omega)]; exact bR') rfl g39)) ?_ | refine callDE (ACallE.frame (b := H.length) b0 rfl (ACallE.frame (b := H.length + 2) (by rw [blkAt_set_ne (by omega)]; exact bR') rfl g39)) ?_ | refine callXE (ACallE.frame (b := H.length) b0 rfl (ACallE.frame (b := H.length + 2) (by rw [blkAt_set_ne (by omega)]; exact bR') rfl g39)) ?_
    rintro v3 H3 hx3 ⟨b0, bR, S', rfl, k3, e3⟩
    have hy3 := hy2.trans hx3
    rw [blkAt_set_ne (by omega)] at bR
    replace bl0 := blkAt_lt b0
    replace blR := blkAt_lt bR
    have g22 := fun x => f21 (s := ⟨s.t, S', s.v, s.c, s.l⟩) (H := (H3.set H.length x).set (H.length + 2) none) ((Sub.hid.hide (by simpa using blR)).ok k3)
    have er : resetP (Se.pl ⟨s.t, S', s.v, s.c, s.l⟩) = resetP { s.pl with n := tornP s.pl.n h.v.ws done } := by
      unfold Se.pl
      simp only
      rw [e3]
    rw [er] at g22
    unfold Se.av at g22
    simp (maxSteps:=1000000) (disch:=omega) only [go_sem, ↓reduceIte, reduceCtorEq, b0, bl0, blkAt_set_self]
    first | refine callBE (ACallE.frame (b := H.length + 2) ((blkAt_set_ne (by omega) _).trans bR) rfl (g22 _)) ?_ | refine callDE (ACallE.frame (b := H.length + 2) ((blkAt_set_ne (by omega) _).trans bR) rfl (g22 _)) ?_ | refine callXE (ACallE.frame (b := H.length + 2) ((blkAt_set_ne (by omega) _).trans bR) rfl (g22 _)) ?_
    rintro v4 H4 hx4 ⟨bR, s', rfl, k5, e5⟩
    replace blR := blkAt_lt bR
    have a1 := s'.len
    have a2 := s'.all
    have a3 := s'.take
    simp (maxSteps:=1000000) (disch:=omega) only [go_sem, ↓reduceIte, reduceCtorEq, a1, a2, a3, bR, blR, blkAt_set_self]
    refine fin_e (by simp) (by simp (maxSteps:=1000000) (disch:=omega) only [resVal, resAll, resOne, rs16, Env.get, go_sem, ↓reduceIte, reduceCtorEq, a1, a2, a3, bR, blR, blkAt_set_self] <;> rfl) (((hy3.set (by omega) _).trans hx4).set (by omega) _) ⟨s', rfl, Sub.hid.ok k5, e5⟩
end

theorem right_eq (s : PSe) : rightP s = (s.t.ok && (s.c.ok && (s.v.ok && (decide (s.l.a = s.v.a ∧ s.l.b = s.v.b ∧ s.l.c = s.v.c) && (num s.l.s && (onP s.n && (decide (lastP s.n < 2305843009213693952) && decide (rdP s.n = s.v.ws)))))))) := by
  unfold rightP num
  simp only [Bool.and_assoc]
theorem right_se (s : Se) : rightP s.pl = (s.t.ok && (s.c.ok && (s.v.ok && (decide (s.l.a = s.v.a ∧ s.l.b = s.v.b ∧ s.l.c = s.v.c) && (num s.l.s && (onP s.n.pu && (decide (lastP s.n.pu < 2305843009213693952) && decide (rdP s.n.pu = s.v.ws)))))))) := right_eq s.pl
theorem f22 {s : Se} {H : Heap} (h : s.n.ok H) : ACallE Try.prog 22 [.agg s.av] H fun v H' => v = .bool (rightP s.pl) := by
  refine acallE (fun v Hf h => acallK22 (by simp) h) (acs_start ?_)
  rw [right_se]
  have g49 := fun G => f49_t (h.app G)
  have hrl := rd_short h
  have g40 := fun H => f40 s.v H
  have g44 : ∀ H, ACall Try.prog 44 [tms s.t.a s.t.b s.t.c s.t.d s.t.e] H (.bool s.t.ok) H := f44 s.t.a s.t.b s.t.c s.t.d s.t.e
  have g53 : ∀ H, ACall Try.prog 53 [vec s.c.n s.c.u s.c.q] H (.bool s.c.ok) H := f53 s.c.n s.c.u s.c.q
  have g54 := f54 s.v
  have g55 : ∀ H, ACall Try.prog 55 [.int .i64 s.l.s, .int .i64 0, .int .i64 4611686018427387904] H (.bool (num s.l.s)) H := f55 s.l.s 0 4611686018427387904
  have e4 : (decide (s.l.a = s.v.a) && (decide (s.l.b = s.v.b) && decide (s.l.c = s.v.c))) = decide (s.l.a = s.v.a ∧ s.l.b = s.v.b ∧ s.l.c = s.v.c) := by rw [Bool.eq_iff_iff]; simp
  generalize s.t.ok = z1 at *
  generalize s.c.ok = z2 at *
  generalize s.v.ok = z3 at *
  generalize decide (s.l.a = s.v.a ∧ s.l.b = s.v.b ∧ s.l.c = s.v.c) = z4 at *
  generalize num s.l.s = z5 at *
  unfold Stt.av nvc at g49
  unfold Vw.av at g40 g54
  unfold tms at g44
  unfold vec at g53
  unfold c22 Se.av
  simp (maxSteps:=1000000) (disch:=omega) only [go_sem, ↓reduceIte, reduceCtorEq]
  first | refine callBE (g49 _) ?_ | refine callDE (g49 _) ?_ | refine callXE (g49 _) ?_
  rintro v1 H1 hx1 ⟨w, rfl, q, oq, cq, rfl, s1⟩
  have b0 := hx1.blk (b := H.length) (by simp only [go_sem, ↓reduceIte, reduceCtorEq]; rfl)
  have hy1 : Ext H H1 := (Ext.app _ _).trans hx1
  have bl0 := blkAt_lt b0
  cases onP s.n.pu with
  | false =>
    simp (maxSteps:=1000000) (disch:=omega) only [go_sem, ↓reduceIte, reduceCtorEq, b0, bl0]
    first | refine callB_intro (g44 _) ?_ | refine callD_intro (g44 _) ?_ | refine callP_intro (fun _ => (g44 _)) ?_ | refine callX_pure (g44 _) ?_
    cases z1 with
    | false =>
      simp (maxSteps:=1000000) (disch:=omega) only [go_sem, ↓reduceIte, reduceCtorEq, b0, bl0]
      refine fin_e (by simp) (by simp (maxSteps:=1000000) (disch:=omega) only [resVal, resAll, resOne, rs22, Env.get, go_sem, ↓reduceIte, reduceCtorEq] <;> rfl) hy1 (by simp)
    | true =>
      simp (maxSteps:=1000000) (disch:=omega) only [go_sem, ↓reduceIte, reduceCtorEq, b0, bl0]
      first | refine callB_intro (g53 _) ?_ | refine callD_intro (g53 _) ?_ | refine callP_intro (fun _ => (g53 _)) ?_ | refine callX_pure (g53 _) ?_
      cases z2 with
      | false =>
        simp (maxSteps:=1000000) (disch:=omega) only [go_sem, ↓reduceIte, reduceCtorEq, b0, bl0]
        refine fin_e (by simp) (by simp (maxSteps:=1000000) (disch:=omega) only [resVal, resAll, resOne, rs22, Env.get, go_sem, ↓reduceIte, reduceCtorEq] <;> rfl) hy1 (by simp)
      | true =>
        simp (maxSteps:=1000000) (disch:=omega) only [go_sem, ↓reduceIte, reduceCtorEq, b0, bl0]
        first | refine callB_intro (g54 _) ?_ | refine callD_intro (g54 _) ?_ | refine callP_intro (fun _ => (g54 _)) ?_ | refine callX_pure (g54 _) ?_
        cases z3 with
        | false =>
          simp (maxSteps:=1000000) (disch:=omega) only [go_sem, ↓reduceIte, reduceCtorEq, b0, bl0]
          refine fin_e (by simp) (by simp (maxSteps:=1000000) (disch:=omega) only [resVal, resAll, resOne, rs22, Env.get, go_sem, ↓reduceIte, reduceCtorEq] <;> rfl) hy1 (by simp)
        | true =>
          cases z4 with
          | false =>
            simp (maxSteps:=1000000) (disch:=omega) only [go_sem, ↓reduceIte, reduceCtorEq, b0, bl0, e4]
            refine fin_e (by simp) (by simp (maxSteps:=1000000) (disch:=omega) only [resVal, resAll, resOne, rs22, Env.get, go_sem, ↓reduceIte, reduceCtorEq] <;> rfl) hy1 (by simp)
          | true =>
            simp (maxSteps:=1000000) (disch:=omega) only [go_sem, ↓reduceIte, reduceCtorEq, b0, bl0, e4]
            first | refine callB_intro (g55 _) ?_ | refine callD_intro (g55 _) ?_ | refine callP_intro (fun _ => (g55 _)) ?_ | refine callX_pure (g55 _) ?_
            cases z5 with
            | false =>
              simp (maxSteps:=1000000) (disch:=omega) only [go_sem, ↓reduceIte, reduceCtorEq, b0, bl0]
              refine fin_e (by simp) (by simp (maxSteps:=1000000) (disch:=omega) only [resVal, resAll, resOne, rs22, Env.get, go_sem, ↓reduceIte, reduceCtorEq] <;> rfl) hy1 (by simp)
            | true =>
              simp (maxSteps:=1000000) (disch:=omega) only [go_sem, ↓reduceIte, reduceCtorEq, b0, bl0]
              refine fin_e (by simp) (by simp (maxSteps:=1000000) (disch:=omega) only [resVal, resAll, resOne, rs22, Env.get, go_sem, ↓reduceIte, reduceCtorEq] <;> rfl) hy1 (by simp)
  | true =>
    by_cases h7 : lastP s.n.pu < 2305843009213693952
    rotate_left
    · rw [decide_eq_false h7]
      simp (maxSteps:=1000000) (disch:=omega) only [go_sem, ↓reduceIte, reduceCtorEq, b0, bl0, h7]
      first | refine callB_intro (g44 _) ?_ | refine callD_intro (g44 _) ?_ | refine callP_intro (fun _ => (g44 _)) ?_ | refine callX_pure (g44 _) ?_
      cases z1 with
      | false =>
        simp (maxSteps:=1000000) (disch:=omega) only [go_sem, ↓reduceIte, reduceCtorEq, b0, bl0]
        refine fin_e (by simp) (by simp (maxSteps:=1000000) (disch:=omega) only [resVal, resAll, resOne, rs22, Env.get, go_sem, ↓reduceIte, reduceCtorEq] <;> rfl) hy1 (by simp)
      | true =>
        simp (maxSteps:=1000000) (disch:=omega) only [go_sem, ↓reduceIte, reduceCtorEq, b0, bl0]
        first | refine callB_intro (g53 _) ?_ | refine callD_intro (g53 _) ?_ | refine callP_intro (fun _ => (g53 _)) ?_ | refine callX_pure (g53 _) ?_
        cases z2 with
        | false =>
          simp (maxSteps:=1000000) (disch:=omega) only [go_sem, ↓reduceIte, reduceCtorEq, b0, bl0]
          refine fin_e (by simp) (by simp (maxSteps:=1000000) (disch:=omega) only [resVal, resAll, resOne, rs22, Env.get, go_sem, ↓reduceIte, reduceCtorEq] <;> rfl) hy1 (by simp)
        | true =>
          simp (maxSteps:=1000000) (disch:=omega) only [go_sem, ↓reduceIte, reduceCtorEq, b0, bl0]
          first | refine callB_intro (g54 _) ?_ | refine callD_intro (g54 _) ?_ | refine callP_intro (fun _ => (g54 _)) ?_ | refine callX_pure (g54 _) ?_
          cases z3 with
          | false =>
            simp (maxSteps:=1000000) (disch:=omega) only [go_sem, ↓reduceIte, reduceCtorEq, b0, bl0]
            refine fin_e (by simp) (by simp (maxSteps:=1000000) (disch:=omega) only [resVal, resAll, resOne, rs22, Env.get, go_sem, ↓reduceIte, reduceCtorEq] <;> rfl) hy1 (by simp)
          | true =>
            cases z4 with
            | false =>
              simp (maxSteps:=1000000) (disch:=omega) only [go_sem, ↓reduceIte, reduceCtorEq, b0, bl0, e4]
              refine fin_e (by simp) (by simp (maxSteps:=1000000) (disch:=omega) only [resVal, resAll, resOne, rs22, Env.get, go_sem, ↓reduceIte, reduceCtorEq] <;> rfl) hy1 (by simp)
            | true =>
              simp (maxSteps:=1000000) (disch:=omega) only [go_sem, ↓reduceIte, reduceCtorEq, b0, bl0, e4]
              first | refine callB_intro (g55 _) ?_ | refine callD_intro (g55 _) ?_ | refine callP_intro (fun _ => (g55 _)) ?_ | refine callX_pure (g55 _) ?_
              cases z5 with
              | false =>
                simp (maxSteps:=1000000) (disch:=omega) only [go_sem, ↓reduceIte, reduceCtorEq, b0, bl0]
                refine fin_e (by simp) (by simp (maxSteps:=1000000) (disch:=omega) only [resVal, resAll, resOne, rs22, Env.get, go_sem, ↓reduceIte, reduceCtorEq] <;> rfl) hy1 (by simp)
              | true =>
                simp (maxSteps:=1000000) (disch:=omega) only [go_sem, ↓reduceIte, reduceCtorEq, b0, bl0]
                refine fin_e (by simp) (by simp (maxSteps:=1000000) (disch:=omega) only [resVal, resAll, resOne, rs22, Env.get, go_sem, ↓reduceIte, reduceCtorEq] <;> rfl) hy1 (by simp)
    rw [decide_eq_true h7]
    simp (maxSteps:=1000000) (disch:=omega) only [go_sem, ↓reduceIte, reduceCtorEq, b0, bl0, h7]
    first | refine callBE (g40 _) ?_ | refine callDE (g40 _) ?_ | refine callXE (g40 _) ?_
    rintro v2 H2 hx2 ⟨q2, oq2, cq2, rfl, s2⟩
    replace b0 := hx2.blk b0
    replace bl0 := blkAt_lt b0
    have hy2 := hy1.trans hx2
    have g52 := f52 (c1 := cq) (c2 := cq2) (hx2.sl s1) s2 (by omega)
    generalize decide (rdP s.n.pu = s.v.ws) = z8 at *
    simp (maxSteps:=1000000) (disch:=omega) only [go_sem, ↓reduceIte, reduceCtorEq]
    first | refine callB_intro (g52) ?_ | refine callD_intro (g52) ?_ | refine callP_intro (fun _ => (g52)) ?_ | refine callX_pure (g52) ?_
    simp (maxSteps:=1000000) (disch:=omega) only [go_sem, ↓reduceIte, reduceCtorEq, b0, bl0]
    first | refine callB_intro (g44 _) ?_ | refine callD_intro (g44 _) ?_ | refine callP_intro (fun _ => (g44 _)) ?_ | refine callX_pure (g44 _) ?_
    cases z1 with
    | false =>
      simp (maxSteps:=1000000) (disch:=omega) only [go_sem, ↓reduceIte, reduceCtorEq, b0, bl0]
      refine fin_e (by simp) (by simp (maxSteps:=1000000) (disch:=omega) only [resVal, resAll, resOne, rs22, Env.get, go_sem, ↓reduceIte, reduceCtorEq] <;> rfl) hy2 (by simp)
    | true =>
      simp (maxSteps:=1000000) (disch:=omega) only [go_sem, ↓reduceIte, reduceCtorEq, b0, bl0]
      first | refine callB_intro (g53 _) ?_ | refine callD_intro (g53 _) ?_ | refine callP_intro (fun _ => (g53 _)) ?_ | refine callX_pure (g53 _) ?_
      cases z2 with
      | false =>
        simp (maxSteps:=1000000) (disch:=omega) only [go_sem, ↓reduceIte, reduceCtorEq, b0, bl0]
        refine fin_e (by simp) (by simp (maxSteps:=1000000) (disch:=omega) only [resVal, resAll, resOne, rs22, Env.get, go_sem, ↓reduceIte, reduceCtorEq] <;> rfl) hy2 (by simp)
      | true =>
        simp (maxSteps:=1000000) (disch:=omega) only [go_sem, ↓reduceIte, reduceCtorEq, b0, bl0]
        first | refine callB_intro (g54 _) ?_ | refine callD_intro (g54 _) ?_ | refine callP_intro (fun _ => (g54 _)) ?_ | refine callX_pure (g54 _) ?_
        cases z3 with
        | false =>
          simp (maxSteps:=1000000) (disch:=omega) only [go_sem, ↓reduceIte, reduceCtorEq, b0, bl0]
          refine fin_e (by simp) (by simp (maxSteps:=1000000) (disch:=omega) only [resVal, resAll, resOne, rs22, Env.get, go_sem, ↓reduceIte, reduceCtorEq] <;> rfl) hy2 (by simp)
        | true =>
          cases z4 with
          | false =>
            simp (maxSteps:=1000000) (disch:=omega) only [go_sem, ↓reduceIte, reduceCtorEq, b0, bl0, e4]
            refine fin_e (by simp) (by simp (maxSteps:=1000000) (disch:=omega) only [resVal, resAll, resOne, rs22, Env.get, go_sem, ↓reduceIte, reduceCtorEq] <;> rfl) hy2 (by simp)
          | true =>
            simp (maxSteps:=1000000) (disch:=omega) only [go_sem, ↓reduceIte, reduceCtorEq, b0, bl0, e4]
            first | refine callB_intro (g55 _) ?_ | refine callD_intro (g55 _) ?_ | refine callP_intro (fun _ => (g55 _)) ?_ | refine callX_pure (g55 _) ?_
            cases z5 with
            | false =>
              simp (maxSteps:=1000000) (disch:=omega) only [go_sem, ↓reduceIte, reduceCtorEq, b0, bl0]
              refine fin_e (by simp) (by simp (maxSteps:=1000000) (disch:=omega) only [resVal, resAll, resOne, rs22, Env.get, go_sem, ↓reduceIte, reduceCtorEq] <;> rfl) hy2 (by simp)
            | true =>
              simp (maxSteps:=1000000) (disch:=omega) only [go_sem, ↓reduceIte, reduceCtorEq, b0, bl0]
              refine fin_e (by simp) (by simp (maxSteps:=1000000) (disch:=omega) only [resVal, resAll, resOne, rs22, Env.get, go_sem, ↓reduceIte, reduceCtorEq] <;> rfl) hy2 (by simp)

def exT : Tm := ⟨5, 8, 20, 10, 16777216⟩
theorem emptyN : nwP (([], 0), ([], 0)) = -1 := nw_f (wh_zero _) (wh_zero _)
theorem newN_is : rdP newN = frV.ws ∧ onP newN = true ∧ lastP newN = 1 := by
  have e : lastP (([], 0), ([], 0)) = 0 := by simp [lastP, emptyN]
  obtain ⟨h1, h2, h3⟩ := torn_full (q := (([], 0), ([], 0))) (us := frV.ws) (d := 13) (show 10 ≤ 600 by decide) (by rw [e]; decide) (show (10 : Int) + 3 ≤ 13 by decide)
  rw [e] at h3
  exact ⟨h1, h2, h3⟩
theorem newP_eq (t : Tm) : newP t = ⟨t, newN, frV, ⟨0, 0, t.b⟩, ⟨0, 0, 0, 0, false⟩⟩ := by
  unfold newP resetP
  simp only [newN_is.1, view_ws fr_ok]
  rfl
theorem newP_right {t : Tm} (h : t.ok = true) : rightP (newP t) = true := by
  obtain ⟨-, -, h3, h4, -⟩ := Tm.out h
  obtain ⟨n1, n2, n3⟩ := newN_is
  have hc : (Ck.mk 0 0 t.b).ok = true := by
    show rightL 0 0 t.b = true
    exact decide_eq_true (by omega)
  rw [newP_eq, right_eq]
  simp only [h, hc, fr_ok, n1, n2, n3, Bool.true_and]
  simp [frV, num]
theorem exT_ok : exT.ok = true := by decide
def exV : Vw := ⟨1, 1, 0, 5, -1, 0, 0, 0, 0, 0⟩
def exH : Hd := ⟨exV, ⟨28, 33, 8⟩, ⟨0, 0, 0, 0, true⟩, some [0, 5, 1, 1, 5, 0, -1, 1], false, true⟩
theorem ex_hears : hearsP exT frV ⟨28, 0, 8⟩ ⟨0, 0, 0, 0, true⟩ 1 [0, 5, 1] = some exH := by decide
theorem ex_tick : tickP (newP exT) 28 = ⟨exT, newN, frV, ⟨28, 0, 8⟩, ⟨0, 0, 0, 0, true⟩⟩ := by
  rw [newP_eq]
  rfl
theorem ex_right : rightP (tickP (newP exT) 28) = true := by
  obtain ⟨n1, n2, n3⟩ := newN_is
  rw [ex_tick, right_eq]
  simp only [exT_ok, fr_ok, n1, n2, n3, Bool.true_and]
  decide
def exP : PSe := ⟨exT, tornP newN exV.ws 13, exV, ⟨28, 33, 8⟩, ⟨0, 0, 0, 0, true⟩⟩
theorem ex_hear : hearP (tickP (newP exT) 28) 1 [0, 5, 1] = (exP, some [0, 5, 1, 1, 5, 0, -1, 1], false) := by
  unfold hearP
  rw [ex_tick]
  simp only [ex_hears]
  rfl
theorem exP_right : rightP exP = true := by
  obtain ⟨n1, n2, n3⟩ := newN_is
  obtain ⟨h1, h2, h3⟩ := torn_full (q := newN) (us := exV.ws) (d := 13) (show 10 ≤ 600 by decide) (by rw [n3]; decide) (show (10 : Int) + 3 ≤ 13 by decide)
  rw [right_eq]
  unfold exP
  simp only [h1, h2, h3, n3, exT_ok, Bool.true_and]
  decide
theorem f8 (H : Heap) : ACallE Try.prog 8 [] H fun v H' => v = .bool true := by
  refine acallE (fun v Hf h => acallK8 (by simp) h) (acs_start ?_)
  have g25 := f25
  have g19 := fun H => f19 (t := exT) (H := H) exT_ok
  rw [show exT.av = [.int .i64 5, .int .i64 8, .int .i64 20, .int .i64 10, .int .i64 16777216] from rfl] at g19
  unfold tms at g25
  unfold c8
  simp (maxSteps:=1000000) (disch:=omega) only [go_sem, ↓reduceIte, reduceCtorEq]
  first | refine callB_intro (g25 _) ?_ | refine callD_intro (g25 _) ?_ | refine callP_intro (fun _ => (g25 _)) ?_ | refine callX_pure (g25 _) ?_
  simp (maxSteps:=1000000) (disch:=omega) only [go_sem, ↓reduceIte, reduceCtorEq]
  first | refine callBE (g19 _) ?_ | refine callDE (g19 _) ?_ | refine callXE (g19 _) ?_
  rintro v1 H1 hx1 ⟨w, rfl, s, rfl, k1, e1⟩
  have a1 := s.len
  have a2 := s.all
  have a3 := s.take
  have eq : s.pl = ⟨exT, newN, frV, ⟨0, 0, 8⟩, ⟨0, 0, 0, 0, false⟩⟩ := by rw [e1, newP_eq]; rfl
  have ec : s.c = ⟨0, 0, 8⟩ := congrArg PSe.c eq
  have el : s.l = ⟨0, 0, 0, 0, false⟩ := congrArg PSe.l eq
  have et : s.t = exT := congrArg PSe.t eq
  have g20 := fun K => f20 (s := s) (k := 28) (k1.app K) (by rw [ec]; decide) (by rw [el]; decide) (by rw [et]; decide)
  have e2 : (Se.mk s.t s.n s.v ⟨tick s.c.n 28, s.c.u, s.c.q⟩ ⟨s.l.a, s.l.b, s.l.c, s.l.s, s.l.o || decide (s.l.s + s.t.d ≤ tick s.c.n 28)⟩).pl = tickP (newP exT) 28 := by
    rw [← e1]
    rfl
  have kS : (Se.mk s.t s.n s.v ⟨tick s.c.n 28, s.c.u, s.c.q⟩ ⟨s.l.a, s.l.b, s.l.c, s.l.s, s.l.o || decide (s.l.s + s.t.d ≤ tick s.c.n 28)⟩).n.ok H1 := k1
  generalize Se.mk s.t s.n s.v ⟨tick s.c.n 28, s.c.u, s.c.q⟩ ⟨s.l.a, s.l.b, s.l.c, s.l.s, s.l.o || decide (s.l.s + s.t.d ≤ tick s.c.n 28)⟩ = S2 at *
  simp (maxSteps:=1000000) (disch:=omega) only [go_sem, ↓reduceIte, reduceCtorEq, a1, a2, a3]
  first | refine callB_intro (g20 _) ?_ | refine callD_intro (g20 _) ?_ | refine callP_intro (fun _ => (g20 _)) ?_ | refine callX_pure (g20 _) ?_
  simp (maxSteps:=1000000) (disch:=omega) only [go_sem, ↓reduceIte, reduceCtorEq]
  first | refine callBE (ACallE.frame (b := H1.length) (by simp only [go_sem, ↓reduceIte, reduceCtorEq]; rfl) rfl (f12 (s := S2) (k := 1) (ns := [0, 5, 1]) (p := H1.length + 1) (off := 0) (cp := some 3) (kS.app_set (by omega) none) (Sl.set (Sl.whole (o := true) (by simp only [go_sem, ↓reduceIte, reduceCtorEq]; rfl)) (by omega) none) (by rw [e2]; exact ex_right))) ?_ | refine callDE (ACallE.frame (b := H1.length) (by simp only [go_sem, ↓reduceIte, reduceCtorEq]; rfl) rfl (f12 (s := S2) (k := 1) (ns := [0, 5, 1]) (p := H1.length + 1) (off := 0) (cp := some 3) (kS.app_set (by omega) none) (Sl.set (Sl.whole (o := true) (by simp only [go_sem, ↓reduceIte, reduceCtorEq]; rfl)) (by omega) none) (by rw [e2]; exact ex_right))) ?_ | refine callXE (ACallE.frame (b := H1.length) (by simp only [go_sem, ↓reduceIte, reduceCtorEq]; rfl) rfl (f12 (s := S2) (k := 1) (ns := [0, 5, 1]) (p := H1.length + 1) (off := 0) (cp := some 3) (kS.app_set (by omega) none) (Sl.set (Sl.whole (o := true) (by simp only [go_sem, ↓reduceIte, reduceCtorEq]; rfl)) (by omega) none) (by rw [e2]; exact ex_right))) ?_
  rintro v2 H2 hx2 ⟨bB, S', an, rfl, k2, e3, h2⟩
  rw [e2, ex_hear] at e3 h2 ⊢
  obtain ⟨q, p, c, d, o, rfl, h5, h6⟩ := h2
  simp only at e3
  have bl := blkAt_lt bB
  have w1 := S'.len
  have w2 := S'.all
  have w3 := S'.take
  have ev : S'.v = exV := congrArg PSe.v e3
  have x9 : S'.av[9]? = some (.int .i64 1) := by show some (AV.int .i64 S'.v.g) = _; rw [ev]; rfl
  have x10 : S'.av[10]? = some (.int .i64 1) := by show some (AV.int .i64 S'.v.e) = _; rw [ev]; rfl
  have x11 : S'.av[11]? = some (.int .i64 0) := by show some (AV.int .i64 S'.v.u) = _; rw [ev]; rfl
  have x12 : S'.av[12]? = some (.int .i64 5) := by show some (AV.int .i64 S'.v.i) = _; rw [ev]; rfl
  have h5' := fun x => Sub.hid (x := x) _ _ h5
  have hql := blkAt_lt h5
  rw [List.length_set] at hql
  have g22 := fun x => f22 (s := S') (H := H2.set H1.length x) (Sub.hid.ok k2)
  rw [e3, exP_right] at g22
  have a4 : List.drop 27 s.av = [] := rfl
  simp (maxSteps:=1000000) (disch:=omega) only [go_sem, ↓reduceIte, reduceCtorEq, bB, bl, a1, a2, a3, a4, List.append_nil, Nat.le_refl, w1, w2, w3, x9, x10, x11, x12, h5', hql, blkAt_set_self, List.length_set]
  first | refine callBE (g22 _) ?_ | refine callDE (g22 _) ?_ | refine callXE (g22 _) ?_
  rintro v3 H3 hx3 rfl
  simp (maxSteps:=1000000) (disch:=omega) only [go_sem, ↓reduceIte, reduceCtorEq]
  refine fin_e (by simp) (by simp (maxSteps:=1000000) (disch:=omega) only [resVal, resAll, resOne, rs8, Env.get, go_sem, ↓reduceIte, reduceCtorEq] <;> rfl) (((hx1.trans ((Ext.app _ _).trans hx2)).set (by have := hx1.len; omega) _).trans hx3) rfl

theorem hear_some {s : PSe} {k : Int} {n : List Int} {h : Hd} (e : hearsP s.t s.v s.c s.l k n = some h) : hearP s k n = (⟨s.t, if h.st = true then tornP s.n h.v.ws 13 else s.n, h.v, h.c, h.l⟩, h.ans, h.took) := by
  unfold hearP
  rw [e]
theorem hear_none {s : PSe} {k : Int} {n : List Int} (e : hearsP s.t s.v s.c s.l k n = none) : hearP s k n = (s, none, false) := by
  unfold hearP
  rw [e]

theorem out_some {t : Tm} {v : Vw} {c : Ck} {l : La} {x y g e m a b d : Int} {h : Hd} (hv : v.ok = true) (e1 : outP t v c l x y g e m a b d = some h) :
    0 ≤ v.u ∧ x = v.u ∧ y = v.i ∧ g = v.g ∧ e = v.e ∧ v.l < m ∧ m ≤ 4611686018427387904 ∧ (BQ a ∧ BQ b ∧ BQ d) ∧ h = ⟨{ v with l := m, a := mv1 l.a a t.e, b := mv1 l.b b t.e, c := mv1 l.c d t.e }, c, ⟨mv1 l.a a t.e, mv1 l.b b t.e, mv1 l.c d t.e, c.n, false⟩, none, true, true⟩ := by
  obtain ⟨v1, v2, v3, v4, v5, v6, v7, v8, v9, v10, v11, v12, v13, v14, -⟩ := Vw.out hv
  unfold outP at e1
  split at e1
  · next hc =>
    obtain ⟨h1, h2, h3, h4, h5, h6, h7, h8⟩ := hc
    have h1 := of_decide_eq_true (show decide _ = true from h1)
    cases e1
    exact ⟨by omega, h1.2.1, h1.2.2, h2, h3, h4, h5, ⟨h6, h7, h8⟩, rfl⟩
  · cases e1

theorem how_mst {w n u q : Int} {m s : Bool} (h : how w n u q m s = 1 ∨ how w n u q m s = 2) : m = true := by
  unfold how at h
  cases m with
  | true => rfl
  | false =>
    simp only [Bool.false_eq_true, ↓reduceIte] at h
    split at h
    · omega
    · split at h
      · omega
      · split at h
        · omega
        · split at h <;> omega
theorem ask_some {t : Tm} {v : Vw} {c : Ck} {l : La} {x y z : Int} {h : Hd} (e : askP t v c l x y z = some h) :
    ∃ k : Int, (k = 1 ∨ k = 2 ∨ k = 3 ∨ k = 4) ∧ h = ⟨askV k v x y, ⟨c.n, c.n + t.a, c.q⟩, l, some (ansP (askV k v x y) x y t.a z), false, decide (1 < k)⟩ ∧
      ((k = 1 ∨ k = 2) → x = v.u ∧ y = v.i) ∧ (1 < k → v.e ≠ 4611686018427387904) ∧ (k = 4 → v.g ≠ 4611686018427387904) ∧ 0 ≤ x ∧ x ≤ 1 ∧ 0 ≤ y ∧ y ≤ 4611686018427387904 := by
  have hi := how_in t.c c.n c.u c.q (mst v x y) (stp2 v x y)
  have hm := @how_mst t.c c.n c.u c.q (mst v x y) (stp2 v x y)
  unfold askP at e
  generalize how t.c c.n c.u c.q (mst v x y) (stp2 v x y) = k at *
  split at e
  · next h1 =>
    split at e
    · cases e
    · next h2 =>
      cases e
      obtain ⟨h3, h4, h5, h6⟩ := h1
      have h5 := of_decide_eq_true (show decide _ = true from h5)
      refine ⟨k, by omega, rfl, fun hk => ?_, fun hk he => h2 (.inr (.inl ⟨hk, he⟩)), fun hk he => h2 (.inr (.inr ⟨hk, he⟩)), h3, h4, h5.1, h5.2⟩
      exact (of_decide_eq_true (show decide _ = true from hm hk)).2
  · cases e

theorem mv1_in {a b s : Int} (ha : BQ a) (hb : BQ b) (hs : SQ s) : BQ (mv1 a b s) ∧ farQ a (mv1 a b s) s = false := by
  unfold farQ
  have h : -70368744177664 ≤ mv1 a b s ∧ mv1 a b s ≤ 70368744177663 ∧ a ≤ mv1 a b s + s ∧ mv1 a b s ≤ a + s := by
    unfold BQ SQ at *
    unfold mv1 imin imax
    repeat' split
    all_goals omega
  exact ⟨⟨h.1, h.2.1⟩, decide_eq_false (by omega)⟩
theorem far_same {a s : Int} (hs : SQ s) : farQ a a s = false := by
  unfold SQ at hs
  unfold farQ
  exact decide_eq_false (by omega)
def NearV (s : Int) (v v' : Vw) : Prop := farQ v.a v'.a s = false ∧ farQ v.b v'.b s = false ∧ farQ v.c v'.c s = false
theorem NearV.same {s : Int} (hs : SQ s) {v v' : Vw} (ha : v'.a = v.a) (hb : v'.b = v.b) (hc : v'.c = v.c) : NearV s v v' := by
  unfold NearV
  rw [ha, hb, hc]
  exact ⟨far_same hs, far_same hs, far_same hs⟩
theorem sync_some {v : Vw} {c : Ck} {l : La} {x y e q o : Int} {h : Hd} (e1 : syncP v c l x y e q o = some h) :
    -1 ≤ o ∧ o ≤ 4611686018427387904 ∧ h = ⟨syncV v q o, c, l, some (ansP (syncV v q o) x y (imax (c.u - c.n) 0) 0), false, decide (v.q < q ∧ q ≤ 4611686018427387904)⟩ := by
  unfold syncP at e1
  split at e1
  · next h1 =>
    cases e1
    exact ⟨h1.2.2.1, h1.2.2.2, rfl⟩
  · cases e1
theorem Vw.mk_ok {v : Vw} (h : 0 ≤ v.g ∧ v.g ≤ 4611686018427387904 ∧ 0 ≤ v.e ∧ v.e ≤ 4611686018427387904 ∧ 0 ≤ v.i ∧ v.i ≤ 4611686018427387904 ∧ 0 ≤ v.q ∧ v.q ≤ 4611686018427387904 ∧ 0 ≤ v.l ∧ v.l ≤ 4611686018427387904 ∧ -1 ≤ v.u ∧ v.u ≤ 1 ∧ -1 ≤ v.y ∧ v.y ≤ 4611686018427387904 ∧ BQ v.a ∧ BQ v.b ∧ BQ v.c) : v.ok = true := decide_eq_true h
structure Fine (w : PSe) (n : List Int) (h : Hd) : Prop where
  v : h.v.ok = true
  c : h.c.ok = true
  cn : h.c.n = w.c.n
  at_ : h.l.a = h.v.a ∧ h.l.b = h.v.b ∧ h.l.c = h.v.c
  s : 0 ≤ h.l.s ∧ h.l.s ≤ 4611686018427387904
  st : h.st = false → h.v = w.v
  e : w.v.e ≤ h.v.e
  ee : w.v.e = h.v.e → h.v.u = w.v.u ∧ h.v.i = w.v.i ∧ h.v.g = w.v.g
  g : w.v.g ≤ h.v.g
  gl : w.v.g = h.v.g → w.v.l ≤ h.v.l
  near : NearV w.t.e w.v h.v
  took : h.took = true → ∃ x y g e m a b d, n = [x, y, g, e, m, a, b, d] ∧ h.v.l = m ∧ w.v.l < m ∧ h.v.g = w.v.g ∧ h.l = ⟨mv1 w.l.a a w.t.e, mv1 w.l.b b w.t.e, mv1 w.l.c d w.t.e, w.c.n, false⟩ ∧ BQ a ∧ BQ b ∧ BQ d
theorem hears_fine {w : PSe} {k : Int} {n : List Int} {h : Hd} (hr : rightP w = true) (hc : w.c.n ≤ 2305843009213693952) (e : hearsP w.t w.v w.c w.l k n = some h) : Fine w n h := by
  obtain ⟨ht, hcc, hv, ⟨la, lb, lc⟩, ⟨ls1, ls2⟩, -⟩ := right_out hr
  have T := Tm.out ht
  have C := Ck.out hcc
  have V := Vw.out hv
  have hs : SQ w.t.e := by unfold SQ; omega
  obtain ⟨V1, V2, V3, V4, V5, V6, V7, V8, V9, V10, V11, V12, V13, V14, Va, Vb, Vc⟩ := V
  unfold hearsP at e
  split at e
  · split at e
    · obtain ⟨j, hj, rfl, h1, h2, h3, h4, h5, h6, h7⟩ := ask_some e
      have hck : (Ck.mk w.c.n (w.c.n + w.t.a) w.c.q).ok = true := show rightL w.c.n (w.c.n + w.t.a) w.c.q = true from decide_eq_true (by omega)
      rcases hj with rfl | rfl | rfl | rfl
      · exact ⟨hv, hck, rfl, ⟨la, lb, lc⟩, ⟨ls1, ls2⟩, fun _ => rfl, Int.le_refl _, fun _ => ⟨rfl, rfl, rfl⟩, Int.le_refl _, fun _ => Int.le_refl _, .same hs rfl rfl rfl, fun h => (by cases h)⟩
      · have he := h2 (by omega)
        refine ⟨Vw.mk_ok ⟨V1, V2, by show 0 ≤ w.v.e + 1; omega, by show w.v.e + 1 ≤ _; omega, V5, V6, by show (0 : Int) ≤ 0; omega, by show (0 : Int) ≤ _; omega, V9, V10, V11, V12, V13, V14, Va, Vb, Vc⟩, hck, rfl, ⟨la, lb, lc⟩, ⟨ls1, ls2⟩, fun h => (by cases h), by show w.v.e ≤ w.v.e + 1; omega, fun h => ?_, Int.le_refl _, fun _ => Int.le_refl _, .same hs rfl rfl rfl, fun h => (by cases h)⟩
        have h : w.v.e = w.v.e + 1 := h
        omega
      · have he := h2 (by omega)
        refine ⟨Vw.mk_ok ⟨V1, V2, by show 0 ≤ w.v.e + 1; omega, by show w.v.e + 1 ≤ _; omega, h6, h7, by show (0 : Int) ≤ 0; omega, by show (0 : Int) ≤ _; omega, V9, V10, by show -1 ≤ _; exact Int.le_trans (by decide) h4, h5, by show (-1 : Int) ≤ -1; omega, by show (-1 : Int) ≤ _; omega, Va, Vb, Vc⟩, hck, rfl, ⟨la, lb, lc⟩, ⟨ls1, ls2⟩, fun h => (by cases h), by show w.v.e ≤ w.v.e + 1; omega, fun h => ?_, Int.le_refl _, fun _ => Int.le_refl _, .same hs rfl rfl rfl, fun h => (by cases h)⟩
        have h : w.v.e = w.v.e + 1 := h
        omega
      · have he := h2 (by omega)
        have hg := h3 rfl
        refine ⟨Vw.mk_ok ⟨by show 0 ≤ w.v.g + 1; omega, by show w.v.g + 1 ≤ _; omega, by show 0 ≤ w.v.e + 1; omega, by show w.v.e + 1 ≤ _; omega, h6, h7, by show (0 : Int) ≤ 0; omega, by show (0 : Int) ≤ _; omega, by show (0 : Int) ≤ 0; omega, by show (0 : Int) ≤ _; omega, by show -1 ≤ _; exact Int.le_trans (by decide) h4, h5, by show (-1 : Int) ≤ -1; omega, by show (-1 : Int) ≤ _; omega, Va, Vb, Vc⟩, hck, rfl, ⟨la, lb, lc⟩, ⟨ls1, ls2⟩, fun h => (by cases h), by show w.v.e ≤ w.v.e + 1; omega, fun h => ?_, by show w.v.g ≤ w.v.g + 1; omega, fun h => ?_, .same hs rfl rfl rfl, fun h => (by cases h)⟩
        · have h : w.v.e = w.v.e + 1 := h
          omega
        · have h : w.v.g = w.v.g + 1 := h
          omega
    · cases e
  · split at e
    · obtain ⟨h1, h2, rfl⟩ := sync_some e
      rename_i x y e' q o hk4
      by_cases hq : w.v.q < q ∧ q ≤ 4611686018427387904
      · have ev : syncV w.v q o = { w.v with q := q, y := o } := if_pos hq
        rw [ev]
        exact ⟨Vw.mk_ok ⟨V1, V2, V3, V4, V5, V6, by show 0 ≤ q; omega, hq.2, V9, V10, V11, V12, h1, h2, Va, Vb, Vc⟩, hcc, rfl, ⟨la, lb, lc⟩, ⟨ls1, ls2⟩, fun h => (by have := of_decide_eq_false h; exact absurd hq this), Int.le_refl _, fun _ => ⟨rfl, rfl, rfl⟩, Int.le_refl _, fun _ => Int.le_refl _, .same hs rfl rfl rfl, fun h => (by cases h)⟩
      · have ev : syncV w.v q o = w.v := if_neg hq
        rw [ev]
        exact ⟨hv, hcc, rfl, ⟨la, lb, lc⟩, ⟨ls1, ls2⟩, fun _ => rfl, Int.le_refl _, fun _ => ⟨rfl, rfl, rfl⟩, Int.le_refl _, fun _ => Int.le_refl _, .same hs rfl rfl rfl, fun h => (by cases h)⟩
    · cases e
  · split at e
    · obtain ⟨h1, h2, h3, h4, h5, h6, h7, ⟨h8, h9, h10⟩, rfl⟩ := out_some hv e
      obtain ⟨A1, A2⟩ := mv1_in (show BQ w.l.a by rw [la]; exact Va) h8 hs
      obtain ⟨B1, B2⟩ := mv1_in (show BQ w.l.b by rw [lb]; exact Vb) h9 hs
      obtain ⟨C1, C2⟩ := mv1_in (show BQ w.l.c by rw [lc]; exact Vc) h10 hs
      rw [la] at A2
      rw [lb] at B2
      rw [lc] at C2
      exact ⟨Vw.mk_ok ⟨V1, V2, V3, V4, V5, V6, V7, V8, Int.le_trans V9 (Int.le_of_lt h6), h7, V11, V12, V13, V14, A1, B1, C1⟩, hcc, rfl, ⟨rfl, rfl, rfl⟩, ⟨C.1, C.2.1⟩, fun h => (by cases h), Int.le_refl _, fun _ => ⟨rfl, rfl, rfl⟩, Int.le_refl _, fun _ => Int.le_of_lt h6, ⟨by rw [← la] at A2 ⊢; exact A2, by rw [← lb] at B2 ⊢; exact B2, by rw [← lc] at C2 ⊢; exact C2⟩, fun _ => ⟨_, _, _, _, _, _, _, _, rfl, rfl, h6, rfl, rfl, h8, h9, h10⟩⟩
    · cases e
  · cases e
structure Good (w r : PSe) : Prop where
  t : r.t = w.t
  right : rightP r = true
  last : lastP r.n ≤ lastP w.n + 1
  cn : r.c.n ≤ 2305843009213693952
  e : w.v.e ≤ r.v.e
  ee : r.v.e = w.v.e → r.v.u = w.v.u ∧ r.v.i = w.v.i ∧ r.v.g = w.v.g
  g : w.v.g ≤ r.v.g
  gl : r.v.g = w.v.g → w.v.l ≤ r.v.l
  near : farQ w.l.a r.l.a w.t.e = false ∧ farQ w.l.b r.l.b w.t.e = false ∧ farQ w.l.c r.l.c w.t.e = false
theorem right_mk {s : PSe} (h1 : s.t.ok = true) (h2 : s.c.ok = true) (h3 : s.v.ok = true) (h4 : s.l.a = s.v.a ∧ s.l.b = s.v.b ∧ s.l.c = s.v.c) (h5 : 0 ≤ s.l.s ∧ s.l.s ≤ 4611686018427387904) (h6 : onP s.n = true) (h7 : lastP s.n < 2305843009213693952) (h8 : rdP s.n = s.v.ws) : rightP s = true := by
  unfold rightP
  rw [h1, h2, h3, h6, h8, decide_eq_true h4, decide_eq_true h5, decide_eq_true h7]
  simp
theorem reset_of {w : PSe} {n : Pu} {v : Vw} (hr : rightP w = true) (hv : v.ok = true) (h6 : onP n = true) (h7 : lastP n < 2305843009213693952) (h8 : rdP n = v.ws) (h9 : lastP n ≤ lastP w.n + 1) (e : w.v.e ≤ v.e) (ee : w.v.e = v.e → v.u = w.v.u ∧ v.i = w.v.i ∧ v.g = w.v.g) (g : w.v.g ≤ v.g) (gl : w.v.g = v.g → w.v.l ≤ v.l) (near : NearV w.t.e w.v v) : Good w (resetP { w with n := n }) := by
  obtain ⟨ht, hcc, hwv, ⟨la, lb, lc⟩, -⟩ := right_out hr
  have T := Tm.out ht
  have er : resetP { w with n := n } = ⟨w.t, n, v, ⟨0, 0, w.t.b⟩, ⟨v.a, v.b, v.c, 0, false⟩⟩ := by
    unfold resetP
    simp only
    rw [h8, view_ws hv]
  rw [er]
  have hck : (Ck.mk 0 0 w.t.b).ok = true := show rightL 0 0 w.t.b = true from decide_eq_true (by omega)
  exact ⟨rfl, right_mk ht hck hv ⟨rfl, rfl, rfl⟩ ⟨by show (0 : Int) ≤ 0; omega, by show (0 : Int) ≤ _; omega⟩ h6 h7 h8, h9, by show (0 : Int) ≤ _; omega, e, fun h => ee h.symm, g, fun h => gl h.symm, by rw [la, lb, lc]; exact near⟩
theorem reset_good {w : PSe} (hr : rightP w = true) : Good w (resetP w) := by
  obtain ⟨ht, hcc, hwv, hl, hs, h6, h7, h8⟩ := right_out hr
  have T := Tm.out ht
  exact reset_of hr hwv h6 h7 h8 (by omega) (Int.le_refl _) (fun _ => ⟨rfl, rfl, rfl⟩) (Int.le_refl _) (fun _ => Int.le_refl _) (.same (by unfold SQ; omega) rfl rfl rfl)
theorem dies_good {w : PSe} {k : Int} {n : List Int} {d : Int} (hr : rightP w = true) (hc : w.c.n ≤ 2305843009213693952) (hl : lastP w.n + 1 < 2305843009213693952) : Good w (diesP w k n d) := by
  obtain ⟨ht, hcc, hwv, hll, hs, h6, h7, h8⟩ := right_out hr
  have T := Tm.out ht
  unfold diesP
  cases e : hearsP w.t w.v w.c w.l k n with
  | none => exact reset_good hr
  | some h =>
    have F := hears_fine hr hc e
    dsimp only
    by_cases hst : h.st = true
    · rw [if_pos hst]
      by_cases hd : (10 : Int) + 3 ≤ d
      · obtain ⟨g1, g2, g3⟩ := torn_full (q := w.n) (us := h.v.ws) (d := d) (show 10 ≤ 600 by decide) (by omega) hd
        exact reset_of hr F.v g2 (by omega) g1 (by omega) F.e F.ee F.g F.gl F.near
      · obtain ⟨g1, g2, g3⟩ := torn_part (q := w.n) (us := h.v.ws) (d := d) hd
        exact reset_of hr hwv (by rw [g2]; exact h6) (by omega) (by rw [g1]; exact h8) (by omega) (Int.le_refl _) (fun _ => ⟨rfl, rfl, rfl⟩) (Int.le_refl _) (fun _ => Int.le_refl _) (.same (by unfold SQ; omega) rfl rfl rfl)
    · rw [if_neg hst]
      exact reset_good hr
theorem same_good {w : PSe} (hr : rightP w = true) (hc : w.c.n ≤ 2305843009213693952) : Good w w := by
  obtain ⟨ht, hcc, hwv, hl, hs, h6, h7, h8⟩ := right_out hr
  have T := Tm.out ht
  have hs : SQ w.t.e := by unfold SQ; omega
  exact ⟨rfl, hr, by omega, hc, Int.le_refl _, fun _ => ⟨rfl, rfl, rfl⟩, Int.le_refl _, fun _ => Int.le_refl _, far_same hs, far_same hs, far_same hs⟩
theorem hear_good {w : PSe} {k : Int} {n : List Int} (hr : rightP w = true) (hc : w.c.n ≤ 2305843009213693952) (hl : lastP w.n + 1 < 2305843009213693952) : Good w (hearP w k n).1 ∧ ((hearP w k n).2.2 = true → ∃ x y g e m a b d, n = [x, y, g, e, m, a, b, d] ∧ (hearP w k n).1.v.l = m ∧ w.v.l < m ∧ (hearP w k n).1.v.g = w.v.g ∧ (hearP w k n).1.l = ⟨mv1 w.l.a a w.t.e, mv1 w.l.b b w.t.e, mv1 w.l.c d w.t.e, w.c.n, false⟩ ∧ BQ a ∧ BQ b ∧ BQ d) := by
  obtain ⟨ht, hcc, hwv, ⟨la, lb, lc⟩, hs, h6, h7, h8⟩ := right_out hr
  have T := Tm.out ht
  cases e : hearsP w.t w.v w.c w.l k n with
  | none =>
    rw [hear_none e]
    exact ⟨same_good hr hc, fun h => (by cases h)⟩
  | some h =>
    have F := hears_fine hr hc e
    rw [hear_some e]
    refine ⟨?_, F.took⟩
    have hn : onP (if h.st = true then tornP w.n h.v.ws 13 else w.n) = true ∧ lastP (if h.st = true then tornP w.n h.v.ws 13 else w.n) ≤ lastP w.n + 1 ∧ rdP (if h.st = true then tornP w.n h.v.ws 13 else w.n) = h.v.ws := by
      by_cases hst : h.st = true
      · rw [if_pos hst]
        obtain ⟨g1, g2, g3⟩ := torn_full (q := w.n) (us := h.v.ws) (d := 13) (show 10 ≤ 600 by decide) (by omega) (show (10 : Int) + 3 ≤ 13 by decide)
        exact ⟨g2, by omega, g1⟩
      · rw [if_neg hst, F.st (by simpa using hst)]
        exact ⟨h6, by omega, h8⟩
    obtain ⟨n1, n2, n3⟩ := hn
    have N := F.near
    unfold NearV at N
    rw [← la, ← lb, ← lc, ← F.at_.1, ← F.at_.2.1, ← F.at_.2.2] at N
    exact ⟨rfl, right_mk ht F.c F.v F.at_ F.s n1 (Int.lt_of_le_of_lt n2 hl) n3, n2, by show h.c.n ≤ _; rw [F.cn]; exact hc, F.e, fun h => F.ee h.symm, F.g, fun h => F.gl h.symm, N⟩
theorem tick_good {w : PSe} {k : Int} (hr : rightP w = true) (hc : w.c.n ≤ 2305843009213693952) : rightP (tickP w k) = true ∧ (tickP w k).c.n ≤ 2305843009213693952 := by
  obtain ⟨ht, hcc, hwv, hll, hs, h6, h7, h8⟩ := right_out hr
  have C := Ck.out hcc
  have h1 : 0 ≤ tick w.c.n k ∧ tick w.c.n k ≤ 2305843009213693952 := by
    unfold tick imax imin
    repeat' split
    all_goals omega
  have hck : (Ck.mk (tick w.c.n k) w.c.u w.c.q).ok = true := show rightL (tick w.c.n k) w.c.u w.c.q = true from decide_eq_true (by omega)
  exact ⟨right_mk ht hck hwv hll hs h6 h7 h8, h1.2⟩

def scHd : SC → SC
  | .seq a _ => a
  | a => a
def scTl : SC → SC
  | .seq _ b => b
  | a => a
section
variable {s : Se} {p off : Nat} {cp : Option Nat} {H : Heap}
end

structure Act where
  n : Int
  k : Int
  p : Nat
  cp : Option Nat
  ns : List Int
  w : Int
  d : Int
def flatA : List Act → List AV
  | [] => []
  | x :: r => .int .i64 x.n :: .int .i64 x.k :: .sl x.p 0 x.ns.length 1 x.cp :: .int .i64 x.w :: .int .i64 x.d :: flatA r
theorem flatA_get : ∀ {l : List Act} {j : Nat} {x : Act} {r : List Act}, l.drop j = x :: r → (flatA l)[j * 5]? = some (.int .i64 x.n) ∧ (flatA l)[j * 5 + 1]? = some (.int .i64 x.k) ∧ (flatA l)[j * 5 + 2]? = some (.sl x.p 0 x.ns.length 1 x.cp) ∧ (flatA l)[j * 5 + 3]? = some (.int .i64 x.w) ∧ (flatA l)[j * 5 + 4]? = some (.int .i64 x.d)
  | [], j, x, r, h => by simp at h
  | y :: l, 0, x, r, h => by
    simp at h
    obtain ⟨rfl, rfl⟩ := h
    exact ⟨rfl, rfl, rfl, rfl, rfl⟩
  | y :: l, j + 1, x, r, h => by
    have := flatA_get (l := l) (j := j) (x := x) (r := r) (by simpa using h)
    rw [show (j + 1) * 5 = j * 5 + 5 by omega]
    exact this
theorem flatA_len (l : List Act) : (flatA l).length = l.length * 5 := by
  induction l with
  | nil => rfl
  | cons x r ih => simp only [flatA, List.length_cons, ih]; omega
theorem flatA_two {l : List Act} {j : Nat} {x : Act} {r : List Act} (h : l.drop j = x :: r) : ((flatA l).drop (j * 5 + 1)).take 2 = [.int .i64 x.k, .sl x.p 0 x.ns.length 1 x.cp] := by
  obtain ⟨-, h1, h2, -⟩ := flatA_get h
  rw [List.drop_eq_getElem_cons (List.getElem?_eq_some_iff.1 h1).1, List.drop_eq_getElem_cons (List.getElem?_eq_some_iff.1 h2).1]
  simp only [List.take_succ_cons, List.take_zero, List.cons.injEq, and_true]
  exact ⟨(List.getElem?_eq_some_iff.1 h1).2, (List.getElem?_eq_some_iff.1 h2).2⟩
def scBl : SC → SC
  | .block _ a => a
  | a => a
def c7B : SC := scBl (scHd (scTl c7l0))
def c7T : SC := scTl (scTl (scTl (scTl (scTl c7B))))
theorem c7l0_eq : c7l0 = .seq (scHd c7l0) (.seq (.block 1 (.seq (scHd (scBl (scHd (scTl c7l0)))) (.seq (scHd (scTl (scBl (scHd (scTl c7l0))))) (.seq (scHd (scTl (scTl (scBl (scHd (scTl c7l0)))))) (.seq (scHd (scTl (scTl (scTl (scBl (scHd (scTl c7l0))))))) (.seq (scHd (scTl (scTl (scTl (scTl (scBl (scHd (scTl c7l0)))))))) c7T)))))) (scTl (scTl c7l0))) := rfl
structure Inv (t : Tm) (j : Nat) (gen k : Int) (q : PSe) : Prop where
  it : q.t = t
  ir : rightP q = true
  il : lastP q.n ≤ 1 + j
  ic : q.c.n ≤ 2305843009213693952
  ig : gen ≤ q.v.g
  ik : gen = q.v.g → k ≤ q.v.l
def e7 (H : Heap) (p L : Nat) (cp : Option Nat) (SB : Nat) (gen k : Int) (j : Nat) : Env := [(1, .sl p 0 L 5 cp), (2, .ptr H.length 0), (5, .bool true), (6, .ptr SB 0), (8, .int .i64 gen), (9, .int .i64 k), (10, .int .i64 j)]
theorem set_setapp {H G : Heap} {q k : Nat} {x y : Option Blk} : (H.set q x ++ G).set (H.length + k) y = H.set q x ++ G.set k y := by
  have := set_app (H.set q x) G k y
  rwa [List.length_set] at this
theorem set_setapp0 {H G : Heap} {q : Nat} {x y : Option Blk} : (H.set q x ++ G).set H.length y = H.set q x ++ G.set 0 y := set_setapp (k := 0)
def c7I : SC := .reg [⟨some 39, .mv, [.r 10], none, [10]⟩, ⟨some 40, .bin .add, [.r 39, .c (.int .i64 1)], none, [39]⟩, ⟨some 10, .mv, [.r 40], none, [40]⟩]
def c7U : SC := scTl (scTl c7T)
theorem c7T_eq : c7T = .seq (scHd c7T) (.seq (scHd (scTl c7T)) c7U) := rfl
def Tk (S1 S2 : Se) (ns : List Int) : Prop := ∃ x y g e m a b d, ns = [x, y, g, e, m, a, b, d] ∧ S2.v.l = m ∧ S1.v.l < m ∧ S2.v.g = S1.v.g ∧ S2.l = ⟨mv1 S1.l.a a S1.t.e, mv1 S1.l.b b S1.t.e, mv1 S1.l.c d S1.t.e, S1.c.n, false⟩ ∧ BQ a ∧ BQ b ∧ BQ d
theorem f7_b {p q L j SB WB : Nat} {cp cq : Option Nat} {o tk : Bool} {l : List Act} {ns : List Int} {gen k : Int} {S1 S2 : Se} {H H3 : Heap} (c7t : SC)
    (hx : Ext H H3) (hj : j < 40) (hjL : j < L) (hL : l.length = L) (b2 : blkAt H3 H.length = some ⟨S1.t.av, true⟩) (bp : blkAt H3 p = some ⟨flatA l, o⟩) (bS : blkAt H3 SB = some ⟨S2.av, true⟩) (bW : blkAt H3 WB = some ⟨S1.av, true⟩)
    (hns : Sl i64 H3 q 0 ns) (f2 : (flatA l)[j * 5 + 2]? = some (.sl q 0 ns.length 1 cq)) (q1 : BQ S1.l.a) (q2 : BQ S1.l.b) (q3 : BQ S1.l.c) (hs : SQ S1.t.e)
    (htk : tk = true → Tk S1 S2 ns)
    (hgen : gen ≤ S1.v.g) (hk : gen = S1.v.g → k ≤ S1.v.l) (G5 : S1.v.g ≤ S2.v.g) (G6 : S2.v.g = S1.v.g → S1.v.l ≤ S2.v.l)
    (next : ∀ (gen' k' : Int) (H4 : Heap), Ext H3 H4 → gen' ≤ S2.v.g → (gen' = S2.v.g → k' ≤ S2.v.l) → acs Try.prog [.lp c7l0, .blk 0, .code c7t] (e7 H p L cp SB gen' k' (j + 1)) H4 (Fin H rs7 (.bool true) H)) :
    acs Try.prog [.code c7U, .blk 1, .code c7I, .lp c7l0, .blk 0, .code c7t] [(1, .sl p 0 L 5 cp), (2, .ptr H.length 0), (5, .bool true), (6, .ptr SB 0), (8, .int .i64 gen), (9, .int .i64 k), (10, .int .i64 j), (11, .ptr WB 0), (12, .bool tk)] H3 (Fin H rs7 (.bool true) H) := by
  have bl2 := blkAt_lt b2
  have blp := blkAt_lt bp
  have blS := blkAt_lt bS
  have blW := blkAt_lt bW
  have fl := flatA_len l
  rw [hL] at fl
  have hjl : (j : Int) < (L : Int) := by omega
  have i1 : -9223372036854775808 ≤ (j : Int) + 1 ∧ (j : Int) + 1 ≤ 9223372036854775807 := by omega
  have ij : ((j + 1 : Nat) : Int) = (j : Int) + 1 := by omega
  unfold Se.av at bS bW
  unfold Tm.av at b2
  conv in Fr.code c7U => unfold c7U c7T c7B c7l0
  unfold c7I
  simp only [scHd, scTl, scBl]
  unfold e7 at next
  rw [ij] at next
  cases tk with
  | false =>
    have nx := next gen k H3 (Ext.refl _) (by omega) (fun h => by
      have h0 := hk (by omega)
      have h1 := G6 (by omega)
      omega)
    clear next htk
    simp (maxSteps:=1000000) (disch:=omega) only [go_sem, ↓reduceIte, reduceCtorEq]
    exact nx
  | true =>
    obtain ⟨x, y, g, e, m, a, b, d, rfl, u1, u2, u3, u4, u5, u6, u7⟩ := htk rfl
    have g24 := fun H => f24 (H := H) q1 q2 q3 u5 u6 u7 hs
    rw [rv1_mv1 hs, rv1_mv1 hs, rv1_mv1 hs] at g24
    have z1 : S2.l.a = mv1 S1.l.a a S1.t.e := congrArg La.a u4
    have z2 : S2.l.b = mv1 S1.l.b b S1.t.e := congrArg La.b u4
    have z3 : S2.l.c = mv1 S1.l.c d S1.t.e := congrArg La.c u4
    have z4 : S2.l.o = false := congrArg La.o u4
    rw [← z1, ← z2, ← z3] at g24
    unfold vec at g24
    have hns2 := hns
    obtain ⟨cs, o', hp, hle, hcs⟩ := hns
    have hpl := blkAt_lt hp
    have y4 := sl_get hcs (j := 4) rfl
    have y5 := sl_get hcs (j := 5) rfl
    have y6 := sl_get hcs (j := 6) rfl
    have y7 := sl_get hcs (j := 7) rfl
    simp only [i64, Nat.zero_add] at y4 y5 y6 y7
    clear z1 z2 z3 u4 hcs hle hns2
    have k1 : ¬ S2.v.g < gen := by omega
    have k2 : gen = S2.v.g → ¬ S2.v.l ≤ k := fun h => by
      have := hk (by omega)
      omega
    have nx := fun G => next S2.v.g S2.v.l (H3 ++ G) (Ext.app _ _) (Int.le_refl _) (fun _ => Int.le_refl _)
    clear next htk
    subst u1
    by_cases k3 : S2.v.g = gen
    · have k4 := k2 k3.symm
      simp (maxSteps:=1000000) (disch:=omega) only [go_sem, ↓reduceIte, reduceCtorEq, b2, bp, bS, bW, bl2, blp, blS, blW, hp, hpl, f2, fl, y4, y5, y6, y7, Int.toNat_natCast, k1, k4, z4, blkAt_lo, hjl, k3, Int.lt_irrefl]
      first | refine callB_intro (g24 _) ?_ | refine callD_intro (g24 _) ?_ | refine callP_intro (fun _ => (g24 _)) ?_ | refine callX_pure (g24 _) ?_
      simp (maxSteps:=1000000) (disch:=omega) only [go_sem, ↓reduceIte, reduceCtorEq, b2, bp, bS, bW, bl2, blp, blS, blW, z4, blkAt_lo, Int.lt_irrefl]
      exact nx _
    · simp (maxSteps:=1000000) (disch:=omega) only [go_sem, ↓reduceIte, reduceCtorEq, b2, bp, bS, bW, bl2, blp, blS, blW, hp, hpl, f2, fl, y4, y5, y6, y7, Int.toNat_natCast, k1, k3, z4, blkAt_lo, hjl]
      first | refine callB_intro (g24 _) ?_ | refine callD_intro (g24 _) ?_ | refine callP_intro (fun _ => (g24 _)) ?_ | refine callX_pure (g24 _) ?_
      simp (maxSteps:=1000000) (disch:=omega) only [go_sem, ↓reduceIte, reduceCtorEq, b2, bp, bS, bW, bl2, blp, blS, blW, z4, blkAt_lo, Int.lt_irrefl]
      exact nx _
theorem f7_tail {p q L j SB WB : Nat} {cp cq : Option Nat} {o tk : Bool} {l : List Act} {ns : List Int} {gen k : Int} {S1 S2 : Se} {H H3 : Heap} (c7t : SC)
    (hx : Ext H H3) (hj : j < 40) (hjL : j < L) (hL : l.length = L) (b2 : blkAt H3 H.length = some ⟨S1.t.av, true⟩) (bp : blkAt H3 p = some ⟨flatA l, o⟩) (bS : blkAt H3 SB = some ⟨S2.av, true⟩) (bW : blkAt H3 WB = some ⟨S1.av, true⟩) (kS2 : S2.n.ok (H3.set SB none))
    (hns : Sl i64 H3 q 0 ns) (f2 : (flatA l)[j * 5 + 2]? = some (.sl q 0 ns.length 1 cq)) (hw : rightP S1.pl = true) (G : Good S1.pl S2.pl)
    (htk : tk = true → Tk S1 S2 ns)
    (hgen : gen ≤ S1.v.g) (hk : gen = S1.v.g → k ≤ S1.v.l)
    (next : ∀ (gen' k' : Int) (H4 : Heap), Ext H3 H4 → gen' ≤ S2.v.g → (gen' = S2.v.g → k' ≤ S2.v.l) → acs Try.prog [.lp c7l0, .blk 0, .code c7t] (e7 H p L cp SB gen' k' (j + 1)) H4 (Fin H rs7 (.bool true) H)) :
    acs Try.prog [.code c7T, .blk 1, .code c7I, .lp c7l0, .blk 0, .code c7t] [(1, .sl p 0 L 5 cp), (2, .ptr H.length 0), (5, .bool true), (6, .ptr SB 0), (8, .int .i64 gen), (9, .int .i64 k), (10, .int .i64 j), (11, .ptr WB 0), (12, .bool tk)] H3 (Fin H rs7 (.bool true) H) := by
  obtain ⟨r1, r2, r3, ⟨r4, r5, r6⟩, -⟩ := right_out hw
  have T := Tm.out r1
  have V := Vw.out r3
  have hs : SQ S1.t.e := by
    unfold SQ
    exact T.2.2.2.2.2.2.2.2.2
  obtain ⟨G1, G2, -, -, G3, G4, G5, G6, N1, N2, N3⟩ := G
  obtain ⟨s1, s2, s3, ⟨s4, s5, s6⟩, -⟩ := right_out G2
  have V2 := Vw.out s3
  have q1 : BQ S1.l.a := by
    have h : S1.l.a = S1.v.a := r4
    rw [h]
    exact V.2.2.2.2.2.2.2.2.2.2.2.2.2.2.1
  have q2 : BQ S1.l.b := by
    have h : S1.l.b = S1.v.b := r5
    rw [h]
    exact V.2.2.2.2.2.2.2.2.2.2.2.2.2.2.2.1
  have q3 : BQ S1.l.c := by
    have h : S1.l.c = S1.v.c := r6
    rw [h]
    exact V.2.2.2.2.2.2.2.2.2.2.2.2.2.2.2.2
  have q4 : BQ S2.l.a := by
    have h : S2.l.a = S2.v.a := s4
    rw [h]
    exact V2.2.2.2.2.2.2.2.2.2.2.2.2.2.2.1
  have q5 : BQ S2.l.b := by
    have h : S2.l.b = S2.v.b := s5
    rw [h]
    exact V2.2.2.2.2.2.2.2.2.2.2.2.2.2.2.2.1
  have q6 : BQ S2.l.c := by
    have h : S2.l.c = S2.v.c := s6
    rw [h]
    exact V2.2.2.2.2.2.2.2.2.2.2.2.2.2.2.2.2
  have g22 := f22 (Sub.show.ok kS2)
  rw [G2] at g22
  have g23 := fun H => f23 (H := H) q1 q2 q3 q4 q5 q6 hs
  rw [show farQ S1.l.a S2.l.a S1.t.e = false from N1, show farQ S1.l.b S2.l.b S1.t.e = false from N2, show farQ S1.l.c S2.l.c S1.t.e = false from N3] at g23
  simp only [Bool.or_false, Bool.not_false] at g23
  have G3 : S1.v.e ≤ S2.v.e := G3
  have G5 : S1.v.g ≤ S2.v.g := G5
  have n1 : ¬ S2.v.e < S1.v.e := by omega
  have n2 : ¬ S2.v.g < S1.v.g := by omega
  have n3 : S2.v.g = S1.v.g → ¬ S2.v.l < S1.v.l := fun h => by
    have : S1.v.l ≤ S2.v.l := G6 h
    omega
  have tb := fun (H4 : Heap) (hx4 : Ext H3 H4) => f7_b (tk := tk) (k := k) c7t (hx.trans hx4) hj hjL hL (hx4.blk b2) (hx4.blk bp) (hx4.blk bS) (hx4.blk bW) (hx4.sl hns) f2 q1 q2 q3 hs htk hgen hk G5 G6 (fun gen' k' H5 h5 => next gen' k' H5 (hx4.trans h5))
  have bl2 := blkAt_lt b2
  have blS := blkAt_lt bS
  have blW := blkAt_lt bW
  unfold Se.av at bS bW g22
  have b2' := b2
  unfold Tm.av at b2
  unfold vec at g23
  clear T V V2 r1 r2 r3 r4 r5 r6 s1 s2 s3 s4 s5 s6 q1 q2 q3 q4 q5 q6 N1 N2 N3 G1 G2 next hw hgen hk htk hns f2 hj hjL G5 G6
  conv in Fr.code c7T => rw [c7T_eq]; unfold c7T c7B c7l0
  simp only [scHd, scTl, scBl]
  simp (maxSteps:=1000000) (disch:=omega) only [go_sem, ↓reduceIte, reduceCtorEq, b2, bS, bW, bl2, blS, blW]
  first | refine callBE (g22) ?_ | refine callDE (g22) ?_ | refine callXE (g22) ?_
  rintro v1 H4 hx4 rfl
  have tb := tb H4 hx4
  replace b2 := hx4.blk b2
  replace bS := hx4.blk bS
  replace bW := hx4.blk bW
  replace bl2 := blkAt_lt b2
  replace blS := blkAt_lt bS
  replace blW := blkAt_lt bW
  by_cases m1 : S2.v.e = S1.v.e
  · obtain ⟨m3, m4, m2⟩ := G4 m1
    replace m3 : S2.v.u = S1.v.u := m3
    replace m4 : S2.v.i = S1.v.i := m4
    replace m2 : S2.v.g = S1.v.g := m2
    have n4 := n3 m2
    simp (maxSteps:=1000000) (disch:=omega) only [go_sem, ↓reduceIte, reduceCtorEq, b2, bS, bW, bl2, blS, blW, m1, m2, m3, m4, n4, Int.lt_irrefl]
    first | refine callB_intro (g23 _) ?_ | refine callD_intro (g23 _) ?_ | refine callP_intro (fun _ => (g23 _)) ?_ | refine callX_pure (g23 _) ?_
    simp (maxSteps:=1000000) (disch:=omega) only [go_sem, ↓reduceIte, reduceCtorEq, b2, bS, bW, bl2, blS, blW, m1, m2, m3, m4, n4, Int.lt_irrefl]
    exact tb
  · simp (maxSteps:=1000000) (disch:=omega) only [go_sem, ↓reduceIte, reduceCtorEq, b2, bS, bW, bl2, blS, blW, m1, n1]
    first | refine callB_intro (g23 _) ?_ | refine callD_intro (g23 _) ?_ | refine callP_intro (fun _ => (g23 _)) ?_ | refine callX_pure (g23 _) ?_
    by_cases m2 : S2.v.g = S1.v.g
    · have n4 := n3 m2
      simp (maxSteps:=1000000) (disch:=omega) only [go_sem, ↓reduceIte, reduceCtorEq, b2, bS, bW, bl2, blS, blW, m2, n4, Int.lt_irrefl]
      exact tb
    · simp (maxSteps:=1000000) (disch:=omega) only [go_sem, ↓reduceIte, reduceCtorEq, b2, bS, bW, bl2, blS, blW, m2, n2]
      exact tb


theorem Sub.refl (A : Heap) : Sub A A := fun _ _ h => h
theorem Sub.app2 {A B L L' : Heap} (h : Sub A B) (hl : A.length = B.length) (h2 : Sub L L') : Sub (A ++ L) (B ++ L') := by
  intro q x e
  by_cases hq : q < A.length
  · rw [blkAt_lo _ hq] at e
    rw [blkAt_lo _ (by omega)]
    exact h q x e
  · obtain ⟨k, rfl⟩ : ∃ k, q = A.length + k := ⟨q - A.length, by omega⟩
    rw [blkAt_app] at e
    rw [hl, blkAt_app]
    exact h2 k x e
theorem Sub.cons {L L' : Heap} {X : Option Blk} (h : Sub L L') : Sub (X :: L) (X :: L') := by
  intro q x e
  cases q with
  | zero => exact e
  | succ q => exact h q x e
theorem Sub.cons_none {L L' : Heap} {X : Option Blk} (h : Sub L L') : Sub (none :: L) (X :: L') := by
  intro q x e
  cases q with
  | zero => cases e
  | succ q => exact h q x e
section
variable {s : Se} {k : Int} {ns : List Int} {p off : Nat} {cp : Option Nat} {H : Heap}
end

def c7E : SC := .seq (.reg [⟨some 251, .mv, [.r 5], none, [5]⟩, ⟨some 4, .mv, [.r 251], none, [251]⟩]) .ret
theorem f7_loop {t : Tm} {p : Nat} {cp : Option Nat} {o : Bool} {l : List Act} {H : Heap} (hb : blkAt H p = some ⟨flatA l, o⟩) (hl : l.length ≤ 40) (hs : ∀ x ∈ l, Sl i64 H x.p 0 x.ns) {SB : Nat} (hSB : H.length < SB) :
    ∀ (r : List Act) (j : Nat) (S : Se) (gen k : Int) (H' : Heap), l.drop j = r → j + r.length = l.length → Ext H H' → blkAt H' H.length = some ⟨t.av, true⟩ → blkAt H' SB = some ⟨S.av, true⟩ → S.n.ok (H'.set SB none) → Inv t j gen k S.pl →
    acs Try.prog [.lp c7l0, .blk 0, .code c7E] (e7 H p l.length cp SB gen k j) H' (Fin H rs7 (.bool true) H) := by
  have hpl : p < H.length := blkAt_lt hb
  intro r
  induction r with
  | nil =>
    intro j S gen k H' hd hj hx b2 bS kS I
    have hlt : ¬ (j : Int) < (l.length : Int) := by simp at hj; omega
    unfold e7
    rw [acs_lp]; conv in Fr.code c7l0 => unfold c7l0
    simp (maxSteps:=1000000) (disch:=omega) only [go_sem, ↓reduceIte, reduceCtorEq, hlt]
    unfold c7E
    simp (maxSteps:=1000000) (disch:=omega) only [go_sem, ↓reduceIte, reduceCtorEq]
    exact fin_ext (by simp) hx (by simp (maxSteps:=1000000) (disch:=omega) only [resVal, resAll, resOne, rs7, Env.get, go_sem, ↓reduceIte, reduceCtorEq]) (by simp only [AV.und, AV.unds, and_self])
  | cons x r ih =>
    intro j S gen k H' hd hj hx b2 bS kS I
    have hlt : (j : Int) < (l.length : Int) := by simp at hj; omega
    obtain ⟨f0, f1, f2, f3, f4⟩ := flatA_get hd
    have f12' := flatA_two hd
    have fl := flatA_len l
    have hd2 : l.drop (j + 1) = r := by rw [← List.drop_drop, hd]; rfl
    have hm : x ∈ l.drop j := by
      rw [hd]
      exact List.mem_cons_self
    have hx0 := hs x (List.mem_of_mem_drop hm)
    have hbp := hx.blk hb
    have hbl := blkAt_lt hbp
    have bl2 := blkAt_lt b2
    have blS := blkAt_lt bS
    obtain ⟨N, K, q, cq, ns, w, d⟩ := x
    simp only at f0 f1 f2 f3 f4 f12' hx0
    have a1 := S.len
    have a2 := S.all
    have a3 := S.take
    have a4 : List.drop 27 S.av = [] := rfl
    unfold e7
    rw [acs_lp]
    conv in Fr.code c7l0 => rw [c7l0_eq]; unfold c7l0
    simp only [scHd, scTl, scBl]
    by_cases h100 : (100 : Int) < (ns.length : Int)
    · simp (maxSteps:=1000000) (disch:=omega) only [go_sem, ↓reduceIte, reduceCtorEq, hbp, hbl, hlt, f0, f1, f2, f3, f4, h100, Int.toNat_natCast]
      exact fin_ext (by simp) hx (by simp (maxSteps:=1000000) (disch:=omega) only [resVal, resAll, resOne, rs7, Env.get, go_sem, ↓reduceIte, reduceCtorEq]) (by simp only [AV.und, AV.unds, and_self])
    simp (maxSteps:=1000000) (disch:=omega) only [go_sem, ↓reduceIte, reduceCtorEq, hbp, hbl, hlt, f0, f1, f2, f3, f4, h100, Int.toNat_natCast, bS, blS, a1, a2, a3]
    obtain ⟨I1, I2, I3, I4, I5, I6⟩ := I
    replace I1 : S.t = t := I1
    subst I1
    obtain ⟨r1, r2, r3, r4, r5, r6, r7, r8⟩ := right_out I2
    have T := Tm.out r1
    have C := Ck.out r2
    have g20 := f20 (s := S) (k := imin (imax N 0) 1000000) (Sub.show.ok kS) ⟨C.1, C.2.1⟩ r5 ⟨T.2.2.2.2.2.2.1, T.2.2.2.2.2.2.2.1⟩
    have tg := tick_good (k := imin (imax N 0) 1000000) I2 I4
    have e2 : (Se.mk S.t S.n S.v ⟨tick S.c.n (imin (imax N 0) 1000000), S.c.u, S.c.q⟩ ⟨S.l.a, S.l.b, S.l.c, S.l.s, S.l.o || decide (S.l.s + S.t.d ≤ tick S.c.n (imin (imax N 0) 1000000))⟩).pl = tickP S.pl (imin (imax N 0) 1000000) := rfl
    have kS1 : (Se.mk S.t S.n S.v ⟨tick S.c.n (imin (imax N 0) 1000000), S.c.u, S.c.q⟩ ⟨S.l.a, S.l.b, S.l.c, S.l.s, S.l.o || decide (S.l.s + S.t.d ≤ tick S.c.n (imin (imax N 0) 1000000))⟩).n.ok (H'.set SB none) := kS
    generalize Se.mk S.t S.n S.v ⟨tick S.c.n (imin (imax N 0) 1000000), S.c.u, S.c.q⟩ ⟨S.l.a, S.l.b, S.l.c, S.l.s, S.l.o || decide (S.l.s + S.t.d ≤ tick S.c.n (imin (imax N 0) 1000000))⟩ = S1 at *
    have w1 := S1.len
    have w2 := S1.all
    have w3 := S1.take
    have w4 : List.drop 27 S1.av = [] := rfl
    have et : S1.t = S.t := congrArg PSe.t e2
    have en : S1.n.pu = S.n.pu := congrArg PSe.n e2
    have ev : S1.v = S.v := congrArg PSe.v e2
    have hw1 : rightP S1.pl = true := by
      rw [e2]
      exact tg.1
    have hcn : S1.pl.c.n ≤ 2305843009213693952 := by
      rw [e2]
      exact tg.2
    have hlast : lastP S1.pl.n ≤ 1 + j := by
      rw [show S1.pl.n = S.pl.n from en]
      exact I3
    have hpS : SB ≠ p := by omega
    have hj5 : j * 5 + 3 ≤ l.length * 5 := by omega
    have hSBW : SB ≠ H'.length := by omega
    have hSB2 : SB ≠ H.length := by omega
    have b2' : blkAt (H'.set SB (some ⟨S1.av, true⟩) ++ [some (Blk.mk S1.av true)]) H.length = some ⟨S.t.av, true⟩ := by
      rw [blkAt_los _ _ bl2, blkAt_set_ne hSB2]
      exact b2
    have bW' : blkAt (H'.set SB (some ⟨S1.av, true⟩) ++ [some (Blk.mk S1.av true)]) H'.length = some ⟨S1.av, true⟩ := by
      rw [blkAt_setapp0]
      rfl
    have bS' : blkAt (H'.set SB (some ⟨S1.av, true⟩) ++ [some (Blk.mk S1.av true)]) SB = some ⟨S1.av, true⟩ := (blkAt_los _ _ blS).trans (blkAt_set_self blS _)
    have hid : (H'.set SB (some ⟨S1.av, true⟩) ++ [some (Blk.mk S1.av true)]).set SB none = H'.set SB none ++ [some (Blk.mk S1.av true)] := by rw [set_los _ _ _ blS, List.set_set]
    have hnK : S1.n.ok ((H'.set SB (some ⟨S1.av, true⟩) ++ [some (Blk.mk S1.av true)]).set SB none) := by
      rw [hid]
      exact kS1.app _
    have hsK : Sl i64 ((H'.set SB (some ⟨S1.av, true⟩) ++ [some (Blk.mk S1.av true)]).set SB none) q 0 ns := by
      rw [hid]
      exact ((hx.set (by omega) none).sl hx0).app _
    have hnG : ∀ G, S1.n.ok ((H'.set SB (some ⟨S1.av, true⟩) ++ G).set SB none) := fun G => by
      rw [set_los _ _ _ blS, List.set_set]
      exact kS1.app _
    have hsG : ∀ G, Sl i64 ((H'.set SB (some ⟨S1.av, true⟩) ++ G).set SB none) q 0 ns := fun G => by
      rw [set_los _ _ _ blS, List.set_set]
      exact ((hx.set (by omega) none).sl hx0).app _
    have hxK : Ext H (H'.set SB (some ⟨S1.av, true⟩) ++ [some (Blk.mk S1.av true)]) := (hx.set (by omega) _).to _
    have fin : ∀ (S2 : Se) (tk : Bool) (H3 : Heap), Ext H H3 → blkAt H3 H.length = some ⟨S.t.av, true⟩ → blkAt H3 SB = some ⟨S2.av, true⟩ → blkAt H3 H'.length = some ⟨S1.av, true⟩ → S2.n.ok (H3.set SB none) → Good S1.pl S2.pl → (tk = true → Tk S1 S2 ns) →
        acs Try.prog [.code c7T, .blk 1, .code c7I, .lp c7l0, .blk 0, .code c7E] [(1, .sl p 0 l.length 5 cp), (2, .ptr H.length 0), (5, .bool true), (6, .ptr SB 0), (8, .int .i64 gen), (9, .int .i64 k), (10, .int .i64 j), (11, .ptr H'.length 0), (12, .bool tk)] H3 (Fin H rs7 (.bool true) H) := by
      intro S2 tk H3 hx3 c2 cS cW kS2 G htk
      have cl := blkAt_lt cS
      refine f7_tail (S1 := S1) (S2 := S2) c7E hx3 (by omega) (by omega) rfl (by rw [et]; exact c2) (hx3.blk hb) cS cW kS2 (hx3.sl hx0) f2 hw1 G htk (by rw [ev]; exact I5) (by rw [ev]; exact I6) ?_
      intro gen' k' H4 h4 hg hk
      have hl2 : lastP S2.pl.n ≤ 1 + ((j + 1 : Nat) : Int) := by
        have := G.last
        omega
      exact ih (j + 1) S2 gen' k' H4 hd2 (by simp at hj; omega) (hx3.trans h4) (h4.blk c2) (h4.blk cS) ((h4.hide cl none).sub.ok kS2) ⟨G.t.trans et, G.right, hl2, G.cn, hg, hk⟩
    have hl61 : lastP S1.pl.n + 1 < 2305843009213693952 := by omega
    clear ih I3 I4 I5 I6 r1 r2 r3 r4 r5 r6 r7 r8 T C tg e2 kS1
    first | refine callB_intro (g20) ?_ | refine callD_intro (g20) ?_ | refine callP_intro (fun _ => (g20)) ?_ | refine callX_pure (g20) ?_
    by_cases k1 : w = 1
    · subst k1
      have g16 := f16 (k := K) (done := d) (cp := cq) hnK hsK hw1
      simp (maxSteps:=1000000) (disch:=omega) only [go_sem, ↓reduceIte, reduceCtorEq, hbp, hbl, hlt, hj5, f0, f1, f2, f3, f4, f12', fl, Int.toNat_natCast, bS, blS, hpS, a1, a2, a3, a4, w1, w2, w3, w4, List.append_nil, Nat.le_refl, blkAt_lo, set_lo, blkAt_los, set_los, blkAt_setapp, blkAt_setapp0, set_setapp, set_setapp0, blkAt_set_self, List.length_set, List.set_set, blkAt_set_ne]
      first | refine callBE (ACallE.frame (b := SB) bS' rfl g16) ?_ | refine callDE (ACallE.frame (b := SB) bS' rfl g16) ?_ | refine callXE (ACallE.frame (b := SB) bS' rfl g16) ?_
      rintro v2 H2 hx2 ⟨cS, S2, rfl, k2, e3⟩
      have cl := blkAt_lt cS
      have y1 := S2.len
      have y2 := S2.all
      have y3 := S2.take
      have Gd := dies_good (k := K) (n := ns) (d := d) hw1 hcn hl61
      rw [← e3] at Gd
      simp (maxSteps:=1000000) (disch:=omega) only [go_sem, ↓reduceIte, reduceCtorEq, cS, cl, y1, y2, y3, w1, w2, w3, w4, List.append_nil, Nat.le_refl]
      exact fin S2 false _ ((hxK.trans hx2).set (by omega) _) ((blkAt_set_ne hSB2 _).trans (hx2.blk b2')) (blkAt_set_self cl _) ((blkAt_set_ne hSBW _).trans (hx2.blk bW')) (by rw [List.set_set]; exact k2) Gd (fun h => (by cases h))
    by_cases k2' : w = 2
    · subst k2'
      have g21 := f21 hnK
      simp (maxSteps:=1000000) (disch:=omega) only [go_sem, ↓reduceIte, reduceCtorEq, hbp, hbl, hlt, hj5, f0, f1, f2, f3, f4, f12', fl, Int.toNat_natCast, bS, blS, hpS, a1, a2, a3, a4, w1, w2, w3, w4, List.append_nil, Nat.le_refl, blkAt_lo, set_lo, blkAt_los, set_los, blkAt_setapp, blkAt_setapp0, set_setapp, set_setapp0, blkAt_set_self, List.length_set, List.set_set, blkAt_set_ne]
      first | refine callBE (ACallE.frame (b := SB) bS' rfl g21) ?_ | refine callDE (ACallE.frame (b := SB) bS' rfl g21) ?_ | refine callXE (ACallE.frame (b := SB) bS' rfl g21) ?_
      rintro v2 H2 hx2 ⟨cS, S2, rfl, k2, e3⟩
      have cl := blkAt_lt cS
      have y1 := S2.len
      have y2 := S2.all
      have y3 := S2.take
      have Gd := reset_good hw1
      rw [← e3] at Gd
      simp (maxSteps:=1000000) (disch:=omega) only [go_sem, ↓reduceIte, reduceCtorEq, cS, cl, y1, y2, y3, w1, w2, w3, w4, List.append_nil, Nat.le_refl]
      exact fin S2 false _ ((hxK.trans hx2).set (by omega) _) ((blkAt_set_ne hSB2 _).trans (hx2.blk b2')) (blkAt_set_self cl _) ((blkAt_set_ne hSBW _).trans (hx2.blk bW')) (by rw [List.set_set]; exact k2) Gd (fun h => (by cases h))
    have g12 := fun G => f12 (k := K) (cp := cq) (hnG G) (hsG G) hw1
    have Gd := hear_good (k := K) (n := ns) hw1 hcn hl61
    simp (maxSteps:=1000000) (disch:=omega) only [go_sem, ↓reduceIte, reduceCtorEq, hbp, hbl, hlt, hj5, f0, f1, f2, f3, f4, f12', fl, Int.toNat_natCast, bS, blS, hpS, a1, a2, a3, a4, w1, w2, w3, w4, List.append_nil, Nat.le_refl, blkAt_lo, set_lo, blkAt_los, set_los, blkAt_setapp, blkAt_setapp0, set_setapp, set_setapp0, blkAt_set_self, List.length_set, List.set_set, blkAt_set_ne, k1, k2']
    first | refine callBE (ACallE.frame (b := SB) ((blkAt_los _ _ blS).trans (blkAt_set_self blS _)) rfl (g12 _)) ?_ | refine callDE (ACallE.frame (b := SB) ((blkAt_los _ _ blS).trans (blkAt_set_self blS _)) rfl (g12 _)) ?_ | refine callXE (ACallE.frame (b := SB) ((blkAt_los _ _ blS).trans (blkAt_set_self blS _)) rfl (g12 _)) ?_
    rintro v2 H2 hx2 ⟨cS, S2, an, rfl, k2, e3, -⟩
    obtain ⟨G, rfl⟩ := hx2
    have y1 := S2.len
    have y2 := S2.all
    have y3 := S2.take
    rw [← e3] at Gd
    generalize (hearP S1.pl K ns).2.2 = tk at *
    simp (maxSteps:=1000000) (disch:=omega) only [go_sem, ↓reduceIte, reduceCtorEq, hbp, hbl, hlt, hj5, f0, f1, f2, f3, f4, f12', fl, Int.toNat_natCast, bS, blS, hpS, a1, a2, a3, a4, w1, w2, w3, w4, List.append_nil, Nat.le_refl, blkAt_lo, set_lo, blkAt_los, set_los, blkAt_setapp, blkAt_setapp0, set_setapp, set_setapp0, blkAt_set_self, List.length_set, List.set_set, blkAt_set_ne, y1, y2, y3, k1, k2']
    have hsub : ∀ Y Z, S2.n.ok ((H'.set SB Y ++ some ⟨S1.av, true⟩ :: Z :: G).set SB none) := by
      intro Y Z
      rw [set_los _ _ _ blS, List.set_set]
      rw [List.append_assoc, set_los _ _ _ blS, List.set_set] at k2
      exact (Sub.app2 (Sub.refl _) rfl (Sub.cons (Sub.cons_none (Sub.refl _)))).ok k2
    exact fin S2 tk _ ((hx.set (by omega) _).to _) (by rw [blkAt_los _ _ bl2, blkAt_set_ne hSB2]; exact b2) ((blkAt_los _ _ blS).trans (blkAt_set_self blS _)) (by rw [blkAt_setapp0]; rfl) (hsub _ _) Gd.1 Gd.2

theorem f7 (t : Tm) (p : Nat) (cp : Option Nat) (o : Bool) (l : List Act) (H : Heap) (hb : blkAt H p = some ⟨flatA l, o⟩) (hs : ∀ x ∈ l, Sl i64 H x.p 0 x.ns) :
    ACall Try.prog 7 [.agg t.av, .sl p 0 l.length 5 cp] H (.bool true) H := by
  refine acall7 (by simp) (acs_start ?_)
  have g18 : ∀ H, ACall Try.prog 18 [tms t.a t.b t.c t.d t.e] H (.bool t.ok) H := f18 t.a t.b t.c t.d t.e
  have g19 := fun H h => f19 (t := t) (H := H) h
  unfold tms at g18
  unfold c7
  unfold Tm.av at *
  simp (maxSteps:=1000000) (disch:=omega) only [go_sem, ↓reduceIte, reduceCtorEq]
  first | refine callBE (f8 _) ?_ | refine callDE (f8 _) ?_ | refine callXE (f8 _) ?_
  rintro v0 H1 hx1 rfl
  have b2 := hx1.blk (b := H.length) (by simp only [go_sem, ↓reduceIte, reduceCtorEq]; rfl)
  have hy1 : Ext H H1 := (Ext.app _ _).trans hx1
  have bl2 := blkAt_lt b2
  simp (maxSteps:=1000000) (disch:=omega) only [go_sem, ↓reduceIte, reduceCtorEq, b2, bl2]
  first | refine callB_intro (g18 _) ?_ | refine callD_intro (g18 _) ?_ | refine callP_intro (fun _ => (g18 _)) ?_ | refine callX_pure (g18 _) ?_
  cases ht : t.ok with
  | false =>
    simp (maxSteps:=1000000) (disch:=omega) only [go_sem, ↓reduceIte, reduceCtorEq]
    exact fin_ext (by simp) hy1 (by simp (maxSteps:=1000000) (disch:=omega) only [resVal, resAll, resOne, rs7, Env.get, go_sem, ↓reduceIte, reduceCtorEq]) (by simp only [AV.und, AV.unds, and_self])
  | true =>
  by_cases h40 : (40 : Int) < (l.length : Int)
  · simp (maxSteps:=1000000) (disch:=omega) only [go_sem, ↓reduceIte, reduceCtorEq, h40]
    exact fin_ext (by simp) hy1 (by simp (maxSteps:=1000000) (disch:=omega) only [resVal, resAll, resOne, rs7, Env.get, go_sem, ↓reduceIte, reduceCtorEq]) (by simp only [AV.und, AV.unds, and_self])
  simp (maxSteps:=1000000) (disch:=omega) only [go_sem, ↓reduceIte, reduceCtorEq, h40, b2, bl2]
  first | refine callBE (g19 _ ht) ?_ | refine callDE (g19 _ ht) ?_ | refine callXE (g19 _ ht) ?_
  rintro v1 H2 hx2 ⟨w, rfl, S, rfl, k1, e1⟩
  have hy2 := hy1.trans hx2
  replace b2 := hx2.blk b2
  replace bl2 := blkAt_lt b2
  have a1 := S.len
  have a2 := S.all
  have a3 := S.take
  obtain ⟨n1, n2, n3⟩ := newN_is
  have hr := newP_right ht
  have eq := newP_eq t
  simp (maxSteps:=1000000) (disch:=omega) only [go_sem, ↓reduceIte, reduceCtorEq, a1, a2, a3]
  refine f7_loop (t := t) (SB := H2.length) hb (by omega) hs (by omega) l 0 S 0 0 _ rfl (by simp) (hy2.to _) ((blkAt_lo _ bl2).trans b2) (by simp only [go_sem, ↓reduceIte, reduceCtorEq]) (k1.app_set (by omega) none) ?_
  rw [← e1] at eq hr
  have ev : S.pl.v = frV := congrArg PSe.v eq
  have ec : S.pl.c = ⟨0, 0, t.b⟩ := congrArg PSe.c eq
  have en : S.pl.n = newN := congrArg PSe.n eq
  have et : S.pl.t = t := congrArg PSe.t eq
  exact ⟨et, hr, by rw [en, n3]; decide, by rw [ec]; show (0 : Int) ≤ _; omega, by rw [ev]; decide, fun _ => by rw [ev]; decide⟩

def RowOkM (M : Val) (W : World) (l : Loc) (avs : List AV) : Prop :=
  avs ≠ [] → l.obj = false ∧ ∃ arr elem fr, W.heap[l.blk]? = some (.cells arr elem fr) ∧ arr.size = l.size ∧ ∀ (j : Nat) (u : AV), avs[j]? = some u → ∃ x, arr[l.off + j]? = some x ∧ VR M u x
theorem hrel_rowsM (W : World) (bs : List (Loc × List AV)) (h : ∀ b ∈ bs, RowOkM (fun i => (bs[i]?).map (·.1)) W b.1 b.2) : HRel (fun i => (bs[i]?).map (·.1)) (bs.map fun b => some ⟨b.2, false⟩) W := by
  refine ⟨fun i hi => by simp at hi; simp [hi], fun i b hb => ?_, fun i j b c l l' hb ho => ?_⟩
  · simp only [List.getElem?_map, Option.map_eq_some_iff] at hb
    obtain ⟨p, hp, hb⟩ := hb
    cases hb
    refine ⟨p.1, by simp [hp], fun ht => ?_⟩
    rcases ht with ht | ht
    · obtain ⟨hob, arr, elem, fr, h1, h2, h3⟩ := h p (List.mem_of_getElem? hp) ht
      refine .ofRow ⟨arr, elem, fr, h1, h2, fun j v hv => ?_, fun ho => by cases ho⟩ hob
      obtain ⟨x, hx, hr⟩ := h3 j v hv
      exact ⟨x, hx, hr⟩
    · cases ht
  · simp only [List.getElem?_map, Option.map_eq_some_iff] at hb
    obtain ⟨p, hp, hb⟩ := hb
    cases hb
    cases ho
theorem rows_runM {P : Program} {W : World} {f : FuncId} {vals : List AV} {bs : List (Loc × List AV)} {H' : Heap} (h : ACall P f vals (bs.map fun b => some ⟨b.2, false⟩) (.bool true) H') {args : Array Value} (hb : ∀ b ∈ bs, RowOkM (fun i => (bs[i]?).map (·.1)) W b.1 b.2) (hv : VRs (fun i => (bs[i]?).map (·.1)) vals args.toList) :
    Calls P f args W fun e W' => e = .returned (.bool true) ∧ RowKit.Below W.heap.size W W' := by
  refine (h _ W args.toList (hrel_rowsM W bs hb) hv).mono fun e W' ⟨x, M', he, _, hk, hx⟩ => ?_
  simp only [VR] at hx
  subst hx
  refine ⟨he, hk.os, hk.tape, hk.output, hk.size, fun k hk' => hk.block k hk' ?_⟩
  rintro ⟨i, b, l, h1, h2, _⟩
  simp only [List.getElem?_map, Option.map_eq_some_iff] at h1
  obtain ⟨p, hp, h1⟩ := h1
  cases h1
  cases h2
section
variable {H : Type} {enc : TypeId × Value → H} {P : Program} {W : World} {held : Bool}
theorem open_rows {t e : TypeId} {v : Value} {fuel sz : Nat} {y : DataW H × List MemPlace} {Q : List Value → Prop} (hu : P.underlying t = some (.slice e)) (hc : P.cellsOf e = sz) (hz : sz ≠ 0)
    (hQ : ∀ cs' n z, DataW.trod enc P W 0 (fun _ => true) held n e cs' = some z → Q cs') (hf : DataW.trod enc P W 0 (fun _ => true) held fuel t [v] = some y) :
    ∃ (l : Loc) (rows : List (List Value)), (∀ r ∈ rows, Q r ∧ r.length = sz) ∧ rows.length ≤ maxLen ∧ (∀ (M : Val) (i : Nat), M i = some l → VR M (.sl i 0 rows.length sz none) v) ∧
      (∀ (M : Val) (avs : List AV), avs.length = rows.flatten.length → (∀ (j : Nat) u x, avs[j]? = some u → rows.flatten[j]? = some x → VR M u x) → RowOkM M W l avs) := by
  rcases Deep.open_slice hu hf with ⟨h1, _⟩ | ⟨a, len, cap, m, n', D, Pl, hcs, _, hle, hmax, hm, hdx, hx⟩
  · obtain rfl : v = .slice none 0 0 := by simpa using h1
    refine ⟨⟨0, 0, 0, false⟩, [], by simp, by simp, fun M i hM => ?_, fun M avs ha _ h0 => ?_⟩
    · simp only [VR]
      exact ⟨_, Val.at_in hM rfl, .inr (by simp)⟩
    · exact absurd (List.eq_nil_of_length_eq_zero (by simpa using ha)) h0
  · obtain rfl : v = .slice (some a) len cap := by simpa using hcs
    simp only [if_true] at hm
    subst hm
    have cell : ∀ i, i < m → ∃ cs', W.cells? 0 (a.add (i * sz)) sz = some cs' ∧ cs'.length = sz ∧ Q cs' := by
      intro i hi
      obtain ⟨cs', h1, h2⟩ := hx i hi
      rw [hc] at h1
      exact ⟨cs', h1, (World.cells?_some h1).2.1, hQ cs' _ _ h2⟩
    have hok : 0 < m → a.spot = none := by
      intro h0
      obtain ⟨cs', h1, h2, -⟩ := cell 0 h0
      have h3 := (World.cells?_some h1).2.2 0 (by omega)
      have h4 : cs'[0]? = some (cs'[0]'(by omega)) := by simp
      rw [h4] at h3
      have e0 : ((a.add (0 * sz)).add 0) = a := by simp [Addr.add]
      rw [e0] at h3
      unfold World.cell? at h3
      split at h3
      · split at h3
        · cases h3
        · next h5 => simpa using h5
      · cases h3
    obtain ⟨C, hC⟩ := Deep.choose_lt (α := List Value) (p := fun i cs' => W.cells? 0 (a.add (i * sz)) sz = some cs' ∧ cs'.length = sz ∧ Q cs') cell
    have hcell : ∀ i, i < m → ∀ k, k < sz → W.cell? ⟨a.block, a.off + (i * sz + k), none⟩ = (C i)[k]? := by
      intro i hi k hk'
      have := (World.cells?_some (hC i hi).1).2.2 k hk'
      rw [Deep.add_add] at this
      rw [← this]
      congr 1
      have hok := hok (by omega)
      obtain ⟨ab, ao, asp⟩ := a
      simp only at hok
      subst hok
      rw [plain_add]
    have hrow : 0 < m → ∃ arr elem fr, W.heap[a.block]? = some (.cells arr elem fr) ∧ ∀ j, j < m * sz → ∃ x, arr[a.off + j]? = some x ∧ (C (j / sz))[j % sz]? = some x := by
      intro h0
      have hz0 : 0 < sz := Nat.pos_of_ne_zero hz
      have get : ∀ j, j < m * sz → ∃ x, W.cell? ⟨a.block, a.off + j, none⟩ = some x ∧ (C (j / sz))[j % sz]? = some x := by
        intro j hj
        have hj1 : j / sz < m := (Nat.div_lt_iff_lt_mul hz0).2 hj
        have hj2 : j % sz < sz := Nat.mod_lt _ hz0
        have h5 := hcell (j / sz) hj1 (j % sz) hj2
        rw [show j / sz * sz + j % sz = j by rw [Nat.mul_comm]; exact Nat.div_add_mod j sz] at h5
        have hlen := (hC _ hj1).2.1
        exact ⟨(C (j / sz))[j % sz]'(by omega), by rw [h5]; simp [hlen, hj2], by simp [hlen, hj2]⟩
      obtain ⟨x0, hx0, _⟩ := get 0 (Nat.mul_pos h0 hz0)
      cases hh : W.heap[a.block]? with
      | none => simp [World.cell?, hh] at hx0
      | some o =>
        cases o with
        | cells arr elem fr =>
          refine ⟨arr, elem, fr, rfl, fun j hj => ?_⟩
          obtain ⟨x, h6, h7⟩ := get j hj
          rw [cell_of_row W _ _ arr elem fr hh] at h6
          exact ⟨x, h6, h7⟩
        | _ => simp [World.cell?, hh] at hx0
    have hsize : ∃ S, ∀ arr elem fr, W.heap[a.block]? = some (.cells arr elem fr) → arr.size = S := by
      cases hh : W.heap[a.block]? with
      | none => exact ⟨0, fun _ _ _ h => by cases h⟩
      | some o =>
        cases o with
        | cells arr elem fr => exact ⟨arr.size, fun _ _ _ h => by cases h; rfl⟩
        | _ => exact ⟨0, fun _ _ _ h => by cases h⟩
    obtain ⟨S, hS⟩ := hsize
    have hfl : ∀ k, ((List.range k).map C).flatten.length = k * sz → True := fun _ _ => trivial
    have flen : ∀ k, k ≤ m → ((List.range k).map C).flatten.length = k * sz := by
      intro k hk'
      induction k with
      | zero => simp
      | succ k ih =>
        rw [List.range_succ, List.map_append, List.flatten_append, List.length_append, ih (by omega)]
        simp [(hC k (by omega)).2.1, Nat.succ_mul]
    have fget : ∀ k, k ≤ m → ∀ j, j < k * sz → ((List.range k).map C).flatten[j]? = (C (j / sz))[j % sz]? := by
      intro k hk'
      induction k with
      | zero => intro j hj; omega
      | succ k ih =>
        intro j hj
        rw [List.range_succ, List.map_append, List.flatten_append]
        by_cases hjk : j < k * sz
        · rw [List.getElem?_append_left (by rw [flen k (by omega)]; exact hjk)]
          exact ih (by omega) j hjk
        · rw [List.getElem?_append_right (by rw [flen k (by omega)]; omega), flen k (by omega)]
          have h1 : j / sz = k := by
            rw [Nat.div_eq_of_lt_le (by omega) hj]
          have h2 : j % sz = j - k * sz := by
            have := Nat.div_add_mod j sz
            rw [h1, Nat.mul_comm] at this
            omega
          rw [h1, h2]
          simp
    refine ⟨⟨a.block, a.off, S, false⟩, (List.range len).map C, ?_, by simp; omega, fun M i hM => ?_, fun M avs ha hav h0 => ?_⟩
    · intro r hr
      obtain ⟨i, hi, rfl⟩ := List.mem_map.1 hr
      exact ⟨(hC i (by have := List.mem_range.1 hi; omega)).2.2, (hC i (by have := List.mem_range.1 hi; omega)).2.1⟩
    · simp only [VR, List.length_map, List.length_range]
      refine ⟨_, Val.at_in hM rfl, .inl ⟨a, m, rfl, hle, fun h0 => ⟨?_, ?_⟩, fun k hk => by cases hk⟩⟩
      · have hok := hok h0
        obtain ⟨ab, ao, asp⟩ := a
        simp only at hok
        subst hok
        rfl
      · obtain ⟨arr, elem, fr, h1, h2⟩ := hrow h0
        have h3 := hS _ _ _ h1
        have h4 : 0 < m * sz := Nat.mul_pos h0 (Nat.pos_of_ne_zero hz)
        obtain ⟨x, h5, _⟩ := h2 (m * sz - 1) (by omega)
        have := (Array.getElem?_eq_some_iff.1 h5).1
        simp only
        omega
    · have hlen0 : ((List.range len).map C).flatten.length = len * sz := flen len hle
      have hpos : 0 < len * sz := by
        rw [← hlen0, ← ha]
        exact List.length_pos_iff.2 h0
      have hm0 : 0 < m := by
        rcases Nat.eq_zero_or_pos len with h | h
        · subst h; simp at hpos
        · omega
      obtain ⟨arr, elem, fr, h1, h2⟩ := hrow hm0
      refine ⟨rfl, arr, elem, fr, h1, hS _ _ _ h1, fun j u hu => ?_⟩
      have hj : j < len * sz := by
        have := (List.getElem?_eq_some_iff.1 hu).1
        omega
      have hjm : j < m * sz := Nat.lt_of_lt_of_le hj (Nat.mul_le_mul_right _ hle)
      obtain ⟨x, h5, h6⟩ := h2 j hjm
      exact ⟨x, h5, hav j u x hu (by rw [fget len hle j hj]; exact h6)⟩
end

section
variable {H : Type} {enc : TypeId × Value → H} {P : Program} {W : World} {held : Bool}
theorem open_ints {t e : TypeId} {v : Value} {fuel : Nat} {k : IntKind} {y : DataW H × List MemPlace} (hu : P.underlying t = some (.slice e)) (he : P.underlying e = some (.int k)) (hc : P.cellsOf e = 1) (hf : DataW.trod enc P W 0 (fun _ => true) held fuel t [v] = some y) :
    ∃ (l : Loc) (zs : List Int), (∀ (M : Val) (i : Nat), M i = some l → VR M (.sl i 0 zs.length 1 none) v) ∧ ∀ M, RowOkM M W l (zs.map (AV.int k)) := by
  obtain ⟨l, rows, h1, -, h3, h4⟩ := open_rows (Q := fun cs => ∃ n, cs = [.int k n]) hu hc (by decide) (fun cs' n z h => by
    obtain ⟨m, rfl, _, hw⟩ := DataW.trod_int he h
    exact ⟨m, rfl⟩) hf
  have hz : ∃ zs : List Int, zs.length = rows.length ∧ rows.flatten = zs.map (Value.int k) := by
    clear h3 h4
    induction rows with
    | nil => exact ⟨[], rfl, rfl⟩
    | cons r rows ih =>
      obtain ⟨zs, g1, g2⟩ := ih (fun r hr => h1 r (List.mem_cons_of_mem _ hr))
      obtain ⟨⟨n, rfl⟩, -⟩ := h1 r List.mem_cons_self
      exact ⟨n :: zs, by simp [g1], by simp [g2]⟩
  obtain ⟨zs, g1, g2⟩ := hz
  refine ⟨l, zs, fun M i h => by rw [g1]; exact h3 M i h, fun M => h4 M _ (by rw [g2]; simp) fun j u x hu hx => ?_⟩
  rw [g2] at hx
  simp only [List.getElem?_map, Option.map_eq_some_iff] at hu hx
  obtain ⟨z, hz, rfl⟩ := hu
  obtain ⟨z', hz', rfl⟩ := hx
  rw [hz] at hz'
  cases hz'
  rfl
def CellQ (enc : TypeId × Value → H) (P : Program) (W : World) (held : Bool) (t : TypeId) (v : Value) : Prop := ∃ fuel y, DataW.trod enc P W 0 (fun _ => true) held fuel t [v] = some y
theorem acts_of (hu : P.underlying 25 = some (.slice 2)) (he : P.underlying 2 = some (.int .i64)) (hc : P.cellsOf 2 = 1) : ∀ (rows : List (List Value)) (b : Nat), (∀ r ∈ rows, FitsC (CellQ enc P W held) [.i .i64, .i .i64, .c 25, .i .i64, .i .i64] r) →
    ∃ ps : List (Act × Loc), ps.length = rows.length ∧ (∀ (i : Nat) x, ps[i]? = some x → x.1.p = b + i) ∧ (∀ x ∈ ps, ∀ M, RowOkM M W x.2 (x.1.ns.map (AV.int .i64))) ∧ (∀ M : Val, (∀ (i : Nat) x, ps[i]? = some x → M (b + i) = some x.2) → VRs M (flatA (ps.map (·.1))) rows.flatten)
  | [], b, _ => ⟨[], rfl, by simp, by simp, fun M _ => rfl⟩
  | r :: rows, b, h => by
    obtain ⟨ps, h1, h2, h3, h4⟩ := acts_of hu he hc rows (b + 1) (fun r hr => h r (List.mem_cons_of_mem _ hr))
    obtain ⟨n, _, rfl, _, g1⟩ := (h r List.mem_cons_self).int
    obtain ⟨k, _, rfl, _, g2⟩ := g1.int
    obtain ⟨v, _, rfl, ⟨fuel, y, hv⟩, g3⟩ := g2.cell
    obtain ⟨w, _, rfl, _, g4⟩ := g3.int
    obtain ⟨d, _, rfl, _, g5⟩ := g4.int
    obtain rfl := g5.nil
    obtain ⟨l, zs, k1, k2⟩ := open_ints hu he hc hv
    refine ⟨(⟨n, k, b, none, zs, w, d⟩, l) :: ps, by simp [h1], fun i x hx => ?_, fun x hx => ?_, fun M hM => ?_⟩
    · cases i with
      | zero => cases hx; rfl
      | succ i =>
        have := h2 i x (by simpa using hx)
        omega
    · rcases List.mem_cons.1 hx with rfl | hx
      · exact k2
      · exact h3 x hx
    · have hm := k1 M b (hM 0 _ rfl)
      have ht := h4 M (fun i x hx => by
        have := hM (i + 1) x (by simpa using hx)
        rwa [show b + (i + 1) = b + 1 + i by omega] at this)
      simp only [List.map_cons, flatA, List.flatten_cons, List.cons_append, List.nil_append, VRs]
      exact ⟨_, _, rfl, rfl, _, _, rfl, rfl, _, _, rfl, hm, _, _, rfl, rfl, _, _, rfl, rfl, ht⟩
end
end Go.Proofs.Ytaiboicipbhmhaa.Ah
