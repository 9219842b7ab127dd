/- Vc: a part of the proof: contracts of functions, or plain laws. Conditions: none. -/
import Derived.Test.YtbjlbcihhleclaaVb
namespace Go.Proofs.Ytbjlbcihhleclaa.Ah
open Go Go.WideShapes
attribute [local irreducible] acs aopsK drawK leave condK bindR bindD bindX guardK guardD callB callD callX callP callPv rfunG rfunK yldB yldD
attribute [local go_sem] Nat.reduceEqDiff Nat.reduceLT Nat.reduceAdd Nat.reduceSub Nat.reduceMul Nat.reduceBEq Int.reduceLT Int.reduceAdd Int.reduceMul Int.reduceSub Int.reduceToNat Int.reduceLE Int.reduceEq Int.reduceNeg Nat.reduceLeDiff
attribute [local go_sem] mop mget mfind mput mres keyed AV.isAgg beq_self_eq_true Bool.true_and Option.isSome_some List.set_cons_zero acs_nil acs_blk acs_skip acs_reg acs_dreg acs_freg acs_nam0 acs_nam nones acs_seq acs_cond acs_block acs_exit acs_ret acs_kl acs_loop leave_nil leave_code leave_lp leave_blk aopsK_nil aopsK_cons aopsK_guard bindR_val bindR_need bindR_br bindR_call bindR_ycall acs_rfun rfunG_fn bindR_bad drawK_nil drawK_cons drawK_wat bindW_val bindW_need bindW_br WatL_nil WatL_cons isP_ptr drawK_ext drawK_pur drawK_guard callPv_fn drawK_purv bindD_val bindD_need bindD_br bindD_call bindD_ycall bindD_bad bindX_val bindX_need bindX_br bindX_call guardD_bool guardD_tup grows grows0 List.append_cancel_left_eq List.cons.injEq exists_eq' exists_eq condK_bool guardK_bool guardK_tup sor r0 r1 r2 r3 rC rB rI rP rA rT rS rF rSl rO rbin rcut run1 Env.evals Env.eval Env.get Env.put Env.ins Env.del Env.dels argEnv AV.full AV.cells AV.cell eqCells decide_true decide_false decide_eq_true_eq decide_eq_false_iff_not Bool.not_eq_true' Bool.not_eq_false' true_and and_true false_implies true_implies forall_const Bool.not_true Bool.not_false Bool.false_eq_true Bool.true_eq_false List.getElem?_cons_zero List.getElem?_cons_succ List.length_cons List.length_nil List.length_append List.all_cons List.all_nil Bool.and_true Bool.and_self implies_true List.append_assoc List.cons_append List.nil_append List.append_nil i64_in imin_eq imax_eq cast3 cast0 cast1 cast2 Option.map_none ite_self and_false false_and Option.isSome_some or_true true_or Int.sub_zero Int.mul_one Nat.sub_zero Nat.zero_le Int.cast_ofNat_Int Int.natCast_nonneg Int.toNat_natCast ne_eq not_false_eq_true not_true_eq_false strC blkAt_app blkAt_app0 blkAt_zero blkAt_succ List.set_cons_zero List.set_cons_succ set_app set_app0 Option.map_some Option.bind_some rd setCells lay rdS szOk rapp ownAt lenAt Option.any_some Option.getD_some List.drop_zero List.drop_succ_cons List.take_succ_cons List.take_zero List.drop_nil List.take_nil Nat.lt_irrefl Nat.zero_add Nat.add_zero Nat.mul_one Nat.one_mul Nat.add_assoc Option.some.injEq eq_self
set_option maxHeartbeats 8000000
set_option linter.unusedSimpArgs false
set_option linter.unusedVariables false
structure WI (H X : Heap) (ws : List Int) (q : Nat) : Prop where
  own : blkAt X q = some ⟨ws.map (AV.int .i64), true⟩
  ext : Ext H X
  hq : H.length ≤ q
theorem WI.app {H X : Heap} {ws : List Int} {q : Nat} (h : WI H X ws q) (x : Int) (y : Option Blk) : WI H (X.set q none ++ [y, some ⟨ws.map (AV.int .i64) ++ [AV.int .i64 x], true⟩]) (ws ++ [x]) (X.length + 1) := by
  refine ⟨?_, (h.ext.set h.hq _).to _, by have := h.ext.len; omega⟩
  rw [show X.length + 1 = (X.set q none).length + 1 by rw [List.length_set], blkAt_app, List.map_append]
  rfl
theorem WI.keep {X : Heap} {q b : Nat} {k : Blk} {G : Heap} (hb : b ≠ q) (hk : blkAt X b = some k) : blkAt (X.set q none ++ G) b = some k := by
  have := blkAt_lt hk
  rw [blkAt_los _ _ this, blkAt_set_ne (fun h => hb h.symm)]
  exact hk
theorem WI.len {X : Heap} {q : Nat} {a b : Option Blk} : X.length ≤ (X.set q none ++ [a, b]).length := by
  rw [List.length_append, List.length_set]; omega
theorem f40_q {H X : Heap} {ws : List Int} {b1 q n i : Nat} {x : Int} {E : List AV} {fs : List Fr} {Q : Post} (h : WI H X ws q) (hn : n = ws.length) (hl : ws.length ≤ 100) (h1 : blkAt X b1 = some ⟨E, true⟩) (hx : E[i]? = some (.int .i64 x)) (hi : i < 4)
    (hq : acs Try.prog (.lp c40l4 :: fs) [(1, .ptr b1 0), (3, .sl (X.length + 1) 0 (n + 1) 1 none), (4, .int .i64 ((i + 1 : Nat) : Int))] (X.set q none ++ [some ⟨[.int .i64 x], true⟩, some ⟨ws.map (AV.int .i64) ++ [AV.int .i64 x], true⟩]) Q) :
    acs Try.prog (.lp c40l4 :: fs) [(1, .ptr b1 0), (3, .sl q 0 n 1 none), (4, .int .i64 (i : Int))] X Q := by
  subst hn
  have hw := h.own
  have lq := blkAt_lt hw
  have hlt : (i : Int) < 4 := by omega
  have i1 : (i : Int) + 1 = ((i + 1 : Nat) : Int) := by omega
  have lP : (ws.map (AV.int .i64)).length = ws.length := List.length_map ..
  have tP : List.take ws.length (ws.map (AV.int .i64)) = ws.map (AV.int .i64) := List.take_of_length_le (by rw [lP]; exact Nat.le_refl _)
  have big : (ws.length + 1) * 8 ≤ 140737488355328 := by omega
  generalize ws.map (AV.int .i64) = W at *
  rw [acs_lp]; conv in Fr.code c40l4 => unfold c40l4
  simp (maxSteps:=1000000) (disch:=omega) only [go_sem, ↓reduceIte, reduceCtorEq, h1, hx, hlt, hw, lq, lP, tP, big, i1, blkAt_lo, set_lo, Nat.le_refl]
  exact hq
structure WS (H X : Heap) (ws : List Int) (q b1 b6 : Nat) (E T : List AV) : Prop where
  wi : WI H X ws q
  h1 : blkAt X b1 = some ⟨E, true⟩
  h6 : blkAt X b6 = some ⟨T, true⟩
  n1 : b1 ≠ q
  n6 : b6 ≠ q
theorem WS.app {H X : Heap} {ws : List Int} {q b1 b6 : Nat} {E T : List AV} (h : WS H X ws q b1 b6 E T) (x : Int) (y : Option Blk) : WS H (X.set q none ++ [y, some ⟨ws.map (AV.int .i64) ++ [AV.int .i64 x], true⟩]) (ws ++ [x]) (X.length + 1) b1 b6 E T :=
  ⟨h.wi.app x y, WI.keep h.n1 h.h1, WI.keep h.n6 h.h6, by have := blkAt_lt h.h1; omega, by have := blkAt_lt h.h6; omega⟩
theorem f40_x {H X : Heap} {ws : List Int} {b1 b6 q k xo xp n : Nat} {a x xr xc pr pc : Int} {xk pk : Option Nat} {pp po pn : Nat} {E : List AV} {xl : List Int} {fs : List Fr} {Q : Post} (h : WS H X ws q b1 b6 E [.int .i64 xr, .int .i64 xc, .sl xp xo 3 1 xk, .int .i64 pr, .int .i64 pc, .sl pp po pn 1 pk]) (hl : ws.length ≤ 100) (hs : Sl i64 H xp xo xl) (hx : xl[k]? = some x) (hk : k < 3) (hn : n = ws.length)
    (hq : ∀ X' q', WS H X' (ws ++ [x]) q' b1 b6 E [.int .i64 xr, .int .i64 xc, .sl xp xo 3 1 xk, .int .i64 pr, .int .i64 pc, .sl pp po pn 1 pk] → acs Try.prog (.lp c40l2 :: fs) [(1, .ptr b1 0), (3, .sl q' 0 (n + 1) 1 none), (5, .int .i64 a), (6, .ptr b6 0), (7, .int .i64 ((k + 1 : Nat) : Int))] X' Q) :
    acs Try.prog (.lp c40l2 :: fs) [(1, .ptr b1 0), (3, .sl q 0 n 1 none), (5, .int .i64 a), (6, .ptr b6 0), (7, .int .i64 (k : Int))] X Q := by
  subst hn
  have hq := hq _ _ (h.app x (some ⟨[.int .i64 x], true⟩))
  obtain ⟨cs, oo, hp, hle, hcs⟩ := h.wi.ext.sl hs
  have fx : cs[xo + k]? = some (.int .i64 x) := sl_get hcs hx
  have hw := h.wi.own
  have h6 := h.h6
  have lq := blkAt_lt hw
  have hlt : (k : Int) < 3 := by omega
  have i1 : (k : Int) + 1 = ((k + 1 : Nat) : Int) := by omega
  have lP : (ws.map (AV.int .i64)).length = ws.length := List.length_map ..
  have tP : List.take ws.length (ws.map (AV.int .i64)) = ws.map (AV.int .i64) := List.take_of_length_le (by rw [lP]; exact Nat.le_refl _)
  have big : (ws.length + 1) * 8 ≤ 140737488355328 := by omega
  generalize ws.map (AV.int .i64) = W at *
  rw [acs_lp]; conv in Fr.code c40l2 => unfold c40l2
  simp (maxSteps:=1000000) (disch:=omega) only [go_sem, ↓reduceIte, reduceCtorEq, h6, hp, fx, hlt, hk, hw, lq, lP, tP, big, i1, blkAt_lo, set_lo, Nat.le_refl]
  exact hq
theorem f40_p {H X : Heap} {ws : List Int} {b1 b6 q r c xo xp xn n : Nat} {a x xr xc pr pc : Int} {xk pk : Option Nat} {pp po : Nat} {E : List AV} {pl : List Int} {fs : List Fr} {Q : Post} (h : WS H X ws q b1 b6 E [.int .i64 xr, .int .i64 xc, .sl xp xo xn 1 xk, .int .i64 pr, .int .i64 pc, .sl pp po 9 1 pk]) (hl : ws.length ≤ 100) (hs : Sl i64 H pp po pl) (hx : pl[3 * r + c]? = some x) (hr : r < 3) (hc : c < 3) (hn : n = ws.length)
    (hq : ∀ X' q', WS H X' (ws ++ [x]) q' b1 b6 E [.int .i64 xr, .int .i64 xc, .sl xp xo xn 1 xk, .int .i64 pr, .int .i64 pc, .sl pp po 9 1 pk] → acs Try.prog (.lp c40l0 :: fs) [(1, .ptr b1 0), (3, .sl q' 0 (n + 1) 1 none), (5, .int .i64 a), (6, .ptr b6 0), (8, .int .i64 (r : Int)), (9, .int .i64 ((c + 1 : Nat) : Int))] X' Q) :
    acs Try.prog (.lp c40l0 :: fs) [(1, .ptr b1 0), (3, .sl q 0 n 1 none), (5, .int .i64 a), (6, .ptr b6 0), (8, .int .i64 (r : Int)), (9, .int .i64 (c : Int))] X Q := by
  subst hn
  have hq := hq _ _ (h.app x (some ⟨[.int .i64 x], true⟩))
  obtain ⟨cs, oo, hp, hle, hcs⟩ := h.wi.ext.sl hs
  have fx : cs[po + (3 * r + c)]? = some (.int .i64 x) := sl_get hcs hx
  have hw := h.wi.own
  have h6 := h.h6
  have lq := blkAt_lt hw
  have hlt : (c : Int) < 3 := by omega
  have i1 : (c : Int) + 1 = ((c + 1 : Nat) : Int) := by omega
  have w1 : IntKind.i64.wrap (3 * (r : Int)) = ((3 * r : Nat) : Int) := by rw [i64_in _ (by omega)]; omega
  have w2 : IntKind.i64.wrap (((3 * r : Nat) : Int) + (c : Int)) = ((3 * r + c : Nat) : Int) := by rw [i64_in _ (by omega)]; omega
  have b9 : ((3 * r + c : Nat) : Int) < 9 := by omega
  have b9' : 3 * r + c < 9 := by omega
  have lP : (ws.map (AV.int .i64)).length = ws.length := List.length_map ..
  have tP : List.take ws.length (ws.map (AV.int .i64)) = ws.map (AV.int .i64) := List.take_of_length_le (by rw [lP]; exact Nat.le_refl _)
  have big : (ws.length + 1) * 8 ≤ 140737488355328 := by omega
  generalize ws.map (AV.int .i64) = W at *
  generalize hm : 3 * r + c = m at *
  rw [acs_lp]; conv in Fr.code c40l0 => unfold c40l0
  simp (maxSteps:=1000000) (disch:=omega) only [go_sem, ↓reduceIte, reduceCtorEq, h6, hp, fx, hlt, w1, w2, b9, b9', hw, lq, lP, tP, big, i1, blkAt_lo, set_lo, Nat.le_refl]
  exact hq

theorem f40_ax {H X : Heap} {ws : List Int} {b1 q i n : Nat} {E : List AV} {t : Tk} {fs : List Fr} {Q : Post} (h : WI H X ws q) (h1 : blkAt X b1 = some ⟨E, true⟩) (n1 : b1 ≠ q) (hT : List.take 6 (List.drop (4 + i * 6) E) = t.av) (hE : E.length = 29) (h3 : t.three) (hok : t.ok H) (hi : i < 3) (hl : ws.length ≤ 60) (hn : n = ws.length)
    (hq : ∀ X' q', WI H X' (ws ++ axW t) q' → blkAt X' b1 = some ⟨E, true⟩ → b1 ≠ q' → acs Try.prog (.lp c40l3 :: fs) [(1, .ptr b1 0), (3, .sl q' 0 (n + 9) 1 none), (5, .int .i64 ((i + 1 : Nat) : Int))] X' Q) :
    acs Try.prog (.lp c40l3 :: fs) [(1, .ptr b1 0), (3, .sl q 0 n 1 none), (5, .int .i64 (i : Int))] X Q := by
  subst hn
  obtain ⟨xr, xc, xl, xp, xo, xk, pr, pc, pl, pp, po, pk⟩ := t
  obtain ⟨hx, hp, lx, lp⟩ := hok
  obtain ⟨nx, np⟩ := h3
  simp only at hx hp lx lp nx np
  unfold axW at hq
  unfold Tk.av at hT
  simp only [nx, np] at hT hq
  match xl, nx, pl, np with
  | [x0, x1, x2], _, [p0, p1, p2, p3, p4, p5, p6, p7, p8], _ =>
  have hq : ∀ X' q', WI H X' (ws ++ [x0, x1, x2, p0, p1, p2, p4, p5, p8]) q' → blkAt X' b1 = some ⟨E, true⟩ → b1 ≠ q' → acs Try.prog (.lp c40l3 :: fs) [(1, .ptr b1 0), (3, .sl q' 0 (ws.length + 9) 1 none), (5, .int .i64 ((i + 1 : Nat) : Int))] X' Q := hq
  have hlt : (i : Int) < 3 := by omega
  have i1 : (i : Int) + 1 = ((i + 1 : Nat) : Int) := by omega
  have b29 : 4 + (i * 6 + 6) ≤ 29 := by omega
  have l1 := blkAt_lt h1
  have lq := blkAt_lt h.own
  rw [acs_lp]; conv in Fr.code c40l3 => unfold c40l3
  simp (maxSteps:=1000000) (disch:=omega) only [go_sem, ↓reduceIte, reduceCtorEq, hlt, hi, h1, hT, hE, b29, i1]
  have w0 : WS H (X ++ [some ⟨[.int .i64 xr, .int .i64 xc, .sl xp xo 3 1 xk, .int .i64 pr, .int .i64 pc, .sl pp po 9 1 pk], true⟩]) ws q b1 X.length E [.int .i64 xr, .int .i64 xc, .sl xp xo 3 1 xk, .int .i64 pr, .int .i64 pc, .sl pp po 9 1 pk] := ⟨⟨by rw [blkAt_lo _ lq]; exact h.own, h.ext.to _, h.hq⟩, by rw [blkAt_lo _ l1]; exact h1, by rw [blkAt_app0]; rfl, n1, by omega⟩
  refine f40_x (k := 0) w0 (by (try simp only [List.length_append, List.length_cons, List.length_nil]); omega) hx rfl (by omega) (by (try simp only [List.length_append, List.length_cons, List.length_nil]) <;> omega) ?_
  intro X1 q1 w1
  refine f40_x (k := 1) w1 (by (try simp only [List.length_append, List.length_cons, List.length_nil]); omega) hx rfl (by omega) (by (try simp only [List.length_append, List.length_cons, List.length_nil]) <;> omega) ?_
  intro X2 q2 w2
  refine f40_x (k := 2) w2 (by (try simp only [List.length_append, List.length_cons, List.length_nil]); omega) hx rfl (by omega) (by (try simp only [List.length_append, List.length_cons, List.length_nil]) <;> omega) ?_
  intro X3 q3 w3
  rw [acs_lp]; conv in Fr.code c40l2 => unfold c40l2
  simp (maxSteps:=1000000) (disch:=omega) only [go_sem, ↓reduceIte, reduceCtorEq]
  rw [acs_lp]; conv in Fr.code c40l1 => unfold c40l1
  simp (maxSteps:=1000000) (disch:=omega) only [go_sem, ↓reduceIte, reduceCtorEq]
  refine f40_p (r := 0) (c := 0) w3 (by (try simp only [List.length_append, List.length_cons, List.length_nil]); omega) hp rfl (by omega) (by omega) (by (try simp only [List.length_append, List.length_cons, List.length_nil]) <;> omega) ?_
  intro X4 q4 w4
  refine f40_p (r := 0) (c := 1) w4 (by (try simp only [List.length_append, List.length_cons, List.length_nil]); omega) hp rfl (by omega) (by omega) (by (try simp only [List.length_append, List.length_cons, List.length_nil]) <;> omega) ?_
  intro X5 q5 w5
  refine f40_p (r := 0) (c := 2) w5 (by (try simp only [List.length_append, List.length_cons, List.length_nil]); omega) hp rfl (by omega) (by omega) (by (try simp only [List.length_append, List.length_cons, List.length_nil]) <;> omega) ?_
  intro X6 q6 w6
  rw [acs_lp]; conv in Fr.code c40l0 => unfold c40l0
  simp (maxSteps:=1000000) (disch:=omega) only [go_sem, ↓reduceIte, reduceCtorEq]
  rw [acs_lp]; conv in Fr.code c40l1 => unfold c40l1
  simp (maxSteps:=1000000) (disch:=omega) only [go_sem, ↓reduceIte, reduceCtorEq]
  refine f40_p (r := 1) (c := 1) w6 (by (try simp only [List.length_append, List.length_cons, List.length_nil]); omega) hp rfl (by omega) (by omega) (by (try simp only [List.length_append, List.length_cons, List.length_nil]) <;> omega) ?_
  intro X7 q7 w7
  refine f40_p (r := 1) (c := 2) w7 (by (try simp only [List.length_append, List.length_cons, List.length_nil]); omega) hp rfl (by omega) (by omega) (by (try simp only [List.length_append, List.length_cons, List.length_nil]) <;> omega) ?_
  intro X8 q8 w8
  rw [acs_lp]; conv in Fr.code c40l0 => unfold c40l0
  simp (maxSteps:=1000000) (disch:=omega) only [go_sem, ↓reduceIte, reduceCtorEq]
  rw [acs_lp]; conv in Fr.code c40l1 => unfold c40l1
  simp (maxSteps:=1000000) (disch:=omega) only [go_sem, ↓reduceIte, reduceCtorEq]
  refine f40_p (r := 2) (c := 2) w8 (by (try simp only [List.length_append, List.length_cons, List.length_nil]); omega) hp rfl (by omega) (by omega) (by (try simp only [List.length_append, List.length_cons, List.length_nil]) <;> omega) ?_
  intro X9 q9 w9
  rw [acs_lp]; conv in Fr.code c40l0 => unfold c40l0
  simp (maxSteps:=1000000) (disch:=omega) only [go_sem, ↓reduceIte, reduceCtorEq]
  rw [acs_lp]; conv in Fr.code c40l1 => unfold c40l1
  simp (maxSteps:=1000000) (disch:=omega) only [go_sem, ↓reduceIte, reduceCtorEq, i1]
  have e9 : ws ++ [x0] ++ [x1] ++ [x2] ++ [p0] ++ [p1] ++ [p2] ++ [p4] ++ [p5] ++ [p8] = ws ++ [x0, x1, x2, p0, p1, p2, p4, p5, p8] := by simp
  have fin := w9.wi
  rw [e9] at fin
  exact hq _ _ fin w9.h1 w9.n1
theorem axW_len {t : Tk} (h : t.three) : (axW t).length = 9 := by unfold axW; simp [h.x, h.p]
theorem f40_fin {H X : Heap} {ws xs : List Int} {q : Nat} (h : WI H X ws q) (y : Option Blk) : WI H (X.set q none ++ [y, some ⟨ws.map (AV.int .i64) ++ xs.map (AV.int .i64), true⟩]) (ws ++ xs) (X.length + 1) := by
  refine ⟨?_, (h.ext.set h.hq _).to _, by have := h.ext.len; omega⟩
  rw [show X.length + 1 = (X.set q none).length + 1 by rw [List.length_set], blkAt_app, List.map_append]
  rfl
theorem f40 {e : Es} {H : Heap} (hok : e.ok H) (ha : e.a.three) (hb : e.b.three) (hc : e.c.three) : ACallE Try.prog 40 [.agg e.av] H fun v H' => ∃ q, v = .sl q 0 38 1 none ∧ blkAt H' q = some ⟨(wds e).map (AV.int .i64), true⟩ ∧ H.length ≤ q := by
  refine acallE (fun v Hf h => acallK40 (by simp) h) (acs_start ?_)
  have full : (AV.agg e.av).full = true := rfl
  have len : e.av.length = 29 := rfl
  have all : e.av.all AV.cell = true := rfl
  have tk : List.take 29 e.av = e.av := rfl
  have z0 : e.av[0]? = some (.int .i64 e.t0) := rfl
  have z1 : e.av[1]? = some (.int .i64 e.t1) := rfl
  have z2 : e.av[2]? = some (.int .i64 e.t2) := rfl
  have z3 : e.av[3]? = some (.int .i64 e.t3) := rfl
  have la := axW_len ha
  have lb := axW_len hb
  have lc := axW_len hc
  unfold c40
  simp (maxSteps:=1000000) (disch:=omega) only [go_sem, ↓reduceIte, reduceCtorEq, full, len, all, tk]
  rw [acs_lp]; conv in Fr.code c40l4 => unfold c40l4
  simp (maxSteps:=1000000) (disch:=omega) only [go_sem, ↓reduceIte, reduceCtorEq, z0]
  have w1 : WI H (H ++ [some ⟨e.av, true⟩, some ⟨[.int .i64 e.t0], true⟩, some ⟨[.int .i64 e.t0], true⟩]) [e.t0] (H.length + 2) := ⟨by rw [blkAt_app]; rfl, Ext.app _ _, by omega⟩
  have h1 : blkAt (H ++ [some ⟨e.av, true⟩, some ⟨[.int .i64 e.t0], true⟩, some ⟨[.int .i64 e.t0], true⟩]) H.length = some ⟨e.av, true⟩ := by rw [blkAt_app0]; rfl
  have m1 : H.length < (H ++ [(some ⟨e.av, true⟩ : Option Blk), (some ⟨[.int .i64 e.t0], true⟩ : Option Blk), (some ⟨[.int .i64 e.t0], true⟩ : Option Blk)]).length := by simp
  generalize H ++ [some ⟨e.av, true⟩, some ⟨[.int .i64 e.t0], true⟩, some ⟨[.int .i64 e.t0], true⟩] = X1 at *
  refine f40_q (i := 1) (n := 1) w1 rfl (by simp) h1 z1 (by omega) ?_
  have w2 := w1.app e.t1 (some ⟨[.int .i64 e.t1], true⟩)
  have h2 := WI.keep (G := [some ⟨[.int .i64 e.t1], true⟩, some ⟨[e.t0].map (AV.int .i64) ++ [AV.int .i64 e.t1], true⟩]) (show H.length ≠ H.length + 2 by omega) h1
  have m2 := Nat.lt_of_lt_of_le m1 (WI.len (X := X1) (q := H.length + 2) (a := some ⟨[.int .i64 e.t1], true⟩) (b := some ⟨[e.t0].map (AV.int .i64) ++ [AV.int .i64 e.t1], true⟩))
  generalize X1.set (H.length + 2) none ++ [some ⟨[.int .i64 e.t1], true⟩, some ⟨[e.t0].map (AV.int .i64) ++ [AV.int .i64 e.t1], true⟩] = X2 at *
  refine f40_q (i := 2) (n := 2) w2 rfl (by simp) h2 z2 (by omega) ?_
  have n2 : H.length ≠ X1.length + 1 := by omega
  have w3 := w2.app e.t2 (some ⟨[.int .i64 e.t2], true⟩)
  have h3 := WI.keep (G := [some ⟨[.int .i64 e.t2], true⟩, some ⟨([e.t0] ++ [e.t1]).map (AV.int .i64) ++ [AV.int .i64 e.t2], true⟩]) n2 h2
  have m3 := Nat.lt_of_lt_of_le m2 (WI.len (X := X2) (q := X1.length + 1) (a := some ⟨[.int .i64 e.t2], true⟩) (b := some ⟨([e.t0] ++ [e.t1]).map (AV.int .i64) ++ [AV.int .i64 e.t2], true⟩))
  generalize X2.set (X1.length + 1) none ++ [some ⟨[.int .i64 e.t2], true⟩, some ⟨([e.t0] ++ [e.t1]).map (AV.int .i64) ++ [AV.int .i64 e.t2], true⟩] = X3 at *
  refine f40_q (i := 3) (n := 3) w3 rfl (by simp) h3 z3 (by omega) ?_
  have n3 : H.length ≠ X2.length + 1 := by omega
  have w4 := w3.app e.t3 (some ⟨[.int .i64 e.t3], true⟩)
  have h4 := WI.keep (G := [some ⟨[.int .i64 e.t3], true⟩, some ⟨([e.t0] ++ [e.t1] ++ [e.t2]).map (AV.int .i64) ++ [AV.int .i64 e.t3], true⟩]) n3 h3
  generalize X3.set (X2.length + 1) none ++ [some ⟨[.int .i64 e.t3], true⟩, some ⟨([e.t0] ++ [e.t1] ++ [e.t2]).map (AV.int .i64) ++ [AV.int .i64 e.t3], true⟩] = X4 at *
  have n4 : H.length ≠ X3.length + 1 := by omega
  rw [acs_lp]; conv in Fr.code c40l4 => unfold c40l4
  simp (maxSteps:=1000000) (disch:=omega) only [go_sem, ↓reduceIte, reduceCtorEq]
  refine f40_ax (i := 0) (n := 4) w4 h4 n4 rfl rfl ha hok.ha (by omega) (by simp) rfl ?_
  intro Y1 q1 v1 k1 d1
  refine f40_ax (i := 1) (n := 13) v1 k1 d1 rfl rfl hb hok.hb (by omega) (by simp [la]) (by simp [la]) ?_
  intro Y2 q2 v2 k2 d2
  refine f40_ax (i := 2) (n := 22) v2 k2 d2 rfl rfl hc hok.hc (by omega) (by simp [la, lb]) (by simp [la, lb]) ?_
  intro Y3 q3 v3 k3 d3
  have l31 : ([e.t0] ++ [e.t1] ++ [e.t2] ++ [e.t3] ++ axW e.a ++ axW e.b ++ axW e.c).length = 31 := by simp [la, lb, lc]
  have s0 : e.av[22]? = some (.int .i64 e.st) := rfl
  have s1 : e.av[23]? = some (.int .i64 e.co) := rfl
  have s2 : e.av[24]? = some (.int .i64 e.o0) := rfl
  have s3 : e.av[25]? = some (.int .i64 e.o1) := rfl
  have s4 : e.av[26]? = some (.int .i64 e.o2) := rfl
  have s5 : e.av[27]? = some (.int .i64 e.o3) := rfl
  have s6 : e.av[28]? = some (.bool e.sat) := rfl
  have hw := v3.own
  have lq := blkAt_lt hw
  have l1 := blkAt_lt k3
  have lP : (([e.t0] ++ [e.t1] ++ [e.t2] ++ [e.t3] ++ axW e.a ++ axW e.b ++ axW e.c).map (AV.int .i64)).length = 31 := by rw [List.length_map, l31]
  have tP : List.take 31 (([e.t0] ++ [e.t1] ++ [e.t2] ++ [e.t3] ++ axW e.a ++ axW e.b ++ axW e.c).map (AV.int .i64)) = ([e.t0] ++ [e.t1] ++ [e.t2] ++ [e.t3] ++ axW e.a ++ axW e.b ++ axW e.c).map (AV.int .i64) := List.take_of_length_le (by rw [lP]; exact Nat.le_refl _)
  have hwd : ∀ s : Int, (if e.sat then (1 : Int) else 0) = s → ([e.t0] ++ [e.t1] ++ [e.t2] ++ [e.t3] ++ axW e.a ++ axW e.b ++ axW e.c) ++ [e.st, e.co, e.o0, e.o1, e.o2, e.o3] ++ [s] = wds e := fun s hs => by unfold wds; rw [hs]; simp
  have f1 := f40_fin v3 (xs := [e.st, e.co, e.o0, e.o1, e.o2, e.o3]) (some ⟨[.int .i64 e.st, .int .i64 e.co, .int .i64 e.o0, .int .i64 e.o1, .int .i64 e.o2, .int .i64 e.o3], true⟩)
  generalize ([e.t0] ++ [e.t1] ++ [e.t2] ++ [e.t3] ++ axW e.a ++ axW e.b ++ axW e.c) = WW at *
  rw [acs_lp]; conv in Fr.code c40l3 => unfold c40l3
  generalize hWm : WW.map (AV.int .i64) = WM at *
  simp (maxSteps:=1000000) (disch:=omega) only [go_sem, ↓reduceIte, reduceCtorEq, k3, s0, s1, s2, s3, s4, s5, s6, hw, lq, l1, lP, tP, blkAt_lo, set_lo]
  have kz := WI.keep (G := [some ⟨[.int .i64 e.st, .int .i64 e.co, .int .i64 e.o0, .int .i64 e.o1, .int .i64 e.o2, .int .i64 e.o3], true⟩, some ⟨WM ++ [.int .i64 e.st, .int .i64 e.co, .int .i64 e.o0, .int .i64 e.o1, .int .i64 e.o2, .int .i64 e.o3], true⟩]) d3 k3
  have f1 : WI H (Y3.set q3 none ++ [some ⟨[.int .i64 e.st, .int .i64 e.co, .int .i64 e.o0, .int .i64 e.o1, .int .i64 e.o2, .int .i64 e.o3], true⟩, some ⟨WM ++ [.int .i64 e.st, .int .i64 e.co, .int .i64 e.o0, .int .i64 e.o1, .int .i64 e.o2, .int .i64 e.o3], true⟩]) (WW ++ [e.st, e.co, e.o0, e.o1, e.o2, e.o3]) (Y3.length + 1) := f1
  have o1 := f1.own
  rw [List.map_append, hWm] at o1
  have o1 : blkAt (Y3.set q3 none ++ [some ⟨[.int .i64 e.st, .int .i64 e.co, .int .i64 e.o0, .int .i64 e.o1, .int .i64 e.o2, .int .i64 e.o3], true⟩, some ⟨WM ++ [.int .i64 e.st, .int .i64 e.co, .int .i64 e.o0, .int .i64 e.o1, .int .i64 e.o2, .int .i64 e.o3], true⟩]) (Y3.length + 1) = some ⟨WM ++ [.int .i64 e.st, .int .i64 e.co, .int .i64 e.o0, .int .i64 e.o1, .int .i64 e.o2, .int .i64 e.o3], true⟩ := o1
  generalize Y3.set q3 none ++ [some ⟨[.int .i64 e.st, .int .i64 e.co, .int .i64 e.o0, .int .i64 e.o1, .int .i64 e.o2, .int .i64 e.o3], true⟩, some ⟨WM ++ [.int .i64 e.st, .int .i64 e.co, .int .i64 e.o0, .int .i64 e.o1, .int .i64 e.o2, .int .i64 e.o3], true⟩] = Z1 at *
  have lo1 := blkAt_lt o1
  have lz := blkAt_lt kz
  have mm : (WW ++ [e.st, e.co, e.o0, e.o1, e.o2, e.o3]).map (AV.int .i64) = WM ++ [.int .i64 e.st, .int .i64 e.co, .int .i64 e.o0, .int .i64 e.o1, .int .i64 e.o2, .int .i64 e.o3] := by rw [List.map_append, hWm]; rfl
  have lP2 : (WM ++ [AV.int .i64 e.st, .int .i64 e.co, .int .i64 e.o0, .int .i64 e.o1, .int .i64 e.o2, .int .i64 e.o3]).length = 37 := by rw [List.length_append, lP]; rfl
  have tP2 : List.take 37 (WM ++ [AV.int .i64 e.st, .int .i64 e.co, .int .i64 e.o0, .int .i64 e.o1, .int .i64 e.o2, .int .i64 e.o3]) = WM ++ [AV.int .i64 e.st, .int .i64 e.co, .int .i64 e.o0, .int .i64 e.o1, .int .i64 e.o2, .int .i64 e.o3] := List.take_of_length_le (by rw [lP2]; exact Nat.le_refl _)
  rw [← mm] at o1 lP2 tP2
  have fz := fun x => f1.app x (some ⟨[.int .i64 x], true⟩)
  generalize (WW ++ [e.st, e.co, e.o0, e.o1, e.o2, e.o3]).map (AV.int .i64) = WN at *
  cases hsat : e.sat with
  | true =>
    rw [hsat] at s6
    have hw1 := hwd 1 (by rw [hsat]; rfl)
    have fz := fz 1
    rw [hw1] at fz
    simp (maxSteps:=1000000) (disch:=omega) only [go_sem, ↓reduceIte, reduceCtorEq, kz, s6, o1, lo1, lP2, tP2, blkAt_lo, set_lo]
    refine fin_e (by simp) (by simp (maxSteps:=1000000) (disch:=omega) only [resVal, resAll, resOne, rs40, Env.get, go_sem, ↓reduceIte, reduceCtorEq] <;> rfl) fz.ext ⟨_, rfl, fz.own, fz.hq⟩
  | false =>
    rw [hsat] at s6
    have hw1 := hwd 0 (by rw [hsat]; rfl)
    have fz := fz 0
    rw [hw1] at fz
    simp (maxSteps:=1000000) (disch:=omega) only [go_sem, ↓reduceIte, reduceCtorEq, kz, s6, o1, lo1, lP2, tP2, blkAt_lo, set_lo]
    refine fin_e (by simp) (by simp (maxSteps:=1000000) (disch:=omega) only [resVal, resAll, resOne, rs40, Env.get, go_sem, ↓reduceIte, reduceCtorEq] <;> rfl) fz.ext ⟨_, rfl, fz.own, fz.hq⟩

theorem f43_rest_bad {X : Heap} {zs : List Int} {q N m : Nat} {cq : Option Nat} {Q : Post} {fs : List Fr} {w : AV} {n : Int} (hs : Sl i64 X q N zs) (hm : zs.length = m) (hl : m ≤ 1000000)
    (hq : Q .ret [(4, .nils), (5, .int .i64 9)] X) :
    ∀ (r k : Nat), k + r = m → (∃ j, k ≤ j ∧ j < m ∧ zs.getD j 0 ≠ 0) → acs Try.prog (.lp c43l0 :: fs) [(1, .int .i64 n), (6, w), (32, .sl q N m 1 cq), (33, .int .i64 (m : Int)), (34, .int .i64 (k : Int))] X Q := by
  intro r
  obtain ⟨cs, o, hp, hle, hcs⟩ := hs
  induction r with
  | zero =>
    rintro k hr ⟨j, h1, h2, _⟩
    omega
  | succ r ih =>
    rintro k hr ⟨j, h1, h2, h3⟩
    have hlt : (k : Int) < (m : Int) := by omega
    have hkz : zs[k]? = some (zs.getD k 0) := by
      rw [List.getD_eq_getElem?_getD, List.getElem?_eq_getElem (by omega)]; rfl
    have hc : cs[N + k]? = some (.int .i64 (zs.getD k 0)) := sl_get hcs hkz
    by_cases hz : zs.getD k 0 = 0
    · have next := ih (k + 1) (by omega) ⟨j, by
        rcases Nat.lt_or_ge k j with h | h
        · omega
        · obtain rfl : j = k := by omega
          exact absurd hz h3, h2, h3⟩
      rw [hz] at hc
      rw [acs_lp]; conv in Fr.code c43l0 => unfold c43l0
      simp (maxSteps:=1000000) (disch:=omega) only [go_sem, ↓reduceIte, reduceCtorEq, hlt, hp, hc]
      exact next
    · generalize zs.getD k 0 = z at *
      rw [acs_lp]; conv in Fr.code c43l0 => unfold c43l0
      simp (maxSteps:=1000000) (disch:=omega) only [go_sem, ↓reduceIte, reduceCtorEq, hlt, hp, hc, hz]
      exact hq
theorem f43_bad {H : Heap} {ws : List Int} {K p N off : Nat} {cs : List AV} {cp : Option Nat} {o : Bool} (hp : blkAt H p = some ⟨cs, o⟩) (hcs : (cs.drop off).take (8 * K) = ws.map (AV.int .i64)) (hK : ws.length = 8 * K) (hl : K ≤ 1000000) (hN : (N + 7) / 8 = K) (h0 : 0 < N) (hz : ∃ j, j < 8 * K - N ∧ (ws.drop N).getD j 0 ≠ 0) :
    ACallE Try.prog 43 [.sl p off K 8 cp, .int .i64 (N : Int)] H fun v H' => v = .tup [.nils, .int .i64 9] := by
  refine acallE (fun v Hf h => acallK43 (by simp) h) (acs_start ?_)
  have g := fun G => f63 (N : Int) G (by omega)
  have e : ((N : Int) + 7) / 8 = (K : Int) := by omega
  rw [e] at g
  have hn : ¬ (N : Int) < 0 := by omega
  unfold c43
  simp (maxSteps:=1000000) (disch:=omega) only [go_sem, ↓reduceIte, reduceCtorEq, hn]
  first | refine callB_intro (g _) ?_ | refine callD_intro (g _) ?_ | refine callP_intro (fun _ => (g _)) ?_ | refine callX_pure (g _) ?_
  simp (maxSteps:=1000000) (disch:=omega) only [go_sem, ↓reduceIte, reduceCtorEq]
  have j := f43_join (n := (N : Int)) (cp := cp) (fs := ?_) (Q := ?_) hp hcs hK hl ?_ K 0 .nils H (by omega) ⟨Ext.refl _, .inl ⟨rfl, rfl⟩⟩
  · exact j
  intro w X d
  obtain ⟨he, h2⟩ := d
  rcases h2 with ⟨h3, _⟩ | ⟨q, h3, rfl, h5⟩
  · omega
  have h8 : (N : Int) ≤ ((8 * K : Nat) : Int) := by omega
  have h9 : N ≤ 8 * K := by omega
  rw [List.take_of_length_le (by omega)] at h5
  have s1 : Sl i64 X q 0 ws := Sl.whole (o := true) h5
  have s2 := s1.drop (n := N) (by omega)
  rw [Nat.zero_add] at s2
  simp (maxSteps:=1000000) (disch:=omega) only [go_sem, ↓reduceIte, reduceCtorEq, h8, h9]
  obtain ⟨j, j1, j2⟩ := hz
  refine f43_rest_bad s2 (by simp; omega) (by omega) ?_ (8 * K - N) 0 (by omega) ⟨j, by omega, j1, j2⟩
  refine fin_e (by simp) (by simp (maxSteps:=1000000) (disch:=omega) only [resVal, resAll, resOne, rs43, Env.get, go_sem, ↓reduceIte, reduceCtorEq] <;> rfl) he rfl

def sN (s : Sn) : Nat := ((s.d + 7) / 8).toNat
def sW (s : Sn) : List Int := s.p.take (8 * sN s)
def sR (s : Sn) : List Int × Int := aspec w0 ((sW s).take s.d.toNat)
def doneB (s : Sn) : Bool := mrkB s.a s.b s.c s.d && ((List.range (sN s)).all fun j => s.h.getD j false) && (((sW s).drop s.d.toNat).all fun z => decide (z = 0)) && decide ((sR s).2 = 0) && okW (sR s).1
def DoneT (s : Sn) (v : AV) (H' : Heap) : Prop := (doneB s = false ∧ v = .tup [.agg zEs, .bool false]) ∨ (doneB s = true ∧ ∃ f : Es, v = .tup [.agg f.av, .bool true] ∧ f.eqv (ofE (sR s).1) ∧ f.ok H')
theorem aspec_len {bs d : List Int} (h : (aspec bs d).2 = 0) : (aspec bs d).1.length = bs.length := by
  unfold aspec at h ⊢
  split at h
  · cases h
  · split at h
    · cases h
    · split at h
      · cases h
      · rename_i h1 h2 h3
        rw [if_neg h1, if_neg h2, if_neg h3]
        cases hap : ap d bs 0 (d.drop ((bs.length + 59) / 60)) [] with
        | none => rw [hap] at h; cases h
        | some R =>
          obtain ⟨rn, e, hl, _⟩ := ap_marks d bs 0 _ _ _ hap
          simp only
          rw [e, List.nil_append, hl]
theorem Sn.flat {s : Sn} (h : s.ok) {n : Nat} : (s.av.drop 9).take (8 * n) = (s.p.take (8 * n)).map (AV.int .i64) := by
  unfold Sn.av
  have hl : (s.h.map AV.bool).length = 5 := by simp [h.h]
  rw [show (9 : Nat) = 5 + 1 + 1 + 1 + 1 from rfl]
  simp only [List.drop_succ_cons]
  rw [← hl, List.drop_left, ← List.map_take]
theorem f21_any {c0 c1 c2 c3 c4 c5 : Int} {s : Sn} {H : Heap} (hm : mayB c0 c1 c2 c3 c4 c5 = true) (hs : s.ok) :
    ACallE Try.prog 21 [.agg [.int .i64 c0, .int .i64 c1, .int .i64 c2, .int .i64 c3, .int .i64 c4, .int .i64 c5], .agg s.av] H fun v H' => DoneT s v H' := by
  cases hk : mrkB s.a s.b s.c s.d with
  | false =>
    have hD : doneB s = false := by unfold doneB; rw [hk]; simp
    exact (f21_bad hm hs hk).mono fun v H' _ h => .inl ⟨hD, h⟩
  | true =>
    have d39 := mrkB_d39 hk
    cases hh : (List.range (sN s)).all fun j => s.h.getD j false with
    | false =>
      have hD : doneB s = false := by unfold doneB; rw [hh]; simp
      rw [List.all_eq_false] at hh
      obtain ⟨j, j1, j2⟩ := hh
      rw [List.mem_range] at j1
      refine (f21_no hm hs hk ⟨j, by unfold sN at j1; omega, by simpa using j2⟩).mono fun v H' _ h => .inl ⟨hD, h⟩
    | true =>
      obtain ⟨n, hsn⟩ : ∃ n, sN s = n := ⟨_, rfl⟩
      obtain ⟨N, hN⟩ : ∃ N : Nat, s.d = (N : Int) := ⟨s.d.toNat, by omega⟩
      have hNt : s.d.toNat = N := by omega
      have hnn : (s.d + 7) / 8 = (n : Int) := by unfold sN at hsn; omega
      have n5 : n ≤ 5 := by omega
      have n5' : (n : Int) ≤ 5 := by omega
      have hNn : (N + 7) / 8 = n := by omega
      have N0 : 0 < N := by omega
      rw [hsn, List.all_eq_true] at hh
      have hh : ∀ j, j < n → s.h.getD j false = true := fun j hj => hh j (List.mem_range.2 hj)
      have hWs : sW s = s.p.take (8 * n) := by unfold sW; rw [hsn]
      have lws : (sW s).length = 8 * n := by rw [hWs, List.length_take, hs.p]; omega
      have hp := Sn.flat hs (n := n)
      rw [← hWs] at hp
      have len := Sn.len hs
      have full := s.full
      have all := s.all
      have tk := Sn.tk hs
      have drp := Sn.drp hs
      have t4 : List.take 4 s.av = [.int .i64 s.a, .int .i64 s.b, .int .i64 s.c, .int .i64 s.d] := rfl
      have z3 : s.av[3]? = some (.int .i64 s.d) := rfl
      have hDk : doneB s = ((((sW s).drop N).all fun z => decide (z = 0)) && decide ((sR s).2 = 0) && okW (sR s).1) := by
        unfold doneB
        rw [hk, hsn, hNt, List.all_eq_true.2 (fun j hj => hh j (List.mem_range.1 hj))]
        simp
      have hRs : aspec w0 ((sW s).take N) = sR s := by unfold sR; rw [hNt]
      refine acallE (fun v Hf h => acallK21 (by simp) h) (acs_start ?_)
      have g17 := fun (G : Heap) => f17 (a := s.a) (b := s.b) (c := s.c) (d := s.d) (H := G)
      rw [hk] at g17
      have g38 := fun (G : Heap) => f38 (a := s.a) (b := s.b) (c := s.c) (d := s.d) (H := G) d39
      rw [hnn] at g38
      unfold c21
      simp (maxSteps:=1000000) (disch:=omega) only [go_sem, ↓reduceIte, reduceCtorEq, full, len, all, tk, drp]
      first | refine callBE (f31 hm) ?_ | refine callDE (f31 hm) ?_ | refine callXE (f31 hm) ?_
      rintro v X hx ⟨q, rfl, hq, hql⟩
      have hX : Ext H X := (Ext.app _ _).trans hx
      have b1 : blkAt X (H.length + 1) = some ⟨s.av, true⟩ := hx.blk (by simp only [go_sem, ↓reduceIte, reduceCtorEq])
      have b2 : blkAt X (H.length + 2) = some ⟨zEs, true⟩ := hx.blk (by simp only [go_sem, ↓reduceIte, reduceCtorEq]; rfl)
      have l1 := blkAt_lt b1
      have l2 := blkAt_lt b2
      have z29 : zEs.length = 29 := rfl
      have zd : List.drop 29 zEs = [] := rfl
      have g42 := fun (cp : Option Nat) => f42_yes (b := H.length + 1) (off := 4) (n := n) (cp := cp) (cs := s.av) (o := true) (f := fun j => s.h.getD j false) (H := X) b1 (fun j hj => Sn.has hs (by omega)) (by omega) hh
      simp (maxSteps:=1000000) (disch:=omega) only [go_sem, ↓reduceIte, reduceCtorEq, b1, l1, len, t4, blkAt_lo]
      first | refine callB_intro (g17 _) ?_ | refine callD_intro (g17 _) ?_ | refine callP_intro (fun _ => (g17 _)) ?_ | refine callX_pure (g17 _) ?_
      simp (maxSteps:=1000000) (disch:=omega) only [go_sem, ↓reduceIte, reduceCtorEq, b1, l1, len, t4, blkAt_lo]
      first | refine callB_intro (g38 _) ?_ | refine callD_intro (g38 _) ?_ | refine callP_intro (fun _ => (g38 _)) ?_ | refine callX_pure (g38 _) ?_
      simp (maxSteps:=1000000) (disch:=omega) only [go_sem, ↓reduceIte, reduceCtorEq, b1, l1, len, t4, blkAt_lo, n5, n5']
      first | refine callB_intro (g42 _) ?_ | refine callD_intro (g42 _) ?_ | refine callP_intro (fun _ => (g42 _)) ?_ | refine callX_pure (g42 _) ?_
      simp (maxSteps:=1000000) (disch:=omega) only [go_sem, ↓reduceIte, reduceCtorEq, b1, l1, len, t4, z3, blkAt_lo, n5, n5']
      cases hz : ((sW s).drop N).all fun z => decide (z = 0) with
      | false =>
        rw [hz] at hDk
        rw [List.all_eq_false] at hz
        obtain ⟨z, z1, z2⟩ := hz
        obtain ⟨j, hj⟩ := List.mem_iff_getElem?.1 z1
        have hjl : j < ((sW s).drop N).length := by
          rcases Nat.lt_or_ge j ((sW s).drop N).length with h | h
          · exact h
          · rw [List.getElem?_eq_none h] at hj; cases hj
        have g43 := fun (cp : Option Nat) => f43_bad (H := X) (ws := sW s) (K := n) (p := H.length + 1) (N := N) (off := 9) (cs := s.av) (cp := cp) (o := true) b1 hp lws (by omega) hNn N0 ⟨j, by rw [List.length_drop, lws] at hjl; exact hjl, by rw [List.getD_eq_getElem?_getD, hj]; simpa using z2⟩
        rw [← hN] at g43
        first | refine callBE (g43 _) ?_ | refine callDE (g43 _) ?_ | refine callXE (g43 _) ?_
        rintro v Y hy rfl
        have c2 := hy.blk b2
        have m2 := blkAt_lt c2
        simp (maxSteps:=1000000) (disch:=omega) only [go_sem, ↓reduceIte, reduceCtorEq, c2, m2, z29, zd]
        refine fin_e (by simp) (by simp (maxSteps:=1000000) (disch:=omega) only [resVal, resAll, resOne, rs21, Env.get, go_sem, ↓reduceIte, reduceCtorEq, blkAt_set_self m2] <;> rfl) ((hX.trans hy).set (by omega) _) (.inl ⟨by rw [hDk]; simp, rfl⟩)
      | true =>
        rw [hz] at hDk
        rw [List.all_eq_true] at hz
        have g43 := fun (cp : Option Nat) => f43 (H := X) (ws := sW s) (K := n) (p := H.length + 1) (N := N) (off := 9) (cs := s.av) (cp := cp) (o := true) b1 hp lws (by omega) hNn N0 (fun z hzz => by simpa using hz z hzz)
        rw [← hN] at g43
        first | refine callBE (g43 _) ?_ | refine callDE (g43 _) ?_ | refine callXE (g43 _) ?_
        rintro v Y hy ⟨w, rfl, r, off, cp, rfl, hr⟩
        have c2 := hy.blk b2
        have m2 := blkAt_lt c2
        have hqY := hy.blk hq
        have lt1 : ((sW s).take N).length ≤ 100000 := by rw [List.length_take]; omega
        have g44 := f44_any (c1 := none) (c2 := cp) (Sl.whole (o := true) hqY) hr lt1 (by rw [w0_len]; omega)
        rw [hRs, w0_len] at g44
        simp (maxSteps:=1000000) (disch:=omega) only [go_sem, ↓reduceIte, reduceCtorEq]
        first | refine callB_intro (g44) ?_ | refine callD_intro (g44) ?_ | refine callP_intro (fun _ => (g44)) ?_ | refine callX_pure (g44) ?_
        by_cases h0 : (sR s).2 = 0
        · have l38 : (sR s).1.length = 38 := by rw [← hRs] at h0 ⊢; rw [aspec_len h0, w0_len]
          have b3 : blkAt (rowheap (sR s) Y) Y.length = some ⟨(sR s).1.map (AV.int .i64), false⟩ := by unfold rowheap; rw [blkAt_app0]; rfl
          have g45 := f45_any (cp := none) l38 (Sl.whole (f := i64) (o := false) b3)
          unfold rowres rowheap
          unfold rowheap at g45
          rw [h0] at hDk ⊢
          simp (maxSteps:=1000000) (disch:=omega) only [go_sem, ↓reduceIte, reduceCtorEq, l38]
          first | refine callBE (g45) ?_ | refine callDE (g45) ?_ | refine callXE (g45) ?_
          rintro v Z hz2 hT
          have hYZ : Ext Y Z := (Ext.app _ _).trans hz2
          have d2 := hYZ.blk c2
          have l4 := blkAt_lt d2
          have lYX := hy.len
          rcases hT with ⟨ho, f, rfl, hf, hfo, hff⟩ | ⟨ho, rfl⟩
          · have fullF : (AV.agg f.av).full = true := rfl
            have lenF : f.av.length = 29 := rfl
            have allF : f.av.all AV.cell = true := rfl
            have tkF : List.take 29 f.av = f.av := rfl
            have drpF : List.drop 29 f.av = [] := rfl
            rw [List.length_append] at hff
            simp (maxSteps:=1000000) (disch:=omega) only [go_sem, ↓reduceIte, reduceCtorEq, d2, l4, fullF, lenF, allF, tkF, drpF, z29, zd, blkAt_lo, set_lo]
            refine fin_e (by simp) (by simp (maxSteps:=1000000) (disch:=omega) only [resVal, resAll, resOne, rs21, Env.get, go_sem, ↓reduceIte, reduceCtorEq, blkAt_set_self l4, blkAt_los] <;> rfl) ((((hX.trans hy).trans hYZ).set (b := H.length + 2) (by omega) _).to _) (.inr ⟨by rw [hDk, ho]; simp, f, rfl, hf, (hfo.setF (b := H.length + 2) hff (by omega) _).app _⟩)
          · have fullZ : (AV.agg zEs).full = true := rfl
            have allZ : zEs.all AV.cell = true := rfl
            have tkZ : List.take 29 zEs = zEs := rfl
            simp (maxSteps:=1000000) (disch:=omega) only [go_sem, ↓reduceIte, reduceCtorEq, d2, l4, fullZ, allZ, tkZ, z29, zd, blkAt_lo, set_lo]
            refine fin_e (by simp) (by simp (maxSteps:=1000000) (disch:=omega) only [resVal, resAll, resOne, rs21, Env.get, go_sem, ↓reduceIte, reduceCtorEq, blkAt_set_self l4, blkAt_los] <;> rfl) ((((hX.trans hy).trans hYZ).set (b := H.length + 2) (by omega) _).to _) (.inl ⟨by rw [hDk, ho]; simp, rfl⟩)
        · have hYY : Ext Y (rowheap (sR s) Y) := Ext.app _ _
          have d2 := hYY.blk c2
          have l4 := blkAt_lt d2
          unfold rowres
          simp (maxSteps:=1000000) (disch:=omega) only [go_sem, ↓reduceIte, reduceCtorEq, h0, d2, l4, z29, zd]
          refine fin_e (by simp) (by simp (maxSteps:=1000000) (disch:=omega) only [resVal, resAll, resOne, rs21, Env.get, go_sem, ↓reduceIte, reduceCtorEq, blkAt_set_self l4] <;> rfl) (((hX.trans hy).trans hYY).set (b := H.length + 2) (by omega) _) (.inl ⟨by rw [hDk]; simp [h0], rfl⟩)

def JP (H : Heap) (P : List Int) (k : Nat) (w : AV) (X : Heap) : Prop := Ext H X ∧ (k = 0 ∧ w = .nils ∨ ∃ q, (0 < k ∧ H.length ≤ q) ∧ w = .sl q 0 k 8 none ∧ blkAt X q = some ⟨(P.take (8 * k)).map (AV.int .i64), true⟩)
theorem f22_round {H : Heap} {s : Sn} {k n b3 b4 b6 : Nat} {w : AV} {X : Heap} {Q : Post} {fs : List Fr} (d : JP H s.p k w X) (hs : s.ok) (h3 : blkAt H b3 = some ⟨s.av, true⟩) (hk : k < n) (hn : n ≤ 5) (hh : s.h.getD k false = true)
    (hq : ∀ w' X', JP H s.p (k + 1) w' X' → acs Try.prog (.lp c22l0 :: fs) [(3, .ptr b3 0), (4, .ptr b4 0), (6, .ptr b6 0), (9, .int .i64 (n : Int)), (10, w'), (11, .int .i64 ((k + 1 : Nat) : Int))] X' Q) :
    acs Try.prog (.lp c22l0 :: fs) [(3, .ptr b3 0), (4, .ptr b4 0), (6, .ptr b6 0), (9, .int .i64 (n : Int)), (10, w), (11, .int .i64 (k : Int))] X Q := by
  obtain ⟨he, h2⟩ := d
  have hp' := he.blk h3
  have lp := blkAt_lt hp'
  have len := Sn.len hs
  have all := s.all
  have hlt : (k : Int) < (n : Int) := by omega
  have k5 : (k : Int) < 5 := by omega
  have gh := Sn.has hs (show k < 5 by omega)
  rw [hh] at gh
  have i1 : (k : Int) + 1 = ((k + 1 : Nat) : Int) := by omega
  have hrd := Sn.part hs k
  obtain ⟨y0, y1, y2, y3, y4, y5, y6, y7, hy⟩ : ∃ y0 y1 y2 y3 y4 y5 y6 y7, chunk s.p k = [y0, y1, y2, y3, y4, y5, y6, y7] := by
    have hle := chunk_len hs.p (show k < 5 by omega)
    generalize chunk s.p k = z at hle ⊢
    match z, hle with
    | [a, b, c, d, e, f, g, h], _ => exact ⟨_, _, _, _, _, _, _, _, rfl⟩
  have hsp : s.p.take (8 * (k + 1)) = s.p.take (8 * k) ++ [y0, y1, y2, y3, y4, y5, y6, y7] := by
    rw [← hy]
    unfold chunk
    rw [show 8 * (k + 1) = 8 * k + 8 by omega, List.take_add, show k * 8 = 8 * k by omega]
  rw [hy] at hrd
  simp only [List.map_cons, List.map_nil] at hrd
  have hle : 9 + (k * 8 + 8) ≤ 49 := by omega
  have hsp2 : (s.p.take (8 * (k + 1))).map (AV.int .i64) = (s.p.take (8 * k)).map (AV.int .i64) ++ [AV.int .i64 y0, AV.int .i64 y1, AV.int .i64 y2, AV.int .i64 y3, AV.int .i64 y4, AV.int .i64 y5, AV.int .i64 y6, AV.int .i64 y7] := by rw [hsp, List.map_append]; rfl
  rw [acs_lp]; conv in Fr.code c22l0 => unfold c22l0
  rcases h2 with ⟨rfl, rfl⟩ | ⟨q, h3', rfl, h5⟩
  · have hlt0 : (0 : Int) < (n : Int) := by omega
    simp only [Nat.mul_zero, Nat.zero_mul, Nat.zero_add, Nat.add_zero, Nat.mul_one, List.take_zero, List.map_nil, List.nil_append] at hrd gh hle hsp2
    simp (maxSteps:=1000000) (disch:=omega) only [go_sem, ↓reduceIte, reduceCtorEq, hp', lp, len, all, blkAt_lo, set_lo, hlt0, gh, hrd]
    refine hq _ _ ⟨he.to _, .inr ⟨X.length + 1, ⟨by omega, by have := he.len; omega⟩, rfl, ?_⟩⟩
    rw [blkAt_app, show 8 * (0 + 1) = 8 from rfl, hsp2]
    rfl
  · have lq := blkAt_lt h5
    have hlP : ((s.p.take (8 * k)).map (AV.int .i64)).length = 8 * k := by rw [List.length_map, List.length_take, hs.p]; omega
    have hlP2 : ((s.p.take (8 * k)).map (AV.int .i64)).length = k * 8 := by omega
    have hP0 : List.take (8 * k) ((s.p.take (8 * k)).map (AV.int .i64)) = (s.p.take (8 * k)).map (AV.int .i64) := by rw [List.take_of_length_le (by rw [hlP]; exact Nat.le_refl _)]
    have hP1 : List.take (k * 8) ((s.p.take (8 * k)).map (AV.int .i64)) = (s.p.take (8 * k)).map (AV.int .i64) := by rw [List.take_of_length_le (by rw [hlP2]; exact Nat.le_refl _)]
    have k8 : k * 8 ≤ 8 * k := by omega
    have hbig : (k + 1) * 64 ≤ 140737488355328 := by omega
    generalize (s.p.take (8 * k)).map (AV.int .i64) = P at *
    simp (maxSteps:=1000000) (disch:=omega) only [go_sem, ↓reduceIte, reduceCtorEq, hp', lp, len, all, h5, lq, blkAt_lo, set_lo, hlt, k5, gh, hrd, hle, hlP, hlP2, hP0, hP1, k8, hbig, i1, Nat.le_refl]
    have hq2 := hq (.sl (X.length + 1) 0 (k + 1) 8 none) (X.set q none ++ [some ⟨[AV.int .i64 y0, AV.int .i64 y1, AV.int .i64 y2, AV.int .i64 y3, AV.int .i64 y4, AV.int .i64 y5, AV.int .i64 y6, AV.int .i64 y7], true⟩, some ⟨P ++ [AV.int .i64 y0, AV.int .i64 y1, AV.int .i64 y2, AV.int .i64 y3, AV.int .i64 y4, AV.int .i64 y5, AV.int .i64 y6, AV.int .i64 y7], true⟩]) ⟨(he.set (by omega) _).to _, .inr ⟨X.length + 1, ⟨by omega, by have := he.len; omega⟩, rfl, ?_⟩⟩
    · exact hq2
    · rw [show X.length + 1 = (X.set q none).length + 1 by rw [List.length_set], blkAt_app, hsp2]
      rfl

def JQ (H : Heap) (ws : List Int) (i : Nat) (w : AV) (X : Heap) : Prop := (i = 0 ∧ w = .nils ∧ Ext H X) ∨ ∃ r, 0 < i ∧ w = .sl r 0 i 1 none ∧ WI H X (ws.take i) r
theorem JQ.ext {H : Heap} {ws : List Int} {i : Nat} {w : AV} {X : Heap} (h : JQ H ws i w X) : Ext H X := by
  rcases h with ⟨_, _, h⟩ | ⟨r, _, _, h⟩
  · exact h
  · exact h.ext
theorem f46_take {H X : Heap} {ws : List Int} {q K N i : Nat} {w : AV} {o : Bool} {fs : List Fr} {Q : Post} (d : JQ H ws i w X) (hP : blkAt H q = some ⟨ws.map (AV.int .i64), o⟩) (hl : ws.length = 8 * K) (hK : K ≤ 5) (hN : N ≤ 8 * K) (hi : i < N)
    (hq : ∀ w' X', JQ H ws (i + 1) w' X' → acs Try.prog (.lp c46l0 :: fs) [(0, .sl q 0 K 8 none), (1, .int .i64 (N : Int)), (6, w'), (7, .int .i64 ((i + 1 : Nat) : Int))] X' Q) :
    acs Try.prog (.lp c46l0 :: fs) [(0, .sl q 0 K 8 none), (1, .int .i64 (N : Int)), (6, w), (7, .int .i64 (i : Int))] X Q := by
  have hP' := d.ext.blk hP
  have lp := blkAt_lt hP'
  have i8 : i < 8 * K := by omega
  have hx0 : ws[i]? = some (ws.getD i 0) := by rw [List.getD_eq_getElem?_getD, List.getElem?_eq_getElem (by omega)]; rfl
  have fx : (ws.map (AV.int .i64))[i]? = some (.int .i64 (ws.getD i 0)) := by rw [List.getElem?_map, hx0]; rfl
  have w8 : IntKind.i64.wrap (8 * (K : Int)) = ((8 * K : Nat) : Int) := by rw [i64_in _ (by omega)]; omega
  have hlt : (i : Int) < ((8 * K : Nat) : Int) := by omega
  have hiN : (i : Int) < (N : Int) := by omega
  have q8 : (i : Int).tdiv 8 = ((i / 8 : Nat) : Int) := by rw [Int.tdiv_eq_ediv_of_nonneg (by omega)]; omega
  have r8 : (i : Int).tmod 8 = ((i % 8 : Nat) : Int) := by rw [Int.tmod_eq_emod_of_nonneg (by omega)]; omega
  have b8 : ((i / 8 : Nat) : Int) < (K : Int) := by omega
  have b8' : i / 8 < K := by omega
  have b9 : ((i % 8 : Nat) : Int) < 8 := by omega
  have e8 : i / 8 * 8 + i % 8 = i := by omega
  have i1 : (i : Int) + 1 = ((i + 1 : Nat) : Int) := by omega
  have tk1 : ws.take (i + 1) = ws.take i ++ [ws.getD i 0] := by rw [List.take_add_one, hx0]; rfl
  generalize ws.map (AV.int .i64) = W at *
  rw [acs_lp]; conv in Fr.code c46l0 => unfold c46l0
  rcases d with ⟨rfl, rfl, he⟩ | ⟨r, h0, rfl, hw⟩
  · have w0 : WI H (X ++ [some ⟨[.int .i64 (ws.getD 0 0)], true⟩, some ⟨[.int .i64 (ws.getD 0 0)], true⟩]) (ws.take 1) (X.length + 1) := ⟨by rw [blkAt_app, tk1]; rfl, he.to _, by have := he.len; omega⟩
    generalize ws.getD 0 0 = x at *
    simp only [Nat.zero_div, Nat.zero_mod, Nat.mul_zero, Nat.zero_mul, Nat.zero_add, Int.cast_ofNat_Int] at q8 r8 b8 b9 hlt hiN fx e8
    simp (maxSteps:=1000000) (disch:=omega) only [go_sem, ↓reduceIte, reduceCtorEq, hP', lp, w8, hlt, hiN, q8, r8, b8, b8', b9, fx]
    exact hq _ _ (.inr ⟨_, by omega, rfl, w0⟩)
  · have w1 := hw.app (ws.getD i 0) (some ⟨[.int .i64 (ws.getD i 0)], true⟩)
    have own := hw.own
    have lq := blkAt_lt own
    have lP : ((ws.take i).map (AV.int .i64)).length = i := by rw [List.length_map, List.length_take]; omega
    have tP : List.take i ((ws.take i).map (AV.int .i64)) = (ws.take i).map (AV.int .i64) := List.take_of_length_le (by omega)
    have big : (i + 1) * 8 ≤ 140737488355328 := by omega
    rw [← tk1] at w1
    generalize (ws.take i).map (AV.int .i64) = PP at *
    generalize ws.getD i 0 = x at *
    simp (maxSteps:=1000000) (disch:=omega) only [go_sem, ↓reduceIte, reduceCtorEq, hP', lp, w8, hlt, hiN, q8, r8, b8, b8', b9, e8, fx, own, lq, lP, tP, big, i1, blkAt_lo, set_lo, Nat.le_refl]
    exact hq _ _ (.inr ⟨_, by omega, rfl, w1⟩)
theorem f46_rest {H X : Heap} {ws : List Int} {q K N : Nat} {w : AV} {o : Bool} {fs : List Fr} {Q : Post} (he : Ext H X) (hP : blkAt H q = some ⟨ws.map (AV.int .i64), o⟩) (hl : ws.length = 8 * K) (hK : K ≤ 5) (hN : N ≤ 8 * K)
    (hyes : ((ws.drop N).all fun z => decide (z = 0)) = true → leave Try.prog 0 fs [(6, w)] X Q) (hno : ((ws.drop N).all fun z => decide (z = 0)) = false → Q .ret [(4, .nils), (5, .int .i64 9)] X) :
    ∀ (r i : Nat), i + r = 8 * K → N ≤ i → ((ws.drop i).all fun z => decide (z = 0)) = ((ws.drop N).all fun z => decide (z = 0)) →
    acs Try.prog (.lp c46l0 :: fs) [(0, .sl q 0 K 8 none), (1, .int .i64 (N : Int)), (6, w), (7, .int .i64 (i : Int))] X Q := by
  have hP' := he.blk hP
  have lp := blkAt_lt hP'
  have w8 : IntKind.i64.wrap (8 * (K : Int)) = ((8 * K : Nat) : Int) := by rw [i64_in _ (by omega)]; omega
  intro r
  induction r with
  | zero =>
    intro i hr hNi hall
    have hge : ¬ (i : Int) < ((8 * K : Nat) : Int) := by omega
    rw [List.drop_of_length_le (by omega)] at hall
    rw [acs_lp]; conv in Fr.code c46l0 => unfold c46l0
    simp (maxSteps:=1000000) (disch:=omega) only [go_sem, ↓reduceIte, reduceCtorEq, w8, hge]
    exact hyes (by rw [← hall]; rfl)
  | succ r ih =>
    intro i hr hNi hall
    have hx0 : ws[i]? = some (ws.getD i 0) := by rw [List.getD_eq_getElem?_getD, List.getElem?_eq_getElem (by omega)]; rfl
    have fx : (ws.map (AV.int .i64))[i]? = some (.int .i64 (ws.getD i 0)) := by rw [List.getElem?_map, hx0]; rfl
    have hd := drop_getD (l := ws) (j := i) (by omega)
    rw [hd, List.all_cons] at hall
    have hlt : (i : Int) < ((8 * K : Nat) : Int) := by omega
    have hiN : ¬ (i : Int) < (N : Int) := by omega
    have q8 : (i : Int).tdiv 8 = ((i / 8 : Nat) : Int) := by rw [Int.tdiv_eq_ediv_of_nonneg (by omega)]; omega
    have r8 : (i : Int).tmod 8 = ((i % 8 : Nat) : Int) := by rw [Int.tmod_eq_emod_of_nonneg (by omega)]; omega
    have b8 : ((i / 8 : Nat) : Int) < (K : Int) := by omega
    have b8' : i / 8 < K := by omega
    have b9 : ((i % 8 : Nat) : Int) < 8 := by omega
    have e8 : i / 8 * 8 + i % 8 = i := by omega
    have i1 : (i : Int) + 1 = ((i + 1 : Nat) : Int) := by omega
    by_cases hz : ws.getD i 0 = 0
    · rw [hz] at hall fx
      have next := ih (i + 1) (by omega) (by omega) (by simpa using hall)
      generalize ws.map (AV.int .i64) = W at *
      rw [acs_lp]; conv in Fr.code c46l0 => unfold c46l0
      simp (maxSteps:=1000000) (disch:=omega) only [go_sem, ↓reduceIte, reduceCtorEq, hP', lp, w8, hlt, hiN, q8, r8, b8, b8', b9, e8, fx, i1]
      exact next
    · have hno := hno (by rw [← hall, decide_eq_false hz]; rfl)
      generalize ws.getD i 0 = z at *
      generalize ws.map (AV.int .i64) = W at *
      rw [acs_lp]; conv in Fr.code c46l0 => unfold c46l0
      simp (maxSteps:=1000000) (disch:=omega) only [go_sem, ↓reduceIte, reduceCtorEq, hP', lp, w8, hlt, hiN, q8, r8, b8, b8', b9, e8, fx, i1, hz]
      exact hno
theorem f46_loop {H : Heap} {ws : List Int} {q K N : Nat} {o : Bool} {fs : List Fr} {Q : Post} (hP : blkAt H q = some ⟨ws.map (AV.int .i64), o⟩) (hl : ws.length = 8 * K) (hK : K ≤ 5) (hN : N ≤ 8 * K)
    (hyes : ∀ w X, JQ H ws N w X → ((ws.drop N).all fun z => decide (z = 0)) = true → leave Try.prog 0 fs [(6, w)] X Q) (hno : ∀ X, Ext H X → ((ws.drop N).all fun z => decide (z = 0)) = false → Q .ret [(4, .nils), (5, .int .i64 9)] X) :
    ∀ (r i : Nat) (w : AV) (X : Heap), i + r = N → JQ H ws i w X → acs Try.prog (.lp c46l0 :: fs) [(0, .sl q 0 K 8 none), (1, .int .i64 (N : Int)), (6, w), (7, .int .i64 (i : Int))] X Q := by
  intro r
  induction r with
  | zero =>
    intro i w X hi d
    obtain rfl : i = N := by omega
    exact f46_rest d.ext hP hl hK hN (hyes w X d) (hno X d.ext) (8 * K - i) i (by omega) (Nat.le_refl _) rfl
  | succ r ih =>
    intro i w X hi d
    exact f46_take d hP hl hK hN (by omega) fun w' X' d' => ih (i + 1) w' X' (by omega) d'
theorem f46 {H : Heap} {ws : List Int} {K q N : Nat} {o : Bool} (hP : blkAt H q = some ⟨ws.map (AV.int .i64), o⟩) (hl : ws.length = 8 * K) (hK : K ≤ 5) (hN : (N + 7) / 8 = K) (h0 : 0 < N) :
    ACallE Try.prog 46 [.sl q 0 K 8 none, .int .i64 (N : Int)] H fun v H' => (((ws.drop N).all fun z => decide (z = 0)) = true ∧ ∃ w, v = .tup [w, .int .i64 0] ∧ Rw i64 H' w (ws.take N)) ∨ (((ws.drop N).all fun z => decide (z = 0)) = false ∧ v = .tup [.nils, .int .i64 9]) := by
  refine acallE (fun v Hf h => acallK46 (by simp) h) (acs_start ?_)
  have w8 : IntKind.i64.wrap (8 * (K : Int)) = ((8 * K : Nat) : Int) := by rw [i64_in _ (by omega)]; omega
  have n1 : ¬ (N : Int) < 0 := by omega
  have n2 : ¬ ((8 * K : Nat) : Int) < (N : Int) := by omega
  have w9 : IntKind.i64.wrap (((8 * K : Nat) : Int) - 8) = ((8 * K : Nat) : Int) - 8 := i64_in _ (by omega)
  have n3 : ¬ (N : Int) ≤ ((8 * K : Nat) : Int) - 8 := by omega
  unfold c46
  simp (maxSteps:=1000000) (disch:=omega) only [go_sem, ↓reduceIte, reduceCtorEq, w8, w9, n1, n2, n3]
  refine f46_loop (H := H) hP hl hK (by omega) (fun w X d hz => ?_) (fun X hx hz => ?_) N 0 .nils H (by omega) (.inl ⟨rfl, rfl, Ext.refl _⟩)
  · rcases d with ⟨h, _⟩ | ⟨r, _, rfl, hw⟩
    · omega
    · simp (maxSteps:=1000000) (disch:=omega) only [go_sem, ↓reduceIte, reduceCtorEq]
      have hr := Rw.mk (f := i64) (off := 0) none (Sl.whole (o := true) hw.own)
      rw [List.length_take, show min N ws.length = N by omega] at hr
      refine fin_e (by simp) (by simp (maxSteps:=1000000) (disch:=omega) only [resVal, resAll, resOne, rs46, Env.get, go_sem, ↓reduceIte, reduceCtorEq] <;> rfl) hw.ext (.inl ⟨hz, _, rfl, hr⟩)
  · refine fin_e (by simp) (by simp (maxSteps:=1000000) (disch:=omega) only [resVal, resAll, resOne, rs46, Env.get, go_sem, ↓reduceIte, reduceCtorEq] <;> rfl) hx (.inr ⟨hz, rfl⟩)

theorem f22_stop {H : Heap} {s : Sn} {k n b3 b4 b6 : Nat} {w : AV} {X : Heap} {Q : Post} {fs : List Fr} (d : JP H s.p k w X) (hs : s.ok) (h3 : blkAt H b3 = some ⟨s.av, true⟩) (h4 : blkAt H b4 = some ⟨zEs, true⟩) (hk : k < n) (hn : n ≤ 5) (hh : s.h.getD k false = false)
    (hq : Q .ret [(4, .ptr b4 0), (5, .bool false)] (X.set b4 (some ⟨zEs, true⟩))) :
    acs Try.prog (.lp c22l0 :: fs) [(3, .ptr b3 0), (4, .ptr b4 0), (6, .ptr b6 0), (9, .int .i64 (n : Int)), (10, w), (11, .int .i64 (k : Int))] X Q := by
  obtain ⟨he, _⟩ := d
  have hp' := he.blk h3
  have hz' := he.blk h4
  have len := Sn.len hs
  have hlt : (k : Int) < (n : Int) := by omega
  have k5 : (k : Int) < 5 := by omega
  have gh := Sn.has hs (show k < 5 by omega)
  rw [hh] at gh
  have z29 : zEs.length = 29 := rfl
  have zd : List.drop 29 zEs = [] := rfl
  rw [acs_lp]; conv in Fr.code c22l0 => unfold c22l0
  simp (maxSteps:=1000000) (disch:=omega) only [go_sem, ↓reduceIte, reduceCtorEq, hp', hz', len, hlt, k5, gh, z29, zd]
  exact hq
theorem f22_loop {H : Heap} {s : Sn} {n b3 b4 b6 : Nat} {Q : Post} {fs : List Fr} (hs : s.ok) (h3 : blkAt H b3 = some ⟨s.av, true⟩) (h4 : blkAt H b4 = some ⟨zEs, true⟩) (hn : n ≤ 5)
    (hyes : ∀ w X, JP H s.p n w X → (∀ j, j < n → s.h.getD j false = true) → leave Try.prog 0 fs [(3, .ptr b3 0), (4, .ptr b4 0), (6, .ptr b6 0), (10, w)] X Q) (hno : ∀ X, Ext H X → (∃ j, j < n ∧ s.h.getD j false = false) → Q .ret [(4, .ptr b4 0), (5, .bool false)] (X.set b4 (some ⟨zEs, true⟩))) :
    ∀ (r k : Nat) (w : AV) (X : Heap), k + r = n → JP H s.p k w X → (∀ j, j < k → s.h.getD j false = true) → acs Try.prog (.lp c22l0 :: fs) [(3, .ptr b3 0), (4, .ptr b4 0), (6, .ptr b6 0), (9, .int .i64 (n : Int)), (10, w), (11, .int .i64 (k : Int))] X Q := by
  intro r
  induction r with
  | zero =>
    intro k w X hk d ha
    obtain rfl : k = n := by omega
    have hge : ¬ (k : Int) < (k : Int) := by omega
    rw [acs_lp]; conv in Fr.code c22l0 => unfold c22l0
    simp (maxSteps:=1000000) (disch:=omega) only [go_sem, ↓reduceIte, reduceCtorEq, hge]
    exact hyes w X d ha
  | succ r ih =>
    intro k w X hk d ha
    cases hh : s.h.getD k false with
    | true =>
      refine f22_round d hs h3 (by omega) hn hh fun w' X' d' => ih (k + 1) w' X' (by omega) d' fun j hj => ?_
      rcases Nat.lt_or_ge j k with h | h
      · exact ha j h
      · obtain rfl : j = k := by omega
        exact hh
    | false => exact f22_stop d hs h3 h4 (by omega) hn hh (hno X d.1 ⟨k, by omega, hh⟩)
theorem f22_any {c0 c1 c2 c3 c4 c5 : Int} {s : Sn} {H : Heap} (hm : mayB c0 c1 c2 c3 c4 c5 = true) (hs : s.ok) :
    ACallE Try.prog 22 [.agg [.int .i64 c0, .int .i64 c1, .int .i64 c2, .int .i64 c3, .int .i64 c4, .int .i64 c5], .agg s.av] H fun v H' => DoneT s v H' := by
  refine acallE (fun v Hf h => acallK22 (by simp) h) (acs_start ?_)
  have len := Sn.len hs
  have full := s.full
  have all := s.all
  have tk := Sn.tk hs
  have drp := Sn.drp hs
  have t4 : List.take 4 s.av = [.int .i64 s.a, .int .i64 s.b, .int .i64 s.c, .int .i64 s.d] := rfl
  have z3 : s.av[3]? = some (.int .i64 s.d) := rfl
  have z29 : zEs.length = 29 := rfl
  have zd : List.drop 29 zEs = [] := rfl
  have g19 := fun (G : Heap) => f19 (a := s.a) (b := s.b) (c := s.c) (d := s.d) (H := G)
  unfold c22
  simp (maxSteps:=1000000) (disch:=omega) only [go_sem, ↓reduceIte, reduceCtorEq, full, len, all, tk, drp]
  first | refine callBE (f15 hm) ?_ | refine callDE (f15 hm) ?_ | refine callXE (f15 hm) ?_
  rintro v X hx ⟨b, rfl, hb, hbk⟩
  have hX : Ext H X := (Ext.app _ _).trans hx
  have b1 : blkAt X (H.length + 1) = some ⟨s.av, true⟩ := hx.blk (by simp only [go_sem, ↓reduceIte, reduceCtorEq])
  have b2 : blkAt X (H.length + 2) = some ⟨zEs, true⟩ := hx.blk (by simp only [go_sem, ↓reduceIte, reduceCtorEq]; rfl)
  have l1 := blkAt_lt b1
  have l2 := blkAt_lt b2
  have fullb : (AV.agg b.av).full = true := rfl
  have lenb : b.av.length = 29 := rfl
  have allb : b.av.all AV.cell = true := rfl
  have tkb : List.take 29 b.av = b.av := rfl
  have drpb : List.drop 29 b.av = [] := rfl
  simp (maxSteps:=1000000) (disch:=omega) only [go_sem, ↓reduceIte, reduceCtorEq, b1, l1, len, t4, fullb, lenb, allb, tkb, drpb, blkAt_lo]
  first | refine callB_intro (g19 _) ?_ | refine callD_intro (g19 _) ?_ | refine callP_intro (fun _ => (g19 _)) ?_ | refine callX_pure (g19 _) ?_
  cases hk : mrkB s.a s.b s.c s.d with
  | false =>
    have hD : doneB s = false := by unfold doneB; rw [hk]; simp
    simp (maxSteps:=1000000) (disch:=omega) only [go_sem, ↓reduceIte, reduceCtorEq, b2, l2, z29, zd, blkAt_lo, set_lo]
    refine fin_e (by simp) (by simp (maxSteps:=1000000) (disch:=omega) only [resVal, resAll, resOne, rs22, Env.get, go_sem, ↓reduceIte, reduceCtorEq, blkAt_set_self l2, blkAt_los] <;> rfl) ((hX.set (b := H.length + 2) (by omega) _).to _) (.inl ⟨hD, rfl⟩)
  | true =>
    have d39 := mrkB_d39 hk
    obtain ⟨n, hsn⟩ : ∃ n, sN s = n := ⟨_, rfl⟩
    obtain ⟨N, hN⟩ : ∃ N : Nat, s.d = (N : Int) := ⟨s.d.toNat, by omega⟩
    have hNt : s.d.toNat = N := by omega
    have hnn : (s.d + 7).tdiv 8 = (n : Int) := by rw [Int.tdiv_eq_ediv_of_nonneg (by omega)]; unfold sN at hsn; omega
    have n5 : n ≤ 5 := by unfold sN at hsn; omega
    have hNn : (N + 7) / 8 = n := by unfold sN at hsn; omega
    have N0 : 0 < N := by omega
    have hWs : sW s = s.p.take (8 * n) := by unfold sW; rw [hsn]
    have lws : (sW s).length = 8 * n := by rw [hWs, List.length_take, hs.p]; omega
    have hRs : aspec w0 ((sW s).take N) = sR s := by unfold sR; rw [hNt]
    have x1 : blkAt (X ++ [some ⟨b.av, true⟩]) (H.length + 1) = some ⟨s.av, true⟩ := by rw [blkAt_lo _ l1]; exact b1
    have x2 : blkAt (X ++ [some ⟨b.av, true⟩]) (H.length + 2) = some ⟨zEs, true⟩ := by rw [blkAt_lo _ l2]; exact b2
    have x6 : blkAt (X ++ [some ⟨b.av, true⟩]) X.length = some ⟨b.av, true⟩ := by rw [blkAt_app0]; rfl
    have hXb : Ext H (X ++ [some ⟨b.av, true⟩]) := hX.to _
    have okb : b.ok (X ++ [some ⟨b.av, true⟩]) := hbk.app _
    simp (maxSteps:=1000000) (disch:=omega) only [go_sem, ↓reduceIte, reduceCtorEq, b1, l1, len, z3, hnn, blkAt_lo]
    change acs Try.prog _ _ (X ++ [some ⟨b.av, true⟩]) _
    generalize hb6 : X.length = b6 at *
    generalize X ++ [some ⟨b.av, true⟩] = Y at *
    refine f22_loop (H := Y) hs x1 x2 n5 (fun w Z d ha => ?_) (fun Z hz hno => ?_) n 0 .nils Y (by omega) ⟨Ext.refl _, .inl ⟨rfl, rfl⟩⟩ (fun j hj => by omega)
    · have hh : ((List.range (sN s)).all fun j => s.h.getD j false) = true := by
        rw [List.all_eq_true]
        intro j hj
        rw [List.mem_range] at hj
        exact ha j (by omega)
      have hDk : doneB s = ((((sW s).drop N).all fun z => decide (z = 0)) && decide ((sR s).2 = 0) && okW (sR s).1) := by
        unfold doneB
        rw [hk, hh, hNt]
        simp
      obtain ⟨hYZ, hw⟩ := d
      rcases hw with ⟨h, _⟩ | ⟨q, _, rfl, hq⟩
      · omega
      rw [← hWs] at hq
      have z1 := hYZ.blk x1
      have z2 := hYZ.blk x2
      have z6 := hYZ.blk x6
      have z3 : s.av[3]? = some (.int .i64 (N : Int)) := by rw [← hN]; rfl
      have hHZ := hXb.trans hYZ
      simp (maxSteps:=1000000) (disch:=omega) only [go_sem, ↓reduceIte, reduceCtorEq, z1, len, z3]
      first | refine callBE (f46 hq lws n5 hNn N0) ?_ | refine callDE (f46 hq lws n5 hNn N0) ?_ | refine callXE (f46 hq lws n5 hNn N0) ?_
      rintro v U hu hJ
      have u2 := hu.blk z2
      have u6 := hu.blk z6
      have mu2 := blkAt_lt u2
      have hHU := hHZ.trans hu
      rcases hJ with ⟨hz, w2, rfl, p2, off, cp, rfl, hr⟩ | ⟨hz, rfl⟩
      rotate_left
      · rw [hz] at hDk
        simp (maxSteps:=1000000) (disch:=omega) only [go_sem, ↓reduceIte, reduceCtorEq, u2, mu2, z29, zd]
        refine fin_e (by simp) (by simp (maxSteps:=1000000) (disch:=omega) only [resVal, resAll, resOne, rs22, Env.get, go_sem, ↓reduceIte, reduceCtorEq, blkAt_set_self mu2] <;> rfl) (hHU.set (b := H.length + 2) (by omega) _) (.inl ⟨by rw [hDk]; simp, rfl⟩)
      rw [hz] at hDk
      simp (maxSteps:=1000000) (disch:=omega) only [go_sem, ↓reduceIte, reduceCtorEq, u6, lenb, tkb]
      first | refine callBE (f40 ((okb.ext hYZ).ext hu) hb.a.three hb.b.three hb.c.three) ?_ | refine callDE (f40 ((okb.ext hYZ).ext hu) hb.a.three hb.b.three hb.c.three) ?_ | refine callXE (f40 ((okb.ext hYZ).ext hu) hb.a.three hb.b.three hb.c.three) ?_
      rintro v V hv ⟨q40, rfl, h40, _⟩
      rw [hb.wds] at h40
      have v2 := hv.blk u2
      have m2 := blkAt_lt v2
      have hHV := hHU.trans hv
      have lt1 : ((sW s).take N).length ≤ 100000 := by rw [List.length_take]; omega
      have g47 := f47_any (c1 := none) (c2 := cp) (Sl.whole (o := true) h40) (hv.sl hr) lt1 (by rw [w0_len]; omega)
      rw [arow_eq, hRs, w0_len] at g47
      simp (maxSteps:=1000000) (disch:=omega) only [go_sem, ↓reduceIte, reduceCtorEq]
      first | refine callB_intro (g47) ?_ | refine callD_intro (g47) ?_ | refine callP_intro (fun _ => (g47)) ?_ | refine callX_pure (g47) ?_
      by_cases h0 : (sR s).2 = 0
      · have l38 : (sR s).1.length = 38 := by rw [← hRs] at h0 ⊢; rw [aspec_len h0, w0_len]
        have b3 : blkAt (rowheap (sR s) V) V.length = some ⟨(sR s).1.map (AV.int .i64), false⟩ := by unfold rowheap; rw [blkAt_app0]; rfl
        have g48 := f48_any (cp := none) l38 (Sl.whole (f := i64) (o := false) b3)
        unfold rowres rowheap
        unfold rowheap at g48
        rw [h0] at hDk ⊢
        simp (maxSteps:=1000000) (disch:=omega) only [go_sem, ↓reduceIte, reduceCtorEq, l38]
        first | refine callBE (g48) ?_ | refine callDE (g48) ?_ | refine callXE (g48) ?_
        rintro v Z2 hz2 hT
        have hVZ : Ext V Z2 := (Ext.app _ _).trans hz2
        have d2 := hVZ.blk v2
        have l4 := blkAt_lt d2
        have lVH := hHV.len
        rcases hT with ⟨ho, f, rfl, hf, hfo, hff⟩ | ⟨ho, rfl⟩
        · have fullF : (AV.agg f.av).full = true := rfl
          have lenF : f.av.length = 29 := rfl
          have allF : f.av.all AV.cell = true := rfl
          have tkF : List.take 29 f.av = f.av := rfl
          have drpF : List.drop 29 f.av = [] := rfl
          rw [List.length_append] at hff
          simp (maxSteps:=1000000) (disch:=omega) only [go_sem, ↓reduceIte, reduceCtorEq, d2, l4, fullF, lenF, allF, tkF, drpF, z29, zd, blkAt_lo, set_lo]
          refine fin_e (by simp) (by simp (maxSteps:=1000000) (disch:=omega) only [resVal, resAll, resOne, rs22, Env.get, go_sem, ↓reduceIte, reduceCtorEq, blkAt_set_self l4, blkAt_los] <;> rfl) (((hHV.trans hVZ).set (b := H.length + 2) (by omega) _).to _) (.inr ⟨by rw [hDk, ho]; simp, f, rfl, hf, (hfo.setF (b := H.length + 2) hff (by omega) _).app _⟩)
        · have fullZ : (AV.agg zEs).full = true := rfl
          have allZ : zEs.all AV.cell = true := rfl
          have tkZ : List.take 29 zEs = zEs := rfl
          simp (maxSteps:=1000000) (disch:=omega) only [go_sem, ↓reduceIte, reduceCtorEq, d2, l4, fullZ, allZ, tkZ, z29, zd, blkAt_lo, set_lo]
          refine fin_e (by simp) (by simp (maxSteps:=1000000) (disch:=omega) only [resVal, resAll, resOne, rs22, Env.get, go_sem, ↓reduceIte, reduceCtorEq, blkAt_set_self l4, blkAt_los] <;> rfl) (((hHV.trans hVZ).set (b := H.length + 2) (by omega) _).to _) (.inl ⟨by rw [hDk, ho]; simp, rfl⟩)
      · have hYY : Ext V (rowheap (sR s) V) := Ext.app _ _
        have d2 := hYY.blk v2
        have l4 := blkAt_lt d2
        unfold rowres
        simp (maxSteps:=1000000) (disch:=omega) only [go_sem, ↓reduceIte, reduceCtorEq, h0, d2, l4, z29, zd]
        refine fin_e (by simp) (by simp (maxSteps:=1000000) (disch:=omega) only [resVal, resAll, resOne, rs22, Env.get, go_sem, ↓reduceIte, reduceCtorEq, blkAt_set_self l4] <;> rfl) ((hHV.trans hYY).set (b := H.length + 2) (by omega) _) (.inl ⟨by rw [hDk]; simp [h0], rfl⟩)
    · have hD : doneB s = false := by
        obtain ⟨j, j1, j2⟩ := hno
        unfold doneB
        have : ((List.range (sN s)).all fun j => s.h.getD j false) = false := by
          rw [List.all_eq_false]
          exact ⟨j, List.mem_range.2 (by omega), by rw [j2]; simp⟩
        rw [this]
        simp
      have m2 := blkAt_lt (hz.blk x2)
      refine fin_e (by simp) (by simp (maxSteps:=1000000) (disch:=omega) only [resVal, resAll, resOne, rs22, Env.get, go_sem, ↓reduceIte, reduceCtorEq, blkAt_set_self m2] <;> rfl) ((hXb.trans hz).set (b := H.length + 2) (by omega) _) (.inl ⟨hD, rfl⟩)

theorem f54_bad {c0 c1 c2 c3 c4 c5 : Int} {H : Heap} (hm : mayB c0 c1 c2 c3 c4 c5 = false) :
    ACallE Try.prog 54 [.agg [.int .i64 c0, .int .i64 c1, .int .i64 c2, .int .i64 c3, .int .i64 c4, .int .i64 c5]] H fun v H' => v = .tup [.agg zEs, .int .i64 1] := by
  refine acallE (fun v Hf h => acallK54 (by simp) h) (acs_start ?_)
  have g69 := fun G => f69 (a := c0) (b := c1) (c := c2) (d := c3) (e := c4) (f := c5) (H := H ++ G)
  rw [hm] at g69
  unfold c54
  simp (maxSteps:=1000000) (disch:=omega) only [go_sem, ↓reduceIte, reduceCtorEq]
  first | refine callB_intro (g69 _) ?_ | refine callD_intro (g69 _) ?_ | refine callP_intro (fun _ => (g69 _)) ?_ | refine callX_pure (g69 _) ?_
  simp (maxSteps:=1000000) (disch:=omega) only [go_sem, ↓reduceIte, reduceCtorEq]
  refine fin_e (by simp) (by simp (maxSteps:=1000000) (disch:=omega) only [resVal, resAll, resOne, rs54, Env.get, go_sem, ↓reduceIte, reduceCtorEq] <;> rfl) (Ext.app _ _) rfl
theorem f15_bad {c0 c1 c2 c3 c4 c5 : Int} {H : Heap} (hm : mayB c0 c1 c2 c3 c4 c5 = false) :
    ACallE Try.prog 15 [.agg [.int .i64 c0, .int .i64 c1, .int .i64 c2, .int .i64 c3, .int .i64 c4, .int .i64 c5]] H fun v H' => v = .tup [.agg zEs, .int .i64 1] := by
  refine acallE (fun v Hf h => acallK15 (by simp) h) (acs_start ?_)
  have g14 := fun G => f14 (a := c0) (b := c1) (c := c2) (d := c3) (e := c4) (f := c5) (H := H ++ G)
  rw [hm] at g14
  unfold c15
  simp (maxSteps:=1000000) (disch:=omega) only [go_sem, ↓reduceIte, reduceCtorEq]
  first | refine callB_intro (g14 _) ?_ | refine callD_intro (g14 _) ?_ | refine callP_intro (fun _ => (g14 _)) ?_ | refine callX_pure (g14 _) ?_
  simp (maxSteps:=1000000) (disch:=omega) only [go_sem, ↓reduceIte, reduceCtorEq]
  refine fin_e (by simp) (by simp (maxSteps:=1000000) (disch:=omega) only [resVal, resAll, resOne, rs15, Env.get, go_sem, ↓reduceIte, reduceCtorEq] <;> rfl) (Ext.app _ _) rfl
theorem f31_bad {c0 c1 c2 c3 c4 c5 : Int} {H : Heap} (hm : mayB c0 c1 c2 c3 c4 c5 = false) :
    ACallE Try.prog 31 [.agg [.int .i64 c0, .int .i64 c1, .int .i64 c2, .int .i64 c3, .int .i64 c4, .int .i64 c5]] H fun v H' => v = .tup [.nils, .int .i64 1] := by
  refine acallE (fun v Hf h => acallK31 (by simp) h) (acs_start ?_)
  have fullZ : (AV.agg zEs).full = true := rfl
  have allZ : zEs.all AV.cell = true := rfl
  have tkZ : List.take 29 zEs = zEs := rfl
  have z29 : zEs.length = 29 := rfl
  unfold c31
  simp (maxSteps:=1000000) (disch:=omega) only [go_sem, ↓reduceIte, reduceCtorEq]
  first | refine callBE (f54_bad hm) ?_ | refine callDE (f54_bad hm) ?_ | refine callXE (f54_bad hm) ?_
  rintro v X hx rfl
  simp (maxSteps:=1000000) (disch:=omega) only [go_sem, ↓reduceIte, reduceCtorEq, fullZ, allZ, tkZ, z29]
  refine fin_e (by simp) (by simp (maxSteps:=1000000) (disch:=omega) only [resVal, resAll, resOne, rs31, Env.get, go_sem, ↓reduceIte, reduceCtorEq] <;> rfl) (((Ext.app _ _).trans hx).to _) rfl
theorem f16_conf {c0 c1 c2 c3 c4 c5 : Int} {e : Es} {H : Heap} (hm : mayB c0 c1 c2 c3 c4 c5 = false) :
    ACallE Try.prog 16 [.agg [.int .i64 c0, .int .i64 c1, .int .i64 c2, .int .i64 c3, .int .i64 c4, .int .i64 c5], .agg e.av] H fun v H' => v = .tup [.nils, .int .i64 0, .int .i64 1] := by
  refine acallE (fun v Hf h => acallK16 (by simp) h) (acs_start ?_)
  have full : (AV.agg e.av).full = true := rfl
  have len : e.av.length = 29 := rfl
  have all : e.av.all AV.cell = true := rfl
  have tk : List.take 29 e.av = e.av := rfl
  unfold c16
  simp (maxSteps:=1000000) (disch:=omega) only [go_sem, ↓reduceIte, reduceCtorEq, full, len, all, tk]
  first | refine callBE (f31_bad hm) ?_ | refine callDE (f31_bad hm) ?_ | refine callXE (f31_bad hm) ?_
  rintro v X hx rfl
  simp (maxSteps:=1000000) (disch:=omega) only [go_sem, ↓reduceIte, reduceCtorEq]
  refine fin_e (by simp) (by simp (maxSteps:=1000000) (disch:=omega) only [resVal, resAll, resOne, rs16, Env.get, go_sem, ↓reduceIte, reduceCtorEq] <;> rfl) ((Ext.app _ _).trans hx) rfl
theorem f16_est {c0 c1 c2 c3 c4 c5 : Int} {e : Es} {H : Heap} (hm : mayB c0 c1 c2 c3 c4 c5 = true) (he : estB e = false) (hok : e.ok H) :
    ACallE Try.prog 16 [.agg [.int .i64 c0, .int .i64 c1, .int .i64 c2, .int .i64 c3, .int .i64 c4, .int .i64 c5], .agg e.av] H fun v H' => v = .tup [.nils, .int .i64 0, .int .i64 1] := by
  refine acallE (fun v Hf h => acallK16 (by simp) h) (acs_start ?_)
  have full : (AV.agg e.av).full = true := rfl
  have len : e.av.length = 29 := rfl
  have all : e.av.all AV.cell = true := rfl
  have tk : List.take 29 e.av = e.av := rfl
  unfold c16
  simp (maxSteps:=1000000) (disch:=omega) only [go_sem, ↓reduceIte, reduceCtorEq, full, len, all, tk]
  first | refine callBE (f31 hm) ?_ | refine callDE (f31 hm) ?_ | refine callXE (f31 hm) ?_
  rintro v X hx ⟨q, rfl, hq, hl⟩
  have hX : Ext H X := (Ext.app _ _).trans hx
  have h3 : blkAt X (H.length + 1) = some ⟨e.av, true⟩ := hx.blk (by simp only [go_sem, ↓reduceIte, reduceCtorEq])
  simp (maxSteps:=1000000) (disch:=omega) only [go_sem, ↓reduceIte, reduceCtorEq, h3, len, tk]
  first | refine callB_intro (f32 (hok.ext hX)) ?_ | refine callD_intro (f32 (hok.ext hX)) ?_ | refine callP_intro (fun _ => (f32 (hok.ext hX))) ?_ | refine callX_pure (f32 (hok.ext hX)) ?_
  rw [he]
  simp (maxSteps:=1000000) (disch:=omega) only [go_sem, ↓reduceIte, reduceCtorEq]
  refine fin_e (by simp) (by simp (maxSteps:=1000000) (disch:=omega) only [resVal, resAll, resOne, rs16, Env.get, go_sem, ↓reduceIte, reduceCtorEq] <;> rfl) hX rfl
theorem f20_conf {c0 c1 c2 c3 c4 c5 : Int} {e : Es} {H : Heap} (hm : mayB c0 c1 c2 c3 c4 c5 = false) (hok : e.ok H) :
    ACallE Try.prog 20 [.agg [.int .i64 c0, .int .i64 c1, .int .i64 c2, .int .i64 c3, .int .i64 c4, .int .i64 c5], .agg e.av] H fun v H' => v = .tup [.nils, .int .i64 0, .int .i64 1] := by
  refine acallE (fun v Hf h => acallK20 (by simp) h) (acs_start ?_)
  have full : (AV.agg e.av).full = true := rfl
  have len : e.av.length = 29 := rfl
  have all : e.av.all AV.cell = true := rfl
  have tk : List.take 29 e.av = e.av := rfl
  have fullZ : (AV.agg zEs).full = true := rfl
  have allZ : zEs.all AV.cell = true := rfl
  have tkZ : List.take 29 zEs = zEs := rfl
  have z29 : zEs.length = 29 := rfl
  unfold c20
  simp (maxSteps:=1000000) (disch:=omega) only [go_sem, ↓reduceIte, reduceCtorEq, full, len, all, tk]
  first | refine callBE (f15_bad hm) ?_ | refine callDE (f15_bad hm) ?_ | refine callXE (f15_bad hm) ?_
  rintro v X hx rfl
  have hX : Ext H X := (Ext.app _ _).trans hx
  have h3 : blkAt X (H.length + 1) = some ⟨e.av, true⟩ := hx.blk (by simp only [go_sem, ↓reduceIte, reduceCtorEq])
  have l3 := blkAt_lt h3
  have g11 := fun G => f11 ((hok.ext hX).app G)
  simp (maxSteps:=1000000) (disch:=omega) only [go_sem, ↓reduceIte, reduceCtorEq, fullZ, allZ, tkZ, z29, h3, l3, len, tk, blkAt_lo]
  first | refine callB_intro (g11 _) ?_ | refine callD_intro (g11 _) ?_ | refine callP_intro (fun _ => (g11 _)) ?_ | refine callX_pure (g11 _) ?_
  simp (maxSteps:=1000000) (disch:=omega) only [go_sem, ↓reduceIte, reduceCtorEq]
  refine fin_e (by simp) (by simp (maxSteps:=1000000) (disch:=omega) only [resVal, resAll, resOne, rs20, Env.get, go_sem, ↓reduceIte, reduceCtorEq] <;> rfl) (hX.to _) rfl
theorem f20_est {c0 c1 c2 c3 c4 c5 : Int} {e : Es} {H : Heap} (hm : mayB c0 c1 c2 c3 c4 c5 = true) (he : estB e = false) (hok : e.ok H) :
    ACallE Try.prog 20 [.agg [.int .i64 c0, .int .i64 c1, .int .i64 c2, .int .i64 c3, .int .i64 c4, .int .i64 c5], .agg e.av] H fun v H' => v = .tup [.nils, .int .i64 0, .int .i64 1] := by
  refine acallE (fun v Hf h => acallK20 (by simp) h) (acs_start ?_)
  have full : (AV.agg e.av).full = true := rfl
  have len : e.av.length = 29 := rfl
  have all : e.av.all AV.cell = true := rfl
  have tk : List.take 29 e.av = e.av := rfl
  unfold c20
  simp (maxSteps:=1000000) (disch:=omega) only [go_sem, ↓reduceIte, reduceCtorEq, full, len, all, tk]
  first | refine callBE (f15 hm) ?_ | refine callDE (f15 hm) ?_ | refine callXE (f15 hm) ?_
  rintro v X hx ⟨b, rfl, hb, hbk⟩
  have fullb : (AV.agg b.av).full = true := rfl
  have lenb : b.av.length = 29 := rfl
  have allb : b.av.all AV.cell = true := rfl
  have tkb : List.take 29 b.av = b.av := rfl
  have drpb : List.drop 29 b.av = [] := rfl
  have hX : Ext H X := (Ext.app _ _).trans hx
  have h3 : blkAt X (H.length + 1) = some ⟨e.av, true⟩ := hx.blk (by simp only [go_sem, ↓reduceIte, reduceCtorEq])
  have l3 := blkAt_lt h3
  have g11 := fun G => f11 ((hok.ext hX).app G)
  rw [he] at g11
  simp (maxSteps:=1000000) (disch:=omega) only [go_sem, ↓reduceIte, reduceCtorEq, fullb, lenb, allb, tkb, drpb, h3, l3, len, tk, blkAt_lo]
  first | refine callB_intro (g11 _) ?_ | refine callD_intro (g11 _) ?_ | refine callP_intro (fun _ => (g11 _)) ?_ | refine callX_pure (g11 _) ?_
  simp (maxSteps:=1000000) (disch:=omega) only [go_sem, ↓reduceIte, reduceCtorEq]
  refine fin_e (by simp) (by simp (maxSteps:=1000000) (disch:=omega) only [resVal, resAll, resOne, rs20, Env.get, go_sem, ↓reduceIte, reduceCtorEq] <;> rfl) (hX.to _) rfl
theorem f21_conf {c0 c1 c2 c3 c4 c5 : Int} {s : Sn} {H : Heap} (hm : mayB c0 c1 c2 c3 c4 c5 = false) (hs : s.ok) :
    ACallE Try.prog 21 [.agg [.int .i64 c0, .int .i64 c1, .int .i64 c2, .int .i64 c3, .int .i64 c4, .int .i64 c5], .agg s.av] H fun v H' => v = .tup [.agg zEs, .bool false] := by
  refine acallE (fun v Hf h => acallK21 (by simp) h) (acs_start ?_)
  have len := Sn.len hs
  have full := s.full
  have all := s.all
  have tk := Sn.tk hs
  have drp := Sn.drp hs
  have z29 : zEs.length = 29 := rfl
  have zd : List.drop 29 zEs = [] := rfl
  unfold c21
  simp (maxSteps:=1000000) (disch:=omega) only [go_sem, ↓reduceIte, reduceCtorEq, full, len, all, tk, drp]
  first | refine callBE (f31_bad hm) ?_ | refine callDE (f31_bad hm) ?_ | refine callXE (f31_bad hm) ?_
  rintro v X hx rfl
  have hX : Ext H X := (Ext.app _ _).trans hx
  have b2 : blkAt X (H.length + 2) = some ⟨zEs, true⟩ := hx.blk (by simp only [go_sem, ↓reduceIte, reduceCtorEq]; rfl)
  have l2 := blkAt_lt b2
  simp (maxSteps:=1000000) (disch:=omega) only [go_sem, ↓reduceIte, reduceCtorEq, b2, l2, z29, zd]
  refine fin_e (by simp) (by simp (maxSteps:=1000000) (disch:=omega) only [resVal, resAll, resOne, rs21, Env.get, go_sem, ↓reduceIte, reduceCtorEq, blkAt_set_self l2] <;> rfl) (hX.set (by omega) _) rfl
theorem f22_conf {c0 c1 c2 c3 c4 c5 : Int} {s : Sn} {H : Heap} (hm : mayB c0 c1 c2 c3 c4 c5 = false) (hs : s.ok) :
    ACallE Try.prog 22 [.agg [.int .i64 c0, .int .i64 c1, .int .i64 c2, .int .i64 c3, .int .i64 c4, .int .i64 c5], .agg s.av] H fun v H' => v = .tup [.agg zEs, .bool false] := by
  refine acallE (fun v Hf h => acallK22 (by simp) h) (acs_start ?_)
  have len := Sn.len hs
  have full := s.full
  have all := s.all
  have tk := Sn.tk hs
  have drp := Sn.drp hs
  have t4 : List.take 4 s.av = [.int .i64 s.a, .int .i64 s.b, .int .i64 s.c, .int .i64 s.d] := rfl
  have fullZ : (AV.agg zEs).full = true := rfl
  have allZ : zEs.all AV.cell = true := rfl
  have tkZ : List.take 29 zEs = zEs := rfl
  have z29 : zEs.length = 29 := rfl
  have zd : List.drop 29 zEs = [] := rfl
  have g19 := fun (G : Heap) => f19 (a := s.a) (b := s.b) (c := s.c) (d := s.d) (H := G)
  unfold c22
  simp (maxSteps:=1000000) (disch:=omega) only [go_sem, ↓reduceIte, reduceCtorEq, full, len, all, tk, drp]
  first | refine callBE (f15_bad hm) ?_ | refine callDE (f15_bad hm) ?_ | refine callXE (f15_bad hm) ?_
  rintro v X hx rfl
  have hX : Ext H X := (Ext.app _ _).trans hx
  have b1 : blkAt X (H.length + 1) = some ⟨s.av, true⟩ := hx.blk (by simp only [go_sem, ↓reduceIte, reduceCtorEq])
  have b2 : blkAt X (H.length + 2) = some ⟨zEs, true⟩ := hx.blk (by simp only [go_sem, ↓reduceIte, reduceCtorEq]; rfl)
  have l1 := blkAt_lt b1
  have l2 := blkAt_lt b2
  simp (maxSteps:=1000000) (disch:=omega) only [go_sem, ↓reduceIte, reduceCtorEq, b1, l1, len, t4, fullZ, allZ, tkZ, z29, blkAt_lo]
  first | refine callB_intro (g19 _) ?_ | refine callD_intro (g19 _) ?_ | refine callP_intro (fun _ => (g19 _)) ?_ | refine callX_pure (g19 _) ?_
  simp (maxSteps:=1000000) (disch:=omega) only [go_sem, ↓reduceIte, reduceCtorEq, b2, l2, z29, zd, blkAt_lo, set_lo]
  refine fin_e (by simp) (by simp (maxSteps:=1000000) (disch:=omega) only [resVal, resAll, resOne, rs22, Env.get, go_sem, ↓reduceIte, reduceCtorEq, blkAt_set_self l2, blkAt_los] <;> rfl) ((hX.set (b := H.length + 2) (by omega) _).to _) rfl

def pt (D : List Int) (i k : Nat) : List Int := (List.range (8 * k)).map fun j => if j < i then D.getD j 0 else 0
theorem pt_len (D : List Int) (i k : Nat) : (pt D i k).length = 8 * k := by simp [pt]
theorem pt_get (D : List Int) (i : Nat) {k j : Nat} (h : j < 8 * k) : (pt D i k)[j]? = some (if j < i then D.getD j 0 else 0) := by
  unfold pt
  rw [List.getElem?_map, List.getElem?_range h]
  rfl
theorem pt_more (D : List Int) {i k : Nat} (h : i ≤ 8 * k) : pt D i k ++ [0, 0, 0, 0, 0, 0, 0, 0] = pt D i (k + 1) := by
  apply List.ext_getElem?
  intro j
  by_cases h1 : j < 8 * k
  · rw [List.getElem?_append_left (by rw [pt_len]; exact h1), pt_get D i h1, pt_get D i (by omega)]
  · rw [List.getElem?_append_right (by rw [pt_len]; omega), pt_len]
    by_cases h2 : j < 8 * (k + 1)
    · rw [pt_get D i h2, if_neg (by omega)]
      obtain ⟨m, hm⟩ : ∃ m, j - 8 * k = m := ⟨_, rfl⟩
      rw [hm]
      have : m < 8 := by omega
      match m, this with
      | 0, _ => rfl
      | 1, _ => rfl
      | 2, _ => rfl
      | 3, _ => rfl
      | 4, _ => rfl
      | 5, _ => rfl
      | 6, _ => rfl
      | 7, _ => rfl
    · rw [List.getElem?_eq_none (by simp; omega), List.getElem?_eq_none (by rw [pt_len]; omega)]
theorem pt_set (D : List Int) {i k : Nat} (h : i < 8 * k) : List.take i ((pt D i k).map (AV.int .i64)) ++ AV.int .i64 (D.getD i 0) :: List.drop (i + 1) ((pt D i k).map (AV.int .i64)) = (pt D (i + 1) k).map (AV.int .i64) := by
  have e : pt D (i + 1) k = (pt D i k).set i (D.getD i 0) := by
    apply List.ext_getElem?
    intro j
    by_cases h1 : j < 8 * k
    · rw [pt_get D _ h1]
      by_cases e : i = j
      · subst e
        rw [List.getElem?_set_self (by rw [pt_len]; exact h), if_pos (by omega)]
      · rw [List.getElem?_set_ne e, pt_get D i h1]
        congr 1
        by_cases h2 : j < i
        · rw [if_pos h2, if_pos (by omega)]
        · rw [if_neg h2, if_neg (by omega)]
    · rw [List.getElem?_eq_none (by rw [pt_len]; omega), List.getElem?_eq_none (by rw [List.length_set, pt_len]; omega)]
  rw [e, List.map_set, List.set_eq_take_append_cons_drop, if_pos (by rw [List.length_map, pt_len]; exact h)]
theorem pt_pc {D : List Int} {k : Nat} (h : D.length ≤ 8 * k) : pt D D.length k = pc D k := by
  apply List.ext_getElem?
  intro j
  by_cases h1 : j < 8 * k
  · rw [pt_get D _ h1, pc_get D h1]
    congr 1
    by_cases h2 : j < D.length
    · rw [if_pos h2]
    · rw [if_neg h2]; simp [List.getD, List.getElem?_eq_none (show D.length ≤ j by omega)]
  · rw [List.getElem?_eq_none (by rw [pt_len]; omega), List.getElem?_eq_none (by rw [pc_len]; omega)]
def JR (H : Heap) (D : List Int) (i : Nat) (w : AV) (X : Heap) : Prop := Ext H X ∧ (i = 0 ∧ w = .nils ∨ ∃ q, 0 < i ∧ H.length ≤ q ∧ w = .sl q 0 ((i + 7) / 8) 8 none ∧ blkAt X q = some ⟨(pt D i ((i + 7) / 8)).map (AV.int .i64), true⟩)
theorem f41_round {H X : Heap} {D : List Int} {p off i n : Nat} {cp : Option Nat} {w : AV} {fs : List Fr} {Q : Post} (d : JR H D i w X) (hs : Sl i64 H p off D) (hl : D.length ≤ 39) (hn : n = D.length) (hi : i < D.length)
    (hq : ∀ w' X', JR H D (i + 1) w' X' → acs Try.prog (.lp c41l0 :: fs) [(0, .sl p off n 1 cp), (3, w'), (4, .int .i64 ((i + 1 : Nat) : Int))] X' Q) :
    acs Try.prog (.lp c41l0 :: fs) [(0, .sl p off n 1 cp), (3, w), (4, .int .i64 (i : Int))] X Q := by
  obtain ⟨he, h2⟩ := d
  obtain ⟨cs, oo, hp, hle, hcs⟩ := he.sl hs
  have lp := blkAt_lt hp
  have hx0 : D[i]? = some (D.getD i 0) := by rw [List.getD_eq_getElem?_getD, List.getElem?_eq_getElem hi]; rfl
  have fx : cs[off + i]? = some (.int .i64 (D.getD i 0)) := sl_get hcs hx0
  have hin : i < n := by omega
  have hlt : (i : Int) < (n : Int) := by omega
  have q8 : (i : Int).tdiv 8 = ((i / 8 : Nat) : Int) := by rw [Int.tdiv_eq_ediv_of_nonneg (by omega)]; omega
  have r8 : (i : Int).tmod 8 = ((i % 8 : Nat) : Int) := by rw [Int.tmod_eq_emod_of_nonneg (by omega)]; omega
  have b9 : ((i % 8 : Nat) : Int) < 8 := by omega
  have e8 : i / 8 * 8 + i % 8 = i := by omega
  have i1 : (i : Int) + 1 = ((i + 1 : Nat) : Int) := by omega
  have ps := fun k (h : i < 8 * k) => pt_set D h
  have hpl := hs.lt
  have N1 : ∀ q (a b : Option Blk), blkAt (X.set q none ++ [a, b]) (X.length + 1) = b := fun q a b => by rw [show X.length + 1 = (X.set q none).length + 1 by rw [List.length_set], blkAt_app]; rfl
  have N2 : ∀ q (a b y : Option Blk), (X.set q none ++ [a, b]).set (X.length + 1) y = X.set q none ++ [a, y] := fun q a b y => by rw [show X.length + 1 = (X.set q none).length + 1 by rw [List.length_set], List.set_append_right _ _ (by omega), Nat.add_sub_cancel_left]; rfl
  rcases h2 with ⟨rfl, rfl⟩ | ⟨q, h0, hH, rfl, hb⟩
  · have ps := ps 1 (by omega)
    have z : (pt D 0 1).map (AV.int .i64) = [.int .i64 0, .int .i64 0, .int .i64 0, .int .i64 0, .int .i64 0, .int .i64 0, .int .i64 0, .int .i64 0] := rfl
    rw [z] at ps
    generalize D.getD 0 0 = x at *
    rw [acs_lp]; conv in Fr.code c41l0 => unfold c41l0
    simp only [Nat.add_zero] at fx
    have n0 : (0 : Int) < (n : Int) := by omega
    have td : Int.tdiv 0 8 = 0 := rfl
    have tm : Int.tmod 0 8 = 0 := rfl
    have wz : IntKind.i64.wrap 0 = 0 := rfl
    simp (maxSteps:=1000000) (disch:=omega) only [go_sem, ↓reduceIte, reduceCtorEq, n0, td, tm, wz, hin, hp, lp, fx, blkAt_lo, set_lo, Int.toNat_zero]
    refine hq _ _ ⟨he.to _, .inr ⟨X.length + 1, by omega, by have := he.len; omega, rfl, ?_⟩⟩
    rw [blkAt_app]
    simp only [List.take_zero, List.nil_append, List.drop_succ_cons, List.drop_zero, Nat.zero_add] at ps
    show some (⟨_, true⟩ : Blk) = some ⟨(pt D (0 + 1) 1).map (AV.int .i64), true⟩
    rw [← ps]
  · have lq := blkAt_lt hb
    by_cases h8 : i % 8 = 0
    · have hk : (i + 7) / 8 = i / 8 := by omega
      rw [hk] at hb ⊢
      have mr := pt_more D (i := i) (k := i / 8) (by omega)
      have mr2 : (pt D i (i / 8)).map (AV.int .i64) ++ [.int .i64 0, .int .i64 0, .int .i64 0, .int .i64 0, .int .i64 0, .int .i64 0, .int .i64 0, .int .i64 0] = (pt D i (i / 8 + 1)).map (AV.int .i64) := by rw [← mr, List.map_append]; rfl
      have ps := ps (i / 8 + 1) (by omega)
      have lP : ((pt D i (i / 8)).map (AV.int .i64)).length = i := by rw [List.length_map, pt_len]; omega
      have tP : List.take i ((pt D i (i / 8)).map (AV.int .i64)) = (pt D i (i / 8)).map (AV.int .i64) := List.take_of_length_le (by rw [lP]; exact Nat.le_refl _)
      have hpk : ∀ G, blkAt (X.set q none ++ G) p = some ⟨cs, oo⟩ := fun G => WI.keep (by omega) hp
      have lN : ((pt D i (i / 8 + 1)).map (AV.int .i64)).length = 8 * (i / 8 + 1) := by rw [List.length_map, pt_len]
      have big : (i / 8 + 1) * 64 ≤ 140737488355328 := by omega
      have bb : i + 1 ≤ 8 * (i / 8 + 1) := by omega
      have b8 : ((i / 8 : Nat) : Int) < ((i / 8 + 1 : Nat) : Int) := by omega
      have b8' : i / 8 < i / 8 + 1 := by omega
      have h8i : ((i % 8 : Nat) : Int) = 0 := by omega
      have e80 : i / 8 * 8 = i := by omega
      have hk2 : (i + 1 + 7) / 8 = i / 8 + 1 := by omega
      generalize (pt D i (i / 8)).map (AV.int .i64) = P0 at *
      generalize (pt D i (i / 8 + 1)).map (AV.int .i64) = P1 at *
      generalize D.getD i 0 = x at *
      rw [acs_lp]; conv in Fr.code c41l0 => unfold c41l0
      simp (maxSteps:=1000000) (disch:=omega) only [go_sem, ↓reduceIte, reduceCtorEq, hlt, hin, hp, lp, fx, q8, r8, h8i, hb, lq, lP, tP, mr2, lN, big, bb, b8, b8', ps, e80, i1, hpk, N1, N2, blkAt_lo, set_lo, Nat.le_refl]
      refine hq _ _ ⟨(he.set hH _).to _, .inr ⟨X.length + 1, by omega, by have := he.len; omega, by rw [hk2], ?_⟩⟩
      rw [N1, hk2]
    · have hk : (i + 7) / 8 = i / 8 + 1 := by omega
      rw [hk] at hb ⊢
      have ps := ps (i / 8 + 1) (by omega)
      have lN : ((pt D i (i / 8 + 1)).map (AV.int .i64)).length = 8 * (i / 8 + 1) := by rw [List.length_map, pt_len]
      have bb : i + 1 ≤ 8 * (i / 8 + 1) := by omega
      have b8 : ((i / 8 : Nat) : Int) < ((i / 8 + 1 : Nat) : Int) := by omega
      have b8' : i / 8 < i / 8 + 1 := by omega
      have h8i : ¬ ((i % 8 : Nat) : Int) = 0 := by omega
      have hk2 : (i + 1 + 7) / 8 = i / 8 + 1 := by omega
      have e8' : i / 8 * 8 + (i % 8 + 1) = i + 1 := by omega
      generalize (pt D i (i / 8 + 1)).map (AV.int .i64) = P1 at *
      generalize D.getD i 0 = x at *
      rw [acs_lp]; conv in Fr.code c41l0 => unfold c41l0
      simp (maxSteps:=1000000) (disch:=omega) only [go_sem, ↓reduceIte, reduceCtorEq, hlt, hin, hp, lp, fx, q8, r8, h8i, hb, lq, lN, bb, b8, b8', b9, ps, e8, e8', i1, Nat.le_refl]
      refine hq _ _ ⟨he.set hH _, .inr ⟨q, by omega, hH, by rw [hk2], ?_⟩⟩
      rw [blkAt_set_self lq, hk2]
theorem f41_loop {H : Heap} {D : List Int} {p off n : Nat} {cp : Option Nat} {fs : List Fr} {Q : Post} (hs : Sl i64 H p off D) (hl : D.length ≤ 39) (hn : n = D.length)
    (hq : ∀ w X, JR H D D.length w X → leave Try.prog 0 fs [(3, w)] X Q) : ∀ (r i : Nat) (w : AV) (X : Heap), i + r = D.length → JR H D i w X → acs Try.prog (.lp c41l0 :: fs) [(0, .sl p off n 1 cp), (3, w), (4, .int .i64 (i : Int))] X Q := by
  intro r
  induction r with
  | zero =>
    intro i w X hi d
    have hge : ¬ (i : Int) < (n : Int) := by omega
    obtain rfl : i = D.length := by omega
    rw [acs_lp]; conv in Fr.code c41l0 => unfold c41l0
    simp (maxSteps:=1000000) (disch:=omega) only [go_sem, ↓reduceIte, reduceCtorEq, hge]
    exact hq w X d
  | succ r ih =>
    intro i w X hi d
    exact f41_round d hs hl hn (by omega) fun w' X' d' => ih (i + 1) w' X' (by omega) d'
theorem f41 {H : Heap} {D : List Int} {p off : Nat} {cp : Option Nat} (hs : Sl i64 H p off D) (hl : D.length ≤ 39) (h0 : 0 < D.length) :
    ACallE Try.prog 41 [.sl p off D.length 1 cp] H fun v H' => ∃ q, v = .sl q 0 ((D.length + 7) / 8) 8 none ∧ blkAt H' q = some ⟨(pc D ((D.length + 7) / 8)).map (AV.int .i64), true⟩ ∧ H.length ≤ q := by
  refine acallE (fun v Hf h => acallK41 (by simp) h) (acs_start ?_)
  unfold c41
  simp (maxSteps:=1000000) (disch:=omega) only [go_sem, ↓reduceIte, reduceCtorEq]
  refine f41_loop (H := H) hs hl rfl (fun w X d => ?_) D.length 0 .nils H (by omega) ⟨Ext.refl _, .inl ⟨rfl, rfl⟩⟩
  obtain ⟨he, hw⟩ := d
  rcases hw with ⟨h, _⟩ | ⟨q, _, hH, rfl, hb⟩
  · omega
  · rw [pt_pc (by omega)] at hb
    simp (maxSteps:=1000000) (disch:=omega) only [go_sem, ↓reduceIte, reduceCtorEq]
    refine fin_e (by simp) (by simp (maxSteps:=1000000) (disch:=omega) only [resVal, resAll, resOne, rs41, Env.get, go_sem, ↓reduceIte, reduceCtorEq] <;> rfl) he ⟨_, rfl, hb, hH⟩

theorem f20_ok {c0 c1 c2 c3 c4 c5 : Int} {e : Es} {H : Heap} (hm : mayB c0 c1 c2 c3 c4 c5 = true) (he : estB e = true) (hok : e.ok H) :
    ACallE Try.prog 20 [.agg [.int .i64 c0, .int .i64 c1, .int .i64 c2, .int .i64 c3, .int .i64 c4, .int .i64 c5], .agg e.av] H fun v H' => ∃ q, v = .tup [.sl q 0 (((dlt e).length + 7) / 8) 8 none, .int .i64 ((dlt e).length : Int), .int .i64 0] ∧ blkAt H' q = some ⟨(pc (dlt e) (((dlt e).length + 7) / 8)).map (AV.int .i64), true⟩ ∧ H.length ≤ q := by
  refine acallE (fun v Hf h => acallK20 (by simp) h) (acs_start ?_)
  have full : (AV.agg e.av).full = true := rfl
  have len : e.av.length = 29 := rfl
  have all : e.av.all AV.cell = true := rfl
  have tk : List.take 29 e.av = e.av := rfl
  obtain ⟨ta, tb, tc⟩ := three_a he
  have lw := wds_len he
  obtain ⟨D0, D1⟩ := dlt_len he
  unfold c20
  simp (maxSteps:=1000000) (disch:=omega) only [go_sem, ↓reduceIte, reduceCtorEq, full, len, all, tk]
  first | refine callBE (f15 hm) ?_ | refine callDE (f15 hm) ?_ | refine callXE (f15 hm) ?_
  rintro v X hx ⟨b, rfl, hb, hbk⟩
  have fullb : (AV.agg b.av).full = true := rfl
  have lenb : b.av.length = 29 := rfl
  have allb : b.av.all AV.cell = true := rfl
  have tkb : List.take 29 b.av = b.av := rfl
  have drpb : List.drop 29 b.av = [] := rfl
  have hX : Ext H X := (Ext.app _ _).trans hx
  have h3 : blkAt X (H.length + 1) = some ⟨e.av, true⟩ := hx.blk (by simp only [go_sem, ↓reduceIte, reduceCtorEq])
  have l3 := blkAt_lt h3
  have g11 := fun G => f11 ((hok.ext hX).app G)
  rw [he] at g11
  simp (maxSteps:=1000000) (disch:=omega) only [go_sem, ↓reduceIte, reduceCtorEq, fullb, lenb, allb, tkb, drpb, h3, l3, len, tk, blkAt_lo]
  first | refine callB_intro (g11 _) ?_ | refine callD_intro (g11 _) ?_ | refine callP_intro (fun _ => (g11 _)) ?_ | refine callX_pure (g11 _) ?_
  simp (maxSteps:=1000000) (disch:=omega) only [go_sem, ↓reduceIte, reduceCtorEq, fullb, lenb, allb, tkb, drpb, h3, l3, len, tk, blkAt_lo]
  first | refine callBE (f40 (hbk.app _) hb.a.three hb.b.three hb.c.three) ?_ | refine callDE (f40 (hbk.app _) hb.a.three hb.b.three hb.c.three) ?_ | refine callXE (f40 (hbk.app _) hb.a.three hb.b.three hb.c.three) ?_
  rintro v Y hy ⟨q1, rfl, h1, _⟩
  rw [hb.wds] at h1
  have hXY : Ext X Y := (Ext.app _ _).trans hy
  have y3 := hXY.blk h3
  simp (maxSteps:=1000000) (disch:=omega) only [go_sem, ↓reduceIte, reduceCtorEq, y3, len, tk]
  first | refine callBE (f40 ((hok.ext hX).ext hXY) ta tb tc) ?_ | refine callDE (f40 ((hok.ext hX).ext hXY) ta tb tc) ?_ | refine callXE (f40 ((hok.ext hX).ext hXY) ta tb tc) ?_
  rintro v Z hz ⟨q2, rfl, h2, _⟩
  have h1Z := hz.blk h1
  have hHZ := (hX.trans hXY).trans hz
  have g39 := f39_any w0 (wds e) q1 q2 none none true true Z h1Z h2
  have ds : dspec w0 (wds e) = (dlt e, 0) := by
    unfold dspec
    rw [if_neg (by rw [lw]; simp [w0_len]), if_neg (by rw [w0_len]; decide)]
    rfl
  rw [ds, lw, w0_len] at g39
  unfold rowres rowheap at g39
  simp only at g39
  simp (maxSteps:=1000000) (disch:=omega) only [go_sem, ↓reduceIte, reduceCtorEq]
  first | refine callB_intro (g39) ?_ | refine callD_intro (g39) ?_ | refine callP_intro (fun _ => (g39)) ?_ | refine callX_pure (g39) ?_
  have b3 : blkAt (Z ++ [some ⟨(dlt e).map (AV.int .i64), false⟩]) Z.length = some ⟨(dlt e).map (AV.int .i64), false⟩ := by rw [blkAt_app0]; rfl
  simp (maxSteps:=1000000) (disch:=omega) only [go_sem, ↓reduceIte, reduceCtorEq]
  first | refine callBE (f41 (cp := none) (Sl.whole (f := i64) (o := false) b3) D1 D0) ?_ | refine callDE (f41 (cp := none) (Sl.whole (f := i64) (o := false) b3) D1 D0) ?_ | refine callXE (f41 (cp := none) (Sl.whole (f := i64) (o := false) b3) D1 D0) ?_
  rintro v U hu ⟨q3, rfl, h3q, hl3⟩
  rw [List.length_append] at hl3
  simp (maxSteps:=1000000) (disch:=omega) only [go_sem, ↓reduceIte, reduceCtorEq]
  have := hHZ.len
  refine fin_e (by simp) (by simp (maxSteps:=1000000) (disch:=omega) only [resVal, resAll, resOne, rs20, Env.get, go_sem, ↓reduceIte, reduceCtorEq] <;> rfl) ((hHZ.to _).trans hu) ⟨q3, rfl, h3q, by omega⟩
theorem f23_nil {H : Heap} : ACall Try.prog 23 [.nils, .nils] H (.bool true) H := by
  refine acall23 (by simp) (acs_start ?_)
  unfold c23
  simp (maxSteps:=1000000) (disch:=omega) only [go_sem, ↓reduceIte, reduceCtorEq]
  rw [acs_lp]; conv in Fr.code c23l0 => unfold c23l0
  simp (maxSteps:=1000000) (disch:=omega) only [go_sem, ↓reduceIte, reduceCtorEq]
  exact fin_ext (by simp) (Ext.refl _) (by simp (maxSteps:=1000000) (disch:=omega) only [resVal, resAll, resOne, rs23, Env.get, go_sem, ↓reduceIte, reduceCtorEq]) (by simp only [AV.und, AV.unds, and_self])
theorem f23_loop {H : Heap} {W : List Int} {q r n : Nat} {c1 c2 : Option Nat} {o o' : Bool} {fs : List Fr} {Q : Post} (hq : blkAt H q = some ⟨W.map (AV.int .i64), o⟩) (hr : blkAt H r = some ⟨W.map (AV.int .i64), o'⟩) (hl : W.length = 8 * n) (hn : n ≤ 5)
    (hQ : leave Try.prog 0 fs [] H Q) : ∀ (m k : Nat), k + m = n → acs Try.prog (.lp c23l0 :: fs) [(0, .sl q 0 n 8 c1), (1, .sl r 0 n 8 c2), (5, .int .i64 (k : Int))] H Q := by
  intro m
  induction m with
  | zero =>
    intro k hk
    have hge : ¬ (k : Int) < (n : Int) := by omega
    rw [acs_lp]; conv in Fr.code c23l0 => unfold c23l0
    simp (maxSteps:=1000000) (disch:=omega) only [go_sem, ↓reduceIte, reduceCtorEq, hge]
    exact hQ
  | succ m ih =>
    intro k hk
    have hlt : (k : Int) < (n : Int) := by omega
    have hlt' : k < n := by omega
    have i1 : (k : Int) + 1 = ((k + 1 : Nat) : Int) := by omega
    have lW : (W.map (AV.int .i64)).length = 8 * n := by rw [List.length_map, hl]
    have hle : k * 8 + 8 ≤ 8 * n := by omega
    have e8 : eqCells [.int, .int, .int, .int, .int, .int, .int, .int] (List.take 8 (List.drop (k * 8) (W.map (AV.int .i64)))) (List.take 8 (List.drop (k * 8) (W.map (AV.int .i64)))) = some true := by
      rw [← List.map_drop, ← List.map_take]
      exact eq8 (by rw [List.length_take, List.length_drop, hl]; omega)
    have next := ih (k + 1) (by omega)
    generalize W.map (AV.int .i64) = V at *
    rw [acs_lp]; conv in Fr.code c23l0 => unfold c23l0
    simp (maxSteps:=1000000) (disch:=omega) only [go_sem, ↓reduceIte, reduceCtorEq, hlt, hlt', hq, hr, lW, hle, e8, i1]
    exact next
theorem f23_same {H : Heap} {W : List Int} {q r n : Nat} {c1 c2 : Option Nat} {o o' : Bool} (hq : blkAt H q = some ⟨W.map (AV.int .i64), o⟩) (hr : blkAt H r = some ⟨W.map (AV.int .i64), o'⟩) (hl : W.length = 8 * n) (hn : n ≤ 5) : ACall Try.prog 23 [.sl q 0 n 8 c1, .sl r 0 n 8 c2] H (.bool true) H := by
  refine acall23 (by simp) (acs_start ?_)
  unfold c23
  simp (maxSteps:=1000000) (disch:=omega) only [go_sem, ↓reduceIte, reduceCtorEq]
  refine f23_loop hq hr hl hn ?_ n 0 (by omega)
  simp (maxSteps:=1000000) (disch:=omega) only [go_sem, ↓reduceIte, reduceCtorEq]
  exact fin_ext (by simp) (Ext.refl _) (by simp (maxSteps:=1000000) (disch:=omega) only [resVal, resAll, resOne, rs23, Env.get, go_sem, ↓reduceIte, reduceCtorEq]) (by simp only [AV.und, AV.unds, and_self])
theorem f13_zero {H : Heap} : ACall Try.prog 13 [.agg zEs, .agg zEs] H (.bool true) H := by
  have f52z : ∀ H, ACall Try.prog 52 [.agg [.int .i64 0, .int .i64 0, .nils], .agg [.int .i64 0, .int .i64 0, .nils]] H (.bool true) H := by
    intro H
    refine acall52 (by simp) (acs_start ?_)
    unfold c52
    simp (maxSteps:=1000000) (disch:=omega) only [go_sem, ↓reduceIte, reduceCtorEq]
    rw [acs_lp]; conv in Fr.code c52l0 => unfold c52l0
    simp (maxSteps:=1000000) (disch:=omega) only [go_sem, ↓reduceIte, reduceCtorEq]
    exact fin_ext (by simp) (Ext.app _ _) (by simp (maxSteps:=1000000) (disch:=omega) only [resVal, resAll, resOne, rs52, Env.get, go_sem, ↓reduceIte, reduceCtorEq]) (by simp only [AV.und, AV.unds, and_self])
  have f29z : ∀ H, ACall Try.prog 29 [.agg [.int .i64 0, .int .i64 0, .nils, .int .i64 0, .int .i64 0, .nils], .agg [.int .i64 0, .int .i64 0, .nils, .int .i64 0, .int .i64 0, .nils]] H (.bool true) H := by
    intro H
    refine acall29 (by simp) (acs_start ?_)
    unfold c29
    simp (maxSteps:=1000000) (disch:=omega) only [go_sem, ↓reduceIte, reduceCtorEq]
    first | refine callB_intro (f52z _) ?_ | refine callD_intro (f52z _) ?_ | refine callP_intro (fun _ => (f52z _)) ?_ | refine callX_pure (f52z _) ?_
    simp (maxSteps:=1000000) (disch:=omega) only [go_sem, ↓reduceIte, reduceCtorEq]
    first | refine callB_intro (f52z _) ?_ | refine callD_intro (f52z _) ?_ | refine callP_intro (fun _ => (f52z _)) ?_ | refine callX_pure (f52z _) ?_
    simp (maxSteps:=1000000) (disch:=omega) only [go_sem, ↓reduceIte, reduceCtorEq]
    exact fin_ext (by simp) (Ext.app _ _) (by simp (maxSteps:=1000000) (disch:=omega) only [resVal, resAll, resOne, rs29, Env.get, go_sem, ↓reduceIte, reduceCtorEq]) (by simp only [AV.und, AV.unds, and_self])
  refine acall13 (by simp) (acs_start ?_)
  unfold zEs c13
  simp (maxSteps:=1000000) (disch:=omega) only [go_sem, ↓reduceIte, reduceCtorEq]
  first | refine callB_intro (f29z _) ?_ | refine callD_intro (f29z _) ?_ | refine callP_intro (fun _ => (f29z _)) ?_ | refine callX_pure (f29z _) ?_
  simp (maxSteps:=1000000) (disch:=omega) only [go_sem, ↓reduceIte, reduceCtorEq]
  first | refine callB_intro (f29z _) ?_ | refine callD_intro (f29z _) ?_ | refine callP_intro (fun _ => (f29z _)) ?_ | refine callX_pure (f29z _) ?_
  simp (maxSteps:=1000000) (disch:=omega) only [go_sem, ↓reduceIte, reduceCtorEq]
  first | refine callB_intro (f29z _) ?_ | refine callD_intro (f29z _) ?_ | refine callP_intro (fun _ => (f29z _)) ?_ | refine callX_pure (f29z _) ?_
  simp (maxSteps:=1000000) (disch:=omega) only [go_sem, ↓reduceIte, reduceCtorEq]
  exact fin_ext (by simp) (Ext.app _ _) (by simp (maxSteps:=1000000) (disch:=omega) only [resVal, resAll, resOne, rs13, Env.get, go_sem, ↓reduceIte, reduceCtorEq]) (by simp only [AV.und, AV.unds, and_self])

theorem Tk.eqv.symm {t u : Tk} (h : t.eqv u) : u.eqv t := ⟨h.xr.symm, h.xc.symm, h.xl.symm, h.pr.symm, h.pc.symm, h.pl.symm⟩
theorem Tk.eqv.trans {t u v : Tk} (h : t.eqv u) (g : u.eqv v) : t.eqv v := ⟨h.xr.trans g.xr, h.xc.trans g.xc, h.xl.trans g.xl, h.pr.trans g.pr, h.pc.trans g.pc, h.pl.trans g.pl⟩
theorem Es.eqv.symm {e f : Es} (h : e.eqv f) : f.eqv e := by
  obtain ⟨⟨a1, a2, a3, a4⟩, ha, hb, hc, b1, b2, b3, b4, b5, b6, b7⟩ := h
  exact ⟨⟨a1.symm, a2.symm, a3.symm, a4.symm⟩, ha.symm, hb.symm, hc.symm, b1.symm, b2.symm, b3.symm, b4.symm, b5.symm, b6.symm, b7.symm⟩
theorem Es.eqv.trans {e f g : Es} (h : e.eqv f) (k : f.eqv g) : e.eqv g := by
  obtain ⟨⟨a1, a2, a3, a4⟩, ha, hb, hc, b1, b2, b3, b4, b5, b6, b7⟩ := h
  obtain ⟨⟨d1, d2, d3, d4⟩, ka, kb, kc, e1, e2, e3, e4, e5, e6, e7⟩ := k
  exact ⟨⟨a1.trans d1, a2.trans d2, a3.trans d3, a4.trans d4⟩, ha.trans ka, hb.trans kb, hc.trans kc, b1.trans e1, b2.trans e2, b3.trans e3, b4.trans e4, b5.trans e5, b6.trans e6, b7.trans e7⟩
def LL (b : Bool) (e : Es) (l : AV) (H : Heap) : Prop := (b = true → ∃ q, l = .sl q 0 (((dlt e).length + 7) / 8) 8 none ∧ blkAt H q = some ⟨(pc (dlt e) (((dlt e).length + 7) / 8)).map (AV.int .i64), true⟩) ∧ (b = false → l = .nils)
theorem LL.ext {b : Bool} {e : Es} {l : AV} {H H' : Heap} (h : LL b e l H) (hx : Ext H H') : LL b e l H' :=
  ⟨fun hb => by obtain ⟨q, h1, h2⟩ := h.1 hb; exact ⟨q, h1, hx.blk h2⟩, h.2⟩
theorem LL.nl {e : Es} {H : Heap} : LL false e .nils H := ⟨fun h => Bool.noConfusion h, fun _ => rfl⟩
theorem LL.sl {e : Es} {H : Heap} {q : Nat} (h : blkAt H q = some ⟨(pc (dlt e) (((dlt e).length + 7) / 8)).map (AV.int .i64), true⟩) : LL true e (.sl q 0 (((dlt e).length + 7) / 8) 8 none) H := ⟨fun _ => ⟨q, rfl, h⟩, fun h => Bool.noConfusion h⟩
def oN (b : Bool) (e : Es) : Int := if b then ((dlt e).length : Int) else 0
def oB (b : Bool) : Int := if b then 0 else 1
theorem f16_gen {c0 c1 c2 c3 c4 c5 : Int} {e : Es} {H : Heap} (hok : e.ok H) : ACallE Try.prog 16 [.agg [.int .i64 c0, .int .i64 c1, .int .i64 c2, .int .i64 c3, .int .i64 c4, .int .i64 c5], .agg e.av] H fun v H' => ∃ l, v = .tup [l, .int .i64 (oN (mayB c0 c1 c2 c3 c4 c5 && estB e) e), .int .i64 (oB (mayB c0 c1 c2 c3 c4 c5 && estB e))] ∧ LL (mayB c0 c1 c2 c3 c4 c5 && estB e) e l H' := by
  cases hm : mayB c0 c1 c2 c3 c4 c5 with
  | false => exact (f16_conf hm).mono fun v H' _ h => ⟨_, h, LL.nl⟩
  | true =>
    cases he : estB e with
    | false => exact (f16_est hm he hok).mono fun v H' _ h => ⟨_, h, LL.nl⟩
    | true => exact (f16 hm he hok).mono fun v H' _ ⟨q, h1, h2, _⟩ => ⟨_, h1, LL.sl h2⟩
theorem f20_gen {c0 c1 c2 c3 c4 c5 : Int} {e : Es} {H : Heap} (hok : e.ok H) : ACallE Try.prog 20 [.agg [.int .i64 c0, .int .i64 c1, .int .i64 c2, .int .i64 c3, .int .i64 c4, .int .i64 c5], .agg e.av] H fun v H' => ∃ l, v = .tup [l, .int .i64 (oN (mayB c0 c1 c2 c3 c4 c5 && estB e) e), .int .i64 (oB (mayB c0 c1 c2 c3 c4 c5 && estB e))] ∧ LL (mayB c0 c1 c2 c3 c4 c5 && estB e) e l H' := by
  cases hm : mayB c0 c1 c2 c3 c4 c5 with
  | false => exact (f20_conf hm hok).mono fun v H' _ h => ⟨_, h, LL.nl⟩
  | true =>
    cases he : estB e with
    | false => exact (f20_est hm he hok).mono fun v H' _ h => ⟨_, h, LL.nl⟩
    | true => exact (f20_ok hm he hok).mono fun v H' _ ⟨q, h1, h2, _⟩ => ⟨_, h1, LL.sl h2⟩
theorem f23_gen {b : Bool} {e : Es} {l l' : AV} {H : Heap} (hb : b = true → estB e = true) (h : LL b e l H) (h' : LL b e l' H) : ACall Try.prog 23 [l, l'] H (.bool true) H := by
  cases b with
  | false =>
    rw [h.2 rfl, h'.2 rfl]
    exact f23_nil
  | true =>
    obtain ⟨q, rfl, hq⟩ := h.1 rfl
    obtain ⟨r, rfl, hr⟩ := h'.1 rfl
    obtain ⟨D0, D1⟩ := dlt_len (hb rfl)
    exact f23_same hq hr (pc_len _ _) (by omega)
def AA (t : Bool) (W : List Int) (A : List AV) (H : Heap) : Prop := (t = false → A = zEs) ∧ (t = true → ∃ f : Es, A = f.av ∧ f.eqv (ofE W) ∧ f.ok H)
theorem AA.ext {t : Bool} {W : List Int} {A : List AV} {H H' : Heap} (h : AA t W A H) (hx : Ext H H') : AA t W A H' :=
  ⟨h.1, fun ht => by obtain ⟨f, h1, h2, h3⟩ := h.2 ht; exact ⟨f, h1, h2, h3.ext hx⟩⟩
theorem AA.facts {t : Bool} {W : List Int} {A : List AV} {H : Heap} (h : AA t W A H) : (AV.agg A).full = true ∧ A.length = 29 ∧ A.all AV.cell = true ∧ List.take 29 A = A ∧ List.drop 29 A = [] := by
  cases t with
  | false => rw [h.1 rfl]; exact ⟨rfl, rfl, rfl, rfl, rfl⟩
  | true => obtain ⟨f, rfl, _⟩ := h.2 rfl; exact ⟨rfl, rfl, rfl, rfl, rfl⟩
theorem AA.nl {W : List Int} {H : Heap} : AA false W zEs H := ⟨fun _ => rfl, fun h => Bool.noConfusion h⟩
theorem f13_gen {t : Bool} {W : List Int} {A B : List AV} {H : Heap} (h : AA t W A H) (h' : AA t W B H) : ACall Try.prog 13 [.agg A, .agg B] H (.bool true) H := by
  cases t with
  | false =>
    rw [h.1 rfl, h'.1 rfl]
    exact f13_zero
  | true =>
    obtain ⟨f, rfl, hf, hfo⟩ := h.2 rfl
    obtain ⟨g, rfl, hg, hgo⟩ := h'.2 rfl
    exact f13 hfo hgo (hf.trans hg.symm)
theorem DoneT.aa {s : Sn} {v : AV} {H : Heap} (h : DoneT s v H) : ∃ A, v = .tup [.agg A, .bool (doneB s)] ∧ AA (doneB s) (sR s).1 A H := by
  rcases h with ⟨hd, rfl⟩ | ⟨hd, f, rfl, hf, hfo⟩
  · rw [hd]; exact ⟨_, rfl, AA.nl⟩
  · rw [hd]; exact ⟨_, rfl, fun h => Bool.noConfusion h, fun _ => ⟨f, rfl, hf, hfo⟩⟩
theorem f21_gen {c0 c1 c2 c3 c4 c5 : Int} {s : Sn} {H : Heap} (hs : s.ok) : ACallE Try.prog 21 [.agg [.int .i64 c0, .int .i64 c1, .int .i64 c2, .int .i64 c3, .int .i64 c4, .int .i64 c5], .agg s.av] H fun v H' => ∃ A, v = .tup [.agg A, .bool (mayB c0 c1 c2 c3 c4 c5 && doneB s)] ∧ AA (mayB c0 c1 c2 c3 c4 c5 && doneB s) (sR s).1 A H' := by
  cases hm : mayB c0 c1 c2 c3 c4 c5 with
  | false => exact (f21_conf hm hs).mono fun v H' _ h => ⟨_, h, AA.nl⟩
  | true =>
    rw [Bool.true_and]
    exact (f21_any hm hs).mono fun v H' _ h => h.aa
theorem f22_gen {c0 c1 c2 c3 c4 c5 : Int} {s : Sn} {H : Heap} (hs : s.ok) : ACallE Try.prog 22 [.agg [.int .i64 c0, .int .i64 c1, .int .i64 c2, .int .i64 c3, .int .i64 c4, .int .i64 c5], .agg s.av] H fun v H' => ∃ A, v = .tup [.agg A, .bool (mayB c0 c1 c2 c3 c4 c5 && doneB s)] ∧ AA (mayB c0 c1 c2 c3 c4 c5 && doneB s) (sR s).1 A H' := by
  cases hm : mayB c0 c1 c2 c3 c4 c5 with
  | false => exact (f22_conf hm hs).mono fun v H' _ h => ⟨_, h, AA.nl⟩
  | true =>
    rw [Bool.true_and]
    exact (f22_any hm hs).mono fun v H' _ h => h.aa


def p9 (y0 y1 y2 y3 y4 y5 : Int) (e : Es) (l : List AV) : List AV := [.int .i64 y0, .int .i64 y1, .int .i64 y2, .int .i64 y3, .int .i64 y4, .int .i64 y5] ++ (e.av ++ l)
theorem p9_t6 (y0 y1 y2 y3 y4 y5 : Int) (e : Es) (l : List AV) : List.take 6 (p9 y0 y1 y2 y3 y4 y5 e l) = [.int .i64 y0, .int .i64 y1, .int .i64 y2, .int .i64 y3, .int .i64 y4, .int .i64 y5] := rfl
theorem p9_t29 (y0 y1 y2 y3 y4 y5 : Int) (e : Es) (l : List AV) : List.take 29 (List.drop 6 (p9 y0 y1 y2 y3 y4 y5 e l)) = e.av := rfl
theorem p9_d35 (y0 y1 y2 y3 y4 y5 : Int) (e : Es) (l : List AV) : List.drop 35 (p9 y0 y1 y2 y3 y4 y5 e l) = l := rfl
theorem p9_len (y0 y1 y2 y3 y4 y5 : Int) (e : Es) (l : List AV) : (p9 y0 y1 y2 y3 y4 y5 e l).length = 35 + l.length := by
  have : e.av.length = 29 := rfl
  unfold p9
  simp [this]
  omega

def p7 (y0 y1 y2 y3 y4 y5 : Int) (e : Es) (s : Sn) (a b c d i : Int) (q : List Int) : List AV := p9 y0 y1 y2 y3 y4 y5 e (pav s a b c d i q)
structure Small (e : Es) : Prop where
  ax : e.a.xl.length ≤ 1000000000000000
  ap : e.a.pl.length ≤ 1000000000000000
  bx : e.b.xl.length ≤ 1000000000000000
  bp : e.b.pl.length ≤ 1000000000000000
  cx : e.c.xl.length ≤ 1000000000000000
  cp : e.c.pl.length ≤ 1000000000000000
theorem f7 {y0 y1 y2 y3 y4 y5 a b c d i : Int} {e : Es} {s : Sn} {q : List Int} {H : Heap} (hok : e.ok H) (hsm : Small e) (hs : s.ok) (hq8 : q.length = 8) : ACall Try.prog 7 [.agg (p7 y0 y1 y2 y3 y4 y5 e s a b c d i q)] H (.bool true) H := by
  refine acall7 (by simp) (acs_start ?_)
  have full : (AV.agg e.av).full = true := rfl
  have len : e.av.length = 29 := rfl
  have all : e.av.all AV.cell = true := rfl
  have tk : List.take 29 e.av = e.av := rfl
  have drp : List.drop 29 e.av = [] := rfl
  have lenS := Sn.len hs
  have fullS := s.full
  have allS := s.all
  have tkS := Sn.tk hs
  have drpS := Sn.drp hs
  have lenq : (q.map (AV.int .i64)).length = 8 := by rw [List.length_map, hq8]
  have tkq : List.take 8 (q.map (AV.int .i64)) = q.map (AV.int .i64) := List.take_of_length_le (by omega)
  have drpq : List.drop 8 (q.map (AV.int .i64)) = [] := List.drop_of_length_le (by omega)
  have fullq : (AV.agg (q.map (AV.int .i64))).full = true := all_int q
  have allq := all_int q
  have lenP : (pav s a b c d i q).length = 62 := by unfold pav; simp [lenS, hq8]
  have allP : (pav s a b c d i q).all AV.cell = true := by unfold pav; rw [List.all_append, List.all_append, allS, allq]; rfl
  have e49 : ∀ l : List AV, List.drop 49 (s.av ++ l) = l := fun l => by rw [← lenS, List.drop_left]
  have pt0 : List.take 49 (pav s a b c d i q) = s.av := by unfold pav; rw [← lenS, List.take_left]
  have pt49 : List.take 4 (List.drop 49 (pav s a b c d i q)) = [.int .i64 a, .int .i64 b, .int .i64 c, .int .i64 d] := by unfold pav; rw [e49]; rfl
  have pt54 : List.take 8 (List.drop 54 (pav s a b c d i q)) = q.map (AV.int .i64) := by
    unfold pav
    rw [show (54 : Nat) = 49 + 5 from rfl, ← List.drop_drop, e49]
    exact tkq
  have pz53 : (pav s a b c d i q)[53]? = some (.int .i64 i) := by
    unfold pav
    rw [List.getElem?_append_right (by omega), lenS]
    rfl
  have t6 := p9_t6 y0 y1 y2 y3 y4 y5 e (pav s a b c d i q)
  have t29 := p9_t29 y0 y1 y2 y3 y4 y5 e (pav s a b c d i q)
  have d35 := p9_d35 y0 y1 y2 y3 y4 y5 e (pav s a b c d i q)
  have t35 : List.take 49 (List.drop 35 (p7 y0 y1 y2 y3 y4 y5 e s a b c d i q)) = s.av := by unfold p7; rw [d35, pt0]
  have t84 : List.take 4 (List.drop 84 (p7 y0 y1 y2 y3 y4 y5 e s a b c d i q)) = [.int .i64 a, .int .i64 b, .int .i64 c, .int .i64 d] := by unfold p7; rw [show (84 : Nat) = 35 + 49 from rfl, ← List.drop_drop, d35, pt49]
  have t89 : List.take 8 (List.drop 89 (p7 y0 y1 y2 y3 y4 y5 e s a b c d i q)) = q.map (AV.int .i64) := by unfold p7; rw [show (89 : Nat) = 35 + 54 from rfl, ← List.drop_drop, d35, pt54]
  have z88 : (p7 y0 y1 y2 y3 y4 y5 e s a b c d i q)[88]? = some (.int .i64 i) := by
    have := congrArg (·[53]?) d35
    simp only [List.getElem?_drop] at this
    unfold p7
    rw [← pz53, ← this]
  have lp : (p7 y0 y1 y2 y3 y4 y5 e s a b c d i q).length = 97 := by unfold p7; rw [p9_len, lenP]
  have ap : (p7 y0 y1 y2 y3 y4 y5 e s a b c d i q).all AV.cell = true := by unfold p7 p9; rw [List.all_append, List.all_append, all, allP]; rfl
  have fp : (AV.agg (p7 y0 y1 y2 y3 y4 y5 e s a b c d i q)).full = true := ap
  have t6' : List.take 6 (p7 y0 y1 y2 y3 y4 y5 e s a b c d i q) = [.int .i64 y0, .int .i64 y1, .int .i64 y2, .int .i64 y3, .int .i64 y4, .int .i64 y5] := t6
  have t29' : List.take 29 (List.drop 6 (p7 y0 y1 y2 y3 y4 y5 e s a b c d i q)) = e.av := t29
  clear t6 t29 d35
  generalize p7 y0 y1 y2 y3 y4 y5 e s a b c d i q = P7 at *
  have s6 : e.av[6]? = some (.sl e.a.xp e.a.xo e.a.xl.length 1 e.a.xk) := rfl
  have s9 : e.av[9]? = some (.sl e.a.pp e.a.po e.a.pl.length 1 e.a.pk) := rfl
  have s12 : e.av[12]? = some (.sl e.b.xp e.b.xo e.b.xl.length 1 e.b.xk) := rfl
  have s15 : e.av[15]? = some (.sl e.b.pp e.b.po e.b.pl.length 1 e.b.pk) := rfl
  have s18 : e.av[18]? = some (.sl e.c.xp e.c.xo e.c.xl.length 1 e.c.xk) := rfl
  have s21 : e.av[21]? = some (.sl e.c.pp e.c.po e.c.pl.length 1 e.c.pk) := rfl
  obtain ⟨hax, hap, hbx, hbp, hcx, hcp⟩ := hsm
  have wa : IntKind.i64.wrap ((e.a.xl.length : Int) + (e.a.pl.length : Int)) = (e.a.xl.length : Int) + (e.a.pl.length : Int) := i64_in _ (by omega)
  have wb : IntKind.i64.wrap ((e.b.xl.length : Int) + (e.b.pl.length : Int)) = (e.b.xl.length : Int) + (e.b.pl.length : Int) := i64_in _ (by omega)
  have wc : IntKind.i64.wrap ((e.c.xl.length : Int) + (e.c.pl.length : Int)) = (e.c.xl.length : Int) + (e.c.pl.length : Int) := i64_in _ (by omega)
  generalize hEV : e.av = EV at *
  unfold c7
  simp (maxSteps:=1000000) (disch:=omega) only [go_sem, ↓reduceIte, reduceCtorEq, lp, ap, fp, t6', t29', t35, t84, t89, z88, full, len, all, tk, drp, lenS, fullS, allS, tkS, drpS, lenq, tkq, drpq, fullq, allq]
  first | refine callB_intro (f10) ?_ | refine callD_intro (f10) ?_ | refine callP_intro (fun _ => (f10)) ?_ | refine callX_pure (f10) ?_
  simp (maxSteps:=1000000) (disch:=omega) only [go_sem, ↓reduceIte, reduceCtorEq]
  by_cases ga : (40 : Int) < (e.a.xl.length : Int) + (e.a.pl.length : Int)
  · rw [acs_lp]; conv in Fr.code c7l0 => unfold c7l0
    simp (maxSteps:=1000000) (disch:=omega) only [go_sem, ↓reduceIte, reduceCtorEq, s6, s9, wa, ga]
    exact fin_ext (by simp) (Ext.app _ _) (by simp (maxSteps:=1000000) (disch:=omega) only [resVal, resAll, resOne, rs7, Env.get, go_sem, ↓reduceIte, reduceCtorEq]) (by simp only [AV.und, AV.unds, and_self])
  by_cases gb : (40 : Int) < (e.b.xl.length : Int) + (e.b.pl.length : Int)
  · rw [acs_lp]; conv in Fr.code c7l0 => unfold c7l0
    simp (maxSteps:=1000000) (disch:=omega) only [go_sem, ↓reduceIte, reduceCtorEq, s6, s9, wa, ga]
    rw [acs_lp]; conv in Fr.code c7l0 => unfold c7l0
    simp (maxSteps:=1000000) (disch:=omega) only [go_sem, ↓reduceIte, reduceCtorEq, s12, s15, wb, gb]
    exact fin_ext (by simp) (Ext.app _ _) (by simp (maxSteps:=1000000) (disch:=omega) only [resVal, resAll, resOne, rs7, Env.get, go_sem, ↓reduceIte, reduceCtorEq]) (by simp only [AV.und, AV.unds, and_self])
  by_cases gc : (40 : Int) < (e.c.xl.length : Int) + (e.c.pl.length : Int)
  · rw [acs_lp]; conv in Fr.code c7l0 => unfold c7l0
    simp (maxSteps:=1000000) (disch:=omega) only [go_sem, ↓reduceIte, reduceCtorEq, s6, s9, wa, ga]
    rw [acs_lp]; conv in Fr.code c7l0 => unfold c7l0
    simp (maxSteps:=1000000) (disch:=omega) only [go_sem, ↓reduceIte, reduceCtorEq, s12, s15, wb, gb]
    rw [acs_lp]; conv in Fr.code c7l0 => unfold c7l0
    simp (maxSteps:=1000000) (disch:=omega) only [go_sem, ↓reduceIte, reduceCtorEq, s18, s21, wc, gc]
    exact fin_ext (by simp) (Ext.app _ _) (by simp (maxSteps:=1000000) (disch:=omega) only [resVal, resAll, resOne, rs7, Env.get, go_sem, ↓reduceIte, reduceCtorEq]) (by simp only [AV.und, AV.unds, and_self])
  rw [acs_lp]; conv in Fr.code c7l0 => unfold c7l0
  simp (maxSteps:=1000000) (disch:=omega) only [go_sem, ↓reduceIte, reduceCtorEq, s6, s9, wa, ga]
  rw [acs_lp]; conv in Fr.code c7l0 => unfold c7l0
  simp (maxSteps:=1000000) (disch:=omega) only [go_sem, ↓reduceIte, reduceCtorEq, s12, s15, wb, gb]
  rw [acs_lp]; conv in Fr.code c7l0 => unfold c7l0
  simp (maxSteps:=1000000) (disch:=omega) only [go_sem, ↓reduceIte, reduceCtorEq, s18, s21, wc, gc]
  rw [acs_lp]; conv in Fr.code c7l0 => unfold c7l0
  simp (maxSteps:=1000000) (disch:=omega) only [go_sem, ↓reduceIte, reduceCtorEq, full, len, all, tk, drp]
  rw [← hEV]
  first | refine callBE (f16_gen (hok.app _)) ?_ | refine callDE (f16_gen (hok.app _)) ?_ | refine callXE (f16_gen (hok.app _)) ?_
  rintro v X hx ⟨l, rfl, hL⟩
  have lenE : e.av.length = 29 := rfl
  have tkE : List.take 29 e.av = e.av := rfl
  have hX : Ext H X := (Ext.app _ _).trans hx
  have x3 : blkAt X (H.length + 1) = some ⟨[.int .i64 y0, .int .i64 y1, .int .i64 y2, .int .i64 y3, .int .i64 y4, .int .i64 y5], true⟩ := hx.blk (by simp only [go_sem, ↓reduceIte, reduceCtorEq])
  have x4 : blkAt X (H.length + 2) = some ⟨e.av, true⟩ := hx.blk (by simp only [go_sem, ↓reduceIte, reduceCtorEq])
  have x5 : blkAt X (H.length + 3) = some ⟨s.av, true⟩ := hx.blk (by simp only [go_sem, ↓reduceIte, reduceCtorEq])
  have x6 : blkAt X (H.length + 4) = some ⟨[.int .i64 a, .int .i64 b, .int .i64 c, .int .i64 d], true⟩ := hx.blk (by simp only [go_sem, ↓reduceIte, reduceCtorEq])
  have x8 : blkAt X (H.length + 5) = some ⟨q.map (AV.int .i64), true⟩ := hx.blk (by simp only [go_sem, ↓reduceIte, reduceCtorEq])
  have hbE : (mayB y0 y1 y2 y3 y4 y5 && estB e) = true → estB e = true := fun h => by
    rw [Bool.and_eq_true] at h
    exact h.2
  simp (maxSteps:=1000000) (disch:=omega) only [go_sem, ↓reduceIte, reduceCtorEq, x3, x4, lenE, tkE]
  first | refine callBE (f20_gen (hok.ext hX)) ?_ | refine callDE (f20_gen (hok.ext hX)) ?_ | refine callXE (f20_gen (hok.ext hX)) ?_
  rintro v Y hy ⟨l', rfl, hL'⟩
  have hLY := hL.ext hy
  have w3 := hy.blk x3
  have w5 := hy.blk x5
  have w6 := hy.blk x6
  have w8 := hy.blk x8
  have hHY := hX.trans hy
  simp (maxSteps:=1000000) (disch:=omega) only [go_sem, ↓reduceIte, reduceCtorEq, w3, w5, lenS, tkS]
  first | refine callBE (f21_gen hs) ?_ | refine callDE (f21_gen hs) ?_ | refine callXE (f21_gen hs) ?_
  rintro v Z hz ⟨A, rfl, hA⟩
  obtain ⟨A1, A2, A3, A4, A5⟩ := hA.facts
  have z3 := hz.blk w3
  have z5 := hz.blk w5
  have z6 := hz.blk w6
  have z8 := hz.blk w8
  have m3 := blkAt_lt z3
  have m5 := blkAt_lt z5
  have hHZ := hHY.trans hz
  have hLZ := hLY.ext hz
  have hLZ' := hL'.ext hz
  simp (maxSteps:=1000000) (disch:=omega) only [go_sem, ↓reduceIte, reduceCtorEq, z3, z5, m3, m5, A1, A2, A3, A4, A5, lenS, tkS, blkAt_lo]
  first | refine callBE (f22_gen hs) ?_ | refine callDE (f22_gen hs) ?_ | refine callXE (f22_gen hs) ?_
  rintro v U hu ⟨B, rfl, hB⟩
  obtain ⟨B1, B2, B3, B4, B5⟩ := hB.facts
  have hZU : Ext Z U := (Ext.app _ _).trans hu
  have hHU := hHZ.trans hZU
  have uA : blkAt U Z.length = some ⟨A, true⟩ := hu.blk (by simp only [go_sem, ↓reduceIte, reduceCtorEq])
  have u5 := hZU.blk z5
  have u6 := hZU.blk z6
  have u8 := hZU.blk z8
  have hLU := hLZ.ext hZU
  have hLU' := hLZ'.ext hZU
  have hAU := hA.ext hZU
  have n5 := blkAt_lt u5
  have n6 := blkAt_lt u6
  have n8 := blkAt_lt u8
  have nA := blkAt_lt uA
  have g23 := fun (G : Heap) => f23_gen hbE (hLU.ext (Ext.app U G)) (hLU'.ext (Ext.app U G))
  have g13 := fun (G : Heap) => f13_gen (hAU.ext (Ext.app U G)) (hB.ext (Ext.app U G))
  have g17 := fun (G : Heap) => f17 (a := a) (b := b) (c := c) (d := d) (H := G)
  have g19 := fun (G : Heap) => f19 (a := a) (b := b) (c := c) (d := d) (H := G)
  have g18 := fun (G : Heap) => f18 (a := a) (b := b) (c := c) (d := d) (i := i) (H := G) hs hq8
  have g24 := fun (G : Heap) => f24 (a := a) (b := b) (c := c) (d := d) (i := i) (H := G) hs hq8
  have hT := takeS_ok hs (a := a) (b := b) (c := c) (d := d) (i := i) hq8
  have eqT := Sn.eqs hT
  generalize takeS s a b c d i q = T at *
  generalize mrkB a b c d = M at *
  generalize oN (mayB y0 y1 y2 y3 y4 y5 && estB e) e = nn at *
  generalize oB (mayB y0 y1 y2 y3 y4 y5 && estB e) = bb at *
  generalize (mayB y0 y1 y2 y3 y4 y5 && doneB s) = dd at *
  simp (maxSteps:=1000000) (disch:=omega) only [go_sem, ↓reduceIte, reduceCtorEq, B1, B2, B3, B4, B5, u5, u6, u8, n5, n6, n8, blkAt_lo]
  first | refine callB_intro (g23 _) ?_ | refine callD_intro (g23 _) ?_ | refine callP_intro (fun _ => (g23 _)) ?_ | refine callX_pure (g23 _) ?_
  simp (maxSteps:=1000000) (disch:=omega) only [go_sem, ↓reduceIte, reduceCtorEq, B1, B2, B3, B4, B5, u5, u6, u8, n5, n6, n8, blkAt_lo]
  first | refine callB_intro (g17 _) ?_ | refine callD_intro (g17 _) ?_ | refine callP_intro (fun _ => (g17 _)) ?_ | refine callX_pure (g17 _) ?_
  simp (maxSteps:=1000000) (disch:=omega) only [go_sem, ↓reduceIte, reduceCtorEq, u5, u6, u8, n5, n6, n8, blkAt_lo]
  first | refine callB_intro (g19 _) ?_ | refine callD_intro (g19 _) ?_ | refine callP_intro (fun _ => (g19 _)) ?_ | refine callX_pure (g19 _) ?_
  simp (maxSteps:=1000000) (disch:=omega) only [go_sem, ↓reduceIte, reduceCtorEq, u5, u6, u8, n5, n6, n8, lenS, tkS, allS, lenq, tkq, allq, blkAt_lo]
  first | refine callB_intro (g18 _) ?_ | refine callD_intro (g18 _) ?_ | refine callP_intro (fun _ => (g18 _)) ?_ | refine callX_pure (g18 _) ?_
  simp (maxSteps:=1000000) (disch:=omega) only [go_sem, ↓reduceIte, reduceCtorEq, u5, u6, u8, n5, n6, n8, lenS, tkS, allS, lenq, tkq, allq, blkAt_lo]
  first | refine callB_intro (g24 _) ?_ | refine callD_intro (g24 _) ?_ | refine callP_intro (fun _ => (g24 _)) ?_ | refine callX_pure (g24 _) ?_
  simp (maxSteps:=1000000) (disch:=omega) only [go_sem, ↓reduceIte, reduceCtorEq, eqT, uA, nA, A1, A2, A3, A4, A5, B1, B2, B3, B4, B5, blkAt_lo]
  first | refine callB_intro (g13 _) ?_ | refine callD_intro (g13 _) ?_ | refine callP_intro (fun _ => (g13 _)) ?_ | refine callX_pure (g13 _) ?_
  simp (maxSteps:=1000000) (disch:=omega) only [go_sem, ↓reduceIte, reduceCtorEq]
  exact fin_ext (by simp) (hHU.to _) (by simp (maxSteps:=1000000) (disch:=omega) only [resVal, resAll, resOne, rs7, Env.get, go_sem, ↓reduceIte, reduceCtorEq]) (by simp only [AV.und, AV.unds, and_self])
end Go.Proofs.Ytbjlbcihhleclaa.Ah
