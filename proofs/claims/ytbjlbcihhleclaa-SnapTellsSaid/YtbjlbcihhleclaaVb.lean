/- Vb: a part of the proof: contracts of functions, or plain laws. Conditions: none. -/
import Derived.Test.YtbjlbcihhleclaaVa
import Derived.WideShapes4
import Derived.Test.YtbjlbcihhleclaaEc
namespace Go.Proofs.Ytbjlbcihhleclaa.Ah
open Go Go.WideShapes
attribute [local irreducible] acs aopsK drawK leave condK bindR bindD bindX guardK guardD callB callD callX callP callPv rfunG rfunK yldB yldD
attribute [local go_sem] Nat.reduceEqDiff Nat.reduceLT Nat.reduceAdd Nat.reduceSub Nat.reduceMul Nat.reduceBEq Int.reduceLT Int.reduceAdd Int.reduceMul Int.reduceSub Int.reduceToNat Int.reduceLE Int.reduceEq Int.reduceNeg Nat.reduceLeDiff
attribute [local go_sem] mop mget mfind mput mres keyed AV.isAgg beq_self_eq_true Bool.true_and Option.isSome_some List.set_cons_zero acs_nil acs_blk acs_skip acs_reg acs_dreg acs_freg acs_nam0 acs_nam nones acs_seq acs_cond acs_block acs_exit acs_ret acs_kl acs_loop leave_nil leave_code leave_lp leave_blk aopsK_nil aopsK_cons aopsK_guard bindR_val bindR_need bindR_br bindR_call bindR_ycall acs_rfun rfunG_fn bindR_bad drawK_nil drawK_cons drawK_wat bindW_val bindW_need bindW_br WatL_nil WatL_cons isP_ptr drawK_ext drawK_pur drawK_guard callPv_fn drawK_purv bindD_val bindD_need bindD_br bindD_call bindD_ycall bindD_bad bindX_val bindX_need bindX_br bindX_call guardD_bool guardD_tup grows grows0 List.append_cancel_left_eq List.cons.injEq exists_eq' exists_eq condK_bool guardK_bool guardK_tup sor r0 r1 r2 r3 rC rB rI rP rA rT rS rF rSl rO rbin rcut run1 Env.evals Env.eval Env.get Env.put Env.ins Env.del Env.dels argEnv AV.full AV.cells AV.cell eqCells decide_true decide_false decide_eq_true_eq decide_eq_false_iff_not Bool.not_eq_true' Bool.not_eq_false' true_and and_true false_implies true_implies forall_const Bool.not_true Bool.not_false Bool.false_eq_true Bool.true_eq_false List.getElem?_cons_zero List.getElem?_cons_succ List.length_cons List.length_nil List.length_append List.all_cons List.all_nil Bool.and_true Bool.and_self implies_true List.append_assoc List.cons_append List.nil_append List.append_nil i64_in imin_eq imax_eq cast3 cast0 cast1 cast2 Option.map_none ite_self and_false false_and Option.isSome_some or_true true_or Int.sub_zero Int.mul_one Nat.sub_zero Nat.zero_le Int.cast_ofNat_Int Int.natCast_nonneg Int.toNat_natCast ne_eq not_false_eq_true not_true_eq_false strC blkAt_app blkAt_app0 blkAt_zero blkAt_succ List.set_cons_zero List.set_cons_succ set_app set_app0 Option.map_some Option.bind_some rd setCells lay rdS szOk rapp ownAt lenAt Option.any_some Option.getD_some List.drop_zero List.drop_succ_cons List.take_succ_cons List.take_zero List.drop_nil List.take_nil Nat.lt_irrefl Nat.zero_add Nat.add_zero Nat.mul_one Nat.one_mul Nat.add_assoc Option.some.injEq eq_self
set_option maxHeartbeats 8000000
set_option linter.unusedSimpArgs false
set_option linter.unusedVariables false
structure Sn where
  a : Int
  b : Int
  c : Int
  d : Int
  h : List Bool
  p : List Int
structure Sn.ok (s : Sn) : Prop where
  h : s.h.length = 5
  p : s.p.length = 40
def Sn.av (s : Sn) : List AV := .int .i64 s.a :: .int .i64 s.b :: .int .i64 s.c :: .int .i64 s.d :: (s.h.map AV.bool ++ s.p.map (AV.int .i64))
theorem all_int (l : List Int) : (l.map (AV.int .i64)).all AV.cell = true := by simp only [List.all_map, List.all_eq_true]; intro x _; rfl
theorem all_bool (l : List Bool) : (l.map AV.bool).all AV.cell = true := by simp only [List.all_map, List.all_eq_true]; intro x _; rfl
theorem unds_int (n : Nat) : ∀ l : List Int, AV.unds n (l.map (AV.int .i64))
  | [] => by simp only [List.map_nil, AV.unds]
  | x :: l => by simp only [List.map_cons, AV.unds, AV.und, true_and]; exact unds_int n l
theorem unds_bool (n : Nat) {r : List AV} (hr : AV.unds n r) : ∀ l : List Bool, AV.unds n (l.map AV.bool ++ r)
  | [] => hr
  | x :: l => by simp only [List.map_cons, List.cons_append, AV.unds, AV.und, true_and]; exact unds_bool n hr l
theorem Sn.unds' (n : Nat) (s : Sn) : AV.unds n s.av := by
  unfold Sn.av
  simp only [AV.unds, AV.und, true_and]
  exact unds_bool n (unds_int n _) _
theorem Sn.unds (n : Nat) (s : Sn) : AV.und n (.agg s.av) := by
  simp only [AV.und]
  exact Sn.unds' n s
theorem Sn.len {s : Sn} (h : s.ok) : s.av.length = 49 := by simp [Sn.av, h.h, h.p]
theorem Sn.all (s : Sn) : s.av.all AV.cell = true := by
  unfold Sn.av
  simp only [List.all_cons, List.all_append, all_int, all_bool]
  rfl
theorem Sn.full (s : Sn) : (AV.agg s.av).full = true := s.all
theorem Sn.tk {s : Sn} (h : s.ok) : List.take 49 s.av = s.av := List.take_of_length_le (by rw [Sn.len h]; omega)
theorem Sn.drp {s : Sn} (h : s.ok) : List.drop 49 s.av = [] := List.drop_of_length_le (by rw [Sn.len h]; omega)
def Sn.put (s : Sn) (k : Nat) (q : List Int) : Sn := { s with h := s.h.set k true, p := s.p.take (k * 8) ++ q ++ s.p.drop (k * 8 + 8) }
theorem Sn.put_ok {s : Sn} (h : s.ok) {k : Nat} (hk : k < 5) {q : List Int} (hq : q.length = 8) : (s.put k q).ok := by
  refine ⟨by simp [Sn.put, h.h], ?_⟩
  simp [Sn.put, h.p, hq]
  omega
theorem Sn.put1 {s : Sn} (h : s.ok) {k : Nat} (hk : k < 5) : setCells s.av (4 + k) [.bool true] = ({ s with h := s.h.set k true } : Sn).av := by
  unfold setCells Sn.av
  have e : 4 + k = k + 1 + 1 + 1 + 1 := by omega
  rw [List.length_singleton, show 4 + k + 1 = (k + 1) + 1 + 1 + 1 + 1 by omega, e]
  simp only [List.take_succ_cons, List.drop_succ_cons, List.cons_append, List.nil_append]
  congr 4
  have hl : (s.h.map AV.bool).length = 5 := by simp [h.h]
  rw [List.take_append_of_le_length (by omega), List.drop_append_of_le_length (by omega), List.map_set, List.set_eq_take_append_cons_drop, if_pos (by omega)]
  simp
theorem Sn.put2 {s : Sn} (h : s.ok) {k : Nat} (hk : k < 5) {q : List Int} (hq : q.length = 8) : setCells s.av (9 + k * 8) (q.map (AV.int .i64)) = ({ s with p := s.p.take (k * 8) ++ q ++ s.p.drop (k * 8 + 8) } : Sn).av := by
  unfold setCells Sn.av
  have hl : (s.h.map AV.bool).length = 5 := by simp [h.h]
  rw [List.length_map, hq, show 9 + k * 8 + 8 = (5 + (k * 8 + 8)) + 1 + 1 + 1 + 1 by omega, show 9 + k * 8 = (5 + k * 8) + 1 + 1 + 1 + 1 by omega]
  simp only [List.take_succ_cons, List.drop_succ_cons, List.cons_append]
  congr 4
  rw [← hl, List.take_length_add_append, List.drop_length_add_append]
  simp
def Sn.new (a b c d : Int) : Sn := ⟨a, b, c, d, List.replicate 5 false, List.replicate 40 0⟩
theorem Sn.new_ok (a b c d : Int) : (Sn.new a b c d).ok := ⟨rfl, rfl⟩
def takeS (s : Sn) (a b c d i : Int) (q : List Int) : Sn :=
  if mrkB a b c d = true ∧ 0 ≤ i ∧ i < (d + 7) / 8 then
    if a = s.a ∧ b = s.b ∧ c = s.c ∧ d = s.d then s.put i.toNat q
    else if a = s.a ∧ b = s.b ∧ c < s.c then s
    else (Sn.new a b c d).put i.toNat q
  else s
theorem mrkB_d39 {a b c d : Int} (h : mrkB a b c d = true) : 1 ≤ d ∧ d ≤ 39 := by
  unfold mrkB okN at h
  simp only [Bool.and_eq_true, decide_eq_true_eq] at h
  exact h.2
theorem takeS_ok {s : Sn} (h : s.ok) {a b c d i : Int} {q : List Int} (hq : q.length = 8) : (takeS s a b c d i q).ok := by
  unfold takeS
  split
  · rename_i hh
    have := mrkB_d39 hh.1
    split
    · exact Sn.put_ok h (by omega) hq
    · split
      · exact h
      · exact Sn.put_ok (Sn.new_ok _ _ _ _) (by omega) hq
  · exact h
theorem f38 {a b c d : Int} {H : Heap} (h : 1 ≤ d ∧ d ≤ 39) : ACall Try.prog 38 [.agg [.int .i64 a, .int .i64 b, .int .i64 c, .int .i64 d]] H (.int .i64 ((d + 7) / 8)) H := by
  refine acall38 (by simp) (acs_start ?_)
  unfold c38
  simp (maxSteps:=1000000) (disch:=omega) only [go_sem, ↓reduceIte, reduceCtorEq]
  first | refine callB_intro (f63 d _ (by omega)) ?_ | refine callD_intro (f63 d _ (by omega)) ?_ | refine callP_intro (fun _ => (f63 d _ (by omega))) ?_ | refine callX_pure (f63 d _ (by omega)) ?_
  simp (maxSteps:=1000000) (disch:=omega) only [go_sem, ↓reduceIte, reduceCtorEq]
  exact fin_ext (by simp) (Ext.app _ _) (by simp (maxSteps:=1000000) (disch:=omega) only [resVal, resAll, resOne, rs38, Env.get, go_sem, ↓reduceIte, reduceCtorEq]) (by simp only [AV.und, AV.unds, and_self])
theorem f18 {s : Sn} {a b c d i : Int} {q : List Int} {H : Heap} (hs : s.ok) (hq : q.length = 8) : ACall Try.prog 18 [.agg s.av, .agg [.int .i64 a, .int .i64 b, .int .i64 c, .int .i64 d], .int .i64 i, .agg (q.map (AV.int .i64))] H (.agg (takeS s a b c d i q).av) H := by
  refine acall18 (by simp) (acs_start ?_)
  have len := Sn.len hs
  have full := s.full
  have all := s.all
  have tk := Sn.tk hs
  have drp := Sn.drp hs
  have t4 : List.take 4 s.av = [.int .i64 s.a, .int .i64 s.b, .int .i64 s.c, .int .i64 s.d] := rfl
  have z0 : s.av[0]? = some (.int .i64 s.a) := rfl
  have z1 : s.av[1]? = some (.int .i64 s.b) := rfl
  have z2 : s.av[2]? = some (.int .i64 s.c) := rfl
  have fullq : (AV.agg (q.map (AV.int .i64))).full = true := all_int q
  have allq := all_int q
  have lenq : (q.map (AV.int .i64)).length = 8 := by rw [List.length_map, hq]
  have tkq : List.take 8 (q.map (AV.int .i64)) = q.map (AV.int .i64) := List.take_of_length_le (by omega)
  have drpq : List.drop 8 (q.map (AV.int .i64)) = [] := List.drop_of_length_le (by omega)
  have g17 := fun G => f17 (a := a) (b := b) (c := c) (d := d) (H := H ++ G)
  unfold c18
  cases hm : mrkB a b c d with
  | false =>
    have e : takeS s a b c d i q = s := by unfold takeS; simp [hm]
    rw [e]
    rw [hm] at g17
    simp (maxSteps:=1000000) (disch:=omega) only [go_sem, ↓reduceIte, reduceCtorEq, full, len, all, tk, drp, fullq, allq, tkq, drpq]
    first | refine callB_intro (g17 _) ?_ | refine callD_intro (g17 _) ?_ | refine callP_intro (fun _ => (g17 _)) ?_ | refine callX_pure (g17 _) ?_
    simp (maxSteps:=1000000) (disch:=omega) only [go_sem, ↓reduceIte, reduceCtorEq, full, len, all, tk, drp]
    exact fin_ext (by simp) (Ext.app _ _) (by simp (maxSteps:=1000000) (disch:=omega) only [resVal, resAll, resOne, rs18, Env.get, go_sem, ↓reduceIte, reduceCtorEq, len, full, all, tk, drp]) (Sn.unds _ _)
  | true =>
    rw [hm] at g17
    have d39 := mrkB_d39 hm
    have g38 := fun G => f38 (a := a) (b := b) (c := c) (d := d) (H := H ++ G) d39
    by_cases i0 : i < 0
    · have e : takeS s a b c d i q = s := by unfold takeS; rw [if_neg (by omega)]
      rw [e]
      simp (maxSteps:=1000000) (disch:=omega) only [go_sem, ↓reduceIte, reduceCtorEq, full, len, all, tk, drp, fullq, allq, tkq, drpq]
      first | refine callB_intro (g17 _) ?_ | refine callD_intro (g17 _) ?_ | refine callP_intro (fun _ => (g17 _)) ?_ | refine callX_pure (g17 _) ?_
      simp (maxSteps:=1000000) (disch:=omega) only [go_sem, ↓reduceIte, reduceCtorEq, full, len, all, tk, drp, i0]
      exact fin_ext (by simp) (Ext.app _ _) (by simp (maxSteps:=1000000) (disch:=omega) only [resVal, resAll, resOne, rs18, Env.get, go_sem, ↓reduceIte, reduceCtorEq, len, full, all, tk, drp]) (Sn.unds _ _)
    by_cases i1 : (d + 7) / 8 ≤ i
    · have e : takeS s a b c d i q = s := by unfold takeS; rw [if_neg (by omega)]
      rw [e]
      simp (maxSteps:=1000000) (disch:=omega) only [go_sem, ↓reduceIte, reduceCtorEq, full, len, all, tk, drp, fullq, allq, tkq, drpq]
      first | refine callB_intro (g17 _) ?_ | refine callD_intro (g17 _) ?_ | refine callP_intro (fun _ => (g17 _)) ?_ | refine callX_pure (g17 _) ?_
      simp (maxSteps:=1000000) (disch:=omega) only [go_sem, ↓reduceIte, reduceCtorEq, full, len, all, tk, drp, i0]
      first | refine callB_intro (g38 _) ?_ | refine callD_intro (g38 _) ?_ | refine callP_intro (fun _ => (g38 _)) ?_ | refine callX_pure (g38 _) ?_
      simp (maxSteps:=1000000) (disch:=omega) only [go_sem, ↓reduceIte, reduceCtorEq, full, len, all, tk, drp, i1]
      exact fin_ext (by simp) (Ext.app _ _) (by simp (maxSteps:=1000000) (disch:=omega) only [resVal, resAll, resOne, rs18, Env.get, go_sem, ↓reduceIte, reduceCtorEq, len, full, all, tk, drp]) (Sn.unds _ _)
    have i2 : 0 ≤ i := by omega
    have i3 : i < 5 := by omega
    have i4 : i.toNat < 5 := by omega
    have i5 : i.toNat + 1 ≤ 45 := by omega
    have i6 : 4 + (i.toNat + 1) ≤ 49 := by omega
    have i7 : 9 + (i.toNat * 8 + 8) ≤ 49 := by omega
    simp (maxSteps:=1000000) (disch:=omega) only [go_sem, ↓reduceIte, reduceCtorEq, full, len, all, tk, drp, fullq, allq, tkq, drpq, lenq]
    first | refine callB_intro (g17 _) ?_ | refine callD_intro (g17 _) ?_ | refine callP_intro (fun _ => (g17 _)) ?_ | refine callX_pure (g17 _) ?_
    simp (maxSteps:=1000000) (disch:=omega) only [go_sem, ↓reduceIte, reduceCtorEq, full, len, all, tk, drp, i0]
    first | refine callB_intro (g38 _) ?_ | refine callD_intro (g38 _) ?_ | refine callP_intro (fun _ => (g38 _)) ?_ | refine callX_pure (g38 _) ?_
    by_cases h4 : a = s.a ∧ b = s.b ∧ c = s.c ∧ d = s.d
    · obtain ⟨rfl, rfl, rfl, rfl⟩ := h4
      have e : takeS s s.a s.b s.c s.d i q = s.put i.toNat q := by unfold takeS; rw [if_pos ⟨hm, i2, by omega⟩, if_pos ⟨rfl, rfl, rfl, rfl⟩]
      have p1 := Sn.put1 hs i4
      have ok1 : ({ s with h := s.h.set i.toNat true } : Sn).ok := ⟨by simp [hs.h], hs.p⟩
      have p2 := Sn.put2 ok1 i4 hq
      have eq : ({ ({ s with h := s.h.set i.toNat true } : Sn) with p := ({ s with h := s.h.set i.toNat true } : Sn).p.take (i.toNat * 8) ++ q ++ ({ s with h := s.h.set i.toNat true } : Sn).p.drop (i.toNat * 8 + 8) } : Sn) = s.put i.toNat q := rfl
      rw [eq] at p2
      simp only [setCells, List.length_cons, List.length_nil, Nat.zero_add, lenq, Nat.add_assoc, List.append_assoc, List.cons_append, List.nil_append] at p1 p2
      rw [e]
      have okP := Sn.put_ok hs i4 hq
      have lenP := Sn.len okP
      have fullP := (s.put i.toNat q).full
      have allP := (s.put i.toNat q).all
      have tkP := Sn.tk okP
      have drpP := Sn.drp okP
      have len1 := Sn.len ok1
      simp (maxSteps:=1000000) (disch:=omega) only [go_sem, ↓reduceIte, reduceCtorEq, full, len, all, tk, drp, fullq, allq, tkq, drpq, lenq, i1, i2, i3, i6, i7, t4, z0, z1, z2, Bool.false_and, Bool.true_and, Bool.and_true, Bool.and_false, p1, p2, lenP, fullP, allP, tkP, drpP, len1]
      exact fin_ext (by simp) (Ext.app _ _) (by simp (maxSteps:=1000000) (disch:=omega) only [resVal, resAll, resOne, rs18, Env.get, go_sem, ↓reduceIte, reduceCtorEq, lenP, fullP, allP, tkP, drpP]) (Sn.unds _ _)
    · have okN := Sn.new_ok a b c d
      by_cases h5 : a = s.a ∧ b = s.b ∧ c < s.c
      · have e : takeS s a b c d i q = s := by unfold takeS; rw [if_pos ⟨hm, i2, by omega⟩, if_neg h4, if_pos h5]
        rw [e]
        obtain ⟨rfl, rfl, h6⟩ := h5
        have h7 : ¬ c = s.c := by omega
        simp (maxSteps:=1000000) (disch:=omega) only [go_sem, ↓reduceIte, reduceCtorEq, full, len, all, tk, drp, fullq, allq, tkq, drpq, lenq, i1, i2, i3, i6, i7, t4, z0, z1, z2, Bool.false_and, Bool.true_and, Bool.and_true, Bool.and_false, h6, h7]
        exact fin_ext (by simp) (Ext.app _ _) (by simp (maxSteps:=1000000) (disch:=omega) only [resVal, resAll, resOne, rs18, Env.get, go_sem, ↓reduceIte, reduceCtorEq, len, full, all, tk, drp]) (Sn.unds _ _)
      · have e : takeS s a b c d i q = (Sn.new a b c d).put i.toNat q := by unfold takeS; rw [if_pos ⟨hm, i2, by omega⟩, if_neg h4, if_neg h5]
        rw [e]
        have p1 := Sn.put1 okN i4
        have ok1 : ({ Sn.new a b c d with h := (Sn.new a b c d).h.set i.toNat true } : Sn).ok := ⟨by simp [okN.h], okN.p⟩
        have p2 := Sn.put2 ok1 i4 hq
        have eq : ({ ({ Sn.new a b c d with h := (Sn.new a b c d).h.set i.toNat true } : Sn) with p := ({ Sn.new a b c d with h := (Sn.new a b c d).h.set i.toNat true } : Sn).p.take (i.toNat * 8) ++ q ++ ({ Sn.new a b c d with h := (Sn.new a b c d).h.set i.toNat true } : Sn).p.drop (i.toNat * 8 + 8) } : Sn) = (Sn.new a b c d).put i.toNat q := rfl
        rw [eq] at p2
        simp only [setCells, List.length_cons, List.length_nil, Nat.zero_add, lenq, Nat.add_assoc, List.append_assoc, List.cons_append, List.nil_append] at p1 p2
        have okP := Sn.put_ok okN i4 hq
        have lenP := Sn.len okP
        have fullP := ((Sn.new a b c d).put i.toNat q).full
        have allP := ((Sn.new a b c d).put i.toNat q).all
        have tkP := Sn.tk okP
        have drpP := Sn.drp okP
        have len1 := Sn.len ok1
        have lenN := Sn.len okN
        have allN := (Sn.new a b c d).all
        have nw : [AV.int .i64 a, .int .i64 b, .int .i64 c, .int .i64 d, .bool false, .bool false, .bool false, .bool false, .bool false, .int .i64 0, .int .i64 0, .int .i64 0, .int .i64 0, .int .i64 0, .int .i64 0, .int .i64 0, .int .i64 0, .int .i64 0, .int .i64 0, .int .i64 0, .int .i64 0, .int .i64 0, .int .i64 0, .int .i64 0, .int .i64 0, .int .i64 0, .int .i64 0, .int .i64 0, .int .i64 0, .int .i64 0, .int .i64 0, .int .i64 0, .int .i64 0, .int .i64 0, .int .i64 0, .int .i64 0, .int .i64 0, .int .i64 0, .int .i64 0, .int .i64 0, .int .i64 0, .int .i64 0, .int .i64 0, .int .i64 0, .int .i64 0, .int .i64 0, .int .i64 0, .int .i64 0, .int .i64 0] = (Sn.new a b c d).av := rfl
        by_cases ea : a = s.a
        · subst ea
          by_cases eb : b = s.b
          · subst eb
            have h6 : ¬ c < s.c := fun hh => h5 ⟨rfl, rfl, hh⟩
            by_cases ec : c = s.c
            · subst ec
              have ed : ¬ d = s.d := fun hh => h4 ⟨rfl, rfl, rfl, hh⟩
              simp (maxSteps:=1000000) (disch:=omega) only [go_sem, ↓reduceIte, reduceCtorEq, full, len, all, tk, drp, allN, fullq, allq, tkq, drpq, lenq, i1, i2, i3, i6, i7, t4, z0, z1, z2, Bool.false_and, Bool.true_and, Bool.and_true, Bool.and_false, p1, p2, lenP, fullP, allP, tkP, drpP, len1, lenN, nw, ed, h6]
              exact fin_ext (by simp) (Ext.app _ _) (by simp (maxSteps:=1000000) (disch:=omega) only [resVal, resAll, resOne, rs18, Env.get, go_sem, ↓reduceIte, reduceCtorEq, lenP, fullP, allP, tkP, drpP]) (Sn.unds _ _)
            · simp (maxSteps:=1000000) (disch:=omega) only [go_sem, ↓reduceIte, reduceCtorEq, full, len, all, tk, drp, allN, fullq, allq, tkq, drpq, lenq, i1, i2, i3, i6, i7, t4, z0, z1, z2, Bool.false_and, Bool.true_and, Bool.and_true, Bool.and_false, p1, p2, lenP, fullP, allP, tkP, drpP, len1, lenN, nw, ec, h6]
              exact fin_ext (by simp) (Ext.app _ _) (by simp (maxSteps:=1000000) (disch:=omega) only [resVal, resAll, resOne, rs18, Env.get, go_sem, ↓reduceIte, reduceCtorEq, lenP, fullP, allP, tkP, drpP]) (Sn.unds _ _)
          · simp (maxSteps:=1000000) (disch:=omega) only [go_sem, ↓reduceIte, reduceCtorEq, full, len, all, tk, drp, allN, fullq, allq, tkq, drpq, lenq, i1, i2, i3, i6, i7, t4, z0, z1, z2, Bool.false_and, Bool.true_and, Bool.and_true, Bool.and_false, p1, p2, lenP, fullP, allP, tkP, drpP, len1, lenN, nw, eb]
            exact fin_ext (by simp) (Ext.app _ _) (by simp (maxSteps:=1000000) (disch:=omega) only [resVal, resAll, resOne, rs18, Env.get, go_sem, ↓reduceIte, reduceCtorEq, lenP, fullP, allP, tkP, drpP]) (Sn.unds _ _)
        · simp (maxSteps:=1000000) (disch:=omega) only [go_sem, ↓reduceIte, reduceCtorEq, full, len, all, tk, drp, allN, fullq, allq, tkq, drpq, lenq, i1, i2, i3, i6, i7, t4, z0, z1, z2, Bool.false_and, Bool.true_and, Bool.and_true, Bool.and_false, p1, p2, lenP, fullP, allP, tkP, drpP, len1, lenN, nw, ea]
          exact fin_ext (by simp) (Ext.app _ _) (by simp (maxSteps:=1000000) (disch:=omega) only [resVal, resAll, resOne, rs18, Env.get, go_sem, ↓reduceIte, reduceCtorEq, lenP, fullP, allP, tkP, drpP]) (Sn.unds _ _)

theorem eqInt : ∀ p : List Int, eqCells (List.replicate p.length .int) (p.map (AV.int .i64)) (p.map (AV.int .i64)) = some true
  | [] => rfl
  | x :: p => by
    have := eqInt p
    simp [List.replicate_succ, eqCells, this]
theorem eqBool {ks : List LK} {l : List AV} (h : eqCells ks l l = some true) : ∀ p : List Bool, eqCells (List.replicate p.length .bool ++ ks) (p.map AV.bool ++ l) (p.map AV.bool ++ l) = some true
  | [] => h
  | x :: p => by
    have := eqBool h p
    simp [List.replicate_succ, eqCells, this]
theorem eq8 {q : List Int} (h : q.length = 8) : eqCells [.int, .int, .int, .int, .int, .int, .int, .int] (q.map (AV.int .i64)) (q.map (AV.int .i64)) = some true := by
  have := eqInt q
  rw [h] at this
  exact this
theorem Sn.eqs {s : Sn} (h : s.ok) : eqCells [.int, .int, .int, .int, .bool, .bool, .bool, .bool, .bool, .int, .int, .int, .int, .int, .int, .int, .int, .int, .int, .int, .int, .int, .int, .int, .int, .int, .int, .int, .int, .int, .int, .int, .int, .int, .int, .int, .int, .int, .int, .int, .int, .int, .int, .int, .int, .int, .int, .int, .int] s.av s.av = some true := by
  have h1 := eqInt s.p
  have h2 := eqBool h1 s.h
  rw [h.h, h.p] at h2
  have e : ∀ (ks : List LK) (l : List AV), eqCells ks l l = some true → eqCells (.int :: .int :: .int :: .int :: ks) (.int .i64 s.a :: .int .i64 s.b :: .int .i64 s.c :: .int .i64 s.d :: l) (.int .i64 s.a :: .int .i64 s.b :: .int .i64 s.c :: .int .i64 s.d :: l) = some true := by
    intro ks l hl
    simp [eqCells, hl]
  exact e _ _ h2
theorem Sn.has {s : Sn} (h : s.ok) {j : Nat} (hj : j < 5) : s.av[4 + j]? = some (.bool (s.h.getD j false)) := by
  unfold Sn.av
  have hl : j < (s.h.map AV.bool).length := by simp [h.h, hj]
  have hl2 : j < s.h.length := by rw [h.h]; exact hj
  rw [show 4 + j = j + 1 + 1 + 1 + 1 by omega]
  simp only [List.getElem?_cons_succ]
  rw [List.getElem?_append_left hl, List.getElem?_map, List.getElem?_eq_getElem hl2]
  simp [List.getD, List.getElem?_eq_getElem hl2]
def chunk (p : List Int) (j : Nat) : List Int := (p.drop (j * 8)).take 8
theorem Sn.part {s : Sn} (h : s.ok) (j : Nat) : List.take 8 (List.drop (9 + j * 8) s.av) = (chunk s.p j).map (AV.int .i64) := by
  unfold Sn.av chunk
  have hl : (s.h.map AV.bool).length = 5 := by simp [h.h]
  rw [show 9 + j * 8 = (5 + j * 8) + 1 + 1 + 1 + 1 by omega]
  simp only [List.drop_succ_cons]
  rw [← hl, List.drop_length_add_append, ← List.map_drop, ← List.map_take]
theorem chunk_len {p : List Int} (h : p.length = 40) {j : Nat} (hj : j < 5) : (chunk p j).length = 8 := by
  unfold chunk
  rw [List.length_take, List.length_drop, h]
  omega
theorem f19 {a b c d : Int} {H : Heap} : ACall Try.prog 19 [.agg [.int .i64 a, .int .i64 b, .int .i64 c, .int .i64 d]] H (.bool (mrkB a b c d)) H := by
  refine acall19 (by simp) (acs_start ?_)
  unfold c19 mrkB
  have no : ∀ n : Int, ¬ 0 ≤ n → okM n = false := fun n h => by unfold okM; simp [h]
  have no2 : ∀ n : Int, ¬ n ≤ 4611686018427387904 → okM n = false := fun n h => by unfold okM; simp [h]
  have yes : ∀ n : Int, 0 ≤ n → n ≤ 4611686018427387904 → okM n = true := fun n h h2 => by unfold okM; simp [h, h2]
  by_cases a1 : 0 ≤ a
  rotate_left
  · rw [no a a1]
    simp (maxSteps:=1000000) (disch:=omega) only [go_sem, ↓reduceIte, reduceCtorEq, a1, Bool.false_and]
    exact fin_ext (by simp) (Ext.app _ _) (by simp (maxSteps:=1000000) (disch:=omega) only [resVal, resAll, resOne, rs19, Env.get, go_sem, ↓reduceIte, reduceCtorEq]) (by simp only [AV.und, AV.unds, and_self])
  by_cases a2 : a ≤ 4611686018427387904
  rotate_left
  · rw [no2 a a2]
    simp (maxSteps:=1000000) (disch:=omega) only [go_sem, ↓reduceIte, reduceCtorEq, a1, a2, Bool.false_and]
    exact fin_ext (by simp) (Ext.app _ _) (by simp (maxSteps:=1000000) (disch:=omega) only [resVal, resAll, resOne, rs19, Env.get, go_sem, ↓reduceIte, reduceCtorEq]) (by simp only [AV.und, AV.unds, and_self])
  rw [yes a a1 a2]
  by_cases b1 : 0 ≤ b
  rotate_left
  · rw [no b b1]
    simp (maxSteps:=1000000) (disch:=omega) only [go_sem, ↓reduceIte, reduceCtorEq, a1, a2, b1, Bool.false_and, Bool.true_and]
    exact fin_ext (by simp) (Ext.app _ _) (by simp (maxSteps:=1000000) (disch:=omega) only [resVal, resAll, resOne, rs19, Env.get, go_sem, ↓reduceIte, reduceCtorEq]) (by simp only [AV.und, AV.unds, and_self])
  by_cases b2 : b ≤ 4611686018427387904
  rotate_left
  · rw [no2 b b2]
    simp (maxSteps:=1000000) (disch:=omega) only [go_sem, ↓reduceIte, reduceCtorEq, a1, a2, b1, b2, Bool.false_and, Bool.true_and]
    exact fin_ext (by simp) (Ext.app _ _) (by simp (maxSteps:=1000000) (disch:=omega) only [resVal, resAll, resOne, rs19, Env.get, go_sem, ↓reduceIte, reduceCtorEq]) (by simp only [AV.und, AV.unds, and_self])
  rw [yes b b1 b2]
  by_cases c1 : 0 ≤ c
  rotate_left
  · rw [no c c1]
    simp (maxSteps:=1000000) (disch:=omega) only [go_sem, ↓reduceIte, reduceCtorEq, a1, a2, b1, b2, c1, Bool.false_and, Bool.true_and]
    exact fin_ext (by simp) (Ext.app _ _) (by simp (maxSteps:=1000000) (disch:=omega) only [resVal, resAll, resOne, rs19, Env.get, go_sem, ↓reduceIte, reduceCtorEq]) (by simp only [AV.und, AV.unds, and_self])
  by_cases c2 : c ≤ 4611686018427387904
  rotate_left
  · rw [no2 c c2]
    simp (maxSteps:=1000000) (disch:=omega) only [go_sem, ↓reduceIte, reduceCtorEq, a1, a2, b1, b2, c1, c2, Bool.false_and, Bool.true_and]
    exact fin_ext (by simp) (Ext.app _ _) (by simp (maxSteps:=1000000) (disch:=omega) only [resVal, resAll, resOne, rs19, Env.get, go_sem, ↓reduceIte, reduceCtorEq]) (by simp only [AV.und, AV.unds, and_self])
  rw [yes c c1 c2]
  by_cases d1 : 1 ≤ d
  rotate_left
  · rw [show okN d = false by unfold okN; simp [d1]]
    simp (maxSteps:=1000000) (disch:=omega) only [go_sem, ↓reduceIte, reduceCtorEq, a1, a2, b1, b2, c1, c2, d1, Bool.false_and, Bool.true_and]
    exact fin_ext (by simp) (Ext.app _ _) (by simp (maxSteps:=1000000) (disch:=omega) only [resVal, resAll, resOne, rs19, Env.get, go_sem, ↓reduceIte, reduceCtorEq]) (by simp only [AV.und, AV.unds, and_self])
  by_cases d2 : d ≤ 39
  rotate_left
  · rw [show okN d = false by unfold okN; simp [d2]]
    simp (maxSteps:=1000000) (disch:=omega) only [go_sem, ↓reduceIte, reduceCtorEq, a1, a2, b1, b2, c1, c2, d1, d2, Bool.false_and, Bool.true_and]
    exact fin_ext (by simp) (Ext.app _ _) (by simp (maxSteps:=1000000) (disch:=omega) only [resVal, resAll, resOne, rs19, Env.get, go_sem, ↓reduceIte, reduceCtorEq]) (by simp only [AV.und, AV.unds, and_self])
  rw [show okN d = true by unfold okN; simp [d1, d2]]
  simp (maxSteps:=1000000) (disch:=omega) only [go_sem, ↓reduceIte, reduceCtorEq, a1, a2, b1, b2, c1, c2, d1, d2, Bool.false_and, Bool.true_and]
  exact fin_ext (by simp) (Ext.app _ _) (by simp (maxSteps:=1000000) (disch:=omega) only [resVal, resAll, resOne, rs19, Env.get, go_sem, ↓reduceIte, reduceCtorEq]) (by simp only [AV.und, AV.unds, and_self])

def pav (s : Sn) (a b c d i : Int) (q : List Int) : List AV := s.av ++ ([.int .i64 a, .int .i64 b, .int .i64 c, .int .i64 d, .int .i64 i] ++ q.map (AV.int .i64))

def tl2 : SC → SC | .seq _ b => b | s => s
def u64 (n : Int) : Nat := (IntKind.u64.wrap n).toNat
theorem u64_cast (n : Int) : IntKind.u64.wrap n = ((u64 n : Nat) : Int) := by
  have h := (wrap_within .u64 n).1
  have e : IntKind.u64.min = 0 := by decide
  unfold u64
  omega
theorem u64_lt (n : Int) : u64 n < 18446744073709551616 := by
  have h := (wrap_within .u64 n)
  have e : IntKind.u64.min = 0 := by decide
  have e2 : IntKind.u64.max = 18446744073709551615 := by decide
  have := u64_cast n
  omega
theorem u64_mod (n : Int) : ((u64 n : Nat) : Int) = n % 18446744073709551616 := by
  rw [← u64_cast]
  unfold IntKind.wrap
  simp [IntKind.signed, IntKind.bits]
def D : List Nat → Nat
  | [] => 0
  | b :: r => b + 256 * D r
theorem and_split (a c b d : Nat) (hb : b < 256) (hd : d < 256) : (b + 256 * a) &&& (d + 256 * c) = (b &&& d) + 256 * (a &&& c) := by
  have e1 : b + 256 * a = 2 ^ 8 * a + b := by omega
  have e2 : d + 256 * c = 2 ^ 8 * c + d := by omega
  have hbd : b &&& d < 2 ^ 8 := Nat.and_lt_two_pow _ (by omega)
  have e3 : (b &&& d) + 256 * (a &&& c) = 2 ^ 8 * (a &&& c) + (b &&& d) := by omega
  rw [e1, e2, e3]
  apply Nat.eq_of_testBit_eq
  intro i
  rw [Nat.testBit_and, Nat.testBit_two_pow_mul_add _ (by omega : b < 2 ^ 8), Nat.testBit_two_pow_mul_add _ (by omega : d < 2 ^ 8), Nat.testBit_two_pow_mul_add _ hbd]
  split
  · rw [Nat.testBit_and]
  · rw [Nat.testBit_and]
def pop8 (b : Nat) : Nat := b % 2 + b / 2 % 2 + b / 4 % 2 + b / 8 % 2 + b / 16 % 2 + b / 32 % 2 + b / 64 % 2 + b / 128 % 2
def g1 (b : Nat) : Nat := (b / 2 &&& 85) + (b &&& 85)
def g2 (b : Nat) : Nat := (b / 4 &&& 51) + (b &&& 51)
set_option maxRecDepth 100000 in
theorem g_all : ∀ b, b < 256 → g1 b < 256 ∧ g2 (g1 b) < 256 ∧ (g2 (g1 b) / 16 ≤ 4 ∧ g2 (g1 b) % 16 ≤ 4) ∧ g2 (g1 b) / 16 + g2 (g1 b) % 16 = pop8 b ∧ pop8 b ≤ 8 := by decide +kernel
set_option maxRecDepth 100000 in
theorem half1 : ∀ b, b < 256 → ∀ t, t < 2 → ((b / 2 + 128 * t) &&& 85) = (b / 2 &&& 85) := by decide +kernel
set_option maxRecDepth 100000 in
theorem half2 : ∀ b, b < 256 → ∀ t, t < 4 → ((b / 4 + 64 * t) &&& 51) = (b / 4 &&& 51) := by decide +kernel
set_option maxRecDepth 100000 in
theorem half3 : ∀ b, b < 256 → (b &&& 15) = b % 16 := by decide +kernel
def M (m : Nat) : Nat → Nat
  | 0 => 0
  | k + 1 => m + 256 * M m k
def Bs (l : List Nat) : Prop := ∀ x ∈ l, x < 256
theorem D1 : ∀ (l : List Nat), Bs l → (D l / 2 &&& M 85 l.length) + (D l &&& M 85 l.length) = D (l.map g1)
  | [], _ => rfl
  | b :: r, h => by
    have hb : b < 256 := h b (by simp)
    have ih := D1 r (fun x hx => h x (by simp [hx]))
    have e : D (b :: r) / 2 = (b / 2 + 128 * (D r % 2)) + 256 * (D r / 2) := by rw [show D (b :: r) = b + 256 * D r from rfl]; omega
    rw [e, List.length_cons, M, and_split _ _ _ _ (by omega) (by omega), half1 b hb _ (by omega)]
    rw [D, and_split _ _ _ _ hb (by omega), List.map_cons, D, ← ih, g1]
    omega
theorem D2 : ∀ (l : List Nat), Bs l → (D l / 4 &&& M 51 l.length) + (D l &&& M 51 l.length) = D (l.map g2)
  | [], _ => rfl
  | b :: r, h => by
    have hb : b < 256 := h b (by simp)
    have ih := D2 r (fun x hx => h x (by simp [hx]))
    have e : D (b :: r) / 4 = (b / 4 + 64 * (D r % 4)) + 256 * (D r / 4) := by rw [show D (b :: r) = b + 256 * D r from rfl]; omega
    rw [e, List.length_cons, M, and_split _ _ _ _ (by omega) (by omega), half2 b hb _ (by omega)]
    rw [D, and_split _ _ _ _ hb (by omega), List.map_cons, D, ← ih, g2]
    omega
theorem D3 : ∀ (l : List Nat), (∀ x ∈ l, x / 16 ≤ 4 ∧ x % 16 ≤ 4) → (D l / 16 + D l) &&& M 15 l.length = D (l.map fun x => x / 16 + x % 16)
  | [], _ => rfl
  | b :: r, h => by
    have hb := h b (by simp)
    have ih := D3 r (fun x hx => h x (by simp [hx]))
    have hr : D r % 16 ≤ 4 := by
      cases r with
      | nil => exact Nat.zero_le _
      | cons c r => have := (h c (by simp)).2; unfold D; omega
    have e : D (b :: r) / 16 + D (b :: r) = (b / 16 + 16 * (D r % 16) + b) + 256 * (D r / 16 + D r) := by rw [show D (b :: r) = b + 256 * D r from rfl]; omega
    rw [e, List.length_cons, M, and_split _ _ _ _ (by omega) (by omega), half3 _ (by omega), ih, List.map_cons, D]
    omega
def dig (x : Nat) : Nat → List Nat
  | 0 => []
  | k + 1 => x % 256 :: dig (x / 256) k
theorem dig_D : ∀ (k x : Nat), x < 256 ^ k → D (dig x k) = x
  | 0, x, h => by simp at h; subst h; rfl
  | k + 1, x, h => by
    rw [dig, D, dig_D k (x / 256) (by rw [Nat.pow_succ] at h; omega)]
    omega
theorem dig_len : ∀ (k x : Nat), (dig x k).length = k
  | 0, _ => rfl
  | k + 1, x => by rw [dig, List.length_cons, dig_len]
theorem dig_Bs : ∀ (k x : Nat), Bs (dig x k)
  | 0, _ => by intro y hy; cases hy
  | k + 1, x => by
    intro y hy
    rw [dig] at hy
    rcases List.mem_cons.1 hy with rfl | h
    · omega
    · exact dig_Bs k _ y h
def pop (x : Nat) : Nat := ((dig x 8).map pop8).sum
def cnt64 (x : Nat) : Nat :=
  let y1 := (x / 2 &&& 6148914691236517205) + (x &&& 6148914691236517205)
  let y2 := (y1 / 4 &&& 3689348814741910323) + (y1 &&& 3689348814741910323)
  let y3 := (y2 / 16 + y2) &&& 1085102592571150095
  let y4 := y3 + y3 / 256
  let y5 := y4 + y4 / 65536
  let y6 := y5 + y5 / 4294967296
  y6 % 128
theorem cnt64_all {x : Nat} (hx : x < 18446744073709551616) : cnt64 x = pop x ∧ (x / 2 &&& 6148914691236517205) + (x &&& 6148914691236517205) < 18446744073709551616 := by
  have hD := dig_D 8 x (by omega)
  have hl := dig_len 8 x
  have hB := dig_Bs 8 x
  unfold pop
  generalize dig x 8 = l at *
  have s1 := D1 l hB
  have hB1 : Bs (l.map g1) := by intro y hy; obtain ⟨b, hb, rfl⟩ := List.mem_map.1 hy; exact (g_all b (hB b hb)).1
  have s2 := D2 (l.map g1) hB1
  have s3 := D3 ((l.map g1).map g2) (by intro y hy; simp only [List.map_map, List.mem_map, Function.comp_apply] at hy; obtain ⟨b, hb, rfl⟩ := hy; exact (g_all b (hB b hb)).2.2.1)
  have e4 : ((l.map g1).map g2).map (fun x => x / 16 + x % 16) = l.map pop8 := by
    rw [List.map_map, List.map_map]
    apply List.map_congr_left
    intro b hb
    exact (g_all b (hB b hb)).2.2.2.1
  rw [e4] at s3
  simp only [List.length_map, hl] at s1 s2 s3
  have m1 : M 85 8 = 6148914691236517205 := by decide
  have m2 : M 51 8 = 3689348814741910323 := by decide
  have m3 : M 15 8 = 1085102592571150095 := by decide
  rw [m1] at s1
  rw [m2] at s2
  rw [m3] at s3
  rw [hD] at s1
  have hp8 : ∀ y ∈ l.map pop8, y ≤ 8 := by intro y hy; obtain ⟨b, hb, rfl⟩ := List.mem_map.1 hy; exact (g_all b (hB b hb)).2.2.2.2
  have hl8 : (l.map pop8).length = 8 := by simp [hl]
  have hl1 : (l.map g1).length = 8 := by simp [hl]
  refine ⟨?_, ?_⟩
  · unfold cnt64
    simp only [s1, s2, s3]
    generalize l.map pop8 = p at *
    match p, hl8 with
    | [p0, p1, p2, p3, p4, p5, p6, p7], _ =>
      have h0 := hp8 p0 (by simp)
      have h1 := hp8 p1 (by simp)
      have h2 := hp8 p2 (by simp)
      have h3 := hp8 p3 (by simp)
      have h4 := hp8 p4 (by simp)
      have h5 := hp8 p5 (by simp)
      have h6 := hp8 p6 (by simp)
      have h7 := hp8 p7 (by simp)
      simp only [D, List.sum_cons, List.sum_nil]
      simp only [Nat.mul_zero, Nat.add_zero]
      have q0 : p0 + 256 * (p1 + 256 * (p2 + 256 * (p3 + 256 * (p4 + 256 * (p5 + 256 * (p6 + 256 * p7)))))) + (p0 + 256 * (p1 + 256 * (p2 + 256 * (p3 + 256 * (p4 + 256 * (p5 + 256 * (p6 + 256 * p7))))))) / 256 = (p0 + p1) + 256 * ((p1 + p2) + 256 * ((p2 + p3) + 256 * ((p3 + p4) + 256 * ((p4 + p5) + 256 * ((p5 + p6) + 256 * ((p6 + p7) + 256 * p7)))))) := by omega
      rw [q0]
      clear q0
      have q1 : (p0 + p1) + 256 * ((p1 + p2) + 256 * ((p2 + p3) + 256 * ((p3 + p4) + 256 * ((p4 + p5) + 256 * ((p5 + p6) + 256 * ((p6 + p7) + 256 * p7)))))) + ((p0 + p1) + 256 * ((p1 + p2) + 256 * ((p2 + p3) + 256 * ((p3 + p4) + 256 * ((p4 + p5) + 256 * ((p5 + p6) + 256 * ((p6 + p7) + 256 * p7))))))) / 65536 = (p0 + p1 + p2 + p3) + 256 * ((p1 + p2 + p3 + p4) + 256 * ((p2 + p3 + p4 + p5) + 256 * ((p3 + p4 + p5 + p6) + 256 * ((p4 + p5 + p6 + p7) + 256 * ((p5 + p6 + p7) + 256 * ((p6 + p7) + 256 * p7)))))) := by omega
      rw [q1]
      clear q1
      have q2 : ((p0 + p1 + p2 + p3) + 256 * ((p1 + p2 + p3 + p4) + 256 * ((p2 + p3 + p4 + p5) + 256 * ((p3 + p4 + p5 + p6) + 256 * ((p4 + p5 + p6 + p7) + 256 * ((p5 + p6 + p7) + 256 * ((p6 + p7) + 256 * p7))))))) / 4294967296 = (p4 + p5 + p6 + p7) + 256 * ((p5 + p6 + p7) + 256 * ((p6 + p7) + 256 * p7)) := by omega
      rw [q2]
      clear q2
      omega
  · rw [s1]
    generalize l.map g1 = p at *
    match p, hl1 with
    | [p0, p1, p2, p3, p4, p5, p6, p7], _ =>
      have h0 := hB1 p0 (by simp)
      have h1 := hB1 p1 (by simp)
      have h2 := hB1 p2 (by simp)
      have h3 := hB1 p3 (by simp)
      have h4 := hB1 p4 (by simp)
      have h5 := hB1 p5 (by simp)
      have h6 := hB1 p6 (by simp)
      have h7 := hB1 p7 (by simp)
      simp only [D]
      omega

theorem andM {a : Nat} (m : Nat) (mi : Int) (hm : mi = m) (ha : a < 18446744073709551616) (hm2 : m < 18446744073709551616) : IntKind.u64.wrap (BitVec.ofInt IntKind.u64.bits (a : Int) &&& BitVec.ofInt IntKind.u64.bits mi).toNat = ((a &&& m : Nat) : Int) := by
  subst hm
  have hle : a &&& m ≤ a := Nat.and_le_left
  have e : (BitVec.ofInt IntKind.u64.bits (a : Int) &&& BitVec.ofInt IntKind.u64.bits (m : Int)).toNat = a &&& m := by
    show (BitVec.ofInt 64 (a : Int) &&& BitVec.ofInt 64 (m : Int)).toNat = a &&& m
    rw [BitVec.toNat_and, BitVec.ofInt_natCast, BitVec.ofInt_natCast, BitVec.toNat_ofNat, BitVec.toNat_ofNat, Nat.mod_eq_of_lt (by omega), Nat.mod_eq_of_lt (by omega)]
  rw [e, u64_in]
  omega
theorem shr64 {a k : Nat} (hk : k ≤ 64) : (a : Int).fdiv (2 ^ (min k IntKind.u64.bits)) = ((a / 2 ^ k : Nat) : Int) := by
  have e : min k IntKind.u64.bits = k := by
    have : IntKind.u64.bits = 64 := rfl
    omega
  rw [e, Int.fdiv_eq_ediv_of_nonneg _ (Int.pow_nonneg (by decide))]
  simp
theorem add64 {a b : Nat} (h : a + b < 18446744073709551616) : IntKind.u64.wrap ((a : Int) + (b : Int)) = ((a + b : Nat) : Int) := by
  rw [u64_in _ (by omega)]
  omega
theorem pop_le (x : Nat) : pop x ≤ 64 := by
  have hl := dig_len 8 x
  have hB := dig_Bs 8 x
  unfold pop
  generalize dig x 8 = l at *
  match l, hl with
  | [p0, p1, p2, p3, p4, p5, p6, p7], _ =>
    have e : ∀ b, pop8 b ≤ 8 := by intro b; unfold pop8; omega
    have h0 := e p0
    have h1 := e p1
    have h2 := e p2
    have h3 := e p3
    have h4 := e p4
    have h5 := e p5
    have h6 := e p6
    have h7 := e p7
    simp only [List.map_cons, List.map_nil, List.sum_cons, List.sum_nil]
    omega
theorem and_le2 (a m : Nat) : a &&& m ≤ m := Nat.and_le_right
theorem f76 (x : Nat) (H : Heap) (hx : x < 18446744073709551616) : ACall Try.prog 76 [.int .u64 (x : Int)] H (.int .i64 (pop x : Nat)) H := by
  refine acall76 (by simp) (acs_start ?_)
  have hc := (cnt64_all hx).1
  have h1 := (cnt64_all hx).2
  unfold cnt64 at hc
  simp only at hc
  have p0 := @shr64 x 1 (by decide)
  have q0 := andM (a := x) 6148914691236517205 6148914691236517205 rfl hx (by decide)
  have q1 := andM (a := x / 2) 6148914691236517205 6148914691236517205 rfl (by omega) (by decide)
  have a1 := add64 h1
  generalize hy1 : (x / 2 &&& 6148914691236517205) + (x &&& 6148914691236517205) = y1 at *
  have p1 := @shr64 y1 2 (by decide)
  have q2 := andM (a := y1) 3689348814741910323 3689348814741910323 rfl h1 (by decide)
  have q3 := andM (a := y1 / 4) 3689348814741910323 3689348814741910323 rfl (by omega) (by decide)
  have b2 : (y1 / 4 &&& 3689348814741910323) + (y1 &&& 3689348814741910323) ≤ 7378697629483820646 := by
    have := and_le2 (y1 / 4) 3689348814741910323
    have := and_le2 y1 3689348814741910323
    omega
  have a2 := add64 (a := y1 / 4 &&& 3689348814741910323) (b := y1 &&& 3689348814741910323) (by omega)
  generalize hy2 : (y1 / 4 &&& 3689348814741910323) + (y1 &&& 3689348814741910323) = y2 at *
  have p2 := @shr64 y2 4 (by decide)
  have a3 := add64 (a := y2 / 16) (b := y2) (by omega)
  have q4 := andM (a := y2 / 16 + y2) 1085102592571150095 1085102592571150095 rfl (by omega) (by decide)
  have b3 := and_le2 (y2 / 16 + y2) 1085102592571150095
  generalize hy3 : (y2 / 16 + y2) &&& 1085102592571150095 = y3 at *
  have p3 := @shr64 y3 8 (by decide)
  have a4 := add64 (a := y3) (b := y3 / 256) (by omega)
  generalize hy4 : y3 + y3 / 256 = y4 at *
  have p4 := @shr64 y4 16 (by decide)
  have a5 := add64 (a := y4) (b := y4 / 65536) (by omega)
  generalize hy5 : y4 + y4 / 65536 = y5 at *
  have p5 := @shr64 y5 32 (by decide)
  have a6 := add64 (a := y5) (b := y5 / 4294967296) (by omega)
  generalize hy6 : y5 + y5 / 4294967296 = y6 at *
  have b6 : y6 < 9223372036854775808 := by omega
  have q7 : IntKind.i64.wrap (BitVec.ofInt IntKind.i64.bits (y6 : Int) &&& BitVec.ofInt IntKind.i64.bits 127).toNat = ((y6 % 128 : Nat) : Int) := by
    have e : (BitVec.ofInt IntKind.i64.bits (y6 : Int) &&& BitVec.ofInt IntKind.i64.bits 127).toNat = y6 % 128 := by
      show (BitVec.ofInt 64 (y6 : Int) &&& BitVec.ofInt 64 ((127 : Nat) : Int)).toNat = y6 % 128
      rw [BitVec.toNat_and, BitVec.ofInt_natCast, BitVec.ofInt_natCast, BitVec.toNat_ofNat, BitVec.toNat_ofNat, Nat.mod_eq_of_lt (by omega), Nat.mod_eq_of_lt (by omega)]
      exact Nat.and_two_pow_sub_one_eq_mod y6 7
    rw [e, i64_in]
    omega
  simp only [Nat.reducePow] at p0 p1 p2 p3 p4 p5
  clear hy1 hy2 hy3 hy4 hy5 hy6
  rw [← hc]
  unfold c76
  simp (maxSteps:=1000000) (disch:=omega) only [acs_nil, acs_blk, acs_skip, acs_reg, acs_dreg, acs_freg, acs_nam0, acs_nam, nones, acs_seq, acs_cond, acs_block, acs_exit, acs_ret, acs_kl, acs_loop, leave_nil, leave_code, leave_lp, leave_blk, aopsK_nil, aopsK_cons, aopsK_guard, bindR_val, bindR_need, bindR_br, bindR_call, bindR_ycall, acs_rfun, rfunG_fn, bindR_bad, drawK_nil, drawK_cons, drawK_wat, bindW_val, bindW_need, bindW_br, WatL_nil, WatL_cons, isP_ptr, drawK_ext, drawK_pur, drawK_guard, callPv_fn, drawK_purv, bindD_val, bindD_need, bindD_br, bindD_call, bindD_ycall, bindD_bad, bindX_val, bindX_need, bindX_br, bindX_call, guardD_bool, guardD_tup, grows, grows0, List.append_cancel_left_eq, List.cons.injEq, exists_eq', exists_eq, condK_bool, guardK_bool, guardK_tup, sor, r0, r1, r2, r3, rC, rB, rI, rP, rA, rT, rS, rF, rSl, rO, rbin, rcut, run1, Env.evals, Env.eval, Env.get, Env.put, Env.ins, Env.del, Env.dels, argEnv, AV.full, AV.cells, AV.cell, eqCells, Nat.reduceEqDiff, Nat.reduceLT, Nat.reduceAdd, Nat.reduceSub, Nat.reduceMul, Nat.reduceBEq, Int.reduceLT, Int.reduceAdd, Int.reduceMul, Int.reduceSub, Int.reduceToNat, Int.reduceLE, Int.reduceEq, ↓reduceIte, decide_true, decide_false, decide_eq_true_eq, decide_eq_false_iff_not, Bool.not_eq_true', Bool.not_eq_false', true_and, and_true, false_implies, true_implies, forall_const, Bool.not_true, Bool.not_false, Bool.false_eq_true, Bool.true_eq_false, List.getElem?_cons_zero, List.getElem?_cons_succ, List.length_cons, List.length_nil, List.length_append, List.all_cons, List.all_nil, Bool.and_true, Bool.and_self, implies_true, reduceCtorEq, List.append_assoc, List.cons_append, List.nil_append, List.append_nil, Int.reduceNeg, i64_in, imin_eq, imax_eq, cast3, cast0, cast1, cast2, Option.map_none, ite_self, and_false, false_and, Option.isSome_some, or_true, true_or, Int.sub_zero, Int.mul_one, Nat.sub_zero, Nat.zero_le, Int.cast_ofNat_Int, Int.natCast_nonneg, Int.toNat_natCast, ne_eq, not_false_eq_true, not_true_eq_false, strC, blkAt_app, blkAt_app0, blkAt_zero, blkAt_succ, List.set_cons_zero, List.set_cons_succ, set_app, set_app0, Option.map_some, Option.bind_some, rd, setCells, lay, rdS, szOk, rapp, ownAt, lenAt, Option.any_some, Option.getD_some, List.drop_zero, List.drop_succ_cons, List.take_succ_cons, List.take_zero, List.drop_nil, List.take_nil, Nat.reduceLeDiff, Nat.lt_irrefl, Nat.zero_add, Nat.add_zero, Nat.mul_one, Nat.one_mul, Nat.add_assoc, Option.some.injEq, eq_self,  p0, q0, q1, a1, p1, q2, q3, a2, p2, a3, q4, p3, a4, p4, a5, p5, a6, q7, Nat.reducePow]
  exact fin_same (by simp) _ (by first | exact (List.append_nil _).symm | rfl) (by simp (maxSteps:=1000000) (disch:=omega) only [resVal, resAll, resOne, rs76, Env.get, go_sem, ↓reduceIte, reduceCtorEq]) (by simp only [AV.und, AV.unds, and_self])
def ones : List Int → Nat
  | [] => 0
  | n :: r => pop (u64 n) + ones r
theorem ones_le : ∀ (l : List Int), ones l ≤ 64 * l.length
  | [] => by simp [ones]
  | n :: r => by
    have := ones_le r
    have := pop_le (u64 n)
    rw [ones, List.length_cons]
    omega
theorem ones_app : ∀ (a b : List Int), ones (a ++ b) = ones a + ones b
  | [], b => by simp [ones]
  | n :: r, b => by rw [List.cons_append, ones, ones, ones_app r b]; omega
def c65t : SC := tl2 (tl2 (tl2 c65))
def e65 (p off n : Nat) (c : Option Nat) (s j : Nat) : Env := [(3, .int .i64 (s : Nat)), (6, .sl p off n 1 c), (7, .int .i64 (n : Nat)), (8, .int .i64 (j : Nat))]
theorem f65_loop {xs : List Int} {p off : Nat} {c : Option Nat} {H : Heap} (hx : Sl i64 H p off xs) (hl : xs.length ≤ 4000000) : ∀ (r : List Int) (j s : Nat), xs.drop j = r → j + r.length = xs.length → s + ones r = ones xs →
    acs Try.prog [.lp c65l0, .blk 0, .code c65t] (e65 p off xs.length c s j) H (Fin H rs65 (.int .i64 (ones xs : Nat)) H) := by
  have hb := ones_le xs
  obtain ⟨cs, o, hp, hle, hcs⟩ := hx
  intro r
  induction r with
  | nil =>
    intro j s _ hj hs
    have hlt : ¬ (j : Int) < (xs.length : Int) := by simp at hj; omega
    rw [← hs, ones]
    unfold e65
    rw [acs_lp]; conv in Fr.code c65l0 => unfold c65l0
    simp (maxSteps:=1000000) (disch:=omega) only [go_sem, ↓reduceIte, reduceCtorEq, hlt]
    unfold c65t c65 tl2
    simp (maxSteps:=1000000) (disch:=omega) only [go_sem, ↓reduceIte, reduceCtorEq]
    exact fin_same (by simp) _ (by first | exact (List.append_nil _).symm | rfl) (by simp (maxSteps:=1000000) (disch:=omega) only [resVal, resAll, resOne, rs65, Env.get, go_sem, ↓reduceIte, reduceCtorEq]) (by simp only [AV.und, AV.unds, and_self])
  | cons x r ih =>
    intro j s hd hj hs
    have hlt : (j : Int) < (xs.length : Int) := by simp at hj; omega
    have hx0 : xs[j]? = some x := by have := congrArg (·[0]?) hd; simpa using this
    have fx : cs[off + j]? = some (.int .i64 x) := sl_get hcs hx0
    have hd2 : xs.drop (j + 1) = r := by rw [← List.drop_drop, hd]; rfl
    rw [ones] at hs
    have next := ih (j + 1) (s + pop (u64 x)) hd2 (by simp at hj; omega) (by omega)
    have g := fun H => f76 (u64 x) H (u64_lt x)
    have e := u64_cast x
    unfold e65 at *
    simp only [List.append_assoc, List.cons_append, List.nil_append, List.length_append, List.length_cons, List.length_nil, Nat.reduceAdd, Nat.add_assoc, Nat.zero_add, Nat.add_zero, Int.natCast_add, Int.cast_ofNat_Int, ] at next
    have hsb : (s : Int) + ((pop (u64 x) : Nat) : Int) ≤ 9223372036854775807 := by omega
    clear ih hd hd2 hx0 hs
    generalize ones xs = R at *
    generalize pop (u64 x) = pp at *
    generalize u64 x = u at *
    rw [acs_lp]; conv in Fr.code c65l0 => unfold c65l0
    simp (maxSteps:=1000000) (disch:=omega) only [go_sem, ↓reduceIte, reduceCtorEq, hp, hlt, fx, e]
    first | refine callB_intro (g _) ?_ | refine callD_intro (g _) ?_ | refine callP_intro (fun _ => (g _)) ?_ | refine callX_pure (g _) ?_
    simp (maxSteps:=1000000) (disch:=omega) only [go_sem, ↓reduceIte, reduceCtorEq, hp, hlt, fx, e]
    exact next
theorem f65 {xs : List Int} {p off : Nat} {c : Option Nat} {H : Heap} (hx : Sl i64 H p off xs) (hl : xs.length ≤ 4000000) :
    ACall Try.prog 65 [.sl p off xs.length 1 c] H (.int .i64 (ones xs : Nat)) H := by
  refine acall65 (by simp) (acs_start ?_)
  have go := f65_loop (c := c) hx hl xs 0 0 rfl (by simp) (by simp)
  unfold e65 c65t c65 tl2 at go
  unfold c65
  simp only [List.append_assoc, List.cons_append, List.nil_append, List.length_append, List.length_cons, List.length_nil, Nat.reduceAdd, Nat.add_assoc, Nat.zero_add, Nat.add_zero, Int.natCast_add, Int.cast_ofNat_Int, ] at go
  simp (maxSteps:=1000000) (disch:=omega) only [go_sem, ↓reduceIte, reduceCtorEq]
  exact go

theorem and1_i64 (x : Int) : IntKind.i64.wrap (BitVec.ofInt IntKind.i64.bits x &&& BitVec.ofInt IntKind.i64.bits 1).toNat = x % 2 := by
  have e : (BitVec.ofInt IntKind.i64.bits x &&& BitVec.ofInt IntKind.i64.bits 1).toNat = (x % 18446744073709551616).toNat % 2 := by
    show (BitVec.ofInt 64 x &&& BitVec.ofInt 64 ((1 : Nat) : Int)).toNat = _
    rw [BitVec.toNat_and, BitVec.ofInt_natCast, BitVec.toNat_ofInt, BitVec.toNat_ofNat, Nat.mod_eq_of_lt (show 1 < 2 ^ 64 by decide), Nat.and_one_is_mod]
    rfl
  rw [e, i64_in _ (by omega)]
  omega
theorem shr_i64 (x : Int) (j : Nat) : x.fdiv (2 ^ (min (j % 60) IntKind.i64.bits)) = x / 2 ^ (j % 60) := by
  have e : min (j % 60) IntKind.i64.bits = j % 60 := by
    have : IntKind.i64.bits = 64 := rfl
    omega
  rw [e, Int.fdiv_eq_ediv_of_nonneg _ (Int.pow_nonneg (by decide))]
def bit (d : List Int) (j : Nat) : Bool := decide (d.getD (j / 60) 0 / 2 ^ (j % 60) % 2 = 1)
def pl (d : List Int) : Nat → Nat → Nat
  | _, 0 => 0
  | j, n + 1 => (if bit d j then 1 else 0) + pl d (j + 1) n
def ap (d : List Int) : List Int → Nat → List Int → List Int → Option (List Int)
  | [], _, ws, acc => if ws.isEmpty then some acc else none
  | b :: bs, j, ws, acc => if bit d j then (match ws with | [] => none | w :: ws => if w = b then none else ap d bs (j + 1) ws (acc ++ [w])) else ap d bs (j + 1) ws (acc ++ [b])
def Q16 (H : Heap) : Option (List Int) → Post
  | none => Fin H rs44 (.tup [.nils, .int .i64 2]) H
  | some R => FinW H rs44 (.tup [.sl H.length 0 R.length 1 none, .int .i64 0]) (H ++ [some ⟨R.map (AV.int .i64), false⟩])
def e44 (q oq n : Nat) (c7 c8 : Option Nat) (o8 n8 b L : Nat) (j : Nat) : Env := [(7, .sl q oq n 1 c7), (8, .sl q o8 n8 1 c8), (9, .sl b 0 L 1 (some L)), (42, .int .i64 (L : Nat)), (43, .int .i64 (j : Nat))]
def c44t : SC := tl2 (tl2 (tl2 (tl2 (tl2 (tl2 (tl2 (tl2 c44)))))))
theorem f44_loop {d : List Int} {q oq n : Nat} {c7 : Option Nat} {H : Heap} {L : Nat} (hq : Sl i64 H q oq d) (hn : n ≤ d.length) (hL : L ≤ 60 * n) (hL2 : L ≤ 600) :
    ∀ (rest : List Int) (j : Nat) (ws : List Int) (k : Nat) (c8 : Option Nat) (acc : List Int) (G : Heap), j + rest.length = L → acc.length = j → d.drop (n + k) = ws → pl d j rest.length ≤ ws.length → ws.length ≤ 100000 →
    acs Try.prog [.lp c44l0, .blk 1, .code c44t] (e44 q oq n c7 c8 (oq + (n + k)) ws.length (H.length + G.length) L j) (H ++ (G ++ [some ⟨(acc ++ rest).map (AV.int .i64), true⟩])) (Q16 H (ap d rest j ws acc)) := by
  have hql := hq.lt
  obtain ⟨cs, o, hq, hle, hcs⟩ := hq
  intro rest
  induction rest with
  | nil =>
    intro j ws k c8 acc G hj hacc hd hpl hwl
    have hlt : ¬ (j : Int) < (L : Int) := by simp at hj; omega
    have hjL : L = acc.length := by simp at hj; omega
    cases ws with
    | nil =>
      have e : ap d [] j [] acc = some acc := rfl
      rw [e, List.append_nil]
      subst hjL
      unfold e44 Q16
      rw [acs_lp]; conv in Fr.code c44l0 => unfold c44l0
      simp (maxSteps:=1000000) (disch:=omega) only [go_sem, ↓reduceIte, reduceCtorEq, hlt]
      unfold c44t c44 tl2
      simp (maxSteps:=1000000) (disch:=omega) only [go_sem, ↓reduceIte, reduceCtorEq]
      refine ⟨.tup [.sl H.length 0 acc.length 1 (some acc.length), .int .i64 0], tup2_weak sl_weak (fun _ _ h => h), fin_oneF (o := true) (G ++ [some ⟨acc.map (AV.int .i64), true⟩]) G.length (acc.map (AV.int .i64)) (by simp) rfl (by simp) (undMap _) (by simp only [resVal, resAll, resOne, rs44, Env.get, go_sem, ↓reduceIte, reduceCtorEq]; rfl) (by simp [AV.ren, AV.rens]) (by simp [AV.und, AV.unds])⟩
    | cons w ws =>
      have e : ap d [] j (w :: ws) acc = none := rfl
      have hp : (0 : Int) < ((ws.length + 1 : Nat) : Int) := by omega
      rw [e]
      unfold e44 Q16
      rw [acs_lp]; conv in Fr.code c44l0 => unfold c44l0
      simp (maxSteps:=1000000) (disch:=omega) only [go_sem, ↓reduceIte, reduceCtorEq, hlt]
      unfold c44t c44 tl2
      simp (maxSteps:=1000000) (disch:=omega) only [go_sem, ↓reduceIte, reduceCtorEq, hp]
      exact fin_same (by simp) _ (by first | exact (List.append_nil _).symm | rfl) (by simp (maxSteps:=1000000) (disch:=omega) only [resVal, resAll, resOne, rs44, Env.get, go_sem, ↓reduceIte, reduceCtorEq]) (by simp only [AV.und, AV.unds, and_self])
  | cons b rest ih =>
    intro j ws k c8 acc G hj hacc hd hpl hwl
    have hlt : (j : Int) < (L : Int) := by simp at hj; omega
    have hjn : j / 60 < n := by simp at hj; omega
    have hdv : (j : Int).tdiv 60 = ((j / 60 : Nat) : Int) := by rw [Int.tdiv_eq_ediv_of_nonneg (by omega)]; omega
    have hmv : (j : Int).tmod 60 = ((j % 60 : Nat) : Int) := by rw [Int.tmod_eq_emod_of_nonneg (by omega)]; omega
    have hjn2 : ((j / 60 : Nat) : Int) < (n : Int) := by omega
    have fm : cs[oq + j / 60]? = some (.int .i64 (d.getD (j / 60) 0)) := sl_get hcs (by rw [List.getD_eq_getElem?_getD, List.getElem?_eq_getElem (by omega)]; simp)
    have hsh := fun x => shr_i64 x j
    have hjL : j < L := by simp at hj; omega
    have hbit : bit d j = decide (d.getD (j / 60) 0 / 2 ^ (j % 60) % 2 = 1) := rfl
    generalize d.getD (j / 60) 0 = m at *
    by_cases hb : m / 2 ^ (j % 60) % 2 = 1
    · rw [decide_eq_true hb] at hbit
      have hb0 : ¬ m / 2 ^ (j % 60) % 2 = 0 := by omega
      have hpl2 : 1 + pl d (j + 1) rest.length ≤ ws.length := by rw [List.length_cons, pl, hbit] at hpl; simpa using hpl
      cases ws with
      | nil => simp at hpl2
      | cons w ws =>
      rw [List.length_cons] at hpl2
      have fw : cs[oq + (n + k)]? = some (.int .i64 w) := by
        have : d[n + k]? = some w := by have := congrArg (·[0]?) hd; simpa using this
        exact sl_get hcs this
      have hd2 : d.drop (n + (k + 1)) = ws := by rw [show n + (k + 1) = (n + k) + 1 by omega, ← List.drop_drop, hd]; rfl
      have fo : ((acc ++ b :: rest).map (AV.int .i64))[j]? = some (.int .i64 b) := getMapF (f := AV.int .i64) (by rw [List.getElem?_append_right (by omega), hacc]; simp)
      have hlen : ((acc ++ b :: rest).map (AV.int .i64)).length = L := by simp; simp at hj; omega
      have hset : setCells ((acc ++ b :: rest).map (AV.int .i64)) j [AV.int .i64 w] = ((acc ++ [w]) ++ rest).map (AV.int .i64) := by
        rw [setMapF (f := AV.int .i64) (by simp; omega), ← hacc]
        simp
      have hp : (0 : Int) < ((ws.length + 1 : Nat) : Int) := by omega
      by_cases hwb : w = b
      · have e : ap d (b :: rest) j (w :: ws) acc = none := by simp [ap, hbit, hwb]
        rw [e]
        subst hwb
        unfold e44 Q16
        generalize (acc ++ w :: rest).map (AV.int .i64) = cells at *
        clear ih hpl hpl2 hd hd2
        rw [acs_lp]; conv in Fr.code c44l0 => unfold c44l0
        simp (maxSteps:=1000000) (disch:=omega) only [acs_nil, acs_blk, acs_skip, acs_reg, acs_dreg, acs_freg, acs_nam0, acs_nam, nones, acs_seq, acs_cond, acs_block, acs_exit, acs_ret, acs_kl, acs_loop, leave_nil, leave_code, leave_lp, leave_blk, aopsK_nil, aopsK_cons, aopsK_guard, bindR_val, bindR_need, bindR_br, bindR_call, bindR_ycall, acs_rfun, rfunG_fn, bindR_bad, drawK_nil, drawK_cons, drawK_wat, bindW_val, bindW_need, bindW_br, WatL_nil, WatL_cons, isP_ptr, drawK_ext, drawK_pur, drawK_guard, callPv_fn, drawK_purv, bindD_val, bindD_need, bindD_br, bindD_call, bindD_ycall, bindD_bad, bindX_val, bindX_need, bindX_br, bindX_call, guardD_bool, guardD_tup, grows, grows0, List.append_cancel_left_eq, List.cons.injEq, exists_eq', exists_eq, condK_bool, guardK_bool, guardK_tup, sor, r0, r1, r2, r3, rC, rB, rI, rP, rA, rT, rS, rF, rSl, rO, rbin, rcut, run1, Env.evals, Env.eval, Env.get, Env.put, Env.ins, Env.del, Env.dels, argEnv, AV.full, AV.cells, AV.cell, eqCells, Nat.reduceEqDiff, Nat.reduceLT, Nat.reduceAdd, Nat.reduceSub, Nat.reduceMul, Nat.reduceBEq, Int.reduceLT, Int.reduceAdd, Int.reduceMul, Int.reduceSub, Int.reduceToNat, Int.reduceLE, Int.reduceEq, ↓reduceIte, decide_true, decide_false, decide_eq_true_eq, decide_eq_false_iff_not, Bool.not_eq_true', Bool.not_eq_false', true_and, and_true, false_implies, true_implies, forall_const, Bool.not_true, Bool.not_false, Bool.false_eq_true, Bool.true_eq_false, List.getElem?_cons_zero, List.getElem?_cons_succ, List.length_cons, List.length_nil, List.length_append, List.all_cons, List.all_nil, Bool.and_true, Bool.and_self, implies_true, reduceCtorEq, List.append_assoc, List.cons_append, List.nil_append, List.append_nil, Int.reduceNeg, i64_in, imin_eq, imax_eq, cast3, cast0, cast1, cast2, Option.map_none, ite_self, and_false, false_and, Option.isSome_some, or_true, true_or, Int.sub_zero, Int.mul_one, Nat.sub_zero, Nat.zero_le, Int.cast_ofNat_Int, Int.natCast_nonneg, Int.toNat_natCast, ne_eq, not_false_eq_true, not_true_eq_false, strC, blkAt_app, blkAt_app0, blkAt_zero, blkAt_succ, List.set_cons_zero, List.set_cons_succ, set_app, set_app0, Option.map_some, Option.bind_some, rd, setCells, lay, rdS, szOk, rapp, ownAt, lenAt, Option.any_some, Option.getD_some, List.drop_zero, List.drop_succ_cons, List.take_succ_cons, List.take_zero, List.drop_nil, List.take_nil, Nat.reduceLeDiff, Nat.lt_irrefl, Nat.zero_add, Nat.add_zero, Nat.mul_one, Nat.one_mul, Nat.add_assoc, Option.some.injEq, eq_self,  hlt, hjL, hdv, hmv, hjn2, hq, hql, blkAt_lo, fm, hsh, and1_i64, hb, hb0, fw, fo, hp, hlen]
        exact fin_same (by simp) _ (by first | exact (List.append_nil _).symm | rfl) (by simp (maxSteps:=1000000) (disch:=omega) only [resVal, resAll, resOne, rs44, Env.get, go_sem, ↓reduceIte, reduceCtorEq]) (by simp only [AV.und, AV.unds, and_self])
      · have e : ap d (b :: rest) j (w :: ws) acc = ap d rest (j + 1) ws (acc ++ [w]) := by simp [ap, hbit, hwb]
        rw [e]
        have next := fun c8 G => ih (j + 1) ws (k + 1) c8 (acc ++ [w]) G (by simp at hj; omega) (by simp; omega) hd2 (by omega) (by simp at hwl; omega)
        generalize ap d rest (j + 1) ws (acc ++ [w]) = R at *
        generalize ((acc ++ [w]) ++ rest).map (AV.int .i64) = cells2 at *
        generalize (acc ++ b :: rest).map (AV.int .i64) = cells at *
        unfold e44 at *
        simp only [List.append_assoc, List.cons_append, List.nil_append, List.length_append, List.length_cons, List.length_nil, Nat.reduceAdd, Nat.add_assoc, Nat.zero_add, Nat.add_zero, Int.natCast_add, Int.cast_ofNat_Int, ] at next
        clear ih hpl hpl2 hd hd2
        rw [acs_lp]; conv in Fr.code c44l0 => unfold c44l0
        simp (maxSteps:=1000000) (disch:=omega) only [acs_nil, acs_blk, acs_skip, acs_reg, acs_dreg, acs_freg, acs_nam0, acs_nam, nones, acs_seq, acs_cond, acs_block, acs_exit, acs_ret, acs_kl, acs_loop, leave_nil, leave_code, leave_lp, leave_blk, aopsK_nil, aopsK_cons, aopsK_guard, bindR_val, bindR_need, bindR_br, bindR_call, bindR_ycall, acs_rfun, rfunG_fn, bindR_bad, drawK_nil, drawK_cons, drawK_wat, bindW_val, bindW_need, bindW_br, WatL_nil, WatL_cons, isP_ptr, drawK_ext, drawK_pur, drawK_guard, callPv_fn, drawK_purv, bindD_val, bindD_need, bindD_br, bindD_call, bindD_ycall, bindD_bad, bindX_val, bindX_need, bindX_br, bindX_call, guardD_bool, guardD_tup, grows, grows0, List.append_cancel_left_eq, List.cons.injEq, exists_eq', exists_eq, condK_bool, guardK_bool, guardK_tup, sor, r0, r1, r2, r3, rC, rB, rI, rP, rA, rT, rS, rF, rSl, rO, rbin, rcut, run1, Env.evals, Env.eval, Env.get, Env.put, Env.ins, Env.del, Env.dels, argEnv, AV.full, AV.cells, AV.cell, eqCells, Nat.reduceEqDiff, Nat.reduceLT, Nat.reduceAdd, Nat.reduceSub, Nat.reduceMul, Nat.reduceBEq, Int.reduceLT, Int.reduceAdd, Int.reduceMul, Int.reduceSub, Int.reduceToNat, Int.reduceLE, Int.reduceEq, ↓reduceIte, decide_true, decide_false, decide_eq_true_eq, decide_eq_false_iff_not, Bool.not_eq_true', Bool.not_eq_false', true_and, and_true, false_implies, true_implies, forall_const, Bool.not_true, Bool.not_false, Bool.false_eq_true, Bool.true_eq_false, List.getElem?_cons_zero, List.getElem?_cons_succ, List.length_cons, List.length_nil, List.length_append, List.all_cons, List.all_nil, Bool.and_true, Bool.and_self, implies_true, reduceCtorEq, List.append_assoc, List.cons_append, List.nil_append, List.append_nil, Int.reduceNeg, i64_in, imin_eq, imax_eq, cast3, cast0, cast1, cast2, Option.map_none, ite_self, and_false, false_and, Option.isSome_some, or_true, true_or, Int.sub_zero, Int.mul_one, Nat.sub_zero, Nat.zero_le, Int.cast_ofNat_Int, Int.natCast_nonneg, Int.toNat_natCast, ne_eq, not_false_eq_true, not_true_eq_false, strC, blkAt_app, blkAt_app0, blkAt_zero, blkAt_succ, List.set_cons_zero, List.set_cons_succ, set_app, set_app0, Option.map_some, Option.bind_some, rd, lay, rdS, szOk, rapp, ownAt, lenAt, Option.any_some, Option.getD_some, List.drop_zero, List.drop_succ_cons, List.take_succ_cons, List.take_zero, List.drop_nil, List.take_nil, Nat.reduceLeDiff, Nat.lt_irrefl, Nat.zero_add, Nat.add_zero, Nat.mul_one, Nat.one_mul, Nat.add_assoc, Option.some.injEq, eq_self,  hlt, hjL, hdv, hmv, hjn2, hq, hql, blkAt_lo, fm, hsh, and1_i64, hb, hb0, fw, fo, hp, hlen, hset, hwb, Nat.add_sub_cancel]
        exact ⟨by omega, by omega, next _ _⟩
    · rw [decide_eq_false hb] at hbit
      have hb0 : m / 2 ^ (j % 60) % 2 = 0 := by omega
      have hpl2 : pl d (j + 1) rest.length ≤ ws.length := by rw [List.length_cons, pl, hbit] at hpl; simpa using hpl
      have e : ap d (b :: rest) j ws acc = ap d rest (j + 1) ws (acc ++ [b]) := by simp [ap, hbit]
      rw [e]
      have next := fun c8 G => ih (j + 1) ws k c8 (acc ++ [b]) G (by simp at hj; omega) (by simp; omega) hd (by omega) hwl
      have hcat : (acc ++ [b]) ++ rest = acc ++ b :: rest := by simp
      rw [hcat] at next
      generalize ap d rest (j + 1) ws (acc ++ [b]) = R at *
      generalize (acc ++ b :: rest).map (AV.int .i64) = cells at *
      unfold e44 at *
      simp only [List.append_assoc, List.cons_append, List.nil_append, List.length_append, List.length_cons, List.length_nil, Nat.reduceAdd, Nat.add_assoc, Nat.zero_add, Nat.add_zero, Int.natCast_add, Int.cast_ofNat_Int, ] at next
      clear ih hpl hpl2 hd
      rw [acs_lp]; conv in Fr.code c44l0 => unfold c44l0
      simp (maxSteps:=1000000) (disch:=omega) only [acs_nil, acs_blk, acs_skip, acs_reg, acs_dreg, acs_freg, acs_nam0, acs_nam, nones, acs_seq, acs_cond, acs_block, acs_exit, acs_ret, acs_kl, acs_loop, leave_nil, leave_code, leave_lp, leave_blk, aopsK_nil, aopsK_cons, aopsK_guard, bindR_val, bindR_need, bindR_br, bindR_call, bindR_ycall, acs_rfun, rfunG_fn, bindR_bad, drawK_nil, drawK_cons, drawK_wat, bindW_val, bindW_need, bindW_br, WatL_nil, WatL_cons, isP_ptr, drawK_ext, drawK_pur, drawK_guard, callPv_fn, drawK_purv, bindD_val, bindD_need, bindD_br, bindD_call, bindD_ycall, bindD_bad, bindX_val, bindX_need, bindX_br, bindX_call, guardD_bool, guardD_tup, grows, grows0, List.append_cancel_left_eq, List.cons.injEq, exists_eq', exists_eq, condK_bool, guardK_bool, guardK_tup, sor, r0, r1, r2, r3, rC, rB, rI, rP, rA, rT, rS, rF, rSl, rO, rbin, rcut, run1, Env.evals, Env.eval, Env.get, Env.put, Env.ins, Env.del, Env.dels, argEnv, AV.full, AV.cells, AV.cell, eqCells, Nat.reduceEqDiff, Nat.reduceLT, Nat.reduceAdd, Nat.reduceSub, Nat.reduceMul, Nat.reduceBEq, Int.reduceLT, Int.reduceAdd, Int.reduceMul, Int.reduceSub, Int.reduceToNat, Int.reduceLE, Int.reduceEq, ↓reduceIte, decide_true, decide_false, decide_eq_true_eq, decide_eq_false_iff_not, Bool.not_eq_true', Bool.not_eq_false', true_and, and_true, false_implies, true_implies, forall_const, Bool.not_true, Bool.not_false, Bool.false_eq_true, Bool.true_eq_false, List.getElem?_cons_zero, List.getElem?_cons_succ, List.length_cons, List.length_nil, List.length_append, List.all_cons, List.all_nil, Bool.and_true, Bool.and_self, implies_true, reduceCtorEq, List.append_assoc, List.cons_append, List.nil_append, List.append_nil, Int.reduceNeg, i64_in, imin_eq, imax_eq, cast3, cast0, cast1, cast2, Option.map_none, ite_self, and_false, false_and, Option.isSome_some, or_true, true_or, Int.sub_zero, Int.mul_one, Nat.sub_zero, Nat.zero_le, Int.cast_ofNat_Int, Int.natCast_nonneg, Int.toNat_natCast, ne_eq, not_false_eq_true, not_true_eq_false, strC, blkAt_app, blkAt_app0, blkAt_zero, blkAt_succ, List.set_cons_zero, List.set_cons_succ, set_app, set_app0, Option.map_some, Option.bind_some, rd, setCells, lay, rdS, szOk, rapp, ownAt, lenAt, Option.any_some, Option.getD_some, List.drop_zero, List.drop_succ_cons, List.take_succ_cons, List.take_zero, List.drop_nil, List.take_nil, Nat.reduceLeDiff, Nat.lt_irrefl, Nat.zero_add, Nat.add_zero, Nat.mul_one, Nat.one_mul, Nat.add_assoc, Option.some.injEq, eq_self,  hlt, hjL, hdv, hmv, hjn2, hq, hql, blkAt_lo, fm, hsh, and1_i64, hb, hb0]
      exact next _ _

theorem call_nilres2 {P : Program} {f : FuncId} {args : List AV} {H : Heap} {sz : Nat} {v : AV} (h : ACall P f args H (.tup [.nils, v]) H) : ACall P f args H (.tup [.sl H.length 0 0 sz none, v]) (H ++ [some ⟨[], false⟩]) := by
  intro M w xs hH hv
  refine (h M w xs hH hv).mono fun e w' ⟨x, M', h1, h2, h3, h4⟩ => ⟨x, _, h1, h2.dummy, h3.dummy, ?_⟩
  have hle : M'.le (M'.put H.length ⟨0, 0, 0, false⟩) := Val.le_put (h2.dom _ (Nat.le_refl _))
  simp only [VR, VRs] at h4 ⊢
  obtain ⟨us, e, x0, xs, rfl, g1, x1, xs1, rfl, g2, rfl⟩ := h4
  exact ⟨_, e, _, _, rfl, ⟨⟨0, 0, 0, false⟩, Val.at_in (by simp [Val.put]) rfl, .inr (by simp [g1])⟩, _, _, rfl, g2.mono hle, rfl⟩
def aspec (bs d : List Int) : List Int × Int :=
  if 600 < bs.length then ([], 5) else if d.length < (bs.length + 59) / 60 then ([], 4) else if ones (d.take ((bs.length + 59) / 60)) ≠ d.length - (bs.length + 59) / 60 then ([], 2) else
    match ap d bs 0 (d.drop ((bs.length + 59) / 60)) [] with | none => ([], 2) | some R => (R, 0)
def dspec (bs ns : List Int) : List Int × Int :=
  if bs.length ≠ ns.length then ([], 9) else if 600 < bs.length then ([], 5) else (diff bs ns, 0)
def rowres (r : List Int × Int) (H : Heap) : AV := .tup [.sl H.length 0 r.1.length 1 none, .int .i64 r.2]
def rowheap (r : List Int × Int) (H : Heap) : Heap := H ++ [some ⟨r.1.map (AV.int .i64), false⟩]
theorem f44_body {bs d : List Int} {p q oq : Nat} {c1 c2 : Option Nat} {H : Heap} (hp : Sl i64 H p 0 bs) (hq : Sl i64 H q oq d) (hL : bs.length ≤ 600) (hdl : d.length ≤ 100000) (hd : (bs.length + 59) / 60 ≤ d.length) (ho : ones (d.take ((bs.length + 59) / 60)) = d.length - (bs.length + 59) / 60) (hpl : pl d 0 bs.length ≤ d.length - (bs.length + 59) / 60) :
    ac Try.prog c44 [(0, .sl p 0 bs.length 1 c1), (1, .sl q oq d.length 1 c2)] H (Q16 H (ap d bs 0 (d.drop ((bs.length + 59) / 60)) [])) := by
  have hn : ((bs.length : Int) + 59) / 60 = (((bs.length + 59) / 60 : Nat) : Int) := by omega
  have go := fun c7 c8 => f44_loop (c7 := c7) hq hd (show bs.length ≤ 60 * ((bs.length + 59) / 60) by omega) hL bs 0 (d.drop ((bs.length + 59) / 60)) 0 c8 [] [] (by simp) rfl (by simp) (by simpa using hpl) (by simp; omega)
  have g := fun H => f59 bs.length H (by omega)
  have gq := hq.take ((bs.length + 59) / 60)
  have gd := List.length_drop (i := (bs.length + 59) / 60) (l := d)
  have gt : (d.take ((bs.length + 59) / 60)).length = (bs.length + 59) / 60 := by simp; omega
  generalize hN : (bs.length + 59) / 60 = N at *
  have g20 := fun c => f65 (c := c) gq (by omega)
  rw [ho, gt] at g20
  generalize ap d bs 0 (d.drop N) [] = R at *
  rw [gd] at go
  have hNs : ((d.length : Int) - (N : Int)).toNat = d.length - N := by omega
  have h1 : ¬ (600 : Int) < (bs.length : Int) := by omega
  have h2 : ¬ (d.length : Int) < (N : Int) := by omega
  have hNd : (N : Int) ≤ (d.length : Int) := by omega
  obtain ⟨cs, o, hp, hle, hcs⟩ := hp
  rw [Nat.zero_add] at hle
  rw [List.drop_zero] at hcs
  have hrep : (List.replicate bs.length [AV.int IntKind.i64 0]).flatten = List.replicate bs.length (AV.int .i64 0) := by
    generalize bs.length = n
    induction n with
    | zero => rfl
    | succ n ih => rw [List.replicate_succ, List.replicate_succ, List.flatten_cons, ih]; rfl
  have hbig : bs.length * 8 ≤ 140737488355328 := by omega
  unfold c44
  apply acs_start
  rw [hn] at g
  simp (maxSteps:=1000000) (disch:=omega) only [go_sem, ↓reduceIte, reduceCtorEq, h1]
  first | refine callB_intro (g _) ?_ | refine callD_intro (g _) ?_ | refine callP_intro (fun _ => (g _)) ?_ | refine callX_pure (g _) ?_
  simp (maxSteps:=1000000) (disch:=omega) only [go_sem, ↓reduceIte, reduceCtorEq, h1, h2, hNd]
  refine ⟨Int.le_refl _, ?_⟩
  first | refine callB_intro (g20 _) ?_ | refine callD_intro (g20 _) ?_ | refine callP_intro (fun _ => (g20 _)) ?_ | refine callX_pure (g20 _) ?_
  have hpl2 := blkAt_lt hp
  have hcs2 : List.take bs.length cs = bs.map (AV.int .i64) := hcs
  have hset : setCells (List.replicate bs.length (AV.int IntKind.i64 0)) 0 (bs.map (AV.int .i64)) = bs.map (AV.int .i64) := by
    unfold setCells
    simp
  simp only [List.append_assoc, List.cons_append, List.nil_append, List.length_append, List.length_cons, List.length_nil, Nat.reduceAdd, Nat.add_assoc, Nat.zero_add, Nat.add_zero, Int.natCast_add, Int.cast_ofNat_Int, ] at go
  unfold e44 c44t c44 tl2 at go
  simp (maxSteps:=1000000) (disch:=omega) only [acs_nil, acs_blk, acs_skip, acs_reg, acs_dreg, acs_freg, acs_nam0, acs_nam, nones, acs_seq, acs_cond, acs_block, acs_exit, acs_ret, acs_kl, acs_loop, leave_nil, leave_code, leave_lp, leave_blk, aopsK_nil, aopsK_cons, aopsK_guard, bindR_val, bindR_need, bindR_br, bindR_call, bindR_ycall, acs_rfun, rfunG_fn, bindR_bad, drawK_nil, drawK_cons, drawK_wat, bindW_val, bindW_need, bindW_br, WatL_nil, WatL_cons, isP_ptr, drawK_ext, drawK_pur, drawK_guard, callPv_fn, drawK_purv, bindD_val, bindD_need, bindD_br, bindD_call, bindD_ycall, bindD_bad, bindX_val, bindX_need, bindX_br, bindX_call, guardD_bool, guardD_tup, grows, grows0, List.append_cancel_left_eq, List.cons.injEq, exists_eq', exists_eq, condK_bool, guardK_bool, guardK_tup, sor, r0, r1, r2, r3, rC, rB, rI, rP, rA, rT, rS, rF, rSl, rO, rbin, rcut, run1, Env.evals, Env.eval, Env.get, Env.put, Env.ins, Env.del, Env.dels, argEnv, AV.full, AV.cells, AV.cell, eqCells, Nat.reduceEqDiff, Nat.reduceLT, Nat.reduceAdd, Nat.reduceSub, Nat.reduceMul, Nat.reduceBEq, Int.reduceLT, Int.reduceAdd, Int.reduceMul, Int.reduceSub, Int.reduceToNat, Int.reduceLE, Int.reduceEq, ↓reduceIte, decide_true, decide_false, decide_eq_true_eq, decide_eq_false_iff_not, Bool.not_eq_true', Bool.not_eq_false', true_and, and_true, false_implies, true_implies, forall_const, Bool.not_true, Bool.not_false, Bool.false_eq_true, Bool.true_eq_false, List.getElem?_cons_zero, List.getElem?_cons_succ, List.length_cons, List.length_nil, List.length_append, List.all_cons, List.all_nil, Bool.and_true, Bool.and_self, implies_true, reduceCtorEq, List.append_assoc, List.cons_append, List.nil_append, List.append_nil, Int.reduceNeg, i64_in, imin_eq, imax_eq, cast3, cast0, cast1, cast2, Option.map_none, ite_self, and_false, false_and, Option.isSome_some, or_true, true_or, Int.sub_zero, Int.mul_one, Nat.sub_zero, Nat.zero_le, Int.cast_ofNat_Int, Int.natCast_nonneg, Int.toNat_natCast, ne_eq, not_false_eq_true, not_true_eq_false, strC, blkAt_app, blkAt_app0, blkAt_zero, blkAt_succ, List.set_cons_zero, List.set_cons_succ, set_app, set_app0, Option.map_some, Option.bind_some, rd, lay, rdS, szOk, rapp, ownAt, lenAt, Option.any_some, Option.getD_some, List.drop_zero, List.drop_succ_cons, List.take_succ_cons, List.take_zero, List.drop_nil, List.take_nil, Nat.reduceLeDiff, Nat.lt_irrefl, Nat.zero_add, Nat.add_zero, Nat.mul_one, Nat.one_mul, Nat.add_assoc, Option.some.injEq, eq_self,  hNs, hrep, hp, hpl2, blkAt_lo, Nat.min_self, hle, hcs2, allMap, hset, List.length_replicate, Nat.le_refl, List.length_map]
  refine ⟨by omega, ?_⟩
  exact go _ _

def cb (u : Nat) : Nat → Nat
  | 0 => 0
  | n + 1 => u % 2 + cb (u / 2) n
theorem cb_add : ∀ (a u b : Nat), cb u (a + b) = cb u a + cb (u / 2 ^ a) b
  | 0, u, b => by simp [cb]
  | a + 1, u, b => by
    rw [show a + 1 + b = (a + b) + 1 by omega, cb, cb, cb_add a, Nat.div_div_eq_div_mul, show 2 * 2 ^ a = 2 ^ (a + 1) by rw [Nat.pow_succ]; omega]
    omega
theorem pop8_cb (v : Nat) : pop8 (v % 256) = cb v 8 := by
  simp only [cb, pop8, Nat.div_div_eq_div_mul, Nat.reduceMul]
  omega
theorem dig_cb : ∀ (k x : Nat), ((dig x k).map pop8).sum = cb x (8 * k)
  | 0, x => rfl
  | k + 1, x => by
    rw [dig, List.map_cons, List.sum_cons, dig_cb k, show 8 * (k + 1) = 8 + 8 * k by omega, cb_add, pop8_cb]
theorem pop_cb (u : Nat) : pop u = cb u 64 := dig_cb 8 u
def wb (n : Int) (t : Nat) : Bool := decide (u64 n / 2 ^ t % 2 = 1)
theorem u64_bit (n : Int) (t : Nat) (ht : t < 64) : ((u64 n / 2 ^ t % 2 : Nat) : Int) = n / 2 ^ t % 2 := by
  have h := u64_mod n
  have e : (18446744073709551616 : Int) = 2 ^ t * (2 ^ (63 - t) * 2) := by
    rw [show (2 : Int) ^ (63 - t) * 2 = 2 ^ (64 - t) by rw [← Int.pow_succ]; congr 1; omega, ← Int.pow_add, show t + (64 - t) = 64 by omega]
    rfl
  have hn : n = (u64 n : Int) + 2 ^ t * (2 ^ (63 - t) * 2 * (n / 18446744073709551616)) := by
    rw [h, ← Int.mul_assoc, ← e]
    omega
  have hp : (2 : Int) ^ t ≠ 0 := Int.pow_ne_zero (by decide)
  have h2 : n / 2 ^ t = (u64 n : Int) / 2 ^ t + (2 ^ (63 - t) * 2 * (n / 18446744073709551616)) := by
    conv => lhs; rw [hn]
    rw [Int.add_mul_ediv_left _ _ hp]
  have h3 : 2 ^ (63 - t) * 2 * (n / 18446744073709551616) = 2 * (2 ^ (63 - t) * (n / 18446744073709551616)) := by
    rw [Int.mul_comm (2 ^ (63 - t)) 2, Int.mul_assoc]
  rw [h2, h3]
  have h4 : ((u64 n / 2 ^ t % 2 : Nat) : Int) = (u64 n : Int) / 2 ^ t % 2 := by push_cast; rfl
  rw [h4]
  omega
theorem bit_wb (d : List Int) (j : Nat) : bit d j = wb (d.getD (j / 60) 0) (j % 60) := by
  have h := u64_bit (d.getD (j / 60) 0) (j % 60) (by omega)
  unfold bit wb
  rw [← h]
  exact decide_eq_decide.2 (by omega)
theorem wb_if (n : Int) (t : Nat) : (if wb n t then 1 else 0) = u64 n / 2 ^ t % 2 := by
  unfold wb
  have := Nat.mod_two_eq_zero_or_one (u64 n / 2 ^ t)
  split <;> simp at * <;> omega
theorem pl_add (d : List Int) : ∀ (a j b : Nat), pl d j (a + b) = pl d j a + pl d (j + a) b
  | 0, j, b => by simp [pl]
  | a + 1, j, b => by
    rw [show a + 1 + b = (a + b) + 1 by omega, pl, pl, pl_add d a, show j + 1 + a = j + (a + 1) by omega]
    omega
theorem pl_word (d : List Int) (i : Nat) : ∀ (m t : Nat), t + m ≤ 60 → pl d (60 * i + t) m = cb (u64 (d.getD i 0) / 2 ^ t) m
  | 0, _, _ => rfl
  | m + 1, t, h => by
    rw [pl, cb, show 60 * i + t + 1 = 60 * i + (t + 1) by omega, pl_word d i m (t + 1) (by omega), bit_wb, show (60 * i + t) / 60 = i by omega, show (60 * i + t) % 60 = t by omega, wb_if, Nat.div_div_eq_div_mul, ← Nat.pow_succ]
theorem ones_take (d : List Int) (n : Nat) (h : n < d.length) : ones (d.take (n + 1)) = ones (d.take n) + pop (u64 (d.getD n 0)) := by
  rw [List.take_add_one, List.getElem?_eq_getElem h, ones_app]
  simp [ones, List.getD_eq_getElem?_getD, List.getElem?_eq_getElem h]
theorem pl_ones (d : List Int) : ∀ (n : Nat), n ≤ d.length → pl d 0 (60 * n) ≤ ones (d.take n)
  | 0, _ => by simp [pl]
  | n + 1, h => by
    have ih := pl_ones d n (by omega)
    have hw := pl_word d n 60 0 (by omega)
    rw [Nat.add_zero, Nat.pow_zero, Nat.div_one] at hw
    rw [show 60 * (n + 1) = 60 * n + 60 by omega, pl_add, ones_take d n (by omega), Nat.zero_add, hw, pop_cb, show 64 = 60 + 4 from rfl, cb_add]
    omega
theorem pl_le (d : List Int) (j : Nat) {a b : Nat} (h : a ≤ b) : pl d j a ≤ pl d j b := by
  obtain ⟨k, rfl⟩ := Nat.le.dest h
  rw [pl_add]
  omega
theorem f44_any {bs d : List Int} {p q oq : Nat} {c1 c2 : Option Nat} {H : Heap} (hp : Sl i64 H p 0 bs) (hq : Sl i64 H q oq d) (hdl : d.length ≤ 100000) (hbl : bs.length ≤ 100000) :
    ACall Try.prog 44 [.sl p 0 bs.length 1 c1, .sl q oq d.length 1 c2] H (rowres (aspec bs d) H) (rowheap (aspec bs d) H) := by
  unfold aspec rowres rowheap
  have g := fun H => f59 bs.length H (by omega)
  by_cases h1 : 600 < bs.length
  · rw [if_pos h1]
    refine call_nilres2 (acall44 (by simp) (acs_start ?_))
    have h1' : (600 : Int) < (bs.length : Int) := by omega
    unfold c44
    simp (maxSteps:=1000000) (disch:=omega) only [go_sem, ↓reduceIte, reduceCtorEq, h1']
    first | refine callB_intro (g _) ?_ | refine callD_intro (g _) ?_ | refine callP_intro (fun _ => (g _)) ?_ | refine callX_pure (g _) ?_
    simp (maxSteps:=1000000) (disch:=omega) only [go_sem, ↓reduceIte, reduceCtorEq, h1']
    exact fin_same (by simp) _ (by first | exact (List.append_nil _).symm | rfl) (by simp (maxSteps:=1000000) (disch:=omega) only [resVal, resAll, resOne, rs44, Env.get, go_sem, ↓reduceIte, reduceCtorEq]) (by simp only [AV.und, AV.unds, and_self])
  rw [if_neg h1]
  by_cases h2 : d.length < (bs.length + 59) / 60
  · rw [if_pos h2]
    refine call_nilres2 (acall44 (by simp) (acs_start ?_))
    have h1' : ¬ (600 : Int) < (bs.length : Int) := by omega
    have h2' : (d.length : Int) < ((bs.length : Int) + 59) / 60 := by omega
    unfold c44
    simp (maxSteps:=1000000) (disch:=omega) only [go_sem, ↓reduceIte, reduceCtorEq, h1']
    first | refine callB_intro (g _) ?_ | refine callD_intro (g _) ?_ | refine callP_intro (fun _ => (g _)) ?_ | refine callX_pure (g _) ?_
    simp (maxSteps:=1000000) (disch:=omega) only [go_sem, ↓reduceIte, reduceCtorEq, h1', h2']
    exact fin_same (by simp) _ (by first | exact (List.append_nil _).symm | rfl) (by simp (maxSteps:=1000000) (disch:=omega) only [resVal, resAll, resOne, rs44, Env.get, go_sem, ↓reduceIte, reduceCtorEq]) (by simp only [AV.und, AV.unds, and_self])
  rw [if_neg h2]
  have hn : ((bs.length : Int) + 59) / 60 = (((bs.length + 59) / 60 : Nat) : Int) := by omega
  have body := fun h h' => f44_body (c1 := c1) (c2 := c2) hp hq (by omega) hdl (by omega) h h'
  have hpo := Nat.le_trans (pl_le d 0 (show bs.length ≤ 60 * ((bs.length + 59) / 60) by omega)) (pl_ones d ((bs.length + 59) / 60) (by omega))
  have gq := hq.take ((bs.length + 59) / 60)
  have gt : (d.take ((bs.length + 59) / 60)).length = (bs.length + 59) / 60 := by simp; omega
  generalize hN : (bs.length + 59) / 60 = N at *
  have g20 := fun c => f65 (c := c) gq (by omega)
  rw [gt] at g20
  by_cases h3 : ones (d.take N) = d.length - N
  · rw [if_neg (by simp [h3])]
    have body := body h3 (by omega)
    generalize ap d bs 0 (d.drop N) [] = R at *
    cases R with
    | none => exact call_nilres2 (acall44 (by simp) body)
    | some R => exact acallW (fun v' h => acall44 (by simp) h) body
  · rw [if_pos h3]
    have h1' : ¬ (600 : Int) < (bs.length : Int) := by omega
    have h2' : ¬ (d.length : Int) < (N : Int) := by omega
    have hNd : (N : Int) ≤ (d.length : Int) := by omega
    have hNs : ((d.length : Int) - (N : Int)).toNat = d.length - N := by omega
    have h3' : ¬ ((ones (d.take N) : Nat) : Int) = ((d.length - N : Nat) : Int) := by omega
    refine call_nilres2 (acall44 (by simp) (acs_start ?_))
    generalize ones (d.take N) = O at *
    unfold c44
    rw [hn] at g
    simp (maxSteps:=1000000) (disch:=omega) only [go_sem, ↓reduceIte, reduceCtorEq, h1']
    first | refine callB_intro (g _) ?_ | refine callD_intro (g _) ?_ | refine callP_intro (fun _ => (g _)) ?_ | refine callX_pure (g _) ?_
    simp (maxSteps:=1000000) (disch:=omega) only [go_sem, ↓reduceIte, reduceCtorEq, h1', h2', hNd]
    refine ⟨Int.le_refl _, ?_⟩
    first | refine callB_intro (g20 _) ?_ | refine callD_intro (g20 _) ?_ | refine callP_intro (fun _ => (g20 _)) ?_ | refine callX_pure (g20 _) ?_
    simp (maxSteps:=1000000) (disch:=omega) only [go_sem, ↓reduceIte, reduceCtorEq, hNs, h3']
    exact fin_same (by simp) _ (by first | exact (List.append_nil _).symm | rfl) (by simp (maxSteps:=1000000) (disch:=omega) only [resVal, resAll, resOne, rs44, Env.get, go_sem, ↓reduceIte, reduceCtorEq]) (by simp only [AV.und, AV.unds, and_self])

def mkw (β : Nat → Bool) (s : Nat) : Nat → Nat
  | 0 => 0
  | c + 1 => mkw β s c + (if β (s + c) then 2 ^ c else 0)
def msk (β : Nat → Bool) (n j : Nat) : List Int := (List.range n).map fun i => ((mkw β (60 * i) (min 60 (j - 60 * i)) : Nat) : Int)
def chg : List Int → List Int → List Int
  | b :: bs, n :: ns => if n = b then chg bs ns else n :: chg bs ns
  | _, _ => []
theorem mkw_lt (β : Nat → Bool) (s : Nat) : ∀ (c : Nat), mkw β s c < 2 ^ c
  | 0 => by simp [mkw]
  | c + 1 => by
    have := mkw_lt β s c
    rw [mkw, Nat.pow_succ]
    split <;> omega
theorem orb_add {x j : Nat} (h : x < 2 ^ (j % 60)) : orb (x : Int) j = ((x + 2 ^ (j % 60) : Nat) : Int) := by
  have hp : 2 ^ (j % 60) ≤ 2 ^ 59 := Nat.pow_le_pow_right (by decide) (by omega)
  have em : min (j % 60) IntKind.i64.bits = j % 60 := by
    have : IntKind.i64.bits = 64 := rfl
    omega
  have e1 : (1 : Int) * 2 ^ (j % 60) = ((2 ^ (j % 60) : Nat) : Int) := by push_cast; omega
  unfold orb
  rw [em, e1]
  generalize hP : 2 ^ (j % 60) = P at *
  have e2 : IntKind.i64.wrap (P : Int) = (P : Int) := i64_in _ (by omega)
  rw [e2]
  have e3 : (BitVec.ofInt IntKind.i64.bits (x : Int) ||| BitVec.ofInt IntKind.i64.bits (P : Int)).toNat = x + P := by
    show (BitVec.ofInt 64 (x : Int) ||| BitVec.ofInt 64 (P : Int)).toNat = _
    rw [BitVec.toNat_or, BitVec.ofInt_natCast, BitVec.ofInt_natCast, BitVec.toNat_ofNat, BitVec.toNat_ofNat, Nat.mod_eq_of_lt (by omega), Nat.mod_eq_of_lt (by omega)]
    have := Nat.two_pow_add_eq_or_of_lt (i := j % 60) (b := x) (by omega) 1
    rw [hP, Nat.mul_one] at this
    rw [Nat.or_comm, ← this]
    omega
  rw [e3, i64_in _ (by omega)]
theorem msk_len (β : Nat → Bool) (n j : Nat) : (msk β n j).length = n := by simp [msk]
theorem msk_get (β : Nat → Bool) {n j i : Nat} (h : i < n) : (msk β n j)[i]? = some ((mkw β (60 * i) (min 60 (j - 60 * i)) : Nat) : Int) := by
  simp [msk, h]
theorem msk_step (β : Nat → Bool) (n j : Nat) (h : j < 60 * n) : msk β n (j + 1) = if β j then (msk β n j).set (j / 60) ((mkw β (60 * (j / 60)) (j % 60) + 2 ^ (j % 60) : Nat) : Int) else msk β n j := by
  apply List.ext_getElem?
  intro i
  by_cases hi : i < n
  · rw [msk_get β hi]
    by_cases he : i = j / 60
    · subst he
      have e1 : min 60 (j + 1 - 60 * (j / 60)) = j % 60 + 1 := by omega
      have e2 : min 60 (j - 60 * (j / 60)) = j % 60 := by omega
      have e3 : 60 * (j / 60) + j % 60 = j := by omega
      rw [e1, mkw, e3]
      cases hb : β j with
      | true => rw [if_pos rfl, if_pos rfl, List.getElem?_set_self (by rw [msk_len]; exact hi)]
      | false => simp only [Bool.false_eq_true, if_false]; rw [msk_get β hi, e2, Nat.add_zero]
    · have e1 : min 60 (j + 1 - 60 * i) = min 60 (j - 60 * i) := by omega
      rw [e1]
      split
      · rw [List.getElem?_set_ne (by omega), msk_get β hi]
      · rw [msk_get β hi]
  · rw [List.getElem?_eq_none (by rw [msk_len]; omega)]
    split
    · rw [List.getElem?_eq_none (by rw [List.length_set, msk_len]; omega)]
    · rw [List.getElem?_eq_none (by rw [msk_len]; omega)]
theorem dif_eq (β : Nat → Bool) (n : Nat) : ∀ (rb rn ch : List Int) (j : Nat), rb.length = rn.length → j + rn.length ≤ 60 * n → (∀ t, t < rn.length → β (j + t) = decide (rn.getD t 0 ≠ rb.getD t 0)) →
    dif (msk β n j ++ ch, j) rb rn = msk β n (j + rn.length) ++ (ch ++ chg rb rn)
  | [], [], ch, j, _, _, _ => by simp [dif, chg]
  | [], _ :: _, ch, j, h, _, _ => by simp at h
  | _ :: _, [], ch, j, h, _, _ => by simp at h
  | b :: rb, x :: rn, ch, j, h, hj, hβ => by
    rw [List.length_cons] at hj
    have hlt : j / 60 < n := by omega
    have h0 : β j = decide (x ≠ b) := by simpa using hβ 0 (by simp)
    have hβ2 : ∀ t, t < rn.length → β (j + 1 + t) = decide (rn.getD t 0 ≠ rb.getD t 0) := by
      intro t ht
      have := hβ (t + 1) (by simp; omega)
      rw [show j + (t + 1) = j + 1 + t by omega] at this
      simpa using this
    have st := msk_step β n j (by omega)
    have ih := fun ch => dif_eq β n rb rn ch (j + 1) (by simpa using h) (by omega) hβ2
    rw [dif, List.length_cons, show j + (rn.length + 1) = j + 1 + rn.length by omega, chg]
    by_cases he : x = b
    · rw [if_pos he, if_pos he, ← ih]
      have : β j = false := by rw [h0]; simp [he]
      rw [this] at st
      simp only [Bool.false_eq_true, if_false] at st
      rw [st]
    · rw [if_neg he, if_neg he]
      have hb : β j = true := by rw [h0]; simp [he]
      rw [hb, if_pos rfl] at st
      have hm : (msk β n j ++ ch).getD (j / 60) 0 = ((mkw β (60 * (j / 60)) (j % 60) : Nat) : Int) := by
        rw [List.getD_eq_getElem?_getD, List.getElem?_append_left (by rw [msk_len]; exact hlt), msk_get β hlt, show min 60 (j - 60 * (j / 60)) = j % 60 by omega]
        rfl
      rw [hm, orb_add (mkw_lt _ _ _), List.set_append_left _ _ (by rw [msk_len]; exact hlt), ← st, List.append_assoc, ih]
      simp
theorem diff_eq {bs ns : List Int} (h : bs.length = ns.length) : diff bs ns = msk (fun j => decide (ns.getD j 0 ≠ bs.getD j 0)) ((ns.length + 59) / 60) ns.length ++ chg bs ns := by
  have e : ∀ β n, msk β n 0 = List.replicate n 0 := by
    intro β n
    apply List.ext_getElem?
    intro i
    by_cases hi : i < n
    · rw [msk_get β hi, Nat.zero_sub, Nat.min_zero]
      simp [mkw, hi]
    · rw [List.getElem?_eq_none (by rw [msk_len]; omega), List.getElem?_eq_none (by simp; omega)]
  have := dif_eq (fun j => decide (ns.getD j 0 ≠ bs.getD j 0)) ((ns.length + 59) / 60) bs ns [] 0 h (by omega) (fun t ht => by simp)
  rw [List.append_nil, e, Nat.zero_add, List.nil_append] at this
  exact this

def jj (L i : Nat) : Nat := min L (60 * (i / 64) + min (i % 64) 60)
def stray (L : Nat) (d : List Int) : Nat → Nat → Nat
  | 0, _ => 0
  | m + 1, i => (if 60 ≤ i % 64 ∨ L ≤ 60 * (i / 64) + i % 64 then (if wb (d.getD (i / 64) 0) (i % 64) then 1 else 0) else 0) + stray L d m (i + 1)
def sb (d : List Int) : Nat → Nat → Nat
  | 0, _ => 0
  | m + 1, i => (if wb (d.getD (i / 64) 0) (i % 64) then 1 else 0) + sb d m (i + 1)
theorem jj_stray {L i : Nat} (h : 60 ≤ i % 64 ∨ L ≤ 60 * (i / 64) + i % 64) : jj L (i + 1) = jj L i := by unfold jj; omega
theorem jj_place {L i : Nat} (h : ¬ (60 ≤ i % 64 ∨ L ≤ 60 * (i / 64) + i % 64)) : jj L i = 60 * (i / 64) + i % 64 ∧ jj L (i + 1) = 60 * (i / 64) + i % 64 + 1 := by unfold jj; omega
theorem drop_getD {l : List Int} {j : Nat} (h : j < l.length) : l.drop j = l.getD j 0 :: l.drop (j + 1) := by
  rw [List.drop_eq_getElem_cons h]
  simp [List.getD_eq_getElem?_getD, List.getElem?_eq_getElem h]
theorem bit_place (d : List Int) {i : Nat} (h : i % 64 < 60) : bit d (60 * (i / 64) + i % 64) = wb (d.getD (i / 64) 0) (i % 64) := by
  rw [bit_wb, show (60 * (i / 64) + i % 64) / 60 = i / 64 by omega, show (60 * (i / 64) + i % 64) % 60 = i % 64 by omega]
theorem ap_cons (d : List Int) (b : Int) (r : List Int) (j : Nat) (ws acc : List Int) : ap d (b :: r) j ws acc = if bit d j then (match ws with | [] => none | w :: ws => if w = b then none else ap d r (j + 1) ws (acc ++ [w])) else ap d r (j + 1) ws (acc ++ [b]) := by
  cases ws <;> rfl
theorem ap_pl (d : List Int) : ∀ (r : List Int) (j : Nat) (ws acc R : List Int), ap d r j ws acc = some R → pl d j r.length = ws.length
  | [], j, ws, acc, R, h => by
    rw [ap] at h
    cases ws with
    | nil => rfl
    | cons w ws => simp at h
  | b :: r, j, ws, acc, R, h => by
    rw [ap_cons] at h
    rw [List.length_cons, pl]
    cases hb : bit d j with
    | false =>
      simp only [hb, Bool.false_eq_true, if_false] at h
      have := ap_pl d r _ _ _ _ h
      simpa using this
    | true =>
      simp only [hb, if_true] at h
      cases ws with
      | nil => cases h
      | cons w ws =>
        by_cases he : w = b
        · simp [he] at h
        · simp only [if_neg he] at h
          have := ap_pl d r _ _ _ _ h
          simp [this]
          omega
theorem sb_add (d : List Int) : ∀ (a i b : Nat), sb d (a + b) i = sb d a i + sb d b (i + a)
  | 0, i, b => by simp [sb]
  | a + 1, i, b => by
    rw [show a + 1 + b = (a + b) + 1 by omega, sb, sb, sb_add d a, show i + 1 + a = i + (a + 1) by omega]
    omega
theorem sb_word (d : List Int) (i : Nat) : ∀ (m t : Nat), t + m ≤ 64 → sb d m (64 * i + t) = cb (u64 (d.getD i 0) / 2 ^ t) m
  | 0, _, _ => rfl
  | m + 1, t, h => by
    rw [sb, cb, show 64 * i + t + 1 = 64 * i + (t + 1) by omega, sb_word d i m (t + 1) (by omega), show (64 * i + t) / 64 = i by omega, show (64 * i + t) % 64 = t by omega, wb_if, Nat.div_div_eq_div_mul, ← Nat.pow_succ]
theorem sb_ones (d : List Int) : ∀ (n : Nat), n ≤ d.length → sb d (64 * n) 0 = ones (d.take n)
  | 0, _ => by simp [sb, ones]
  | n + 1, h => by
    have ih := sb_ones d n (by omega)
    have hw := sb_word d n 64 0 (by omega)
    rw [Nat.add_zero, Nat.pow_zero, Nat.div_one] at hw
    rw [show 64 * (n + 1) = 64 * n + 64 by omega, sb_add, ones_take d n (by omega), Nat.zero_add, hw, pop_cb, ih]
theorem pl_stray (L : Nat) (d : List Int) (n : Nat) (hL : L ≤ 60 * n) : ∀ (m i : Nat), i + m = 64 * n → pl d (jj L i) (L - jj L i) + stray L d m i = sb d m i
  | 0, i, hi => by
    have hj : jj L i = L := by unfold jj; omega
    rw [hj, stray, sb, Nat.sub_self, pl]
  | m + 1, i, hi => by
    have ih := pl_stray L d n hL m (i + 1) (by omega)
    rw [stray, sb, ← ih]
    by_cases hs : 60 ≤ i % 64 ∨ L ≤ 60 * (i / 64) + i % 64
    · rw [if_pos hs, jj_stray hs]
      omega
    · rw [if_neg hs]
      obtain ⟨j1, j2⟩ := jj_place hs
      have hb := bit_place d (i := i) (by omega)
      rw [j1, j2, show L - (60 * (i / 64) + i % 64) = (L - (60 * (i / 64) + i % 64 + 1)) + 1 by omega, pl, hb]
      omega

theorem chg_len : ∀ (rb rn : List Int), (chg rb rn).length = cnt rb rn := by
  intro rb
  induction rb with
  | nil => intro rn; cases rn <;> rfl
  | cons b rb ih =>
    intro rn
    cases rn with
    | nil => rfl
    | cons n rn =>
      rw [chg, cnt]
      by_cases h : n = b
      · rw [if_pos h, if_pos h.symm, ih, Nat.zero_add]
      · rw [if_neg h, if_neg (fun e => h e.symm), List.length_cons, ih]
        omega
def MarksB (β : Nat → Bool) (j : Nat) (rb rn : List Int) : Prop := ∀ t, t < rn.length → β (j + t) = decide (rn.getD t 0 ≠ rb.getD t 0)
theorem ap_marks (d : List Int) : ∀ (r : List Int) (j : Nat) (ws acc R : List Int), ap d r j ws acc = some R → ∃ rn, R = acc ++ rn ∧ r.length = rn.length ∧ chg r rn = ws ∧ MarksB (bit d) j r rn
  | [], j, ws, acc, R, h => by
    rw [ap] at h
    cases ws with
    | nil => simp at h; exact ⟨[], by simp [h], rfl, rfl, by intro t ht; simp at ht⟩
    | cons w ws => simp at h
  | b :: r, j, ws, acc, R, h => by
    rw [ap_cons] at h
    have mk : ∀ (n : Int) (rn : List Int), bit d j = decide (n ≠ b) → MarksB (bit d) (j + 1) r rn → MarksB (bit d) j (b :: r) (n :: rn) := by
      intro n rn h0 h1 t ht
      cases t with
      | zero => simpa using h0
      | succ t =>
        have := h1 t (by simpa using ht)
        rw [show j + 1 + t = j + (t + 1) by omega] at this
        simpa using this
    cases hb : bit d j with
    | false =>
      simp only [hb, Bool.false_eq_true, if_false] at h
      obtain ⟨rn, rfl, h2, h3, h4⟩ := ap_marks d r _ _ _ _ h
      exact ⟨b :: rn, by simp, by simp [h2], by simp [chg, h3], mk _ _ (by simp [hb]) h4⟩
    | true =>
      simp only [hb, if_true] at h
      cases ws with
      | nil => cases h
      | cons w ws =>
        by_cases he : w = b
        · simp [he] at h
        · simp only [if_neg he] at h
          obtain ⟨rn, rfl, h2, h3, h4⟩ := ap_marks d r _ _ _ _ h
          exact ⟨w :: rn, by simp, by simp [h2], by simp [chg, h3, he], mk _ _ (by simp [hb, he]) h4⟩

def JI (H : Heap) (ws : List Int) (k : Nat) (w : AV) (X : Heap) : Prop := Ext H X ∧ (k = 0 ∧ w = .nils ∨ ∃ q, (0 < k ∧ H.length ≤ q) ∧ w = .sl q 0 (8 * k) 1 none ∧ blkAt X q = some ⟨(ws.take (8 * k)).map (AV.int .i64), true⟩)
def jo (K L : Nat) (p : Nat) (cp : Option Nat) (n : Int) (k : Nat) (w : AV) : Env := [(1, .int .i64 n), (6, w), (20, .sl p L K 8 cp), (21, .int .i64 (K : Int)), (22, .int .i64 (k : Int))]
theorem f43_round {H : Heap} {ws : List Int} {k K p off : Nat} {cs : List AV} {cp : Option Nat} {n : Int} {w : AV} {X : Heap} {Q : Post} {fs : List Fr} {o : Bool} (d : JI H ws k w X) (hp : blkAt H p = some ⟨cs, o⟩) (hcs : (cs.drop off).take (8 * K) = ws.map (AV.int .i64)) (hk : k < K) (hK : ws.length = 8 * K) (hl : K ≤ 1000000)
    (hq : ∀ w' X', JI H ws (k + 1) w' X' → acs Try.prog (.lp c43l1 :: fs) (jo K off p cp n (k + 1) w') X' Q) :
    acs Try.prog (.lp c43l1 :: fs) (jo K off p cp n k w) X Q := by
  obtain ⟨he, h2⟩ := d
  have hp' := he.blk hp
  have lp := blkAt_lt hp'
  have hlt : (k : Int) < (K : Int) := by omega
  obtain ⟨y0, y1, y2, y3, y4, y5, y6, y7, hy⟩ : ∃ y0 y1 y2 y3 y4 y5 y6 y7, (ws.drop (8 * k)).take 8 = [y0, y1, y2, y3, y4, y5, y6, y7] := by
    have hle : ((ws.drop (8 * k)).take 8).length = 8 := by simp; omega
    generalize (ws.drop (8 * k)).take 8 = z at hle ⊢
    match z, hle with
    | [a, b, c, d, e, f, g, h], _ => exact ⟨_, _, _, _, _, _, _, _, rfl⟩
  have hsp : ws.take (8 * (k + 1)) = ws.take (8 * k) ++ [y0, y1, y2, y3, y4, y5, y6, y7] := by rw [← hy, show 8 * (k + 1) = 8 * k + 8 by omega, List.take_add]
  have hrd : List.take 8 (List.drop (off + k * 8) cs) = [AV.int .i64 y0, AV.int .i64 y1, AV.int .i64 y2, AV.int .i64 y3, AV.int .i64 y4, AV.int .i64 y5, AV.int .i64 y6, AV.int .i64 y7] := by
    have h1 : List.take 8 (List.drop (8 * k) (ws.map (AV.int .i64))) = [AV.int .i64 y0, AV.int .i64 y1, AV.int .i64 y2, AV.int .i64 y3, AV.int .i64 y4, AV.int .i64 y5, AV.int .i64 y6, AV.int .i64 y7] := by rw [← List.map_drop, ← List.map_take, hy]; rfl
    rw [← hcs, List.drop_take, List.take_take, List.drop_drop, show min 8 (8 * K - 8 * k) = 8 by omega] at h1
    rw [show off + k * 8 = off + 8 * k by omega]
    exact h1
  have hle : off + (k * 8 + 8) ≤ cs.length := by
    have h1 := congrArg List.length hcs
    rw [List.length_take, List.length_drop, List.length_map, hK] at h1
    omega
  have hbig : (8 * k + 8) * 8 ≤ 140737488355328 := by omega
  have h8 : 8 * (k + 1) = 8 * k + 8 := by omega
  have hsp2 : (ws.take (8 * (k + 1))).map (AV.int .i64) = (ws.take (8 * k)).map (AV.int .i64) ++ [AV.int .i64 y0, AV.int .i64 y1, AV.int .i64 y2, AV.int .i64 y3, AV.int .i64 y4, AV.int .i64 y5, AV.int .i64 y6, AV.int .i64 y7] := by rw [hsp, List.map_append]; rfl
  unfold jo at *
  clear hcs
  rw [acs_lp]; conv in Fr.code c43l1 => unfold c43l1
  rcases h2 with ⟨rfl, rfl⟩ | ⟨q, h3, rfl, h5⟩
  · have hlt0 : (0 : Int) < (K : Int) := by omega
    simp only [Nat.mul_zero, Nat.zero_mul, Nat.zero_add, Nat.add_zero, Nat.mul_one, List.take_zero, List.map_nil, List.nil_append] at hrd hle hsp2
    simp (maxSteps:=1000000) (disch:=omega) only [go_sem, ↓reduceIte, reduceCtorEq, hp', lp, blkAt_lo, set_lo, hlt0, hrd, hle]
    refine hq _ _ ⟨he.to _, .inr ⟨X.length + 1, ⟨by omega, by have := he.len; omega⟩, rfl, ?_⟩⟩
    rw [blkAt_app, hsp2]
    rfl
  · have lq := blkAt_lt h5
    have hlP : ((ws.take (8 * k)).map (AV.int .i64)).length = 8 * k := by simp; omega
    have hP0 : List.take (8 * k) ((ws.take (8 * k)).map (AV.int .i64)) = (ws.take (8 * k)).map (AV.int .i64) := by rw [List.take_of_length_le (by rw [hlP]; exact Nat.le_refl _)]
    generalize (ws.take (8 * k)).map (AV.int .i64) = P at *
    simp (maxSteps:=1000000) (disch:=omega) only [go_sem, ↓reduceIte, reduceCtorEq, hp', lp, h5, lq, blkAt_lo, set_lo, hlt, hrd, hle, hbig, hlP, hP0, Nat.le_refl]
    have hq2 := hq (.sl (X.length + 1) 0 (8 * k + 8) 1 none) (X.set q none ++ [some ⟨[AV.int .i64 y0, AV.int .i64 y1, AV.int .i64 y2, AV.int .i64 y3, AV.int .i64 y4, AV.int .i64 y5, AV.int .i64 y6, AV.int .i64 y7], true⟩, some ⟨P ++ [AV.int .i64 y0, AV.int .i64 y1, AV.int .i64 y2, AV.int .i64 y3, AV.int .i64 y4, AV.int .i64 y5, AV.int .i64 y6, AV.int .i64 y7], true⟩]) ⟨(he.set (by omega) _).to _, .inr ⟨X.length + 1, ⟨by omega, by have := he.len; omega⟩, by rw [h8], ?_⟩⟩
    · exact hq2
    · rw [show X.length + 1 = (X.set q none).length + 1 by rw [List.length_set], blkAt_app, hsp2]
      rfl
theorem f43_join {H : Heap} {ws : List Int} {K p off : Nat} {cs : List AV} {cp : Option Nat} {n : Int} {Q : Post} {fs : List Fr} {o : Bool} (hp : blkAt H p = some ⟨cs, o⟩) (hcs : (cs.drop off).take (8 * K) = ws.map (AV.int .i64)) (hK : ws.length = 8 * K) (hl : K ≤ 1000000)
    (hq : ∀ w' X', JI H ws K w' X' → leave Try.prog 0 fs [(1, .int .i64 n), (6, w')] X' Q) :
    ∀ (r k : Nat) (w : AV) (X : Heap), k + r = K → JI H ws k w X → acs Try.prog (.lp c43l1 :: fs) (jo K off p cp n k w) X Q := by
  intro r
  induction r with
  | zero =>
    intro k w X hr d
    have hge : ¬ (k : Int) < (K : Int) := by omega
    obtain rfl : k = K := by omega
    unfold jo
    rw [acs_lp]; conv in Fr.code c43l1 => unfold c43l1
    simp (maxSteps:=1000000) (disch:=omega) only [go_sem, ↓reduceIte, reduceCtorEq, hge]
    exact hq _ _ d
  | succ r ih =>
    intro k w X hr d
    exact f43_round d hp hcs (by omega) hK hl fun w' X' d' => ih (k + 1) w' X' (by omega) d'
theorem f43_rest {X : Heap} {zs : List Int} {q N m : Nat} {cq : Option Nat} {Q : Post} {fs : List Fr} {w : AV} {n : Int} (hs : Sl i64 X q N zs) (hz : ∀ z ∈ zs, z = 0) (hm : zs.length = m) (hl : m ≤ 1000000)
    (hq : leave Try.prog 2 fs [(1, .int .i64 n), (6, w)] X Q) :
    ∀ (r k : Nat), k + r = m → acs Try.prog (.lp c43l0 :: fs) [(1, .int .i64 n), (6, w), (32, .sl q N m 1 cq), (33, .int .i64 (m : Int)), (34, .int .i64 (k : Int))] X Q := by
  intro r
  obtain ⟨cs, o, hp, hle, hcs⟩ := hs
  induction r with
  | zero =>
    intro k hr
    have hge : ¬ (k : Int) < (m : Int) := by omega
    rw [acs_lp]; conv in Fr.code c43l0 => unfold c43l0
    simp (maxSteps:=1000000) (disch:=omega) only [go_sem, ↓reduceIte, reduceCtorEq, hge]
    exact hq
  | succ r ih =>
    intro k hr
    have hlt : (k : Int) < (m : Int) := by omega
    have hkz : zs[k]? = some 0 := by
      have : zs[k]? = some zs[k] := List.getElem?_eq_getElem (by omega)
      rw [this, hz _ (List.getElem_mem _)]
    have hc : cs[N + k]? = some (.int .i64 0) := by
      have h := congrArg (·[k]?) hcs
      simp only [List.getElem?_take, List.getElem?_drop, List.getElem?_map, hkz] at h
      rw [if_pos (by omega)] at h
      simpa [i64] using h
    rw [acs_lp]; conv in Fr.code c43l0 => unfold c43l0
    simp (maxSteps:=1000000) (disch:=omega) only [go_sem, ↓reduceIte, reduceCtorEq, hlt, hp, hc]
    exact ih (k + 1) (by omega)
theorem f43 {H : Heap} {ws : List Int} {K p N off : Nat} {cs : List AV} {cp : Option Nat} {o : Bool} (hp : blkAt H p = some ⟨cs, o⟩) (hcs : (cs.drop off).take (8 * K) = ws.map (AV.int .i64)) (hK : ws.length = 8 * K) (hl : K ≤ 1000000) (hN : (N + 7) / 8 = K) (h0 : 0 < N) (hz : ∀ z ∈ ws.drop N, z = 0) :
    ACallE Try.prog 43 [.sl p off K 8 cp, .int .i64 (N : Int)] H fun v H' => ∃ w, v = .tup [w, .int .i64 0] ∧ Rw i64 H' w (ws.take N) := by
  refine acallE (fun v Hf h => acallK43 (by simp) h) (acs_start ?_)
  have g := fun G => f63 (N : Int) G (by omega)
  have e : ((N : Int) + 7) / 8 = (K : Int) := by omega
  rw [e] at g
  have hn : ¬ (N : Int) < 0 := by omega
  unfold c43
  simp (maxSteps:=1000000) (disch:=omega) only [go_sem, ↓reduceIte, reduceCtorEq, hn]
  first | refine callB_intro (g _) ?_ | refine callD_intro (g _) ?_ | refine callP_intro (fun _ => (g _)) ?_ | refine callX_pure (g _) ?_
  simp (maxSteps:=1000000) (disch:=omega) only [go_sem, ↓reduceIte, reduceCtorEq]
  have j := f43_join (n := (N : Int)) (cp := cp) (fs := ?_) (Q := ?_) hp hcs hK hl ?_ K 0 .nils H (by omega) ⟨Ext.refl _, .inl ⟨rfl, rfl⟩⟩
  · exact j
  intro w X d
  obtain ⟨he, h2⟩ := d
  rcases h2 with ⟨h3, _⟩ | ⟨q, h3, rfl, h5⟩
  · omega
  have h8 : (N : Int) ≤ ((8 * K : Nat) : Int) := by omega
  have h9 : N ≤ 8 * K := by omega
  rw [List.take_of_length_le (by omega)] at h5
  have s1 : Sl i64 X q 0 ws := Sl.whole (o := true) h5
  have s2 := s1.drop (n := N) (by omega)
  rw [Nat.zero_add] at s2
  simp (maxSteps:=1000000) (disch:=omega) only [go_sem, ↓reduceIte, reduceCtorEq, h8, h9]
  refine f43_rest s2 hz (by simp; omega) (by omega) ?_ (8 * K - N) 0 (by omega)
  simp (maxSteps:=1000000) (disch:=omega) only [go_sem, ↓reduceIte, reduceCtorEq, h8, h9]
  have hr := Rw.mk (f := i64) (off := 0) none (s1.take N)
  rw [List.length_take, show min N ws.length = N by omega] at hr
  refine fin_e (by simp) (by simp (maxSteps:=1000000) (disch:=omega) only [resVal, resAll, resOne, rs43, Env.get, go_sem, ↓reduceIte, reduceCtorEq] <;> rfl) he ⟨_, rfl, hr⟩

structure Tk.sq (t : Tk) (x0 x1 x2 p0 p1 p2 p3 p4 p5 : Int) : Prop where
  xr : t.xr = 3
  xc : t.xc = 1
  xl : t.xl = [x0, x1, x2]
  pr : t.pr = 3
  pc : t.pc = 3
  pl : t.pl = [p0, p1, p2, p1, p3, p4, p2, p4, p5]
theorem Tk.eqv.trk {t u : Tk} (h : t.eqv u) : trkB t = trkB u := by
  unfold trkB
  rw [h.xr, h.xc, h.xl, h.pr, h.pc, h.pl]
theorem Es.eqv.est {e f : Es} (h : e.eqv f) : estB e = estB f := by
  unfold estB
  obtain ⟨⟨a1, a2, a3, a4⟩, ha, hb, hc, b1, b2, b3, b4, b5, b6, b7⟩ := h
  rw [ha.trk, hb.trk, hc.trk, ha.xr, hb.xr, hc.xr, a1, a2, a3, a4, b1, b2, b3, b4, b5, b6]
structure Es.far (e : Es) (n : Nat) : Prop where
  ax : n ≤ e.a.xp
  ap : n ≤ e.a.pp
  bx : n ≤ e.b.xp
  bp : n ≤ e.b.pp
  cx : n ≤ e.c.xp
  cp : n ≤ e.c.pp
theorem Es.ok.setF {e : Es} {X : Heap} {b n : Nat} (h : e.ok X) (hf : e.far n) (hb : b < n) (x : Option Blk) : e.ok (X.set b x) := by
  obtain ⟨h1, h2, h3, h4, h5, h6⟩ := hf
  exact ⟨h.ha.set (by omega) (by omega) x, h.hb.set (by omega) (by omega) x, h.hc.set (by omega) (by omega) x⟩
theorem hb66 : hasBody Try.prog 66 = true := by kernel_rfl
theorem f66 {W : List Int} {x : Int} {b4 b1 p off j n : Nat} {cp : Option Nat} {H : Heap} (h4 : blkAt H b4 = some ⟨[.int .i64 (j : Int)], true⟩) (h1 : blkAt H b1 = some ⟨[.sl p off n 1 cp], true⟩) (hs : Sl i64 H p off W) (hn : n = W.length) (hne : p ≠ b4) (hne1 : b1 ≠ b4) (hx : W[j]? = some x) (hj : j < 100) :
    ACall Try.prog 66 [.ptr b4 0, .ptr b1 0] H (.int .i64 x) (H.set b4 (some ⟨[.int .i64 ((j : Int) + 1)], true⟩)) := by
  subst hn
  obtain ⟨cs, o, hp, hle, hcs⟩ := hs
  have hjl : j < W.length := by
    rcases Nat.lt_or_ge j W.length with h | h
    · exact h
    · rw [List.getElem?_eq_none h] at hx; cases hx
  have l4 := blkAt_lt h4
  have s4 := blkAt_set_self l4 (some ⟨[.int .i64 ((j : Int) + 1)], true⟩)
  have s1 := (blkAt_set_ne (H := H) (Ne.symm hne1) (some ⟨[AV.int .i64 ((j : Int) + 1)], true⟩)).trans h1
  have sp := (blkAt_set_ne (H := H) (Ne.symm hne) (some ⟨[AV.int .i64 ((j : Int) + 1)], true⟩)).trans hp
  have fx : cs[off + j]? = some (.int .i64 x) := sl_get hcs hx
  have e1 : (j : Int) + 1 - 1 = (j : Int) := by omega
  have jl : (j : Int) < (W.length : Int) := by omega
  refine acallK66 (by simp) (acs_start ?_)
  unfold c66
  simp (maxSteps:=1000000) (disch:=omega) only [go_sem, ↓reduceIte, reduceCtorEq, h4, s4, s1, sp, fx, e1, jl]
  exact ⟨.inr rfl, rfl, rfl⟩

def fi (f : Nat → Bool) : Nat → Nat → Int
  | _, 0 => -1
  | k, r + 1 => if f k then fi f (k + 1) r else (k : Int)
theorem fi_all (f : Nat → Bool) : ∀ (r k : Nat), (∀ j, k ≤ j → j < k + r → f j = true) → fi f k r = -1
  | 0, _, _ => rfl
  | r + 1, k, h => by
    rw [fi, if_pos (h k (by omega) (by omega))]
    exact fi_all f r (k + 1) fun j h1 h2 => h j (by omega) (by omega)
theorem fi_some (f : Nat → Bool) : ∀ (r k : Nat), (∃ j, k ≤ j ∧ j < k + r ∧ f j = false) → 0 ≤ fi f k r
  | 0, k, ⟨j, h1, h2, _⟩ => by omega
  | r + 1, k, ⟨j, h1, h2, h3⟩ => by
    rw [fi]
    split
    · rename_i hk
      refine fi_some f r (k + 1) ⟨j, ?_, by omega, h3⟩
      rcases Nat.lt_or_ge k j with h | h
      · omega
      · obtain rfl : j = k := by omega
        rw [hk] at h3; cases h3
    · omega
def c64t : SC := tl2 (tl2 c64)
theorem f64_loop {b off n : Nat} {cp : Option Nat} {cs : List AV} {o : Bool} {f : Nat → Bool} {H : Heap} (hb : blkAt H b = some ⟨cs, o⟩) (hf : ∀ j, j < n → cs[off + j]? = some (.bool (f j))) (hn : n ≤ 1000) : ∀ (r k : Nat), k + r = n →
    acs Try.prog [.lp c64l0, .blk 0, .code c64t] [(0, .sl b off n 1 cp), (1, .bool false), (7, .int .i64 (n : Int)), (8, .int .i64 (k : Int))] H (Fin H rs64 (.int .i64 (fi f k r)) H) := by
  intro r
  induction r with
  | zero =>
    intro k hk
    have hge : ¬ (k : Int) < (n : Int) := by omega
    rw [show fi f k 0 = -1 from rfl]
    rw [acs_lp]; conv in Fr.code c64l0 => unfold c64l0
    simp (maxSteps:=1000000) (disch:=omega) only [go_sem, ↓reduceIte, reduceCtorEq, hge]
    unfold c64t c64 tl2
    simp (maxSteps:=1000000) (disch:=omega) only [go_sem, ↓reduceIte, reduceCtorEq]
    exact fin_ext (by simp) (Ext.refl _) (by simp (maxSteps:=1000000) (disch:=omega) only [resVal, resAll, resOne, rs64, Env.get, go_sem, ↓reduceIte, reduceCtorEq]) (by simp only [AV.und, AV.unds, and_self])
  | succ r ih =>
    intro k hk
    have hlt : (k : Int) < (n : Int) := by omega
    have hlt2 : k < n := by omega
    have fk := hf k hlt2
    have k1 : (k : Int) + 1 = ((k + 1 : Nat) : Int) := by omega
    have next := ih (k + 1) (by omega)
    rw [fi]
    cases hv : f k with
    | true =>
      rw [hv] at fk
      simp only [if_true]
      rw [acs_lp]; conv in Fr.code c64l0 => unfold c64l0
      simp (maxSteps:=1000000) (disch:=omega) only [go_sem, ↓reduceIte, reduceCtorEq, hlt, hlt2, hb, fk, k1, Bool.false_eq_true]
      exact next
    | false =>
      rw [hv] at fk
      simp only [Bool.false_eq_true, if_false]
      rw [acs_lp]; conv in Fr.code c64l0 => unfold c64l0
      simp (maxSteps:=1000000) (disch:=omega) only [go_sem, ↓reduceIte, reduceCtorEq, hlt, hlt2, hb, fk]
      exact fin_ext (by simp) (Ext.refl _) (by simp (maxSteps:=1000000) (disch:=omega) only [resVal, resAll, resOne, rs64, Env.get, go_sem, ↓reduceIte, reduceCtorEq]) (by simp only [AV.und, AV.unds, and_self])
theorem f64 {b off n : Nat} {cp : Option Nat} {cs : List AV} {o : Bool} {f : Nat → Bool} {H : Heap} (hb : blkAt H b = some ⟨cs, o⟩) (hf : ∀ j, j < n → cs[off + j]? = some (.bool (f j))) (hn : n ≤ 1000) : ACall Try.prog 64 [.sl b off n 1 cp, .bool false] H (.int .i64 (fi f 0 n)) H := by
  refine acall64 (by simp) (acs_start ?_)
  have go := f64_loop (cp := cp) hb hf hn n 0 (by omega)
  unfold c64t c64 tl2 at go
  unfold c64
  simp (maxSteps:=1000000) (disch:=omega) only [go_sem, ↓reduceIte, reduceCtorEq]
  exact go
theorem f42_yes {b off n : Nat} {cp : Option Nat} {cs : List AV} {o : Bool} {f : Nat → Bool} {H : Heap} (hb : blkAt H b = some ⟨cs, o⟩) (hf : ∀ j, j < n → cs[off + j]? = some (.bool (f j))) (hn : n ≤ 1000) (ha : ∀ j, j < n → f j = true) : ACall Try.prog 42 [.sl b off n 1 cp, .bool false] H (.bool false) H := by
  refine acall42 (by simp) (acs_start ?_)
  have g := f64 (cp := cp) hb hf hn
  rw [fi_all f n 0 (fun j _ h => ha j (by omega))] at g
  unfold c42
  simp (maxSteps:=1000000) (disch:=omega) only [go_sem, ↓reduceIte, reduceCtorEq]
  first | refine callB_intro (g) ?_ | refine callD_intro (g) ?_ | refine callP_intro (fun _ => (g)) ?_ | refine callX_pure (g) ?_
  simp (maxSteps:=1000000) (disch:=omega) only [go_sem, ↓reduceIte, reduceCtorEq]
  exact fin_ext (by simp) (Ext.refl _) (by simp (maxSteps:=1000000) (disch:=omega) only [resVal, resAll, resOne, rs42, Env.get, go_sem, ↓reduceIte, reduceCtorEq]) (by simp only [AV.und, AV.unds, and_self])
theorem f42_no {b off n : Nat} {cp : Option Nat} {cs : List AV} {o : Bool} {f : Nat → Bool} {H : Heap} (hb : blkAt H b = some ⟨cs, o⟩) (hf : ∀ j, j < n → cs[off + j]? = some (.bool (f j))) (hn : n ≤ 1000) (ha : ∃ j, j < n ∧ f j = false) : ACall Try.prog 42 [.sl b off n 1 cp, .bool false] H (.bool true) H := by
  refine acall42 (by simp) (acs_start ?_)
  have g := f64 (cp := cp) hb hf hn
  have h0 : 0 ≤ fi f 0 n := by
    obtain ⟨j, h1, h2⟩ := ha
    exact fi_some f n 0 ⟨j, by omega, by omega, h2⟩
  generalize fi f 0 n = z at *
  unfold c42
  simp (maxSteps:=1000000) (disch:=omega) only [go_sem, ↓reduceIte, reduceCtorEq]
  first | refine callB_intro (g) ?_ | refine callD_intro (g) ?_ | refine callP_intro (fun _ => (g)) ?_ | refine callX_pure (g) ?_
  simp (maxSteps:=1000000) (disch:=omega) only [go_sem, ↓reduceIte, reduceCtorEq, h0]
  exact fin_ext (by simp) (Ext.refl _) (by simp (maxSteps:=1000000) (disch:=omega) only [resVal, resAll, resOne, rs42, Env.get, go_sem, ↓reduceIte, reduceCtorEq]) (by simp only [AV.und, AV.unds, and_self])

def zEs : List AV := [.int .i64 0, .int .i64 0, .int .i64 0, .int .i64 0, .int .i64 0, .int .i64 0, .nils, .int .i64 0, .int .i64 0, .nils, .int .i64 0, .int .i64 0, .nils, .int .i64 0, .int .i64 0, .nils, .int .i64 0, .int .i64 0, .nils, .int .i64 0, .int .i64 0, .nils, .int .i64 0, .int .i64 0, .int .i64 0, .int .i64 0, .int .i64 0, .int .i64 0, .bool false]
theorem f21_no {c0 c1 c2 c3 c4 c5 : Int} {s : Sn} {H : Heap} (hm : mayB c0 c1 c2 c3 c4 c5 = true) (hs : s.ok) (hk : mrkB s.a s.b s.c s.d = true) (hn : ∃ j : Nat, (j : Int) < (s.d + 7) / 8 ∧ s.h.getD j false = false) :
    ACallE Try.prog 21 [.agg [.int .i64 c0, .int .i64 c1, .int .i64 c2, .int .i64 c3, .int .i64 c4, .int .i64 c5], .agg s.av] H fun v H' => v = .tup [.agg zEs, .bool false] := by
  refine acallE (fun v Hf h => acallK21 (by simp) h) (acs_start ?_)
  have len := Sn.len hs
  have full := s.full
  have all := s.all
  have tk := Sn.tk hs
  have drp := Sn.drp hs
  have t4 : List.take 4 s.av = [.int .i64 s.a, .int .i64 s.b, .int .i64 s.c, .int .i64 s.d] := rfl
  have d39 := mrkB_d39 hk
  obtain ⟨n, hnn⟩ : ∃ n : Nat, (s.d + 7) / 8 = (n : Int) := ⟨((s.d + 7) / 8).toNat, by omega⟩
  have n5 : n ≤ 5 := by omega
  have n5' : (n : Int) ≤ 5 := by omega
  have g17 := fun (G : Heap) => f17 (a := s.a) (b := s.b) (c := s.c) (d := s.d) (H := G)
  rw [hk] at g17
  have g38 := fun (G : Heap) => f38 (a := s.a) (b := s.b) (c := s.c) (d := s.d) (H := G) d39
  rw [hnn] at g38
  unfold c21
  simp (maxSteps:=1000000) (disch:=omega) only [go_sem, ↓reduceIte, reduceCtorEq, full, len, all, tk, drp]
  first | refine callBE (f31 hm) ?_ | refine callDE (f31 hm) ?_ | refine callXE (f31 hm) ?_
  rintro v X hx ⟨q, rfl, hq, hql⟩
  have hX : Ext H X := (Ext.app _ _).trans hx
  have b1 : blkAt X (H.length + 1) = some ⟨s.av, true⟩ := hx.blk (by simp only [go_sem, ↓reduceIte, reduceCtorEq])
  have b2 : blkAt X (H.length + 2) = some ⟨zEs, true⟩ := hx.blk (by simp only [go_sem, ↓reduceIte, reduceCtorEq]; rfl)
  have l1 := blkAt_lt b1
  have l2 := blkAt_lt b2
  have g42 := fun (cp : Option Nat) => f42_no (b := H.length + 1) (off := 4) (n := n) (cp := cp) (cs := s.av) (o := true) (f := fun j => s.h.getD j false) (H := X) b1 (fun j hj => Sn.has hs (by omega)) (by omega) (by
    obtain ⟨j, h1, h2⟩ := hn
    exact ⟨j, by omega, h2⟩)
  simp (maxSteps:=1000000) (disch:=omega) only [go_sem, ↓reduceIte, reduceCtorEq, b1, l1, len, t4, blkAt_lo]
  first | refine callB_intro (g17 _) ?_ | refine callD_intro (g17 _) ?_ | refine callP_intro (fun _ => (g17 _)) ?_ | refine callX_pure (g17 _) ?_
  simp (maxSteps:=1000000) (disch:=omega) only [go_sem, ↓reduceIte, reduceCtorEq, b1, l1, len, t4, blkAt_lo]
  first | refine callB_intro (g38 _) ?_ | refine callD_intro (g38 _) ?_ | refine callP_intro (fun _ => (g38 _)) ?_ | refine callX_pure (g38 _) ?_
  simp (maxSteps:=1000000) (disch:=omega) only [go_sem, ↓reduceIte, reduceCtorEq, b1, l1, len, t4, blkAt_lo, n5, n5']
  first | refine callB_intro (g42 _) ?_ | refine callD_intro (g42 _) ?_ | refine callP_intro (fun _ => (g42 _)) ?_ | refine callX_pure (g42 _) ?_
  have z29 : zEs.length = 29 := rfl
  have zd : List.drop 29 zEs = [] := rfl
  simp (maxSteps:=1000000) (disch:=omega) only [go_sem, ↓reduceIte, reduceCtorEq, b1, l1, b2, l2, z29, zd]
  refine fin_e (by simp) (by simp (maxSteps:=1000000) (disch:=omega) only [resVal, resAll, resOne, rs21, Env.get, go_sem, ↓reduceIte, reduceCtorEq, blkAt_set_self l2] <;> rfl) (hX.set (by omega) _) rfl


def ofE (W : List Int) : Es := ⟨W.getD 0 0, W.getD 1 0, W.getD 2 0, W.getD 3 0, ⟨3, 1, [W.getD 4 0, W.getD 5 0, W.getD 6 0], 0, 0, none, 3, 3, [W.getD 7 0, W.getD 8 0, W.getD 9 0, W.getD 8 0, W.getD 10 0, W.getD 11 0, W.getD 9 0, W.getD 11 0, W.getD 12 0], 0, 0, none⟩, ⟨3, 1, [W.getD 13 0, W.getD 14 0, W.getD 15 0], 0, 0, none, 3, 3, [W.getD 16 0, W.getD 17 0, W.getD 18 0, W.getD 17 0, W.getD 19 0, W.getD 20 0, W.getD 18 0, W.getD 20 0, W.getD 21 0], 0, 0, none⟩, ⟨3, 1, [W.getD 22 0, W.getD 23 0, W.getD 24 0], 0, 0, none, 3, 3, [W.getD 25 0, W.getD 26 0, W.getD 27 0, W.getD 26 0, W.getD 28 0, W.getD 29 0, W.getD 27 0, W.getD 29 0, W.getD 30 0], 0, 0, none⟩, W.getD 31 0, W.getD 32 0, W.getD 33 0, W.getD 34 0, W.getD 35 0, W.getD 36 0, decide (W.getD 37 0 = 1)⟩
def okW (W : List Int) : Bool := (decide (W.getD 37 0 = 0) || decide (W.getD 37 0 = 1)) && estB (ofE W)
theorem both2 {s : Int} {X Y : Prop} (hx : ¬ s = 0 → ¬ s = 1 → X) (hp : (s = 0 ∨ s = 1) → Y) : (¬ s = 0 → (¬ s = 1 → X) ∧ (s = 1 → Y)) ∧ (s = 0 → Y) := ⟨fun h0 => ⟨fun h1 => hx h0 h1, fun h => hp (.inr h)⟩, fun h => hp (.inl h)⟩
def Told (W : List Int) (H : Heap) (v : AV) (H' : Heap) : Prop := (okW W = true ∧ ∃ f : Es, v = .tup [.agg f.av, .int .i64 0] ∧ f.eqv (ofE W) ∧ f.ok H' ∧ f.far H.length) ∨ (okW W = false ∧ v = .tup [.agg zEs, .int .i64 2])
theorem f45x {u0 u1 u2 u3 u4 u5 u6 u7 u8 u9 u10 u11 u12 u13 u14 u15 u16 u17 u18 u19 u20 u21 u22 u23 u24 u25 u26 u27 u28 u29 u30 u31 u32 u33 u34 u35 u36 u37 : Int} {p off : Nat} {cp : Option Nat} {H : Heap} (hs : Sl i64 H p off [u0, u1, u2, u3, u4, u5, u6, u7, u8, u9, u10, u11, u12, u13, u14, u15, u16, u17, u18, u19, u20, u21, u22, u23, u24, u25, u26, u27, u28, u29, u30, u31, u32, u33, u34, u35, u36, u37]) :
    ACallE Try.prog 45 [.sl p off 38 1 cp] H fun v H' => Told [u0, u1, u2, u3, u4, u5, u6, u7, u8, u9, u10, u11, u12, u13, u14, u15, u16, u17, u18, u19, u20, u21, u22, u23, u24, u25, u26, u27, u28, u29, u30, u31, u32, u33, u34, u35, u36, u37] H v H' := by
  refine acallE (fun v Hf h => acallK45 (by simp) h) (acs_start ?_)
  have hlt := hs.lt
  obtain ⟨cs, oo, hp, hle, hcs⟩ := hs
  have hs : Sl i64 H p off [u0, u1, u2, u3, u4, u5, u6, u7, u8, u9, u10, u11, u12, u13, u14, u15, u16, u17, u18, u19, u20, u21, u22, u23, u24, u25, u26, u27, u28, u29, u30, u31, u32, u33, u34, u35, u36, u37] := ⟨cs, oo, hp, hle, hcs⟩
  have f37 : cs[off + 37]? = some (.int .i64 u37) := sl_get hcs rfl
  have lW : (38 : Nat) = ([u0, u1, u2, u3, u4, u5, u6, u7, u8, u9, u10, u11, u12, u13, u14, u15, u16, u17, u18, u19, u20, u21, u22, u23, u24, u25, u26, u27, u28, u29, u30, u31, u32, u33, u34, u35, u36, u37] : List Int).length := rfl
  generalize hW2 : ([u0, u1, u2, u3, u4, u5, u6, u7, u8, u9, u10, u11, u12, u13, u14, u15, u16, u17, u18, u19, u20, u21, u22, u23, u24, u25, u26, u27, u28, u29, u30, u31, u32, u33, u34, u35, u36, u37] : List Int) = W at *
  have g66 := fun (j : Nat) (x : Int) (G : Heap) (b1 b4 : Nat) (h4 : blkAt (H ++ G) b4 = some ⟨[.int .i64 (j : Int)], true⟩) (h1 : blkAt (H ++ G) b1 = some ⟨[.sl p off 38 1 cp], true⟩) (n1 : p ≠ b4) (n2 : b1 ≠ b4) (hx : W[j]? = some x) (hj : j < 100) => f66 h4 h1 (hs.app G) lW n1 n2 hx hj
  have z37 : W.getD 37 0 = u37 := by rw [← hW2]; rfl
  unfold c45
  simp (maxSteps:=1000000) (disch:=omega) only [go_sem, ↓reduceIte, reduceCtorEq, hp, f37, blkAt_lo, hlt]
  refine both2 (fun n0 n1 => ?_) (fun hsw => ?_)
  · refine fin_e (by simp) (by simp (maxSteps:=1000000) (disch:=omega) only [resVal, resAll, resOne, rs45, Env.get, go_sem, ↓reduceIte, reduceCtorEq] <;> rfl) (Ext.app _ _) (.inr ⟨by unfold okW; rw [z37]; simp [n0, n1], rfl⟩)
  rw [acs_lp]; conv in Fr.code c45l2 => unfold c45l2
  simp (maxSteps:=1000000) (disch:=omega) only [go_sem, ↓reduceIte, reduceCtorEq, hb66]
  refine callB_intro (g66 0 u0 _ _ _ (by simp only [go_sem, ↓reduceIte, reduceCtorEq, Int.reduceAdd, Int.cast_ofNat_Int]) (by simp only [go_sem, ↓reduceIte, reduceCtorEq]) (by omega) (by omega) (by rw [← hW2]; rfl) (by omega)) ?_
  simp (maxSteps:=1000000) (disch:=omega) only [go_sem, ↓reduceIte, reduceCtorEq, hb66]
  rw [acs_lp]; conv in Fr.code c45l2 => unfold c45l2
  simp (maxSteps:=1000000) (disch:=omega) only [go_sem, ↓reduceIte, reduceCtorEq, hb66]
  refine callB_intro (g66 1 u1 _ _ _ (by simp only [go_sem, ↓reduceIte, reduceCtorEq, Int.reduceAdd, Int.cast_ofNat_Int]) (by simp only [go_sem, ↓reduceIte, reduceCtorEq]) (by omega) (by omega) (by rw [← hW2]; rfl) (by omega)) ?_
  simp (maxSteps:=1000000) (disch:=omega) only [go_sem, ↓reduceIte, reduceCtorEq, hb66]
  rw [acs_lp]; conv in Fr.code c45l2 => unfold c45l2
  simp (maxSteps:=1000000) (disch:=omega) only [go_sem, ↓reduceIte, reduceCtorEq, hb66]
  refine callB_intro (g66 2 u2 _ _ _ (by simp only [go_sem, ↓reduceIte, reduceCtorEq, Int.reduceAdd, Int.cast_ofNat_Int]) (by simp only [go_sem, ↓reduceIte, reduceCtorEq]) (by omega) (by omega) (by rw [← hW2]; rfl) (by omega)) ?_
  simp (maxSteps:=1000000) (disch:=omega) only [go_sem, ↓reduceIte, reduceCtorEq, hb66]
  rw [acs_lp]; conv in Fr.code c45l2 => unfold c45l2
  simp (maxSteps:=1000000) (disch:=omega) only [go_sem, ↓reduceIte, reduceCtorEq, hb66]
  refine callB_intro (g66 3 u3 _ _ _ (by simp only [go_sem, ↓reduceIte, reduceCtorEq, Int.reduceAdd, Int.cast_ofNat_Int]) (by simp only [go_sem, ↓reduceIte, reduceCtorEq]) (by omega) (by omega) (by rw [← hW2]; rfl) (by omega)) ?_
  simp (maxSteps:=1000000) (disch:=omega) only [go_sem, ↓reduceIte, reduceCtorEq, hb66]
  rw [acs_lp]; conv in Fr.code c45l2 => unfold c45l2
  simp (maxSteps:=1000000) (disch:=omega) only [go_sem, ↓reduceIte, reduceCtorEq, hb66]
  rw [acs_lp]; conv in Fr.code c45l1 => unfold c45l1
  simp (maxSteps:=1000000) (disch:=omega) only [go_sem, ↓reduceIte, reduceCtorEq, hb66]
  refine callB_intro (g66 4 u4 _ _ _ (by simp only [go_sem, ↓reduceIte, reduceCtorEq, Int.reduceAdd, Int.cast_ofNat_Int]) (by simp only [go_sem, ↓reduceIte, reduceCtorEq]) (by omega) (by omega) (by rw [← hW2]; rfl) (by omega)) ?_
  simp (maxSteps:=1000000) (disch:=omega) only [go_sem, ↓reduceIte, reduceCtorEq, hb66]
  refine callB_intro (g66 5 u5 _ _ _ (by simp only [go_sem, ↓reduceIte, reduceCtorEq, Int.reduceAdd, Int.cast_ofNat_Int]) (by simp only [go_sem, ↓reduceIte, reduceCtorEq]) (by omega) (by omega) (by rw [← hW2]; rfl) (by omega)) ?_
  simp (maxSteps:=1000000) (disch:=omega) only [go_sem, ↓reduceIte, reduceCtorEq, hb66]
  refine callB_intro (g66 6 u6 _ _ _ (by simp only [go_sem, ↓reduceIte, reduceCtorEq, Int.reduceAdd, Int.cast_ofNat_Int]) (by simp only [go_sem, ↓reduceIte, reduceCtorEq]) (by omega) (by omega) (by rw [← hW2]; rfl) (by omega)) ?_
  simp (maxSteps:=1000000) (disch:=omega) only [go_sem, ↓reduceIte, reduceCtorEq, hb66]
  refine callB_intro (g66 7 u7 _ _ _ (by simp only [go_sem, ↓reduceIte, reduceCtorEq, Int.reduceAdd, Int.cast_ofNat_Int]) (by simp only [go_sem, ↓reduceIte, reduceCtorEq]) (by omega) (by omega) (by rw [← hW2]; rfl) (by omega)) ?_
  simp (maxSteps:=1000000) (disch:=omega) only [go_sem, ↓reduceIte, reduceCtorEq, hb66]
  refine callB_intro (g66 8 u8 _ _ _ (by simp only [go_sem, ↓reduceIte, reduceCtorEq, Int.reduceAdd, Int.cast_ofNat_Int]) (by simp only [go_sem, ↓reduceIte, reduceCtorEq]) (by omega) (by omega) (by rw [← hW2]; rfl) (by omega)) ?_
  simp (maxSteps:=1000000) (disch:=omega) only [go_sem, ↓reduceIte, reduceCtorEq, hb66]
  refine callB_intro (g66 9 u9 _ _ _ (by simp only [go_sem, ↓reduceIte, reduceCtorEq, Int.reduceAdd, Int.cast_ofNat_Int]) (by simp only [go_sem, ↓reduceIte, reduceCtorEq]) (by omega) (by omega) (by rw [← hW2]; rfl) (by omega)) ?_
  simp (maxSteps:=1000000) (disch:=omega) only [go_sem, ↓reduceIte, reduceCtorEq, hb66]
  refine callB_intro (g66 10 u10 _ _ _ (by simp only [go_sem, ↓reduceIte, reduceCtorEq, Int.reduceAdd, Int.cast_ofNat_Int]) (by simp only [go_sem, ↓reduceIte, reduceCtorEq]) (by omega) (by omega) (by rw [← hW2]; rfl) (by omega)) ?_
  simp (maxSteps:=1000000) (disch:=omega) only [go_sem, ↓reduceIte, reduceCtorEq, hb66]
  refine callB_intro (g66 11 u11 _ _ _ (by simp only [go_sem, ↓reduceIte, reduceCtorEq, Int.reduceAdd, Int.cast_ofNat_Int]) (by simp only [go_sem, ↓reduceIte, reduceCtorEq]) (by omega) (by omega) (by rw [← hW2]; rfl) (by omega)) ?_
  simp (maxSteps:=1000000) (disch:=omega) only [go_sem, ↓reduceIte, reduceCtorEq, hb66]
  refine callB_intro (g66 12 u12 _ _ _ (by simp only [go_sem, ↓reduceIte, reduceCtorEq, Int.reduceAdd, Int.cast_ofNat_Int]) (by simp only [go_sem, ↓reduceIte, reduceCtorEq]) (by omega) (by omega) (by rw [← hW2]; rfl) (by omega)) ?_
  simp (maxSteps:=1000000) (disch:=omega) only [go_sem, ↓reduceIte, reduceCtorEq, hb66]
  rw [acs_lp]; conv in Fr.code c45l1 => unfold c45l1
  simp (maxSteps:=1000000) (disch:=omega) only [go_sem, ↓reduceIte, reduceCtorEq, hb66]
  refine callB_intro (g66 13 u13 _ _ _ (by simp only [go_sem, ↓reduceIte, reduceCtorEq, Int.reduceAdd, Int.cast_ofNat_Int]) (by simp only [go_sem, ↓reduceIte, reduceCtorEq]) (by omega) (by omega) (by rw [← hW2]; rfl) (by omega)) ?_
  simp (maxSteps:=1000000) (disch:=omega) only [go_sem, ↓reduceIte, reduceCtorEq, hb66]
  refine callB_intro (g66 14 u14 _ _ _ (by simp only [go_sem, ↓reduceIte, reduceCtorEq, Int.reduceAdd, Int.cast_ofNat_Int]) (by simp only [go_sem, ↓reduceIte, reduceCtorEq]) (by omega) (by omega) (by rw [← hW2]; rfl) (by omega)) ?_
  simp (maxSteps:=1000000) (disch:=omega) only [go_sem, ↓reduceIte, reduceCtorEq, hb66]
  refine callB_intro (g66 15 u15 _ _ _ (by simp only [go_sem, ↓reduceIte, reduceCtorEq, Int.reduceAdd, Int.cast_ofNat_Int]) (by simp only [go_sem, ↓reduceIte, reduceCtorEq]) (by omega) (by omega) (by rw [← hW2]; rfl) (by omega)) ?_
  simp (maxSteps:=1000000) (disch:=omega) only [go_sem, ↓reduceIte, reduceCtorEq, hb66]
  refine callB_intro (g66 16 u16 _ _ _ (by simp only [go_sem, ↓reduceIte, reduceCtorEq, Int.reduceAdd, Int.cast_ofNat_Int]) (by simp only [go_sem, ↓reduceIte, reduceCtorEq]) (by omega) (by omega) (by rw [← hW2]; rfl) (by omega)) ?_
  simp (maxSteps:=1000000) (disch:=omega) only [go_sem, ↓reduceIte, reduceCtorEq, hb66]
  refine callB_intro (g66 17 u17 _ _ _ (by simp only [go_sem, ↓reduceIte, reduceCtorEq, Int.reduceAdd, Int.cast_ofNat_Int]) (by simp only [go_sem, ↓reduceIte, reduceCtorEq]) (by omega) (by omega) (by rw [← hW2]; rfl) (by omega)) ?_
  simp (maxSteps:=1000000) (disch:=omega) only [go_sem, ↓reduceIte, reduceCtorEq, hb66]
  refine callB_intro (g66 18 u18 _ _ _ (by simp only [go_sem, ↓reduceIte, reduceCtorEq, Int.reduceAdd, Int.cast_ofNat_Int]) (by simp only [go_sem, ↓reduceIte, reduceCtorEq]) (by omega) (by omega) (by rw [← hW2]; rfl) (by omega)) ?_
  simp (maxSteps:=1000000) (disch:=omega) only [go_sem, ↓reduceIte, reduceCtorEq, hb66]
  refine callB_intro (g66 19 u19 _ _ _ (by simp only [go_sem, ↓reduceIte, reduceCtorEq, Int.reduceAdd, Int.cast_ofNat_Int]) (by simp only [go_sem, ↓reduceIte, reduceCtorEq]) (by omega) (by omega) (by rw [← hW2]; rfl) (by omega)) ?_
  simp (maxSteps:=1000000) (disch:=omega) only [go_sem, ↓reduceIte, reduceCtorEq, hb66]
  refine callB_intro (g66 20 u20 _ _ _ (by simp only [go_sem, ↓reduceIte, reduceCtorEq, Int.reduceAdd, Int.cast_ofNat_Int]) (by simp only [go_sem, ↓reduceIte, reduceCtorEq]) (by omega) (by omega) (by rw [← hW2]; rfl) (by omega)) ?_
  simp (maxSteps:=1000000) (disch:=omega) only [go_sem, ↓reduceIte, reduceCtorEq, hb66]
  refine callB_intro (g66 21 u21 _ _ _ (by simp only [go_sem, ↓reduceIte, reduceCtorEq, Int.reduceAdd, Int.cast_ofNat_Int]) (by simp only [go_sem, ↓reduceIte, reduceCtorEq]) (by omega) (by omega) (by rw [← hW2]; rfl) (by omega)) ?_
  simp (maxSteps:=1000000) (disch:=omega) only [go_sem, ↓reduceIte, reduceCtorEq, hb66]
  rw [acs_lp]; conv in Fr.code c45l1 => unfold c45l1
  simp (maxSteps:=1000000) (disch:=omega) only [go_sem, ↓reduceIte, reduceCtorEq, hb66]
  refine callB_intro (g66 22 u22 _ _ _ (by simp only [go_sem, ↓reduceIte, reduceCtorEq, Int.reduceAdd, Int.cast_ofNat_Int]) (by simp only [go_sem, ↓reduceIte, reduceCtorEq]) (by omega) (by omega) (by rw [← hW2]; rfl) (by omega)) ?_
  simp (maxSteps:=1000000) (disch:=omega) only [go_sem, ↓reduceIte, reduceCtorEq, hb66]
  refine callB_intro (g66 23 u23 _ _ _ (by simp only [go_sem, ↓reduceIte, reduceCtorEq, Int.reduceAdd, Int.cast_ofNat_Int]) (by simp only [go_sem, ↓reduceIte, reduceCtorEq]) (by omega) (by omega) (by rw [← hW2]; rfl) (by omega)) ?_
  simp (maxSteps:=1000000) (disch:=omega) only [go_sem, ↓reduceIte, reduceCtorEq, hb66]
  refine callB_intro (g66 24 u24 _ _ _ (by simp only [go_sem, ↓reduceIte, reduceCtorEq, Int.reduceAdd, Int.cast_ofNat_Int]) (by simp only [go_sem, ↓reduceIte, reduceCtorEq]) (by omega) (by omega) (by rw [← hW2]; rfl) (by omega)) ?_
  simp (maxSteps:=1000000) (disch:=omega) only [go_sem, ↓reduceIte, reduceCtorEq, hb66]
  refine callB_intro (g66 25 u25 _ _ _ (by simp only [go_sem, ↓reduceIte, reduceCtorEq, Int.reduceAdd, Int.cast_ofNat_Int]) (by simp only [go_sem, ↓reduceIte, reduceCtorEq]) (by omega) (by omega) (by rw [← hW2]; rfl) (by omega)) ?_
  simp (maxSteps:=1000000) (disch:=omega) only [go_sem, ↓reduceIte, reduceCtorEq, hb66]
  refine callB_intro (g66 26 u26 _ _ _ (by simp only [go_sem, ↓reduceIte, reduceCtorEq, Int.reduceAdd, Int.cast_ofNat_Int]) (by simp only [go_sem, ↓reduceIte, reduceCtorEq]) (by omega) (by omega) (by rw [← hW2]; rfl) (by omega)) ?_
  simp (maxSteps:=1000000) (disch:=omega) only [go_sem, ↓reduceIte, reduceCtorEq, hb66]
  refine callB_intro (g66 27 u27 _ _ _ (by simp only [go_sem, ↓reduceIte, reduceCtorEq, Int.reduceAdd, Int.cast_ofNat_Int]) (by simp only [go_sem, ↓reduceIte, reduceCtorEq]) (by omega) (by omega) (by rw [← hW2]; rfl) (by omega)) ?_
  simp (maxSteps:=1000000) (disch:=omega) only [go_sem, ↓reduceIte, reduceCtorEq, hb66]
  refine callB_intro (g66 28 u28 _ _ _ (by simp only [go_sem, ↓reduceIte, reduceCtorEq, Int.reduceAdd, Int.cast_ofNat_Int]) (by simp only [go_sem, ↓reduceIte, reduceCtorEq]) (by omega) (by omega) (by rw [← hW2]; rfl) (by omega)) ?_
  simp (maxSteps:=1000000) (disch:=omega) only [go_sem, ↓reduceIte, reduceCtorEq, hb66]
  refine callB_intro (g66 29 u29 _ _ _ (by simp only [go_sem, ↓reduceIte, reduceCtorEq, Int.reduceAdd, Int.cast_ofNat_Int]) (by simp only [go_sem, ↓reduceIte, reduceCtorEq]) (by omega) (by omega) (by rw [← hW2]; rfl) (by omega)) ?_
  simp (maxSteps:=1000000) (disch:=omega) only [go_sem, ↓reduceIte, reduceCtorEq, hb66]
  refine callB_intro (g66 30 u30 _ _ _ (by simp only [go_sem, ↓reduceIte, reduceCtorEq, Int.reduceAdd, Int.cast_ofNat_Int]) (by simp only [go_sem, ↓reduceIte, reduceCtorEq]) (by omega) (by omega) (by rw [← hW2]; rfl) (by omega)) ?_
  simp (maxSteps:=1000000) (disch:=omega) only [go_sem, ↓reduceIte, reduceCtorEq, hb66]
  rw [acs_lp]; conv in Fr.code c45l1 => unfold c45l1
  simp (maxSteps:=1000000) (disch:=omega) only [go_sem, ↓reduceIte, reduceCtorEq, hb66]
  refine callB_intro (g66 31 u31 _ _ _ (by simp only [go_sem, ↓reduceIte, reduceCtorEq, Int.reduceAdd, Int.cast_ofNat_Int]) (by simp only [go_sem, ↓reduceIte, reduceCtorEq]) (by omega) (by omega) (by rw [← hW2]; rfl) (by omega)) ?_
  simp (maxSteps:=1000000) (disch:=omega) only [go_sem, ↓reduceIte, reduceCtorEq, hb66]
  refine callB_intro (g66 32 u32 _ _ _ (by simp only [go_sem, ↓reduceIte, reduceCtorEq, Int.reduceAdd, Int.cast_ofNat_Int]) (by simp only [go_sem, ↓reduceIte, reduceCtorEq]) (by omega) (by omega) (by rw [← hW2]; rfl) (by omega)) ?_
  simp (maxSteps:=1000000) (disch:=omega) only [go_sem, ↓reduceIte, reduceCtorEq, hb66]
  rw [acs_lp]; conv in Fr.code c45l0 => unfold c45l0
  simp (maxSteps:=1000000) (disch:=omega) only [go_sem, ↓reduceIte, reduceCtorEq, hb66]
  refine callB_intro (g66 33 u33 _ _ _ (by simp only [go_sem, ↓reduceIte, reduceCtorEq, Int.reduceAdd, Int.cast_ofNat_Int]) (by simp only [go_sem, ↓reduceIte, reduceCtorEq]) (by omega) (by omega) (by rw [← hW2]; rfl) (by omega)) ?_
  simp (maxSteps:=1000000) (disch:=omega) only [go_sem, ↓reduceIte, reduceCtorEq, hb66]
  rw [acs_lp]; conv in Fr.code c45l0 => unfold c45l0
  simp (maxSteps:=1000000) (disch:=omega) only [go_sem, ↓reduceIte, reduceCtorEq, hb66]
  refine callB_intro (g66 34 u34 _ _ _ (by simp only [go_sem, ↓reduceIte, reduceCtorEq, Int.reduceAdd, Int.cast_ofNat_Int]) (by simp only [go_sem, ↓reduceIte, reduceCtorEq]) (by omega) (by omega) (by rw [← hW2]; rfl) (by omega)) ?_
  simp (maxSteps:=1000000) (disch:=omega) only [go_sem, ↓reduceIte, reduceCtorEq, hb66]
  rw [acs_lp]; conv in Fr.code c45l0 => unfold c45l0
  simp (maxSteps:=1000000) (disch:=omega) only [go_sem, ↓reduceIte, reduceCtorEq, hb66]
  refine callB_intro (g66 35 u35 _ _ _ (by simp only [go_sem, ↓reduceIte, reduceCtorEq, Int.reduceAdd, Int.cast_ofNat_Int]) (by simp only [go_sem, ↓reduceIte, reduceCtorEq]) (by omega) (by omega) (by rw [← hW2]; rfl) (by omega)) ?_
  simp (maxSteps:=1000000) (disch:=omega) only [go_sem, ↓reduceIte, reduceCtorEq, hb66]
  rw [acs_lp]; conv in Fr.code c45l0 => unfold c45l0
  simp (maxSteps:=1000000) (disch:=omega) only [go_sem, ↓reduceIte, reduceCtorEq, hb66]
  refine callB_intro (g66 36 u36 _ _ _ (by simp only [go_sem, ↓reduceIte, reduceCtorEq, Int.reduceAdd, Int.cast_ofNat_Int]) (by simp only [go_sem, ↓reduceIte, reduceCtorEq]) (by omega) (by omega) (by rw [← hW2]; rfl) (by omega)) ?_
  simp (maxSteps:=1000000) (disch:=omega) only [go_sem, ↓reduceIte, reduceCtorEq, hb66]
  rw [acs_lp]; conv in Fr.code c45l0 => unfold c45l0
  simp (maxSteps:=1000000) (disch:=omega) only [go_sem, ↓reduceIte, reduceCtorEq, hb66]
  refine callB_intro (g66 37 u37 _ _ _ (by simp only [go_sem, ↓reduceIte, reduceCtorEq, Int.reduceAdd, Int.cast_ofNat_Int]) (by simp only [go_sem, ↓reduceIte, reduceCtorEq]) (by omega) (by omega) (by rw [← hW2]; rfl) (by omega)) ?_
  simp (maxSteps:=1000000) (disch:=omega) only [go_sem, ↓reduceIte, reduceCtorEq, hb66]
  have fe : Es.eqv ⟨u0, u1, u2, u3, ⟨3, 1, [u4, u5, u6], H.length + 4, 0, some 3, 3, 3, [u7, u8, u9, u8, u10, u11, u9, u11, u12], H.length + 5, 0, some 9⟩, ⟨3, 1, [u13, u14, u15], H.length + 6, 0, some 3, 3, 3, [u16, u17, u18, u17, u19, u20, u18, u20, u21], H.length + 7, 0, some 9⟩, ⟨3, 1, [u22, u23, u24], H.length + 8, 0, some 3, 3, 3, [u25, u26, u27, u26, u28, u29, u27, u29, u30], H.length + 9, 0, some 9⟩, u31, u32, u33, u34, u35, u36, decide (u37 = 1)⟩ (ofE W) := by rw [← hW2]; exact ⟨⟨rfl, rfl, rfl, rfl⟩, ⟨rfl, rfl, rfl, rfl, rfl, rfl⟩, ⟨rfl, rfl, rfl, rfl, rfl, rfl⟩, ⟨rfl, rfl, rfl, rfl, rfl, rfl⟩, ⟨rfl, rfl, rfl, rfl, rfl, rfl, rfl⟩⟩
  have okf : ∀ X : Heap, Sl i64 X (H.length + 4) 0 [u4, u5, u6] → Sl i64 X (H.length + 5) 0 [u7, u8, u9, u8, u10, u11, u9, u11, u12] → Sl i64 X (H.length + 6) 0 [u13, u14, u15] → Sl i64 X (H.length + 7) 0 [u16, u17, u18, u17, u19, u20, u18, u20, u21] → Sl i64 X (H.length + 8) 0 [u22, u23, u24] → Sl i64 X (H.length + 9) 0 [u25, u26, u27, u26, u28, u29, u27, u29, u30] → Es.ok ⟨u0, u1, u2, u3, ⟨3, 1, [u4, u5, u6], H.length + 4, 0, some 3, 3, 3, [u7, u8, u9, u8, u10, u11, u9, u11, u12], H.length + 5, 0, some 9⟩, ⟨3, 1, [u13, u14, u15], H.length + 6, 0, some 3, 3, 3, [u16, u17, u18, u17, u19, u20, u18, u20, u21], H.length + 7, 0, some 9⟩, ⟨3, 1, [u22, u23, u24], H.length + 8, 0, some 3, 3, 3, [u25, u26, u27, u26, u28, u29, u27, u29, u30], H.length + 9, 0, some 9⟩, u31, u32, u33, u34, u35, u36, decide (u37 = 1)⟩ X := fun X s0 s1 s2 s3 s4 s5 => ⟨⟨s0, s1, by simp, by simp⟩, ⟨s2, s3, by simp, by simp⟩, ⟨s4, s5, by simp, by simp⟩⟩
  refine callB_intro (f32 (okf _ (Sl.whole (o := true) (by first | (simp only [go_sem, ↓reduceIte, reduceCtorEq]; done) | (simp only [go_sem, ↓reduceIte, reduceCtorEq]; rfl))) (Sl.whole (o := true) (by first | (simp only [go_sem, ↓reduceIte, reduceCtorEq]; done) | (simp only [go_sem, ↓reduceIte, reduceCtorEq]; rfl))) (Sl.whole (o := true) (by first | (simp only [go_sem, ↓reduceIte, reduceCtorEq]; done) | (simp only [go_sem, ↓reduceIte, reduceCtorEq]; rfl))) (Sl.whole (o := true) (by first | (simp only [go_sem, ↓reduceIte, reduceCtorEq]; done) | (simp only [go_sem, ↓reduceIte, reduceCtorEq]; rfl))) (Sl.whole (o := true) (by first | (simp only [go_sem, ↓reduceIte, reduceCtorEq]; done) | (simp only [go_sem, ↓reduceIte, reduceCtorEq]; rfl))) (Sl.whole (o := true) (by first | (simp only [go_sem, ↓reduceIte, reduceCtorEq]; done) | (simp only [go_sem, ↓reduceIte, reduceCtorEq]; rfl))))) ?_
  rw [fe.est]
  cases hE : estB (ofE W) with
  | true =>
    simp (maxSteps:=1000000) (disch:=omega) only [go_sem, ↓reduceIte, reduceCtorEq]
    refine fin_e (by simp) (by simp (maxSteps:=1000000) (disch:=omega) only [resVal, resAll, resOne, rs45, Env.get, go_sem, ↓reduceIte, reduceCtorEq] <;> rfl) (Ext.app _ _) (.inl ⟨by unfold okW; rw [z37, hE]; rcases hsw with h | h <;> simp [h], _, rfl, fe, okf _ (Sl.whole (o := true) (by first | (simp only [go_sem, ↓reduceIte, reduceCtorEq]; done) | (simp only [go_sem, ↓reduceIte, reduceCtorEq]; rfl))) (Sl.whole (o := true) (by first | (simp only [go_sem, ↓reduceIte, reduceCtorEq]; done) | (simp only [go_sem, ↓reduceIte, reduceCtorEq]; rfl))) (Sl.whole (o := true) (by first | (simp only [go_sem, ↓reduceIte, reduceCtorEq]; done) | (simp only [go_sem, ↓reduceIte, reduceCtorEq]; rfl))) (Sl.whole (o := true) (by first | (simp only [go_sem, ↓reduceIte, reduceCtorEq]; done) | (simp only [go_sem, ↓reduceIte, reduceCtorEq]; rfl))) (Sl.whole (o := true) (by first | (simp only [go_sem, ↓reduceIte, reduceCtorEq]; done) | (simp only [go_sem, ↓reduceIte, reduceCtorEq]; rfl))) (Sl.whole (o := true) (by first | (simp only [go_sem, ↓reduceIte, reduceCtorEq]; done) | (simp only [go_sem, ↓reduceIte, reduceCtorEq]; rfl))), ⟨Nat.le_add_right _ _, Nat.le_add_right _ _, Nat.le_add_right _ _, Nat.le_add_right _ _, Nat.le_add_right _ _, Nat.le_add_right _ _⟩⟩)
  | false =>
    simp (maxSteps:=1000000) (disch:=omega) only [go_sem, ↓reduceIte, reduceCtorEq]
    refine fin_e (by simp) (by simp (maxSteps:=1000000) (disch:=omega) only [resVal, resAll, resOne, rs45, Env.get, go_sem, ↓reduceIte, reduceCtorEq] <;> rfl) (Ext.app _ _) (.inr ⟨by unfold okW; rw [hE]; simp, rfl⟩)
theorem f45_any {W : List Int} {p off : Nat} {cp : Option Nat} {H : Heap} (hl : W.length = 38) (hs : Sl i64 H p off W) : ACallE Try.prog 45 [.sl p off 38 1 cp] H fun v H' => Told W H v H' := by
  rcases W with _ | ⟨u0, W⟩
  · exact absurd hl (by simp)
  rcases W with _ | ⟨u1, W⟩
  · exact absurd hl (by simp)
  rcases W with _ | ⟨u2, W⟩
  · exact absurd hl (by simp)
  rcases W with _ | ⟨u3, W⟩
  · exact absurd hl (by simp)
  rcases W with _ | ⟨u4, W⟩
  · exact absurd hl (by simp)
  rcases W with _ | ⟨u5, W⟩
  · exact absurd hl (by simp)
  rcases W with _ | ⟨u6, W⟩
  · exact absurd hl (by simp)
  rcases W with _ | ⟨u7, W⟩
  · exact absurd hl (by simp)
  rcases W with _ | ⟨u8, W⟩
  · exact absurd hl (by simp)
  rcases W with _ | ⟨u9, W⟩
  · exact absurd hl (by simp)
  rcases W with _ | ⟨u10, W⟩
  · exact absurd hl (by simp)
  rcases W with _ | ⟨u11, W⟩
  · exact absurd hl (by simp)
  rcases W with _ | ⟨u12, W⟩
  · exact absurd hl (by simp)
  rcases W with _ | ⟨u13, W⟩
  · exact absurd hl (by simp)
  rcases W with _ | ⟨u14, W⟩
  · exact absurd hl (by simp)
  rcases W with _ | ⟨u15, W⟩
  · exact absurd hl (by simp)
  rcases W with _ | ⟨u16, W⟩
  · exact absurd hl (by simp)
  rcases W with _ | ⟨u17, W⟩
  · exact absurd hl (by simp)
  rcases W with _ | ⟨u18, W⟩
  · exact absurd hl (by simp)
  rcases W with _ | ⟨u19, W⟩
  · exact absurd hl (by simp)
  rcases W with _ | ⟨u20, W⟩
  · exact absurd hl (by simp)
  rcases W with _ | ⟨u21, W⟩
  · exact absurd hl (by simp)
  rcases W with _ | ⟨u22, W⟩
  · exact absurd hl (by simp)
  rcases W with _ | ⟨u23, W⟩
  · exact absurd hl (by simp)
  rcases W with _ | ⟨u24, W⟩
  · exact absurd hl (by simp)
  rcases W with _ | ⟨u25, W⟩
  · exact absurd hl (by simp)
  rcases W with _ | ⟨u26, W⟩
  · exact absurd hl (by simp)
  rcases W with _ | ⟨u27, W⟩
  · exact absurd hl (by simp)
  rcases W with _ | ⟨u28, W⟩
  · exact absurd hl (by simp)
  rcases W with _ | ⟨u29, W⟩
  · exact absurd hl (by simp)
  rcases W with _ | ⟨u30, W⟩
  · exact absurd hl (by simp)
  rcases W with _ | ⟨u31, W⟩
  · exact absurd hl (by simp)
  rcases W with _ | ⟨u32, W⟩
  · exact absurd hl (by simp)
  rcases W with _ | ⟨u33, W⟩
  · exact absurd hl (by simp)
  rcases W with _ | ⟨u34, W⟩
  · exact absurd hl (by simp)
  rcases W with _ | ⟨u35, W⟩
  · exact absurd hl (by simp)
  rcases W with _ | ⟨u36, W⟩
  · exact absurd hl (by simp)
  rcases W with _ | ⟨u37, W⟩
  · exact absurd hl (by simp)
  rcases W with _ | ⟨z, W⟩
  · exact f45x hs
  · exact absurd hl (by simp)

theorem f48_ax0 {x0 x1 x2 q0 q1 q2 q3 q4 q5 : Int} {p off b2 b4 : Nat} {cp : Option Nat} {oo : Bool} {cs E : List AV} {X : Heap} {fs : List Fr} {Q : Post} (hp : blkAt X p = some ⟨cs, oo⟩) (h4 : blkAt X b4 = some ⟨E, true⟩) (hE : E.length = 29) (hne : p ≠ b4)
    (w0 : cs[off + 4]? = some (.int .i64 x0)) (w1 : cs[off + 5]? = some (.int .i64 x1)) (w2 : cs[off + 6]? = some (.int .i64 x2)) (w3 : cs[off + 7]? = some (.int .i64 q0)) (w4 : cs[off + 8]? = some (.int .i64 q1)) (w5 : cs[off + 9]? = some (.int .i64 q2)) (w6 : cs[off + 10]? = some (.int .i64 q3)) (w7 : cs[off + 11]? = some (.int .i64 q4)) (w8 : cs[off + 12]? = some (.int .i64 q5))
    (hq : ∀ (t : Tk) X', t.sq x0 x1 x2 q0 q1 q2 q3 q4 q5 → t.ok X' → blkAt X' b4 = some ⟨setCells E 4 t.av, true⟩ → (∀ b k, b ≠ b4 → blkAt X b = some k → blkAt X' b = some k) → X.length ≤ X'.length → X.length ≤ t.xp → X.length ≤ t.pp → (∀ H, H.length ≤ b4 → Ext H X → Ext H X') →
      acs Try.prog (.lp c48l3 :: fs) [(0, .sl p off 38 1 cp), (2, .ptr b2 0), (4, .ptr b4 0), (6, .int .i64 1)] X' Q) :
    acs Try.prog (.lp c48l3 :: fs) [(0, .sl p off 38 1 cp), (2, .ptr b2 0), (4, .ptr b4 0), (6, .int .i64 0)] X Q := by
  have lp := blkAt_lt hp
  have l4 := blkAt_lt h4
  rw [acs_lp]; conv in Fr.code c48l3 => unfold c48l3
  simp (maxSteps:=1000000) (disch:=omega) only [go_sem, ↓reduceIte, reduceCtorEq, hp, w0, w1, w2, blkAt_lo, lp]
  first | refine callBE (f68) ?_ | refine callDE (f68) ?_ | refine callXE (f68) ?_
  rintro v Y hy ⟨pb, rfl, hpb, hl⟩
  have hXY : Ext X Y := (Ext.app _ _).trans hy
  have hpb : blkAt Y pb = some ⟨[.int .i64 0, .int .i64 0, .int .i64 0, .int .i64 0, .int .i64 0, .int .i64 0, .int .i64 0, .int .i64 0, .int .i64 0], true⟩ := hpb
  simp only [List.length_append, List.length_cons, List.length_nil] at hl
  have yp := hXY.blk hp
  have y4 := hXY.blk h4
  have lpb := blkAt_lt hpb
  have ly4 := blkAt_lt y4
  have lyp := blkAt_lt yp
  have y8 : blkAt Y X.length = some ⟨[.int .i64 3, .int .i64 1, .sl (X.length + 1) 0 3 1 (some 3)], true⟩ := hy.blk (by simp only [go_sem, ↓reduceIte, reduceCtorEq])
  have yr : blkAt Y (X.length + 1) = some ⟨[.int .i64 x0, .int .i64 x1, .int .i64 x2], true⟩ := hy.blk (by simp only [go_sem, ↓reduceIte, reduceCtorEq])
  have ly8 := blkAt_lt y8
  have np : pb ≠ p := by omega
  have n8 : pb ≠ X.length := by omega
  have n4 : pb ≠ b4 := by omega
  have A : ∀ x, blkAt (Y.set pb x) pb = x := fun x => blkAt_set_self lpb x
  have B : ∀ x, blkAt (Y.set pb x) p = some ⟨cs, oo⟩ := fun x => (blkAt_set_ne np x).trans yp
  have B8 : ∀ x, blkAt (Y.set pb x) X.length = some ⟨[.int .i64 3, .int .i64 1, .sl (X.length + 1) 0 3 1 (some 3)], true⟩ := fun x => (blkAt_set_ne n8 x).trans y8
  have B4 : ∀ x, blkAt (Y.set pb x) b4 = some ⟨E, true⟩ := fun x => (blkAt_set_ne n4 x).trans y4
  have C : ∀ x G c, c < Y.length → blkAt (Y.set pb x ++ G) c = blkAt (Y.set pb x) c := fun x G c h => blkAt_los G x h
  have Cn : ∀ x b9, blkAt (Y.set pb x ++ [b9]) Y.length = b9 := fun x b9 => by rw [show Y.length = (Y.set pb x).length by rw [List.length_set], blkAt_app0]; rfl
  have D : ∀ x G y, (Y.set pb x ++ G).set pb y = Y.set pb y ++ G := fun x G y => by rw [List.set_append_left _ _ (by rw [List.length_set]; exact lpb), List.set_set]
  simp (maxSteps:=1000000) (disch:=omega) only [go_sem, ↓reduceIte, reduceCtorEq, hp, w0, w1, w2, blkAt_lo, lp]
  rw [acs_lp]; conv in Fr.code c48l2 => unfold c48l2
  simp (maxSteps:=1000000) (disch:=omega) only [go_sem, ↓reduceIte, reduceCtorEq]
  rw [acs_lp]; conv in Fr.code c48l1 => unfold c48l1
  simp (maxSteps:=1000000) (disch:=omega) only [go_sem, ↓reduceIte, reduceCtorEq, yp, hpb, w3, w4, w5, w6, w7, w8, A, B, B4, B8, C, D, Cn, lpb, lyp, ly4, ly8, blkAt_lo, set_lo]
  rw [acs_lp]; conv in Fr.code c48l1 => unfold c48l1
  simp (maxSteps:=1000000) (disch:=omega) only [go_sem, ↓reduceIte, reduceCtorEq, yp, hpb, w3, w4, w5, w6, w7, w8, A, B, B4, B8, C, D, Cn, lpb, lyp, ly4, ly8, blkAt_lo, set_lo]
  rw [acs_lp]; conv in Fr.code c48l1 => unfold c48l1
  simp (maxSteps:=1000000) (disch:=omega) only [go_sem, ↓reduceIte, reduceCtorEq, yp, hpb, w3, w4, w5, w6, w7, w8, A, B, B4, B8, C, D, Cn, lpb, lyp, ly4, ly8, blkAt_lo, set_lo]
  rw [acs_lp]; conv in Fr.code c48l1 => unfold c48l1
  simp (maxSteps:=1000000) (disch:=omega) only [go_sem, ↓reduceIte, reduceCtorEq]
  rw [acs_lp]; conv in Fr.code c48l2 => unfold c48l2
  simp (maxSteps:=1000000) (disch:=omega) only [go_sem, ↓reduceIte, reduceCtorEq]
  rw [acs_lp]; conv in Fr.code c48l1 => unfold c48l1
  simp (maxSteps:=1000000) (disch:=omega) only [go_sem, ↓reduceIte, reduceCtorEq, yp, hpb, w3, w4, w5, w6, w7, w8, A, B, B4, B8, C, D, Cn, lpb, lyp, ly4, ly8, blkAt_lo, set_lo]
  rw [acs_lp]; conv in Fr.code c48l1 => unfold c48l1
  simp (maxSteps:=1000000) (disch:=omega) only [go_sem, ↓reduceIte, reduceCtorEq, yp, hpb, w3, w4, w5, w6, w7, w8, A, B, B4, B8, C, D, Cn, lpb, lyp, ly4, ly8, blkAt_lo, set_lo]
  rw [acs_lp]; conv in Fr.code c48l1 => unfold c48l1
  simp (maxSteps:=1000000) (disch:=omega) only [go_sem, ↓reduceIte, reduceCtorEq]
  rw [acs_lp]; conv in Fr.code c48l2 => unfold c48l2
  simp (maxSteps:=1000000) (disch:=omega) only [go_sem, ↓reduceIte, reduceCtorEq]
  rw [acs_lp]; conv in Fr.code c48l1 => unfold c48l1
  simp (maxSteps:=1000000) (disch:=omega) only [go_sem, ↓reduceIte, reduceCtorEq, yp, hpb, w3, w4, w5, w6, w7, w8, A, B, B4, B8, C, D, Cn, lpb, lyp, ly4, ly8, blkAt_lo, set_lo]
  rw [acs_lp]; conv in Fr.code c48l1 => unfold c48l1
  simp (maxSteps:=1000000) (disch:=omega) only [go_sem, ↓reduceIte, reduceCtorEq]
  rw [acs_lp]; conv in Fr.code c48l2 => unfold c48l2
  simp (maxSteps:=1000000) (disch:=omega) only [go_sem, ↓reduceIte, reduceCtorEq, yp, hpb, w3, w4, w5, w6, w7, w8, A, B, B4, B8, C, D, Cn, lpb, lyp, ly4, ly8, blkAt_lo, set_lo, hE]
  have eS : List.take 4 E ++ AV.int .i64 3 :: AV.int .i64 1 :: AV.sl (X.length + 1) 0 3 1 (some 3) :: AV.int .i64 3 :: AV.int .i64 3 :: AV.sl pb 0 9 1 none :: List.drop 10 E = setCells E 4 (⟨3, 1, [x0, x1, x2], X.length + 1, 0, some 3, 3, 3, [q0, q1, q2, q1, q3, q4, q2, q4, q5], pb, 0, none⟩ : Tk).av := by
    unfold setCells Tk.av
    rw [List.append_assoc]
    rfl
  rw [eS]
  have zl : ∀ (x b9 y : Option Blk) (b : Nat) (k : Blk), b ≠ b4 → b ≠ pb → blkAt Y b = some k → blkAt ((Y.set pb x ++ [b9]).set b4 y) b = some k := fun x b9 y b k h1 h2 hb => by
    have hlt := blkAt_lt hb
    rw [blkAt_set_ne (fun h => h1 h.symm), C _ _ _ hlt, blkAt_set_ne (fun h => h2 h.symm)]
    exact hb
  refine hq (⟨3, 1, [x0, x1, x2], X.length + 1, 0, some 3, 3, 3, [q0, q1, q2, q1, q3, q4, q2, q4, q5], pb, 0, none⟩ : Tk) _ ⟨rfl, rfl, rfl, rfl, rfl, rfl⟩ ⟨Sl.whole (o := true) (zl _ _ _ (X.length + 1) _ (by omega) (by omega) yr), Sl.whole (o := true) (by rw [blkAt_set_ne (fun h => n4 h.symm), C _ _ _ lpb, A]; rfl), by simp, by simp⟩ (blkAt_set_self (by rw [List.length_append, List.length_set]; omega) _) (fun b k hb hk => zl _ _ _ _ _ hb (by have := blkAt_lt hk; omega) (hXY.blk hk)) (by rw [List.length_set, List.length_append, List.length_set]; have := hXY.len; omega) (Nat.le_add_right _ _) (by show X.length ≤ pb; omega) (fun H hH hx => (((hx.trans hXY).set (by omega) _).to _).set hH _)
theorem f48_ax1 {x0 x1 x2 q0 q1 q2 q3 q4 q5 : Int} {p off b2 b4 : Nat} {cp : Option Nat} {oo : Bool} {cs E : List AV} {X : Heap} {fs : List Fr} {Q : Post} (hp : blkAt X p = some ⟨cs, oo⟩) (h4 : blkAt X b4 = some ⟨E, true⟩) (hE : E.length = 29) (hne : p ≠ b4)
    (w0 : cs[off + 13]? = some (.int .i64 x0)) (w1 : cs[off + 14]? = some (.int .i64 x1)) (w2 : cs[off + 15]? = some (.int .i64 x2)) (w3 : cs[off + 16]? = some (.int .i64 q0)) (w4 : cs[off + 17]? = some (.int .i64 q1)) (w5 : cs[off + 18]? = some (.int .i64 q2)) (w6 : cs[off + 19]? = some (.int .i64 q3)) (w7 : cs[off + 20]? = some (.int .i64 q4)) (w8 : cs[off + 21]? = some (.int .i64 q5))
    (hq : ∀ (t : Tk) X', t.sq x0 x1 x2 q0 q1 q2 q3 q4 q5 → t.ok X' → blkAt X' b4 = some ⟨setCells E 10 t.av, true⟩ → (∀ b k, b ≠ b4 → blkAt X b = some k → blkAt X' b = some k) → X.length ≤ X'.length → X.length ≤ t.xp → X.length ≤ t.pp → (∀ H, H.length ≤ b4 → Ext H X → Ext H X') →
      acs Try.prog (.lp c48l3 :: fs) [(0, .sl p off 38 1 cp), (2, .ptr b2 0), (4, .ptr b4 0), (6, .int .i64 2)] X' Q) :
    acs Try.prog (.lp c48l3 :: fs) [(0, .sl p off 38 1 cp), (2, .ptr b2 0), (4, .ptr b4 0), (6, .int .i64 1)] X Q := by
  have lp := blkAt_lt hp
  have l4 := blkAt_lt h4
  rw [acs_lp]; conv in Fr.code c48l3 => unfold c48l3
  simp (maxSteps:=1000000) (disch:=omega) only [go_sem, ↓reduceIte, reduceCtorEq, hp, w0, w1, w2, blkAt_lo, lp]
  first | refine callBE (f68) ?_ | refine callDE (f68) ?_ | refine callXE (f68) ?_
  rintro v Y hy ⟨pb, rfl, hpb, hl⟩
  have hXY : Ext X Y := (Ext.app _ _).trans hy
  have hpb : blkAt Y pb = some ⟨[.int .i64 0, .int .i64 0, .int .i64 0, .int .i64 0, .int .i64 0, .int .i64 0, .int .i64 0, .int .i64 0, .int .i64 0], true⟩ := hpb
  simp only [List.length_append, List.length_cons, List.length_nil] at hl
  have yp := hXY.blk hp
  have y4 := hXY.blk h4
  have lpb := blkAt_lt hpb
  have ly4 := blkAt_lt y4
  have lyp := blkAt_lt yp
  have y8 : blkAt Y X.length = some ⟨[.int .i64 3, .int .i64 1, .sl (X.length + 1) 0 3 1 (some 3)], true⟩ := hy.blk (by simp only [go_sem, ↓reduceIte, reduceCtorEq])
  have yr : blkAt Y (X.length + 1) = some ⟨[.int .i64 x0, .int .i64 x1, .int .i64 x2], true⟩ := hy.blk (by simp only [go_sem, ↓reduceIte, reduceCtorEq])
  have ly8 := blkAt_lt y8
  have np : pb ≠ p := by omega
  have n8 : pb ≠ X.length := by omega
  have n4 : pb ≠ b4 := by omega
  have A : ∀ x, blkAt (Y.set pb x) pb = x := fun x => blkAt_set_self lpb x
  have B : ∀ x, blkAt (Y.set pb x) p = some ⟨cs, oo⟩ := fun x => (blkAt_set_ne np x).trans yp
  have B8 : ∀ x, blkAt (Y.set pb x) X.length = some ⟨[.int .i64 3, .int .i64 1, .sl (X.length + 1) 0 3 1 (some 3)], true⟩ := fun x => (blkAt_set_ne n8 x).trans y8
  have B4 : ∀ x, blkAt (Y.set pb x) b4 = some ⟨E, true⟩ := fun x => (blkAt_set_ne n4 x).trans y4
  have C : ∀ x G c, c < Y.length → blkAt (Y.set pb x ++ G) c = blkAt (Y.set pb x) c := fun x G c h => blkAt_los G x h
  have Cn : ∀ x b9, blkAt (Y.set pb x ++ [b9]) Y.length = b9 := fun x b9 => by rw [show Y.length = (Y.set pb x).length by rw [List.length_set], blkAt_app0]; rfl
  have D : ∀ x G y, (Y.set pb x ++ G).set pb y = Y.set pb y ++ G := fun x G y => by rw [List.set_append_left _ _ (by rw [List.length_set]; exact lpb), List.set_set]
  simp (maxSteps:=1000000) (disch:=omega) only [go_sem, ↓reduceIte, reduceCtorEq, hp, w0, w1, w2, blkAt_lo, lp]
  rw [acs_lp]; conv in Fr.code c48l2 => unfold c48l2
  simp (maxSteps:=1000000) (disch:=omega) only [go_sem, ↓reduceIte, reduceCtorEq]
  rw [acs_lp]; conv in Fr.code c48l1 => unfold c48l1
  simp (maxSteps:=1000000) (disch:=omega) only [go_sem, ↓reduceIte, reduceCtorEq, yp, hpb, w3, w4, w5, w6, w7, w8, A, B, B4, B8, C, D, Cn, lpb, lyp, ly4, ly8, blkAt_lo, set_lo]
  rw [acs_lp]; conv in Fr.code c48l1 => unfold c48l1
  simp (maxSteps:=1000000) (disch:=omega) only [go_sem, ↓reduceIte, reduceCtorEq, yp, hpb, w3, w4, w5, w6, w7, w8, A, B, B4, B8, C, D, Cn, lpb, lyp, ly4, ly8, blkAt_lo, set_lo]
  rw [acs_lp]; conv in Fr.code c48l1 => unfold c48l1
  simp (maxSteps:=1000000) (disch:=omega) only [go_sem, ↓reduceIte, reduceCtorEq, yp, hpb, w3, w4, w5, w6, w7, w8, A, B, B4, B8, C, D, Cn, lpb, lyp, ly4, ly8, blkAt_lo, set_lo]
  rw [acs_lp]; conv in Fr.code c48l1 => unfold c48l1
  simp (maxSteps:=1000000) (disch:=omega) only [go_sem, ↓reduceIte, reduceCtorEq]
  rw [acs_lp]; conv in Fr.code c48l2 => unfold c48l2
  simp (maxSteps:=1000000) (disch:=omega) only [go_sem, ↓reduceIte, reduceCtorEq]
  rw [acs_lp]; conv in Fr.code c48l1 => unfold c48l1
  simp (maxSteps:=1000000) (disch:=omega) only [go_sem, ↓reduceIte, reduceCtorEq, yp, hpb, w3, w4, w5, w6, w7, w8, A, B, B4, B8, C, D, Cn, lpb, lyp, ly4, ly8, blkAt_lo, set_lo]
  rw [acs_lp]; conv in Fr.code c48l1 => unfold c48l1
  simp (maxSteps:=1000000) (disch:=omega) only [go_sem, ↓reduceIte, reduceCtorEq, yp, hpb, w3, w4, w5, w6, w7, w8, A, B, B4, B8, C, D, Cn, lpb, lyp, ly4, ly8, blkAt_lo, set_lo]
  rw [acs_lp]; conv in Fr.code c48l1 => unfold c48l1
  simp (maxSteps:=1000000) (disch:=omega) only [go_sem, ↓reduceIte, reduceCtorEq]
  rw [acs_lp]; conv in Fr.code c48l2 => unfold c48l2
  simp (maxSteps:=1000000) (disch:=omega) only [go_sem, ↓reduceIte, reduceCtorEq]
  rw [acs_lp]; conv in Fr.code c48l1 => unfold c48l1
  simp (maxSteps:=1000000) (disch:=omega) only [go_sem, ↓reduceIte, reduceCtorEq, yp, hpb, w3, w4, w5, w6, w7, w8, A, B, B4, B8, C, D, Cn, lpb, lyp, ly4, ly8, blkAt_lo, set_lo]
  rw [acs_lp]; conv in Fr.code c48l1 => unfold c48l1
  simp (maxSteps:=1000000) (disch:=omega) only [go_sem, ↓reduceIte, reduceCtorEq]
  rw [acs_lp]; conv in Fr.code c48l2 => unfold c48l2
  simp (maxSteps:=1000000) (disch:=omega) only [go_sem, ↓reduceIte, reduceCtorEq, yp, hpb, w3, w4, w5, w6, w7, w8, A, B, B4, B8, C, D, Cn, lpb, lyp, ly4, ly8, blkAt_lo, set_lo, hE]
  have eS : List.take 10 E ++ AV.int .i64 3 :: AV.int .i64 1 :: AV.sl (X.length + 1) 0 3 1 (some 3) :: AV.int .i64 3 :: AV.int .i64 3 :: AV.sl pb 0 9 1 none :: List.drop 16 E = setCells E 10 (⟨3, 1, [x0, x1, x2], X.length + 1, 0, some 3, 3, 3, [q0, q1, q2, q1, q3, q4, q2, q4, q5], pb, 0, none⟩ : Tk).av := by
    unfold setCells Tk.av
    rw [List.append_assoc]
    rfl
  rw [eS]
  have zl : ∀ (x b9 y : Option Blk) (b : Nat) (k : Blk), b ≠ b4 → b ≠ pb → blkAt Y b = some k → blkAt ((Y.set pb x ++ [b9]).set b4 y) b = some k := fun x b9 y b k h1 h2 hb => by
    have hlt := blkAt_lt hb
    rw [blkAt_set_ne (fun h => h1 h.symm), C _ _ _ hlt, blkAt_set_ne (fun h => h2 h.symm)]
    exact hb
  refine hq (⟨3, 1, [x0, x1, x2], X.length + 1, 0, some 3, 3, 3, [q0, q1, q2, q1, q3, q4, q2, q4, q5], pb, 0, none⟩ : Tk) _ ⟨rfl, rfl, rfl, rfl, rfl, rfl⟩ ⟨Sl.whole (o := true) (zl _ _ _ (X.length + 1) _ (by omega) (by omega) yr), Sl.whole (o := true) (by rw [blkAt_set_ne (fun h => n4 h.symm), C _ _ _ lpb, A]; rfl), by simp, by simp⟩ (blkAt_set_self (by rw [List.length_append, List.length_set]; omega) _) (fun b k hb hk => zl _ _ _ _ _ hb (by have := blkAt_lt hk; omega) (hXY.blk hk)) (by rw [List.length_set, List.length_append, List.length_set]; have := hXY.len; omega) (Nat.le_add_right _ _) (by show X.length ≤ pb; omega) (fun H hH hx => (((hx.trans hXY).set (by omega) _).to _).set hH _)
theorem f48_ax2 {x0 x1 x2 q0 q1 q2 q3 q4 q5 : Int} {p off b2 b4 : Nat} {cp : Option Nat} {oo : Bool} {cs E : List AV} {X : Heap} {fs : List Fr} {Q : Post} (hp : blkAt X p = some ⟨cs, oo⟩) (h4 : blkAt X b4 = some ⟨E, true⟩) (hE : E.length = 29) (hne : p ≠ b4)
    (w0 : cs[off + 22]? = some (.int .i64 x0)) (w1 : cs[off + 23]? = some (.int .i64 x1)) (w2 : cs[off + 24]? = some (.int .i64 x2)) (w3 : cs[off + 25]? = some (.int .i64 q0)) (w4 : cs[off + 26]? = some (.int .i64 q1)) (w5 : cs[off + 27]? = some (.int .i64 q2)) (w6 : cs[off + 28]? = some (.int .i64 q3)) (w7 : cs[off + 29]? = some (.int .i64 q4)) (w8 : cs[off + 30]? = some (.int .i64 q5))
    (hq : ∀ (t : Tk) X', t.sq x0 x1 x2 q0 q1 q2 q3 q4 q5 → t.ok X' → blkAt X' b4 = some ⟨setCells E 16 t.av, true⟩ → (∀ b k, b ≠ b4 → blkAt X b = some k → blkAt X' b = some k) → X.length ≤ X'.length → X.length ≤ t.xp → X.length ≤ t.pp → (∀ H, H.length ≤ b4 → Ext H X → Ext H X') →
      acs Try.prog (.lp c48l3 :: fs) [(0, .sl p off 38 1 cp), (2, .ptr b2 0), (4, .ptr b4 0), (6, .int .i64 3)] X' Q) :
    acs Try.prog (.lp c48l3 :: fs) [(0, .sl p off 38 1 cp), (2, .ptr b2 0), (4, .ptr b4 0), (6, .int .i64 2)] X Q := by
  have lp := blkAt_lt hp
  have l4 := blkAt_lt h4
  rw [acs_lp]; conv in Fr.code c48l3 => unfold c48l3
  simp (maxSteps:=1000000) (disch:=omega) only [go_sem, ↓reduceIte, reduceCtorEq, hp, w0, w1, w2, blkAt_lo, lp]
  first | refine callBE (f68) ?_ | refine callDE (f68) ?_ | refine callXE (f68) ?_
  rintro v Y hy ⟨pb, rfl, hpb, hl⟩
  have hXY : Ext X Y := (Ext.app _ _).trans hy
  have hpb : blkAt Y pb = some ⟨[.int .i64 0, .int .i64 0, .int .i64 0, .int .i64 0, .int .i64 0, .int .i64 0, .int .i64 0, .int .i64 0, .int .i64 0], true⟩ := hpb
  simp only [List.length_append, List.length_cons, List.length_nil] at hl
  have yp := hXY.blk hp
  have y4 := hXY.blk h4
  have lpb := blkAt_lt hpb
  have ly4 := blkAt_lt y4
  have lyp := blkAt_lt yp
  have y8 : blkAt Y X.length = some ⟨[.int .i64 3, .int .i64 1, .sl (X.length + 1) 0 3 1 (some 3)], true⟩ := hy.blk (by simp only [go_sem, ↓reduceIte, reduceCtorEq])
  have yr : blkAt Y (X.length + 1) = some ⟨[.int .i64 x0, .int .i64 x1, .int .i64 x2], true⟩ := hy.blk (by simp only [go_sem, ↓reduceIte, reduceCtorEq])
  have ly8 := blkAt_lt y8
  have np : pb ≠ p := by omega
  have n8 : pb ≠ X.length := by omega
  have n4 : pb ≠ b4 := by omega
  have A : ∀ x, blkAt (Y.set pb x) pb = x := fun x => blkAt_set_self lpb x
  have B : ∀ x, blkAt (Y.set pb x) p = some ⟨cs, oo⟩ := fun x => (blkAt_set_ne np x).trans yp
  have B8 : ∀ x, blkAt (Y.set pb x) X.length = some ⟨[.int .i64 3, .int .i64 1, .sl (X.length + 1) 0 3 1 (some 3)], true⟩ := fun x => (blkAt_set_ne n8 x).trans y8
  have B4 : ∀ x, blkAt (Y.set pb x) b4 = some ⟨E, true⟩ := fun x => (blkAt_set_ne n4 x).trans y4
  have C : ∀ x G c, c < Y.length → blkAt (Y.set pb x ++ G) c = blkAt (Y.set pb x) c := fun x G c h => blkAt_los G x h
  have Cn : ∀ x b9, blkAt (Y.set pb x ++ [b9]) Y.length = b9 := fun x b9 => by rw [show Y.length = (Y.set pb x).length by rw [List.length_set], blkAt_app0]; rfl
  have D : ∀ x G y, (Y.set pb x ++ G).set pb y = Y.set pb y ++ G := fun x G y => by rw [List.set_append_left _ _ (by rw [List.length_set]; exact lpb), List.set_set]
  simp (maxSteps:=1000000) (disch:=omega) only [go_sem, ↓reduceIte, reduceCtorEq, hp, w0, w1, w2, blkAt_lo, lp]
  rw [acs_lp]; conv in Fr.code c48l2 => unfold c48l2
  simp (maxSteps:=1000000) (disch:=omega) only [go_sem, ↓reduceIte, reduceCtorEq]
  rw [acs_lp]; conv in Fr.code c48l1 => unfold c48l1
  simp (maxSteps:=1000000) (disch:=omega) only [go_sem, ↓reduceIte, reduceCtorEq, yp, hpb, w3, w4, w5, w6, w7, w8, A, B, B4, B8, C, D, Cn, lpb, lyp, ly4, ly8, blkAt_lo, set_lo]
  rw [acs_lp]; conv in Fr.code c48l1 => unfold c48l1
  simp (maxSteps:=1000000) (disch:=omega) only [go_sem, ↓reduceIte, reduceCtorEq, yp, hpb, w3, w4, w5, w6, w7, w8, A, B, B4, B8, C, D, Cn, lpb, lyp, ly4, ly8, blkAt_lo, set_lo]
  rw [acs_lp]; conv in Fr.code c48l1 => unfold c48l1
  simp (maxSteps:=1000000) (disch:=omega) only [go_sem, ↓reduceIte, reduceCtorEq, yp, hpb, w3, w4, w5, w6, w7, w8, A, B, B4, B8, C, D, Cn, lpb, lyp, ly4, ly8, blkAt_lo, set_lo]
  rw [acs_lp]; conv in Fr.code c48l1 => unfold c48l1
  simp (maxSteps:=1000000) (disch:=omega) only [go_sem, ↓reduceIte, reduceCtorEq]
  rw [acs_lp]; conv in Fr.code c48l2 => unfold c48l2
  simp (maxSteps:=1000000) (disch:=omega) only [go_sem, ↓reduceIte, reduceCtorEq]
  rw [acs_lp]; conv in Fr.code c48l1 => unfold c48l1
  simp (maxSteps:=1000000) (disch:=omega) only [go_sem, ↓reduceIte, reduceCtorEq, yp, hpb, w3, w4, w5, w6, w7, w8, A, B, B4, B8, C, D, Cn, lpb, lyp, ly4, ly8, blkAt_lo, set_lo]
  rw [acs_lp]; conv in Fr.code c48l1 => unfold c48l1
  simp (maxSteps:=1000000) (disch:=omega) only [go_sem, ↓reduceIte, reduceCtorEq, yp, hpb, w3, w4, w5, w6, w7, w8, A, B, B4, B8, C, D, Cn, lpb, lyp, ly4, ly8, blkAt_lo, set_lo]
  rw [acs_lp]; conv in Fr.code c48l1 => unfold c48l1
  simp (maxSteps:=1000000) (disch:=omega) only [go_sem, ↓reduceIte, reduceCtorEq]
  rw [acs_lp]; conv in Fr.code c48l2 => unfold c48l2
  simp (maxSteps:=1000000) (disch:=omega) only [go_sem, ↓reduceIte, reduceCtorEq]
  rw [acs_lp]; conv in Fr.code c48l1 => unfold c48l1
  simp (maxSteps:=1000000) (disch:=omega) only [go_sem, ↓reduceIte, reduceCtorEq, yp, hpb, w3, w4, w5, w6, w7, w8, A, B, B4, B8, C, D, Cn, lpb, lyp, ly4, ly8, blkAt_lo, set_lo]
  rw [acs_lp]; conv in Fr.code c48l1 => unfold c48l1
  simp (maxSteps:=1000000) (disch:=omega) only [go_sem, ↓reduceIte, reduceCtorEq]
  rw [acs_lp]; conv in Fr.code c48l2 => unfold c48l2
  simp (maxSteps:=1000000) (disch:=omega) only [go_sem, ↓reduceIte, reduceCtorEq, yp, hpb, w3, w4, w5, w6, w7, w8, A, B, B4, B8, C, D, Cn, lpb, lyp, ly4, ly8, blkAt_lo, set_lo, hE]
  have eS : List.take 16 E ++ AV.int .i64 3 :: AV.int .i64 1 :: AV.sl (X.length + 1) 0 3 1 (some 3) :: AV.int .i64 3 :: AV.int .i64 3 :: AV.sl pb 0 9 1 none :: List.drop 22 E = setCells E 16 (⟨3, 1, [x0, x1, x2], X.length + 1, 0, some 3, 3, 3, [q0, q1, q2, q1, q3, q4, q2, q4, q5], pb, 0, none⟩ : Tk).av := by
    unfold setCells Tk.av
    rw [List.append_assoc]
    rfl
  rw [eS]
  have zl : ∀ (x b9 y : Option Blk) (b : Nat) (k : Blk), b ≠ b4 → b ≠ pb → blkAt Y b = some k → blkAt ((Y.set pb x ++ [b9]).set b4 y) b = some k := fun x b9 y b k h1 h2 hb => by
    have hlt := blkAt_lt hb
    rw [blkAt_set_ne (fun h => h1 h.symm), C _ _ _ hlt, blkAt_set_ne (fun h => h2 h.symm)]
    exact hb
  refine hq (⟨3, 1, [x0, x1, x2], X.length + 1, 0, some 3, 3, 3, [q0, q1, q2, q1, q3, q4, q2, q4, q5], pb, 0, none⟩ : Tk) _ ⟨rfl, rfl, rfl, rfl, rfl, rfl⟩ ⟨Sl.whole (o := true) (zl _ _ _ (X.length + 1) _ (by omega) (by omega) yr), Sl.whole (o := true) (by rw [blkAt_set_ne (fun h => n4 h.symm), C _ _ _ lpb, A]; rfl), by simp, by simp⟩ (blkAt_set_self (by rw [List.length_append, List.length_set]; omega) _) (fun b k hb hk => zl _ _ _ _ _ hb (by have := blkAt_lt hk; omega) (hXY.blk hk)) (by rw [List.length_set, List.length_append, List.length_set]; have := hXY.len; omega) (Nat.le_add_right _ _) (by show X.length ≤ pb; omega) (fun H hH hx => (((hx.trans hXY).set (by omega) _).to _).set hH _)

theorem f48x {u0 u1 u2 u3 u4 u5 u6 u7 u8 u9 u10 u11 u12 u13 u14 u15 u16 u17 u18 u19 u20 u21 u22 u23 u24 u25 u26 u27 u28 u29 u30 u31 u32 u33 u34 u35 u36 u37 : Int} {p off : Nat} {cp : Option Nat} {H : Heap} (hs : Sl i64 H p off [u0, u1, u2, u3, u4, u5, u6, u7, u8, u9, u10, u11, u12, u13, u14, u15, u16, u17, u18, u19, u20, u21, u22, u23, u24, u25, u26, u27, u28, u29, u30, u31, u32, u33, u34, u35, u36, u37]) :
    ACallE Try.prog 48 [.sl p off 38 1 cp] H fun v H' => Told [u0, u1, u2, u3, u4, u5, u6, u7, u8, u9, u10, u11, u12, u13, u14, u15, u16, u17, u18, u19, u20, u21, u22, u23, u24, u25, u26, u27, u28, u29, u30, u31, u32, u33, u34, u35, u36, u37] H v H' := by
  refine acallE (fun v Hf h => acallK48 (by simp) h) (acs_start ?_)
  have hlt := hs.lt
  obtain ⟨cs, oo, hp, hle, hcs⟩ := hs
  have hle2 : off + 38 ≤ cs.length := hle
  have wd0 : cs[off + 0]? = some (.int .i64 u0) := sl_get hcs rfl
  have wd1 : cs[off + 1]? = some (.int .i64 u1) := sl_get hcs rfl
  have wd2 : cs[off + 2]? = some (.int .i64 u2) := sl_get hcs rfl
  have wd3 : cs[off + 3]? = some (.int .i64 u3) := sl_get hcs rfl
  have wd4 : cs[off + 4]? = some (.int .i64 u4) := sl_get hcs rfl
  have wd5 : cs[off + 5]? = some (.int .i64 u5) := sl_get hcs rfl
  have wd6 : cs[off + 6]? = some (.int .i64 u6) := sl_get hcs rfl
  have wd7 : cs[off + 7]? = some (.int .i64 u7) := sl_get hcs rfl
  have wd8 : cs[off + 8]? = some (.int .i64 u8) := sl_get hcs rfl
  have wd9 : cs[off + 9]? = some (.int .i64 u9) := sl_get hcs rfl
  have wd10 : cs[off + 10]? = some (.int .i64 u10) := sl_get hcs rfl
  have wd11 : cs[off + 11]? = some (.int .i64 u11) := sl_get hcs rfl
  have wd12 : cs[off + 12]? = some (.int .i64 u12) := sl_get hcs rfl
  have wd13 : cs[off + 13]? = some (.int .i64 u13) := sl_get hcs rfl
  have wd14 : cs[off + 14]? = some (.int .i64 u14) := sl_get hcs rfl
  have wd15 : cs[off + 15]? = some (.int .i64 u15) := sl_get hcs rfl
  have wd16 : cs[off + 16]? = some (.int .i64 u16) := sl_get hcs rfl
  have wd17 : cs[off + 17]? = some (.int .i64 u17) := sl_get hcs rfl
  have wd18 : cs[off + 18]? = some (.int .i64 u18) := sl_get hcs rfl
  have wd19 : cs[off + 19]? = some (.int .i64 u19) := sl_get hcs rfl
  have wd20 : cs[off + 20]? = some (.int .i64 u20) := sl_get hcs rfl
  have wd21 : cs[off + 21]? = some (.int .i64 u21) := sl_get hcs rfl
  have wd22 : cs[off + 22]? = some (.int .i64 u22) := sl_get hcs rfl
  have wd23 : cs[off + 23]? = some (.int .i64 u23) := sl_get hcs rfl
  have wd24 : cs[off + 24]? = some (.int .i64 u24) := sl_get hcs rfl
  have wd25 : cs[off + 25]? = some (.int .i64 u25) := sl_get hcs rfl
  have wd26 : cs[off + 26]? = some (.int .i64 u26) := sl_get hcs rfl
  have wd27 : cs[off + 27]? = some (.int .i64 u27) := sl_get hcs rfl
  have wd28 : cs[off + 28]? = some (.int .i64 u28) := sl_get hcs rfl
  have wd29 : cs[off + 29]? = some (.int .i64 u29) := sl_get hcs rfl
  have wd30 : cs[off + 30]? = some (.int .i64 u30) := sl_get hcs rfl
  have wd31 : cs[off + 31]? = some (.int .i64 u31) := sl_get hcs rfl
  have wd32 : cs[off + 32]? = some (.int .i64 u32) := sl_get hcs rfl
  have wd33 : cs[off + 33]? = some (.int .i64 u33) := sl_get hcs rfl
  have wd34 : cs[off + 34]? = some (.int .i64 u34) := sl_get hcs rfl
  have wd35 : cs[off + 35]? = some (.int .i64 u35) := sl_get hcs rfl
  have wd36 : cs[off + 36]? = some (.int .i64 u36) := sl_get hcs rfl
  have wd37 : cs[off + 37]? = some (.int .i64 u37) := sl_get hcs rfl
  clear hcs hle
  have wd0 : cs[off]? = some (.int .i64 u0) := wd0
  generalize hW2 : ([u0, u1, u2, u3, u4, u5, u6, u7, u8, u9, u10, u11, u12, u13, u14, u15, u16, u17, u18, u19, u20, u21, u22, u23, u24, u25, u26, u27, u28, u29, u30, u31, u32, u33, u34, u35, u36, u37] : List Int) = W
  have z37 : W.getD 37 0 = u37 := by rw [← hW2]; rfl
  unfold c48
  simp (maxSteps:=1000000) (disch:=omega) only [go_sem, ↓reduceIte, reduceCtorEq, hp, wd0, wd1, wd2, wd3, blkAt_lo, hlt]
  rw [acs_lp]; conv in Fr.code c48l4 => unfold c48l4
  simp (maxSteps:=1000000) (disch:=omega) only [go_sem, ↓reduceIte, reduceCtorEq, hp, wd0, wd1, wd2, wd3, blkAt_lo, hlt]
  rw [acs_lp]; conv in Fr.code c48l4 => unfold c48l4
  simp (maxSteps:=1000000) (disch:=omega) only [go_sem, ↓reduceIte, reduceCtorEq, hp, wd0, wd1, wd2, wd3, blkAt_lo, hlt]
  rw [acs_lp]; conv in Fr.code c48l4 => unfold c48l4
  simp (maxSteps:=1000000) (disch:=omega) only [go_sem, ↓reduceIte, reduceCtorEq, hp, wd0, wd1, wd2, wd3, blkAt_lo, hlt]
  rw [acs_lp]; conv in Fr.code c48l4 => unfold c48l4
  simp (maxSteps:=1000000) (disch:=omega) only [go_sem, ↓reduceIte, reduceCtorEq, hp, wd0, wd1, wd2, wd3, blkAt_lo, hlt]
  rw [acs_lp]; conv in Fr.code c48l4 => unfold c48l4
  simp (maxSteps:=1000000) (disch:=omega) only [go_sem, ↓reduceIte, reduceCtorEq]
  have hp0 : blkAt (H ++ [some ⟨zEs, true⟩, some ⟨[.int .i64 u0, .int .i64 u1, .int .i64 u2, .int .i64 u3, .int .i64 0, .int .i64 0, .nils, .int .i64 0, .int .i64 0, .nils, .int .i64 0, .int .i64 0, .nils, .int .i64 0, .int .i64 0, .nils, .int .i64 0, .int .i64 0, .nils, .int .i64 0, .int .i64 0, .nils, .int .i64 0, .int .i64 0, .int .i64 0, .int .i64 0, .int .i64 0, .int .i64 0, .bool false], true⟩]) p = some ⟨cs, oo⟩ := by rw [blkAt_lo _ hlt]; exact hp
  have h20 : blkAt (H ++ [some ⟨zEs, true⟩, some ⟨[.int .i64 u0, .int .i64 u1, .int .i64 u2, .int .i64 u3, .int .i64 0, .int .i64 0, .nils, .int .i64 0, .int .i64 0, .nils, .int .i64 0, .int .i64 0, .nils, .int .i64 0, .int .i64 0, .nils, .int .i64 0, .int .i64 0, .nils, .int .i64 0, .int .i64 0, .nils, .int .i64 0, .int .i64 0, .int .i64 0, .int .i64 0, .int .i64 0, .int .i64 0, .bool false], true⟩]) H.length = some ⟨zEs, true⟩ := by rw [blkAt_app0]; rfl
  have h40 : blkAt (H ++ [some ⟨zEs, true⟩, some ⟨[.int .i64 u0, .int .i64 u1, .int .i64 u2, .int .i64 u3, .int .i64 0, .int .i64 0, .nils, .int .i64 0, .int .i64 0, .nils, .int .i64 0, .int .i64 0, .nils, .int .i64 0, .int .i64 0, .nils, .int .i64 0, .int .i64 0, .nils, .int .i64 0, .int .i64 0, .nils, .int .i64 0, .int .i64 0, .int .i64 0, .int .i64 0, .int .i64 0, .int .i64 0, .bool false], true⟩]) (H.length + 1) = some ⟨[.int .i64 u0, .int .i64 u1, .int .i64 u2, .int .i64 u3, .int .i64 0, .int .i64 0, .nils, .int .i64 0, .int .i64 0, .nils, .int .i64 0, .int .i64 0, .nils, .int .i64 0, .int .i64 0, .nils, .int .i64 0, .int .i64 0, .nils, .int .i64 0, .int .i64 0, .nils, .int .i64 0, .int .i64 0, .int .i64 0, .int .i64 0, .int .i64 0, .int .i64 0, .bool false], true⟩ := by rw [blkAt_app]; rfl
  have x0 : Ext H (H ++ [some ⟨zEs, true⟩, some ⟨[.int .i64 u0, .int .i64 u1, .int .i64 u2, .int .i64 u3, .int .i64 0, .int .i64 0, .nils, .int .i64 0, .int .i64 0, .nils, .int .i64 0, .int .i64 0, .nils, .int .i64 0, .int .i64 0, .nils, .int .i64 0, .int .i64 0, .nils, .int .i64 0, .int .i64 0, .nils, .int .i64 0, .int .i64 0, .int .i64 0, .int .i64 0, .int .i64 0, .int .i64 0, .bool false], true⟩]) := Ext.app _ _
  have l0 : (H ++ [(some ⟨zEs, true⟩ : Option Blk), (some ⟨[.int .i64 u0, .int .i64 u1, .int .i64 u2, .int .i64 u3, .int .i64 0, .int .i64 0, .nils, .int .i64 0, .int .i64 0, .nils, .int .i64 0, .int .i64 0, .nils, .int .i64 0, .int .i64 0, .nils, .int .i64 0, .int .i64 0, .nils, .int .i64 0, .int .i64 0, .nils, .int .i64 0, .int .i64 0, .int .i64 0, .int .i64 0, .int .i64 0, .int .i64 0, .bool false], true⟩ : Option Blk)]).length = H.length + 2 := by simp
  change acs Try.prog _ _ (H ++ [some ⟨zEs, true⟩, some ⟨[.int .i64 u0, .int .i64 u1, .int .i64 u2, .int .i64 u3, .int .i64 0, .int .i64 0, .nils, .int .i64 0, .int .i64 0, .nils, .int .i64 0, .int .i64 0, .nils, .int .i64 0, .int .i64 0, .nils, .int .i64 0, .int .i64 0, .nils, .int .i64 0, .int .i64 0, .nils, .int .i64 0, .int .i64 0, .int .i64 0, .int .i64 0, .int .i64 0, .int .i64 0, .bool false], true⟩]) _
  generalize H ++ [some ⟨zEs, true⟩, some ⟨[.int .i64 u0, .int .i64 u1, .int .i64 u2, .int .i64 u3, .int .i64 0, .int .i64 0, .nils, .int .i64 0, .int .i64 0, .nils, .int .i64 0, .int .i64 0, .nils, .int .i64 0, .int .i64 0, .nils, .int .i64 0, .int .i64 0, .nils, .int .i64 0, .int .i64 0, .nils, .int .i64 0, .int .i64 0, .int .i64 0, .int .i64 0, .int .i64 0, .int .i64 0, .bool false], true⟩] = X0 at *
  refine f48_ax0 hp0 h40 rfl (by omega) wd4 wd5 wd6 wd7 wd8 wd9 wd10 wd11 wd12 ?_
  intro t0 X1 sq0 ok0 h41 k0 ln1 nx0 np0 e0
  have hp1 := k0 p _ (by omega) hp0
  have h21 := k0 H.length _ (by omega) h20
  have x1 := e0 H (by omega) x0
  simp only [setCells, Tk.av, List.take_succ_cons, List.take_zero, List.drop_succ_cons, List.drop_zero, List.length_cons, List.length_nil, Nat.reduceAdd, List.cons_append, List.nil_append] at h41
  skip
  refine f48_ax1 hp1 h41 rfl (by omega) wd13 wd14 wd15 wd16 wd17 wd18 wd19 wd20 wd21 ?_
  intro t1 X2 sq1 ok1 h42 k1 ln2 nx1 np1 e1
  have hp2 := k1 p _ (by omega) hp1
  have h22 := k1 H.length _ (by omega) h21
  have x2 := e1 H (by omega) x1
  have ok0 := ok0.keep k1 (by omega) (by omega)
  simp only [setCells, Tk.av, List.take_succ_cons, List.take_zero, List.drop_succ_cons, List.drop_zero, List.length_cons, List.length_nil, Nat.reduceAdd, List.cons_append, List.nil_append] at h42
  skip
  refine f48_ax2 hp2 h42 rfl (by omega) wd22 wd23 wd24 wd25 wd26 wd27 wd28 wd29 wd30 ?_
  intro t2 X3 sq2 ok2 h43 k2 ln3 nx2 np2 e2
  have hp3 := k2 p _ (by omega) hp2
  have h23 := k2 H.length _ (by omega) h22
  have x3 := e2 H (by omega) x2
  have ok0 := ok0.keep k2 (by omega) (by omega)
  have ok1 := ok1.keep k2 (by omega) (by omega)
  simp only [setCells, Tk.av, List.take_succ_cons, List.take_zero, List.drop_succ_cons, List.drop_zero, List.length_cons, List.length_nil, Nat.reduceAdd, List.cons_append, List.nil_append] at h43
  skip
  have m4 := blkAt_lt h43
  have m2 := blkAt_lt h23
  have A4 : ∀ x, blkAt (X3.set (H.length + 1) x) (H.length + 1) = x := fun x => blkAt_set_self m4 x
  have Ap : ∀ x, blkAt (X3.set (H.length + 1) x) p = some ⟨cs, oo⟩ := fun x => (blkAt_set_ne (by omega) x).trans hp3
  have A2 : ∀ x, blkAt (X3.set (H.length + 1) x) H.length = some ⟨zEs, true⟩ := fun x => (blkAt_set_ne (by omega) x).trans h23
  rw [acs_lp]; conv in Fr.code c48l3 => unfold c48l3
  simp (maxSteps:=1000000) (disch:=omega) only [go_sem, ↓reduceIte, reduceCtorEq, hp3, h43, wd31, wd32, A4, Ap, List.set_set]
  rw [acs_lp]; conv in Fr.code c48l0 => unfold c48l0
  simp (maxSteps:=1000000) (disch:=omega) only [go_sem, ↓reduceIte, reduceCtorEq, hp3, h43, wd33, wd34, wd35, wd36, wd37, A4, Ap, List.set_set]
  rw [acs_lp]; conv in Fr.code c48l0 => unfold c48l0
  simp (maxSteps:=1000000) (disch:=omega) only [go_sem, ↓reduceIte, reduceCtorEq, hp3, h43, wd33, wd34, wd35, wd36, wd37, A4, Ap, List.set_set]
  rw [acs_lp]; conv in Fr.code c48l0 => unfold c48l0
  simp (maxSteps:=1000000) (disch:=omega) only [go_sem, ↓reduceIte, reduceCtorEq, hp3, h43, wd33, wd34, wd35, wd36, wd37, A4, Ap, List.set_set]
  rw [acs_lp]; conv in Fr.code c48l0 => unfold c48l0
  simp (maxSteps:=1000000) (disch:=omega) only [go_sem, ↓reduceIte, reduceCtorEq, hp3, h43, wd33, wd34, wd35, wd36, wd37, A4, Ap, List.set_set]
  rw [acs_lp]; conv in Fr.code c48l0 => unfold c48l0
  simp (maxSteps:=1000000) (disch:=omega) only [go_sem, ↓reduceIte, reduceCtorEq, hp3, h43, wd33, wd34, wd35, wd36, wd37, A4, Ap, List.set_set]
  generalize hsat : decide (u37 = 1) = sat at *
  have okE3 : Es.ok ⟨u0, u1, u2, u3, t0, t1, t2, u31, u32, u33, u34, u35, u36, sat⟩ X3 := ⟨ok0, ok1, ok2⟩
  have far : Es.far ⟨u0, u1, u2, u3, t0, t1, t2, u31, u32, u33, u34, u35, u36, sat⟩ X0.length := ⟨nx0, np0, by show X0.length ≤ t1.xp; omega, by show X0.length ≤ t1.pp; omega, by show X0.length ≤ t2.xp; omega, by show X0.length ≤ t2.pp; omega⟩
  have far' : Es.far ⟨u0, u1, u2, u3, t0, t1, t2, u31, u32, u33, u34, u35, u36, sat⟩ H.length := ⟨by have := far.ax; omega, by have := far.ap; omega, by have := far.bx; omega, by have := far.bp; omega, by have := far.cx; omega, by have := far.cp; omega⟩
  have fe : Es.eqv ⟨u0, u1, u2, u3, t0, t1, t2, u31, u32, u33, u34, u35, u36, sat⟩ (ofE W) := by rw [← hW2]; exact ⟨⟨rfl, rfl, rfl, rfl⟩, ⟨sq0.xr, sq0.xc, sq0.xl, sq0.pr, sq0.pc, sq0.pl⟩, ⟨sq1.xr, sq1.xc, sq1.xl, sq1.pr, sq1.pc, sq1.pl⟩, ⟨sq2.xr, sq2.xc, sq2.xl, sq2.pr, sq2.pc, sq2.pl⟩, ⟨rfl, rfl, rfl, rfl, rfl, rfl, hsat.symm⟩⟩
  have R2 : ∀ x y, blkAt ((X3.set (H.length + 1) x).set H.length y) H.length = y := fun x y => blkAt_set_self (by rw [List.length_set]; exact m2) y
  have z29 : zEs.length = 29 := rfl
  have zd : List.drop 29 zEs = [] := rfl
  have okS := fun x => okE3.setF far (b := H.length + 1) (by omega) x
  refine callB_intro (f11 (okS _)) ?_
  rw [fe.est]
  cases hE : estB (ofE W) with
  | false =>
    simp (maxSteps:=1000000) (disch:=omega) only [go_sem, ↓reduceIte, reduceCtorEq, A2, A4, m2, z29, zd]
    refine fin_e (by simp) (by simp (maxSteps:=1000000) (disch:=omega) only [resVal, resAll, resOne, rs48, Env.get, go_sem, ↓reduceIte, reduceCtorEq, R2] <;> rfl) ((x3.set (by omega) _).set (Nat.le_refl _) _) (.inr ⟨by unfold okW; rw [hE]; simp, rfl⟩)
  | true =>
    have fullF : (AV.agg (Es.av ⟨u0, u1, u2, u3, t0, t1, t2, u31, u32, u33, u34, u35, u36, sat⟩)).full = true := rfl
    by_cases n0 : u37 = 0
    · simp (maxSteps:=1000000) (disch:=omega) only [go_sem, ↓reduceIte, reduceCtorEq, A2, A4, Ap, m2, z29, zd, wd37, n0]
      refine fin_e (by simp) (by simp (maxSteps:=1000000) (disch:=omega) only [resVal, resAll, resOne, rs48, Env.get, go_sem, ↓reduceIte, reduceCtorEq, R2] <;> rfl) ((x3.set (by omega) _).set (Nat.le_refl _) _) (.inl ⟨by unfold okW; rw [z37, hE]; simp [n0], _, rfl, fe, (okS _).setF far (b := H.length) (by omega) _, far'⟩)
    · by_cases n1 : u37 = 1
      · simp (maxSteps:=1000000) (disch:=omega) only [go_sem, ↓reduceIte, reduceCtorEq, A2, A4, Ap, m2, z29, zd, wd37, n0, n1]
        refine fin_e (by simp) (by simp (maxSteps:=1000000) (disch:=omega) only [resVal, resAll, resOne, rs48, Env.get, go_sem, ↓reduceIte, reduceCtorEq, R2] <;> rfl) ((x3.set (by omega) _).set (Nat.le_refl _) _) (.inl ⟨by unfold okW; rw [z37, hE]; simp [n1], _, rfl, fe, (okS _).setF far (b := H.length) (by omega) _, far'⟩)
      · simp (maxSteps:=1000000) (disch:=omega) only [go_sem, ↓reduceIte, reduceCtorEq, A2, A4, Ap, m2, z29, zd, wd37, n0, n1]
        refine fin_e (by simp) (by simp (maxSteps:=1000000) (disch:=omega) only [resVal, resAll, resOne, rs48, Env.get, go_sem, ↓reduceIte, reduceCtorEq, R2] <;> rfl) ((x3.set (by omega) _).set (Nat.le_refl _) _) (.inr ⟨by unfold okW; rw [z37]; simp [n0, n1], rfl⟩)
theorem f48_any {W : List Int} {p off : Nat} {cp : Option Nat} {H : Heap} (hl : W.length = 38) (hs : Sl i64 H p off W) : ACallE Try.prog 48 [.sl p off 38 1 cp] H fun v H' => Told W H v H' := by
  rcases W with _ | ⟨u0, W⟩
  · exact absurd hl (by simp)
  rcases W with _ | ⟨u1, W⟩
  · exact absurd hl (by simp)
  rcases W with _ | ⟨u2, W⟩
  · exact absurd hl (by simp)
  rcases W with _ | ⟨u3, W⟩
  · exact absurd hl (by simp)
  rcases W with _ | ⟨u4, W⟩
  · exact absurd hl (by simp)
  rcases W with _ | ⟨u5, W⟩
  · exact absurd hl (by simp)
  rcases W with _ | ⟨u6, W⟩
  · exact absurd hl (by simp)
  rcases W with _ | ⟨u7, W⟩
  · exact absurd hl (by simp)
  rcases W with _ | ⟨u8, W⟩
  · exact absurd hl (by simp)
  rcases W with _ | ⟨u9, W⟩
  · exact absurd hl (by simp)
  rcases W with _ | ⟨u10, W⟩
  · exact absurd hl (by simp)
  rcases W with _ | ⟨u11, W⟩
  · exact absurd hl (by simp)
  rcases W with _ | ⟨u12, W⟩
  · exact absurd hl (by simp)
  rcases W with _ | ⟨u13, W⟩
  · exact absurd hl (by simp)
  rcases W with _ | ⟨u14, W⟩
  · exact absurd hl (by simp)
  rcases W with _ | ⟨u15, W⟩
  · exact absurd hl (by simp)
  rcases W with _ | ⟨u16, W⟩
  · exact absurd hl (by simp)
  rcases W with _ | ⟨u17, W⟩
  · exact absurd hl (by simp)
  rcases W with _ | ⟨u18, W⟩
  · exact absurd hl (by simp)
  rcases W with _ | ⟨u19, W⟩
  · exact absurd hl (by simp)
  rcases W with _ | ⟨u20, W⟩
  · exact absurd hl (by simp)
  rcases W with _ | ⟨u21, W⟩
  · exact absurd hl (by simp)
  rcases W with _ | ⟨u22, W⟩
  · exact absurd hl (by simp)
  rcases W with _ | ⟨u23, W⟩
  · exact absurd hl (by simp)
  rcases W with _ | ⟨u24, W⟩
  · exact absurd hl (by simp)
  rcases W with _ | ⟨u25, W⟩
  · exact absurd hl (by simp)
  rcases W with _ | ⟨u26, W⟩
  · exact absurd hl (by simp)
  rcases W with _ | ⟨u27, W⟩
  · exact absurd hl (by simp)
  rcases W with _ | ⟨u28, W⟩
  · exact absurd hl (by simp)
  rcases W with _ | ⟨u29, W⟩
  · exact absurd hl (by simp)
  rcases W with _ | ⟨u30, W⟩
  · exact absurd hl (by simp)
  rcases W with _ | ⟨u31, W⟩
  · exact absurd hl (by simp)
  rcases W with _ | ⟨u32, W⟩
  · exact absurd hl (by simp)
  rcases W with _ | ⟨u33, W⟩
  · exact absurd hl (by simp)
  rcases W with _ | ⟨u34, W⟩
  · exact absurd hl (by simp)
  rcases W with _ | ⟨u35, W⟩
  · exact absurd hl (by simp)
  rcases W with _ | ⟨u36, W⟩
  · exact absurd hl (by simp)
  rcases W with _ | ⟨u37, W⟩
  · exact absurd hl (by simp)
  rcases W with _ | ⟨z, W⟩
  · exact f48x hs
  · exact absurd hl (by simp)

structure Got (a b c : Int) (D : List Int) (n : Nat) (A : Nat → Bool) (s : Sn) : Prop where
  ok : s.ok
  mrk : ((∀ j, j < n → A j = false) ∧ s = Sn.new 0 0 0 0) ∨ (s.a = a ∧ s.b = b ∧ s.c = c ∧ s.d = (D.length : Int))
  has : ∀ j, j < 5 → s.h.getD j false = A j
  part : ∀ j, j < n → A j = true → chunk s.p j = row8 D j
theorem f21_bad {c0 c1 c2 c3 c4 c5 : Int} {s : Sn} {H : Heap} (hm : mayB c0 c1 c2 c3 c4 c5 = true) (hs : s.ok) (hk : mrkB s.a s.b s.c s.d = false) :
    ACallE Try.prog 21 [.agg [.int .i64 c0, .int .i64 c1, .int .i64 c2, .int .i64 c3, .int .i64 c4, .int .i64 c5], .agg s.av] H fun v H' => v = .tup [.agg zEs, .bool false] := by
  refine acallE (fun v Hf h => acallK21 (by simp) h) (acs_start ?_)
  have len := Sn.len hs
  have full := s.full
  have all := s.all
  have tk := Sn.tk hs
  have drp := Sn.drp hs
  have t4 : List.take 4 s.av = [.int .i64 s.a, .int .i64 s.b, .int .i64 s.c, .int .i64 s.d] := rfl
  have g17 := fun (G : Heap) => f17 (a := s.a) (b := s.b) (c := s.c) (d := s.d) (H := G)
  rw [hk] at g17
  unfold c21
  simp (maxSteps:=1000000) (disch:=omega) only [go_sem, ↓reduceIte, reduceCtorEq, full, len, all, tk, drp]
  first | refine callBE (f31 hm) ?_ | refine callDE (f31 hm) ?_ | refine callXE (f31 hm) ?_
  rintro v X hx ⟨q, rfl, hq, hql⟩
  have hX : Ext H X := (Ext.app _ _).trans hx
  have b1 : blkAt X (H.length + 1) = some ⟨s.av, true⟩ := hx.blk (by simp only [go_sem, ↓reduceIte, reduceCtorEq])
  have b2 : blkAt X (H.length + 2) = some ⟨zEs, true⟩ := hx.blk (by simp only [go_sem, ↓reduceIte, reduceCtorEq]; rfl)
  have l1 := blkAt_lt b1
  have l2 := blkAt_lt b2
  simp (maxSteps:=1000000) (disch:=omega) only [go_sem, ↓reduceIte, reduceCtorEq, b1, l1, len, t4, blkAt_lo]
  first | refine callB_intro (g17 _) ?_ | refine callD_intro (g17 _) ?_ | refine callP_intro (fun _ => (g17 _)) ?_ | refine callX_pure (g17 _) ?_
  have z29 : zEs.length = 29 := rfl
  have zd : List.drop 29 zEs = [] := rfl
  simp (maxSteps:=1000000) (disch:=omega) only [go_sem, ↓reduceIte, reduceCtorEq, b1, l1, b2, l2, z29, zd]
  refine fin_e (by simp) (by simp (maxSteps:=1000000) (disch:=omega) only [resVal, resAll, resOne, rs21, Env.get, go_sem, ↓reduceIte, reduceCtorEq, blkAt_set_self l2] <;> rfl) (hX.set (by omega) _) rfl

theorem f24 {s : Sn} {a b c d i : Int} {q : List Int} {H : Heap} (hs : s.ok) (hq : q.length = 8) : ACall Try.prog 24 [.agg s.av, .agg [.int .i64 a, .int .i64 b, .int .i64 c, .int .i64 d], .int .i64 i, .agg (q.map (AV.int .i64))] H (.agg (takeS s a b c d i q).av) H := by
  refine acall24 (by simp) (acs_start ?_)
  have len := Sn.len hs
  have full := s.full
  have all := s.all
  have tk := Sn.tk hs
  have drp := Sn.drp hs
  have t4 : List.take 4 s.av = [.int .i64 s.a, .int .i64 s.b, .int .i64 s.c, .int .i64 s.d] := rfl
  have z0 : s.av[0]? = some (.int .i64 s.a) := rfl
  have z1 : s.av[1]? = some (.int .i64 s.b) := rfl
  have z2 : s.av[2]? = some (.int .i64 s.c) := rfl
  have fullq : (AV.agg (q.map (AV.int .i64))).full = true := all_int q
  have allq := all_int q
  have lenq : (q.map (AV.int .i64)).length = 8 := by rw [List.length_map, hq]
  have tkq : List.take 8 (q.map (AV.int .i64)) = q.map (AV.int .i64) := List.take_of_length_le (by omega)
  have drpq : List.drop 8 (q.map (AV.int .i64)) = [] := List.drop_of_length_le (by omega)
  have g17 := fun G => f19 (a := a) (b := b) (c := c) (d := d) (H := H ++ G)
  unfold c24
  cases hm : mrkB a b c d with
  | false =>
    have e : takeS s a b c d i q = s := by unfold takeS; simp [hm]
    rw [e]
    rw [hm] at g17
    simp (maxSteps:=1000000) (disch:=omega) only [go_sem, ↓reduceIte, reduceCtorEq, full, len, all, tk, drp, fullq, allq, tkq, drpq]
    first | refine callB_intro (g17 _) ?_ | refine callD_intro (g17 _) ?_ | refine callP_intro (fun _ => (g17 _)) ?_ | refine callX_pure (g17 _) ?_
    simp (maxSteps:=1000000) (disch:=omega) only [go_sem, ↓reduceIte, reduceCtorEq, full, len, all, tk, drp]
    exact fin_ext (by simp) (Ext.app _ _) (by simp (maxSteps:=1000000) (disch:=omega) only [resVal, resAll, resOne, rs24, Env.get, go_sem, ↓reduceIte, reduceCtorEq, len, full, all, tk, drp]) (Sn.unds _ _)
  | true =>
    rw [hm] at g17
    have d39 := mrkB_d39 hm
    have eq8 : (d + 7).tdiv 8 = (d + 7) / 8 := by rw [Int.tdiv_eq_ediv_of_nonneg (by omega)]
    by_cases i0 : i < 0
    · have e : takeS s a b c d i q = s := by unfold takeS; rw [if_neg (by omega)]
      rw [e]
      simp (maxSteps:=1000000) (disch:=omega) only [go_sem, ↓reduceIte, reduceCtorEq, full, len, all, tk, drp, fullq, allq, tkq, drpq]
      first | refine callB_intro (g17 _) ?_ | refine callD_intro (g17 _) ?_ | refine callP_intro (fun _ => (g17 _)) ?_ | refine callX_pure (g17 _) ?_
      simp (maxSteps:=1000000) (disch:=omega) only [go_sem, ↓reduceIte, reduceCtorEq, full, len, all, tk, drp, eq8, i0]
      exact fin_ext (by simp) (Ext.app _ _) (by simp (maxSteps:=1000000) (disch:=omega) only [resVal, resAll, resOne, rs24, Env.get, go_sem, ↓reduceIte, reduceCtorEq, len, full, all, tk, drp]) (Sn.unds _ _)
    by_cases i1 : (d + 7) / 8 ≤ i
    · have e : takeS s a b c d i q = s := by unfold takeS; rw [if_neg (by omega)]
      rw [e]
      simp (maxSteps:=1000000) (disch:=omega) only [go_sem, ↓reduceIte, reduceCtorEq, full, len, all, tk, drp, fullq, allq, tkq, drpq]
      first | refine callB_intro (g17 _) ?_ | refine callD_intro (g17 _) ?_ | refine callP_intro (fun _ => (g17 _)) ?_ | refine callX_pure (g17 _) ?_
      simp (maxSteps:=1000000) (disch:=omega) only [go_sem, ↓reduceIte, reduceCtorEq, full, len, all, tk, drp, eq8, i0, i1]
      exact fin_ext (by simp) (Ext.app _ _) (by simp (maxSteps:=1000000) (disch:=omega) only [resVal, resAll, resOne, rs24, Env.get, go_sem, ↓reduceIte, reduceCtorEq, len, full, all, tk, drp]) (Sn.unds _ _)
    have i2 : 0 ≤ i := by omega
    have i3 : i < 5 := by omega
    have i4 : i.toNat < 5 := by omega
    have i5 : i.toNat + 1 ≤ 45 := by omega
    have i6 : 4 + (i.toNat + 1) ≤ 49 := by omega
    have i7 : 9 + (i.toNat * 8 + 8) ≤ 49 := by omega
    simp (maxSteps:=1000000) (disch:=omega) only [go_sem, ↓reduceIte, reduceCtorEq, full, len, all, tk, drp, fullq, allq, tkq, drpq, lenq]
    first | refine callB_intro (g17 _) ?_ | refine callD_intro (g17 _) ?_ | refine callP_intro (fun _ => (g17 _)) ?_ | refine callX_pure (g17 _) ?_
    by_cases h4 : a = s.a ∧ b = s.b ∧ c = s.c ∧ d = s.d
    · obtain ⟨rfl, rfl, rfl, rfl⟩ := h4
      have e : takeS s s.a s.b s.c s.d i q = s.put i.toNat q := by unfold takeS; rw [if_pos ⟨hm, i2, by omega⟩, if_pos ⟨rfl, rfl, rfl, rfl⟩]
      have p1 := Sn.put1 hs i4
      have ok1 : ({ s with h := s.h.set i.toNat true } : Sn).ok := ⟨by simp [hs.h], hs.p⟩
      have p2 := Sn.put2 ok1 i4 hq
      have eq : ({ ({ s with h := s.h.set i.toNat true } : Sn) with p := ({ s with h := s.h.set i.toNat true } : Sn).p.take (i.toNat * 8) ++ q ++ ({ s with h := s.h.set i.toNat true } : Sn).p.drop (i.toNat * 8 + 8) } : Sn) = s.put i.toNat q := rfl
      rw [eq] at p2
      simp only [setCells, List.length_cons, List.length_nil, Nat.zero_add, lenq, Nat.add_assoc, List.append_assoc, List.cons_append, List.nil_append] at p1 p2
      rw [e]
      have okP := Sn.put_ok hs i4 hq
      have lenP := Sn.len okP
      have fullP := (s.put i.toNat q).full
      have allP := (s.put i.toNat q).all
      have tkP := Sn.tk okP
      have drpP := Sn.drp okP
      have len1 := Sn.len ok1
      simp (maxSteps:=1000000) (disch:=omega) only [go_sem, ↓reduceIte, reduceCtorEq, full, len, all, tk, drp, fullq, allq, tkq, drpq, lenq, eq8, i0, i1, i2, i3, i6, i7, t4, z0, z1, z2, Bool.false_and, Bool.true_and, Bool.and_true, Bool.and_false, p1, p2, lenP, fullP, allP, tkP, drpP, len1]
      exact fin_ext (by simp) (Ext.app _ _) (by simp (maxSteps:=1000000) (disch:=omega) only [resVal, resAll, resOne, rs24, Env.get, go_sem, ↓reduceIte, reduceCtorEq, lenP, fullP, allP, tkP, drpP]) (Sn.unds _ _)
    · have okN := Sn.new_ok a b c d
      by_cases h5 : a = s.a ∧ b = s.b ∧ c < s.c
      · have e : takeS s a b c d i q = s := by unfold takeS; rw [if_pos ⟨hm, i2, by omega⟩, if_neg h4, if_pos h5]
        rw [e]
        obtain ⟨rfl, rfl, h6⟩ := h5
        have h7 : ¬ c = s.c := by omega
        simp (maxSteps:=1000000) (disch:=omega) only [go_sem, ↓reduceIte, reduceCtorEq, full, len, all, tk, drp, fullq, allq, tkq, drpq, lenq, eq8, i0, i1, i2, i3, i6, i7, t4, z0, z1, z2, Bool.false_and, Bool.true_and, Bool.and_true, Bool.and_false, h6, h7]
        exact fin_ext (by simp) (Ext.app _ _) (by simp (maxSteps:=1000000) (disch:=omega) only [resVal, resAll, resOne, rs24, Env.get, go_sem, ↓reduceIte, reduceCtorEq, len, full, all, tk, drp]) (Sn.unds _ _)
      · have e : takeS s a b c d i q = (Sn.new a b c d).put i.toNat q := by unfold takeS; rw [if_pos ⟨hm, i2, by omega⟩, if_neg h4, if_neg h5]
        rw [e]
        have p1 := Sn.put1 okN i4
        have ok1 : ({ Sn.new a b c d with h := (Sn.new a b c d).h.set i.toNat true } : Sn).ok := ⟨by simp [okN.h], okN.p⟩
        have p2 := Sn.put2 ok1 i4 hq
        have eq : ({ ({ Sn.new a b c d with h := (Sn.new a b c d).h.set i.toNat true } : Sn) with p := ({ Sn.new a b c d with h := (Sn.new a b c d).h.set i.toNat true } : Sn).p.take (i.toNat * 8) ++ q ++ ({ Sn.new a b c d with h := (Sn.new a b c d).h.set i.toNat true } : Sn).p.drop (i.toNat * 8 + 8) } : Sn) = (Sn.new a b c d).put i.toNat q := rfl
        rw [eq] at p2
        simp only [setCells, List.length_cons, List.length_nil, Nat.zero_add, lenq, Nat.add_assoc, List.append_assoc, List.cons_append, List.nil_append] at p1 p2
        have okP := Sn.put_ok okN i4 hq
        have lenP := Sn.len okP
        have fullP := ((Sn.new a b c d).put i.toNat q).full
        have allP := ((Sn.new a b c d).put i.toNat q).all
        have tkP := Sn.tk okP
        have drpP := Sn.drp okP
        have len1 := Sn.len ok1
        have lenN := Sn.len okN
        have allN := (Sn.new a b c d).all
        have nw : [AV.int .i64 a, .int .i64 b, .int .i64 c, .int .i64 d, .bool false, .bool false, .bool false, .bool false, .bool false, .int .i64 0, .int .i64 0, .int .i64 0, .int .i64 0, .int .i64 0, .int .i64 0, .int .i64 0, .int .i64 0, .int .i64 0, .int .i64 0, .int .i64 0, .int .i64 0, .int .i64 0, .int .i64 0, .int .i64 0, .int .i64 0, .int .i64 0, .int .i64 0, .int .i64 0, .int .i64 0, .int .i64 0, .int .i64 0, .int .i64 0, .int .i64 0, .int .i64 0, .int .i64 0, .int .i64 0, .int .i64 0, .int .i64 0, .int .i64 0, .int .i64 0, .int .i64 0, .int .i64 0, .int .i64 0, .int .i64 0, .int .i64 0, .int .i64 0, .int .i64 0, .int .i64 0, .int .i64 0] = (Sn.new a b c d).av := rfl
        by_cases ea : a = s.a
        · subst ea
          by_cases eb : b = s.b
          · subst eb
            have h6 : ¬ c < s.c := fun hh => h5 ⟨rfl, rfl, hh⟩
            by_cases ec : c = s.c
            · subst ec
              have ed : ¬ d = s.d := fun hh => h4 ⟨rfl, rfl, rfl, hh⟩
              simp (maxSteps:=1000000) (disch:=omega) only [go_sem, ↓reduceIte, reduceCtorEq, full, len, all, tk, drp, allN, fullq, allq, tkq, drpq, lenq, eq8, i0, i1, i2, i3, i6, i7, t4, z0, z1, z2, Bool.false_and, Bool.true_and, Bool.and_true, Bool.and_false, p1, p2, lenP, fullP, allP, tkP, drpP, len1, lenN, nw, ed, h6]
              exact fin_ext (by simp) (Ext.app _ _) (by simp (maxSteps:=1000000) (disch:=omega) only [resVal, resAll, resOne, rs24, Env.get, go_sem, ↓reduceIte, reduceCtorEq, lenP, fullP, allP, tkP, drpP]) (Sn.unds _ _)
            · simp (maxSteps:=1000000) (disch:=omega) only [go_sem, ↓reduceIte, reduceCtorEq, full, len, all, tk, drp, allN, fullq, allq, tkq, drpq, lenq, eq8, i0, i1, i2, i3, i6, i7, t4, z0, z1, z2, Bool.false_and, Bool.true_and, Bool.and_true, Bool.and_false, p1, p2, lenP, fullP, allP, tkP, drpP, len1, lenN, nw, ec, h6]
              exact fin_ext (by simp) (Ext.app _ _) (by simp (maxSteps:=1000000) (disch:=omega) only [resVal, resAll, resOne, rs24, Env.get, go_sem, ↓reduceIte, reduceCtorEq, lenP, fullP, allP, tkP, drpP]) (Sn.unds _ _)
          · simp (maxSteps:=1000000) (disch:=omega) only [go_sem, ↓reduceIte, reduceCtorEq, full, len, all, tk, drp, allN, fullq, allq, tkq, drpq, lenq, eq8, i0, i1, i2, i3, i6, i7, t4, z0, z1, z2, Bool.false_and, Bool.true_and, Bool.and_true, Bool.and_false, p1, p2, lenP, fullP, allP, tkP, drpP, len1, lenN, nw, eb]
            exact fin_ext (by simp) (Ext.app _ _) (by simp (maxSteps:=1000000) (disch:=omega) only [resVal, resAll, resOne, rs24, Env.get, go_sem, ↓reduceIte, reduceCtorEq, lenP, fullP, allP, tkP, drpP]) (Sn.unds _ _)
        · simp (maxSteps:=1000000) (disch:=omega) only [go_sem, ↓reduceIte, reduceCtorEq, full, len, all, tk, drp, allN, fullq, allq, tkq, drpq, lenq, eq8, i0, i1, i2, i3, i6, i7, t4, z0, z1, z2, Bool.false_and, Bool.true_and, Bool.and_true, Bool.and_false, p1, p2, lenP, fullP, allP, tkP, drpP, len1, lenN, nw, ea]
          exact fin_ext (by simp) (Ext.app _ _) (by simp (maxSteps:=1000000) (disch:=omega) only [resVal, resAll, resOne, rs24, Env.get, go_sem, ↓reduceIte, reduceCtorEq, lenP, fullP, allP, tkP, drpP]) (Sn.unds _ _)

def c67t : SC := tl2 (tl2 (tl2 c67))
theorem f67_loop (x : Int) (i : Nat) (H : Heap) (hi : i ≤ 64) : ∀ (m k : Nat), k + m = i →
    acs Try.prog [.lp c67l0, .blk 0, .code c67t] [(1, .int .i64 (i : Nat)), (5, .int .u64 ((u64 x / 2 ^ k : Nat) : Int)), (6, .int .i64 (k : Nat))] H (Fin H rs67 (.bool (wb x i)) H) := by
  have hu := u64_lt x
  intro m
  induction m with
  | zero =>
    intro k hk
    obtain rfl : k = i := by omega
    unfold wb
    have hv : u64 x / 2 ^ k < 18446744073709551616 := Nat.lt_of_le_of_lt (Nat.div_le_self _ _) hu
    generalize u64 x / 2 ^ k = v at *
    have hm : (v : Int).tmod 2 = ((v % 2 : Nat) : Int) := by rw [Int.tmod_eq_emod_of_nonneg (by omega)]; omega
    have hd : decide (((v % 2 : Nat) : Int) = 1) = decide (v % 2 = 1) := decide_eq_decide.2 (by omega)
    have e : AV.bool (decide (((v % 2 : Nat) : Int) = 1)) = AV.bool (decide (v % 2 = 1)) := by rw [hd]
    have hlt : ¬ (k : Int) < (k : Int) := by omega
    rw [acs_lp]; conv in Fr.code c67l0 => unfold c67l0
    simp (maxSteps:=1000000) (disch:=omega) only [go_sem, ↓reduceIte, reduceCtorEq, hlt]
    unfold c67t c67 tl2
    simp (maxSteps:=1000000) (disch:=omega) only [go_sem, ↓reduceIte, reduceCtorEq, hm, u64_in, e]
    exact fin_same (by simp) _ (by first | exact (List.append_nil _).symm | rfl) (by simp (maxSteps:=1000000) (disch:=omega) only [resVal, resAll, resOne, rs67, Env.get, go_sem, ↓reduceIte, reduceCtorEq]) (by simp only [AV.und, AV.unds, and_self])
  | succ m ih =>
    intro k hk
    have next := ih (k + 1) (by omega)
    have hlt : (k : Int) < (i : Int) := by omega
    have hv : u64 x / 2 ^ k < 18446744073709551616 := Nat.lt_of_le_of_lt (Nat.div_le_self _ _) hu
    rw [show u64 x / 2 ^ (k + 1) = u64 x / 2 ^ k / 2 by rw [Nat.div_div_eq_div_mul, Nat.pow_succ]] at next
    generalize u64 x / 2 ^ k = v at *
    have hm : (v : Int).tdiv 2 = ((v / 2 : Nat) : Int) := by rw [Int.tdiv_eq_ediv_of_nonneg (by omega)]; omega
    clear ih
    simp only [List.append_assoc, List.cons_append, List.nil_append, List.length_append, List.length_cons, List.length_nil, Nat.reduceAdd, Nat.add_assoc, Nat.zero_add, Nat.add_zero, Int.natCast_add, Int.cast_ofNat_Int, ] at next
    rw [acs_lp]; conv in Fr.code c67l0 => unfold c67l0
    simp (maxSteps:=1000000) (disch:=omega) only [go_sem, ↓reduceIte, reduceCtorEq, hlt, hm, u64_in]
    exact next
theorem f67 (x : Int) (i : Nat) (H : Heap) (hi : i ≤ 64) : ACall Try.prog 67 [.int .i64 x, .int .i64 (i : Nat)] H (.bool (wb x i)) H := by
  refine acall67 (by simp) (acs_start ?_)
  have go := f67_loop x i H hi i 0 (by omega)
  rw [Nat.pow_zero, Nat.div_one, ← u64_cast] at go
  unfold c67t c67 tl2 at go
  unfold c67
  simp only [List.append_assoc, List.cons_append, List.nil_append, List.length_append, List.length_cons, List.length_nil, Nat.reduceAdd, Nat.add_assoc, Nat.zero_add, Nat.add_zero, Int.natCast_add, Int.cast_ofNat_Int, ] at go
  simp (maxSteps:=1000000) (disch:=omega) only [go_sem, ↓reduceIte, reduceCtorEq]
  exact go

def rp (bs d : List Int) : Nat → Nat → Nat → List Int → Option (List Int)
  | 0, _, at', out => if at' < d.length then none else some out
  | m + 1, i, at', out =>
    if 60 ≤ i % 64 ∨ bs.length ≤ 60 * (i / 64) + i % 64 then (if wb (d.getD (i / 64) 0) (i % 64) then none else rp bs d m (i + 1) at' out)
    else if wb (d.getD (i / 64) 0) (i % 64) then (if d.length ≤ at' ∨ d.getD at' 0 = bs.getD (60 * (i / 64) + i % 64) 0 then none else rp bs d m (i + 1) (at' + 1) (out ++ [d.getD at' 0]))
    else rp bs d m (i + 1) at' (out ++ [bs.getD (60 * (i / 64) + i % 64) 0])
def Grow (H G' : Heap) (v : AV) (out : List Int) : Prop :=
  (v = .nils ∧ out = []) ∨ (out ≠ [] ∧ ∃ G, G' = G ++ [some ⟨out.map (AV.int .i64), true⟩] ∧ v = .sl (H.length + G.length) 0 out.length 1 none)
def Q17 (H : Heap) : Option (List Int) → Post
  | none => Fin H rs47 (.tup [.nils, .int .i64 2]) H
  | some [] => Fin H rs47 (.tup [.nils, .int .i64 0]) H
  | some R => FinW H rs47 (.tup [.sl H.length 0 R.length 1 none, .int .i64 0]) (H ++ [some ⟨R.map (AV.int .i64), false⟩])
def e47 (p q oq L m : Nat) (c1 c2 : Option Nat) (n : Nat) (v : AV) (a i : Nat) : Env := [(0, .sl p 0 L 1 c1), (1, .sl q oq m 1 c2), (6, .int .i64 (n : Nat)), (7, v), (8, .int .i64 (a : Nat)), (9, .int .i64 (i : Nat))]
def c47t : SC := tl2 (tl2 (tl2 (tl2 (tl2 (tl2 (tl2 c47))))))
theorem f47_end {bs d : List Int} {p q oq n : Nat} {c1 c2 : Option Nat} {H : Heap} (hdl : d.length ≤ 100000) (hn : n ≤ 10) {a i : Nat} {v : AV} {out : List Int} {G' : Heap} (hi : i = 64 * n) (ha : a ≤ d.length) (hG : Grow H G' v out) :
    acs Try.prog [.lp c47l0, .blk 0, .code c47t] (e47 p q oq bs.length d.length c1 c2 n v a i) (H ++ G') (Q17 H (rp bs d 0 i a out)) := by
  have hlt : ¬ (i : Int) < 64 * (n : Int) := by omega
  unfold rp
  by_cases h : a < d.length
  · rw [if_pos h]
    have h' : (a : Int) < (d.length : Int) := by omega
    unfold e47 Q17
    rw [acs_lp]; conv in Fr.code c47l0 => unfold c47l0
    simp (maxSteps:=1000000) (disch:=omega) only [go_sem, ↓reduceIte, reduceCtorEq, hlt]
    unfold c47t c47 tl2
    simp (maxSteps:=1000000) (disch:=omega) only [go_sem, ↓reduceIte, reduceCtorEq, h']
    exact fin_same (by simp) _ (by first | exact (List.append_nil _).symm | rfl) (by simp (maxSteps:=1000000) (disch:=omega) only [resVal, resAll, resOne, rs47, Env.get, go_sem, ↓reduceIte, reduceCtorEq]) (by simp only [AV.und, AV.unds, and_self])
  · rw [if_neg h]
    have h' : ¬ (a : Int) < (d.length : Int) := by omega
    unfold e47
    rw [acs_lp]; conv in Fr.code c47l0 => unfold c47l0
    rcases hG with ⟨rfl, rfl⟩ | ⟨hne, G, rfl, rfl⟩
    · unfold Q17
      simp (maxSteps:=1000000) (disch:=omega) only [go_sem, ↓reduceIte, reduceCtorEq, hlt]
      unfold c47t c47 tl2
      simp (maxSteps:=1000000) (disch:=omega) only [go_sem, ↓reduceIte, reduceCtorEq, h']
      exact fin_same (by simp) _ (by first | exact (List.append_nil _).symm | rfl) (by simp (maxSteps:=1000000) (disch:=omega) only [resVal, resAll, resOne, rs47, Env.get, go_sem, ↓reduceIte, reduceCtorEq]) (by simp only [AV.und, AV.unds, and_self])
    · cases out with
      | nil => exact absurd rfl hne
      | cons x r =>
        unfold Q17
        generalize x :: r = out at *
        simp (maxSteps:=1000000) (disch:=omega) only [go_sem, ↓reduceIte, reduceCtorEq, hlt]
        unfold c47t c47 tl2
        simp (maxSteps:=1000000) (disch:=omega) only [go_sem, ↓reduceIte, reduceCtorEq, h']
        refine ⟨.tup [.sl H.length 0 out.length 1 none, .int .i64 0], (fun _ _ h => h), fin_oneF (o := true) (G ++ [some ⟨out.map (AV.int .i64), true⟩]) G.length (out.map (AV.int .i64)) (by simp) rfl (by simp) (undMap _) (by simp only [resVal, resAll, resOne, rs47, Env.get, go_sem, ↓reduceIte, reduceCtorEq]; rfl) (by simp [AV.ren, AV.rens]) (by simp [AV.und, AV.unds])⟩
theorem f47_loop {bs d : List Int} {p q oq n : Nat} {c1 c2 : Option Nat} {H : Heap} (hp : Sl i64 H p 0 bs) (hq : Sl i64 H q oq d) (hdl : d.length ≤ 100000) (hn : n ≤ 10) (hnd : n ≤ d.length) :
    ∀ (m i a : Nat) (v : AV) (out : List Int) (G' : Heap), i + m = 64 * n → a ≤ d.length → out.length ≤ i → Grow H G' v out →
    acs Try.prog [.lp c47l0, .blk 0, .code c47t] (e47 p q oq bs.length d.length c1 c2 n v a i) (H ++ G') (Q17 H (rp bs d m i a out)) := by
  intro m
  induction m with
  | zero =>
    intro i a v out G' hi ha _ hG
    exact f47_end hdl hn (by omega) ha hG
  | succ m ih =>
    intro i a v out G' hi ha ho hG
    have hpl := hp.lt
    have hql := hq.lt
    obtain ⟨cs, o, hp, hle, hcs⟩ := hp
    obtain ⟨ds, o2, hq, hle2, hds⟩ := hq
    have hlt : (i : Int) < 64 * (n : Int) := by omega
    have hd : (i : Int).tdiv 64 = ((i / 64 : Nat) : Int) := by rw [Int.tdiv_eq_ediv_of_nonneg (by omega)]; omega
    have hm : (i : Int).tmod 64 = ((i % 64 : Nat) : Int) := by rw [Int.tmod_eq_emod_of_nonneg (by omega)]; omega
    have hi64 : ((i / 64 : Nat) : Int) < (d.length : Int) := by omega
    have fm : ds[oq + i / 64]? = some (.int .i64 (d.getD (i / 64) 0)) := sl_get hds (by rw [List.getD_eq_getElem?_getD, List.getElem?_eq_getElem (by omega)]; simp)
    have g := fun H => f67 (d.getD (i / 64) 0) (i % 64) H (by omega)
    rw [rp]
    generalize d.getD (i / 64) 0 = mm at *
    generalize wb mm (i % 64) = w at *
    by_cases hs : 60 ≤ i % 64 ∨ bs.length ≤ 60 * (i / 64) + i % 64
    · rw [if_pos hs]
      have hs' : (60 : Int) ≤ ((i % 64 : Nat) : Int) ∨ (¬ (60 : Int) ≤ ((i % 64 : Nat) : Int) ∧ (bs.length : Int) ≤ 60 * ((i / 64 : Nat) : Int) + ((i % 64 : Nat) : Int)) := by omega
      have hb60 : 60 * ((i / 64 : Nat) : Int) + ((i % 64 : Nat) : Int) ≤ 100000 := by omega
      cases w with
      | true =>
        simp only [if_true]
        unfold e47 Q17
        clear ih hG
        generalize i / 64 = i1 at *
        generalize i % 64 = i2 at *
        rcases hs' with h | ⟨h, h2⟩
        · rw [acs_lp]; conv in Fr.code c47l0 => unfold c47l0
          simp (maxSteps:=1000000) (disch:=omega) only [go_sem, ↓reduceIte, reduceCtorEq, hlt, hd, hm, hi64, hql, hq, blkAt_lo, fm]
          first | refine callB_intro (g _) ?_ | refine callD_intro (g _) ?_ | refine callP_intro (fun _ => (g _)) ?_ | refine callX_pure (g _) ?_
          simp (maxSteps:=1000000) (disch:=omega) only [go_sem, ↓reduceIte, reduceCtorEq, h]
          exact fin_same (by simp) _ (by first | exact (List.append_nil _).symm | rfl) (by simp (maxSteps:=1000000) (disch:=omega) only [resVal, resAll, resOne, rs47, Env.get, go_sem, ↓reduceIte, reduceCtorEq]) (by simp only [AV.und, AV.unds, and_self])
        · rw [acs_lp]; conv in Fr.code c47l0 => unfold c47l0
          simp (maxSteps:=1000000) (disch:=omega) only [go_sem, ↓reduceIte, reduceCtorEq, hlt, hd, hm, hi64, hql, hq, blkAt_lo, fm]
          first | refine callB_intro (g _) ?_ | refine callD_intro (g _) ?_ | refine callP_intro (fun _ => (g _)) ?_ | refine callX_pure (g _) ?_
          simp (maxSteps:=1000000) (disch:=omega) only [go_sem, ↓reduceIte, reduceCtorEq, h, h2]
          exact fin_same (by simp) _ (by first | exact (List.append_nil _).symm | rfl) (by simp (maxSteps:=1000000) (disch:=omega) only [resVal, resAll, resOne, rs47, Env.get, go_sem, ↓reduceIte, reduceCtorEq]) (by simp only [AV.und, AV.unds, and_self])
      | false =>
        have next := ih (i + 1) a v out G' (by omega) ha (by omega) hG
        simp only [Bool.false_eq_true, if_false]
        generalize rp bs d m (i + 1) a out = R at *
        unfold e47 at *
        simp only [List.append_assoc, List.cons_append, List.nil_append, List.length_append, List.length_cons, List.length_nil, Nat.reduceAdd, Nat.add_assoc, Nat.zero_add, Nat.add_zero, Int.natCast_add, Int.cast_ofNat_Int, ] at next
        clear ih hG
        generalize i / 64 = i1 at *
        generalize i % 64 = i2 at *
        rcases hs' with h | ⟨h, h2⟩
        · rw [acs_lp]; conv in Fr.code c47l0 => unfold c47l0
          simp (maxSteps:=1000000) (disch:=omega) only [go_sem, ↓reduceIte, reduceCtorEq, hlt, hd, hm, hi64, hql, hq, blkAt_lo, fm]
          first | refine callB_intro (g _) ?_ | refine callD_intro (g _) ?_ | refine callP_intro (fun _ => (g _)) ?_ | refine callX_pure (g _) ?_
          simp (maxSteps:=1000000) (disch:=omega) only [go_sem, ↓reduceIte, reduceCtorEq, h]
          exact next
        · rw [acs_lp]; conv in Fr.code c47l0 => unfold c47l0
          simp (maxSteps:=1000000) (disch:=omega) only [go_sem, ↓reduceIte, reduceCtorEq, hlt, hd, hm, hi64, hql, hq, blkAt_lo, fm]
          first | refine callB_intro (g _) ?_ | refine callD_intro (g _) ?_ | refine callP_intro (fun _ => (g _)) ?_ | refine callX_pure (g _) ?_
          simp (maxSteps:=1000000) (disch:=omega) only [go_sem, ↓reduceIte, reduceCtorEq, h, h2]
          exact next
    · rw [if_neg hs]
      have h1 : ¬ (60 : Int) ≤ ((i % 64 : Nat) : Int) := by omega
      have h2 : ¬ (bs.length : Int) ≤ 60 * ((i / 64 : Nat) : Int) + ((i % 64 : Nat) : Int) := by omega
      have h3 : 60 * ((i / 64 : Nat) : Int) + ((i % 64 : Nat) : Int) < (bs.length : Int) := by omega
      have fb : cs[60 * (i / 64) + i % 64]? = some (.int .i64 (bs.getD (60 * (i / 64) + i % 64) 0)) := by
        have := sl_get hcs (j := 60 * (i / 64) + i % 64) (z := bs.getD (60 * (i / 64) + i % 64) 0) (by rw [List.getD_eq_getElem?_getD, List.getElem?_eq_getElem (by omega)]; simp)
        rwa [Nat.zero_add] at this
      have hto : (60 * ((i / 64 : Nat) : Int) + ((i % 64 : Nat) : Int)).toNat = 60 * (i / 64) + i % 64 := by omega
      have hb60 : 60 * ((i / 64 : Nat) : Int) + ((i % 64 : Nat) : Int) ≤ 100000 := by omega
      have hge : 0 ≤ 60 * ((i / 64 : Nat) : Int) + ((i % 64 : Nat) : Int) := by omega
      have hob : (out.length + 1) * 8 ≤ 140737488355328 := by omega
      have nextK := fun v G' => ih (i + 1) a v (out ++ [bs.getD (60 * (i / 64) + i % 64) 0]) G' (by omega) ha (by simp; omega)
      have nextW := fun h v G' => ih (i + 1) (a + 1) v (out ++ [d.getD a 0]) G' (by omega) h (by simp; omega)
      clear ih
      generalize bs.getD (60 * (i / 64) + i % 64) 0 = b at *
      generalize 60 * (i / 64) + i % 64 = place at *
      cases w with
      | false =>
        simp only [Bool.false_eq_true, if_false]
        generalize rp bs d m (i + 1) a (out ++ [b]) = R at *
        rcases hG with ⟨rfl, rfl⟩ | ⟨hne, G, rfl, rfl⟩
        · have nx := nextK (.sl (H.length + (G' ++ ([some (Blk.mk [.int .i64 b] true)] : Heap)).length) 0 1 1 none) ((G' ++ [some ⟨[.int .i64 b], true⟩]) ++ [some ⟨[.int .i64 b], true⟩]) (.inr ⟨by simp, _, rfl, rfl⟩)
          clear nextK nextW
          unfold e47 at *
          simp only [List.append_assoc, List.cons_append, List.nil_append, List.length_append, List.length_cons, List.length_nil, Nat.reduceAdd, Nat.add_assoc, Nat.zero_add, Nat.add_zero, Int.natCast_add, Int.cast_ofNat_Int, ] at nx
          rw [acs_lp]; conv in Fr.code c47l0 => unfold c47l0
          simp (maxSteps:=1000000) (disch:=omega) only [go_sem, ↓reduceIte, reduceCtorEq, hlt, hd, hm, hi64, hql, hq, blkAt_lo, fm]
          first | refine callB_intro (g _) ?_ | refine callD_intro (g _) ?_ | refine callP_intro (fun _ => (g _)) ?_ | refine callX_pure (g _) ?_
          simp (maxSteps:=1000000) (disch:=omega) only [go_sem, ↓reduceIte, reduceCtorEq, h1, h2, h3, hto, hge, hpl, hp, blkAt_lo, fb]
          exact nx
        · have nx := nextK (.sl (H.length + (G ++ ([none, some (Blk.mk [.int .i64 b] true)] : Heap)).length) 0 (out ++ [b]).length 1 none) ((G ++ [none, some ⟨[.int .i64 b], true⟩]) ++ [some ⟨(out ++ [b]).map (AV.int .i64), true⟩]) (.inr ⟨by simp, _, rfl, rfl⟩)
          clear nextK nextW
          have tk : List.take out.length (out.map (AV.int .i64)) = out.map (AV.int .i64) := takeMap out
          unfold e47 at *
          simp only [List.append_assoc, List.cons_append, List.nil_append, List.length_append, List.length_cons, List.length_nil, Nat.reduceAdd, Nat.add_assoc, Nat.zero_add, Nat.add_zero, Int.natCast_add, Int.cast_ofNat_Int, List.map_append, List.map_cons, List.map_nil] at nx
          rw [acs_lp]; conv in Fr.code c47l0 => unfold c47l0
          simp (maxSteps:=1000000) (disch:=omega) only [go_sem, ↓reduceIte, reduceCtorEq, hlt, hd, hm, hi64, hql, hq, blkAt_lo, fm]
          first | refine callB_intro (g _) ?_ | refine callD_intro (g _) ?_ | refine callP_intro (fun _ => (g _)) ?_ | refine callX_pure (g _) ?_
          simp (maxSteps:=1000000) (disch:=omega) only [go_sem, ↓reduceIte, reduceCtorEq, h1, h2, h3, hto, hge, hpl, hp, blkAt_lo, fb, tk, hob, List.length_map, Nat.le_refl]
          exact nx
      | true =>
        simp only [if_true]
        by_cases had : d.length ≤ a
        · rw [if_pos (.inl had)]
          have had' : (d.length : Int) ≤ (a : Int) := by omega
          clear nextK nextW hG
          unfold e47 Q17
          rw [acs_lp]; conv in Fr.code c47l0 => unfold c47l0
          simp (maxSteps:=1000000) (disch:=omega) only [go_sem, ↓reduceIte, reduceCtorEq, hlt, hd, hm, hi64, hql, hq, blkAt_lo, fm]
          first | refine callB_intro (g _) ?_ | refine callD_intro (g _) ?_ | refine callP_intro (fun _ => (g _)) ?_ | refine callX_pure (g _) ?_
          simp (maxSteps:=1000000) (disch:=omega) only [go_sem, ↓reduceIte, reduceCtorEq, h1, h2, had']
          exact fin_same (by simp) _ (by first | exact (List.append_nil _).symm | rfl) (by simp (maxSteps:=1000000) (disch:=omega) only [resVal, resAll, resOne, rs47, Env.get, go_sem, ↓reduceIte, reduceCtorEq]) (by simp only [AV.und, AV.unds, and_self])
        · have had' : ¬ (d.length : Int) ≤ (a : Int) := by omega
          have had2 : (a : Int) < (d.length : Int) := by omega
          have fw : ds[oq + a]? = some (.int .i64 (d.getD a 0)) := sl_get hds (by rw [List.getD_eq_getElem?_getD, List.getElem?_eq_getElem (by omega)]; simp)
          have nextW := nextW (by omega)
          generalize d.getD a 0 = wd at *
          by_cases hwb : wd = b
          · rw [if_pos (.inr hwb)]
            clear nextK nextW hG
            subst hwb
            unfold e47 Q17
            rw [acs_lp]; conv in Fr.code c47l0 => unfold c47l0
            simp (maxSteps:=1000000) (disch:=omega) only [go_sem, ↓reduceIte, reduceCtorEq, hlt, hd, hm, hi64, hql, hq, blkAt_lo, fm]
            first | refine callB_intro (g _) ?_ | refine callD_intro (g _) ?_ | refine callP_intro (fun _ => (g _)) ?_ | refine callX_pure (g _) ?_
            simp (maxSteps:=1000000) (disch:=omega) only [go_sem, ↓reduceIte, reduceCtorEq, h1, h2, h3, hto, hge, hpl, hp, hql, hq, blkAt_lo, fb, had', had2, fw]
            exact fin_same (by simp) _ (by first | exact (List.append_nil _).symm | rfl) (by simp (maxSteps:=1000000) (disch:=omega) only [resVal, resAll, resOne, rs47, Env.get, go_sem, ↓reduceIte, reduceCtorEq]) (by simp only [AV.und, AV.unds, and_self])
          · rw [if_neg (by rintro (h | h) <;> contradiction)]
            generalize rp bs d m (i + 1) (a + 1) (out ++ [wd]) = R at *
            rcases hG with ⟨rfl, rfl⟩ | ⟨hne, G, rfl, rfl⟩
            · have nx := nextW (.sl (H.length + (G' ++ ([some (Blk.mk [.int .i64 wd] true)] : Heap)).length) 0 1 1 none) ((G' ++ [some ⟨[.int .i64 wd], true⟩]) ++ [some ⟨[.int .i64 wd], true⟩]) (.inr ⟨by simp, _, rfl, rfl⟩)
              clear nextK nextW
              unfold e47 at *
              simp only [List.append_assoc, List.cons_append, List.nil_append, List.length_append, List.length_cons, List.length_nil, Nat.reduceAdd, Nat.add_assoc, Nat.zero_add, Nat.add_zero, Int.natCast_add, Int.cast_ofNat_Int, ] at nx
              rw [acs_lp]; conv in Fr.code c47l0 => unfold c47l0
              simp (maxSteps:=1000000) (disch:=omega) only [go_sem, ↓reduceIte, reduceCtorEq, hlt, hd, hm, hi64, hql, hq, blkAt_lo, fm]
              first | refine callB_intro (g _) ?_ | refine callD_intro (g _) ?_ | refine callP_intro (fun _ => (g _)) ?_ | refine callX_pure (g _) ?_
              simp (maxSteps:=1000000) (disch:=omega) only [go_sem, ↓reduceIte, reduceCtorEq, h1, h2, h3, hto, hge, hpl, hp, hql, hq, blkAt_lo, fb, had', had2, fw, hwb]
              exact nx
            · have nx := nextW (.sl (H.length + (G ++ ([none, some (Blk.mk [.int .i64 wd] true)] : Heap)).length) 0 (out ++ [wd]).length 1 none) ((G ++ [none, some ⟨[.int .i64 wd], true⟩]) ++ [some ⟨(out ++ [wd]).map (AV.int .i64), true⟩]) (.inr ⟨by simp, _, rfl, rfl⟩)
              clear nextK nextW
              have tk : List.take out.length (out.map (AV.int .i64)) = out.map (AV.int .i64) := takeMap out
              unfold e47 at *
              simp only [List.append_assoc, List.cons_append, List.nil_append, List.length_append, List.length_cons, List.length_nil, Nat.reduceAdd, Nat.add_assoc, Nat.zero_add, Nat.add_zero, Int.natCast_add, Int.cast_ofNat_Int, List.map_append, List.map_cons, List.map_nil] at nx
              rw [acs_lp]; conv in Fr.code c47l0 => unfold c47l0
              simp (maxSteps:=1000000) (disch:=omega) only [go_sem, ↓reduceIte, reduceCtorEq, hlt, hd, hm, hi64, hql, hq, blkAt_lo, fm]
              first | refine callB_intro (g _) ?_ | refine callD_intro (g _) ?_ | refine callP_intro (fun _ => (g _)) ?_ | refine callX_pure (g _) ?_
              simp (maxSteps:=1000000) (disch:=omega) only [go_sem, ↓reduceIte, reduceCtorEq, h1, h2, h3, hto, hge, hpl, hp, hql, hq, blkAt_lo, fb, had', had2, fw, hwb, tk, hob, List.length_map, Nat.le_refl]
              exact nx
def arow (bs d : List Int) : List Int × Int :=
  if 600 < bs.length then ([], 5) else if d.length < (bs.length + 59) / 60 then ([], 4) else
    match rp bs d (64 * ((bs.length + 59) / 60)) 0 ((bs.length + 59) / 60) [] with | none => ([], 2) | some R => (R, 0)
theorem f47_less {bs d : List Int} {p q oq N : Nat} {c1 c2 : Option Nat} {H : Heap} (hdiv : ((bs.length : Int) + 59).tdiv 60 = (N : Int)) (h1 : bs.length ≤ 600) (h2 : d.length < N) (hN : N ≤ 10) :
    ac Try.prog c47 [(0, .sl p 0 bs.length 1 c1), (1, .sl q oq d.length 1 c2)] H (Fin H rs47 (.tup [.nils, .int .i64 4]) H) := by
  have h1' : ¬ (600 : Int) < (bs.length : Int) := by omega
  have h2' : (d.length : Int) < (N : Int) := by omega
  refine acs_start ?_
  unfold c47
  simp (maxSteps:=1000000) (disch:=omega) only [go_sem, ↓reduceIte, reduceCtorEq, h1', hdiv, h2']
  exact fin_same (by simp) _ (by first | exact (List.append_nil _).symm | rfl) (by simp (maxSteps:=1000000) (disch:=omega) only [resVal, resAll, resOne, rs47, Env.get, go_sem, ↓reduceIte, reduceCtorEq]) (by simp only [AV.und, AV.unds, and_self])
theorem f47_run {bs d : List Int} {p q oq N : Nat} {c1 c2 : Option Nat} {H : Heap} {Q : Post} (hdiv : ((bs.length : Int) + 59).tdiv 60 = (N : Int)) (h1 : bs.length ≤ 600) (h2 : N ≤ d.length) (hN : N ≤ 10) (go : acs Try.prog [.lp c47l0, .blk 0, .code c47t] (e47 p q oq bs.length d.length c1 c2 N .nils N 0) (H ++ []) Q) :
    ac Try.prog c47 [(0, .sl p 0 bs.length 1 c1), (1, .sl q oq d.length 1 c2)] H Q := by
  have h1' : ¬ (600 : Int) < (bs.length : Int) := by omega
  have h2' : ¬ (d.length : Int) < (N : Int) := by omega
  unfold e47 c47t c47 tl2 at go
  refine acs_start ?_
  unfold c47
  simp only [List.append_assoc, List.cons_append, List.nil_append, List.length_append, List.length_cons, List.length_nil, Nat.reduceAdd, Nat.add_assoc, Nat.zero_add, Nat.add_zero, Int.natCast_add, Int.cast_ofNat_Int, List.append_nil] at go
  simp (maxSteps:=1000000) (disch:=omega) only [go_sem, ↓reduceIte, reduceCtorEq, h1', hdiv, h2']
  exact go
theorem f47_any {bs d : List Int} {p q oq : Nat} {c1 c2 : Option Nat} {H : Heap} (hp : Sl i64 H p 0 bs) (hq : Sl i64 H q oq d) (hdl : d.length ≤ 100000) (hbl : bs.length ≤ 100000) :
    ACall Try.prog 47 [.sl p 0 bs.length 1 c1, .sl q oq d.length 1 c2] H (rowres (arow bs d) H) (rowheap (arow bs d) H) := by
  unfold arow rowres rowheap
  have hdiv : ((bs.length : Int) + 59).tdiv 60 = (((bs.length + 59) / 60 : Nat) : Int) := by rw [Int.tdiv_eq_ediv_of_nonneg (by omega)]; omega
  by_cases h1 : 600 < bs.length
  · rw [if_pos h1]
    refine call_nilres2 (acall47 (by simp) (acs_start ?_))
    have h1' : (600 : Int) < (bs.length : Int) := by omega
    unfold c47
    simp (maxSteps:=1000000) (disch:=omega) only [go_sem, ↓reduceIte, reduceCtorEq, h1']
    exact fin_same (by simp) _ (by first | exact (List.append_nil _).symm | rfl) (by simp (maxSteps:=1000000) (disch:=omega) only [resVal, resAll, resOne, rs47, Env.get, go_sem, ↓reduceIte, reduceCtorEq]) (by simp only [AV.und, AV.unds, and_self])
  rw [if_neg h1]
  by_cases h2 : d.length < (bs.length + 59) / 60
  · rw [if_pos h2]
    exact call_nilres2 (acall47 (by simp) (f47_less hdiv (by omega) h2 (by omega)))
  rw [if_neg h2]
  have go := f47_run hdiv (by omega) (by omega) (by omega) (f47_loop (n := (bs.length + 59) / 60) (c1 := c1) (c2 := c2) hp hq hdl (by omega) (by omega) (64 * ((bs.length + 59) / 60)) 0 ((bs.length + 59) / 60) .nils [] [] (by omega) (by omega) (by simp) (.inl ⟨rfl, rfl⟩))
  cases hR : rp bs d (64 * ((bs.length + 59) / 60)) 0 ((bs.length + 59) / 60) [] with
  | none =>
    rw [hR] at go
    exact call_nilres2 (acall47 (by simp) go)
  | some R =>
    rw [hR] at go
    cases R with
    | nil => exact call_nilres2 (acall47 (by simp) go)
    | cons x r => exact acallW (fun v' h => acall47 (by simp) h) go

def ob (l : List Int) : Option Blk := some ⟨l.map (AV.int .i64), true⟩
inductive Two (H : Heap) : Heap → AV → AV → List Int → List Int → Prop
  | nn (G : Heap) : Two H G .nils .nils [] []
  | mn (G : Heap) (m : List Int) : m ≠ [] → Two H (G ++ [ob m]) (.sl (H.length + G.length) 0 m.length 1 none) .nils m []
  | nw (G : Heap) (w : List Int) : w ≠ [] → Two H (G ++ [ob w]) .nils (.sl (H.length + G.length) 0 w.length 1 none) [] w
  | mw (G G2 : Heap) (m w : List Int) : m ≠ [] → w ≠ [] → Two H (G ++ ob m :: (G2 ++ [ob w])) (.sl (H.length + G.length) 0 m.length 1 none) (.sl (H.length + (G ++ ob m :: G2).length) 0 w.length 1 none) m w
  | wm (G G2 : Heap) (m w : List Int) : m ≠ [] → w ≠ [] → Two H (G ++ ob w :: (G2 ++ [ob m])) (.sl (H.length + (G ++ ob w :: G2).length) 0 m.length 1 none) (.sl (H.length + G.length) 0 w.length 1 none) m w
def e39 (p q L : Nat) (c1 c2 : Option Nat) (vm vw : AV) (wd b : Nat) (i : Nat) : Env := [(0, .sl p 0 L 1 c1), (1, .sl q 0 L 1 c2), (6, vm), (7, vw), (8, .int .i64 (wd : Nat)), (9, .int .i64 (b : Nat)), (10, .int .i64 (i : Nat))]
def c39t : SC := tl2 (tl2 (tl2 (tl2 (tl2 (tl2 (tl2 (tl2 c39)))))))
theorem s15_nn_e_no {H : Heap} {p q L i wd b : Nat} {c1 c2 : Option Nat} {x y : Int} {cs ds : List AV} {o o' : Bool} {Q : Post} {G : Heap} (hp : blkAt H p = some ⟨cs, o⟩) (hq : blkAt H q = some ⟨ds, o'⟩) (fx : cs[i]? = some (.int .i64 x)) (fy : ds[i]? = some (.int .i64 y)) (hi : i < L) (hL : L ≤ 600) (hwd : wd + b ≤ 2305843009213693952)
    (hxy : y = x) (h59 : (i : Int).tmod 60 ≠ 59 ∧ (i : Int) ≠ (L : Int) - 1)
    (next : ∀ G' vm vw, Two H G' vm vw ([]) ([]) → acs Try.prog [.lp c39l0, .blk 0, .code c39t] (e39 p q L c1 c2 vm vw (wd) (b * 2) (i + 1)) (H ++ G') Q) :
    acs Try.prog [.lp c39l0, .blk 0, .code c39t] (e39 p q L c1 c2 .nils .nils wd b i) (H ++ G) Q := by
  have nx := next _ _ _ (.nn G)
  have hlt : (i : Int) < (L : Int) := by omega
  have hpl := blkAt_lt hp
  have hql := blkAt_lt hq
  clear next
  unfold ob e39 at *
  simp only [List.append_assoc, List.cons_append, List.nil_append, List.length_append, List.length_cons, List.length_nil, Nat.reduceAdd, Nat.add_assoc, Nat.zero_add, Nat.add_zero, Int.natCast_add, Int.cast_ofNat_Int, List.map_append, List.map_cons, List.map_nil, Int.natCast_mul] at nx
  rw [acs_lp]; conv in Fr.code c39l0 => unfold c39l0
  subst hxy
  obtain ⟨h1, h2⟩ := h59
  simp (maxSteps:=1000000) (disch:=omega) only [go_sem, ↓reduceIte, reduceCtorEq, hp, hq, hpl, hql, hlt, fx, fy, blkAt_lo, List.length_map, Nat.le_refl, blkAt_s2, blkAt_s3, blkAt_s4, blkAt_s5, set_s2, set_s3, set_s4, set_s5, h1, h2]
  exact nx
theorem s15_nn_e_a {H : Heap} {p q L i wd b : Nat} {c1 c2 : Option Nat} {x y : Int} {cs ds : List AV} {o o' : Bool} {Q : Post} {G : Heap} (hp : blkAt H p = some ⟨cs, o⟩) (hq : blkAt H q = some ⟨ds, o'⟩) (fx : cs[i]? = some (.int .i64 x)) (fy : ds[i]? = some (.int .i64 y)) (hi : i < L) (hL : L ≤ 600) (hwd : wd + b ≤ 2305843009213693952)
    (hxy : y = x) (h59 : (i : Int).tmod 60 = 59)
    (next : ∀ G' vm vw, Two H G' vm vw ([((wd : Nat) : Int)]) ([]) → acs Try.prog [.lp c39l0, .blk 0, .code c39t] (e39 p q L c1 c2 vm vw (0) (1) (i + 1)) (H ++ G') Q) :
    acs Try.prog [.lp c39l0, .blk 0, .code c39t] (e39 p q L c1 c2 .nils .nils wd b i) (H ++ G) Q := by
  have nx := next _ _ _ (.mn (G ++ ([ob [((wd : Nat) : Int)]] : Heap)) ([((wd : Nat) : Int)]) (by simp))
  have hlt : (i : Int) < (L : Int) := by omega
  have hpl := blkAt_lt hp
  have hql := blkAt_lt hq
  clear next
  unfold ob e39 at *
  simp only [List.append_assoc, List.cons_append, List.nil_append, List.length_append, List.length_cons, List.length_nil, Nat.reduceAdd, Nat.add_assoc, Nat.zero_add, Nat.add_zero, Int.natCast_add, Int.cast_ofNat_Int, List.map_append, List.map_cons, List.map_nil, Int.natCast_mul] at nx
  rw [acs_lp]; conv in Fr.code c39l0 => unfold c39l0
  subst hxy
  simp (maxSteps:=1000000) (disch:=omega) only [go_sem, ↓reduceIte, reduceCtorEq, hp, hq, hpl, hql, hlt, fx, fy, blkAt_lo, List.length_map, Nat.le_refl, blkAt_s2, blkAt_s3, blkAt_s4, blkAt_s5, set_s2, set_s3, set_s4, set_s5, h59]
  exact nx
theorem s15_nn_e_l {H : Heap} {p q L i wd b : Nat} {c1 c2 : Option Nat} {x y : Int} {cs ds : List AV} {o o' : Bool} {Q : Post} {G : Heap} (hp : blkAt H p = some ⟨cs, o⟩) (hq : blkAt H q = some ⟨ds, o'⟩) (fx : cs[i]? = some (.int .i64 x)) (fy : ds[i]? = some (.int .i64 y)) (hi : i < L) (hL : L ≤ 600) (hwd : wd + b ≤ 2305843009213693952)
    (hxy : y = x) (h59 : (i : Int).tmod 60 ≠ 59 ∧ (i : Int) = (L : Int) - 1)
    (next : ∀ G' vm vw, Two H G' vm vw ([((wd : Nat) : Int)]) ([]) → acs Try.prog [.lp c39l0, .blk 0, .code c39t] (e39 p q L c1 c2 vm vw (0) (1) (i + 1)) (H ++ G') Q) :
    acs Try.prog [.lp c39l0, .blk 0, .code c39t] (e39 p q L c1 c2 .nils .nils wd b i) (H ++ G) Q := by
  have nx := next _ _ _ (.mn (G ++ ([ob [((wd : Nat) : Int)]] : Heap)) ([((wd : Nat) : Int)]) (by simp))
  have hlt : (i : Int) < (L : Int) := by omega
  have hpl := blkAt_lt hp
  have hql := blkAt_lt hq
  clear next
  unfold ob e39 at *
  simp only [List.append_assoc, List.cons_append, List.nil_append, List.length_append, List.length_cons, List.length_nil, Nat.reduceAdd, Nat.add_assoc, Nat.zero_add, Nat.add_zero, Int.natCast_add, Int.cast_ofNat_Int, List.map_append, List.map_cons, List.map_nil, Int.natCast_mul] at nx
  rw [acs_lp]; conv in Fr.code c39l0 => unfold c39l0
  subst hxy
  obtain ⟨h1, h2⟩ := h59
  have h2 := eq_true h2
  simp (maxSteps:=1000000) (disch:=omega) only [go_sem, ↓reduceIte, reduceCtorEq, hp, hq, hpl, hql, hlt, fx, fy, blkAt_lo, List.length_map, Nat.le_refl, blkAt_s2, blkAt_s3, blkAt_s4, blkAt_s5, set_s2, set_s3, set_s4, set_s5, h1, h2]
  exact nx
theorem s15_nn_d_no {H : Heap} {p q L i wd b : Nat} {c1 c2 : Option Nat} {x y : Int} {cs ds : List AV} {o o' : Bool} {Q : Post} {G : Heap} (hp : blkAt H p = some ⟨cs, o⟩) (hq : blkAt H q = some ⟨ds, o'⟩) (fx : cs[i]? = some (.int .i64 x)) (fy : ds[i]? = some (.int .i64 y)) (hi : i < L) (hL : L ≤ 600) (hwd : wd + b ≤ 2305843009213693952)
    (hxy : y ≠ x) (h59 : (i : Int).tmod 60 ≠ 59 ∧ (i : Int) ≠ (L : Int) - 1)
    (next : ∀ G' vm vw, Two H G' vm vw ([]) ([y]) → acs Try.prog [.lp c39l0, .blk 0, .code c39t] (e39 p q L c1 c2 vm vw (wd + b) (b * 2) (i + 1)) (H ++ G') Q) :
    acs Try.prog [.lp c39l0, .blk 0, .code c39t] (e39 p q L c1 c2 .nils .nils wd b i) (H ++ G) Q := by
  have nx := next _ _ _ (.nw (G ++ ([ob [y]] : Heap)) ([y]) (by simp))
  have hlt : (i : Int) < (L : Int) := by omega
  have hpl := blkAt_lt hp
  have hql := blkAt_lt hq
  clear next
  unfold ob e39 at *
  simp only [List.append_assoc, List.cons_append, List.nil_append, List.length_append, List.length_cons, List.length_nil, Nat.reduceAdd, Nat.add_assoc, Nat.zero_add, Nat.add_zero, Int.natCast_add, Int.cast_ofNat_Int, List.map_append, List.map_cons, List.map_nil, Int.natCast_mul] at nx
  rw [acs_lp]; conv in Fr.code c39l0 => unfold c39l0
  obtain ⟨h1, h2⟩ := h59
  simp (maxSteps:=1000000) (disch:=omega) only [go_sem, ↓reduceIte, reduceCtorEq, hp, hq, hpl, hql, hlt, fx, fy, blkAt_lo, List.length_map, Nat.le_refl, blkAt_s2, blkAt_s3, blkAt_s4, blkAt_s5, set_s2, set_s3, set_s4, set_s5, hxy, h1, h2]
  exact nx
theorem s15_nn_d_a {H : Heap} {p q L i wd b : Nat} {c1 c2 : Option Nat} {x y : Int} {cs ds : List AV} {o o' : Bool} {Q : Post} {G : Heap} (hp : blkAt H p = some ⟨cs, o⟩) (hq : blkAt H q = some ⟨ds, o'⟩) (fx : cs[i]? = some (.int .i64 x)) (fy : ds[i]? = some (.int .i64 y)) (hi : i < L) (hL : L ≤ 600) (hwd : wd + b ≤ 2305843009213693952)
    (hxy : y ≠ x) (h59 : (i : Int).tmod 60 = 59)
    (next : ∀ G' vm vw, Two H G' vm vw ([((wd + b : Nat) : Int)]) ([y]) → acs Try.prog [.lp c39l0, .blk 0, .code c39t] (e39 p q L c1 c2 vm vw (0) (1) (i + 1)) (H ++ G') Q) :
    acs Try.prog [.lp c39l0, .blk 0, .code c39t] (e39 p q L c1 c2 .nils .nils wd b i) (H ++ G) Q := by
  have nx := next _ _ _ (.wm (G ++ ([ob [y]] : Heap)) (([ob [((wd + b : Nat) : Int)]] : Heap)) ([((wd + b : Nat) : Int)]) ([y]) (by simp) (by simp))
  have hlt : (i : Int) < (L : Int) := by omega
  have hpl := blkAt_lt hp
  have hql := blkAt_lt hq
  clear next
  unfold ob e39 at *
  simp only [List.append_assoc, List.cons_append, List.nil_append, List.length_append, List.length_cons, List.length_nil, Nat.reduceAdd, Nat.add_assoc, Nat.zero_add, Nat.add_zero, Int.natCast_add, Int.cast_ofNat_Int, List.map_append, List.map_cons, List.map_nil, Int.natCast_mul] at nx
  rw [acs_lp]; conv in Fr.code c39l0 => unfold c39l0
  simp (maxSteps:=1000000) (disch:=omega) only [go_sem, ↓reduceIte, reduceCtorEq, hp, hq, hpl, hql, hlt, fx, fy, blkAt_lo, List.length_map, Nat.le_refl, blkAt_s2, blkAt_s3, blkAt_s4, blkAt_s5, set_s2, set_s3, set_s4, set_s5, hxy, h59]
  exact nx
theorem s15_nn_d_l {H : Heap} {p q L i wd b : Nat} {c1 c2 : Option Nat} {x y : Int} {cs ds : List AV} {o o' : Bool} {Q : Post} {G : Heap} (hp : blkAt H p = some ⟨cs, o⟩) (hq : blkAt H q = some ⟨ds, o'⟩) (fx : cs[i]? = some (.int .i64 x)) (fy : ds[i]? = some (.int .i64 y)) (hi : i < L) (hL : L ≤ 600) (hwd : wd + b ≤ 2305843009213693952)
    (hxy : y ≠ x) (h59 : (i : Int).tmod 60 ≠ 59 ∧ (i : Int) = (L : Int) - 1)
    (next : ∀ G' vm vw, Two H G' vm vw ([((wd + b : Nat) : Int)]) ([y]) → acs Try.prog [.lp c39l0, .blk 0, .code c39t] (e39 p q L c1 c2 vm vw (0) (1) (i + 1)) (H ++ G') Q) :
    acs Try.prog [.lp c39l0, .blk 0, .code c39t] (e39 p q L c1 c2 .nils .nils wd b i) (H ++ G) Q := by
  have nx := next _ _ _ (.wm (G ++ ([ob [y]] : Heap)) (([ob [((wd + b : Nat) : Int)]] : Heap)) ([((wd + b : Nat) : Int)]) ([y]) (by simp) (by simp))
  have hlt : (i : Int) < (L : Int) := by omega
  have hpl := blkAt_lt hp
  have hql := blkAt_lt hq
  clear next
  unfold ob e39 at *
  simp only [List.append_assoc, List.cons_append, List.nil_append, List.length_append, List.length_cons, List.length_nil, Nat.reduceAdd, Nat.add_assoc, Nat.zero_add, Nat.add_zero, Int.natCast_add, Int.cast_ofNat_Int, List.map_append, List.map_cons, List.map_nil, Int.natCast_mul] at nx
  rw [acs_lp]; conv in Fr.code c39l0 => unfold c39l0
  obtain ⟨h1, h2⟩ := h59
  have h2 := eq_true h2
  simp (maxSteps:=1000000) (disch:=omega) only [go_sem, ↓reduceIte, reduceCtorEq, hp, hq, hpl, hql, hlt, fx, fy, blkAt_lo, List.length_map, Nat.le_refl, blkAt_s2, blkAt_s3, blkAt_s4, blkAt_s5, set_s2, set_s3, set_s4, set_s5, hxy, h1, h2]
  exact nx
theorem s15_mn_e_no {H : Heap} {p q L i wd b : Nat} {c1 c2 : Option Nat} {x y : Int} {cs ds : List AV} {o o' : Bool} {Q : Post} {G : Heap} {m : List Int} (lm : m.length ≤ 1000) (hp : blkAt H p = some ⟨cs, o⟩) (hq : blkAt H q = some ⟨ds, o'⟩) (fx : cs[i]? = some (.int .i64 x)) (fy : ds[i]? = some (.int .i64 y)) (hi : i < L) (hL : L ≤ 600) (hwd : wd + b ≤ 2305843009213693952)
    (hxy : y = x) (h59 : (i : Int).tmod 60 ≠ 59 ∧ (i : Int) ≠ (L : Int) - 1)
    (hm : m ≠ []) (next : ∀ G' vm vw, Two H G' vm vw (m) ([]) → acs Try.prog [.lp c39l0, .blk 0, .code c39t] (e39 p q L c1 c2 vm vw (wd) (b * 2) (i + 1)) (H ++ G') Q) :
    acs Try.prog [.lp c39l0, .blk 0, .code c39t] (e39 p q L c1 c2 (.sl (H.length + G.length) 0 m.length 1 none) .nils wd b i) (H ++ (G ++ [ob m])) Q := by
  have nx := next _ _ _ (.mn (G) (m) hm)
  have hlt : (i : Int) < (L : Int) := by omega
  have hpl := blkAt_lt hp
  have hql := blkAt_lt hq
  have tm : List.take m.length (m.map (AV.int .i64)) = m.map (AV.int .i64) := takeMap m
  have bm : (m.length + 1) * 8 ≤ 140737488355328 := by omega
  clear next
  unfold ob e39 at *
  simp only [List.append_assoc, List.cons_append, List.nil_append, List.length_append, List.length_cons, List.length_nil, Nat.reduceAdd, Nat.add_assoc, Nat.zero_add, Nat.add_zero, Int.natCast_add, Int.cast_ofNat_Int, List.map_append, List.map_cons, List.map_nil, Int.natCast_mul] at nx
  rw [acs_lp]; conv in Fr.code c39l0 => unfold c39l0
  subst hxy
  obtain ⟨h1, h2⟩ := h59
  simp (maxSteps:=1000000) (disch:=omega) only [go_sem, ↓reduceIte, reduceCtorEq, hp, hq, hpl, hql, hlt, fx, fy, blkAt_lo, List.length_map, Nat.le_refl, blkAt_s2, blkAt_s3, blkAt_s4, blkAt_s5, set_s2, set_s3, set_s4, set_s5, tm, bm, h1, h2]
  exact nx
theorem s15_mn_e_a {H : Heap} {p q L i wd b : Nat} {c1 c2 : Option Nat} {x y : Int} {cs ds : List AV} {o o' : Bool} {Q : Post} {G : Heap} {m : List Int} (lm : m.length ≤ 1000) (hp : blkAt H p = some ⟨cs, o⟩) (hq : blkAt H q = some ⟨ds, o'⟩) (fx : cs[i]? = some (.int .i64 x)) (fy : ds[i]? = some (.int .i64 y)) (hi : i < L) (hL : L ≤ 600) (hwd : wd + b ≤ 2305843009213693952)
    (hxy : y = x) (h59 : (i : Int).tmod 60 = 59)
    (hm : m ≠ []) (next : ∀ G' vm vw, Two H G' vm vw (m ++ [((wd : Nat) : Int)]) ([]) → acs Try.prog [.lp c39l0, .blk 0, .code c39t] (e39 p q L c1 c2 vm vw (0) (1) (i + 1)) (H ++ G') Q) :
    acs Try.prog [.lp c39l0, .blk 0, .code c39t] (e39 p q L c1 c2 (.sl (H.length + G.length) 0 m.length 1 none) .nils wd b i) (H ++ (G ++ [ob m])) Q := by
  have nx := next _ _ _ (.mn (G ++ ([none] : Heap) ++ ([ob [((wd : Nat) : Int)]] : Heap)) (m ++ [((wd : Nat) : Int)]) (by simp))
  have hlt : (i : Int) < (L : Int) := by omega
  have hpl := blkAt_lt hp
  have hql := blkAt_lt hq
  have tm : List.take m.length (m.map (AV.int .i64)) = m.map (AV.int .i64) := takeMap m
  have bm : (m.length + 1) * 8 ≤ 140737488355328 := by omega
  clear next
  unfold ob e39 at *
  simp only [List.append_assoc, List.cons_append, List.nil_append, List.length_append, List.length_cons, List.length_nil, Nat.reduceAdd, Nat.add_assoc, Nat.zero_add, Nat.add_zero, Int.natCast_add, Int.cast_ofNat_Int, List.map_append, List.map_cons, List.map_nil, Int.natCast_mul] at nx
  rw [acs_lp]; conv in Fr.code c39l0 => unfold c39l0
  subst hxy
  simp (maxSteps:=1000000) (disch:=omega) only [go_sem, ↓reduceIte, reduceCtorEq, hp, hq, hpl, hql, hlt, fx, fy, blkAt_lo, List.length_map, Nat.le_refl, blkAt_s2, blkAt_s3, blkAt_s4, blkAt_s5, set_s2, set_s3, set_s4, set_s5, tm, bm, h59]
  exact nx
theorem s15_mn_e_l {H : Heap} {p q L i wd b : Nat} {c1 c2 : Option Nat} {x y : Int} {cs ds : List AV} {o o' : Bool} {Q : Post} {G : Heap} {m : List Int} (lm : m.length ≤ 1000) (hp : blkAt H p = some ⟨cs, o⟩) (hq : blkAt H q = some ⟨ds, o'⟩) (fx : cs[i]? = some (.int .i64 x)) (fy : ds[i]? = some (.int .i64 y)) (hi : i < L) (hL : L ≤ 600) (hwd : wd + b ≤ 2305843009213693952)
    (hxy : y = x) (h59 : (i : Int).tmod 60 ≠ 59 ∧ (i : Int) = (L : Int) - 1)
    (hm : m ≠ []) (next : ∀ G' vm vw, Two H G' vm vw (m ++ [((wd : Nat) : Int)]) ([]) → acs Try.prog [.lp c39l0, .blk 0, .code c39t] (e39 p q L c1 c2 vm vw (0) (1) (i + 1)) (H ++ G') Q) :
    acs Try.prog [.lp c39l0, .blk 0, .code c39t] (e39 p q L c1 c2 (.sl (H.length + G.length) 0 m.length 1 none) .nils wd b i) (H ++ (G ++ [ob m])) Q := by
  have nx := next _ _ _ (.mn (G ++ ([none] : Heap) ++ ([ob [((wd : Nat) : Int)]] : Heap)) (m ++ [((wd : Nat) : Int)]) (by simp))
  have hlt : (i : Int) < (L : Int) := by omega
  have hpl := blkAt_lt hp
  have hql := blkAt_lt hq
  have tm : List.take m.length (m.map (AV.int .i64)) = m.map (AV.int .i64) := takeMap m
  have bm : (m.length + 1) * 8 ≤ 140737488355328 := by omega
  clear next
  unfold ob e39 at *
  simp only [List.append_assoc, List.cons_append, List.nil_append, List.length_append, List.length_cons, List.length_nil, Nat.reduceAdd, Nat.add_assoc, Nat.zero_add, Nat.add_zero, Int.natCast_add, Int.cast_ofNat_Int, List.map_append, List.map_cons, List.map_nil, Int.natCast_mul] at nx
  rw [acs_lp]; conv in Fr.code c39l0 => unfold c39l0
  subst hxy
  obtain ⟨h1, h2⟩ := h59
  have h2 := eq_true h2
  simp (maxSteps:=1000000) (disch:=omega) only [go_sem, ↓reduceIte, reduceCtorEq, hp, hq, hpl, hql, hlt, fx, fy, blkAt_lo, List.length_map, Nat.le_refl, blkAt_s2, blkAt_s3, blkAt_s4, blkAt_s5, set_s2, set_s3, set_s4, set_s5, tm, bm, h1, h2]
  exact nx
theorem s15_mn_d_no {H : Heap} {p q L i wd b : Nat} {c1 c2 : Option Nat} {x y : Int} {cs ds : List AV} {o o' : Bool} {Q : Post} {G : Heap} {m : List Int} (lm : m.length ≤ 1000) (hp : blkAt H p = some ⟨cs, o⟩) (hq : blkAt H q = some ⟨ds, o'⟩) (fx : cs[i]? = some (.int .i64 x)) (fy : ds[i]? = some (.int .i64 y)) (hi : i < L) (hL : L ≤ 600) (hwd : wd + b ≤ 2305843009213693952)
    (hxy : y ≠ x) (h59 : (i : Int).tmod 60 ≠ 59 ∧ (i : Int) ≠ (L : Int) - 1)
    (hm : m ≠ []) (next : ∀ G' vm vw, Two H G' vm vw (m) ([y]) → acs Try.prog [.lp c39l0, .blk 0, .code c39t] (e39 p q L c1 c2 vm vw (wd + b) (b * 2) (i + 1)) (H ++ G') Q) :
    acs Try.prog [.lp c39l0, .blk 0, .code c39t] (e39 p q L c1 c2 (.sl (H.length + G.length) 0 m.length 1 none) .nils wd b i) (H ++ (G ++ [ob m])) Q := by
  have nx := next _ _ _ (.mw (G) (([ob [y]] : Heap)) (m) ([y]) hm (by simp))
  have hlt : (i : Int) < (L : Int) := by omega
  have hpl := blkAt_lt hp
  have hql := blkAt_lt hq
  have tm : List.take m.length (m.map (AV.int .i64)) = m.map (AV.int .i64) := takeMap m
  have bm : (m.length + 1) * 8 ≤ 140737488355328 := by omega
  clear next
  unfold ob e39 at *
  simp only [List.append_assoc, List.cons_append, List.nil_append, List.length_append, List.length_cons, List.length_nil, Nat.reduceAdd, Nat.add_assoc, Nat.zero_add, Nat.add_zero, Int.natCast_add, Int.cast_ofNat_Int, List.map_append, List.map_cons, List.map_nil, Int.natCast_mul] at nx
  rw [acs_lp]; conv in Fr.code c39l0 => unfold c39l0
  obtain ⟨h1, h2⟩ := h59
  simp (maxSteps:=1000000) (disch:=omega) only [go_sem, ↓reduceIte, reduceCtorEq, hp, hq, hpl, hql, hlt, fx, fy, blkAt_lo, List.length_map, Nat.le_refl, blkAt_s2, blkAt_s3, blkAt_s4, blkAt_s5, set_s2, set_s3, set_s4, set_s5, tm, bm, hxy, h1, h2]
  exact nx
theorem s15_mn_d_a {H : Heap} {p q L i wd b : Nat} {c1 c2 : Option Nat} {x y : Int} {cs ds : List AV} {o o' : Bool} {Q : Post} {G : Heap} {m : List Int} (lm : m.length ≤ 1000) (hp : blkAt H p = some ⟨cs, o⟩) (hq : blkAt H q = some ⟨ds, o'⟩) (fx : cs[i]? = some (.int .i64 x)) (fy : ds[i]? = some (.int .i64 y)) (hi : i < L) (hL : L ≤ 600) (hwd : wd + b ≤ 2305843009213693952)
    (hxy : y ≠ x) (h59 : (i : Int).tmod 60 = 59)
    (hm : m ≠ []) (next : ∀ G' vm vw, Two H G' vm vw (m ++ [((wd + b : Nat) : Int)]) ([y]) → acs Try.prog [.lp c39l0, .blk 0, .code c39t] (e39 p q L c1 c2 vm vw (0) (1) (i + 1)) (H ++ G') Q) :
    acs Try.prog [.lp c39l0, .blk 0, .code c39t] (e39 p q L c1 c2 (.sl (H.length + G.length) 0 m.length 1 none) .nils wd b i) (H ++ (G ++ [ob m])) Q := by
  have nx := next _ _ _ (.wm (G ++ ([none] : Heap) ++ ([ob [y]] : Heap)) (([ob [((wd + b : Nat) : Int)]] : Heap)) (m ++ [((wd + b : Nat) : Int)]) ([y]) (by simp) (by simp))
  have hlt : (i : Int) < (L : Int) := by omega
  have hpl := blkAt_lt hp
  have hql := blkAt_lt hq
  have tm : List.take m.length (m.map (AV.int .i64)) = m.map (AV.int .i64) := takeMap m
  have bm : (m.length + 1) * 8 ≤ 140737488355328 := by omega
  clear next
  unfold ob e39 at *
  simp only [List.append_assoc, List.cons_append, List.nil_append, List.length_append, List.length_cons, List.length_nil, Nat.reduceAdd, Nat.add_assoc, Nat.zero_add, Nat.add_zero, Int.natCast_add, Int.cast_ofNat_Int, List.map_append, List.map_cons, List.map_nil, Int.natCast_mul] at nx
  rw [acs_lp]; conv in Fr.code c39l0 => unfold c39l0
  simp (maxSteps:=1000000) (disch:=omega) only [go_sem, ↓reduceIte, reduceCtorEq, hp, hq, hpl, hql, hlt, fx, fy, blkAt_lo, List.length_map, Nat.le_refl, blkAt_s2, blkAt_s3, blkAt_s4, blkAt_s5, set_s2, set_s3, set_s4, set_s5, tm, bm, hxy, h59]
  exact nx
theorem s15_mn_d_l {H : Heap} {p q L i wd b : Nat} {c1 c2 : Option Nat} {x y : Int} {cs ds : List AV} {o o' : Bool} {Q : Post} {G : Heap} {m : List Int} (lm : m.length ≤ 1000) (hp : blkAt H p = some ⟨cs, o⟩) (hq : blkAt H q = some ⟨ds, o'⟩) (fx : cs[i]? = some (.int .i64 x)) (fy : ds[i]? = some (.int .i64 y)) (hi : i < L) (hL : L ≤ 600) (hwd : wd + b ≤ 2305843009213693952)
    (hxy : y ≠ x) (h59 : (i : Int).tmod 60 ≠ 59 ∧ (i : Int) = (L : Int) - 1)
    (hm : m ≠ []) (next : ∀ G' vm vw, Two H G' vm vw (m ++ [((wd + b : Nat) : Int)]) ([y]) → acs Try.prog [.lp c39l0, .blk 0, .code c39t] (e39 p q L c1 c2 vm vw (0) (1) (i + 1)) (H ++ G') Q) :
    acs Try.prog [.lp c39l0, .blk 0, .code c39t] (e39 p q L c1 c2 (.sl (H.length + G.length) 0 m.length 1 none) .nils wd b i) (H ++ (G ++ [ob m])) Q := by
  have nx := next _ _ _ (.wm (G ++ ([none] : Heap) ++ ([ob [y]] : Heap)) (([ob [((wd + b : Nat) : Int)]] : Heap)) (m ++ [((wd + b : Nat) : Int)]) ([y]) (by simp) (by simp))
  have hlt : (i : Int) < (L : Int) := by omega
  have hpl := blkAt_lt hp
  have hql := blkAt_lt hq
  have tm : List.take m.length (m.map (AV.int .i64)) = m.map (AV.int .i64) := takeMap m
  have bm : (m.length + 1) * 8 ≤ 140737488355328 := by omega
  clear next
  unfold ob e39 at *
  simp only [List.append_assoc, List.cons_append, List.nil_append, List.length_append, List.length_cons, List.length_nil, Nat.reduceAdd, Nat.add_assoc, Nat.zero_add, Nat.add_zero, Int.natCast_add, Int.cast_ofNat_Int, List.map_append, List.map_cons, List.map_nil, Int.natCast_mul] at nx
  rw [acs_lp]; conv in Fr.code c39l0 => unfold c39l0
  obtain ⟨h1, h2⟩ := h59
  have h2 := eq_true h2
  simp (maxSteps:=1000000) (disch:=omega) only [go_sem, ↓reduceIte, reduceCtorEq, hp, hq, hpl, hql, hlt, fx, fy, blkAt_lo, List.length_map, Nat.le_refl, blkAt_s2, blkAt_s3, blkAt_s4, blkAt_s5, set_s2, set_s3, set_s4, set_s5, tm, bm, hxy, h1, h2]
  exact nx
theorem s15_nw_e_no {H : Heap} {p q L i wd b : Nat} {c1 c2 : Option Nat} {x y : Int} {cs ds : List AV} {o o' : Bool} {Q : Post} {G : Heap} {w : List Int} (lw : w.length ≤ 1000) (hp : blkAt H p = some ⟨cs, o⟩) (hq : blkAt H q = some ⟨ds, o'⟩) (fx : cs[i]? = some (.int .i64 x)) (fy : ds[i]? = some (.int .i64 y)) (hi : i < L) (hL : L ≤ 600) (hwd : wd + b ≤ 2305843009213693952)
    (hxy : y = x) (h59 : (i : Int).tmod 60 ≠ 59 ∧ (i : Int) ≠ (L : Int) - 1)
    (hw : w ≠ []) (next : ∀ G' vm vw, Two H G' vm vw ([]) (w) → acs Try.prog [.lp c39l0, .blk 0, .code c39t] (e39 p q L c1 c2 vm vw (wd) (b * 2) (i + 1)) (H ++ G') Q) :
    acs Try.prog [.lp c39l0, .blk 0, .code c39t] (e39 p q L c1 c2 .nils (.sl (H.length + G.length) 0 w.length 1 none) wd b i) (H ++ (G ++ [ob w])) Q := by
  have nx := next _ _ _ (.nw (G) (w) hw)
  have hlt : (i : Int) < (L : Int) := by omega
  have hpl := blkAt_lt hp
  have hql := blkAt_lt hq
  have tw : List.take w.length (w.map (AV.int .i64)) = w.map (AV.int .i64) := takeMap w
  have bw : (w.length + 1) * 8 ≤ 140737488355328 := by omega
  clear next
  unfold ob e39 at *
  simp only [List.append_assoc, List.cons_append, List.nil_append, List.length_append, List.length_cons, List.length_nil, Nat.reduceAdd, Nat.add_assoc, Nat.zero_add, Nat.add_zero, Int.natCast_add, Int.cast_ofNat_Int, List.map_append, List.map_cons, List.map_nil, Int.natCast_mul] at nx
  rw [acs_lp]; conv in Fr.code c39l0 => unfold c39l0
  subst hxy
  obtain ⟨h1, h2⟩ := h59
  simp (maxSteps:=1000000) (disch:=omega) only [go_sem, ↓reduceIte, reduceCtorEq, hp, hq, hpl, hql, hlt, fx, fy, blkAt_lo, List.length_map, Nat.le_refl, blkAt_s2, blkAt_s3, blkAt_s4, blkAt_s5, set_s2, set_s3, set_s4, set_s5, tw, bw, h1, h2]
  exact nx
theorem s15_nw_e_a {H : Heap} {p q L i wd b : Nat} {c1 c2 : Option Nat} {x y : Int} {cs ds : List AV} {o o' : Bool} {Q : Post} {G : Heap} {w : List Int} (lw : w.length ≤ 1000) (hp : blkAt H p = some ⟨cs, o⟩) (hq : blkAt H q = some ⟨ds, o'⟩) (fx : cs[i]? = some (.int .i64 x)) (fy : ds[i]? = some (.int .i64 y)) (hi : i < L) (hL : L ≤ 600) (hwd : wd + b ≤ 2305843009213693952)
    (hxy : y = x) (h59 : (i : Int).tmod 60 = 59)
    (hw : w ≠ []) (next : ∀ G' vm vw, Two H G' vm vw ([((wd : Nat) : Int)]) (w) → acs Try.prog [.lp c39l0, .blk 0, .code c39t] (e39 p q L c1 c2 vm vw (0) (1) (i + 1)) (H ++ G') Q) :
    acs Try.prog [.lp c39l0, .blk 0, .code c39t] (e39 p q L c1 c2 .nils (.sl (H.length + G.length) 0 w.length 1 none) wd b i) (H ++ (G ++ [ob w])) Q := by
  have nx := next _ _ _ (.wm (G) (([ob [((wd : Nat) : Int)]] : Heap)) ([((wd : Nat) : Int)]) (w) (by simp) hw)
  have hlt : (i : Int) < (L : Int) := by omega
  have hpl := blkAt_lt hp
  have hql := blkAt_lt hq
  have tw : List.take w.length (w.map (AV.int .i64)) = w.map (AV.int .i64) := takeMap w
  have bw : (w.length + 1) * 8 ≤ 140737488355328 := by omega
  clear next
  unfold ob e39 at *
  simp only [List.append_assoc, List.cons_append, List.nil_append, List.length_append, List.length_cons, List.length_nil, Nat.reduceAdd, Nat.add_assoc, Nat.zero_add, Nat.add_zero, Int.natCast_add, Int.cast_ofNat_Int, List.map_append, List.map_cons, List.map_nil, Int.natCast_mul] at nx
  rw [acs_lp]; conv in Fr.code c39l0 => unfold c39l0
  subst hxy
  simp (maxSteps:=1000000) (disch:=omega) only [go_sem, ↓reduceIte, reduceCtorEq, hp, hq, hpl, hql, hlt, fx, fy, blkAt_lo, List.length_map, Nat.le_refl, blkAt_s2, blkAt_s3, blkAt_s4, blkAt_s5, set_s2, set_s3, set_s4, set_s5, tw, bw, h59]
  exact nx
theorem s15_nw_e_l {H : Heap} {p q L i wd b : Nat} {c1 c2 : Option Nat} {x y : Int} {cs ds : List AV} {o o' : Bool} {Q : Post} {G : Heap} {w : List Int} (lw : w.length ≤ 1000) (hp : blkAt H p = some ⟨cs, o⟩) (hq : blkAt H q = some ⟨ds, o'⟩) (fx : cs[i]? = some (.int .i64 x)) (fy : ds[i]? = some (.int .i64 y)) (hi : i < L) (hL : L ≤ 600) (hwd : wd + b ≤ 2305843009213693952)
    (hxy : y = x) (h59 : (i : Int).tmod 60 ≠ 59 ∧ (i : Int) = (L : Int) - 1)
    (hw : w ≠ []) (next : ∀ G' vm vw, Two H G' vm vw ([((wd : Nat) : Int)]) (w) → acs Try.prog [.lp c39l0, .blk 0, .code c39t] (e39 p q L c1 c2 vm vw (0) (1) (i + 1)) (H ++ G') Q) :
    acs Try.prog [.lp c39l0, .blk 0, .code c39t] (e39 p q L c1 c2 .nils (.sl (H.length + G.length) 0 w.length 1 none) wd b i) (H ++ (G ++ [ob w])) Q := by
  have nx := next _ _ _ (.wm (G) (([ob [((wd : Nat) : Int)]] : Heap)) ([((wd : Nat) : Int)]) (w) (by simp) hw)
  have hlt : (i : Int) < (L : Int) := by omega
  have hpl := blkAt_lt hp
  have hql := blkAt_lt hq
  have tw : List.take w.length (w.map (AV.int .i64)) = w.map (AV.int .i64) := takeMap w
  have bw : (w.length + 1) * 8 ≤ 140737488355328 := by omega
  clear next
  unfold ob e39 at *
  simp only [List.append_assoc, List.cons_append, List.nil_append, List.length_append, List.length_cons, List.length_nil, Nat.reduceAdd, Nat.add_assoc, Nat.zero_add, Nat.add_zero, Int.natCast_add, Int.cast_ofNat_Int, List.map_append, List.map_cons, List.map_nil, Int.natCast_mul] at nx
  rw [acs_lp]; conv in Fr.code c39l0 => unfold c39l0
  subst hxy
  obtain ⟨h1, h2⟩ := h59
  have h2 := eq_true h2
  simp (maxSteps:=1000000) (disch:=omega) only [go_sem, ↓reduceIte, reduceCtorEq, hp, hq, hpl, hql, hlt, fx, fy, blkAt_lo, List.length_map, Nat.le_refl, blkAt_s2, blkAt_s3, blkAt_s4, blkAt_s5, set_s2, set_s3, set_s4, set_s5, tw, bw, h1, h2]
  exact nx
theorem s15_nw_d_no {H : Heap} {p q L i wd b : Nat} {c1 c2 : Option Nat} {x y : Int} {cs ds : List AV} {o o' : Bool} {Q : Post} {G : Heap} {w : List Int} (lw : w.length ≤ 1000) (hp : blkAt H p = some ⟨cs, o⟩) (hq : blkAt H q = some ⟨ds, o'⟩) (fx : cs[i]? = some (.int .i64 x)) (fy : ds[i]? = some (.int .i64 y)) (hi : i < L) (hL : L ≤ 600) (hwd : wd + b ≤ 2305843009213693952)
    (hxy : y ≠ x) (h59 : (i : Int).tmod 60 ≠ 59 ∧ (i : Int) ≠ (L : Int) - 1)
    (hw : w ≠ []) (next : ∀ G' vm vw, Two H G' vm vw ([]) (w ++ [y]) → acs Try.prog [.lp c39l0, .blk 0, .code c39t] (e39 p q L c1 c2 vm vw (wd + b) (b * 2) (i + 1)) (H ++ G') Q) :
    acs Try.prog [.lp c39l0, .blk 0, .code c39t] (e39 p q L c1 c2 .nils (.sl (H.length + G.length) 0 w.length 1 none) wd b i) (H ++ (G ++ [ob w])) Q := by
  have nx := next _ _ _ (.nw (G ++ ([none] : Heap) ++ ([ob [y]] : Heap)) (w ++ [y]) (by simp))
  have hlt : (i : Int) < (L : Int) := by omega
  have hpl := blkAt_lt hp
  have hql := blkAt_lt hq
  have tw : List.take w.length (w.map (AV.int .i64)) = w.map (AV.int .i64) := takeMap w
  have bw : (w.length + 1) * 8 ≤ 140737488355328 := by omega
  clear next
  unfold ob e39 at *
  simp only [List.append_assoc, List.cons_append, List.nil_append, List.length_append, List.length_cons, List.length_nil, Nat.reduceAdd, Nat.add_assoc, Nat.zero_add, Nat.add_zero, Int.natCast_add, Int.cast_ofNat_Int, List.map_append, List.map_cons, List.map_nil, Int.natCast_mul] at nx
  rw [acs_lp]; conv in Fr.code c39l0 => unfold c39l0
  obtain ⟨h1, h2⟩ := h59
  simp (maxSteps:=1000000) (disch:=omega) only [go_sem, ↓reduceIte, reduceCtorEq, hp, hq, hpl, hql, hlt, fx, fy, blkAt_lo, List.length_map, Nat.le_refl, blkAt_s2, blkAt_s3, blkAt_s4, blkAt_s5, set_s2, set_s3, set_s4, set_s5, tw, bw, hxy, h1, h2]
  exact nx
theorem s15_nw_d_a {H : Heap} {p q L i wd b : Nat} {c1 c2 : Option Nat} {x y : Int} {cs ds : List AV} {o o' : Bool} {Q : Post} {G : Heap} {w : List Int} (lw : w.length ≤ 1000) (hp : blkAt H p = some ⟨cs, o⟩) (hq : blkAt H q = some ⟨ds, o'⟩) (fx : cs[i]? = some (.int .i64 x)) (fy : ds[i]? = some (.int .i64 y)) (hi : i < L) (hL : L ≤ 600) (hwd : wd + b ≤ 2305843009213693952)
    (hxy : y ≠ x) (h59 : (i : Int).tmod 60 = 59)
    (hw : w ≠ []) (next : ∀ G' vm vw, Two H G' vm vw ([((wd + b : Nat) : Int)]) (w ++ [y]) → acs Try.prog [.lp c39l0, .blk 0, .code c39t] (e39 p q L c1 c2 vm vw (0) (1) (i + 1)) (H ++ G') Q) :
    acs Try.prog [.lp c39l0, .blk 0, .code c39t] (e39 p q L c1 c2 .nils (.sl (H.length + G.length) 0 w.length 1 none) wd b i) (H ++ (G ++ [ob w])) Q := by
  have nx := next _ _ _ (.wm (G ++ ([none] : Heap) ++ ([ob [y]] : Heap)) (([ob [((wd + b : Nat) : Int)]] : Heap)) ([((wd + b : Nat) : Int)]) (w ++ [y]) (by simp) (by simp))
  have hlt : (i : Int) < (L : Int) := by omega
  have hpl := blkAt_lt hp
  have hql := blkAt_lt hq
  have tw : List.take w.length (w.map (AV.int .i64)) = w.map (AV.int .i64) := takeMap w
  have bw : (w.length + 1) * 8 ≤ 140737488355328 := by omega
  clear next
  unfold ob e39 at *
  simp only [List.append_assoc, List.cons_append, List.nil_append, List.length_append, List.length_cons, List.length_nil, Nat.reduceAdd, Nat.add_assoc, Nat.zero_add, Nat.add_zero, Int.natCast_add, Int.cast_ofNat_Int, List.map_append, List.map_cons, List.map_nil, Int.natCast_mul] at nx
  rw [acs_lp]; conv in Fr.code c39l0 => unfold c39l0
  simp (maxSteps:=1000000) (disch:=omega) only [go_sem, ↓reduceIte, reduceCtorEq, hp, hq, hpl, hql, hlt, fx, fy, blkAt_lo, List.length_map, Nat.le_refl, blkAt_s2, blkAt_s3, blkAt_s4, blkAt_s5, set_s2, set_s3, set_s4, set_s5, tw, bw, hxy, h59]
  exact nx
theorem s15_nw_d_l {H : Heap} {p q L i wd b : Nat} {c1 c2 : Option Nat} {x y : Int} {cs ds : List AV} {o o' : Bool} {Q : Post} {G : Heap} {w : List Int} (lw : w.length ≤ 1000) (hp : blkAt H p = some ⟨cs, o⟩) (hq : blkAt H q = some ⟨ds, o'⟩) (fx : cs[i]? = some (.int .i64 x)) (fy : ds[i]? = some (.int .i64 y)) (hi : i < L) (hL : L ≤ 600) (hwd : wd + b ≤ 2305843009213693952)
    (hxy : y ≠ x) (h59 : (i : Int).tmod 60 ≠ 59 ∧ (i : Int) = (L : Int) - 1)
    (hw : w ≠ []) (next : ∀ G' vm vw, Two H G' vm vw ([((wd + b : Nat) : Int)]) (w ++ [y]) → acs Try.prog [.lp c39l0, .blk 0, .code c39t] (e39 p q L c1 c2 vm vw (0) (1) (i + 1)) (H ++ G') Q) :
    acs Try.prog [.lp c39l0, .blk 0, .code c39t] (e39 p q L c1 c2 .nils (.sl (H.length + G.length) 0 w.length 1 none) wd b i) (H ++ (G ++ [ob w])) Q := by
  have nx := next _ _ _ (.wm (G ++ ([none] : Heap) ++ ([ob [y]] : Heap)) (([ob [((wd + b : Nat) : Int)]] : Heap)) ([((wd + b : Nat) : Int)]) (w ++ [y]) (by simp) (by simp))
  have hlt : (i : Int) < (L : Int) := by omega
  have hpl := blkAt_lt hp
  have hql := blkAt_lt hq
  have tw : List.take w.length (w.map (AV.int .i64)) = w.map (AV.int .i64) := takeMap w
  have bw : (w.length + 1) * 8 ≤ 140737488355328 := by omega
  clear next
  unfold ob e39 at *
  simp only [List.append_assoc, List.cons_append, List.nil_append, List.length_append, List.length_cons, List.length_nil, Nat.reduceAdd, Nat.add_assoc, Nat.zero_add, Nat.add_zero, Int.natCast_add, Int.cast_ofNat_Int, List.map_append, List.map_cons, List.map_nil, Int.natCast_mul] at nx
  rw [acs_lp]; conv in Fr.code c39l0 => unfold c39l0
  obtain ⟨h1, h2⟩ := h59
  have h2 := eq_true h2
  simp (maxSteps:=1000000) (disch:=omega) only [go_sem, ↓reduceIte, reduceCtorEq, hp, hq, hpl, hql, hlt, fx, fy, blkAt_lo, List.length_map, Nat.le_refl, blkAt_s2, blkAt_s3, blkAt_s4, blkAt_s5, set_s2, set_s3, set_s4, set_s5, tw, bw, hxy, h1, h2]
  exact nx
theorem s15_mw_e_no {H : Heap} {p q L i wd b : Nat} {c1 c2 : Option Nat} {x y : Int} {cs ds : List AV} {o o' : Bool} {Q : Post} {G G2 : Heap} {m w : List Int} (lm : m.length ≤ 1000) (lw : w.length ≤ 1000) (hp : blkAt H p = some ⟨cs, o⟩) (hq : blkAt H q = some ⟨ds, o'⟩) (fx : cs[i]? = some (.int .i64 x)) (fy : ds[i]? = some (.int .i64 y)) (hi : i < L) (hL : L ≤ 600) (hwd : wd + b ≤ 2305843009213693952)
    (hxy : y = x) (h59 : (i : Int).tmod 60 ≠ 59 ∧ (i : Int) ≠ (L : Int) - 1)
    (hm : m ≠ []) (hw : w ≠ []) (next : ∀ G' vm vw, Two H G' vm vw (m) (w) → acs Try.prog [.lp c39l0, .blk 0, .code c39t] (e39 p q L c1 c2 vm vw (wd) (b * 2) (i + 1)) (H ++ G') Q) :
    acs Try.prog [.lp c39l0, .blk 0, .code c39t] (e39 p q L c1 c2 (.sl (H.length + G.length) 0 m.length 1 none) (.sl (H.length + (G ++ ob m :: G2).length) 0 w.length 1 none) wd b i) (H ++ (G ++ ob m :: (G2 ++ [ob w]))) Q := by
  have nx := next _ _ _ (.mw (G) (G2) (m) (w) hm hw)
  have hlt : (i : Int) < (L : Int) := by omega
  have hpl := blkAt_lt hp
  have hql := blkAt_lt hq
  have tm : List.take m.length (m.map (AV.int .i64)) = m.map (AV.int .i64) := takeMap m
  have bm : (m.length + 1) * 8 ≤ 140737488355328 := by omega
  have tw : List.take w.length (w.map (AV.int .i64)) = w.map (AV.int .i64) := takeMap w
  have bw : (w.length + 1) * 8 ≤ 140737488355328 := by omega
  clear next
  unfold ob e39 at *
  simp only [List.append_assoc, List.cons_append, List.nil_append, List.length_append, List.length_cons, List.length_nil, Nat.reduceAdd, Nat.add_assoc, Nat.zero_add, Nat.add_zero, Int.natCast_add, Int.cast_ofNat_Int, List.map_append, List.map_cons, List.map_nil, Int.natCast_mul] at nx
  rw [acs_lp]; conv in Fr.code c39l0 => unfold c39l0
  subst hxy
  obtain ⟨h1, h2⟩ := h59
  simp (maxSteps:=1000000) (disch:=omega) only [go_sem, ↓reduceIte, reduceCtorEq, hp, hq, hpl, hql, hlt, fx, fy, blkAt_lo, List.length_map, Nat.le_refl, blkAt_s2, blkAt_s3, blkAt_s4, blkAt_s5, set_s2, set_s3, set_s4, set_s5, tm, bm, tw, bw, h1, h2]
  exact nx
theorem s15_mw_e_a {H : Heap} {p q L i wd b : Nat} {c1 c2 : Option Nat} {x y : Int} {cs ds : List AV} {o o' : Bool} {Q : Post} {G G2 : Heap} {m w : List Int} (lm : m.length ≤ 1000) (lw : w.length ≤ 1000) (hp : blkAt H p = some ⟨cs, o⟩) (hq : blkAt H q = some ⟨ds, o'⟩) (fx : cs[i]? = some (.int .i64 x)) (fy : ds[i]? = some (.int .i64 y)) (hi : i < L) (hL : L ≤ 600) (hwd : wd + b ≤ 2305843009213693952)
    (hxy : y = x) (h59 : (i : Int).tmod 60 = 59)
    (hm : m ≠ []) (hw : w ≠ []) (next : ∀ G' vm vw, Two H G' vm vw (m ++ [((wd : Nat) : Int)]) (w) → acs Try.prog [.lp c39l0, .blk 0, .code c39t] (e39 p q L c1 c2 vm vw (0) (1) (i + 1)) (H ++ G') Q) :
    acs Try.prog [.lp c39l0, .blk 0, .code c39t] (e39 p q L c1 c2 (.sl (H.length + G.length) 0 m.length 1 none) (.sl (H.length + (G ++ ob m :: G2).length) 0 w.length 1 none) wd b i) (H ++ (G ++ ob m :: (G2 ++ [ob w]))) Q := by
  have nx := next _ _ _ (.wm (G ++ ([none] : Heap) ++ G2) (([ob [((wd : Nat) : Int)]] : Heap)) (m ++ [((wd : Nat) : Int)]) (w) (by simp) hw)
  have hlt : (i : Int) < (L : Int) := by omega
  have hpl := blkAt_lt hp
  have hql := blkAt_lt hq
  have tm : List.take m.length (m.map (AV.int .i64)) = m.map (AV.int .i64) := takeMap m
  have bm : (m.length + 1) * 8 ≤ 140737488355328 := by omega
  have tw : List.take w.length (w.map (AV.int .i64)) = w.map (AV.int .i64) := takeMap w
  have bw : (w.length + 1) * 8 ≤ 140737488355328 := by omega
  clear next
  unfold ob e39 at *
  simp only [List.append_assoc, List.cons_append, List.nil_append, List.length_append, List.length_cons, List.length_nil, Nat.reduceAdd, Nat.add_assoc, Nat.zero_add, Nat.add_zero, Int.natCast_add, Int.cast_ofNat_Int, List.map_append, List.map_cons, List.map_nil, Int.natCast_mul] at nx
  rw [acs_lp]; conv in Fr.code c39l0 => unfold c39l0
  subst hxy
  simp (maxSteps:=1000000) (disch:=omega) only [go_sem, ↓reduceIte, reduceCtorEq, hp, hq, hpl, hql, hlt, fx, fy, blkAt_lo, List.length_map, Nat.le_refl, blkAt_s2, blkAt_s3, blkAt_s4, blkAt_s5, set_s2, set_s3, set_s4, set_s5, tm, bm, tw, bw, h59]
  exact nx
theorem s15_mw_e_l {H : Heap} {p q L i wd b : Nat} {c1 c2 : Option Nat} {x y : Int} {cs ds : List AV} {o o' : Bool} {Q : Post} {G G2 : Heap} {m w : List Int} (lm : m.length ≤ 1000) (lw : w.length ≤ 1000) (hp : blkAt H p = some ⟨cs, o⟩) (hq : blkAt H q = some ⟨ds, o'⟩) (fx : cs[i]? = some (.int .i64 x)) (fy : ds[i]? = some (.int .i64 y)) (hi : i < L) (hL : L ≤ 600) (hwd : wd + b ≤ 2305843009213693952)
    (hxy : y = x) (h59 : (i : Int).tmod 60 ≠ 59 ∧ (i : Int) = (L : Int) - 1)
    (hm : m ≠ []) (hw : w ≠ []) (next : ∀ G' vm vw, Two H G' vm vw (m ++ [((wd : Nat) : Int)]) (w) → acs Try.prog [.lp c39l0, .blk 0, .code c39t] (e39 p q L c1 c2 vm vw (0) (1) (i + 1)) (H ++ G') Q) :
    acs Try.prog [.lp c39l0, .blk 0, .code c39t] (e39 p q L c1 c2 (.sl (H.length + G.length) 0 m.length 1 none) (.sl (H.length + (G ++ ob m :: G2).length) 0 w.length 1 none) wd b i) (H ++ (G ++ ob m :: (G2 ++ [ob w]))) Q := by
  have nx := next _ _ _ (.wm (G ++ ([none] : Heap) ++ G2) (([ob [((wd : Nat) : Int)]] : Heap)) (m ++ [((wd : Nat) : Int)]) (w) (by simp) hw)
  have hlt : (i : Int) < (L : Int) := by omega
  have hpl := blkAt_lt hp
  have hql := blkAt_lt hq
  have tm : List.take m.length (m.map (AV.int .i64)) = m.map (AV.int .i64) := takeMap m
  have bm : (m.length + 1) * 8 ≤ 140737488355328 := by omega
  have tw : List.take w.length (w.map (AV.int .i64)) = w.map (AV.int .i64) := takeMap w
  have bw : (w.length + 1) * 8 ≤ 140737488355328 := by omega
  clear next
  unfold ob e39 at *
  simp only [List.append_assoc, List.cons_append, List.nil_append, List.length_append, List.length_cons, List.length_nil, Nat.reduceAdd, Nat.add_assoc, Nat.zero_add, Nat.add_zero, Int.natCast_add, Int.cast_ofNat_Int, List.map_append, List.map_cons, List.map_nil, Int.natCast_mul] at nx
  rw [acs_lp]; conv in Fr.code c39l0 => unfold c39l0
  subst hxy
  obtain ⟨h1, h2⟩ := h59
  have h2 := eq_true h2
  simp (maxSteps:=1000000) (disch:=omega) only [go_sem, ↓reduceIte, reduceCtorEq, hp, hq, hpl, hql, hlt, fx, fy, blkAt_lo, List.length_map, Nat.le_refl, blkAt_s2, blkAt_s3, blkAt_s4, blkAt_s5, set_s2, set_s3, set_s4, set_s5, tm, bm, tw, bw, h1, h2]
  exact nx
theorem s15_mw_d_no {H : Heap} {p q L i wd b : Nat} {c1 c2 : Option Nat} {x y : Int} {cs ds : List AV} {o o' : Bool} {Q : Post} {G G2 : Heap} {m w : List Int} (lm : m.length ≤ 1000) (lw : w.length ≤ 1000) (hp : blkAt H p = some ⟨cs, o⟩) (hq : blkAt H q = some ⟨ds, o'⟩) (fx : cs[i]? = some (.int .i64 x)) (fy : ds[i]? = some (.int .i64 y)) (hi : i < L) (hL : L ≤ 600) (hwd : wd + b ≤ 2305843009213693952)
    (hxy : y ≠ x) (h59 : (i : Int).tmod 60 ≠ 59 ∧ (i : Int) ≠ (L : Int) - 1)
    (hm : m ≠ []) (hw : w ≠ []) (next : ∀ G' vm vw, Two H G' vm vw (m) (w ++ [y]) → acs Try.prog [.lp c39l0, .blk 0, .code c39t] (e39 p q L c1 c2 vm vw (wd + b) (b * 2) (i + 1)) (H ++ G') Q) :
    acs Try.prog [.lp c39l0, .blk 0, .code c39t] (e39 p q L c1 c2 (.sl (H.length + G.length) 0 m.length 1 none) (.sl (H.length + (G ++ ob m :: G2).length) 0 w.length 1 none) wd b i) (H ++ (G ++ ob m :: (G2 ++ [ob w]))) Q := by
  have nx := next _ _ _ (.mw (G) (G2 ++ ([none] : Heap) ++ ([ob [y]] : Heap)) (m) (w ++ [y]) hm (by simp))
  have hlt : (i : Int) < (L : Int) := by omega
  have hpl := blkAt_lt hp
  have hql := blkAt_lt hq
  have tm : List.take m.length (m.map (AV.int .i64)) = m.map (AV.int .i64) := takeMap m
  have bm : (m.length + 1) * 8 ≤ 140737488355328 := by omega
  have tw : List.take w.length (w.map (AV.int .i64)) = w.map (AV.int .i64) := takeMap w
  have bw : (w.length + 1) * 8 ≤ 140737488355328 := by omega
  clear next
  unfold ob e39 at *
  simp only [List.append_assoc, List.cons_append, List.nil_append, List.length_append, List.length_cons, List.length_nil, Nat.reduceAdd, Nat.add_assoc, Nat.zero_add, Nat.add_zero, Int.natCast_add, Int.cast_ofNat_Int, List.map_append, List.map_cons, List.map_nil, Int.natCast_mul] at nx
  rw [acs_lp]; conv in Fr.code c39l0 => unfold c39l0
  obtain ⟨h1, h2⟩ := h59
  simp (maxSteps:=1000000) (disch:=omega) only [go_sem, ↓reduceIte, reduceCtorEq, hp, hq, hpl, hql, hlt, fx, fy, blkAt_lo, List.length_map, Nat.le_refl, blkAt_s2, blkAt_s3, blkAt_s4, blkAt_s5, set_s2, set_s3, set_s4, set_s5, tm, bm, tw, bw, hxy, h1, h2]
  exact nx
theorem s15_mw_d_a {H : Heap} {p q L i wd b : Nat} {c1 c2 : Option Nat} {x y : Int} {cs ds : List AV} {o o' : Bool} {Q : Post} {G G2 : Heap} {m w : List Int} (lm : m.length ≤ 1000) (lw : w.length ≤ 1000) (hp : blkAt H p = some ⟨cs, o⟩) (hq : blkAt H q = some ⟨ds, o'⟩) (fx : cs[i]? = some (.int .i64 x)) (fy : ds[i]? = some (.int .i64 y)) (hi : i < L) (hL : L ≤ 600) (hwd : wd + b ≤ 2305843009213693952)
    (hxy : y ≠ x) (h59 : (i : Int).tmod 60 = 59)
    (hm : m ≠ []) (hw : w ≠ []) (next : ∀ G' vm vw, Two H G' vm vw (m ++ [((wd + b : Nat) : Int)]) (w ++ [y]) → acs Try.prog [.lp c39l0, .blk 0, .code c39t] (e39 p q L c1 c2 vm vw (0) (1) (i + 1)) (H ++ G') Q) :
    acs Try.prog [.lp c39l0, .blk 0, .code c39t] (e39 p q L c1 c2 (.sl (H.length + G.length) 0 m.length 1 none) (.sl (H.length + (G ++ ob m :: G2).length) 0 w.length 1 none) wd b i) (H ++ (G ++ ob m :: (G2 ++ [ob w]))) Q := by
  have nx := next _ _ _ (.wm (G ++ ([none] : Heap) ++ G2 ++ ([none] : Heap) ++ ([ob [y]] : Heap)) (([ob [((wd + b : Nat) : Int)]] : Heap)) (m ++ [((wd + b : Nat) : Int)]) (w ++ [y]) (by simp) (by simp))
  have hlt : (i : Int) < (L : Int) := by omega
  have hpl := blkAt_lt hp
  have hql := blkAt_lt hq
  have tm : List.take m.length (m.map (AV.int .i64)) = m.map (AV.int .i64) := takeMap m
  have bm : (m.length + 1) * 8 ≤ 140737488355328 := by omega
  have tw : List.take w.length (w.map (AV.int .i64)) = w.map (AV.int .i64) := takeMap w
  have bw : (w.length + 1) * 8 ≤ 140737488355328 := by omega
  clear next
  unfold ob e39 at *
  simp only [List.append_assoc, List.cons_append, List.nil_append, List.length_append, List.length_cons, List.length_nil, Nat.reduceAdd, Nat.add_assoc, Nat.zero_add, Nat.add_zero, Int.natCast_add, Int.cast_ofNat_Int, List.map_append, List.map_cons, List.map_nil, Int.natCast_mul] at nx
  rw [acs_lp]; conv in Fr.code c39l0 => unfold c39l0
  simp (maxSteps:=1000000) (disch:=omega) only [go_sem, ↓reduceIte, reduceCtorEq, hp, hq, hpl, hql, hlt, fx, fy, blkAt_lo, List.length_map, Nat.le_refl, blkAt_s2, blkAt_s3, blkAt_s4, blkAt_s5, set_s2, set_s3, set_s4, set_s5, tm, bm, tw, bw, hxy, h59]
  exact nx
theorem s15_mw_d_l {H : Heap} {p q L i wd b : Nat} {c1 c2 : Option Nat} {x y : Int} {cs ds : List AV} {o o' : Bool} {Q : Post} {G G2 : Heap} {m w : List Int} (lm : m.length ≤ 1000) (lw : w.length ≤ 1000) (hp : blkAt H p = some ⟨cs, o⟩) (hq : blkAt H q = some ⟨ds, o'⟩) (fx : cs[i]? = some (.int .i64 x)) (fy : ds[i]? = some (.int .i64 y)) (hi : i < L) (hL : L ≤ 600) (hwd : wd + b ≤ 2305843009213693952)
    (hxy : y ≠ x) (h59 : (i : Int).tmod 60 ≠ 59 ∧ (i : Int) = (L : Int) - 1)
    (hm : m ≠ []) (hw : w ≠ []) (next : ∀ G' vm vw, Two H G' vm vw (m ++ [((wd + b : Nat) : Int)]) (w ++ [y]) → acs Try.prog [.lp c39l0, .blk 0, .code c39t] (e39 p q L c1 c2 vm vw (0) (1) (i + 1)) (H ++ G') Q) :
    acs Try.prog [.lp c39l0, .blk 0, .code c39t] (e39 p q L c1 c2 (.sl (H.length + G.length) 0 m.length 1 none) (.sl (H.length + (G ++ ob m :: G2).length) 0 w.length 1 none) wd b i) (H ++ (G ++ ob m :: (G2 ++ [ob w]))) Q := by
  have nx := next _ _ _ (.wm (G ++ ([none] : Heap) ++ G2 ++ ([none] : Heap) ++ ([ob [y]] : Heap)) (([ob [((wd + b : Nat) : Int)]] : Heap)) (m ++ [((wd + b : Nat) : Int)]) (w ++ [y]) (by simp) (by simp))
  have hlt : (i : Int) < (L : Int) := by omega
  have hpl := blkAt_lt hp
  have hql := blkAt_lt hq
  have tm : List.take m.length (m.map (AV.int .i64)) = m.map (AV.int .i64) := takeMap m
  have bm : (m.length + 1) * 8 ≤ 140737488355328 := by omega
  have tw : List.take w.length (w.map (AV.int .i64)) = w.map (AV.int .i64) := takeMap w
  have bw : (w.length + 1) * 8 ≤ 140737488355328 := by omega
  clear next
  unfold ob e39 at *
  simp only [List.append_assoc, List.cons_append, List.nil_append, List.length_append, List.length_cons, List.length_nil, Nat.reduceAdd, Nat.add_assoc, Nat.zero_add, Nat.add_zero, Int.natCast_add, Int.cast_ofNat_Int, List.map_append, List.map_cons, List.map_nil, Int.natCast_mul] at nx
  rw [acs_lp]; conv in Fr.code c39l0 => unfold c39l0
  obtain ⟨h1, h2⟩ := h59
  have h2 := eq_true h2
  simp (maxSteps:=1000000) (disch:=omega) only [go_sem, ↓reduceIte, reduceCtorEq, hp, hq, hpl, hql, hlt, fx, fy, blkAt_lo, List.length_map, Nat.le_refl, blkAt_s2, blkAt_s3, blkAt_s4, blkAt_s5, set_s2, set_s3, set_s4, set_s5, tm, bm, tw, bw, hxy, h1, h2]
  exact nx
theorem s15_wm_e_no {H : Heap} {p q L i wd b : Nat} {c1 c2 : Option Nat} {x y : Int} {cs ds : List AV} {o o' : Bool} {Q : Post} {G G2 : Heap} {m w : List Int} (lm : m.length ≤ 1000) (lw : w.length ≤ 1000) (hp : blkAt H p = some ⟨cs, o⟩) (hq : blkAt H q = some ⟨ds, o'⟩) (fx : cs[i]? = some (.int .i64 x)) (fy : ds[i]? = some (.int .i64 y)) (hi : i < L) (hL : L ≤ 600) (hwd : wd + b ≤ 2305843009213693952)
    (hxy : y = x) (h59 : (i : Int).tmod 60 ≠ 59 ∧ (i : Int) ≠ (L : Int) - 1)
    (hm : m ≠ []) (hw : w ≠ []) (next : ∀ G' vm vw, Two H G' vm vw (m) (w) → acs Try.prog [.lp c39l0, .blk 0, .code c39t] (e39 p q L c1 c2 vm vw (wd) (b * 2) (i + 1)) (H ++ G') Q) :
    acs Try.prog [.lp c39l0, .blk 0, .code c39t] (e39 p q L c1 c2 (.sl (H.length + (G ++ ob w :: G2).length) 0 m.length 1 none) (.sl (H.length + G.length) 0 w.length 1 none) wd b i) (H ++ (G ++ ob w :: (G2 ++ [ob m]))) Q := by
  have nx := next _ _ _ (.wm (G) (G2) (m) (w) hm hw)
  have hlt : (i : Int) < (L : Int) := by omega
  have hpl := blkAt_lt hp
  have hql := blkAt_lt hq
  have tm : List.take m.length (m.map (AV.int .i64)) = m.map (AV.int .i64) := takeMap m
  have bm : (m.length + 1) * 8 ≤ 140737488355328 := by omega
  have tw : List.take w.length (w.map (AV.int .i64)) = w.map (AV.int .i64) := takeMap w
  have bw : (w.length + 1) * 8 ≤ 140737488355328 := by omega
  clear next
  unfold ob e39 at *
  simp only [List.append_assoc, List.cons_append, List.nil_append, List.length_append, List.length_cons, List.length_nil, Nat.reduceAdd, Nat.add_assoc, Nat.zero_add, Nat.add_zero, Int.natCast_add, Int.cast_ofNat_Int, List.map_append, List.map_cons, List.map_nil, Int.natCast_mul] at nx
  rw [acs_lp]; conv in Fr.code c39l0 => unfold c39l0
  subst hxy
  obtain ⟨h1, h2⟩ := h59
  simp (maxSteps:=1000000) (disch:=omega) only [go_sem, ↓reduceIte, reduceCtorEq, hp, hq, hpl, hql, hlt, fx, fy, blkAt_lo, List.length_map, Nat.le_refl, blkAt_s2, blkAt_s3, blkAt_s4, blkAt_s5, set_s2, set_s3, set_s4, set_s5, tm, bm, tw, bw, h1, h2]
  exact nx
theorem s15_wm_e_a {H : Heap} {p q L i wd b : Nat} {c1 c2 : Option Nat} {x y : Int} {cs ds : List AV} {o o' : Bool} {Q : Post} {G G2 : Heap} {m w : List Int} (lm : m.length ≤ 1000) (lw : w.length ≤ 1000) (hp : blkAt H p = some ⟨cs, o⟩) (hq : blkAt H q = some ⟨ds, o'⟩) (fx : cs[i]? = some (.int .i64 x)) (fy : ds[i]? = some (.int .i64 y)) (hi : i < L) (hL : L ≤ 600) (hwd : wd + b ≤ 2305843009213693952)
    (hxy : y = x) (h59 : (i : Int).tmod 60 = 59)
    (hm : m ≠ []) (hw : w ≠ []) (next : ∀ G' vm vw, Two H G' vm vw (m ++ [((wd : Nat) : Int)]) (w) → acs Try.prog [.lp c39l0, .blk 0, .code c39t] (e39 p q L c1 c2 vm vw (0) (1) (i + 1)) (H ++ G') Q) :
    acs Try.prog [.lp c39l0, .blk 0, .code c39t] (e39 p q L c1 c2 (.sl (H.length + (G ++ ob w :: G2).length) 0 m.length 1 none) (.sl (H.length + G.length) 0 w.length 1 none) wd b i) (H ++ (G ++ ob w :: (G2 ++ [ob m]))) Q := by
  have nx := next _ _ _ (.wm (G) (G2 ++ ([none] : Heap) ++ ([ob [((wd : Nat) : Int)]] : Heap)) (m ++ [((wd : Nat) : Int)]) (w) (by simp) hw)
  have hlt : (i : Int) < (L : Int) := by omega
  have hpl := blkAt_lt hp
  have hql := blkAt_lt hq
  have tm : List.take m.length (m.map (AV.int .i64)) = m.map (AV.int .i64) := takeMap m
  have bm : (m.length + 1) * 8 ≤ 140737488355328 := by omega
  have tw : List.take w.length (w.map (AV.int .i64)) = w.map (AV.int .i64) := takeMap w
  have bw : (w.length + 1) * 8 ≤ 140737488355328 := by omega
  clear next
  unfold ob e39 at *
  simp only [List.append_assoc, List.cons_append, List.nil_append, List.length_append, List.length_cons, List.length_nil, Nat.reduceAdd, Nat.add_assoc, Nat.zero_add, Nat.add_zero, Int.natCast_add, Int.cast_ofNat_Int, List.map_append, List.map_cons, List.map_nil, Int.natCast_mul] at nx
  rw [acs_lp]; conv in Fr.code c39l0 => unfold c39l0
  subst hxy
  simp (maxSteps:=1000000) (disch:=omega) only [go_sem, ↓reduceIte, reduceCtorEq, hp, hq, hpl, hql, hlt, fx, fy, blkAt_lo, List.length_map, Nat.le_refl, blkAt_s2, blkAt_s3, blkAt_s4, blkAt_s5, set_s2, set_s3, set_s4, set_s5, tm, bm, tw, bw, h59]
  exact nx
theorem s15_wm_e_l {H : Heap} {p q L i wd b : Nat} {c1 c2 : Option Nat} {x y : Int} {cs ds : List AV} {o o' : Bool} {Q : Post} {G G2 : Heap} {m w : List Int} (lm : m.length ≤ 1000) (lw : w.length ≤ 1000) (hp : blkAt H p = some ⟨cs, o⟩) (hq : blkAt H q = some ⟨ds, o'⟩) (fx : cs[i]? = some (.int .i64 x)) (fy : ds[i]? = some (.int .i64 y)) (hi : i < L) (hL : L ≤ 600) (hwd : wd + b ≤ 2305843009213693952)
    (hxy : y = x) (h59 : (i : Int).tmod 60 ≠ 59 ∧ (i : Int) = (L : Int) - 1)
    (hm : m ≠ []) (hw : w ≠ []) (next : ∀ G' vm vw, Two H G' vm vw (m ++ [((wd : Nat) : Int)]) (w) → acs Try.prog [.lp c39l0, .blk 0, .code c39t] (e39 p q L c1 c2 vm vw (0) (1) (i + 1)) (H ++ G') Q) :
    acs Try.prog [.lp c39l0, .blk 0, .code c39t] (e39 p q L c1 c2 (.sl (H.length + (G ++ ob w :: G2).length) 0 m.length 1 none) (.sl (H.length + G.length) 0 w.length 1 none) wd b i) (H ++ (G ++ ob w :: (G2 ++ [ob m]))) Q := by
  have nx := next _ _ _ (.wm (G) (G2 ++ ([none] : Heap) ++ ([ob [((wd : Nat) : Int)]] : Heap)) (m ++ [((wd : Nat) : Int)]) (w) (by simp) hw)
  have hlt : (i : Int) < (L : Int) := by omega
  have hpl := blkAt_lt hp
  have hql := blkAt_lt hq
  have tm : List.take m.length (m.map (AV.int .i64)) = m.map (AV.int .i64) := takeMap m
  have bm : (m.length + 1) * 8 ≤ 140737488355328 := by omega
  have tw : List.take w.length (w.map (AV.int .i64)) = w.map (AV.int .i64) := takeMap w
  have bw : (w.length + 1) * 8 ≤ 140737488355328 := by omega
  clear next
  unfold ob e39 at *
  simp only [List.append_assoc, List.cons_append, List.nil_append, List.length_append, List.length_cons, List.length_nil, Nat.reduceAdd, Nat.add_assoc, Nat.zero_add, Nat.add_zero, Int.natCast_add, Int.cast_ofNat_Int, List.map_append, List.map_cons, List.map_nil, Int.natCast_mul] at nx
  rw [acs_lp]; conv in Fr.code c39l0 => unfold c39l0
  subst hxy
  obtain ⟨h1, h2⟩ := h59
  have h2 := eq_true h2
  simp (maxSteps:=1000000) (disch:=omega) only [go_sem, ↓reduceIte, reduceCtorEq, hp, hq, hpl, hql, hlt, fx, fy, blkAt_lo, List.length_map, Nat.le_refl, blkAt_s2, blkAt_s3, blkAt_s4, blkAt_s5, set_s2, set_s3, set_s4, set_s5, tm, bm, tw, bw, h1, h2]
  exact nx
theorem s15_wm_d_no {H : Heap} {p q L i wd b : Nat} {c1 c2 : Option Nat} {x y : Int} {cs ds : List AV} {o o' : Bool} {Q : Post} {G G2 : Heap} {m w : List Int} (lm : m.length ≤ 1000) (lw : w.length ≤ 1000) (hp : blkAt H p = some ⟨cs, o⟩) (hq : blkAt H q = some ⟨ds, o'⟩) (fx : cs[i]? = some (.int .i64 x)) (fy : ds[i]? = some (.int .i64 y)) (hi : i < L) (hL : L ≤ 600) (hwd : wd + b ≤ 2305843009213693952)
    (hxy : y ≠ x) (h59 : (i : Int).tmod 60 ≠ 59 ∧ (i : Int) ≠ (L : Int) - 1)
    (hm : m ≠ []) (hw : w ≠ []) (next : ∀ G' vm vw, Two H G' vm vw (m) (w ++ [y]) → acs Try.prog [.lp c39l0, .blk 0, .code c39t] (e39 p q L c1 c2 vm vw (wd + b) (b * 2) (i + 1)) (H ++ G') Q) :
    acs Try.prog [.lp c39l0, .blk 0, .code c39t] (e39 p q L c1 c2 (.sl (H.length + (G ++ ob w :: G2).length) 0 m.length 1 none) (.sl (H.length + G.length) 0 w.length 1 none) wd b i) (H ++ (G ++ ob w :: (G2 ++ [ob m]))) Q := by
  have nx := next _ _ _ (.mw (G ++ ([none] : Heap) ++ G2) (([ob [y]] : Heap)) (m) (w ++ [y]) hm (by simp))
  have hlt : (i : Int) < (L : Int) := by omega
  have hpl := blkAt_lt hp
  have hql := blkAt_lt hq
  have tm : List.take m.length (m.map (AV.int .i64)) = m.map (AV.int .i64) := takeMap m
  have bm : (m.length + 1) * 8 ≤ 140737488355328 := by omega
  have tw : List.take w.length (w.map (AV.int .i64)) = w.map (AV.int .i64) := takeMap w
  have bw : (w.length + 1) * 8 ≤ 140737488355328 := by omega
  clear next
  unfold ob e39 at *
  simp only [List.append_assoc, List.cons_append, List.nil_append, List.length_append, List.length_cons, List.length_nil, Nat.reduceAdd, Nat.add_assoc, Nat.zero_add, Nat.add_zero, Int.natCast_add, Int.cast_ofNat_Int, List.map_append, List.map_cons, List.map_nil, Int.natCast_mul] at nx
  rw [acs_lp]; conv in Fr.code c39l0 => unfold c39l0
  obtain ⟨h1, h2⟩ := h59
  simp (maxSteps:=1000000) (disch:=omega) only [go_sem, ↓reduceIte, reduceCtorEq, hp, hq, hpl, hql, hlt, fx, fy, blkAt_lo, List.length_map, Nat.le_refl, blkAt_s2, blkAt_s3, blkAt_s4, blkAt_s5, set_s2, set_s3, set_s4, set_s5, tm, bm, tw, bw, hxy, h1, h2]
  exact nx
theorem s15_wm_d_a {H : Heap} {p q L i wd b : Nat} {c1 c2 : Option Nat} {x y : Int} {cs ds : List AV} {o o' : Bool} {Q : Post} {G G2 : Heap} {m w : List Int} (lm : m.length ≤ 1000) (lw : w.length ≤ 1000) (hp : blkAt H p = some ⟨cs, o⟩) (hq : blkAt H q = some ⟨ds, o'⟩) (fx : cs[i]? = some (.int .i64 x)) (fy : ds[i]? = some (.int .i64 y)) (hi : i < L) (hL : L ≤ 600) (hwd : wd + b ≤ 2305843009213693952)
    (hxy : y ≠ x) (h59 : (i : Int).tmod 60 = 59)
    (hm : m ≠ []) (hw : w ≠ []) (next : ∀ G' vm vw, Two H G' vm vw (m ++ [((wd + b : Nat) : Int)]) (w ++ [y]) → acs Try.prog [.lp c39l0, .blk 0, .code c39t] (e39 p q L c1 c2 vm vw (0) (1) (i + 1)) (H ++ G') Q) :
    acs Try.prog [.lp c39l0, .blk 0, .code c39t] (e39 p q L c1 c2 (.sl (H.length + (G ++ ob w :: G2).length) 0 m.length 1 none) (.sl (H.length + G.length) 0 w.length 1 none) wd b i) (H ++ (G ++ ob w :: (G2 ++ [ob m]))) Q := by
  have nx := next _ _ _ (.wm (G ++ ([none] : Heap) ++ G2 ++ ([none] : Heap) ++ ([ob [y]] : Heap)) (([ob [((wd + b : Nat) : Int)]] : Heap)) (m ++ [((wd + b : Nat) : Int)]) (w ++ [y]) (by simp) (by simp))
  have hlt : (i : Int) < (L : Int) := by omega
  have hpl := blkAt_lt hp
  have hql := blkAt_lt hq
  have tm : List.take m.length (m.map (AV.int .i64)) = m.map (AV.int .i64) := takeMap m
  have bm : (m.length + 1) * 8 ≤ 140737488355328 := by omega
  have tw : List.take w.length (w.map (AV.int .i64)) = w.map (AV.int .i64) := takeMap w
  have bw : (w.length + 1) * 8 ≤ 140737488355328 := by omega
  clear next
  unfold ob e39 at *
  simp only [List.append_assoc, List.cons_append, List.nil_append, List.length_append, List.length_cons, List.length_nil, Nat.reduceAdd, Nat.add_assoc, Nat.zero_add, Nat.add_zero, Int.natCast_add, Int.cast_ofNat_Int, List.map_append, List.map_cons, List.map_nil, Int.natCast_mul] at nx
  rw [acs_lp]; conv in Fr.code c39l0 => unfold c39l0
  simp (maxSteps:=1000000) (disch:=omega) only [go_sem, ↓reduceIte, reduceCtorEq, hp, hq, hpl, hql, hlt, fx, fy, blkAt_lo, List.length_map, Nat.le_refl, blkAt_s2, blkAt_s3, blkAt_s4, blkAt_s5, set_s2, set_s3, set_s4, set_s5, tm, bm, tw, bw, hxy, h59]
  exact nx
theorem s15_wm_d_l {H : Heap} {p q L i wd b : Nat} {c1 c2 : Option Nat} {x y : Int} {cs ds : List AV} {o o' : Bool} {Q : Post} {G G2 : Heap} {m w : List Int} (lm : m.length ≤ 1000) (lw : w.length ≤ 1000) (hp : blkAt H p = some ⟨cs, o⟩) (hq : blkAt H q = some ⟨ds, o'⟩) (fx : cs[i]? = some (.int .i64 x)) (fy : ds[i]? = some (.int .i64 y)) (hi : i < L) (hL : L ≤ 600) (hwd : wd + b ≤ 2305843009213693952)
    (hxy : y ≠ x) (h59 : (i : Int).tmod 60 ≠ 59 ∧ (i : Int) = (L : Int) - 1)
    (hm : m ≠ []) (hw : w ≠ []) (next : ∀ G' vm vw, Two H G' vm vw (m ++ [((wd + b : Nat) : Int)]) (w ++ [y]) → acs Try.prog [.lp c39l0, .blk 0, .code c39t] (e39 p q L c1 c2 vm vw (0) (1) (i + 1)) (H ++ G') Q) :
    acs Try.prog [.lp c39l0, .blk 0, .code c39t] (e39 p q L c1 c2 (.sl (H.length + (G ++ ob w :: G2).length) 0 m.length 1 none) (.sl (H.length + G.length) 0 w.length 1 none) wd b i) (H ++ (G ++ ob w :: (G2 ++ [ob m]))) Q := by
  have nx := next _ _ _ (.wm (G ++ ([none] : Heap) ++ G2 ++ ([none] : Heap) ++ ([ob [y]] : Heap)) (([ob [((wd + b : Nat) : Int)]] : Heap)) (m ++ [((wd + b : Nat) : Int)]) (w ++ [y]) (by simp) (by simp))
  have hlt : (i : Int) < (L : Int) := by omega
  have hpl := blkAt_lt hp
  have hql := blkAt_lt hq
  have tm : List.take m.length (m.map (AV.int .i64)) = m.map (AV.int .i64) := takeMap m
  have bm : (m.length + 1) * 8 ≤ 140737488355328 := by omega
  have tw : List.take w.length (w.map (AV.int .i64)) = w.map (AV.int .i64) := takeMap w
  have bw : (w.length + 1) * 8 ≤ 140737488355328 := by omega
  clear next
  unfold ob e39 at *
  simp only [List.append_assoc, List.cons_append, List.nil_append, List.length_append, List.length_cons, List.length_nil, Nat.reduceAdd, Nat.add_assoc, Nat.zero_add, Nat.add_zero, Int.natCast_add, Int.cast_ofNat_Int, List.map_append, List.map_cons, List.map_nil, Int.natCast_mul] at nx
  rw [acs_lp]; conv in Fr.code c39l0 => unfold c39l0
  obtain ⟨h1, h2⟩ := h59
  have h2 := eq_true h2
  simp (maxSteps:=1000000) (disch:=omega) only [go_sem, ↓reduceIte, reduceCtorEq, hp, hq, hpl, hql, hlt, fx, fy, blkAt_lo, List.length_map, Nat.le_refl, blkAt_s2, blkAt_s3, blkAt_s4, blkAt_s5, set_s2, set_s3, set_s4, set_s5, tm, bm, tw, bw, hxy, h1, h2]
  exact nx

theorem f39_step {H : Heap} {p q L i wd b : Nat} {c1 c2 : Option Nat} {x y : Int} {cs ds : List AV} {o o' : Bool} {Q : Post} {G' : Heap} {vm vw : AV} {m w : List Int} (hp : blkAt H p = some ⟨cs, o⟩) (hq : blkAt H q = some ⟨ds, o'⟩) (fx : cs[i]? = some (.int .i64 x)) (fy : ds[i]? = some (.int .i64 y)) (hi : i < L) (hL : L ≤ 600) (hwd : wd + b ≤ 2305843009213693952)
    (hT : Two H G' vm vw m w) (lm : m.length ≤ 1000) (lw : w.length ≤ 1000)
    (next : ∀ G' vm vw, Two H G' vm vw (if i % 60 = 59 ∨ i + 1 = L then m ++ [((wd + (if y = x then 0 else b) : Nat) : Int)] else m) (w ++ if y = x then [] else [y]) → acs Try.prog [.lp c39l0, .blk 0, .code c39t] (e39 p q L c1 c2 vm vw (if i % 60 = 59 ∨ i + 1 = L then 0 else wd + (if y = x then 0 else b)) (if i % 60 = 59 ∨ i + 1 = L then 1 else b * 2) (i + 1)) (H ++ G') Q) :
    acs Try.prog [.lp c39l0, .blk 0, .code c39t] (e39 p q L c1 c2 vm vw wd b i) (H ++ G') Q := by
  have hmod : (i : Int).tmod 60 = ((i % 60 : Nat) : Int) := by rw [Int.tmod_eq_emod_of_nonneg (by omega)]; omega
  by_cases h1 : i % 60 = 59
  · have h59 : (i : Int).tmod 60 = 59 := by omega
    simp only [if_pos (show i % 60 = 59 ∨ i + 1 = L from .inl h1)] at next
    by_cases hxy : y = x
    · simp only [if_pos hxy, Nat.add_zero, List.append_nil] at next
      cases hT with
      | nn => exact s15_nn_e_a hp hq fx fy hi hL hwd hxy h59 next
      | mn _ _ hm => exact s15_mn_e_a lm hp hq fx fy hi hL hwd hxy h59 hm next
      | nw _ _ hw => exact s15_nw_e_a lw hp hq fx fy hi hL hwd hxy h59 hw next
      | mw _ _ _ _ hm hw => exact s15_mw_e_a lm lw hp hq fx fy hi hL hwd hxy h59 hm hw next
      | wm _ _ _ _ hm hw => exact s15_wm_e_a lm lw hp hq fx fy hi hL hwd hxy h59 hm hw next
    · simp only [if_neg hxy] at next
      cases hT with
      | nn => exact s15_nn_d_a hp hq fx fy hi hL hwd hxy h59 next
      | mn _ _ hm => exact s15_mn_d_a lm hp hq fx fy hi hL hwd hxy h59 hm next
      | nw _ _ hw => exact s15_nw_d_a lw hp hq fx fy hi hL hwd hxy h59 hw next
      | mw _ _ _ _ hm hw => exact s15_mw_d_a lm lw hp hq fx fy hi hL hwd hxy h59 hm hw next
      | wm _ _ _ _ hm hw => exact s15_wm_d_a lm lw hp hq fx fy hi hL hwd hxy h59 hm hw next
  · by_cases h2 : i + 1 = L
    · have h59 : (i : Int).tmod 60 ≠ 59 ∧ (i : Int) = (L : Int) - 1 := by omega
      simp only [if_pos (show i % 60 = 59 ∨ i + 1 = L from .inr h2)] at next
      by_cases hxy : y = x
      · simp only [if_pos hxy, Nat.add_zero, List.append_nil] at next
        cases hT with
        | nn => exact s15_nn_e_l hp hq fx fy hi hL hwd hxy h59 next
        | mn _ _ hm => exact s15_mn_e_l lm hp hq fx fy hi hL hwd hxy h59 hm next
        | nw _ _ hw => exact s15_nw_e_l lw hp hq fx fy hi hL hwd hxy h59 hw next
        | mw _ _ _ _ hm hw => exact s15_mw_e_l lm lw hp hq fx fy hi hL hwd hxy h59 hm hw next
        | wm _ _ _ _ hm hw => exact s15_wm_e_l lm lw hp hq fx fy hi hL hwd hxy h59 hm hw next
      · simp only [if_neg hxy] at next
        cases hT with
        | nn => exact s15_nn_d_l hp hq fx fy hi hL hwd hxy h59 next
        | mn _ _ hm => exact s15_mn_d_l lm hp hq fx fy hi hL hwd hxy h59 hm next
        | nw _ _ hw => exact s15_nw_d_l lw hp hq fx fy hi hL hwd hxy h59 hw next
        | mw _ _ _ _ hm hw => exact s15_mw_d_l lm lw hp hq fx fy hi hL hwd hxy h59 hm hw next
        | wm _ _ _ _ hm hw => exact s15_wm_d_l lm lw hp hq fx fy hi hL hwd hxy h59 hm hw next
    · have h59 : (i : Int).tmod 60 ≠ 59 ∧ (i : Int) ≠ (L : Int) - 1 := by omega
      simp only [if_neg (show ¬ (i % 60 = 59 ∨ i + 1 = L) by omega)] at next
      by_cases hxy : y = x
      · simp only [if_pos hxy, Nat.add_zero, List.append_nil] at next
        cases hT with
        | nn => exact s15_nn_e_no hp hq fx fy hi hL hwd hxy h59 next
        | mn _ _ hm => exact s15_mn_e_no lm hp hq fx fy hi hL hwd hxy h59 hm next
        | nw _ _ hw => exact s15_nw_e_no lw hp hq fx fy hi hL hwd hxy h59 hw next
        | mw _ _ _ _ hm hw => exact s15_mw_e_no lm lw hp hq fx fy hi hL hwd hxy h59 hm hw next
        | wm _ _ _ _ hm hw => exact s15_wm_e_no lm lw hp hq fx fy hi hL hwd hxy h59 hm hw next
      · simp only [if_neg hxy] at next
        cases hT with
        | nn => exact s15_nn_d_no hp hq fx fy hi hL hwd hxy h59 next
        | mn _ _ hm => exact s15_mn_d_no lm hp hq fx fy hi hL hwd hxy h59 hm next
        | nw _ _ hw => exact s15_nw_d_no lw hp hq fx fy hi hL hwd hxy h59 hw next
        | mw _ _ _ _ hm hw => exact s15_mw_d_no lm lw hp hq fx fy hi hL hwd hxy h59 hm hw next
        | wm _ _ _ _ hm hw => exact s15_wm_d_no lm lw hp hq fx fy hi hL hwd hxy h59 hm hw next
def Q15 (H : Heap) : List Int → Post
  | [] => Fin H rs39 (.tup [.nils, .int .i64 0]) H
  | R => FinW H rs39 (.tup [.sl H.length 0 R.length 1 none, .int .i64 0]) (H ++ [some ⟨R.map (AV.int .i64), false⟩])
theorem Q15_cons {H : Heap} {R : List Int} (h : R ≠ []) : Q15 H R = FinW H rs39 (.tup [.sl H.length 0 R.length 1 none, .int .i64 0]) (H ++ [some ⟨R.map (AV.int .i64), false⟩]) := by
  cases R with
  | nil => exact absurd rfl h
  | cons x r => rfl
theorem f39_end {H : Heap} {p q L i wd b : Nat} {c1 c2 : Option Nat} {G' : Heap} {vm vw : AV} {m w : List Int} (hL : i = L) (hT : Two H G' vm vw m w) (lm : m.length ≤ 1000) (lw : w.length ≤ 1000) (hw : m = [] → w = []) :
    acs Try.prog [.lp c39l0, .blk 0, .code c39t] (e39 p q L c1 c2 vm vw wd b i) (H ++ G') (Q15 H (m ++ w)) := by
  have hlt : ¬ (i : Int) < (L : Int) := by omega
  cases hT with
  | nn =>
    unfold e39 Q15
    rw [acs_lp]; conv in Fr.code c39l0 => unfold c39l0
    simp (maxSteps:=1000000) (disch:=omega) only [go_sem, ↓reduceIte, reduceCtorEq, hlt]
    unfold c39t c39 tl2
    simp (maxSteps:=1000000) (disch:=omega) only [go_sem, ↓reduceIte, reduceCtorEq]
    exact fin_same (by simp) _ (by first | exact (List.append_nil _).symm | rfl) (by simp (maxSteps:=1000000) (disch:=omega) only [resVal, resAll, resOne, rs39, Env.get, go_sem, ↓reduceIte, reduceCtorEq]) (by simp only [AV.und, AV.unds, and_self])
  | mn G _ hm =>
    rw [List.append_nil, Q15_cons hm]
    unfold e39 ob
    rw [acs_lp]; conv in Fr.code c39l0 => unfold c39l0
    simp (maxSteps:=1000000) (disch:=omega) only [go_sem, ↓reduceIte, reduceCtorEq, hlt]
    unfold c39t c39 tl2
    simp (maxSteps:=1000000) (disch:=omega) only [go_sem, ↓reduceIte, reduceCtorEq]
    refine ⟨.tup [.sl H.length 0 m.length 1 none, .int .i64 0], (fun _ _ h => h), fin_oneF (o := true) (G ++ [some ⟨m.map (AV.int .i64), true⟩]) G.length (m.map (AV.int .i64)) (by simp) rfl (by simp) (undMap _) (by simp only [resVal, resAll, resOne, rs39, Env.get, go_sem, ↓reduceIte, reduceCtorEq]; rfl) (by simp [AV.ren, AV.rens]) (by simp [AV.und, AV.unds])⟩
  | nw _ _ hw2 => exact absurd (hw rfl) hw2
  | mw G G2 _ _ hm hw2 =>
    have tm : List.take m.length (m.map (AV.int .i64)) = m.map (AV.int .i64) := takeMap m
    have tw : List.take w.length (w.map (AV.int .i64)) = w.map (AV.int .i64) := takeMap w
    have bm : (m.length + w.length) * 8 ≤ 140737488355328 := by omega
    have hwl : ¬ w.length = 0 := fun h => hw2 (List.eq_nil_of_length_eq_zero h)
    rw [Q15_cons (by simp [hm])]
    unfold e39 ob
    rw [acs_lp]; conv in Fr.code c39l0 => unfold c39l0
    simp (maxSteps:=1000000) (disch:=omega) only [go_sem, ↓reduceIte, reduceCtorEq, hlt]
    unfold c39t c39 tl2
    simp (maxSteps:=1000000) (disch:=omega) only [go_sem, ↓reduceIte, reduceCtorEq, tm, tw, bm, hwl, allMap, blkAt_s2, blkAt_s3, blkAt_s4, blkAt_s5, set_s2, set_s3, set_s4, set_s5, List.length_map, Nat.le_refl]
    refine ⟨.tup [.sl H.length 0 (m.length + w.length) 1 none, .int .i64 0], (fun _ _ h => h), fin_oneF (o := true) (G ++ none :: (G2 ++ [some ⟨w.map (AV.int .i64), true⟩, some ⟨(m ++ w).map (AV.int .i64), true⟩])) (G.length + (G2.length + 2)) ((m ++ w).map (AV.int .i64)) (by simp) (by simp) (by simp) (undMap _) (by simp only [resVal, resAll, resOne, rs39, Env.get, go_sem, ↓reduceIte, reduceCtorEq]; rfl) (by simp [AV.ren, AV.rens]) (by simp [AV.und, AV.unds])⟩
  | wm G G2 _ _ hm hw2 =>
    have tm : List.take m.length (m.map (AV.int .i64)) = m.map (AV.int .i64) := takeMap m
    have tw : List.take w.length (w.map (AV.int .i64)) = w.map (AV.int .i64) := takeMap w
    have bm : (m.length + w.length) * 8 ≤ 140737488355328 := by omega
    have hwl : ¬ w.length = 0 := fun h => hw2 (List.eq_nil_of_length_eq_zero h)
    rw [Q15_cons (by simp [hm])]
    unfold e39 ob
    rw [acs_lp]; conv in Fr.code c39l0 => unfold c39l0
    simp (maxSteps:=1000000) (disch:=omega) only [go_sem, ↓reduceIte, reduceCtorEq, hlt]
    unfold c39t c39 tl2
    simp (maxSteps:=1000000) (disch:=omega) only [go_sem, ↓reduceIte, reduceCtorEq, tm, tw, bm, hwl, allMap, blkAt_s2, blkAt_s3, blkAt_s4, blkAt_s5, set_s2, set_s3, set_s4, set_s5, List.length_map, Nat.le_refl]
    refine ⟨.tup [.sl H.length 0 (m.length + w.length) 1 none, .int .i64 0], (fun _ _ h => h), fin_oneF (o := true) (G ++ some ⟨w.map (AV.int .i64), true⟩ :: (G2 ++ [none, some ⟨(m ++ w).map (AV.int .i64), true⟩])) (G.length + (G2.length + 2)) ((m ++ w).map (AV.int .i64)) (by simp) (by simp) (by simp) (undMap _) (by simp only [resVal, resAll, resOne, rs39, Env.get, go_sem, ↓reduceIte, reduceCtorEq]; rfl) (by simp [AV.ren, AV.rens]) (by simp [AV.und, AV.unds])⟩
def mI (β : Nat → Bool) (K i : Nat) : List Int := (List.range K).map fun k => ((mkw β (60 * k) (min 60 (i - 60 * k)) : Nat) : Int)
theorem mI_push (β : Nat → Bool) (i : Nat) : mI β (i / 60 + 1) (i + 1) = mI β (i / 60) i ++ [((mkw β (60 * (i / 60)) (i % 60 + 1) : Nat) : Int)] := by
  unfold mI
  rw [List.range_succ, List.map_append, List.map_cons, List.map_nil, show min 60 (i + 1 - 60 * (i / 60)) = i % 60 + 1 by omega]
  congr 1
  apply List.map_congr_left
  intro k hk
  rw [List.mem_range] at hk
  rw [show min 60 (i + 1 - 60 * k) = min 60 (i - 60 * k) by omega]
theorem mI_stay (β : Nat → Bool) (i : Nat) : mI β (i / 60) (i + 1) = mI β (i / 60) i := by
  unfold mI
  apply List.map_congr_left
  intro k hk
  rw [List.mem_range] at hk
  rw [show min 60 (i + 1 - 60 * k) = min 60 (i - 60 * k) by omega]
theorem mI_len (β : Nat → Bool) (K i : Nat) : (mI β K i).length = K := by simp [mI]
theorem chg_snoc : ∀ (a b : List Int) (x y : Int), a.length = b.length → chg (a ++ [x]) (b ++ [y]) = chg a b ++ if y = x then [] else [y]
  | [], [], x, y, _ => by simp [chg]
  | [], _ :: _, x, y, h => by simp at h
  | _ :: _, [], x, y, h => by simp at h
  | u :: a, v :: b, x, y, h => by
    rw [List.cons_append, List.cons_append, chg, chg, chg_snoc a b x y (by simpa using h)]
    by_cases he : v = u
    · rw [if_pos he, if_pos he]
    · rw [if_neg he, if_neg he]
      rfl
theorem take_snoc {l : List Int} {i : Nat} (h : i < l.length) : l.take (i + 1) = l.take i ++ [l.getD i 0] := by
  rw [List.take_add_one, List.getElem?_eq_getElem h, List.getD_eq_getElem?_getD, List.getElem?_eq_getElem h]
  rfl
theorem chg_le (a b : List Int) : (chg a b).length ≤ b.length := by rw [chg_len]; exact cnt_le a b
def bet (bs ns : List Int) : Nat → Bool := fun j => decide (ns.getD j 0 ≠ bs.getD j 0)
theorem f39_loop {H : Heap} {p q : Nat} {c1 c2 : Option Nat} {bs ns : List Int} {o o' : Bool} (hp : blkAt H p = some ⟨bs.map (AV.int .i64), o⟩) (hq : blkAt H q = some ⟨ns.map (AV.int .i64), o'⟩) (hl : bs.length = ns.length) (hL : ns.length ≤ 600) :
    ∀ (k i : Nat) (G' : Heap) (vm vw : AV), i + k = ns.length →
    Two H G' vm vw (mI (bet bs ns) (if i = ns.length then (ns.length + 59) / 60 else i / 60) i) (chg (bs.take i) (ns.take i)) →
    acs Try.prog [.lp c39l0, .blk 0, .code c39t] (e39 p q ns.length c1 c2 vm vw (if i = ns.length then 0 else mkw (bet bs ns) (60 * (i / 60)) (i % 60)) (if i = ns.length then 1 else 2 ^ (i % 60)) i) (H ++ G') (Q15 H (diff bs ns))
  | 0, i, G', vm, vw, hi, hT => by
    have hiL : i = ns.length := by omega
    subst hiL
    rw [if_pos rfl] at hT
    rw [if_pos rfl, if_pos rfl, diff_eq hl]
    have e1 : bs.take ns.length = bs := List.take_of_length_le (by omega)
    have e2 : ns.take ns.length = ns := List.take_length
    rw [e1, e2] at hT
    refine f39_end rfl hT ?_ ?_ ?_
    · rw [msk_len]; omega
    · have := chg_le bs ns; omega
    · intro hm
      have := congrArg List.length hm
      rw [msk_len] at this
      have hn0 : ns = [] := List.eq_nil_of_length_eq_zero (by simp at this; omega)
      subst hn0
      cases bs with
      | nil => rfl
      | cons b bs => rfl
  | k + 1, i, G', vm, vw, hi, hT => by
    have hiL : i < ns.length := by omega
    have hne : ¬ i = ns.length := by omega
    rw [if_neg hne] at hT
    rw [if_neg hne, if_neg hne]
    have fx : (bs.map (AV.int .i64))[i]? = some (.int .i64 (bs.getD i 0)) := getMap (by rw [List.getD_eq_getElem?_getD, List.getElem?_eq_getElem (by omega)]; rfl)
    have fy : (ns.map (AV.int .i64))[i]? = some (.int .i64 (ns.getD i 0)) := getMap (by rw [List.getD_eq_getElem?_getD, List.getElem?_eq_getElem (by omega)]; rfl)
    have hlt := mkw_lt (bet bs ns) (60 * (i / 60)) (i % 60)
    have hp2 : 2 ^ (i % 60) ≤ 2 ^ 59 := Nat.pow_le_pow_right (by decide) (by omega)
    have hwd : mkw (bet bs ns) (60 * (i / 60)) (i % 60) + (if ns.getD i 0 = bs.getD i 0 then 0 else 2 ^ (i % 60)) = mkw (bet bs ns) (60 * (i / 60)) (i % 60 + 1) := by
      rw [mkw, show 60 * (i / 60) + i % 60 = i by omega]
      unfold bet
      by_cases h : ns.getD i 0 = bs.getD i 0
      · rw [if_pos h, if_neg (by simp; exact h)]
      · rw [if_neg h, if_pos (by simp; exact h)]
    have hch : chg (bs.take (i + 1)) (ns.take (i + 1)) = chg (bs.take i) (ns.take i) ++ if ns.getD i 0 = bs.getD i 0 then [] else [ns.getD i 0] := by
      rw [take_snoc (by omega), take_snoc hiL, chg_snoc _ _ _ _ (by simp; omega)]
    refine f39_step hp hq fx fy hiL hL (by omega) hT ?_ ?_ fun G' vm vw hT2 => ?_
    · rw [mI_len]; omega
    · have := chg_le (bs.take i) (ns.take i); rw [List.length_take] at this; omega
    · rw [hwd, ← hch] at hT2
      rw [hwd]
      have ih := f39_loop (c1 := c1) (c2 := c2) hp hq hl hL k (i + 1) G' vm vw (by omega)
      by_cases hl1 : i + 1 = ns.length
      · have hc : i % 60 = 59 ∨ i + 1 = ns.length := .inr hl1
        rw [if_pos hc] at hT2
        rw [if_pos hc, if_pos hc]
        rw [if_pos hl1, if_pos hl1, if_pos hl1, show (ns.length + 59) / 60 = i / 60 + 1 by omega, mI_push] at ih
        exact ih hT2
      · rw [if_neg hl1, if_neg hl1, if_neg hl1] at ih
        by_cases h59 : i % 60 = 59
        · have hc : i % 60 = 59 ∨ i + 1 = ns.length := .inl h59
          rw [if_pos hc] at hT2
          rw [if_pos hc, if_pos hc]
          rw [show (i + 1) / 60 = i / 60 + 1 by omega, show (i + 1) % 60 = 0 by omega, mI_push, mkw, Nat.pow_zero] at ih
          exact ih hT2
        · have hc : ¬ (i % 60 = 59 ∨ i + 1 = ns.length) := by omega
          rw [if_neg hc] at hT2
          rw [if_neg hc, if_neg hc]
          rw [show (i + 1) / 60 = i / 60 by omega, show (i + 1) % 60 = i % 60 + 1 by omega, mI_stay, Nat.pow_succ] at ih
          exact ih hT2
theorem f39_run {bs ns : List Int} {p q : Nat} {c1 c2 : Option Nat} {H : Heap} {Q : Post} (hl : bs.length = ns.length) (hL : ns.length ≤ 600) (go : acs Try.prog [.lp c39l0, .blk 0, .code c39t] (e39 p q ns.length c1 c2 .nils .nils 0 1 0) (H ++ []) Q) :
    ac Try.prog c39 [(0, .sl p 0 bs.length 1 c1), (1, .sl q 0 ns.length 1 c2)] H Q := by
  have h1' : ¬ (600 : Int) < (ns.length : Int) := by omega
  unfold e39 c39t c39 tl2 at go
  refine acs_start ?_
  unfold c39
  simp only [List.append_assoc, List.cons_append, List.nil_append, List.length_append, List.length_cons, List.length_nil, Nat.reduceAdd, Nat.add_assoc, Nat.zero_add, Nat.add_zero, Int.natCast_add, Int.cast_ofNat_Int, List.append_nil] at go
  simp (maxSteps:=1000000) (disch:=omega) only [go_sem, ↓reduceIte, reduceCtorEq, hl, h1']
  exact go
theorem f39_any (bs ns : List Int) (p q : Nat) (c1 c2 : Option Nat) (o o' : Bool) (H : Heap) (hp : blkAt H p = some ⟨bs.map (AV.int .i64), o⟩) (hq : blkAt H q = some ⟨ns.map (AV.int .i64), o'⟩) :
    ACall Try.prog 39 [.sl p 0 bs.length 1 c1, .sl q 0 ns.length 1 c2] H (rowres (dspec bs ns) H) (rowheap (dspec bs ns) H) := by
  unfold dspec rowres rowheap
  by_cases h1 : bs.length = ns.length
  · by_cases h2 : 600 < bs.length
    · rw [if_neg (by simp [h1]), if_pos h2]
      refine call_nilres2 (acall39 (by simp) (acs_start ?_))
      have h2' : (600 : Int) < (ns.length : Int) := by omega
      unfold c39
      simp (maxSteps:=1000000) (disch:=omega) only [go_sem, ↓reduceIte, reduceCtorEq, h1, h2']
      exact fin_same (by simp) _ (by first | exact (List.append_nil _).symm | rfl) (by simp (maxSteps:=1000000) (disch:=omega) only [resVal, resAll, resOne, rs39, Env.get, go_sem, ↓reduceIte, reduceCtorEq]) (by simp only [AV.und, AV.unds, and_self])
    · rw [if_neg (by simp [h1]), if_neg h2]
      have hT : Two H [] .nils .nils (mI (bet bs ns) (if 0 = ns.length then (ns.length + 59) / 60 else 0 / 60) 0) (chg (bs.take 0) (ns.take 0)) := by
        have e : (if 0 = ns.length then (ns.length + 59) / 60 else 0 / 60) = 0 := by split <;> omega
        rw [e]
        exact .nn []
      have go := f39_loop (c1 := c1) (c2 := c2) hp hq h1 (by omega) ns.length 0 [] .nils .nils (by omega) hT
      have e2 : (if 0 = ns.length then 0 else mkw (bet bs ns) (60 * (0 / 60)) (0 % 60)) = 0 := by split <;> rfl
      have e3 : (if 0 = ns.length then 1 else 2 ^ (0 % 60)) = 1 := by split <;> rfl
      rw [e2, e3] at go
      have go := f39_run h1 (by omega) go
      cases hR : diff bs ns with
      | nil =>
        rw [hR] at go
        exact call_nilres2 (acall39 (by simp) go)
      | cons x r =>
        rw [hR] at go
        exact acallW (fun v' h => acall39 (by simp) h) go
  · rw [if_pos h1]
    refine call_nilres2 (acall39 (by simp) (acs_start ?_))
    have h1' : ¬ (bs.length : Int) = (ns.length : Int) := by omega
    unfold c39
    simp (maxSteps:=1000000) (disch:=omega) only [go_sem, ↓reduceIte, reduceCtorEq, h1']
    exact fin_same (by simp) _ (by first | exact (List.append_nil _).symm | rfl) (by simp (maxSteps:=1000000) (disch:=omega) only [resVal, resAll, resOne, rs39, Env.get, go_sem, ↓reduceIte, reduceCtorEq]) (by simp only [AV.und, AV.unds, and_self])

theorem rp_ap (bs d : List Int) (n : Nat) (hL : bs.length ≤ 60 * n) : ∀ (m i a : Nat) (out : List Int), i + m = 64 * n →
    rp bs d m i a out = if stray bs.length d m i = 0 then ap d (bs.drop (jj bs.length i)) (jj bs.length i) (d.drop a) out else none
  | 0, i, a, out, hi => by
    have hj : jj bs.length i = bs.length := by unfold jj; omega
    rw [hj, List.drop_length, stray, if_pos rfl, rp, ap]
    by_cases h : a < d.length
    · rw [if_pos h, if_neg (by simp; omega)]
    · rw [if_neg h, if_pos (by simp; omega)]
  | m + 1, i, a, out, hi => by
    have ih := fun a out => rp_ap bs d n hL m (i + 1) a out (by omega)
    rw [rp, stray]
    by_cases hs : 60 ≤ i % 64 ∨ bs.length ≤ 60 * (i / 64) + i % 64
    · rw [if_pos hs, if_pos hs]
      cases hw : wb (d.getD (i / 64) 0) (i % 64) with
      | true => simp
      | false =>
        simp only [Bool.false_eq_true, if_false, Nat.zero_add]
        rw [ih, jj_stray hs]
    · rw [if_neg hs, if_neg hs, Nat.zero_add]
      obtain ⟨j1, j2⟩ := jj_place hs
      have hb := bit_place d (i := i) (by omega)
      rw [ih, ih, j1, j2]
      generalize hp : 60 * (i / 64) + i % 64 = place at *
      rw [drop_getD (l := bs) (j := place) (by omega), ap_cons, hb]
      cases hw : wb (d.getD (i / 64) 0) (i % 64) with
      | false => simp only [Bool.false_eq_true, if_false]
      | true =>
        simp only [if_true]
        by_cases ha : d.length ≤ a
        · rw [if_pos (.inl ha), List.drop_eq_nil_of_le ha]
          simp
        · rw [drop_getD (l := d) (j := a) (by omega)]
          by_cases he : d.getD a 0 = bs.getD place 0
          · rw [if_pos (.inr he)]
            simp only [if_pos he, ite_self]
          · rw [if_neg (by rintro (h | h) <;> contradiction)]
            simp only [if_neg he]
theorem arow_eq (bs d : List Int) : arow bs d = aspec bs d := by
  unfold arow aspec
  by_cases h1 : 600 < bs.length
  · rw [if_pos h1, if_pos h1]
  rw [if_neg h1, if_neg h1]
  by_cases h2 : d.length < (bs.length + 59) / 60
  · rw [if_pos h2, if_pos h2]
  rw [if_neg h2, if_neg h2]
  have hL : bs.length ≤ 60 * ((bs.length + 59) / 60) := by omega
  have e0 : jj bs.length 0 = 0 := by unfold jj; omega
  have e1 := rp_ap bs d _ hL (64 * ((bs.length + 59) / 60)) 0 ((bs.length + 59) / 60) [] (by omega)
  have e2 := pl_stray bs.length d _ hL (64 * ((bs.length + 59) / 60)) 0 (by omega)
  rw [e0] at e1 e2
  rw [sb_ones d _ (by omega), Nat.sub_zero] at e2
  rw [List.drop_zero] at e1
  rw [e1]
  have hA := ap_pl d bs 0 (d.drop ((bs.length + 59) / 60)) []
  rw [List.length_drop] at hA
  generalize (bs.length + 59) / 60 = n at *
  cases hap : ap d bs 0 (d.drop n) [] with
  | none => simp
  | some R =>
    have := hA R hap
    by_cases hs : stray bs.length d (64 * n) 0 = 0
    · rw [if_pos hs, if_neg (by omega)]
    · rw [if_neg hs, if_pos (by omega)]
end Go.Proofs.Ytbjlbcihhleclaa.Ah
