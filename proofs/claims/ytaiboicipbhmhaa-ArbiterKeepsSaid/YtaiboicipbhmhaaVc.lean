/- Vc: a part of the proof: contracts of functions, or plain laws. Conditions: none. -/
import Derived.Test.YtaiboicipbhmhaaVb
import Derived.Test.YtaiboicipbhmhaaEc
import Derived.Test.YtaiboicipbhmhaaG18
namespace Go.Proofs.Ytaiboicipbhmhaa.Ah
open Go Go.WideShapes
attribute [local irreducible] acs aopsK drawK leave condK bindR bindD bindX guardK guardD callB callD callX callP callPv rfunG rfunK yldB yldD
attribute [local go_sem] Nat.reduceEqDiff Nat.reduceLT Nat.reduceAdd Nat.reduceSub Nat.reduceMul Nat.reduceBEq Int.reduceLT Int.reduceAdd Int.reduceMul Int.reduceSub Int.reduceToNat Int.reduceLE Int.reduceEq Int.reduceNeg Nat.reduceLeDiff
attribute [local go_sem] mop mget mfind mput mres keyed AV.isAgg beq_self_eq_true Bool.true_and Option.isSome_some List.set_cons_zero acs_nil acs_blk acs_skip acs_reg acs_dreg acs_freg acs_nam0 acs_nam nones acs_seq acs_cond acs_block acs_exit acs_ret acs_kl acs_loop leave_nil leave_code leave_lp leave_blk aopsK_nil aopsK_cons aopsK_guard bindR_val bindR_need bindR_br bindR_call bindR_ycall acs_rfun rfunG_fn bindR_bad drawK_nil drawK_cons drawK_wat bindW_val bindW_need bindW_br WatL_nil WatL_cons isP_ptr drawK_ext drawK_pur drawK_guard callPv_fn drawK_purv bindD_val bindD_need bindD_br bindD_call bindD_ycall bindD_bad bindX_val bindX_need bindX_br bindX_call guardD_bool guardD_tup grows grows0 List.append_cancel_left_eq List.cons.injEq exists_eq' exists_eq condK_bool guardK_bool guardK_tup sor r0 r1 r2 r3 rC rB rI rP rA rT rS rF rSl rO rbin rcut run1 Env.evals Env.eval Env.get Env.put Env.ins Env.del Env.dels argEnv AV.full AV.cells AV.cell eqCells decide_true decide_false decide_eq_true_eq decide_eq_false_iff_not Bool.not_eq_true' Bool.not_eq_false' true_and and_true false_implies true_implies forall_const Bool.not_true Bool.not_false Bool.false_eq_true Bool.true_eq_false List.getElem?_cons_zero List.getElem?_cons_succ List.length_cons List.length_nil List.length_append List.all_cons List.all_nil Bool.and_true Bool.and_self implies_true List.append_assoc List.cons_append List.nil_append List.append_nil i64_in imin_eq imax_eq cast3 cast0 cast1 cast2 Option.map_none ite_self and_false false_and Option.isSome_some or_true true_or Int.sub_zero Int.mul_one Nat.sub_zero Nat.zero_le Int.cast_ofNat_Int Int.natCast_nonneg Int.toNat_natCast ne_eq not_false_eq_true not_true_eq_false strC blkAt_app blkAt_app0 blkAt_zero blkAt_succ List.set_cons_zero List.set_cons_succ set_app set_app0 Option.map_some Option.bind_some rd setCells lay rdS szOk rapp ownAt lenAt Option.any_some Option.getD_some List.drop_zero List.drop_succ_cons List.take_succ_cons List.take_zero List.drop_nil List.take_nil Nat.lt_irrefl Nat.zero_add Nat.add_zero Nat.mul_one Nat.one_mul Nat.add_assoc Option.some.injEq eq_self
set_option maxHeartbeats 8000000
set_option linter.unusedSimpArgs false
set_option linter.unusedVariables false
theorem f74_nil (H : Heap) : ACall Try.prog 74 [.nils] H .nils H := by
  refine acall74 (by simp) (acs_start ?_)
  unfold c74
  simp (maxSteps:=1000000) (disch:=omega) only [go_sem, ↓reduceIte, reduceCtorEq]
  exact fin_same (by simp) _ (by first | exact (List.append_nil _).symm | rfl) (by simp (maxSteps:=1000000) (disch:=omega) only [resVal, resAll, resOne, rs74, Env.get, go_sem, ↓reduceIte, reduceCtorEq]) (by simp only [AV.und, AV.unds, and_self])
theorem f74_sl {xs : List Int} {p off : Nat} {c1 : Option Nat} {H : Heap} (hx : Sl i64 H p off xs) (hn : 0 < xs.length) (hl : xs.length ≤ 5000) :
    ACall Try.prog 74 [.sl p off xs.length 1 c1] H (.sl H.length 0 xs.length 1 none) (H ++ [some ⟨xs.map i64, false⟩]) := by
  refine acall74 (by simp) (acs_start ?_)
  have hpl := hx.lt
  obtain ⟨cs, o, hp, hle, hcs⟩ := hx
  have hz : ¬ xs.length = 0 := by omega
  unfold c74
  simp (maxSteps:=1000000) (disch:=omega) only [go_sem, ↓reduceIte, reduceCtorEq, blkAt_lo, hpl, hp, hle, hcs, hn, true_or, hz]
  exact ⟨by omega, fin_oneF [some ⟨[], true⟩, some ⟨xs.map i64, true⟩] 1 _ (by simp) rfl rfl (undMapF (fun z => by simp [i64, AV.und]) _) (by simp only [resVal, resAll, resOne, rs74, Env.get, go_sem, ↓reduceIte, reduceCtorEq]; rfl) (by simp [AV.ren]) (by simp [AV.und])⟩
theorem f74_emp {p off k : Nat} {H : Heap} {o : Bool} {cs : List AV} (hp : blkAt H p = some ⟨cs, o⟩) (hle : off ≤ cs.length) : ACall Try.prog 74 [.sl p off 0 1 (some k)] H (.sl H.length 0 0 1 none) (H ++ [some ⟨[], false⟩]) := by
  refine acallW (fun v' h => acall74 (by simp) h) (acs_start ?_)
  have hpl := blkAt_lt hp
  unfold c74
  simp (maxSteps:=1000000) (disch:=omega) only [go_sem, ↓reduceIte, reduceCtorEq, blkAt_lo, hpl, hp, hle, Option.isSome_some, or_true]
  exact ⟨.sl H.length 0 0 1 (some 0), sl_weak, fin_oneF [some ⟨[], true⟩] 0 _ (by simp) rfl rfl trivial (by simp only [resVal, resAll, resOne, rs74, Env.get, go_sem, ↓reduceIte, reduceCtorEq]; rfl) (by simp [AV.ren]) (by simp [AV.und])⟩
theorem f74 {xs : List Int} {p off : Nat} {H : Heap} (c1 : Option Nat) (hx : Sl i64 H p off xs) (hl : xs.length ≤ 5000) :
    ACall Try.prog 74 [.sl p off xs.length 1 c1] H (.sl H.length 0 xs.length 1 none) (H ++ [some ⟨xs.map i64, false⟩]) := by
  by_cases hn : 0 < xs.length
  · exact f74_sl hx hn hl
  · obtain rfl : xs = [] := List.eq_nil_of_length_eq_zero (by omega)
    obtain ⟨cs, o, hp, hle, _⟩ := hx
    simp only [List.length_nil, List.map_nil]
    cases c1 with
    | some k => exact f74_emp hp (by simpa using hle)
    | none => exact call_empty (call_nilres (f74_nil H)) (fun k => f74_emp hp (by simpa using hle))
theorem f90 {n : Nat} {H : Heap} (hn : 0 < n) (hl : n ≤ 5000) : ACall Try.prog 90 [.nils, .int .i64 (n : Nat)] H (.sl H.length 0 0 1 none) (H ++ [some ⟨List.replicate n (.int .i64 0), true⟩]) := by
  refine acall90 (by simp) (acs_start ?_)
  have h1 : ¬ (n : Int) < 0 := by omega
  have h2 : (0 : Int) < (n : Int) := by omega
  have h3 : (n : Int) * 8 ≤ 140737488355328 := by omega
  have hrep : (List.replicate n [AV.int IntKind.i64 0]).flatten = List.replicate n (AV.int .i64 0) := by
    clear hn hl h1 h2 h3
    induction n with
    | zero => rfl
    | succ n ih => rw [List.replicate_succ, List.replicate_succ, List.flatten_cons, ih]; rfl
  unfold c90
  simp (maxSteps:=1000000) (disch:=omega) only [go_sem, ↓reduceIte, reduceCtorEq, h1, h2, h3, hrep]
  exact fin_one [some _] 0 _ (by simp) rfl rfl (AV.unds_of_get fun j v hv => by
    rw [List.getElem?_replicate] at hv
    split at hv
    · cases hv; trivial
    · cases hv) (by simp only [resVal, resAll, resOne, rs90, Env.get, go_sem, ↓reduceIte, reduceCtorEq]; rfl) (by simp [AV.ren]) (by simp [AV.und])
theorem f67 {xs ys : List Int} {p off q off2 : Nat} {c1 c2 c3 : Option Nat} {r : Nat} {o : Bool} {H : Heap} (hx : Sl i64 H p off xs) (hy : Sl i64 H q off2 ys) (hr : blkAt H r = some ⟨[.sl p off xs.length 1 c1, .sl q off2 ys.length 1 c2], o⟩) (hn : 0 < xs.length) (hl : xs.length ≤ 2000) (hl2 : ys.length ≤ 2000) :
    ACall Try.prog 67 [.sl r 0 2 1 c3] H (.sl H.length 0 (xs.length + ys.length) 1 none) (H ++ [some ⟨(xs ++ ys).map i64, true⟩]) := by
  refine acall67 (by simp) (acs_start ?_)
  have hpl := hx.lt
  have hql := hy.lt
  have hrl := blkAt_lt hr
  have g := fun H => f90 (H := H) (n := xs.length + ys.length) (by omega) (by omega)
  simp only [List.append_assoc, List.cons_append, List.nil_append, List.length_append, List.length_cons, List.length_nil, Nat.reduceAdd, Nat.add_assoc, Nat.zero_add, Nat.add_zero, Int.natCast_add, Int.cast_ofNat_Int, ] at g
  obtain ⟨cs, o1, hp, hle, hcs⟩ := hx
  obtain ⟨ds, o2, hq, hle2, hds⟩ := hy
  have h0 : ¬ xs.length = 0 := by omega
  have n1 : ¬ (xs.length : Int) < 0 := by omega
  have n2 : ¬ (xs.length : Int) + (ys.length : Int) < 0 := by omega
  have hall : (ys.map i64).all AV.cell = true := by simp [i64, AV.cell]
  have hall2 : (xs.map i64).all AV.cell = true := by simp [i64, AV.cell]
  have n3 : xs.length * 8 ≤ 140737488355328 := by omega
  have n4 : (xs.length + ys.length) * 8 ≤ 140737488355328 := by omega
  have htk : List.take xs.length (List.map i64 xs) = List.map i64 xs := takeMapF xs
  unfold c67
  simp (maxSteps:=1000000) (disch:=omega) only [go_sem, ↓reduceIte, reduceCtorEq, hr]
  rw [acs_lp]; conv in Fr.code c67l1 => unfold c67l1
  simp (maxSteps:=1000000) (disch:=omega) only [go_sem, ↓reduceIte, reduceCtorEq, hr, n1, Int.zero_add]
  rw [acs_lp]; conv in Fr.code c67l1 => unfold c67l1
  simp (maxSteps:=1000000) (disch:=omega) only [go_sem, ↓reduceIte, reduceCtorEq, hr, n2]
  rw [acs_lp]; conv in Fr.code c67l1 => unfold c67l1
  simp (maxSteps:=1000000) (disch:=omega) only [go_sem, ↓reduceIte, reduceCtorEq, hr]
  first | refine callB_intro (g _) ?_ | refine callD_intro (g _) ?_ | refine callP_intro (fun _ => (g _)) ?_ | refine callX_pure (g _) ?_
  simp (maxSteps:=1000000) (disch:=omega) only [go_sem, ↓reduceIte, reduceCtorEq]
  rw [acs_lp]; conv in Fr.code c67l0 => unfold c67l0
  simp (maxSteps:=1000000) (disch:=omega) only [go_sem, ↓reduceIte, reduceCtorEq, blkAt_lo, hrl, hpl, hr, hp, hle, hcs, h0, hall2, n3]
  rw [acs_lp]; conv in Fr.code c67l0 => unfold c67l0
  simp (maxSteps:=1000000) (disch:=omega) only [go_sem, ↓reduceIte, reduceCtorEq, blkAt_lo, hrl, hql, hr, hq, hle2, hds, hall, List.length_map, Nat.le_refl, htk, n4]
  refine ⟨fun h1 => ?_, fun h1 => ?_⟩
  · obtain rfl : ys = [] := List.eq_nil_of_length_eq_zero h1
    rw [acs_lp]; conv in Fr.code c67l0 => unfold c67l0
    simp (maxSteps:=1000000) (disch:=omega) only [go_sem, ↓reduceIte, reduceCtorEq]
    exact fin_one _ 1 _ (by simp) rfl (by simp) (undMapF (fun z => by simp [i64, AV.und]) _) (by simp only [resVal, resAll, resOne, rs67, Env.get, go_sem, ↓reduceIte, reduceCtorEq]; rfl) (by simp [AV.ren]) (by simp [AV.und])
  · rw [acs_lp]; conv in Fr.code c67l0 => unfold c67l0
    simp (maxSteps:=1000000) (disch:=omega) only [go_sem, ↓reduceIte, reduceCtorEq]
    exact fin_one _ 2 _ (by simp) rfl (by simp) (undMapF (fun z => by simp [i64, AV.und]) _) (by simp only [resVal, resAll, resOne, rs67, Env.get, go_sem, ↓reduceIte, reduceCtorEq]; rfl) (by simp [AV.ren]) (by simp [AV.und])

def hd0 (ws : List Int) : Int := ws.headD 0
def wh (ws : List Int) (c : Int) : Bool := decide (0 < ws.length ∧ 0 ≤ hd0 ws ∧ hd0 ws ≤ 4611686018427387904 ∧ c = com ws)
theorem hd0_get {ws : List Int} (h : 0 < ws.length) : ws[0]? = some (hd0 ws) := by
  cases ws with
  | nil => simp at h
  | cons w r => rfl
theorem f89 {ws : List Int} {p off : Nat} {k : Option Nat} {c : Int} {H : Heap} (hs : Sl i64 H p off ws) (hl : ws.length ≤ 2000) : ACall Try.prog 89 [.agg [.sl p off ws.length 1 k, .int .i64 c]] H (.bool (wh ws c)) H := by
  refine acall89 (by simp) (acs_start ?_)
  have g := fun G G' => f69 (cp := k) ((hs.app G).app G') (by omega)
  have hpl := hs.lt
  obtain ⟨cs, o, hp, hle, hcs⟩ := hs
  unfold c89
  by_cases hn : 0 < ws.length
  · have fx : cs[off]? = some (.int .i64 (hd0 ws)) := by have := sl_get hcs (j := 0) (hd0_get hn); rwa [Nat.add_zero] at this
    have hn' : (0 : Int) < (ws.length : Int) := by omega
    unfold wh
    generalize hd0 ws = w at *
    generalize com ws = cc at *
    by_cases h1 : 0 ≤ w
    · by_cases h2 : w ≤ 4611686018427387904
      · simp (maxSteps:=1000000) (disch:=omega) only [go_sem, ↓reduceIte, reduceCtorEq, blkAt_lo, hpl, hp, fx, hn', h1, h2]
        refine callP_intro (fun G' => g _ G') ?_
        simp (maxSteps:=1000000) (disch:=omega) only [go_sem, ↓reduceIte, reduceCtorEq]
        exact fin_b _ (by first | exact (List.append_nil _).symm | rfl) (by simp) (by simp (maxSteps:=1000000) (disch:=omega) only [resVal, resAll, resOne, rs89, Env.get, go_sem, ↓reduceIte, reduceCtorEq] <;> rfl) (by rw [Bool.eq_iff_iff]; (try simp only [decide_eq_true_eq, Bool.and_eq_true, Bool.or_eq_true, Bool.not_eq_true', decide_eq_false_iff_not, Bool.true_eq_false, Bool.false_eq_true, true_iff, iff_true, false_iff, iff_false, not_false_eq_true, not_true_eq_false]); first | done | omega | (simp; done) | (rw [Bool.eq_iff_iff]; (try simp only [decide_eq_true_eq, Bool.and_eq_true, Bool.or_eq_true, Bool.not_eq_true', decide_eq_false_iff_not, Bool.true_eq_false, Bool.false_eq_true, true_iff, iff_true, false_iff, iff_false, not_false_eq_true, not_true_eq_false]); omega) | (simp; omega))
      · simp (maxSteps:=1000000) (disch:=omega) only [go_sem, ↓reduceIte, reduceCtorEq, blkAt_lo, hpl, hp, fx, hn', h1, h2]
        exact fin_b _ (by first | exact (List.append_nil _).symm | rfl) (by simp) (by simp (maxSteps:=1000000) (disch:=omega) only [resVal, resAll, resOne, rs89, Env.get, go_sem, ↓reduceIte, reduceCtorEq] <;> rfl) (by rw [Bool.eq_iff_iff]; (try simp only [decide_eq_true_eq, Bool.and_eq_true, Bool.or_eq_true, Bool.not_eq_true', decide_eq_false_iff_not, Bool.true_eq_false, Bool.false_eq_true, true_iff, iff_true, false_iff, iff_false, not_false_eq_true, not_true_eq_false]); first | done | omega | (simp; done) | (rw [Bool.eq_iff_iff]; (try simp only [decide_eq_true_eq, Bool.and_eq_true, Bool.or_eq_true, Bool.not_eq_true', decide_eq_false_iff_not, Bool.true_eq_false, Bool.false_eq_true, true_iff, iff_true, false_iff, iff_false, not_false_eq_true, not_true_eq_false]); omega) | (simp; omega))
    · simp (maxSteps:=1000000) (disch:=omega) only [go_sem, ↓reduceIte, reduceCtorEq, blkAt_lo, hpl, hp, fx, hn', h1]
      exact fin_b _ (by first | exact (List.append_nil _).symm | rfl) (by simp) (by simp (maxSteps:=1000000) (disch:=omega) only [resVal, resAll, resOne, rs89, Env.get, go_sem, ↓reduceIte, reduceCtorEq] <;> rfl) (by rw [Bool.eq_iff_iff]; (try simp only [decide_eq_true_eq, Bool.and_eq_true, Bool.or_eq_true, Bool.not_eq_true', decide_eq_false_iff_not, Bool.true_eq_false, Bool.false_eq_true, true_iff, iff_true, false_iff, iff_false, not_false_eq_true, not_true_eq_false]); first | done | omega | (simp; done) | (rw [Bool.eq_iff_iff]; (try simp only [decide_eq_true_eq, Bool.and_eq_true, Bool.or_eq_true, Bool.not_eq_true', decide_eq_false_iff_not, Bool.true_eq_false, Bool.false_eq_true, true_iff, iff_true, false_iff, iff_false, not_false_eq_true, not_true_eq_false]); omega) | (simp; omega))
  · have hn' : ¬ (0 : Int) < (ws.length : Int) := by omega
    simp (maxSteps:=1000000) (disch:=omega) only [go_sem, ↓reduceIte, reduceCtorEq, hn']
    exact fin_b _ (by first | exact (List.append_nil _).symm | rfl) (by simp) (by simp (maxSteps:=1000000) (disch:=omega) only [resVal, resAll, resOne, rs89, Env.get, go_sem, ↓reduceIte, reduceCtorEq] <;> rfl) (by unfold wh; rw [Bool.eq_iff_iff]; (try simp only [decide_eq_true_eq, Bool.and_eq_true, Bool.or_eq_true, Bool.not_eq_true', decide_eq_false_iff_not, Bool.true_eq_false, Bool.false_eq_true, true_iff, iff_true, false_iff, iff_false, not_false_eq_true, not_true_eq_false]); first | done | omega | (simp; done) | (rw [Bool.eq_iff_iff]; (try simp only [decide_eq_true_eq, Bool.and_eq_true, Bool.or_eq_true, Bool.not_eq_true', decide_eq_false_iff_not, Bool.true_eq_false, Bool.false_eq_true, true_iff, iff_true, false_iff, iff_false, not_false_eq_true, not_true_eq_false]); omega) | (simp; omega))
def nvc (p0 o0 n0 : Nat) (k0 : Option Nat) (c0 : Int) (p1 o1 n1 : Nat) (k1 : Option Nat) (c1 : Int) : List AV := [.sl p0 o0 n0 1 k0, .int .i64 c0, .sl p1 o1 n1 1 k1, .int .i64 c1]
theorem f88 {ws vs : List Int} {p0 o0 p1 o1 b : Nat} {k0 k1 : Option Nat} {c0 c1 : Int} {o : Bool} {H : Heap} (h0 : Sl i64 H p0 o0 ws) (h1 : Sl i64 H p1 o1 vs) (l0 : ws.length ≤ 2000) (l1 : vs.length ≤ 2000) (hb : blkAt H b = some ⟨nvc p0 o0 ws.length k0 c0 p1 o1 vs.length k1 c1, o⟩) :
    ACall Try.prog 88 [.int .i64 0, .ptr b 0] H (.bool (wh ws c0)) H ∧ ACall Try.prog 88 [.int .i64 1, .ptr b 0] H (.bool (wh vs c1)) H := by
  have g0 := f89 (k := k0) (c := c0) h0 l0
  have g1 := f89 (k := k1) (c := c1) h1 l1
  unfold nvc at hb
  constructor
  · refine acall88 (by simp) (acs_start ?_)
    unfold c88
    simp (maxSteps:=1000000) (disch:=omega) only [go_sem, ↓reduceIte, reduceCtorEq, hb]
    first | refine callB_intro (g0) ?_ | refine callD_intro (g0) ?_ | refine callP_intro (fun _ => (g0)) ?_ | refine callX_pure (g0) ?_
    simp (maxSteps:=1000000) (disch:=omega) only [go_sem, ↓reduceIte, reduceCtorEq]
    exact fin_same (by simp) _ (by first | exact (List.append_nil _).symm | rfl) (by simp (maxSteps:=1000000) (disch:=omega) only [resVal, resAll, resOne, rs88, Env.get, go_sem, ↓reduceIte, reduceCtorEq]) (by simp only [AV.und, AV.unds, and_self])
  · refine acall88 (by simp) (acs_start ?_)
    unfold c88
    simp (maxSteps:=1000000) (disch:=omega) only [go_sem, ↓reduceIte, reduceCtorEq, hb]
    first | refine callB_intro (g1) ?_ | refine callD_intro (g1) ?_ | refine callP_intro (fun _ => (g1)) ?_ | refine callX_pure (g1) ?_
    simp (maxSteps:=1000000) (disch:=omega) only [go_sem, ↓reduceIte, reduceCtorEq]
    exact fin_same (by simp) _ (by first | exact (List.append_nil _).symm | rfl) (by simp (maxSteps:=1000000) (disch:=omega) only [resVal, resAll, resOne, rs88, Env.get, go_sem, ↓reduceIte, reduceCtorEq]) (by simp only [AV.und, AV.unds, and_self])
theorem hb88 : hasBody Try.prog 88 = true := by kernel_rfl
def nw (ws : List Int) (c0 : Int) (vs : List Int) (c1 : Int) : Int :=
  if wh ws c0 = true ∧ (wh vs c1 = false ∨ hd0 vs ≤ hd0 ws) then 0 else if wh vs c1 = true then 1 else -1
theorem wh_pos {ws : List Int} {c : Int} (h : wh ws c = true) : 0 < ws.length := (of_decide_eq_true h).1
theorem f66 {ws vs : List Int} {p0 o0 p1 o1 : Nat} {k0 k1 : Option Nat} {c0 c1 : Int} {H : Heap} (h0 : Sl i64 H p0 o0 ws) (h1 : Sl i64 H p1 o1 vs) (l0 : ws.length ≤ 2000) (l1 : vs.length ≤ 2000) :
    ACall Try.prog 66 [.agg (nvc p0 o0 ws.length k0 c0 p1 o1 vs.length k1 c1)] H (.int .i64 (nw ws c0 vs c1)) H := by
  refine acall66 (by simp) (acs_start ?_)
  have g := fun G => f88 (k0 := k0) (k1 := k1) (c0 := c0) (c1 := c1) (b := H.length) (o := true) (h0.app (some ⟨nvc p0 o0 ws.length k0 c0 p1 o1 vs.length k1 c1, true⟩ :: G)) (h1.app (some ⟨nvc p0 o0 ws.length k0 c0 p1 o1 vs.length k1 c1, true⟩ :: G)) l0 l1 (by simp only [go_sem, ↓reduceIte, reduceCtorEq])
  have ga := fun G => (g G).1
  have gb := fun G => (g G).2
  have hpl := h0.lt
  have hql := h1.lt
  have w0 := @wh_pos ws c0
  have w1 := @wh_pos vs c1
  obtain ⟨cs, o, hp, hle, hcs⟩ := h0
  obtain ⟨ds, o2, hq, hle2, hds⟩ := h1
  have fx := fun h => sl_get hcs (j := 0) (hd0_get (ws := ws) h)
  have fy := fun h => sl_get hds (j := 0) (hd0_get (ws := vs) h)
  simp only [Nat.add_zero, i64] at fx fy
  have n0 : 0 < ws.length → (0 : Int) < (ws.length : Int) := fun h => by omega
  have n1 : 0 < vs.length → (0 : Int) < (vs.length : Int) := fun h => by omega
  clear g hcs hds hle hle2
  unfold nw
  unfold c66
  cases e0 : wh ws c0 with
  | false =>
    rw [e0] at ga
    cases e1 : wh vs c1 with
    | false =>
      rw [e1] at gb
      simp only [Bool.false_eq_true, false_and, ↓reduceIte]
      unfold nvc at *
      simp (maxSteps:=1000000) (disch:=omega) only [go_sem, ↓reduceIte, reduceCtorEq, hb88]
      first | refine callB_intro (ga _) ?_ | refine callD_intro (ga _) ?_ | refine callP_intro (fun _ => (ga _)) ?_ | refine callX_pure (ga _) ?_
      simp (maxSteps:=1000000) (disch:=omega) only [go_sem, ↓reduceIte, reduceCtorEq, hb88]
      first | refine callB_intro (gb _) ?_ | refine callD_intro (gb _) ?_ | refine callP_intro (fun _ => (gb _)) ?_ | refine callX_pure (gb _) ?_
      simp (maxSteps:=1000000) (disch:=omega) only [go_sem, ↓reduceIte, reduceCtorEq]
      exact fin_same (by simp) _ (by first | exact (List.append_nil _).symm | rfl) (by simp (maxSteps:=1000000) (disch:=omega) only [resVal, resAll, resOne, rs66, Env.get, go_sem, ↓reduceIte, reduceCtorEq]) (by simp only [AV.und, AV.unds, and_self])
    | true =>
      rw [e1] at gb
      simp only [Bool.false_eq_true, false_and, ↓reduceIte]
      unfold nvc at *
      simp (maxSteps:=1000000) (disch:=omega) only [go_sem, ↓reduceIte, reduceCtorEq, hb88]
      first | refine callB_intro (ga _) ?_ | refine callD_intro (ga _) ?_ | refine callP_intro (fun _ => (ga _)) ?_ | refine callX_pure (ga _) ?_
      simp (maxSteps:=1000000) (disch:=omega) only [go_sem, ↓reduceIte, reduceCtorEq, hb88]
      first | refine callB_intro (gb _) ?_ | refine callD_intro (gb _) ?_ | refine callP_intro (fun _ => (gb _)) ?_ | refine callX_pure (gb _) ?_
      simp (maxSteps:=1000000) (disch:=omega) only [go_sem, ↓reduceIte, reduceCtorEq]
      exact fin_same (by simp) _ (by first | exact (List.append_nil _).symm | rfl) (by simp (maxSteps:=1000000) (disch:=omega) only [resVal, resAll, resOne, rs66, Env.get, go_sem, ↓reduceIte, reduceCtorEq]) (by simp only [AV.und, AV.unds, and_self])
  | true =>
    rw [e0] at ga
    have fx := fx (w0 e0)
    have n0 := n0 (w0 e0)
    cases e1 : wh vs c1 with
    | false =>
      rw [e1] at gb
      simp only [true_and, true_or, ↓reduceIte]
      unfold nvc at *
      simp (maxSteps:=1000000) (disch:=omega) only [go_sem, ↓reduceIte, reduceCtorEq, hb88]
      first | refine callB_intro (ga _) ?_ | refine callD_intro (ga _) ?_ | refine callP_intro (fun _ => (ga _)) ?_ | refine callX_pure (ga _) ?_
      simp (maxSteps:=1000000) (disch:=omega) only [go_sem, ↓reduceIte, reduceCtorEq, hb88]
      first | refine callB_intro (gb _) ?_ | refine callD_intro (gb _) ?_ | refine callP_intro (fun _ => (gb _)) ?_ | refine callX_pure (gb _) ?_
      simp (maxSteps:=1000000) (disch:=omega) only [go_sem, ↓reduceIte, reduceCtorEq]
      exact fin_same (by simp) _ (by first | exact (List.append_nil _).symm | rfl) (by simp (maxSteps:=1000000) (disch:=omega) only [resVal, resAll, resOne, rs66, Env.get, go_sem, ↓reduceIte, reduceCtorEq]) (by simp only [AV.und, AV.unds, and_self])
    | true =>
      rw [e1] at gb
      have fy := fy (w1 e1)
      have n1 := n1 (w1 e1)
      by_cases hh : hd0 vs ≤ hd0 ws
      · rw [if_pos ⟨rfl, .inr hh⟩]
        unfold nvc at *
        simp (maxSteps:=1000000) (disch:=omega) only [go_sem, ↓reduceIte, reduceCtorEq, hb88]
        first | refine callB_intro (ga _) ?_ | refine callD_intro (ga _) ?_ | refine callP_intro (fun _ => (ga _)) ?_ | refine callX_pure (ga _) ?_
        simp (maxSteps:=1000000) (disch:=omega) only [go_sem, ↓reduceIte, reduceCtorEq, hb88]
        first | refine callB_intro (gb _) ?_ | refine callD_intro (gb _) ?_ | refine callP_intro (fun _ => (gb _)) ?_ | refine callX_pure (gb _) ?_
        simp (maxSteps:=1000000) (disch:=omega) only [go_sem, ↓reduceIte, reduceCtorEq, blkAt_lo, hpl, hql, hp, hq, fx, fy, n0, n1, hh]
        exact fin_same (by simp) _ (by first | exact (List.append_nil _).symm | rfl) (by simp (maxSteps:=1000000) (disch:=omega) only [resVal, resAll, resOne, rs66, Env.get, go_sem, ↓reduceIte, reduceCtorEq]) (by simp only [AV.und, AV.unds, and_self])
      · rw [if_neg (by simp [hh]), if_pos rfl]
        unfold nvc at *
        simp (maxSteps:=1000000) (disch:=omega) only [go_sem, ↓reduceIte, reduceCtorEq, hb88]
        first | refine callB_intro (ga _) ?_ | refine callD_intro (ga _) ?_ | refine callP_intro (fun _ => (ga _)) ?_ | refine callX_pure (ga _) ?_
        simp (maxSteps:=1000000) (disch:=omega) only [go_sem, ↓reduceIte, reduceCtorEq, hb88]
        first | refine callB_intro (gb _) ?_ | refine callD_intro (gb _) ?_ | refine callP_intro (fun _ => (gb _)) ?_ | refine callX_pure (gb _) ?_
        simp (maxSteps:=1000000) (disch:=omega) only [go_sem, ↓reduceIte, reduceCtorEq, blkAt_lo, hpl, hql, hp, hq, fx, fy, n0, n1, hh, hb88]
        first | refine callB_intro (gb _) ?_ | refine callD_intro (gb _) ?_ | refine callP_intro (fun _ => (gb _)) ?_ | refine callX_pure (gb _) ?_
        simp (maxSteps:=1000000) (disch:=omega) only [go_sem, ↓reduceIte, reduceCtorEq]
        exact fin_same (by simp) _ (by first | exact (List.append_nil _).symm | rfl) (by simp (maxSteps:=1000000) (disch:=omega) only [resVal, resAll, resOne, rs66, Env.get, go_sem, ↓reduceIte, reduceCtorEq]) (by simp only [AV.und, AV.unds, and_self])

theorem i64_und {n : Nat} (zs : List Int) : AV.unds n (zs.map i64) := undMapF (fun z => by simp [i64, AV.und]) _
theorem f49_none {ws vs : List Int} {p0 o0 p1 o1 : Nat} {k0 k1 : Option Nat} {c0 c1 : Int} {H : Heap} (h0 : Sl i64 H p0 o0 ws) (h1 : Sl i64 H p1 o1 vs) (l0 : ws.length ≤ 2000) (l1 : vs.length ≤ 2000) (hw : nw ws c0 vs c1 = -1) :
    ACall Try.prog 49 [.agg (nvc p0 o0 ws.length k0 c0 p1 o1 vs.length k1 c1)] H (.tup [.nils, .int .i64 0, .bool false]) H := by
  refine acall49 (by simp) (acs_start ?_)
  have g := fun G => f66 (k0 := k0) (k1 := k1) (c0 := c0) (c1 := c1) (h0.app G) (h1.app G) l0 l1
  rw [hw] at g
  unfold nvc at *
  unfold c49
  simp (maxSteps:=1000000) (disch:=omega) only [go_sem, ↓reduceIte, reduceCtorEq]
  first | refine callB_intro (g _) ?_ | refine callD_intro (g _) ?_ | refine callP_intro (fun _ => (g _)) ?_ | refine callX_pure (g _) ?_
  simp (maxSteps:=1000000) (disch:=omega) only [go_sem, ↓reduceIte, reduceCtorEq]
  exact fin_same (by simp) _ (by first | exact (List.append_nil _).symm | rfl) (by simp (maxSteps:=1000000) (disch:=omega) only [resVal, resAll, resOne, rs49, Env.get, go_sem, ↓reduceIte, reduceCtorEq]) (by simp only [AV.und, AV.unds, and_self])
theorem f49_0 {ws vs : List Int} {p0 o0 p1 o1 : Nat} {k0 k1 : Option Nat} {c0 c1 : Int} {H : Heap} (h0 : Sl i64 H p0 o0 ws) (h1 : Sl i64 H p1 o1 vs) (l0 : ws.length ≤ 2000) (l1 : vs.length ≤ 2000) (hw : nw ws c0 vs c1 = 0) (hn : 0 < ws.length) :
    ACall Try.prog 49 [.agg (nvc p0 o0 ws.length k0 c0 p1 o1 vs.length k1 c1)] H (.tup [.sl H.length 0 (ws.length - 1) 1 none, .int .i64 (hd0 ws), .bool true]) (H ++ [some ⟨(ws.drop 1).map i64, false⟩]) := by
  refine acall49 (by simp) (acs_start ?_)
  have g := fun G => f66 (k0 := k0) (k1 := k1) (c0 := c0) (c1 := c1) (h0.app G) (h1.app G) l0 l1
  have ld : (ws.drop 1).length = ws.length - 1 := List.length_drop
  have gC := fun G c => f74 (p := p0) (off := o0 + 1) (H := H ++ G) c ((h0.drop (n := 1) (by omega)).app G) (by rw [ld]; omega)
  rw [ld] at gC
  rw [hw] at g
  have hpl := h0.lt
  obtain ⟨cs, o, hp, hle, hcs⟩ := h0
  have fx : cs[o0]? = some (.int .i64 (hd0 ws)) := by have := sl_get hcs (j := 0) (hd0_get hn); rwa [Nat.add_zero] at this
  have n0 : (0 : Int) < (ws.length : Int) := by omega
  have n1 : (1 : Int) ≤ (ws.length : Int) := by omega
  unfold nvc at *
  unfold c49
  simp (maxSteps:=1000000) (disch:=omega) only [go_sem, ↓reduceIte, reduceCtorEq]
  first | refine callB_intro (g _) ?_ | refine callD_intro (g _) ?_ | refine callP_intro (fun _ => (g _)) ?_ | refine callX_pure (g _) ?_
  simp (maxSteps:=1000000) (disch:=omega) only [go_sem, ↓reduceIte, reduceCtorEq, n1]
  refine callX_intro (gC _ _) ?_
  simp (maxSteps:=1000000) (disch:=omega) only [go_sem, ↓reduceIte, reduceCtorEq, blkAt_lo, hpl, hp, fx, n0, n1]
  exact fin_oneF _ 1 _ (by simp) rfl rfl (i64_und _) (by simp only [resVal, resAll, resOne, rs49, Env.get, go_sem, ↓reduceIte, reduceCtorEq]; rfl) (by simp [AV.ren, AV.rens]) (by simp [AV.und, AV.unds])
theorem f49_1 {ws vs : List Int} {p0 o0 p1 o1 : Nat} {k0 k1 : Option Nat} {c0 c1 : Int} {H : Heap} (h0 : Sl i64 H p0 o0 ws) (h1 : Sl i64 H p1 o1 vs) (l0 : ws.length ≤ 2000) (l1 : vs.length ≤ 2000) (hw : nw ws c0 vs c1 = 1) (hn : 0 < vs.length) :
    ACall Try.prog 49 [.agg (nvc p0 o0 ws.length k0 c0 p1 o1 vs.length k1 c1)] H (.tup [.sl H.length 0 (vs.length - 1) 1 none, .int .i64 (hd0 vs), .bool true]) (H ++ [some ⟨(vs.drop 1).map i64, false⟩]) := by
  refine acall49 (by simp) (acs_start ?_)
  have g := fun G => f66 (k0 := k0) (k1 := k1) (c0 := c0) (c1 := c1) (h0.app G) (h1.app G) l0 l1
  have ld : (vs.drop 1).length = vs.length - 1 := List.length_drop
  have gC := fun G c => f74 (p := p1) (off := o1 + 1) (H := H ++ G) c ((h1.drop (n := 1) (by omega)).app G) (by rw [ld]; omega)
  rw [ld] at gC
  rw [hw] at g
  have hpl := h1.lt
  obtain ⟨cs, o, hp, hle, hcs⟩ := h1
  have fx : cs[o1]? = some (.int .i64 (hd0 vs)) := by have := sl_get hcs (j := 0) (hd0_get hn); rwa [Nat.add_zero] at this
  have n0 : (0 : Int) < (vs.length : Int) := by omega
  have n1 : (1 : Int) ≤ (vs.length : Int) := by omega
  unfold nvc at *
  unfold c49
  simp (maxSteps:=1000000) (disch:=omega) only [go_sem, ↓reduceIte, reduceCtorEq]
  first | refine callB_intro (g _) ?_ | refine callD_intro (g _) ?_ | refine callP_intro (fun _ => (g _)) ?_ | refine callX_pure (g _) ?_
  simp (maxSteps:=1000000) (disch:=omega) only [go_sem, ↓reduceIte, reduceCtorEq, n1]
  refine callX_intro (gC _ _) ?_
  simp (maxSteps:=1000000) (disch:=omega) only [go_sem, ↓reduceIte, reduceCtorEq, blkAt_lo, hpl, hp, fx, n0, n1]
  exact fin_oneF _ 1 _ (by simp) rfl rfl (i64_und _) (by simp only [resVal, resAll, resOne, rs49, Env.get, go_sem, ↓reduceIte, reduceCtorEq]; rfl) (by simp [AV.ren, AV.rens]) (by simp [AV.und, AV.unds])
theorem f68 {n : Nat} {p off : Nat} {k : Option Nat} {H : Heap} (hn : n ≤ 4611686018427387904) : ACall Try.prog 68 [.sl p off n 1 k] H (.int .i64 ((n : Int) + 3)) H := by
  refine acall68 (by simp) (acs_start ?_)
  unfold c68
  simp (maxSteps:=1000000) (disch:=omega) only [go_sem, ↓reduceIte, reduceCtorEq]
  exact fin_same (by simp) _ (by first | exact (List.append_nil _).symm | rfl) (by simp (maxSteps:=1000000) (disch:=omega) only [resVal, resAll, resOne, rs68, Env.get, go_sem, ↓reduceIte, reduceCtorEq]) (by simp only [AV.und, AV.unds, and_self])

theorem f39_big_n {ws vs us : List Int} {p0 o0 p1 o1 q oq : Nat} {k0 k1 kq : Option Nat} {c0 c1 done : Int} {H : Heap} (h0 : Sl i64 H p0 o0 ws) (h1 : Sl i64 H p1 o1 vs) (hu : Sl i64 H q oq us) (l0 : ws.length ≤ 1000) (l1 : vs.length ≤ 1000) (lu : us.length ≤ 1000) (hw : nw ws c0 vs c1 = -1) (hb : 600 < us.length) :
    ACall Try.prog 39 [.agg (nvc p0 o0 ws.length k0 c0 p1 o1 vs.length k1 c1), .sl q oq us.length 1 kq, .int .i64 done] H (.tup [.agg (nvc p0 o0 ws.length k0 c0 p1 o1 vs.length k1 c1), .int .i64 5]) H := by
  refine acall39 (by simp) (acs_start ?_)
  have g := fun G => f49_none (k0 := k0) (k1 := k1) (h0.app G) (h1.app G) (by omega) (by omega) hw
  have b1 : (600 : Int) < (us.length : Int) := by omega
  unfold nvc at *
  unfold c39
  simp (maxSteps:=1000000) (disch:=omega) only [go_sem, ↓reduceIte, reduceCtorEq]
  first | refine callB_intro (g _) ?_ | refine callD_intro (g _) ?_ | refine callP_intro (fun _ => (g _)) ?_ | refine callX_pure (g _) ?_
  simp (maxSteps:=1000000) (disch:=omega) only [go_sem, ↓reduceIte, reduceCtorEq, b1]
  exact fin_same (by simp) _ (by first | exact (List.append_nil _).symm | rfl) (by simp (maxSteps:=1000000) (disch:=omega) only [resVal, resAll, resOne, rs39, Env.get, go_sem, ↓reduceIte, reduceCtorEq, Nat.le_refl]) (by simp only [AV.und, AV.unds]; exact ⟨⟨h0.lt, trivial, h1.lt, trivial, trivial⟩, trivial, trivial⟩)
theorem f39_full_n {ws vs us : List Int} {p0 o0 p1 o1 q oq : Nat} {k0 k1 kq : Option Nat} {c0 c1 done : Int} {H : Heap} (h0 : Sl i64 H p0 o0 ws) (h1 : Sl i64 H p1 o1 vs) (hu : Sl i64 H q oq us) (l0 : ws.length ≤ 1000) (l1 : vs.length ≤ 1000) (lu : us.length ≤ 1000) (hw : nw ws c0 vs c1 = -1) (hb : us.length ≤ 600) (hd : (us.length : Int) + 3 ≤ done) :
    ACall Try.prog 39 [.agg (nvc p0 o0 ws.length k0 c0 p1 o1 vs.length k1 c1), .sl q oq us.length 1 kq, .int .i64 done] H (.tup [.agg (nvc H.length 0 (us.length + 1) none (com (1 :: us)) p1 o1 vs.length k1 c1), .int .i64 0]) (H ++ [some ⟨(1 :: us).map i64, true⟩]) := by
  refine acall39 (by simp) (acs_start ?_)
  have g := fun G => f49_none (k0 := k0) (k1 := k1) (h0.app G) (h1.app G) (by omega) (by omega) hw
  have g2 := fun G => f66 (k0 := k0) (k1 := k1) (c0 := c0) (c1 := c1) (h0.app G) (h1.app G) (by omega) (by omega)
  have b1 : ¬ (600 : Int) < (us.length : Int) := by omega
  have gS := fun H => @f68 us.length q oq kq H (by omega)
  rw [hw] at g2
  have e0 : imax (-1) (-1) = -1 := by decide
  have gC := fun G r c3 pl (h : blkAt (H ++ G) pl = some ⟨([1] : List Int).map i64, true⟩) => f67 (xs := [1]) (ys := us) (p := pl) (off := 0) (c1 := some 1) (c2 := kq) (c3 := c3) (r := r) (o := true) (H := H ++ G) (Sl.whole h) (hu.app G)
  have gM := fun G pl c (h : blkAt (H ++ G) pl = some ⟨(1 :: us).map i64, true⟩) => f69 (cp := c) (ws := 1 :: us) (Sl.whole h) (by simp; omega)
  have m1 : ([1] : List Int).map i64 = [.int .i64 1] := rfl
  have ml : (1 :: us).length = us.length + 1 := rfl
  have m2 : [1] ++ us = 1 :: us := rfl
  simp only [m1, m2, List.length_cons, List.length_nil, Nat.zero_add, Nat.reduceAdd] at gC
  simp only [ml] at gM
  generalize hcc : com (1 :: us) = cc at *
  generalize hall : (1 :: us).map i64 = AL at *
  have hu0 : ∀ n, AV.unds n AL := fun n => by rw [← hall]; exact i64_und _
  have hALl : AL.length = us.length + 1 := by rw [← hall]; simp
  have nle : us.length + 1 ≤ 2000 := by omega
  have d1 : (us.length : Int) + 3 ≤ done := hd
  unfold nvc at *
  unfold c39
  simp (maxSteps:=1000000) (disch:=omega) only [go_sem, ↓reduceIte, reduceCtorEq]
  first | refine callB_intro (g _) ?_ | refine callD_intro (g _) ?_ | refine callP_intro (fun _ => (g _)) ?_ | refine callX_pure (g _) ?_
  simp (maxSteps:=1000000) (disch:=omega) only [go_sem, ↓reduceIte, reduceCtorEq, e0, b1]
  first | refine callB_intro (g2 _) ?_ | refine callD_intro (g2 _) ?_ | refine callP_intro (fun _ => (g2 _)) ?_ | refine callX_pure (g2 _) ?_
  simp (maxSteps:=1000000) (disch:=omega) only [go_sem, ↓reduceIte, reduceCtorEq, e0, b1]
  refine callB_intro (gC _ _ _ (H.length + 2) (by simp only [go_sem, ↓reduceIte, reduceCtorEq]) (by simp only [go_sem, ↓reduceIte, reduceCtorEq]) (by omega) (by omega) (by omega)) ?_
  simp (maxSteps:=1000000) (disch:=omega) only [go_sem, ↓reduceIte, reduceCtorEq, Nat.add_comm 1 us.length]
  first | refine callB_intro (gS _) ?_ | refine callD_intro (gS _) ?_ | refine callP_intro (fun _ => (gS _)) ?_ | refine callX_pure (gS _) ?_
  simp (maxSteps:=1000000) (disch:=omega) only [go_sem, ↓reduceIte, reduceCtorEq, d1]
  refine callB_intro (gM _ _ _ (by simp only [go_sem, ↓reduceIte, reduceCtorEq])) ?_
  simp (maxSteps:=1000000) (disch:=omega) only [go_sem, ↓reduceIte, reduceCtorEq, d1]
  exact fin_one _ 4 _ (by simp) rfl rfl (hu0 _) (by simp (disch := omega) only [resVal, resAll, resOne, rs39, Env.get, go_sem, ↓reduceIte, reduceCtorEq]; rfl) (by simp [AV.ren, AV.rens, h0.lt, h1.lt]) (by have q0 := h0.lt; have q1 := h1.lt; simp [AV.und, AV.unds]; omega)
theorem f39_part_n {ws vs us : List Int} {p0 o0 p1 o1 q oq : Nat} {k0 k1 kq : Option Nat} {c0 c1 done : Int} {H : Heap} (h0 : Sl i64 H p0 o0 ws) (h1 : Sl i64 H p1 o1 vs) (hu : Sl i64 H q oq us) (l0 : ws.length ≤ 1000) (l1 : vs.length ≤ 1000) (lu : us.length ≤ 1000) (hw : nw ws c0 vs c1 = -1) (hb : us.length ≤ 600) {d : Nat} (hde : done = (d : Int) + 1) (hd1 : 1 ≤ d) (hd2 : d ≤ us.length + 1) :
    ACall Try.prog 39 [.agg (nvc p0 o0 ws.length k0 c0 p1 o1 vs.length k1 c1), .sl q oq us.length 1 kq, .int .i64 done] H (.tup [.agg (nvc H.length 0 d (some d) 0 p1 o1 vs.length k1 c1), .int .i64 0]) (H ++ [some ⟨(1 :: us).map i64, true⟩]) := by
  refine acall39 (by simp) (acs_start ?_)
  subst hde
  have g := fun G => f49_none (k0 := k0) (k1 := k1) (h0.app G) (h1.app G) (by omega) (by omega) hw
  have g2 := fun G => f66 (k0 := k0) (k1 := k1) (c0 := c0) (c1 := c1) (h0.app G) (h1.app G) (by omega) (by omega)
  have b1 : ¬ (600 : Int) < (us.length : Int) := by omega
  have gS := fun H => @f68 us.length q oq kq H (by omega)
  rw [hw] at g2
  have e0 : imax (-1) (-1) = -1 := by decide
  have gC := fun G r c3 pl (h : blkAt (H ++ G) pl = some ⟨([1] : List Int).map i64, true⟩) => f67 (xs := [1]) (ys := us) (p := pl) (off := 0) (c1 := some 1) (c2 := kq) (c3 := c3) (r := r) (o := true) (H := H ++ G) (Sl.whole h) (hu.app G)
  have gM := fun G pl c (h : blkAt (H ++ G) pl = some ⟨(1 :: us).map i64, true⟩) => f69 (cp := c) (ws := 1 :: us) (Sl.whole h) (by simp; omega)
  have m1 : ([1] : List Int).map i64 = [.int .i64 1] := rfl
  have ml : (1 :: us).length = us.length + 1 := rfl
  have m2 : [1] ++ us = 1 :: us := rfl
  simp only [m1, m2, List.length_cons, List.length_nil, Nat.zero_add, Nat.reduceAdd] at gC
  simp only [ml] at gM
  generalize hcc : com (1 :: us) = cc at *
  generalize hall : (1 :: us).map i64 = AL at *
  have hu0 : ∀ n, AV.unds n AL := fun n => by rw [← hall]; exact i64_und _
  have hALl : AL.length = us.length + 1 := by rw [← hall]; simp
  have nle : us.length + 1 ≤ 2000 := by omega
  have d1 : ¬ (us.length : Int) + 3 ≤ (d : Int) + 1 := by omega
  have d2 : (1 : Int) < (d : Int) + 1 := by omega
  have d3 : (d : Int) + 1 - 1 = (d : Int) := by omega
  have d4 : (d : Int) ≤ (us.length : Int) + 1 := by omega
  have d5 : ((us.length + 1 : Nat) : Int) = (us.length : Int) + 1 := by omega
  unfold nvc at *
  unfold c39
  simp (maxSteps:=1000000) (disch:=omega) only [go_sem, ↓reduceIte, reduceCtorEq]
  first | refine callB_intro (g _) ?_ | refine callD_intro (g _) ?_ | refine callP_intro (fun _ => (g _)) ?_ | refine callX_pure (g _) ?_
  simp (maxSteps:=1000000) (disch:=omega) only [go_sem, ↓reduceIte, reduceCtorEq, e0, b1]
  first | refine callB_intro (g2 _) ?_ | refine callD_intro (g2 _) ?_ | refine callP_intro (fun _ => (g2 _)) ?_ | refine callX_pure (g2 _) ?_
  simp (maxSteps:=1000000) (disch:=omega) only [go_sem, ↓reduceIte, reduceCtorEq, e0, b1]
  refine callB_intro (gC _ _ _ (H.length + 2) (by simp only [go_sem, ↓reduceIte, reduceCtorEq]) (by simp only [go_sem, ↓reduceIte, reduceCtorEq]) (by omega) (by omega) (by omega)) ?_
  simp (maxSteps:=1000000) (disch:=omega) only [go_sem, ↓reduceIte, reduceCtorEq, Nat.add_comm 1 us.length]
  first | refine callB_intro (gS _) ?_ | refine callD_intro (gS _) ?_ | refine callP_intro (fun _ => (gS _)) ?_ | refine callX_pure (gS _) ?_
  simp (maxSteps:=1000000) (disch:=omega) only [go_sem, ↓reduceIte, reduceCtorEq, d1, d2, d3, d4, d5, Nat.sub_zero, Int.le_refl]
  exact fin_one _ 4 _ (by simp) rfl rfl (hu0 _) (by simp (disch := omega) only [resVal, resAll, resOne, rs39, Env.get, go_sem, ↓reduceIte, reduceCtorEq]; rfl) (by simp [AV.ren, AV.rens, h0.lt, h1.lt]) (by have q0 := h0.lt; have q1 := h1.lt; simp [AV.und, AV.unds]; omega)
theorem f39_one_n {ws vs us : List Int} {p0 o0 p1 o1 q oq : Nat} {k0 k1 kq : Option Nat} {c0 c1 done : Int} {H : Heap} (h0 : Sl i64 H p0 o0 ws) (h1 : Sl i64 H p1 o1 vs) (hu : Sl i64 H q oq us) (l0 : ws.length ≤ 1000) (l1 : vs.length ≤ 1000) (lu : us.length ≤ 1000) (hw : nw ws c0 vs c1 = -1) (hb : us.length ≤ 600) (hd : done = 1) :
    ACall Try.prog 39 [.agg (nvc p0 o0 ws.length k0 c0 p1 o1 vs.length k1 c1), .sl q oq us.length 1 kq, .int .i64 done] H (.tup [.agg (nvc p0 o0 ws.length k0 0 p1 o1 vs.length k1 c1), .int .i64 0]) (H ++ [some ⟨(1 :: us).map i64, true⟩]) := by
  refine acall39 (by simp) (acs_start ?_)
  subst hd
  have g := fun G => f49_none (k0 := k0) (k1 := k1) (h0.app G) (h1.app G) (by omega) (by omega) hw
  have g2 := fun G => f66 (k0 := k0) (k1 := k1) (c0 := c0) (c1 := c1) (h0.app G) (h1.app G) (by omega) (by omega)
  have b1 : ¬ (600 : Int) < (us.length : Int) := by omega
  have gS := fun H => @f68 us.length q oq kq H (by omega)
  rw [hw] at g2
  have e0 : imax (-1) (-1) = -1 := by decide
  have gC := fun G r c3 pl (h : blkAt (H ++ G) pl = some ⟨([1] : List Int).map i64, true⟩) => f67 (xs := [1]) (ys := us) (p := pl) (off := 0) (c1 := some 1) (c2 := kq) (c3 := c3) (r := r) (o := true) (H := H ++ G) (Sl.whole h) (hu.app G)
  have gM := fun G pl c (h : blkAt (H ++ G) pl = some ⟨(1 :: us).map i64, true⟩) => f69 (cp := c) (ws := 1 :: us) (Sl.whole h) (by simp; omega)
  have m1 : ([1] : List Int).map i64 = [.int .i64 1] := rfl
  have ml : (1 :: us).length = us.length + 1 := rfl
  have m2 : [1] ++ us = 1 :: us := rfl
  simp only [m1, m2, List.length_cons, List.length_nil, Nat.zero_add, Nat.reduceAdd] at gC
  simp only [ml] at gM
  generalize hcc : com (1 :: us) = cc at *
  generalize hall : (1 :: us).map i64 = AL at *
  have hu0 : ∀ n, AV.unds n AL := fun n => by rw [← hall]; exact i64_und _
  have hALl : AL.length = us.length + 1 := by rw [← hall]; simp
  have nle : us.length + 1 ≤ 2000 := by omega
  have d1 : ¬ (us.length : Int) + 3 ≤ 1 := by omega
  unfold nvc at *
  unfold c39
  simp (maxSteps:=1000000) (disch:=omega) only [go_sem, ↓reduceIte, reduceCtorEq]
  first | refine callB_intro (g _) ?_ | refine callD_intro (g _) ?_ | refine callP_intro (fun _ => (g _)) ?_ | refine callX_pure (g _) ?_
  simp (maxSteps:=1000000) (disch:=omega) only [go_sem, ↓reduceIte, reduceCtorEq, e0, b1]
  first | refine callB_intro (g2 _) ?_ | refine callD_intro (g2 _) ?_ | refine callP_intro (fun _ => (g2 _)) ?_ | refine callX_pure (g2 _) ?_
  simp (maxSteps:=1000000) (disch:=omega) only [go_sem, ↓reduceIte, reduceCtorEq, e0, b1]
  refine callB_intro (gC _ _ _ (H.length + 2) (by simp only [go_sem, ↓reduceIte, reduceCtorEq]) (by simp only [go_sem, ↓reduceIte, reduceCtorEq]) (by omega) (by omega) (by omega)) ?_
  simp (maxSteps:=1000000) (disch:=omega) only [go_sem, ↓reduceIte, reduceCtorEq, Nat.add_comm 1 us.length]
  first | refine callB_intro (gS _) ?_ | refine callD_intro (gS _) ?_ | refine callP_intro (fun _ => (gS _)) ?_ | refine callX_pure (gS _) ?_
  simp (maxSteps:=1000000) (disch:=omega) only [go_sem, ↓reduceIte, reduceCtorEq, d1]
  exact fin_one _ 4 _ (by simp) rfl rfl (hu0 _) (by simp (disch := omega) only [resVal, resAll, resOne, rs39, Env.get, go_sem, ↓reduceIte, reduceCtorEq]; rfl) (by simp [AV.ren, AV.rens, h0.lt, h1.lt]) (by have q0 := h0.lt; have q1 := h1.lt; simp [AV.und, AV.unds]; omega)
theorem f39_zero_n {ws vs us : List Int} {p0 o0 p1 o1 q oq : Nat} {k0 k1 kq : Option Nat} {c0 c1 done : Int} {H : Heap} (h0 : Sl i64 H p0 o0 ws) (h1 : Sl i64 H p1 o1 vs) (hu : Sl i64 H q oq us) (l0 : ws.length ≤ 1000) (l1 : vs.length ≤ 1000) (lu : us.length ≤ 1000) (hw : nw ws c0 vs c1 = -1) (hb : us.length ≤ 600) (hd : done ≤ 0) :
    ACall Try.prog 39 [.agg (nvc p0 o0 ws.length k0 c0 p1 o1 vs.length k1 c1), .sl q oq us.length 1 kq, .int .i64 done] H (.tup [.agg (nvc p0 o0 ws.length k0 c0 p1 o1 vs.length k1 c1), .int .i64 0]) (H ++ [some ⟨(1 :: us).map i64, true⟩]) := by
  refine acall39 (by simp) (acs_start ?_)
  have g := fun G => f49_none (k0 := k0) (k1 := k1) (h0.app G) (h1.app G) (by omega) (by omega) hw
  have g2 := fun G => f66 (k0 := k0) (k1 := k1) (c0 := c0) (c1 := c1) (h0.app G) (h1.app G) (by omega) (by omega)
  have b1 : ¬ (600 : Int) < (us.length : Int) := by omega
  have gS := fun H => @f68 us.length q oq kq H (by omega)
  rw [hw] at g2
  have e0 : imax (-1) (-1) = -1 := by decide
  have gC := fun G r c3 pl (h : blkAt (H ++ G) pl = some ⟨([1] : List Int).map i64, true⟩) => f67 (xs := [1]) (ys := us) (p := pl) (off := 0) (c1 := some 1) (c2 := kq) (c3 := c3) (r := r) (o := true) (H := H ++ G) (Sl.whole h) (hu.app G)
  have gM := fun G pl c (h : blkAt (H ++ G) pl = some ⟨(1 :: us).map i64, true⟩) => f69 (cp := c) (ws := 1 :: us) (Sl.whole h) (by simp; omega)
  have m1 : ([1] : List Int).map i64 = [.int .i64 1] := rfl
  have ml : (1 :: us).length = us.length + 1 := rfl
  have m2 : [1] ++ us = 1 :: us := rfl
  simp only [m1, m2, List.length_cons, List.length_nil, Nat.zero_add, Nat.reduceAdd] at gC
  simp only [ml] at gM
  generalize hcc : com (1 :: us) = cc at *
  generalize hall : (1 :: us).map i64 = AL at *
  have hu0 : ∀ n, AV.unds n AL := fun n => by rw [← hall]; exact i64_und _
  have hALl : AL.length = us.length + 1 := by rw [← hall]; simp
  have nle : us.length + 1 ≤ 2000 := by omega
  have d1 : ¬ (us.length : Int) + 3 ≤ done := by omega
  have d2 : ¬ (1 : Int) < done := by omega
  have d3 : ¬ done = 1 := by omega
  unfold nvc at *
  unfold c39
  simp (maxSteps:=1000000) (disch:=omega) only [go_sem, ↓reduceIte, reduceCtorEq]
  first | refine callB_intro (g _) ?_ | refine callD_intro (g _) ?_ | refine callP_intro (fun _ => (g _)) ?_ | refine callX_pure (g _) ?_
  simp (maxSteps:=1000000) (disch:=omega) only [go_sem, ↓reduceIte, reduceCtorEq, e0, b1]
  first | refine callB_intro (g2 _) ?_ | refine callD_intro (g2 _) ?_ | refine callP_intro (fun _ => (g2 _)) ?_ | refine callX_pure (g2 _) ?_
  simp (maxSteps:=1000000) (disch:=omega) only [go_sem, ↓reduceIte, reduceCtorEq, e0, b1]
  refine callB_intro (gC _ _ _ (H.length + 2) (by simp only [go_sem, ↓reduceIte, reduceCtorEq]) (by simp only [go_sem, ↓reduceIte, reduceCtorEq]) (by omega) (by omega) (by omega)) ?_
  simp (maxSteps:=1000000) (disch:=omega) only [go_sem, ↓reduceIte, reduceCtorEq, Nat.add_comm 1 us.length]
  first | refine callB_intro (gS _) ?_ | refine callD_intro (gS _) ?_ | refine callP_intro (fun _ => (gS _)) ?_ | refine callX_pure (gS _) ?_
  simp (maxSteps:=1000000) (disch:=omega) only [go_sem, ↓reduceIte, reduceCtorEq, d1, d2, d3]
  exact fin_one _ 4 _ (by simp) rfl rfl (hu0 _) (by simp (disch := omega) only [resVal, resAll, resOne, rs39, Env.get, go_sem, ↓reduceIte, reduceCtorEq]; rfl) (by simp [AV.ren, AV.rens, h0.lt, h1.lt]) (by have q0 := h0.lt; have q1 := h1.lt; simp [AV.und, AV.unds]; omega)
theorem f39_big_0 {ws vs us : List Int} {p0 o0 p1 o1 q oq : Nat} {k0 k1 kq : Option Nat} {c0 c1 done : Int} {H : Heap} (h0 : Sl i64 H p0 o0 ws) (h1 : Sl i64 H p1 o1 vs) (hu : Sl i64 H q oq us) (l0 : ws.length ≤ 1000) (l1 : vs.length ≤ 1000) (lu : us.length ≤ 1000) (hw : nw ws c0 vs c1 = 0) (hn : 0 < ws.length) (hb : 600 < us.length) :
    ACall Try.prog 39 [.agg (nvc p0 o0 ws.length k0 c0 p1 o1 vs.length k1 c1), .sl q oq us.length 1 kq, .int .i64 done] H (.tup [.agg (nvc p0 o0 ws.length k0 c0 p1 o1 vs.length k1 c1), .int .i64 5]) H := by
  refine acall39 (by simp) (acs_start ?_)
  have g := fun G => f49_0 (k0 := k0) (k1 := k1) (h0.app G) (h1.app G) (by omega) (by omega) hw hn
  have b1 : (600 : Int) < (us.length : Int) := by omega
  unfold nvc at *
  unfold c39
  simp (maxSteps:=1000000) (disch:=omega) only [go_sem, ↓reduceIte, reduceCtorEq]
  first | refine callB_intro (g _) ?_ | refine callD_intro (g _) ?_ | refine callP_intro (fun _ => (g _)) ?_ | refine callX_pure (g _) ?_
  simp (maxSteps:=1000000) (disch:=omega) only [go_sem, ↓reduceIte, reduceCtorEq, b1]
  exact fin_same (by simp) _ (by first | exact (List.append_nil _).symm | rfl) (by simp (maxSteps:=1000000) (disch:=omega) only [resVal, resAll, resOne, rs39, Env.get, go_sem, ↓reduceIte, reduceCtorEq, Nat.le_refl]) (by simp only [AV.und, AV.unds]; exact ⟨⟨h0.lt, trivial, h1.lt, trivial, trivial⟩, trivial, trivial⟩)
theorem f39_far_0 {ws vs us : List Int} {p0 o0 p1 o1 q oq : Nat} {k0 k1 kq : Option Nat} {c0 c1 done : Int} {H : Heap} (h0 : Sl i64 H p0 o0 ws) (h1 : Sl i64 H p1 o1 vs) (hu : Sl i64 H q oq us) (l0 : ws.length ≤ 1000) (l1 : vs.length ≤ 1000) (lu : us.length ≤ 1000) (hw : nw ws c0 vs c1 = 0) (hn : 0 < ws.length) (hb : us.length ≤ 600) (hf : hd0 ws = 4611686018427387904) :
    ACall Try.prog 39 [.agg (nvc p0 o0 ws.length k0 c0 p1 o1 vs.length k1 c1), .sl q oq us.length 1 kq, .int .i64 done] H (.tup [.agg (nvc p0 o0 ws.length k0 c0 p1 o1 vs.length k1 c1), .int .i64 5]) H := by
  refine acall39 (by simp) (acs_start ?_)
  have g := fun G => f49_0 (k0 := k0) (k1 := k1) (h0.app G) (h1.app G) (by omega) (by omega) hw hn
  have b1 : ¬ (600 : Int) < (us.length : Int) := by omega
  unfold nvc at *
  unfold c39
  simp (maxSteps:=1000000) (disch:=omega) only [go_sem, ↓reduceIte, reduceCtorEq]
  first | refine callB_intro (g _) ?_ | refine callD_intro (g _) ?_ | refine callP_intro (fun _ => (g _)) ?_ | refine callX_pure (g _) ?_
  simp (maxSteps:=1000000) (disch:=omega) only [go_sem, ↓reduceIte, reduceCtorEq, b1, hf]
  exact fin_same (by simp) _ (by first | exact (List.append_nil _).symm | rfl) (by simp (maxSteps:=1000000) (disch:=omega) only [resVal, resAll, resOne, rs39, Env.get, go_sem, ↓reduceIte, reduceCtorEq, Nat.le_refl]) (by simp only [AV.und, AV.unds]; exact ⟨⟨h0.lt, trivial, h1.lt, trivial, trivial⟩, trivial, trivial⟩)
theorem f39_full_0 {ws vs us : List Int} {p0 o0 p1 o1 q oq : Nat} {k0 k1 kq : Option Nat} {c0 c1 done : Int} {H : Heap} (h0 : Sl i64 H p0 o0 ws) (h1 : Sl i64 H p1 o1 vs) (hu : Sl i64 H q oq us) (l0 : ws.length ≤ 1000) (l1 : vs.length ≤ 1000) (lu : us.length ≤ 1000) (hw : nw ws c0 vs c1 = 0) (hn : 0 < ws.length) (hb : us.length ≤ 600) (hf : 0 ≤ hd0 ws ∧ hd0 ws < 4611686018427387904) (hd : (us.length : Int) + 3 ≤ done) :
    ACall Try.prog 39 [.agg (nvc p0 o0 ws.length k0 c0 p1 o1 vs.length k1 c1), .sl q oq us.length 1 kq, .int .i64 done] H (.tup [.agg (nvc p0 o0 ws.length k0 c0 H.length 0 (us.length + 1) none (com ((hd0 ws + 1) :: us))), .int .i64 0]) (H ++ [some ⟨((hd0 ws + 1) :: us).map i64, true⟩]) := by
  refine acall39 (by simp) (acs_start ?_)
  have g := fun G => f49_0 (k0 := k0) (k1 := k1) (h0.app G) (h1.app G) (by omega) (by omega) hw hn
  have g2 := fun G => f66 (k0 := k0) (k1 := k1) (c0 := c0) (c1 := c1) (h0.app G) (h1.app G) (by omega) (by omega)
  have b1 : ¬ (600 : Int) < (us.length : Int) := by omega
  have gS := fun H => @f68 us.length q oq kq H (by omega)
  rw [hw] at g2
  have hf2 : ¬ hd0 ws = 4611686018427387904 := by omega
  have e0 : imax 0 (-1) = 0 := by decide
  have gC := fun G r c3 pl (h : blkAt (H ++ G) pl = some ⟨([hd0 ws + 1] : List Int).map i64, true⟩) => f67 (xs := [hd0 ws + 1]) (ys := us) (p := pl) (off := 0) (c1 := some 1) (c2 := kq) (c3 := c3) (r := r) (o := true) (H := H ++ G) (Sl.whole h) (hu.app G)
  have gM := fun G pl c (h : blkAt (H ++ G) pl = some ⟨((hd0 ws + 1) :: us).map i64, true⟩) => f69 (cp := c) (ws := (hd0 ws + 1) :: us) (Sl.whole h) (by simp; omega)
  have m1 : ([hd0 ws + 1] : List Int).map i64 = [.int .i64 (hd0 ws + 1)] := rfl
  have ml : ((hd0 ws + 1) :: us).length = us.length + 1 := rfl
  have m2 : [hd0 ws + 1] ++ us = (hd0 ws + 1) :: us := rfl
  simp only [m1, m2, List.length_cons, List.length_nil, Nat.zero_add, Nat.reduceAdd] at gC
  simp only [ml] at gM
  generalize hcc : com ((hd0 ws + 1) :: us) = cc at *
  generalize hall : ((hd0 ws + 1) :: us).map i64 = AL at *
  have hu0 : ∀ n, AV.unds n AL := fun n => by rw [← hall]; exact i64_und _
  have hALl : AL.length = us.length + 1 := by rw [← hall]; simp
  generalize hd0 ws = w at *
  have nle : us.length + 1 ≤ 2000 := by omega
  have d1 : (us.length : Int) + 3 ≤ done := hd
  unfold nvc at *
  unfold c39
  simp (maxSteps:=1000000) (disch:=omega) only [go_sem, ↓reduceIte, reduceCtorEq]
  first | refine callB_intro (g _) ?_ | refine callD_intro (g _) ?_ | refine callP_intro (fun _ => (g _)) ?_ | refine callX_pure (g _) ?_
  simp (maxSteps:=1000000) (disch:=omega) only [go_sem, ↓reduceIte, reduceCtorEq, e0, b1, hf2]
  first | refine callB_intro (g2 _) ?_ | refine callD_intro (g2 _) ?_ | refine callP_intro (fun _ => (g2 _)) ?_ | refine callX_pure (g2 _) ?_
  simp (maxSteps:=1000000) (disch:=omega) only [go_sem, ↓reduceIte, reduceCtorEq, e0, b1, hf2]
  refine callB_intro (gC _ _ _ (H.length + 3) (by simp only [go_sem, ↓reduceIte, reduceCtorEq]) (by simp only [go_sem, ↓reduceIte, reduceCtorEq]) (by omega) (by omega) (by omega)) ?_
  simp (maxSteps:=1000000) (disch:=omega) only [go_sem, ↓reduceIte, reduceCtorEq, Nat.add_comm 1 us.length]
  first | refine callB_intro (gS _) ?_ | refine callD_intro (gS _) ?_ | refine callP_intro (fun _ => (gS _)) ?_ | refine callX_pure (gS _) ?_
  simp (maxSteps:=1000000) (disch:=omega) only [go_sem, ↓reduceIte, reduceCtorEq, d1]
  refine callB_intro (gM _ _ _ (by simp only [go_sem, ↓reduceIte, reduceCtorEq])) ?_
  simp (maxSteps:=1000000) (disch:=omega) only [go_sem, ↓reduceIte, reduceCtorEq, d1]
  exact fin_one _ 5 _ (by simp) rfl rfl (hu0 _) (by simp (disch := omega) only [resVal, resAll, resOne, rs39, Env.get, go_sem, ↓reduceIte, reduceCtorEq]; rfl) (by simp [AV.ren, AV.rens, h0.lt, h1.lt]) (by have q0 := h0.lt; have q1 := h1.lt; simp [AV.und, AV.unds]; omega)
theorem f39_part_0 {ws vs us : List Int} {p0 o0 p1 o1 q oq : Nat} {k0 k1 kq : Option Nat} {c0 c1 done : Int} {H : Heap} (h0 : Sl i64 H p0 o0 ws) (h1 : Sl i64 H p1 o1 vs) (hu : Sl i64 H q oq us) (l0 : ws.length ≤ 1000) (l1 : vs.length ≤ 1000) (lu : us.length ≤ 1000) (hw : nw ws c0 vs c1 = 0) (hn : 0 < ws.length) (hb : us.length ≤ 600) (hf : 0 ≤ hd0 ws ∧ hd0 ws < 4611686018427387904) {d : Nat} (hde : done = (d : Int) + 1) (hd1 : 1 ≤ d) (hd2 : d ≤ us.length + 1) :
    ACall Try.prog 39 [.agg (nvc p0 o0 ws.length k0 c0 p1 o1 vs.length k1 c1), .sl q oq us.length 1 kq, .int .i64 done] H (.tup [.agg (nvc p0 o0 ws.length k0 c0 H.length 0 d (some d) 0), .int .i64 0]) (H ++ [some ⟨((hd0 ws + 1) :: us).map i64, true⟩]) := by
  refine acall39 (by simp) (acs_start ?_)
  subst hde
  have g := fun G => f49_0 (k0 := k0) (k1 := k1) (h0.app G) (h1.app G) (by omega) (by omega) hw hn
  have g2 := fun G => f66 (k0 := k0) (k1 := k1) (c0 := c0) (c1 := c1) (h0.app G) (h1.app G) (by omega) (by omega)
  have b1 : ¬ (600 : Int) < (us.length : Int) := by omega
  have gS := fun H => @f68 us.length q oq kq H (by omega)
  rw [hw] at g2
  have hf2 : ¬ hd0 ws = 4611686018427387904 := by omega
  have e0 : imax 0 (-1) = 0 := by decide
  have gC := fun G r c3 pl (h : blkAt (H ++ G) pl = some ⟨([hd0 ws + 1] : List Int).map i64, true⟩) => f67 (xs := [hd0 ws + 1]) (ys := us) (p := pl) (off := 0) (c1 := some 1) (c2 := kq) (c3 := c3) (r := r) (o := true) (H := H ++ G) (Sl.whole h) (hu.app G)
  have gM := fun G pl c (h : blkAt (H ++ G) pl = some ⟨((hd0 ws + 1) :: us).map i64, true⟩) => f69 (cp := c) (ws := (hd0 ws + 1) :: us) (Sl.whole h) (by simp; omega)
  have m1 : ([hd0 ws + 1] : List Int).map i64 = [.int .i64 (hd0 ws + 1)] := rfl
  have ml : ((hd0 ws + 1) :: us).length = us.length + 1 := rfl
  have m2 : [hd0 ws + 1] ++ us = (hd0 ws + 1) :: us := rfl
  simp only [m1, m2, List.length_cons, List.length_nil, Nat.zero_add, Nat.reduceAdd] at gC
  simp only [ml] at gM
  generalize hcc : com ((hd0 ws + 1) :: us) = cc at *
  generalize hall : ((hd0 ws + 1) :: us).map i64 = AL at *
  have hu0 : ∀ n, AV.unds n AL := fun n => by rw [← hall]; exact i64_und _
  have hALl : AL.length = us.length + 1 := by rw [← hall]; simp
  generalize hd0 ws = w at *
  have nle : us.length + 1 ≤ 2000 := by omega
  have d1 : ¬ (us.length : Int) + 3 ≤ (d : Int) + 1 := by omega
  have d2 : (1 : Int) < (d : Int) + 1 := by omega
  have d3 : (d : Int) + 1 - 1 = (d : Int) := by omega
  have d4 : (d : Int) ≤ (us.length : Int) + 1 := by omega
  have d5 : ((us.length + 1 : Nat) : Int) = (us.length : Int) + 1 := by omega
  unfold nvc at *
  unfold c39
  simp (maxSteps:=1000000) (disch:=omega) only [go_sem, ↓reduceIte, reduceCtorEq]
  first | refine callB_intro (g _) ?_ | refine callD_intro (g _) ?_ | refine callP_intro (fun _ => (g _)) ?_ | refine callX_pure (g _) ?_
  simp (maxSteps:=1000000) (disch:=omega) only [go_sem, ↓reduceIte, reduceCtorEq, e0, b1, hf2]
  first | refine callB_intro (g2 _) ?_ | refine callD_intro (g2 _) ?_ | refine callP_intro (fun _ => (g2 _)) ?_ | refine callX_pure (g2 _) ?_
  simp (maxSteps:=1000000) (disch:=omega) only [go_sem, ↓reduceIte, reduceCtorEq, e0, b1, hf2]
  refine callB_intro (gC _ _ _ (H.length + 3) (by simp only [go_sem, ↓reduceIte, reduceCtorEq]) (by simp only [go_sem, ↓reduceIte, reduceCtorEq]) (by omega) (by omega) (by omega)) ?_
  simp (maxSteps:=1000000) (disch:=omega) only [go_sem, ↓reduceIte, reduceCtorEq, Nat.add_comm 1 us.length]
  first | refine callB_intro (gS _) ?_ | refine callD_intro (gS _) ?_ | refine callP_intro (fun _ => (gS _)) ?_ | refine callX_pure (gS _) ?_
  simp (maxSteps:=1000000) (disch:=omega) only [go_sem, ↓reduceIte, reduceCtorEq, d1, d2, d3, d4, d5, Nat.sub_zero, Int.le_refl]
  exact fin_one _ 5 _ (by simp) rfl rfl (hu0 _) (by simp (disch := omega) only [resVal, resAll, resOne, rs39, Env.get, go_sem, ↓reduceIte, reduceCtorEq]; rfl) (by simp [AV.ren, AV.rens, h0.lt, h1.lt]) (by have q0 := h0.lt; have q1 := h1.lt; simp [AV.und, AV.unds]; omega)
theorem f39_one_0 {ws vs us : List Int} {p0 o0 p1 o1 q oq : Nat} {k0 k1 kq : Option Nat} {c0 c1 done : Int} {H : Heap} (h0 : Sl i64 H p0 o0 ws) (h1 : Sl i64 H p1 o1 vs) (hu : Sl i64 H q oq us) (l0 : ws.length ≤ 1000) (l1 : vs.length ≤ 1000) (lu : us.length ≤ 1000) (hw : nw ws c0 vs c1 = 0) (hn : 0 < ws.length) (hb : us.length ≤ 600) (hf : 0 ≤ hd0 ws ∧ hd0 ws < 4611686018427387904) (hd : done = 1) :
    ACall Try.prog 39 [.agg (nvc p0 o0 ws.length k0 c0 p1 o1 vs.length k1 c1), .sl q oq us.length 1 kq, .int .i64 done] H (.tup [.agg (nvc p0 o0 ws.length k0 c0 p1 o1 vs.length k1 0), .int .i64 0]) (H ++ [some ⟨((hd0 ws + 1) :: us).map i64, true⟩]) := by
  refine acall39 (by simp) (acs_start ?_)
  subst hd
  have g := fun G => f49_0 (k0 := k0) (k1 := k1) (h0.app G) (h1.app G) (by omega) (by omega) hw hn
  have g2 := fun G => f66 (k0 := k0) (k1 := k1) (c0 := c0) (c1 := c1) (h0.app G) (h1.app G) (by omega) (by omega)
  have b1 : ¬ (600 : Int) < (us.length : Int) := by omega
  have gS := fun H => @f68 us.length q oq kq H (by omega)
  rw [hw] at g2
  have hf2 : ¬ hd0 ws = 4611686018427387904 := by omega
  have e0 : imax 0 (-1) = 0 := by decide
  have gC := fun G r c3 pl (h : blkAt (H ++ G) pl = some ⟨([hd0 ws + 1] : List Int).map i64, true⟩) => f67 (xs := [hd0 ws + 1]) (ys := us) (p := pl) (off := 0) (c1 := some 1) (c2 := kq) (c3 := c3) (r := r) (o := true) (H := H ++ G) (Sl.whole h) (hu.app G)
  have gM := fun G pl c (h : blkAt (H ++ G) pl = some ⟨((hd0 ws + 1) :: us).map i64, true⟩) => f69 (cp := c) (ws := (hd0 ws + 1) :: us) (Sl.whole h) (by simp; omega)
  have m1 : ([hd0 ws + 1] : List Int).map i64 = [.int .i64 (hd0 ws + 1)] := rfl
  have ml : ((hd0 ws + 1) :: us).length = us.length + 1 := rfl
  have m2 : [hd0 ws + 1] ++ us = (hd0 ws + 1) :: us := rfl
  simp only [m1, m2, List.length_cons, List.length_nil, Nat.zero_add, Nat.reduceAdd] at gC
  simp only [ml] at gM
  generalize hcc : com ((hd0 ws + 1) :: us) = cc at *
  generalize hall : ((hd0 ws + 1) :: us).map i64 = AL at *
  have hu0 : ∀ n, AV.unds n AL := fun n => by rw [← hall]; exact i64_und _
  have hALl : AL.length = us.length + 1 := by rw [← hall]; simp
  generalize hd0 ws = w at *
  have nle : us.length + 1 ≤ 2000 := by omega
  have d1 : ¬ (us.length : Int) + 3 ≤ 1 := by omega
  unfold nvc at *
  unfold c39
  simp (maxSteps:=1000000) (disch:=omega) only [go_sem, ↓reduceIte, reduceCtorEq]
  first | refine callB_intro (g _) ?_ | refine callD_intro (g _) ?_ | refine callP_intro (fun _ => (g _)) ?_ | refine callX_pure (g _) ?_
  simp (maxSteps:=1000000) (disch:=omega) only [go_sem, ↓reduceIte, reduceCtorEq, e0, b1, hf2]
  first | refine callB_intro (g2 _) ?_ | refine callD_intro (g2 _) ?_ | refine callP_intro (fun _ => (g2 _)) ?_ | refine callX_pure (g2 _) ?_
  simp (maxSteps:=1000000) (disch:=omega) only [go_sem, ↓reduceIte, reduceCtorEq, e0, b1, hf2]
  refine callB_intro (gC _ _ _ (H.length + 3) (by simp only [go_sem, ↓reduceIte, reduceCtorEq]) (by simp only [go_sem, ↓reduceIte, reduceCtorEq]) (by omega) (by omega) (by omega)) ?_
  simp (maxSteps:=1000000) (disch:=omega) only [go_sem, ↓reduceIte, reduceCtorEq, Nat.add_comm 1 us.length]
  first | refine callB_intro (gS _) ?_ | refine callD_intro (gS _) ?_ | refine callP_intro (fun _ => (gS _)) ?_ | refine callX_pure (gS _) ?_
  simp (maxSteps:=1000000) (disch:=omega) only [go_sem, ↓reduceIte, reduceCtorEq, d1]
  exact fin_one _ 5 _ (by simp) rfl rfl (hu0 _) (by simp (disch := omega) only [resVal, resAll, resOne, rs39, Env.get, go_sem, ↓reduceIte, reduceCtorEq]; rfl) (by simp [AV.ren, AV.rens, h0.lt, h1.lt]) (by have q0 := h0.lt; have q1 := h1.lt; simp [AV.und, AV.unds]; omega)
theorem f39_zero_0 {ws vs us : List Int} {p0 o0 p1 o1 q oq : Nat} {k0 k1 kq : Option Nat} {c0 c1 done : Int} {H : Heap} (h0 : Sl i64 H p0 o0 ws) (h1 : Sl i64 H p1 o1 vs) (hu : Sl i64 H q oq us) (l0 : ws.length ≤ 1000) (l1 : vs.length ≤ 1000) (lu : us.length ≤ 1000) (hw : nw ws c0 vs c1 = 0) (hn : 0 < ws.length) (hb : us.length ≤ 600) (hf : 0 ≤ hd0 ws ∧ hd0 ws < 4611686018427387904) (hd : done ≤ 0) :
    ACall Try.prog 39 [.agg (nvc p0 o0 ws.length k0 c0 p1 o1 vs.length k1 c1), .sl q oq us.length 1 kq, .int .i64 done] H (.tup [.agg (nvc p0 o0 ws.length k0 c0 p1 o1 vs.length k1 c1), .int .i64 0]) (H ++ [some ⟨((hd0 ws + 1) :: us).map i64, true⟩]) := by
  refine acall39 (by simp) (acs_start ?_)
  have g := fun G => f49_0 (k0 := k0) (k1 := k1) (h0.app G) (h1.app G) (by omega) (by omega) hw hn
  have g2 := fun G => f66 (k0 := k0) (k1 := k1) (c0 := c0) (c1 := c1) (h0.app G) (h1.app G) (by omega) (by omega)
  have b1 : ¬ (600 : Int) < (us.length : Int) := by omega
  have gS := fun H => @f68 us.length q oq kq H (by omega)
  rw [hw] at g2
  have hf2 : ¬ hd0 ws = 4611686018427387904 := by omega
  have e0 : imax 0 (-1) = 0 := by decide
  have gC := fun G r c3 pl (h : blkAt (H ++ G) pl = some ⟨([hd0 ws + 1] : List Int).map i64, true⟩) => f67 (xs := [hd0 ws + 1]) (ys := us) (p := pl) (off := 0) (c1 := some 1) (c2 := kq) (c3 := c3) (r := r) (o := true) (H := H ++ G) (Sl.whole h) (hu.app G)
  have gM := fun G pl c (h : blkAt (H ++ G) pl = some ⟨((hd0 ws + 1) :: us).map i64, true⟩) => f69 (cp := c) (ws := (hd0 ws + 1) :: us) (Sl.whole h) (by simp; omega)
  have m1 : ([hd0 ws + 1] : List Int).map i64 = [.int .i64 (hd0 ws + 1)] := rfl
  have ml : ((hd0 ws + 1) :: us).length = us.length + 1 := rfl
  have m2 : [hd0 ws + 1] ++ us = (hd0 ws + 1) :: us := rfl
  simp only [m1, m2, List.length_cons, List.length_nil, Nat.zero_add, Nat.reduceAdd] at gC
  simp only [ml] at gM
  generalize hcc : com ((hd0 ws + 1) :: us) = cc at *
  generalize hall : ((hd0 ws + 1) :: us).map i64 = AL at *
  have hu0 : ∀ n, AV.unds n AL := fun n => by rw [← hall]; exact i64_und _
  have hALl : AL.length = us.length + 1 := by rw [← hall]; simp
  generalize hd0 ws = w at *
  have nle : us.length + 1 ≤ 2000 := by omega
  have d1 : ¬ (us.length : Int) + 3 ≤ done := by omega
  have d2 : ¬ (1 : Int) < done := by omega
  have d3 : ¬ done = 1 := by omega
  unfold nvc at *
  unfold c39
  simp (maxSteps:=1000000) (disch:=omega) only [go_sem, ↓reduceIte, reduceCtorEq]
  first | refine callB_intro (g _) ?_ | refine callD_intro (g _) ?_ | refine callP_intro (fun _ => (g _)) ?_ | refine callX_pure (g _) ?_
  simp (maxSteps:=1000000) (disch:=omega) only [go_sem, ↓reduceIte, reduceCtorEq, e0, b1, hf2]
  first | refine callB_intro (g2 _) ?_ | refine callD_intro (g2 _) ?_ | refine callP_intro (fun _ => (g2 _)) ?_ | refine callX_pure (g2 _) ?_
  simp (maxSteps:=1000000) (disch:=omega) only [go_sem, ↓reduceIte, reduceCtorEq, e0, b1, hf2]
  refine callB_intro (gC _ _ _ (H.length + 3) (by simp only [go_sem, ↓reduceIte, reduceCtorEq]) (by simp only [go_sem, ↓reduceIte, reduceCtorEq]) (by omega) (by omega) (by omega)) ?_
  simp (maxSteps:=1000000) (disch:=omega) only [go_sem, ↓reduceIte, reduceCtorEq, Nat.add_comm 1 us.length]
  first | refine callB_intro (gS _) ?_ | refine callD_intro (gS _) ?_ | refine callP_intro (fun _ => (gS _)) ?_ | refine callX_pure (gS _) ?_
  simp (maxSteps:=1000000) (disch:=omega) only [go_sem, ↓reduceIte, reduceCtorEq, d1, d2, d3]
  exact fin_one _ 5 _ (by simp) rfl rfl (hu0 _) (by simp (disch := omega) only [resVal, resAll, resOne, rs39, Env.get, go_sem, ↓reduceIte, reduceCtorEq]; rfl) (by simp [AV.ren, AV.rens, h0.lt, h1.lt]) (by have q0 := h0.lt; have q1 := h1.lt; simp [AV.und, AV.unds]; omega)
theorem f39_big_1 {ws vs us : List Int} {p0 o0 p1 o1 q oq : Nat} {k0 k1 kq : Option Nat} {c0 c1 done : Int} {H : Heap} (h0 : Sl i64 H p0 o0 ws) (h1 : Sl i64 H p1 o1 vs) (hu : Sl i64 H q oq us) (l0 : ws.length ≤ 1000) (l1 : vs.length ≤ 1000) (lu : us.length ≤ 1000) (hw : nw ws c0 vs c1 = 1) (hn : 0 < vs.length) (hb : 600 < us.length) :
    ACall Try.prog 39 [.agg (nvc p0 o0 ws.length k0 c0 p1 o1 vs.length k1 c1), .sl q oq us.length 1 kq, .int .i64 done] H (.tup [.agg (nvc p0 o0 ws.length k0 c0 p1 o1 vs.length k1 c1), .int .i64 5]) H := by
  refine acall39 (by simp) (acs_start ?_)
  have g := fun G => f49_1 (k0 := k0) (k1 := k1) (h0.app G) (h1.app G) (by omega) (by omega) hw hn
  have b1 : (600 : Int) < (us.length : Int) := by omega
  unfold nvc at *
  unfold c39
  simp (maxSteps:=1000000) (disch:=omega) only [go_sem, ↓reduceIte, reduceCtorEq]
  first | refine callB_intro (g _) ?_ | refine callD_intro (g _) ?_ | refine callP_intro (fun _ => (g _)) ?_ | refine callX_pure (g _) ?_
  simp (maxSteps:=1000000) (disch:=omega) only [go_sem, ↓reduceIte, reduceCtorEq, b1]
  exact fin_same (by simp) _ (by first | exact (List.append_nil _).symm | rfl) (by simp (maxSteps:=1000000) (disch:=omega) only [resVal, resAll, resOne, rs39, Env.get, go_sem, ↓reduceIte, reduceCtorEq, Nat.le_refl]) (by simp only [AV.und, AV.unds]; exact ⟨⟨h0.lt, trivial, h1.lt, trivial, trivial⟩, trivial, trivial⟩)
theorem f39_far_1 {ws vs us : List Int} {p0 o0 p1 o1 q oq : Nat} {k0 k1 kq : Option Nat} {c0 c1 done : Int} {H : Heap} (h0 : Sl i64 H p0 o0 ws) (h1 : Sl i64 H p1 o1 vs) (hu : Sl i64 H q oq us) (l0 : ws.length ≤ 1000) (l1 : vs.length ≤ 1000) (lu : us.length ≤ 1000) (hw : nw ws c0 vs c1 = 1) (hn : 0 < vs.length) (hb : us.length ≤ 600) (hf : hd0 vs = 4611686018427387904) :
    ACall Try.prog 39 [.agg (nvc p0 o0 ws.length k0 c0 p1 o1 vs.length k1 c1), .sl q oq us.length 1 kq, .int .i64 done] H (.tup [.agg (nvc p0 o0 ws.length k0 c0 p1 o1 vs.length k1 c1), .int .i64 5]) H := by
  refine acall39 (by simp) (acs_start ?_)
  have g := fun G => f49_1 (k0 := k0) (k1 := k1) (h0.app G) (h1.app G) (by omega) (by omega) hw hn
  have b1 : ¬ (600 : Int) < (us.length : Int) := by omega
  unfold nvc at *
  unfold c39
  simp (maxSteps:=1000000) (disch:=omega) only [go_sem, ↓reduceIte, reduceCtorEq]
  first | refine callB_intro (g _) ?_ | refine callD_intro (g _) ?_ | refine callP_intro (fun _ => (g _)) ?_ | refine callX_pure (g _) ?_
  simp (maxSteps:=1000000) (disch:=omega) only [go_sem, ↓reduceIte, reduceCtorEq, b1, hf]
  exact fin_same (by simp) _ (by first | exact (List.append_nil _).symm | rfl) (by simp (maxSteps:=1000000) (disch:=omega) only [resVal, resAll, resOne, rs39, Env.get, go_sem, ↓reduceIte, reduceCtorEq, Nat.le_refl]) (by simp only [AV.und, AV.unds]; exact ⟨⟨h0.lt, trivial, h1.lt, trivial, trivial⟩, trivial, trivial⟩)
theorem f39_full_1 {ws vs us : List Int} {p0 o0 p1 o1 q oq : Nat} {k0 k1 kq : Option Nat} {c0 c1 done : Int} {H : Heap} (h0 : Sl i64 H p0 o0 ws) (h1 : Sl i64 H p1 o1 vs) (hu : Sl i64 H q oq us) (l0 : ws.length ≤ 1000) (l1 : vs.length ≤ 1000) (lu : us.length ≤ 1000) (hw : nw ws c0 vs c1 = 1) (hn : 0 < vs.length) (hb : us.length ≤ 600) (hf : 0 ≤ hd0 vs ∧ hd0 vs < 4611686018427387904) (hd : (us.length : Int) + 3 ≤ done) :
    ACall Try.prog 39 [.agg (nvc p0 o0 ws.length k0 c0 p1 o1 vs.length k1 c1), .sl q oq us.length 1 kq, .int .i64 done] H (.tup [.agg (nvc H.length 0 (us.length + 1) none (com ((hd0 vs + 1) :: us)) p1 o1 vs.length k1 c1), .int .i64 0]) (H ++ [some ⟨((hd0 vs + 1) :: us).map i64, true⟩]) := by
  refine acall39 (by simp) (acs_start ?_)
  have g := fun G => f49_1 (k0 := k0) (k1 := k1) (h0.app G) (h1.app G) (by omega) (by omega) hw hn
  have g2 := fun G => f66 (k0 := k0) (k1 := k1) (c0 := c0) (c1 := c1) (h0.app G) (h1.app G) (by omega) (by omega)
  have b1 : ¬ (600 : Int) < (us.length : Int) := by omega
  have gS := fun H => @f68 us.length q oq kq H (by omega)
  rw [hw] at g2
  have hf2 : ¬ hd0 vs = 4611686018427387904 := by omega
  have e0 : imax 1 (-1) = 1 := by decide
  have gC := fun G r c3 pl (h : blkAt (H ++ G) pl = some ⟨([hd0 vs + 1] : List Int).map i64, true⟩) => f67 (xs := [hd0 vs + 1]) (ys := us) (p := pl) (off := 0) (c1 := some 1) (c2 := kq) (c3 := c3) (r := r) (o := true) (H := H ++ G) (Sl.whole h) (hu.app G)
  have gM := fun G pl c (h : blkAt (H ++ G) pl = some ⟨((hd0 vs + 1) :: us).map i64, true⟩) => f69 (cp := c) (ws := (hd0 vs + 1) :: us) (Sl.whole h) (by simp; omega)
  have m1 : ([hd0 vs + 1] : List Int).map i64 = [.int .i64 (hd0 vs + 1)] := rfl
  have ml : ((hd0 vs + 1) :: us).length = us.length + 1 := rfl
  have m2 : [hd0 vs + 1] ++ us = (hd0 vs + 1) :: us := rfl
  simp only [m1, m2, List.length_cons, List.length_nil, Nat.zero_add, Nat.reduceAdd] at gC
  simp only [ml] at gM
  generalize hcc : com ((hd0 vs + 1) :: us) = cc at *
  generalize hall : ((hd0 vs + 1) :: us).map i64 = AL at *
  have hu0 : ∀ n, AV.unds n AL := fun n => by rw [← hall]; exact i64_und _
  have hALl : AL.length = us.length + 1 := by rw [← hall]; simp
  generalize hd0 vs = w at *
  have nle : us.length + 1 ≤ 2000 := by omega
  have d1 : (us.length : Int) + 3 ≤ done := hd
  unfold nvc at *
  unfold c39
  simp (maxSteps:=1000000) (disch:=omega) only [go_sem, ↓reduceIte, reduceCtorEq]
  first | refine callB_intro (g _) ?_ | refine callD_intro (g _) ?_ | refine callP_intro (fun _ => (g _)) ?_ | refine callX_pure (g _) ?_
  simp (maxSteps:=1000000) (disch:=omega) only [go_sem, ↓reduceIte, reduceCtorEq, e0, b1, hf2]
  first | refine callB_intro (g2 _) ?_ | refine callD_intro (g2 _) ?_ | refine callP_intro (fun _ => (g2 _)) ?_ | refine callX_pure (g2 _) ?_
  simp (maxSteps:=1000000) (disch:=omega) only [go_sem, ↓reduceIte, reduceCtorEq, e0, b1, hf2]
  refine callB_intro (gC _ _ _ (H.length + 3) (by simp only [go_sem, ↓reduceIte, reduceCtorEq]) (by simp only [go_sem, ↓reduceIte, reduceCtorEq]) (by omega) (by omega) (by omega)) ?_
  simp (maxSteps:=1000000) (disch:=omega) only [go_sem, ↓reduceIte, reduceCtorEq, Nat.add_comm 1 us.length]
  first | refine callB_intro (gS _) ?_ | refine callD_intro (gS _) ?_ | refine callP_intro (fun _ => (gS _)) ?_ | refine callX_pure (gS _) ?_
  simp (maxSteps:=1000000) (disch:=omega) only [go_sem, ↓reduceIte, reduceCtorEq, d1]
  refine callB_intro (gM _ _ _ (by simp only [go_sem, ↓reduceIte, reduceCtorEq])) ?_
  simp (maxSteps:=1000000) (disch:=omega) only [go_sem, ↓reduceIte, reduceCtorEq, d1]
  exact fin_one _ 5 _ (by simp) rfl rfl (hu0 _) (by simp (disch := omega) only [resVal, resAll, resOne, rs39, Env.get, go_sem, ↓reduceIte, reduceCtorEq]; rfl) (by simp [AV.ren, AV.rens, h0.lt, h1.lt]) (by have q0 := h0.lt; have q1 := h1.lt; simp [AV.und, AV.unds]; omega)
theorem f39_part_1 {ws vs us : List Int} {p0 o0 p1 o1 q oq : Nat} {k0 k1 kq : Option Nat} {c0 c1 done : Int} {H : Heap} (h0 : Sl i64 H p0 o0 ws) (h1 : Sl i64 H p1 o1 vs) (hu : Sl i64 H q oq us) (l0 : ws.length ≤ 1000) (l1 : vs.length ≤ 1000) (lu : us.length ≤ 1000) (hw : nw ws c0 vs c1 = 1) (hn : 0 < vs.length) (hb : us.length ≤ 600) (hf : 0 ≤ hd0 vs ∧ hd0 vs < 4611686018427387904) {d : Nat} (hde : done = (d : Int) + 1) (hd1 : 1 ≤ d) (hd2 : d ≤ us.length + 1) :
    ACall Try.prog 39 [.agg (nvc p0 o0 ws.length k0 c0 p1 o1 vs.length k1 c1), .sl q oq us.length 1 kq, .int .i64 done] H (.tup [.agg (nvc H.length 0 d (some d) 0 p1 o1 vs.length k1 c1), .int .i64 0]) (H ++ [some ⟨((hd0 vs + 1) :: us).map i64, true⟩]) := by
  refine acall39 (by simp) (acs_start ?_)
  subst hde
  have g := fun G => f49_1 (k0 := k0) (k1 := k1) (h0.app G) (h1.app G) (by omega) (by omega) hw hn
  have g2 := fun G => f66 (k0 := k0) (k1 := k1) (c0 := c0) (c1 := c1) (h0.app G) (h1.app G) (by omega) (by omega)
  have b1 : ¬ (600 : Int) < (us.length : Int) := by omega
  have gS := fun H => @f68 us.length q oq kq H (by omega)
  rw [hw] at g2
  have hf2 : ¬ hd0 vs = 4611686018427387904 := by omega
  have e0 : imax 1 (-1) = 1 := by decide
  have gC := fun G r c3 pl (h : blkAt (H ++ G) pl = some ⟨([hd0 vs + 1] : List Int).map i64, true⟩) => f67 (xs := [hd0 vs + 1]) (ys := us) (p := pl) (off := 0) (c1 := some 1) (c2 := kq) (c3 := c3) (r := r) (o := true) (H := H ++ G) (Sl.whole h) (hu.app G)
  have gM := fun G pl c (h : blkAt (H ++ G) pl = some ⟨((hd0 vs + 1) :: us).map i64, true⟩) => f69 (cp := c) (ws := (hd0 vs + 1) :: us) (Sl.whole h) (by simp; omega)
  have m1 : ([hd0 vs + 1] : List Int).map i64 = [.int .i64 (hd0 vs + 1)] := rfl
  have ml : ((hd0 vs + 1) :: us).length = us.length + 1 := rfl
  have m2 : [hd0 vs + 1] ++ us = (hd0 vs + 1) :: us := rfl
  simp only [m1, m2, List.length_cons, List.length_nil, Nat.zero_add, Nat.reduceAdd] at gC
  simp only [ml] at gM
  generalize hcc : com ((hd0 vs + 1) :: us) = cc at *
  generalize hall : ((hd0 vs + 1) :: us).map i64 = AL at *
  have hu0 : ∀ n, AV.unds n AL := fun n => by rw [← hall]; exact i64_und _
  have hALl : AL.length = us.length + 1 := by rw [← hall]; simp
  generalize hd0 vs = w at *
  have nle : us.length + 1 ≤ 2000 := by omega
  have d1 : ¬ (us.length : Int) + 3 ≤ (d : Int) + 1 := by omega
  have d2 : (1 : Int) < (d : Int) + 1 := by omega
  have d3 : (d : Int) + 1 - 1 = (d : Int) := by omega
  have d4 : (d : Int) ≤ (us.length : Int) + 1 := by omega
  have d5 : ((us.length + 1 : Nat) : Int) = (us.length : Int) + 1 := by omega
  unfold nvc at *
  unfold c39
  simp (maxSteps:=1000000) (disch:=omega) only [go_sem, ↓reduceIte, reduceCtorEq]
  first | refine callB_intro (g _) ?_ | refine callD_intro (g _) ?_ | refine callP_intro (fun _ => (g _)) ?_ | refine callX_pure (g _) ?_
  simp (maxSteps:=1000000) (disch:=omega) only [go_sem, ↓reduceIte, reduceCtorEq, e0, b1, hf2]
  first | refine callB_intro (g2 _) ?_ | refine callD_intro (g2 _) ?_ | refine callP_intro (fun _ => (g2 _)) ?_ | refine callX_pure (g2 _) ?_
  simp (maxSteps:=1000000) (disch:=omega) only [go_sem, ↓reduceIte, reduceCtorEq, e0, b1, hf2]
  refine callB_intro (gC _ _ _ (H.length + 3) (by simp only [go_sem, ↓reduceIte, reduceCtorEq]) (by simp only [go_sem, ↓reduceIte, reduceCtorEq]) (by omega) (by omega) (by omega)) ?_
  simp (maxSteps:=1000000) (disch:=omega) only [go_sem, ↓reduceIte, reduceCtorEq, Nat.add_comm 1 us.length]
  first | refine callB_intro (gS _) ?_ | refine callD_intro (gS _) ?_ | refine callP_intro (fun _ => (gS _)) ?_ | refine callX_pure (gS _) ?_
  simp (maxSteps:=1000000) (disch:=omega) only [go_sem, ↓reduceIte, reduceCtorEq, d1, d2, d3, d4, d5, Nat.sub_zero, Int.le_refl]
  exact fin_one _ 5 _ (by simp) rfl rfl (hu0 _) (by simp (disch := omega) only [resVal, resAll, resOne, rs39, Env.get, go_sem, ↓reduceIte, reduceCtorEq]; rfl) (by simp [AV.ren, AV.rens, h0.lt, h1.lt]) (by have q0 := h0.lt; have q1 := h1.lt; simp [AV.und, AV.unds]; omega)
theorem f39_one_1 {ws vs us : List Int} {p0 o0 p1 o1 q oq : Nat} {k0 k1 kq : Option Nat} {c0 c1 done : Int} {H : Heap} (h0 : Sl i64 H p0 o0 ws) (h1 : Sl i64 H p1 o1 vs) (hu : Sl i64 H q oq us) (l0 : ws.length ≤ 1000) (l1 : vs.length ≤ 1000) (lu : us.length ≤ 1000) (hw : nw ws c0 vs c1 = 1) (hn : 0 < vs.length) (hb : us.length ≤ 600) (hf : 0 ≤ hd0 vs ∧ hd0 vs < 4611686018427387904) (hd : done = 1) :
    ACall Try.prog 39 [.agg (nvc p0 o0 ws.length k0 c0 p1 o1 vs.length k1 c1), .sl q oq us.length 1 kq, .int .i64 done] H (.tup [.agg (nvc p0 o0 ws.length k0 0 p1 o1 vs.length k1 c1), .int .i64 0]) (H ++ [some ⟨((hd0 vs + 1) :: us).map i64, true⟩]) := by
  refine acall39 (by simp) (acs_start ?_)
  subst hd
  have g := fun G => f49_1 (k0 := k0) (k1 := k1) (h0.app G) (h1.app G) (by omega) (by omega) hw hn
  have g2 := fun G => f66 (k0 := k0) (k1 := k1) (c0 := c0) (c1 := c1) (h0.app G) (h1.app G) (by omega) (by omega)
  have b1 : ¬ (600 : Int) < (us.length : Int) := by omega
  have gS := fun H => @f68 us.length q oq kq H (by omega)
  rw [hw] at g2
  have hf2 : ¬ hd0 vs = 4611686018427387904 := by omega
  have e0 : imax 1 (-1) = 1 := by decide
  have gC := fun G r c3 pl (h : blkAt (H ++ G) pl = some ⟨([hd0 vs + 1] : List Int).map i64, true⟩) => f67 (xs := [hd0 vs + 1]) (ys := us) (p := pl) (off := 0) (c1 := some 1) (c2 := kq) (c3 := c3) (r := r) (o := true) (H := H ++ G) (Sl.whole h) (hu.app G)
  have gM := fun G pl c (h : blkAt (H ++ G) pl = some ⟨((hd0 vs + 1) :: us).map i64, true⟩) => f69 (cp := c) (ws := (hd0 vs + 1) :: us) (Sl.whole h) (by simp; omega)
  have m1 : ([hd0 vs + 1] : List Int).map i64 = [.int .i64 (hd0 vs + 1)] := rfl
  have ml : ((hd0 vs + 1) :: us).length = us.length + 1 := rfl
  have m2 : [hd0 vs + 1] ++ us = (hd0 vs + 1) :: us := rfl
  simp only [m1, m2, List.length_cons, List.length_nil, Nat.zero_add, Nat.reduceAdd] at gC
  simp only [ml] at gM
  generalize hcc : com ((hd0 vs + 1) :: us) = cc at *
  generalize hall : ((hd0 vs + 1) :: us).map i64 = AL at *
  have hu0 : ∀ n, AV.unds n AL := fun n => by rw [← hall]; exact i64_und _
  have hALl : AL.length = us.length + 1 := by rw [← hall]; simp
  generalize hd0 vs = w at *
  have nle : us.length + 1 ≤ 2000 := by omega
  have d1 : ¬ (us.length : Int) + 3 ≤ 1 := by omega
  unfold nvc at *
  unfold c39
  simp (maxSteps:=1000000) (disch:=omega) only [go_sem, ↓reduceIte, reduceCtorEq]
  first | refine callB_intro (g _) ?_ | refine callD_intro (g _) ?_ | refine callP_intro (fun _ => (g _)) ?_ | refine callX_pure (g _) ?_
  simp (maxSteps:=1000000) (disch:=omega) only [go_sem, ↓reduceIte, reduceCtorEq, e0, b1, hf2]
  first | refine callB_intro (g2 _) ?_ | refine callD_intro (g2 _) ?_ | refine callP_intro (fun _ => (g2 _)) ?_ | refine callX_pure (g2 _) ?_
  simp (maxSteps:=1000000) (disch:=omega) only [go_sem, ↓reduceIte, reduceCtorEq, e0, b1, hf2]
  refine callB_intro (gC _ _ _ (H.length + 3) (by simp only [go_sem, ↓reduceIte, reduceCtorEq]) (by simp only [go_sem, ↓reduceIte, reduceCtorEq]) (by omega) (by omega) (by omega)) ?_
  simp (maxSteps:=1000000) (disch:=omega) only [go_sem, ↓reduceIte, reduceCtorEq, Nat.add_comm 1 us.length]
  first | refine callB_intro (gS _) ?_ | refine callD_intro (gS _) ?_ | refine callP_intro (fun _ => (gS _)) ?_ | refine callX_pure (gS _) ?_
  simp (maxSteps:=1000000) (disch:=omega) only [go_sem, ↓reduceIte, reduceCtorEq, d1]
  exact fin_one _ 5 _ (by simp) rfl rfl (hu0 _) (by simp (disch := omega) only [resVal, resAll, resOne, rs39, Env.get, go_sem, ↓reduceIte, reduceCtorEq]; rfl) (by simp [AV.ren, AV.rens, h0.lt, h1.lt]) (by have q0 := h0.lt; have q1 := h1.lt; simp [AV.und, AV.unds]; omega)
theorem f39_zero_1 {ws vs us : List Int} {p0 o0 p1 o1 q oq : Nat} {k0 k1 kq : Option Nat} {c0 c1 done : Int} {H : Heap} (h0 : Sl i64 H p0 o0 ws) (h1 : Sl i64 H p1 o1 vs) (hu : Sl i64 H q oq us) (l0 : ws.length ≤ 1000) (l1 : vs.length ≤ 1000) (lu : us.length ≤ 1000) (hw : nw ws c0 vs c1 = 1) (hn : 0 < vs.length) (hb : us.length ≤ 600) (hf : 0 ≤ hd0 vs ∧ hd0 vs < 4611686018427387904) (hd : done ≤ 0) :
    ACall Try.prog 39 [.agg (nvc p0 o0 ws.length k0 c0 p1 o1 vs.length k1 c1), .sl q oq us.length 1 kq, .int .i64 done] H (.tup [.agg (nvc p0 o0 ws.length k0 c0 p1 o1 vs.length k1 c1), .int .i64 0]) (H ++ [some ⟨((hd0 vs + 1) :: us).map i64, true⟩]) := by
  refine acall39 (by simp) (acs_start ?_)
  have g := fun G => f49_1 (k0 := k0) (k1 := k1) (h0.app G) (h1.app G) (by omega) (by omega) hw hn
  have g2 := fun G => f66 (k0 := k0) (k1 := k1) (c0 := c0) (c1 := c1) (h0.app G) (h1.app G) (by omega) (by omega)
  have b1 : ¬ (600 : Int) < (us.length : Int) := by omega
  have gS := fun H => @f68 us.length q oq kq H (by omega)
  rw [hw] at g2
  have hf2 : ¬ hd0 vs = 4611686018427387904 := by omega
  have e0 : imax 1 (-1) = 1 := by decide
  have gC := fun G r c3 pl (h : blkAt (H ++ G) pl = some ⟨([hd0 vs + 1] : List Int).map i64, true⟩) => f67 (xs := [hd0 vs + 1]) (ys := us) (p := pl) (off := 0) (c1 := some 1) (c2 := kq) (c3 := c3) (r := r) (o := true) (H := H ++ G) (Sl.whole h) (hu.app G)
  have gM := fun G pl c (h : blkAt (H ++ G) pl = some ⟨((hd0 vs + 1) :: us).map i64, true⟩) => f69 (cp := c) (ws := (hd0 vs + 1) :: us) (Sl.whole h) (by simp; omega)
  have m1 : ([hd0 vs + 1] : List Int).map i64 = [.int .i64 (hd0 vs + 1)] := rfl
  have ml : ((hd0 vs + 1) :: us).length = us.length + 1 := rfl
  have m2 : [hd0 vs + 1] ++ us = (hd0 vs + 1) :: us := rfl
  simp only [m1, m2, List.length_cons, List.length_nil, Nat.zero_add, Nat.reduceAdd] at gC
  simp only [ml] at gM
  generalize hcc : com ((hd0 vs + 1) :: us) = cc at *
  generalize hall : ((hd0 vs + 1) :: us).map i64 = AL at *
  have hu0 : ∀ n, AV.unds n AL := fun n => by rw [← hall]; exact i64_und _
  have hALl : AL.length = us.length + 1 := by rw [← hall]; simp
  generalize hd0 vs = w at *
  have nle : us.length + 1 ≤ 2000 := by omega
  have d1 : ¬ (us.length : Int) + 3 ≤ done := by omega
  have d2 : ¬ (1 : Int) < done := by omega
  have d3 : ¬ done = 1 := by omega
  unfold nvc at *
  unfold c39
  simp (maxSteps:=1000000) (disch:=omega) only [go_sem, ↓reduceIte, reduceCtorEq]
  first | refine callB_intro (g _) ?_ | refine callD_intro (g _) ?_ | refine callP_intro (fun _ => (g _)) ?_ | refine callX_pure (g _) ?_
  simp (maxSteps:=1000000) (disch:=omega) only [go_sem, ↓reduceIte, reduceCtorEq, e0, b1, hf2]
  first | refine callB_intro (g2 _) ?_ | refine callD_intro (g2 _) ?_ | refine callP_intro (fun _ => (g2 _)) ?_ | refine callX_pure (g2 _) ?_
  simp (maxSteps:=1000000) (disch:=omega) only [go_sem, ↓reduceIte, reduceCtorEq, e0, b1, hf2]
  refine callB_intro (gC _ _ _ (H.length + 3) (by simp only [go_sem, ↓reduceIte, reduceCtorEq]) (by simp only [go_sem, ↓reduceIte, reduceCtorEq]) (by omega) (by omega) (by omega)) ?_
  simp (maxSteps:=1000000) (disch:=omega) only [go_sem, ↓reduceIte, reduceCtorEq, Nat.add_comm 1 us.length]
  first | refine callB_intro (gS _) ?_ | refine callD_intro (gS _) ?_ | refine callP_intro (fun _ => (gS _)) ?_ | refine callX_pure (gS _) ?_
  simp (maxSteps:=1000000) (disch:=omega) only [go_sem, ↓reduceIte, reduceCtorEq, d1, d2, d3]
  exact fin_one _ 5 _ (by simp) rfl rfl (hu0 _) (by simp (disch := omega) only [resVal, resAll, resOne, rs39, Env.get, go_sem, ↓reduceIte, reduceCtorEq]; rfl) (by simp [AV.ren, AV.rens, h0.lt, h1.lt]) (by have q0 := h0.lt; have q1 := h1.lt; simp [AV.und, AV.unds]; omega)


theorem com_in (ws : List Int) : 4294967296 ≤ com ws ∧ com ws < 8589934592 := by
  have := sof_lt (b := bytes ws)
  unfold com
  omega
theorem wh_zero (ws : List Int) : wh ws 0 = false := by
  have := com_in ws
  refine decide_eq_false fun h => ?_
  omega
theorem wh_new {w : Int} {us : List Int} (h : 0 ≤ w ∧ w ≤ 4611686018427387904) : wh (w :: us) (com (w :: us)) = true :=
  decide_eq_true ⟨by simp, h.1, h.2, rfl⟩
theorem wh_hd {ws : List Int} {c : Int} (h : wh ws c = true) : 0 ≤ hd0 ws ∧ hd0 ws ≤ 4611686018427387904 := by
  have := of_decide_eq_true h
  omega
theorem nw_cases (ws : List Int) (c0 : Int) (vs : List Int) (c1 : Int) : (nw ws c0 vs c1 = -1 ∧ wh ws c0 = false ∧ wh vs c1 = false) ∨ (nw ws c0 vs c1 = 0 ∧ wh ws c0 = true ∧ (wh vs c1 = false ∨ hd0 vs ≤ hd0 ws)) ∨ (nw ws c0 vs c1 = 1 ∧ wh vs c1 = true ∧ ¬ (wh ws c0 = true ∧ hd0 vs ≤ hd0 ws)) := by
  unfold nw
  by_cases h : wh ws c0 = true ∧ (wh vs c1 = false ∨ hd0 vs ≤ hd0 ws)
  · rw [if_pos h]
    exact .inr (.inl ⟨rfl, h.1, h.2⟩)
  · rw [if_neg h]
    cases h1 : wh vs c1 with
    | true =>
      rw [if_pos rfl]
      refine .inr (.inr ⟨rfl, rfl, fun h2 => h ⟨h2.1, .inr h2.2⟩⟩)
    | false =>
      rw [if_neg (by simp)]
      refine .inl ⟨rfl, ?_, rfl⟩
      cases h0 : wh ws c0 with
      | false => rfl
      | true => exact absurd ⟨h0, .inl h1⟩ h
theorem nw_f {ws vs : List Int} {c0 c1 : Int} (h0 : wh ws c0 = false) (h1 : wh vs c1 = false) : nw ws c0 vs c1 = -1 := by
  unfold nw
  rw [if_neg (by simp [h0]), if_neg (by simp [h1])]
theorem nw_0 {ws vs : List Int} {c0 c1 : Int} (h0 : wh ws c0 = true) (h1 : wh vs c1 = false ∨ hd0 vs ≤ hd0 ws) : nw ws c0 vs c1 = 0 := by
  unfold nw
  rw [if_pos ⟨h0, h1⟩]
theorem nw_1 {ws vs : List Int} {c0 c1 : Int} (h1 : wh vs c1 = true) (h0 : wh ws c0 = false ∨ hd0 ws < hd0 vs) : nw ws c0 vs c1 = 1 := by
  unfold nw
  rw [if_neg (by
    rintro ⟨h2, h3⟩
    rcases h0 with h | h
    · rw [h2] at h; cases h
    · rcases h3 with h3 | h3
      · rw [h1] at h3; cases h3
      · omega), if_pos h1]

inductive RdK where
  | no
  | so (r : List Int) (i : Int)
def RdK.av (L : Nat) : RdK → AV
  | .no => .nils
  | .so r _ => .sl L 0 r.length 1 none
def RdK.i : RdK → Int
  | .no => 0
  | .so _ i => i
def RdK.b : RdK → Bool
  | .no => false
  | .so _ _ => true
def RdK.e : RdK → Heap
  | .no => []
  | .so r _ => [some ⟨r.map i64, false⟩]
structure Stt where
  p0 : Nat
  o0 : Nat
  k0 : Option Nat
  ws : List Int
  c0 : Int
  p1 : Nat
  o1 : Nat
  k1 : Option Nat
  vs : List Int
  c1 : Int
def Stt.av (S : Stt) : List AV := nvc S.p0 S.o0 S.ws.length S.k0 S.c0 S.p1 S.o1 S.vs.length S.k1 S.c1
structure Stt.ok (S : Stt) (H : Heap) : Prop where
  h0 : Sl i64 H S.p0 S.o0 S.ws
  h1 : Sl i64 H S.p1 S.o1 S.vs
  l0 : S.ws.length ≤ 1000
  l1 : S.vs.length ≤ 1000
theorem Stt.ok.app {S : Stt} {H : Heap} (h : S.ok H) (G : Heap) : S.ok (H ++ G) := ⟨h.h0.app G, h.h1.app G, h.l0, h.l1⟩
def Stt.nw (S : Stt) : Int := Ah.nw S.ws S.c0 S.vs S.c1
def Stt.rd (S : Stt) : RdK := if S.nw = -1 then .no else if S.nw = 0 then .so (S.ws.drop 1) (hd0 S.ws) else .so (S.vs.drop 1) (hd0 S.vs)
theorem f49_all {S : Stt} {H : Heap} (h : S.ok H) : ACall Try.prog 49 [.agg S.av] H (.tup [S.rd.av H.length, .int .i64 S.rd.i, .bool S.rd.b]) (H ++ S.rd.e) := by
  obtain ⟨h0, h1, l0, l1⟩ := h
  have e1 : (S.ws.drop 1).length = S.ws.length - 1 := List.length_drop
  have e2 : (S.vs.drop 1).length = S.vs.length - 1 := List.length_drop
  unfold Stt.rd Stt.nw Stt.av
  rcases nw_cases S.ws S.c0 S.vs S.c1 with ⟨hw, a, b⟩ | ⟨hw, a, b⟩ | ⟨hw, a, b⟩
  · rw [if_pos hw]
    have := f49_none (k0 := S.k0) (k1 := S.k1) h0 h1 (by omega) (by omega) hw
    simpa [RdK.av, RdK.i, RdK.b, RdK.e] using this
  · rw [if_neg (by omega), if_pos hw]
    have := f49_0 (k0 := S.k0) (k1 := S.k1) h0 h1 (by omega) (by omega) hw (wh_pos a)
    simp only [RdK.av, RdK.i, RdK.b, RdK.e, e1]
    exact this
  · rw [if_neg (by omega), if_neg (by omega)]
    have := f49_1 (k0 := S.k0) (k1 := S.k1) h0 h1 (by omega) (by omega) hw (wh_pos a)
    simp only [RdK.av, RdK.i, RdK.b, RdK.e, e2]
    exact this
theorem rd_no {S : Stt} (h : S.nw = -1) : S.rd = .no := by unfold Stt.rd; rw [if_pos h]
theorem rd_0 {S : Stt} (h : S.nw = 0) : S.rd = .so (S.ws.drop 1) (hd0 S.ws) := by unfold Stt.rd; rw [if_neg (by omega), if_pos h]
theorem rd_1 {S : Stt} (h : S.nw = 1) : S.rd = .so (S.vs.drop 1) (hd0 S.vs) := by unfold Stt.rd; rw [if_neg (by omega), if_neg (by omega)]
theorem av_len (S : Stt) : S.av.length = 4 := rfl
theorem av_all (S : Stt) : S.av.all AV.cell = true := rfl
theorem av_take (S : Stt) : List.take 4 S.av = S.av := rfl


abbrev Pu := (List Int × Int) × (List Int × Int)
def Stt.pu (S : Stt) : Pu := ((S.ws, S.c0), (S.vs, S.c1))
def nwP (q : Pu) : Int := nw q.1.1 q.1.2 q.2.1 q.2.2
def lastP (q : Pu) : Int := if nwP q = -1 then 0 else if nwP q = 0 then hd0 q.1.1 else hd0 q.2.1
def slotP (old : List Int × Int) (w : Int) (us : List Int) (done : Int) : List Int × Int :=
  if (us.length : Int) + 3 ≤ done then (w :: us, com (w :: us)) else if 1 < done then ((w :: us).take (done - 1).toNat, 0) else if done = 1 then (old.1, 0) else old
def errP (q : Pu) (us : List Int) : Int := if 600 < us.length ∨ lastP q = 4611686018427387904 then 5 else 0
def tornP (q : Pu) (us : List Int) (done : Int) : Pu :=
  if 600 < us.length ∨ lastP q = 4611686018427387904 then q
  else if nwP q = 0 then (q.1, slotP q.2 (lastP q + 1) us done) else (slotP q.1 (lastP q + 1) us done, q.2)
def rdP (q : Pu) : List Int := if nwP q = -1 then [] else if nwP q = 0 then q.1.1.drop 1 else q.2.1.drop 1
def onP (q : Pu) : Bool := !decide (nwP q = -1)
theorem Stt.ok.ext {S : Stt} {H H' : Heap} (h : S.ok H) (hx : Ext H H') : S.ok H' := ⟨hx.sl h.h0, hx.sl h.h1, h.l0, h.l1⟩
def Torn (S : Stt) (us : List Int) (done : Int) (v : AV) (H' : Heap) : Prop := ∃ S' : Stt, v = .tup [.agg S'.av, .int .i64 (errP S.pu us)] ∧ S'.ok H' ∧ S'.pu = tornP S.pu us done
theorem f39_t {S : Stt} {us : List Int} {q oq : Nat} {kq : Option Nat} {done : Int} {H : Heap} (h : S.ok H) (hu : Sl i64 H q oq us) (lu : us.length ≤ 1000) :
    ACallE Try.prog 39 [.agg S.av, .sl q oq us.length 1 kq, .int .i64 done] H (Torn S us done) := by
  obtain ⟨h0, h1, l0, l1⟩ := h
  have mk : ∀ (G : Heap) (S' : Stt) (e : Int), ACall Try.prog 39 [.agg S.av, .sl q oq us.length 1 kq, .int .i64 done] H (.tup [.agg S'.av, .int .i64 e]) (H ++ G) → S'.ok (H ++ G) → e = errP S.pu us → S'.pu = tornP S.pu us done →
      ACallE Try.prog 39 [.agg S.av, .sl q oq us.length 1 kq, .int .i64 done] H (Torn S us done) := fun G S' e g ok he hp => ⟨_, _, g, ⟨G, rfl⟩, S', by rw [he], ok, hp⟩
  have err : ACall Try.prog 39 [.agg S.av, .sl q oq us.length 1 kq, .int .i64 done] H (.tup [.agg S.av, .int .i64 5]) H → (600 < us.length ∨ lastP S.pu = 4611686018427387904) → ACallE Try.prog 39 [.agg S.av, .sl q oq us.length 1 kq, .int .i64 done] H (Torn S us done) := by
    intro g e
    exact mk [] S 5 (by rw [List.append_nil]; exact g) (by rw [List.append_nil]; exact ⟨h0, h1, l0, l1⟩) (by unfold errP; rw [if_pos e]) (by unfold tornP; rw [if_pos e])
  have new : ∀ w : Int, Sl i64 (H ++ [some ⟨(w :: us).map i64, true⟩]) H.length 0 (w :: us) := fun w => Sl.whole (o := true) (by simp only [go_sem, ↓reduceIte, reduceCtorEq])
  have newt : ∀ (w : Int) (d : Nat), d ≤ us.length + 1 → Sl i64 (H ++ [some ⟨(w :: us).map i64, true⟩]) H.length 0 ((w :: us).take d) ∧ ((w :: us).take d).length = d := fun w d hd => ⟨(new w).take d, by rw [List.length_take, List.length_cons]; omega⟩
  by_cases hb : us.length ≤ 600
  rotate_left
  · have hb2 : 600 < us.length := by omega
    rcases nw_cases S.ws S.c0 S.vs S.c1 with ⟨hw, a, b⟩ | ⟨hw, a, b⟩ | ⟨hw, a, b⟩
    · exact err (f39_big_n h0 h1 hu l0 l1 lu hw (by omega)) (.inl hb2)
    · exact err (f39_big_0 h0 h1 hu l0 l1 lu hw (wh_pos a) (by omega)) (.inl hb2)
    · exact err (f39_big_1 h0 h1 hu l0 l1 lu hw (wh_pos a) (by omega)) (.inl hb2)
  have hb2 : ¬ 600 < us.length := by omega
  rcases nw_cases S.ws S.c0 S.vs S.c1 with ⟨hw, a, b⟩ | ⟨hw, a, b⟩ | ⟨hw, a, b⟩
  · have en : nwP S.pu = -1 := hw
    have el : lastP S.pu = 0 := by unfold lastP; rw [if_pos en]
    have ee : 0 = errP S.pu us := by unfold errP; rw [el, if_neg (by omega)]
    have et : tornP S.pu us done = (slotP (S.ws, S.c0) 1 us done, (S.vs, S.c1)) := by unfold tornP; rw [el, en, if_neg (by omega), if_neg (by omega)]; rfl
    by_cases hd : (us.length : Int) + 3 ≤ done
    · exact mk _ ⟨H.length, 0, none, 1 :: us, com (1 :: us), S.p1, S.o1, S.k1, S.vs, S.c1⟩ 0 (f39_full_n h0 h1 hu l0 l1 lu hw hb hd) ⟨new 1, h1.app _, by simp; omega, l1⟩ ee (by rw [et]; unfold slotP; rw [if_pos hd]; rfl)
    · by_cases h2 : 1 < done
      · obtain ⟨d, hde⟩ : ∃ d : Nat, done = (d : Int) + 1 := ⟨(done - 1).toNat, by omega⟩
        have hd1 : (done - 1).toNat = d := by omega
        obtain ⟨g1, g2⟩ := newt 1 d (by omega)
        have g := f39_part_n (kq := kq) (k0 := S.k0) (k1 := S.k1) h0 h1 hu l0 l1 lu hw hb hde (by omega) (by omega)
        rw [← g2] at g
        exact mk _ ⟨H.length, 0, some ((1 :: us).take d).length, (1 :: us).take d, 0, S.p1, S.o1, S.k1, S.vs, S.c1⟩ 0 g ⟨g1, h1.app _, Nat.le_trans (Nat.le_of_eq g2) (by omega), l1⟩ ee (by rw [et]; unfold slotP; rw [if_neg hd, if_pos h2, hd1]; rfl)
      · by_cases h3 : done = 1
        · exact mk _ ⟨S.p0, S.o0, S.k0, S.ws, 0, S.p1, S.o1, S.k1, S.vs, S.c1⟩ 0 (f39_one_n h0 h1 hu l0 l1 lu hw hb h3) ⟨h0.app _, h1.app _, l0, l1⟩ ee (by rw [et]; unfold slotP; rw [if_neg hd, if_neg h2, if_pos h3]; rfl)
        · exact mk _ S 0 (f39_zero_n h0 h1 hu l0 l1 lu hw hb (by omega)) ⟨h0.app _, h1.app _, l0, l1⟩ ee (by rw [et]; unfold slotP; rw [if_neg hd, if_neg h2, if_neg h3]; rfl)
  · have hh := wh_hd a
    have hn := wh_pos a
    have en : nwP S.pu = 0 := hw
    have el : lastP S.pu = hd0 S.ws := by unfold lastP; rw [if_neg (by omega), if_pos en]; rfl
    by_cases hf : hd0 S.ws = 4611686018427387904
    · exact err (f39_far_0 h0 h1 hu l0 l1 lu hw hn hb hf) (.inr (by rw [el, hf]))
    have hf2 : 0 ≤ hd0 S.ws ∧ hd0 S.ws < 4611686018427387904 := ⟨hh.1, by omega⟩
    have ee : 0 = errP S.pu us := by unfold errP; rw [el, if_neg (by omega)]
    have et : tornP S.pu us done = ((S.ws, S.c0), slotP (S.vs, S.c1) (hd0 S.ws + 1) us done) := by unfold tornP; rw [el, en, if_neg (by omega), if_pos rfl]; rfl
    by_cases hd : (us.length : Int) + 3 ≤ done
    · exact mk _ ⟨S.p0, S.o0, S.k0, S.ws, S.c0, H.length, 0, none, (hd0 S.ws + 1) :: us, com ((hd0 S.ws + 1) :: us)⟩ 0 (f39_full_0 h0 h1 hu l0 l1 lu hw hn hb hf2 hd) ⟨h0.app _, new _, l0, by simp; omega⟩ ee (by rw [et]; unfold slotP; rw [if_pos hd]; rfl)
    · by_cases h2 : 1 < done
      · obtain ⟨d, hde⟩ : ∃ d : Nat, done = (d : Int) + 1 := ⟨(done - 1).toNat, by omega⟩
        have hd1 : (done - 1).toNat = d := by omega
        obtain ⟨g1, g2⟩ := newt (hd0 S.ws + 1) d (by omega)
        have g := f39_part_0 (kq := kq) (k0 := S.k0) (k1 := S.k1) h0 h1 hu l0 l1 lu hw hn hb hf2 hde (by omega) (by omega)
        rw [← g2] at g
        exact mk _ ⟨S.p0, S.o0, S.k0, S.ws, S.c0, H.length, 0, some (((hd0 S.ws + 1) :: us).take d).length, ((hd0 S.ws + 1) :: us).take d, 0⟩ 0 g ⟨h0.app _, g1, l0, Nat.le_trans (Nat.le_of_eq g2) (by omega)⟩ ee (by rw [et]; unfold slotP; rw [if_neg hd, if_pos h2, hd1]; rfl)
      · by_cases h3 : done = 1
        · exact mk _ ⟨S.p0, S.o0, S.k0, S.ws, S.c0, S.p1, S.o1, S.k1, S.vs, 0⟩ 0 (f39_one_0 h0 h1 hu l0 l1 lu hw hn hb hf2 h3) ⟨h0.app _, h1.app _, l0, l1⟩ ee (by rw [et]; unfold slotP; rw [if_neg hd, if_neg h2, if_pos h3]; rfl)
        · exact mk _ S 0 (f39_zero_0 h0 h1 hu l0 l1 lu hw hn hb hf2 (by omega)) ⟨h0.app _, h1.app _, l0, l1⟩ ee (by rw [et]; unfold slotP; rw [if_neg hd, if_neg h2, if_neg h3]; rfl)
  · have hh := wh_hd a
    have hn := wh_pos a
    have en : nwP S.pu = 1 := hw
    have el : lastP S.pu = hd0 S.vs := by unfold lastP; rw [if_neg (by omega), if_neg (by omega)]; rfl
    by_cases hf : hd0 S.vs = 4611686018427387904
    · exact err (f39_far_1 h0 h1 hu l0 l1 lu hw hn hb hf) (.inr (by rw [el, hf]))
    have hf2 : 0 ≤ hd0 S.vs ∧ hd0 S.vs < 4611686018427387904 := ⟨hh.1, by omega⟩
    have ee : 0 = errP S.pu us := by unfold errP; rw [el, if_neg (by omega)]
    have et : tornP S.pu us done = (slotP (S.ws, S.c0) (hd0 S.vs + 1) us done, (S.vs, S.c1)) := by unfold tornP; rw [el, en, if_neg (by omega), if_neg (by omega)]; rfl
    by_cases hd : (us.length : Int) + 3 ≤ done
    · exact mk _ ⟨H.length, 0, none, (hd0 S.vs + 1) :: us, com ((hd0 S.vs + 1) :: us), S.p1, S.o1, S.k1, S.vs, S.c1⟩ 0 (f39_full_1 h0 h1 hu l0 l1 lu hw hn hb hf2 hd) ⟨new _, h1.app _, by simp; omega, l1⟩ ee (by rw [et]; unfold slotP; rw [if_pos hd]; rfl)
    · by_cases h2 : 1 < done
      · obtain ⟨d, hde⟩ : ∃ d : Nat, done = (d : Int) + 1 := ⟨(done - 1).toNat, by omega⟩
        have hd1 : (done - 1).toNat = d := by omega
        obtain ⟨g1, g2⟩ := newt (hd0 S.vs + 1) d (by omega)
        have g := f39_part_1 (kq := kq) (k0 := S.k0) (k1 := S.k1) h0 h1 hu l0 l1 lu hw hn hb hf2 hde (by omega) (by omega)
        rw [← g2] at g
        exact mk _ ⟨H.length, 0, some (((hd0 S.vs + 1) :: us).take d).length, ((hd0 S.vs + 1) :: us).take d, 0, S.p1, S.o1, S.k1, S.vs, S.c1⟩ 0 g ⟨g1, h1.app _, Nat.le_trans (Nat.le_of_eq g2) (by omega), l1⟩ ee (by rw [et]; unfold slotP; rw [if_neg hd, if_pos h2, hd1]; rfl)
      · by_cases h3 : done = 1
        · exact mk _ ⟨S.p0, S.o0, S.k0, S.ws, 0, S.p1, S.o1, S.k1, S.vs, S.c1⟩ 0 (f39_one_1 h0 h1 hu l0 l1 lu hw hn hb hf2 h3) ⟨h0.app _, h1.app _, l0, l1⟩ ee (by rw [et]; unfold slotP; rw [if_neg hd, if_neg h2, if_pos h3]; rfl)
        · exact mk _ S 0 (f39_zero_1 h0 h1 hu l0 l1 lu hw hn hb hf2 (by omega)) ⟨h0.app _, h1.app _, l0, l1⟩ ee (by rw [et]; unfold slotP; rw [if_neg hd, if_neg h2, if_neg h3]; rfl)
theorem Sl.app_set {α : Type} {f : α → AV} {H : Heap} {p off : Nat} {zs : List α} (hs : Sl f H p off zs) {G : Heap} {b : Nat} (hb : H.length ≤ b) (x : Option Blk) : Sl f ((H ++ G).set b x) p off zs :=
  (hs.app G).set (by have := hs.lt; omega) x
theorem Stt.ok.app_set {S : Stt} {H : Heap} (h : S.ok H) {G : Heap} {b : Nat} (hb : H.length ≤ b) (x : Option Blk) : S.ok ((H ++ G).set b x) := ⟨h.h0.app_set hb x, h.h1.app_set hb x, h.l0, h.l1⟩
theorem Stt.ok.unset {S : Stt} {H : Heap} {b : Nat} (h : S.ok (H.set b none)) (x : Option Blk) : S.ok (H.set b x) := ⟨h.h0.unset x, h.h1.unset x, h.l0, h.l1⟩
theorem f45_t {S : Stt} {us : List Int} {q oq : Nat} {kq : Option Nat} {H : Heap} (h : S.ok H) (hu : Sl i64 H q oq us) (lu : us.length ≤ 1000) :
    ACallE Try.prog 45 [.agg S.av, .sl q oq us.length 1 kq] H (Torn S us ((us.length : Int) + 3)) := by
  refine acallE (fun v Hf h => acallK45 (by simp) h) (acs_start ?_)
  have g1 := fun H => @f68 us.length q oq kq H (by omega)
  have g2 := fun G => f39_t (kq := kq) (done := (us.length : Int) + 3) (h.app_set (G := G) (b := H.length + 1) (by omega) none) (hu.app_set (G := G) (b := H.length + 1) (by omega) none) lu
  have av1 := av_len S
  have av2 := av_all S
  have av3 := av_take S
  generalize S.av = X at *
  unfold c45
  simp (maxSteps:=1000000) (disch:=omega) only [go_sem, ↓reduceIte, reduceCtorEq, av1, av2, av3]
  first | refine callB_intro (g1 _) ?_ | refine callD_intro (g1 _) ?_ | refine callP_intro (fun _ => (g1 _)) ?_ | refine callX_pure (g1 _) ?_
  simp (maxSteps:=1000000) (disch:=omega) only [go_sem, ↓reduceIte, reduceCtorEq, av1, av2, av3]
  first | refine callBE (ACallE.frame (b := H.length + 1) (x := ⟨[.nils, .int .i64 0, .nils, .int .i64 0], true⟩) (by simp only [go_sem, ↓reduceIte, reduceCtorEq]) rfl (g2 _)) ?_ | refine callDE (ACallE.frame (b := H.length + 1) (x := ⟨[.nils, .int .i64 0, .nils, .int .i64 0], true⟩) (by simp only [go_sem, ↓reduceIte, reduceCtorEq]) rfl (g2 _)) ?_ | refine callXE (ACallE.frame (b := H.length + 1) (x := ⟨[.nils, .int .i64 0, .nils, .int .i64 0], true⟩) (by simp only [go_sem, ↓reduceIte, reduceCtorEq]) rfl (g2 _)) ?_
  rintro v H1 hx ⟨b, S', rfl, ok, hp⟩
  have bl := blkAt_lt b
  have w1 := av_len S'
  have w2 := av_all S'
  have w3 := av_take S'
  have ok2 := fun y => ok.unset (some ⟨y, true⟩)
  simp (maxSteps:=1000000) (disch:=omega) only [go_sem, ↓reduceIte, reduceCtorEq, b, w1, w2, w3, blkAt_set_self, set_lo]
  refine fin_e (by simp) (by simp (maxSteps:=1000000) (disch:=omega) only [resVal, resAll, resOne, rs45, Env.get, go_sem, ↓reduceIte, reduceCtorEq, blkAt_set_self, bl, List.length_set, w1, w3] <;> rfl) (((Ext.app _ _).trans hx).set (by omega) _) ⟨S', rfl, ok2 _, hp⟩

def Rdn (S : Stt) (v : AV) (H' : Heap) : Prop := ∃ w, v = .tup [w, .int .i64 (lastP S.pu), .bool (onP S.pu)] ∧ Rw i64 H' w (rdP S.pu)
theorem f49_t {S : Stt} {H : Heap} (h : S.ok H) : ACallE Try.prog 49 [.agg S.av] H (Rdn S) := by
  have g := f49_all h
  rcases nw_cases S.ws S.c0 S.vs S.c1 with ⟨hw, a, b⟩ | ⟨hw, a, b⟩ | ⟨hw, a, b⟩
  · have en : nwP S.pu = -1 := hw
    rw [rd_no (S := S) hw] at g
    refine callE_nlr 1 ⟨_, _, g, ⟨_, rfl⟩, _, ?_, by unfold rdP; rw [if_pos en]; exact Rw.empty _⟩
    simp only [AV.nl, AV.nls, RdK.av, RdK.i, RdK.b, RdK.e, lastP, onP, en, ↓reduceIte, decide_true, Bool.not_true]
  · have en : nwP S.pu = 0 := hw
    rw [rd_0 (S := S) hw] at g
    refine ⟨_, _, g, ⟨_, rfl⟩, RdK.av H.length (.so (S.ws.drop 1) (hd0 S.ws)), ?_, ?_⟩
    · simp only [RdK.i, RdK.b, lastP, onP, en, Int.reduceNeg, ↓reduceIte, Int.reduceEq, decide_false, Bool.not_false]
      rfl
    · unfold rdP
      rw [if_neg (by omega), if_pos en]
      exact ⟨_, _, _, rfl, Sl.whole (o := false) (by simp only [RdK.e, go_sem, ↓reduceIte, reduceCtorEq]; rfl)⟩
  · have en : nwP S.pu = 1 := hw
    rw [rd_1 (S := S) hw] at g
    refine ⟨_, _, g, ⟨_, rfl⟩, RdK.av H.length (.so (S.vs.drop 1) (hd0 S.vs)), ?_, ?_⟩
    · simp only [RdK.i, RdK.b, lastP, onP, en, Int.reduceNeg, ↓reduceIte, Int.reduceEq, decide_false, Bool.not_false]
      rfl
    · unfold rdP
      rw [if_neg (by omega), if_neg (by omega)]
      exact ⟨_, _, _, rfl, Sl.whole (o := false) (by simp only [RdK.e, go_sem, ↓reduceIte, reduceCtorEq]; rfl)⟩


theorem drop_cons {α : Type} {xs : List α} {j : Nat} {x : α} {r : List α} (h : xs.drop j = x :: r) : xs[j]? = some x ∧ xs.drop (j + 1) = r ∧ j < xs.length := by
  have h1 : xs[j]? = some x := by have := congrArg (·[0]?) h; simpa using this
  exact ⟨h1, by rw [← List.drop_drop, h]; rfl, (List.getElem?_eq_some_iff.1 h1).1⟩
theorem f52 {xs ys : List Int} {p q off off2 : Nat} {c1 c2 : Option Nat} {H : Heap} (hx : Sl i64 H p off xs) (hy : Sl i64 H q off2 ys) (hl : xs.length ≤ 4611686018427387904) :
    ACall Try.prog 52 [.sl p off xs.length 1 c1, .sl q off2 ys.length 1 c2] H (.bool (decide (xs = ys))) H := by
  refine acall52 (by simp) (acs_start ?_)
  unfold c52
  by_cases he : xs.length = ys.length
  rotate_left
  · have hne : ¬ (xs.length : Int) = (ys.length : Int) := by omega
    have e0 : decide (xs = ys) = false := decide_eq_false (fun e => he (by rw [e]))
    rw [e0]
    simp (maxSteps:=1000000) (disch:=omega) only [go_sem, ↓reduceIte, reduceCtorEq, hne]
    exact fin_same (by simp) _ (by first | exact (List.append_nil _).symm | rfl) (by simp (maxSteps:=1000000) (disch:=omega) only [resVal, resAll, resOne, rs52, Env.get, go_sem, ↓reduceIte, reduceCtorEq]) (by simp only [AV.und, AV.unds, and_self])
  obtain ⟨cs, o, hp, hle, hcs⟩ := hx
  obtain ⟨ds, o2, hq, hle2, hds⟩ := hy
  rw [← he]
  simp (maxSteps:=1000000) (disch:=omega) only [go_sem, ↓reduceIte, reduceCtorEq]
  refine loop_list (fun r T H' => ∃ (j : Nat) (s : List Int), T = [(0, .sl p off xs.length 1 c1), (1, .sl q off2 xs.length 1 c2), (12, .int .i64 (xs.length : Nat)), (13, .int .i64 (j : Nat))] ∧ H' = H ∧ xs.drop j = r ∧ ys.drop j = s ∧ j + r.length = xs.length ∧ r.length = s.length ∧ decide (xs = ys) = decide (r = s)) ?_ ?_ xs _ _ ⟨0, ys, rfl, rfl, rfl, rfl, by simp, he, rfl⟩
  · rintro x r T H' ⟨j, s, rfl, rfl, hr, hs, hj, hrs, hd⟩ next
    obtain ⟨g1, g2, g3⟩ := drop_cons hr
    cases s with
    | nil => simp at hrs
    | cons y s =>
      obtain ⟨k1, k2, k3⟩ := drop_cons hs
      have fx := sl_get hcs g1
      have fy := sl_get hds k1
      simp only [i64] at fx fy
      have hlt : (j : Int) < (xs.length : Int) := by omega
      have hj2 : j ≤ 4611686018427387904 := by omega
      by_cases hxy : x = y
      · subst hxy
        rw [acs_lp]; conv in Fr.code c52l0 => unfold c52l0
        simp (maxSteps:=1000000) (disch:=omega) only [go_sem, ↓reduceIte, reduceCtorEq, hlt, hp, hq, fx, fy]
        exact next _ _ ⟨j + 1, s, rfl, rfl, g2, k2, by simp at hj; omega, by simpa using hrs, by rw [hd]; simp⟩
      · have e0 : decide (x :: r = y :: s) = false := by simp [hxy]
        rw [hd, e0]
        clear next
        rw [acs_lp]; conv in Fr.code c52l0 => unfold c52l0
        simp (maxSteps:=1000000) (disch:=omega) only [go_sem, ↓reduceIte, reduceCtorEq, hlt, hp, hq, fx, fy, hxy]
        exact fin_same (by simp) _ (by first | exact (List.append_nil _).symm | rfl) (by simp (maxSteps:=1000000) (disch:=omega) only [resVal, resAll, resOne, rs52, Env.get, go_sem, ↓reduceIte, reduceCtorEq]) (by simp only [AV.und, AV.unds, and_self])
  · rintro T H' ⟨j, s, rfl, rfl, hr, hs, hj, hrs, hd⟩
    rw [hd]
    obtain rfl : s = [] := List.eq_nil_of_length_eq_zero hrs.symm
    have hlt : ¬ (j : Int) < (xs.length : Int) := by simp at hj; omega
    rw [acs_lp]; conv in Fr.code c52l0 => unfold c52l0
    simp (maxSteps:=1000000) (disch:=omega) only [go_sem, ↓reduceIte, reduceCtorEq, hlt]
    exact fin_same (by simp) _ (by first | exact (List.append_nil _).symm | rfl) (by simp (maxSteps:=1000000) (disch:=omega) only [resVal, resAll, resOne, rs52, Env.get, go_sem, ↓reduceIte, reduceCtorEq]) (by simp only [AV.und, AV.unds, and_self])

def odd1 (x : Int) : Bool := decide (x < 1 ∨ 1000000000 < x)
def odd2 (x : Int) : Bool := decide (x < 0 ∨ 4611686018427387904 < x)
theorem f72 (x : Int) (H : Heap) : ACall Try.prog 72 [.int .i64 x] H (.bool (odd1 x)) H := by
  refine acall72 (by simp) (acs_start ?_)
  unfold c72
  simp (maxSteps:=1000000) (disch:=omega) only [go_sem, ↓reduceIte, reduceCtorEq]
  repeat' (first | intro _ | (with_reducible refine And.intro ?_ ?_))
  all_goals exact fin_b _ (by first | exact (List.append_nil _).symm | rfl) (by simp) (by simp (maxSteps:=1000000) (disch:=omega) only [resVal, resAll, resOne, rs72, Env.get, go_sem, ↓reduceIte, reduceCtorEq] <;> rfl) (by unfold odd1; rw [Bool.eq_iff_iff]; (try simp only [decide_eq_true_eq, Bool.and_eq_true, Bool.or_eq_true, Bool.not_eq_true', decide_eq_false_iff_not, Bool.true_eq_false, Bool.false_eq_true, true_iff, iff_true, false_iff, iff_false, not_false_eq_true, not_true_eq_false]); first | done | omega | (simp; done) | (rw [Bool.eq_iff_iff]; (try simp only [decide_eq_true_eq, Bool.and_eq_true, Bool.or_eq_true, Bool.not_eq_true', decide_eq_false_iff_not, Bool.true_eq_false, Bool.false_eq_true, true_iff, iff_true, false_iff, iff_false, not_false_eq_true, not_true_eq_false]); omega) | (simp; omega))
theorem f75 (x : Int) (H : Heap) : ACall Try.prog 75 [.int .i64 x] H (.bool (odd2 x)) H := by
  refine acall75 (by simp) (acs_start ?_)
  unfold c75
  simp (maxSteps:=1000000) (disch:=omega) only [go_sem, ↓reduceIte, reduceCtorEq]
  repeat' (first | intro _ | (with_reducible refine And.intro ?_ ?_))
  all_goals exact fin_b _ (by first | exact (List.append_nil _).symm | rfl) (by simp) (by simp (maxSteps:=1000000) (disch:=omega) only [resVal, resAll, resOne, rs75, Env.get, go_sem, ↓reduceIte, reduceCtorEq] <;> rfl) (by unfold odd2; rw [Bool.eq_iff_iff]; (try simp only [decide_eq_true_eq, Bool.and_eq_true, Bool.or_eq_true, Bool.not_eq_true', decide_eq_false_iff_not, Bool.true_eq_false, Bool.false_eq_true, true_iff, iff_true, false_iff, iff_false, not_false_eq_true, not_true_eq_false]); first | done | omega | (simp; done) | (rw [Bool.eq_iff_iff]; (try simp only [decide_eq_true_eq, Bool.and_eq_true, Bool.or_eq_true, Bool.not_eq_true', decide_eq_false_iff_not, Bool.true_eq_false, Bool.false_eq_true, true_iff, iff_true, false_iff, iff_false, not_false_eq_true, not_true_eq_false]); omega) | (simp; omega))
theorem f43 (x : Int) (H : Heap) : ACall Try.prog 43 [.int .i64 x] H (.bool (!odd1 x)) H := by
  refine acall43 (by simp) (acs_start ?_)
  unfold c43
  simp (maxSteps:=1000000) (disch:=omega) only [go_sem, ↓reduceIte, reduceCtorEq]
  repeat' (first | intro _ | (with_reducible refine And.intro ?_ ?_))
  all_goals exact fin_b _ (by first | exact (List.append_nil _).symm | rfl) (by simp) (by simp (maxSteps:=1000000) (disch:=omega) only [resVal, resAll, resOne, rs43, Env.get, go_sem, ↓reduceIte, reduceCtorEq] <;> rfl) (by unfold odd1; rw [Bool.eq_iff_iff]; (try simp only [decide_eq_true_eq, Bool.and_eq_true, Bool.or_eq_true, Bool.not_eq_true', decide_eq_false_iff_not, Bool.true_eq_false, Bool.false_eq_true, true_iff, iff_true, false_iff, iff_false, not_false_eq_true, not_true_eq_false]); first | done | omega | (simp; done) | (rw [Bool.eq_iff_iff]; (try simp only [decide_eq_true_eq, Bool.and_eq_true, Bool.or_eq_true, Bool.not_eq_true', decide_eq_false_iff_not, Bool.true_eq_false, Bool.false_eq_true, true_iff, iff_true, false_iff, iff_false, not_false_eq_true, not_true_eq_false]); omega) | (simp; omega))
theorem f93_3 (F : FuncId) (hF : hasBody Try.prog F = true) (p : Int → Bool) (g : ∀ x H, ACall Try.prog F [.int .i64 x] H (.bool (p x)) H) (x y z : Int) (b : Nat) (o : Bool) (c : Option Nat) (H : Heap) (hb : blkAt H b = some ⟨[.int .i64 x, .int .i64 y, .int .i64 z], o⟩) :
    ACall Try.prog 93 [.sl b 0 3 1 c, .fn (.func F) [] []] H (.int .i64 (if p x then 0 else if p y then 1 else if p z then 2 else -1)) H := by
  refine acall93 (by simp) (acs_start ?_)
  unfold c93
  simp (maxSteps:=1000000) (disch:=omega) only [go_sem, ↓reduceIte, reduceCtorEq, hb]
  rw [acs_lp]; conv in Fr.code c93l0 => unfold c93l0
  simp (maxSteps:=1000000) (disch:=omega) only [go_sem, ↓reduceIte, reduceCtorEq, hb, hF]
  refine callB_intro (g _ _) ?_
  cases hx : p x
  rotate_left
  · simp (maxSteps:=1000000) (disch:=omega) only [go_sem, ↓reduceIte, reduceCtorEq]
    exact fin_ret [] (by simp) rfl trivial
  simp (maxSteps:=1000000) (disch:=omega) only [go_sem, ↓reduceIte, reduceCtorEq, hb]
  rw [acs_lp]; conv in Fr.code c93l0 => unfold c93l0
  simp (maxSteps:=1000000) (disch:=omega) only [go_sem, ↓reduceIte, reduceCtorEq, hb, hF]
  refine callB_intro (g _ _) ?_
  cases hy : p y
  rotate_left
  · simp (maxSteps:=1000000) (disch:=omega) only [go_sem, ↓reduceIte, reduceCtorEq]
    exact fin_ret [] (by simp) rfl trivial
  simp (maxSteps:=1000000) (disch:=omega) only [go_sem, ↓reduceIte, reduceCtorEq, hb]
  rw [acs_lp]; conv in Fr.code c93l0 => unfold c93l0
  simp (maxSteps:=1000000) (disch:=omega) only [go_sem, ↓reduceIte, reduceCtorEq, hb, hF]
  refine callB_intro (g _ _) ?_
  cases hz : p z
  rotate_left
  · simp (maxSteps:=1000000) (disch:=omega) only [go_sem, ↓reduceIte, reduceCtorEq]
    exact fin_ret [] (by simp) rfl trivial
  simp (maxSteps:=1000000) (disch:=omega) only [go_sem, ↓reduceIte, reduceCtorEq, hb]
  rw [acs_lp]; conv in Fr.code c93l0 => unfold c93l0
  simp (maxSteps:=1000000) (disch:=omega) only [go_sem, ↓reduceIte, reduceCtorEq, hb]
  exact fin_ret [] (by simp) rfl trivial
theorem f93_4 (F : FuncId) (hF : hasBody Try.prog F = true) (p : Int → Bool) (g : ∀ x H, ACall Try.prog F [.int .i64 x] H (.bool (p x)) H) (x y z u : Int) (b : Nat) (o : Bool) (c : Option Nat) (H : Heap) (hb : blkAt H b = some ⟨[.int .i64 x, .int .i64 y, .int .i64 z, .int .i64 u], o⟩) :
    ACall Try.prog 93 [.sl b 0 4 1 c, .fn (.func F) [] []] H (.int .i64 (if p x then 0 else if p y then 1 else if p z then 2 else if p u then 3 else -1)) H := by
  refine acall93 (by simp) (acs_start ?_)
  unfold c93
  simp (maxSteps:=1000000) (disch:=omega) only [go_sem, ↓reduceIte, reduceCtorEq, hb]
  rw [acs_lp]; conv in Fr.code c93l0 => unfold c93l0
  simp (maxSteps:=1000000) (disch:=omega) only [go_sem, ↓reduceIte, reduceCtorEq, hb, hF]
  refine callB_intro (g _ _) ?_
  cases hx : p x
  rotate_left
  · simp (maxSteps:=1000000) (disch:=omega) only [go_sem, ↓reduceIte, reduceCtorEq]
    exact fin_ret [] (by simp) rfl trivial
  simp (maxSteps:=1000000) (disch:=omega) only [go_sem, ↓reduceIte, reduceCtorEq, hb]
  rw [acs_lp]; conv in Fr.code c93l0 => unfold c93l0
  simp (maxSteps:=1000000) (disch:=omega) only [go_sem, ↓reduceIte, reduceCtorEq, hb, hF]
  refine callB_intro (g _ _) ?_
  cases hy : p y
  rotate_left
  · simp (maxSteps:=1000000) (disch:=omega) only [go_sem, ↓reduceIte, reduceCtorEq]
    exact fin_ret [] (by simp) rfl trivial
  simp (maxSteps:=1000000) (disch:=omega) only [go_sem, ↓reduceIte, reduceCtorEq, hb]
  rw [acs_lp]; conv in Fr.code c93l0 => unfold c93l0
  simp (maxSteps:=1000000) (disch:=omega) only [go_sem, ↓reduceIte, reduceCtorEq, hb, hF]
  refine callB_intro (g _ _) ?_
  cases hz : p z
  rotate_left
  · simp (maxSteps:=1000000) (disch:=omega) only [go_sem, ↓reduceIte, reduceCtorEq]
    exact fin_ret [] (by simp) rfl trivial
  simp (maxSteps:=1000000) (disch:=omega) only [go_sem, ↓reduceIte, reduceCtorEq, hb]
  rw [acs_lp]; conv in Fr.code c93l0 => unfold c93l0
  simp (maxSteps:=1000000) (disch:=omega) only [go_sem, ↓reduceIte, reduceCtorEq, hb, hF]
  refine callB_intro (g _ _) ?_
  cases hu : p u
  rotate_left
  · simp (maxSteps:=1000000) (disch:=omega) only [go_sem, ↓reduceIte, reduceCtorEq]
    exact fin_ret [] (by simp) rfl trivial
  simp (maxSteps:=1000000) (disch:=omega) only [go_sem, ↓reduceIte, reduceCtorEq, hb]
  rw [acs_lp]; conv in Fr.code c93l0 => unfold c93l0
  simp (maxSteps:=1000000) (disch:=omega) only [go_sem, ↓reduceIte, reduceCtorEq, hb]
  exact fin_ret [] (by simp) rfl trivial
theorem hb72 : hasBody Try.prog 72 = true := by kernel_rfl
theorem hb75 : hasBody Try.prog 75 = true := by kernel_rfl
theorem f73_3 (x y z : Int) (b : Nat) (o : Bool) (c : Option Nat) (H : Heap) (hb : blkAt H b = some ⟨[.int .i64 x, .int .i64 y, .int .i64 z], o⟩) :
    ACall Try.prog 73 [.sl b 0 3 1 c, .fn (.func 75) [] []] H (.bool (odd2 x || odd2 y || odd2 z)) H := by
  refine acall73 (by simp) (acs_start ?_)
  unfold c73
  have g := f93_3 75 hb75 odd2 f75 x y z b o c H hb
  simp (maxSteps:=1000000) (disch:=omega) only [go_sem, ↓reduceIte, reduceCtorEq, hb]
  refine callB_intro g ?_
  simp (maxSteps:=1000000) (disch:=omega) only [go_sem, ↓reduceIte, reduceCtorEq]
  cases odd2 x <;> cases odd2 y <;> cases odd2 z <;> exact fin_b _ (by first | exact (List.append_nil _).symm | rfl) (by simp) (by simp (maxSteps:=1000000) (disch:=omega) only [resVal, resAll, resOne, rs73, Env.get, go_sem, ↓reduceIte, reduceCtorEq] <;> rfl) (by rw [Bool.eq_iff_iff]; (try simp only [decide_eq_true_eq, Bool.and_eq_true, Bool.or_eq_true, Bool.not_eq_true', decide_eq_false_iff_not, Bool.true_eq_false, Bool.false_eq_true, true_iff, iff_true, false_iff, iff_false, not_false_eq_true, not_true_eq_false]); first | done | omega | (simp; done) | (rw [Bool.eq_iff_iff]; (try simp only [decide_eq_true_eq, Bool.and_eq_true, Bool.or_eq_true, Bool.not_eq_true', decide_eq_false_iff_not, Bool.true_eq_false, Bool.false_eq_true, true_iff, iff_true, false_iff, iff_false, not_false_eq_true, not_true_eq_false]); omega) | (simp; omega))
theorem f73_4 (x y z u : Int) (b : Nat) (o : Bool) (c : Option Nat) (H : Heap) (hb : blkAt H b = some ⟨[.int .i64 x, .int .i64 y, .int .i64 z, .int .i64 u], o⟩) :
    ACall Try.prog 73 [.sl b 0 4 1 c, .fn (.func 72) [] []] H (.bool (odd1 x || odd1 y || odd1 z || odd1 u)) H := by
  refine acall73 (by simp) (acs_start ?_)
  unfold c73
  have g := f93_4 72 hb72 odd1 f72 x y z u b o c H hb
  simp (maxSteps:=1000000) (disch:=omega) only [go_sem, ↓reduceIte, reduceCtorEq, hb]
  refine callB_intro g ?_
  simp (maxSteps:=1000000) (disch:=omega) only [go_sem, ↓reduceIte, reduceCtorEq]
  cases odd1 x <;> cases odd1 y <;> cases odd1 z <;> cases odd1 u <;> exact fin_b _ (by first | exact (List.append_nil _).symm | rfl) (by simp) (by simp (maxSteps:=1000000) (disch:=omega) only [resVal, resAll, resOne, rs73, Env.get, go_sem, ↓reduceIte, reduceCtorEq] <;> rfl) (by rw [Bool.eq_iff_iff]; (try simp only [decide_eq_true_eq, Bool.and_eq_true, Bool.or_eq_true, Bool.not_eq_true', decide_eq_false_iff_not, Bool.true_eq_false, Bool.false_eq_true, true_iff, iff_true, false_iff, iff_false, not_false_eq_true, not_true_eq_false]); first | done | omega | (simp; done) | (rw [Bool.eq_iff_iff]; (try simp only [decide_eq_true_eq, Bool.and_eq_true, Bool.or_eq_true, Bool.not_eq_true', decide_eq_false_iff_not, Bool.true_eq_false, Bool.false_eq_true, true_iff, iff_true, false_iff, iff_false, not_false_eq_true, not_true_eq_false]); omega) | (simp; omega))

def tms (a b c d e : Int) : AV := .agg [.int .i64 a, .int .i64 b, .int .i64 c, .int .i64 d, .int .i64 e]
def mayT (a b c d e : Int) : Bool := decide (1 ≤ a ∧ a ≤ 1000000000 ∧ 1 ≤ b ∧ b ≤ 1000000000 ∧ 1 ≤ c ∧ c ≤ 1000000000 ∧ 1 ≤ d ∧ d ≤ 1000000000 ∧ a ≤ b ∧ 1 ≤ e ∧ e ≤ 70368744177663)
def rightL (n u q : Int) : Bool := decide (0 ≤ n ∧ n ≤ 4611686018427387904 ∧ 0 ≤ u ∧ u ≤ 4611686018427387904 ∧ 0 ≤ q ∧ q ≤ 4611686018427387904)
theorem f44 (a b c d e : Int) (H : Heap) : ACall Try.prog 44 [tms a b c d e] H (.bool (mayT a b c d e)) H := by
  refine acall44 (by simp) (acs_start ?_)
  unfold c44 tms
  have g := fun p o c' H hb => f73_4 a b c d p o c' H hb
  have ho : (odd1 a || odd1 b || odd1 c || odd1 d) = decide (¬ (1 ≤ a ∧ a ≤ 1000000000 ∧ 1 ≤ b ∧ b ≤ 1000000000 ∧ 1 ≤ c ∧ c ≤ 1000000000 ∧ 1 ≤ d ∧ d ≤ 1000000000)) := by
    unfold odd1
    rw [Bool.eq_iff_iff]
    simp only [Bool.or_eq_true, decide_eq_true_eq]
    omega
  rw [ho] at g
  clear ho
  simp (maxSteps:=1000000) (disch:=omega) only [go_sem, ↓reduceIte, reduceCtorEq]
  refine callB_intro (g _ _ _ _ (by simp only [go_sem, ↓reduceIte, reduceCtorEq]; rfl)) ?_
  simp (maxSteps:=1000000) (disch:=omega) only [go_sem, ↓reduceIte, reduceCtorEq]
  repeat' (first | intro _ | (with_reducible refine And.intro ?_ ?_))
  all_goals exact fin_b _ (by first | exact (List.append_nil _).symm | rfl) (by simp) (by simp (maxSteps:=1000000) (disch:=omega) only [resVal, resAll, resOne, rs44, Env.get, go_sem, ↓reduceIte, reduceCtorEq] <;> rfl) (by unfold mayT; rw [Bool.eq_iff_iff]; (try simp only [decide_eq_true_eq, Bool.and_eq_true, Bool.or_eq_true, Bool.not_eq_true', decide_eq_false_iff_not, Bool.true_eq_false, Bool.false_eq_true, true_iff, iff_true, false_iff, iff_false, not_false_eq_true, not_true_eq_false]); first | done | omega | (simp; done) | (rw [Bool.eq_iff_iff]; (try simp only [decide_eq_true_eq, Bool.and_eq_true, Bool.or_eq_true, Bool.not_eq_true', decide_eq_false_iff_not, Bool.true_eq_false, Bool.false_eq_true, true_iff, iff_true, false_iff, iff_false, not_false_eq_true, not_true_eq_false]); omega) | (simp; omega))
theorem f18 (a b c d e : Int) (H : Heap) : ACall Try.prog 18 [tms a b c d e] H (.bool (mayT a b c d e)) H := by
  refine acall18 (by simp) (acs_start ?_)
  unfold c18 tms
  have g := f43
  unfold odd1 at g
  simp (maxSteps:=1000000) (disch:=omega) only [go_sem, ↓reduceIte, reduceCtorEq]
  repeat' (first | intro _ | (with_reducible refine And.intro ?_ ?_))
  all_goals try (refine callB_intro (g _ _) ?_; simp (maxSteps:=1000000) (disch:=omega) only [go_sem, ↓reduceIte, reduceCtorEq]; repeat' (first | intro _ | (with_reducible refine And.intro ?_ ?_)))
  all_goals try (refine callB_intro (g _ _) ?_; simp (maxSteps:=1000000) (disch:=omega) only [go_sem, ↓reduceIte, reduceCtorEq]; repeat' (first | intro _ | (with_reducible refine And.intro ?_ ?_)))
  all_goals try (refine callB_intro (g _ _) ?_; simp (maxSteps:=1000000) (disch:=omega) only [go_sem, ↓reduceIte, reduceCtorEq]; repeat' (first | intro _ | (with_reducible refine And.intro ?_ ?_)))
  all_goals try (refine callB_intro (g _ _) ?_; simp (maxSteps:=1000000) (disch:=omega) only [go_sem, ↓reduceIte, reduceCtorEq]; repeat' (first | intro _ | (with_reducible refine And.intro ?_ ?_)))
  all_goals exact fin_b _ (by first | exact (List.append_nil _).symm | rfl) (by simp) (by simp (maxSteps:=1000000) (disch:=omega) only [resVal, resAll, resOne, rs18, Env.get, go_sem, ↓reduceIte, reduceCtorEq] <;> rfl) (by unfold mayT; rw [Bool.eq_iff_iff]; (try simp only [decide_eq_true_eq, Bool.and_eq_true, Bool.or_eq_true, Bool.not_eq_true', decide_eq_false_iff_not, Bool.true_eq_false, Bool.false_eq_true, true_iff, iff_true, false_iff, iff_false, not_false_eq_true, not_true_eq_false]); first | done | omega | (simp; done) | (rw [Bool.eq_iff_iff]; (try simp only [decide_eq_true_eq, Bool.and_eq_true, Bool.or_eq_true, Bool.not_eq_true', decide_eq_false_iff_not, Bool.true_eq_false, Bool.false_eq_true, true_iff, iff_true, false_iff, iff_false, not_false_eq_true, not_true_eq_false]); omega) | (simp; omega))
theorem f53 (n u q : Int) (H : Heap) : ACall Try.prog 53 [vec n u q] H (.bool (rightL n u q)) H := by
  refine acall53 (by simp) (acs_start ?_)
  unfold c53 vec
  have g := fun p o c' H hb => f73_3 n u q p o c' H hb
  have ho : (odd2 n || odd2 u || odd2 q) = !rightL n u q := by
    unfold odd2 rightL
    rw [Bool.eq_iff_iff]
    simp only [Bool.or_eq_true, decide_eq_true_eq, Bool.not_eq_true', decide_eq_false_iff_not]
    omega
  rw [ho] at g
  clear ho
  simp (maxSteps:=1000000) (disch:=omega) only [go_sem, ↓reduceIte, reduceCtorEq]
  refine callB_intro (g _ _ _ _ (by simp only [go_sem, ↓reduceIte, reduceCtorEq]; rfl)) ?_
  simp (maxSteps:=1000000) (disch:=omega) only [go_sem, ↓reduceIte, reduceCtorEq, Bool.not_not]
  exact fin_b _ (by first | exact (List.append_nil _).symm | rfl) (by simp) (by simp (maxSteps:=1000000) (disch:=omega) only [resVal, resAll, resOne, rs53, Env.get, go_sem, ↓reduceIte, reduceCtorEq] <;> rfl) (by rw [Bool.eq_iff_iff]; (try simp only [decide_eq_true_eq, Bool.and_eq_true, Bool.or_eq_true, Bool.not_eq_true', decide_eq_false_iff_not, Bool.true_eq_false, Bool.false_eq_true, true_iff, iff_true, false_iff, iff_false, not_false_eq_true, not_true_eq_false]); first | done | omega | (simp; done) | (rw [Bool.eq_iff_iff]; (try simp only [decide_eq_true_eq, Bool.and_eq_true, Bool.or_eq_true, Bool.not_eq_true', decide_eq_false_iff_not, Bool.true_eq_false, Bool.false_eq_true, true_iff, iff_true, false_iff, iff_false, not_false_eq_true, not_true_eq_false]); omega) | (simp; omega))
theorem f51 (a b c d e : Int) (H : Heap) : ACall Try.prog 51 [tms a b c d e] H (vec 0 0 b) H := by
  refine acall51 (by simp) (acs_start ?_)
  unfold c51 tms vec
  simp (maxSteps:=1000000) (disch:=omega) only [go_sem, ↓reduceIte, reduceCtorEq]
  exact fin_same (by simp) _ (by first | exact (List.append_nil _).symm | rfl) (by simp (maxSteps:=1000000) (disch:=omega) only [resVal, resAll, resOne, rs51, Env.get, go_sem, ↓reduceIte, reduceCtorEq]) (by simp only [AV.und, AV.unds, and_self])
def tick (n k : Int) : Int := imax n (imin (n + imin (imax k 0) 2305843009213693952) 2305843009213693952)
theorem f47 (n u q k : Int) (H : Heap) (h : -4611686018427387904 ≤ n ∧ n ≤ 4611686018427387904) : ACall Try.prog 47 [vec n u q, .int .i64 k] H (vec (tick n k) u q) H := by
  refine acall47 (by simp) (acs_start ?_)
  unfold c47 vec tick
  have h2 : 0 ≤ imin (imax k 0) 2305843009213693952 ∧ imin (imax k 0) 2305843009213693952 ≤ 2305843009213693952 := by
    unfold imin imax
    repeat' split
    all_goals omega
  simp (maxSteps:=1000000) (disch:=omega) only [go_sem, ↓reduceIte, reduceCtorEq, imin_eq, imax_eq]
  exact fin_same (by simp) _ (by first | exact (List.append_nil _).symm | rfl) (by simp (maxSteps:=1000000) (disch:=omega) only [resVal, resAll, resOne, rs47, Env.get, go_sem, ↓reduceIte, reduceCtorEq]) (by simp only [AV.und, AV.unds, and_self])
theorem f84 (n u q : Int) (H : Heap) (h : 0 ≤ n ∧ n ≤ 4611686018427387904) (h2 : 0 ≤ u ∧ u ≤ 4611686019427387904) : ACall Try.prog 84 [vec n u q] H (.int .i64 (imax (u - n) 0)) H := by
  refine acall84 (by simp) (acs_start ?_)
  unfold c84 vec
  simp (maxSteps:=1000000) (disch:=omega) only [go_sem, ↓reduceIte, reduceCtorEq]
  exact fin_same (by simp) _ (by first | exact (List.append_nil _).symm | rfl) (by simp (maxSteps:=1000000) (disch:=omega) only [resVal, resAll, resOne, rs84, Env.get, go_sem, ↓reduceIte, reduceCtorEq]) (by simp only [AV.und, AV.unds, and_self])
theorem f25 (H : Heap) : ACall Try.prog 25 [] H (tms 5 8 20 10 16777216) H := by
  refine acall25 (by simp) (acs_start ?_)
  unfold c25 tms
  simp (maxSteps:=1000000) (disch:=omega) only [go_sem, ↓reduceIte, reduceCtorEq]
  exact fin_same (by simp) _ (by first | exact (List.append_nil _).symm | rfl) (by simp (maxSteps:=1000000) (disch:=omega) only [resVal, resAll, resOne, rs25, Env.get, go_sem, ↓reduceIte, reduceCtorEq]) (by simp only [AV.und, AV.unds, and_self])

def how (w n u q : Int) (m s : Bool) : Int :=
  if n < q then 0 else if n < u then (if m = true then 1 else 0) else if m = true then 2 else if s = true then 3 else if w ≤ n - imax u q then 4 else 0
def lent (a w n u q : Int) (m s : Bool) : Int := if how w n u q m s = 0 then u else n + a
theorem how_in (w n u q : Int) (m s : Bool) : 0 ≤ how w n u q m s ∧ how w n u q m s ≤ 4 := by
  unfold how
  repeat' split
  all_goals omega
theorem f96 {a b c d e n u q : Int} (m s : Bool) (H : Heap) (h1 : 0 ≤ n ∧ n ≤ 4611686018427387904) (h2 : 0 ≤ u ∧ u ≤ 4611686019427387904) (h3 : 0 ≤ q ∧ q ≤ 4611686018427387904) :
    ACall Try.prog 96 [tms a b c d e, vec n u q, .bool m, .bool s] H (.int .i64 (how c n u q m s)) H := by
  refine acall96 (by simp) (acs_start ?_)
  have hm : 0 ≤ imax u q ∧ imax u q ≤ 4611686019427387904 := by unfold imax; split <;> omega
  unfold c96 vec tms
  cases m <;> cases s <;>
  · simp (maxSteps:=1000000) (disch:=omega) only [go_sem, ↓reduceIte, reduceCtorEq, imax_eq]
    repeat' (first | intro _ | (with_reducible refine And.intro ?_ ?_))
    all_goals (simp only [how, Bool.false_eq_true, ↓reduceIte]; exact fin_i _ (by first | exact (List.append_nil _).symm | rfl) (by simp) (by simp (maxSteps:=1000000) (disch:=omega) only [resVal, resAll, resOne, rs96, Env.get, go_sem, ↓reduceIte, reduceCtorEq] <;> rfl) (by ((repeat' split) <;> omega)))
theorem f79 {a b c d e n u q : Int} (m s : Bool) (H : Heap) (h1 : 0 ≤ n ∧ n ≤ 4611686018427387904) (h2 : 0 ≤ u ∧ u ≤ 4611686019427387904) (h3 : 0 ≤ q ∧ q ≤ 4611686018427387904) (h4 : 1 ≤ a ∧ a ≤ 1000000000) :
    ACall Try.prog 79 [tms a b c d e, vec n u q, .bool m, .bool s] H (.tup [vec n (lent a c n u q m s) q, .int .i64 (how c n u q m s)]) H := by
  refine acall79 (by simp) (acs_start ?_)
  have g := f96 (a := a) (b := b) (c := c) (d := d) (e := e) m s (h1 := h1) (h2 := h2) (h3 := h3)
  have hi := how_in c n u q m s
  unfold lent
  generalize how c n u q m s = k at *
  unfold c79 vec tms at *
  simp (maxSteps:=1000000) (disch:=omega) only [go_sem, ↓reduceIte, reduceCtorEq]
  refine callB_intro (g _) ?_
  simp (maxSteps:=1000000) (disch:=omega) only [go_sem, ↓reduceIte, reduceCtorEq]
  repeat' (first | intro _ | (with_reducible refine And.intro ?_ ?_))
  · rw [if_neg (by omega)]
    exact fin_same (by simp) _ (by first | exact (List.append_nil _).symm | rfl) (by simp (maxSteps:=1000000) (disch:=omega) only [resVal, resAll, resOne, rs79, Env.get, go_sem, ↓reduceIte, reduceCtorEq]) (by simp only [AV.und, AV.unds, and_self])
  · rw [if_pos (by omega)]
    exact fin_same (by simp) _ (by first | exact (List.append_nil _).symm | rfl) (by simp (maxSteps:=1000000) (disch:=omega) only [resVal, resAll, resOne, rs79, Env.get, go_sem, ↓reduceIte, reduceCtorEq]) (by simp only [AV.und, AV.unds, and_self])
end Go.Proofs.Ytaiboicipbhmhaa.Ah
