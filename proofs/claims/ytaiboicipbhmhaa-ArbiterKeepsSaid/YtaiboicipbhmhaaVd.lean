/- Vd: a part of the proof: contracts of functions, or plain laws. Conditions: none. -/
import Derived.Test.YtaiboicipbhmhaaEc
import Derived.Test.YtaiboicipbhmhaaG18
namespace Go.Proofs.Ytaiboicipbhmhaa.Ah
open Go Go.WideShapes
attribute [local irreducible] acs aopsK drawK leave condK bindR bindD bindX guardK guardD callB callD callX callP callPv rfunG rfunK yldB yldD
attribute [local go_sem] Nat.reduceEqDiff Nat.reduceLT Nat.reduceAdd Nat.reduceSub Nat.reduceMul Nat.reduceBEq Int.reduceLT Int.reduceAdd Int.reduceMul Int.reduceSub Int.reduceToNat Int.reduceLE Int.reduceEq Int.reduceNeg Nat.reduceLeDiff
attribute [local go_sem] mop mget mfind mput mres keyed AV.isAgg beq_self_eq_true Bool.true_and Option.isSome_some List.set_cons_zero acs_nil acs_blk acs_skip acs_reg acs_dreg acs_freg acs_nam0 acs_nam nones acs_seq acs_cond acs_block acs_exit acs_ret acs_kl acs_loop leave_nil leave_code leave_lp leave_blk aopsK_nil aopsK_cons aopsK_guard bindR_val bindR_need bindR_br bindR_call bindR_ycall acs_rfun rfunG_fn bindR_bad drawK_nil drawK_cons drawK_wat bindW_val bindW_need bindW_br WatL_nil WatL_cons isP_ptr drawK_ext drawK_pur drawK_guard callPv_fn drawK_purv bindD_val bindD_need bindD_br bindD_call bindD_ycall bindD_bad bindX_val bindX_need bindX_br bindX_call guardD_bool guardD_tup grows grows0 List.append_cancel_left_eq List.cons.injEq exists_eq' exists_eq condK_bool guardK_bool guardK_tup sor r0 r1 r2 r3 rC rB rI rP rA rT rS rF rSl rO rbin rcut run1 Env.evals Env.eval Env.get Env.put Env.ins Env.del Env.dels argEnv AV.full AV.cells AV.cell eqCells decide_true decide_false decide_eq_true_eq decide_eq_false_iff_not Bool.not_eq_true' Bool.not_eq_false' true_and and_true false_implies true_implies forall_const Bool.not_true Bool.not_false Bool.false_eq_true Bool.true_eq_false List.getElem?_cons_zero List.getElem?_cons_succ List.length_cons List.length_nil List.length_append List.all_cons List.all_nil Bool.and_true Bool.and_self implies_true List.append_assoc List.cons_append List.nil_append List.append_nil i64_in imin_eq imax_eq cast3 cast0 cast1 cast2 Option.map_none ite_self and_false false_and Option.isSome_some or_true true_or Int.sub_zero Int.mul_one Nat.sub_zero Nat.zero_le Int.cast_ofNat_Int Int.natCast_nonneg Int.toNat_natCast ne_eq not_false_eq_true not_true_eq_false strC blkAt_app blkAt_app0 blkAt_zero blkAt_succ List.set_cons_zero List.set_cons_succ set_app set_app0 Option.map_some Option.bind_some rd setCells lay rdS szOk rapp ownAt lenAt Option.any_some Option.getD_some List.drop_zero List.drop_succ_cons List.take_succ_cons List.take_zero List.drop_nil List.take_nil Nat.lt_irrefl Nat.zero_add Nat.add_zero Nat.mul_one Nat.one_mul Nat.add_assoc Option.some.injEq eq_self
set_option maxHeartbeats 8000000
set_option linter.unusedSimpArgs false
def BQ (x : Int) : Prop := -70368744177664 ≤ x ∧ x ≤ 70368744177663
def SQ (x : Int) : Prop := 1 ≤ x ∧ x ≤ 70368744177663
theorem f101 (a b c d e f : Int) (H : Heap) (h1 : BQ a) (h2 : BQ b) (h3 : BQ c) (h4 : BQ d) (h5 : BQ e) (h6 : BQ f) : ACall Try.prog 101 [vec a b c, vec d e f] H (vec (d - a) (e - b) (f - c)) H := by
  refine acall101 (by simp) (acs_start ?_)
  unfold BQ at *
  unfold c101 vec
  simp (maxSteps:=1000000) (disch:=omega) only [go_sem, ↓reduceIte, reduceCtorEq]
  rw [acs_lp]; conv in Fr.code c101l0 => unfold c101l0
  simp (maxSteps:=1000000) (disch:=omega) only [go_sem, ↓reduceIte, reduceCtorEq]
  rw [acs_lp]; conv in Fr.code c101l0 => unfold c101l0
  simp (maxSteps:=1000000) (disch:=omega) only [go_sem, ↓reduceIte, reduceCtorEq]
  rw [acs_lp]; conv in Fr.code c101l0 => unfold c101l0
  simp (maxSteps:=1000000) (disch:=omega) only [go_sem, ↓reduceIte, reduceCtorEq]
  rw [acs_lp]; conv in Fr.code c101l0 => unfold c101l0
  simp (maxSteps:=1000000) (disch:=omega) only [go_sem, ↓reduceIte, reduceCtorEq]
  exact fin_same (by simp) _ (by first | exact (List.append_nil _).symm | rfl) (by simp (maxSteps:=1000000) (disch:=omega) only [resVal, resAll, resOne, rs101, Env.get, go_sem, ↓reduceIte, reduceCtorEq]) (by simp only [AV.und, AV.unds, and_self])
def mv1 (a b s : Int) : Int := a + imin (imax (b - a) (0 - s)) s
theorem stp_in {s : Int} (a b : Int) (h : SQ s) : -70368744177663 ≤ imin (imax (b - a) (0 - s)) s ∧ imin (imax (b - a) (0 - s)) s ≤ 70368744177663 := by
  unfold SQ at h
  unfold imin imax
  split <;> split <;> omega

theorem f97 (a b c d e f s : Int) (H : Heap) (h1 : BQ a) (h2 : BQ b) (h3 : BQ c) (h4 : BQ d) (h5 : BQ e) (h6 : BQ f) (h7 : SQ s) : ACall Try.prog 97 [vec a b c, vec d e f, .int .i64 s] H (vec (mv1 a d s) (mv1 b e s) (mv1 c f s)) H := by
  refine acall97 (by simp) (acs_start ?_)
  have g := fun H => f101 a b c d e f H h1 h2 h3 h4 h5 h6
  have s1 := stp_in a d h7
  have s2 := stp_in b e h7
  have s3 := stp_in c f h7
  unfold BQ SQ vec mv1 at *
  unfold c97
  simp (maxSteps:=1000000) (disch:=omega) only [go_sem, ↓reduceIte, reduceCtorEq]
  refine callB_intro (g _) ?_
  simp (maxSteps:=1000000) (disch:=omega) only [go_sem, ↓reduceIte, reduceCtorEq]
  rw [acs_lp]; conv in Fr.code c97l0 => unfold c97l0
  simp (maxSteps:=1000000) (disch:=omega) only [go_sem, ↓reduceIte, reduceCtorEq]
  rw [acs_lp]; conv in Fr.code c97l0 => unfold c97l0
  simp (maxSteps:=1000000) (disch:=omega) only [go_sem, ↓reduceIte, reduceCtorEq]
  rw [acs_lp]; conv in Fr.code c97l0 => unfold c97l0
  simp (maxSteps:=1000000) (disch:=omega) only [go_sem, ↓reduceIte, reduceCtorEq]
  rw [acs_lp]; conv in Fr.code c97l0 => unfold c97l0
  simp (maxSteps:=1000000) (disch:=omega) only [go_sem, ↓reduceIte, reduceCtorEq]
  exact fin_same (by simp) _ (by first | exact (List.append_nil _).symm | rfl) (by simp (maxSteps:=1000000) (disch:=omega) only [resVal, resAll, resOne, rs97, Env.get, go_sem, ↓reduceIte, reduceCtorEq]) (by simp only [AV.und, AV.unds, and_self])

def rv1 (a b s : Int) : Int := if b < a - s then a - s else if b > a + s then a + s else b
def c24t : SC := .seq (.reg [⟨some 51, (.ldn 3), [.r 7], none, [7]⟩, ⟨none, (.st 3), [.r 6, .r 51], none, [51]⟩]) .ret
def e24 (H : Heap) (s i : Int) : Env := [(2, .int .i64 s), (3, .ptr H.length 0), (4, .ptr (H.length + 1) 0), (6, .ptr (H.length + 2) 0), (7, .ptr (H.length + 3) 0), (8, .int .i64 i)]
def h14 (H : Heap) (a b c d e f x y z : Int) : Heap := H ++ [some ⟨[.int .i64 a, .int .i64 b, .int .i64 c], true⟩, some ⟨[.int .i64 d, .int .i64 e, .int .i64 f], true⟩, some ⟨[.int .i64 0, .int .i64 0, .int .i64 0], true⟩, some ⟨[.int .i64 x, .int .i64 y, .int .i64 z], true⟩]
section
variable {a b c d e f s : Int} {H : Heap}
theorem f24_3 (x y z : Int) (hx : rv1 a d s = x) (hy : rv1 b e s = y) (hz : rv1 c f s = z) :
    acs Try.prog [.lp c24l0, .blk 0, .code c24t] (e24 H s 3) (h14 H a b c d e f x y z) (Fin H rs24 (vec (rv1 a d s) (rv1 b e s) (rv1 c f s)) H) := by
  rw [hx, hy, hz]
  unfold e24 h14 vec
  rw [acs_lp]; conv in Fr.code c24l0 => unfold c24l0
  unfold c24t
  simp (maxSteps:=1000000) (disch:=omega) only [go_sem, ↓reduceIte, reduceCtorEq]
  exact fin_same (by simp) _ (by first | exact (List.append_nil _).symm | rfl) (by simp (maxSteps:=1000000) (disch:=omega) only [resVal, resAll, resOne, rs24, Env.get, go_sem, ↓reduceIte, reduceCtorEq]) (by simp only [AV.und, AV.unds, and_self])
theorem f24_2 (h3 : BQ c) (h6 : BQ f) (h7 : SQ s) (x y : Int) (hx : rv1 a d s = x) (hy : rv1 b e s = y) :
    acs Try.prog [.lp c24l0, .blk 0, .code c24t] (e24 H s 2) (h14 H a b c d e f x y 0) (Fin H rs24 (vec (rv1 a d s) (rv1 b e s) (rv1 c f s)) H) := by
  have k := fun z h => f24_3 (H := H) (c := c) (f := f) x y z hx hy h
  unfold BQ SQ at *
  unfold e24 h14
  rw [acs_lp]; conv in Fr.code c24l0 => unfold c24l0
  simp (maxSteps:=1000000) (disch:=omega) only [go_sem, ↓reduceIte, reduceCtorEq]
  refine ⟨fun g => ⟨fun g' => ?_, fun g' => ?_⟩, fun g => ⟨fun g' => ?_, fun g' => ?_⟩⟩ <;> exact k _ (by unfold rv1; omega)
theorem f24_1 (h2 : BQ b) (h3 : BQ c) (h5 : BQ e) (h6 : BQ f) (h7 : SQ s) (x : Int) (hx : rv1 a d s = x) :
    acs Try.prog [.lp c24l0, .blk 0, .code c24t] (e24 H s 1) (h14 H a b c d e f x 0 0) (Fin H rs24 (vec (rv1 a d s) (rv1 b e s) (rv1 c f s)) H) := by
  have k := fun z h => f24_2 (H := H) (b := b) (e := e) h3 h6 h7 x z hx h
  unfold BQ SQ at *
  unfold e24 h14
  rw [acs_lp]; conv in Fr.code c24l0 => unfold c24l0
  simp (maxSteps:=1000000) (disch:=omega) only [go_sem, ↓reduceIte, reduceCtorEq]
  refine ⟨fun g => ⟨fun g' => ?_, fun g' => ?_⟩, fun g => ⟨fun g' => ?_, fun g' => ?_⟩⟩ <;> exact k _ (by unfold rv1; omega)
theorem f24 (h1 : BQ a) (h2 : BQ b) (h3 : BQ c) (h4 : BQ d) (h5 : BQ e) (h6 : BQ f) (h7 : SQ s) : ACall Try.prog 24 [vec a b c, vec d e f, .int .i64 s] H (vec (rv1 a d s) (rv1 b e s) (rv1 c f s)) H := by
  refine acall24 (by simp) (acs_start ?_)
  have k := fun z h => f24_1 (H := H) (a := a) (d := d) h2 h3 h5 h6 h7 z h
  unfold BQ SQ at *
  unfold c24 vec
  simp (maxSteps:=1000000) (disch:=omega) only [go_sem, ↓reduceIte, reduceCtorEq]
  rw [acs_lp]; conv in Fr.code c24l0 => unfold c24l0
  simp (maxSteps:=1000000) (disch:=omega) only [go_sem, ↓reduceIte, reduceCtorEq]
  refine ⟨fun g => ⟨fun g' => ?_, fun g' => ?_⟩, fun g => ⟨fun g' => ?_, fun g' => ?_⟩⟩ <;> exact k _ (by unfold rv1; omega)
end

def farQ (a b s : Int) : Bool := decide (a > b + s ∨ b > a + s)
theorem f23 {a b c d e f s : Int} {H : Heap} (h1 : BQ a) (h2 : BQ b) (h3 : BQ c) (h4 : BQ d) (h5 : BQ e) (h6 : BQ f) (h7 : SQ s) : ACall Try.prog 23 [vec a b c, vec d e f, .int .i64 s] H (.bool (!(farQ a d s || farQ b e s || farQ c f s))) H := by
  refine acall23 (by simp) (acs_start ?_)
  have bad : ∀ T G, Env.get T 6 = .bool false → (farQ a d s = true ∨ farQ b e s = true ∨ farQ c f s = true) → Fin H rs23 (.bool (!(farQ a d s || farQ b e s || farQ c f s))) H .ret T (H ++ G) := by
    intro T G hT h
    have : (!(farQ a d s || farQ b e s || farQ c f s)) = false := by rcases h with h | h | h <;> simp [h]
    rw [this]
    exact fin_ret G rfl (by simp [resVal, resAll, resOne, rs23, hT]) trivial
  have good : ∀ T G, Env.get T 6 = .bool true → farQ a d s = false → farQ b e s = false → farQ c f s = false → Fin H rs23 (.bool (!(farQ a d s || farQ b e s || farQ c f s))) H .ret T (H ++ G) := by
    intro T G hT g1 g2 g3
    rw [g1, g2, g3]
    exact fin_ret G rfl (by simp [resVal, resAll, resOne, rs23, hT]) trivial
  unfold BQ SQ at *
  unfold c23 vec
  simp (maxSteps:=1000000) (disch:=omega) only [go_sem, ↓reduceIte, reduceCtorEq]
  rw [acs_lp]; conv in Fr.code c23l0 => unfold c23l0
  simp (maxSteps:=1000000) (disch:=omega) only [go_sem, ↓reduceIte, reduceCtorEq]
  refine ⟨fun g => ⟨fun g' => bad _ _ rfl (.inl (by unfold farQ; exact decide_eq_true (by omega))), fun g' => ?_⟩, fun g => bad _ _ rfl (.inl (by unfold farQ; exact decide_eq_true (by omega)))⟩
  have g1 : farQ a d s = false := by unfold farQ; exact decide_eq_false (by omega)
  clear g g'
  rw [acs_lp]; conv in Fr.code c23l0 => unfold c23l0
  simp (maxSteps:=1000000) (disch:=omega) only [go_sem, ↓reduceIte, reduceCtorEq]
  refine ⟨fun g => ⟨fun g' => bad _ _ rfl (.inr (.inl (by unfold farQ; exact decide_eq_true (by omega)))), fun g' => ?_⟩, fun g => bad _ _ rfl (.inr (.inl (by unfold farQ; exact decide_eq_true (by omega))))⟩
  have g2 : farQ b e s = false := by unfold farQ; exact decide_eq_false (by omega)
  clear g g'
  rw [acs_lp]; conv in Fr.code c23l0 => unfold c23l0
  simp (maxSteps:=1000000) (disch:=omega) only [go_sem, ↓reduceIte, reduceCtorEq]
  refine ⟨fun g => ⟨fun g' => bad _ _ rfl (.inr (.inr (by unfold farQ; exact decide_eq_true (by omega)))), fun g' => ?_⟩, fun g => bad _ _ rfl (.inr (.inr (by unfold farQ; exact decide_eq_true (by omega))))⟩
  have g3 : farQ c f s = false := by unfold farQ; exact decide_eq_false (by omega)
  clear g g'
  rw [acs_lp]; conv in Fr.code c23l0 => unfold c23l0
  simp (maxSteps:=1000000) (disch:=omega) only [go_sem, ↓reduceIte, reduceCtorEq]
  exact good _ _ rfl g1 g2 g3

def dst (a b : Int) : Int := imax (b - a) (0 - (b - a))
theorem rv1_mv1 {a d s : Int} (h : SQ s) : rv1 a d s = mv1 a d s := by
  unfold SQ at h
  unfold rv1 mv1 imin imax
  repeat' split
  all_goals omega
def clk (since now fresh : Int) : Bool := decide (0 ≤ now ∧ now ≤ 4611686018427387904 ∧ 0 ≤ since ∧ since ≤ 4611686018427387904 ∧ 1 ≤ fresh ∧ fresh ≤ 1000000000)
def latch (a b c since : Int) (stale : Bool) : AV := .agg [.int .i64 a, .int .i64 b, .int .i64 c, .int .i64 since, .bool stale]
theorem f85 {a b c d e f s since now : Int} {stale : Bool} (h1 : BQ a) (h2 : BQ b) (h3 : BQ c) (h4 : BQ d) (h5 : BQ e) (h6 : BQ f) (h7 : SQ s) (H : Heap) :
    ACall Try.prog 85 [latch a b c since stale, vec d e f, .int .i64 now, .int .i64 s] H (latch (mv1 a d s) (mv1 b e s) (mv1 c f s) now false) H := by
  refine acall85 (by simp) (acs_start ?_)
  have m := fun H => f97 a b c d e f s H h1 h2 h3 h4 h5 h6 h7
  clear h1 h2 h3 h4 h5 h6 h7
  generalize mv1 a d s = x at *
  generalize mv1 b e s = y at *
  generalize mv1 c f s = z at *
  unfold c85 latch
  unfold vec at *
  simp (maxSteps:=1000000) (disch:=omega) only [go_sem, ↓reduceIte, reduceCtorEq]
  refine callB_intro (m _) ?_
  simp (maxSteps:=1000000) (disch:=omega) only [go_sem, ↓reduceIte, reduceCtorEq]
  exact fin_same (by simp) _ (by first | exact (List.append_nil _).symm | rfl) (by simp (maxSteps:=1000000) (disch:=omega) only [resVal, resAll, resOne, rs85, Env.get, go_sem, ↓reduceIte, reduceCtorEq]) (by simp only [AV.und, AV.unds, and_self])
theorem clk_out {since now fresh : Int} (h : clk since now fresh = true) : 0 ≤ now ∧ now ≤ 4611686018427387904 ∧ 0 ≤ since ∧ since ≤ 4611686018427387904 ∧ 1 ≤ fresh ∧ fresh ≤ 1000000000 := of_decide_eq_true h
theorem f48 {a b c since now fresh : Int} {stale : Bool} (h : clk since now fresh = true) (H : Heap) :
    ACall Try.prog 48 [latch a b c since stale, .int .i64 now, .int .i64 fresh] H (latch a b c since (stale || decide (since + fresh ≤ now))) H := by
  refine acall48 (by simp) (acs_start ?_)
  have h := clk_out h
  unfold c48 latch
  cases stale with
  | true =>
    rw [Bool.true_or]
    simp (maxSteps:=1000000) (disch:=omega) only [go_sem, ↓reduceIte, reduceCtorEq]
    exact fin_same (by simp) _ (by first | exact (List.append_nil _).symm | rfl) (by simp (maxSteps:=1000000) (disch:=omega) only [resVal, resAll, resOne, rs48, Env.get, go_sem, ↓reduceIte, reduceCtorEq]) (by simp only [AV.und, AV.unds, and_self])
  | false =>
    have hd : decide (since + fresh ≤ now) = decide (fresh ≤ now - since) := decide_eq_decide.2 (by omega)
    rw [hd, Bool.false_or]
    simp (maxSteps:=1000000) (disch:=omega) only [go_sem, ↓reduceIte, reduceCtorEq]
    exact fin_same (by simp) _ (by first | exact (List.append_nil _).symm | rfl) (by simp (maxSteps:=1000000) (disch:=omega) only [resVal, resAll, resOne, rs48, Env.get, go_sem, ↓reduceIte, reduceCtorEq]) (by simp only [AV.und, AV.unds, and_self])
end Go.Proofs.Ytaiboicipbhmhaa.Ah
