/- V08u: a part of the proof: contracts of functions, or plain laws. Conditions: none. -/
import Derived.Test.YtjibphejlmiocaaV08t
namespace Go.Proofs.Ytjibphejlmiocaa.Ah
open Go Go.WideShapes
attribute [local irreducible] acs aopsK drawK leave condK bindR bindD bindX guardK guardD callB callD callX callP callPv rfunG rfunK yldB yldD
attribute [local go_sem] acs_nil acs_blk acs_skip acs_reg acs_dreg acs_freg acs_nam0 acs_nam nones acs_seq acs_cond acs_block acs_exit acs_ret acs_kl acs_loop leave_nil leave_code leave_lp leave_blk aopsK_nil aopsK_cons aopsK_guard bindR_val bindR_need bindR_br bindR_call bindR_ycall acs_rfun rfunG_fn bindR_bad drawK_nil drawK_cons drawK_ext drawK_pur drawK_guard callPv_fn drawK_purv bindD_val bindD_need bindD_br bindD_call bindD_ycall bindD_bad bindX_val bindX_need bindX_br bindX_call guardD_bool guardD_tup grows grows0 List.append_cancel_left_eq List.cons.injEq exists_eq' exists_eq condK_bool guardK_bool guardK_tup sor r0 r1 r2 r3 rC rB rI rP rA rT rS rF rSl rO rbin rcut run1 Env.evals Env.eval Env.get Env.put Env.ins Env.del Env.dels argEnv AV.full AV.cells AV.cell eqCells decide_true decide_false decide_eq_true_eq decide_eq_false_iff_not Bool.not_eq_true' Bool.not_eq_false' true_and and_true false_implies true_implies forall_const Bool.not_true Bool.not_false Bool.false_eq_true Bool.true_eq_false List.getElem?_cons_zero List.getElem?_cons_succ List.length_cons List.length_nil List.length_append List.all_cons List.all_nil Bool.and_true Bool.and_self implies_true List.append_assoc List.cons_append List.nil_append List.append_nil i64_in imin_eq imax_eq cast3 cast0 cast1 cast2 Option.map_none ite_self and_false false_and Option.isSome_some or_true true_or Int.sub_zero Int.mul_one Nat.sub_zero Nat.zero_le Int.cast_ofNat_Int Int.natCast_nonneg Int.toNat_natCast ne_eq not_false_eq_true not_true_eq_false strC blkAt_app blkAt_app0 blkAt_zero blkAt_succ List.set_cons_zero List.set_cons_succ set_app set_app0 Option.map_some Option.bind_some rd setCells lay rdS szOk rapp ownAt lenAt Option.any_some Option.getD_some List.drop_zero List.drop_succ_cons List.take_succ_cons List.take_zero List.drop_nil List.take_nil Nat.lt_irrefl Nat.zero_add Nat.add_zero Nat.mul_one Nat.one_mul Nat.add_assoc Option.some.injEq eq_self
set_option maxHeartbeats 4000000
set_option linter.unusedSimpArgs false
set_option linter.unusedVariables false
/-! The document's frame of right bytes. -/
theorem f23_in {B j m n : Nat} {a2 a6 : AV} {Z : List AV} {X : Heap} {K : List Fr} {Q : Post} {R : Nat} (hb : blkAt X (B + 1) = some ⟨Z, false⟩) (hn : n = 1 + 8 * m) (hm : m ≤ 18) (hj : j < m) (lZ : Z.length = n)
    (next : acs Try.prog K [(2, a2), (4, .sl (B + 1) 0 n 1 none), (6, a6), (7, .int .i64 (m : Nat)), (8, .int .i64 (j : Nat)), (9, .int .u64 (R : Nat))] X Q) :
    ∀ (r : List Nat) (k c : Nat), k + r.length = 8 → (∀ i x, r[i]? = some x → Z[1 + 8 * j + (k + i)]? = some (.int .u8 (x : Nat)) ∧ x < 256) → c < 256 ^ k → num c r = R →
    acs Try.prog (.lp c23l0 :: .blk 2 :: K) [(2, a2), (4, .sl (B + 1) 0 n 1 none), (6, a6), (7, .int .i64 (m : Nat)), (8, .int .i64 (j : Nat)), (9, .int .u64 (c : Nat)), (10, .int .i64 (k : Nat))] X Q := by
  have hpl := blkAt_lt hb
  intro r
  induction r with
  | nil =>
    intro k c hk _ hc hR
    have hge : ¬ (k : Int) < 8 := by simp at hk; omega
    have hR' : c = R := hR
    subst hR'
    rw [acs_lp]; conv in Fr.code c23l0 => unfold c23l0
    simp (maxSteps := 1000000) (disch := omega) only [go_sem, Nat.reduceEqDiff, Nat.reduceLT, Nat.reduceAdd, Nat.reduceSub, Nat.reduceMul, Nat.reduceBEq, Int.reduceLT, Int.reduceAdd, Int.reduceMul, Int.reduceSub, Int.reduceToNat, Int.reduceLE, Int.reduceEq, ↓reduceIte, reduceCtorEq, Int.reduceNeg, Nat.reduceLeDiff,  hge]
    exact next
  | cons x r ih =>
    intro k c hk hz hc hR
    have hlt : (k : Int) < 8 := by simp at hk; omega
    obtain ⟨fz, hx⟩ := hz 0 x rfl
    rw [Nat.add_zero] at fz
    have hk7 : k ≤ 7 := by simp at hk; omega
    have hc7 : c < 72057594037927936 := Nat.lt_of_lt_of_le hc (Nat.le_trans (Nat.pow_le_pow_right (by omega) hk7) (by decide))
    have e1 : IntKind.u64.wrap ((c : Int) * 256) = ((c * 256 : Nat) : Int) := by rw [u64_in _ (by omega)]; omega
    have e2 : IntKind.u64.wrap (x : Int) = (x : Int) := u64_in _ (by omega)
    have e3 : IntKind.u64.wrap (((c * 256 : Nat) : Int) + (x : Int)) = ((c * 256 + x : Nat) : Int) := by rw [u64_in _ (by omega)]; omega
    have hidx : (1 + 8 * (j : Int) + (k : Int)).toNat = 1 + 8 * j + k := by omega
    have i1 : (0 : Int) ≤ 1 + 8 * (j : Int) + (k : Int) := by omega
    have i2 : 1 + 8 * (j : Int) + (k : Int) < (n : Int) := by omega
    have next2 := ih (k + 1) (c * 256 + x) (by simp at hk; omega) (fun i y hy => by
      have := hz (i + 1) y (by simpa using hy)
      rw [show k + (i + 1) = k + 1 + i by omega] at this
      exact this) (by rw [Nat.pow_succ]; omega) hR
    generalize c * 256 + x = c2 at *
    generalize c * 256 = c1 at *
    simp only [List.append_assoc, List.cons_append, List.nil_append, List.length_append, List.length_cons, List.length_nil, Nat.reduceAdd, Nat.add_assoc, Nat.zero_add, Nat.add_zero, Int.natCast_add, Int.cast_ofNat_Int, ] at next2
    clear ih hz hR next
    rw [acs_lp]; conv in Fr.code c23l0 => unfold c23l0
    simp (maxSteps := 1000000) (disch := omega) only [go_sem, Nat.reduceEqDiff, Nat.reduceLT, Nat.reduceAdd, Nat.reduceSub, Nat.reduceMul, Nat.reduceBEq, Int.reduceLT, Int.reduceAdd, Int.reduceMul, Int.reduceSub, Int.reduceToNat, Int.reduceLE, Int.reduceEq, ↓reduceIte, reduceCtorEq, Int.reduceNeg, Nat.reduceLeDiff,  hb, hpl, hlt, e1, e2, e3, hidx, i1, i2]
    simp only [Nat.add_assoc] at fz
    simp (maxSteps := 1000000) (disch := omega) only [go_sem, Nat.reduceEqDiff, Nat.reduceLT, Nat.reduceAdd, Nat.reduceSub, Nat.reduceMul, Nat.reduceBEq, Int.reduceLT, Int.reduceAdd, Int.reduceMul, Int.reduceSub, Int.reduceToNat, Int.reduceLE, Int.reduceEq, ↓reduceIte, reduceCtorEq, Int.reduceNeg, Nat.reduceLeDiff,  fz, e2, e3]
    exact next2
end Go.Proofs.Ytjibphejlmiocaa.Ah
