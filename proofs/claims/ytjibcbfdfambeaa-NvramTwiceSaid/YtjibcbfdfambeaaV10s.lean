/- V10s: a part of the proof: contracts of functions, or plain laws. Conditions: none. -/
import Derived.Test.YtjibcbfdfambeaaV10o
import Derived.Test.YtjibcbfdfambeaaV10m
import Derived.Test.YtjibcbfdfambeaaEb
namespace Go.Proofs.Ytjibcbfdfambeaa.Ah
open Go Go.WideShapes
attribute [local irreducible] acs aopsK drawK leave condK bindR bindD bindX guardK guardD callB callD callX callP callPv
attribute [local go_sem] acs_nil acs_blk acs_skip acs_reg acs_dreg acs_freg acs_nam0 acs_nam nones acs_seq acs_cond acs_block acs_exit acs_ret acs_kl acs_loop leave_nil leave_code leave_lp leave_blk aopsK_nil aopsK_cons aopsK_guard bindR_val bindR_need bindR_br bindR_call bindR_bad drawK_nil drawK_cons drawK_ext drawK_pur drawK_guard callPv_fn drawK_purv bindD_val bindD_need bindD_br bindD_call bindD_bad bindX_val bindX_need bindX_br bindX_call guardD_bool guardD_tup grows grows0 List.append_cancel_left_eq List.cons.injEq exists_eq' exists_eq condK_bool guardK_bool guardK_tup sor r0 r1 r2 r3 rC rB rI rP rA rT rS rF rSl rO rbin rcut run1 Env.evals Env.eval Env.get Env.put Env.ins Env.del Env.dels argEnv AV.full AV.cells AV.cell eqCells decide_true decide_false decide_eq_true_eq decide_eq_false_iff_not Bool.not_eq_true' Bool.not_eq_false' true_and and_true false_implies true_implies forall_const Bool.not_true Bool.not_false Bool.false_eq_true Bool.true_eq_false List.getElem?_cons_zero List.getElem?_cons_succ List.length_cons List.length_nil List.length_append List.all_cons List.all_nil Bool.and_true Bool.and_self implies_true List.append_assoc List.cons_append List.nil_append List.append_nil i64_in imin_eq imax_eq cast3 cast0 cast1 cast2 Option.map_none ite_self and_false false_and Option.isSome_some or_true true_or Int.sub_zero Int.mul_one Nat.sub_zero Nat.zero_le Int.cast_ofNat_Int Int.natCast_nonneg Int.toNat_natCast ne_eq not_false_eq_true not_true_eq_false strC blkAt_app blkAt_app0 blkAt_zero blkAt_succ List.set_cons_zero List.set_cons_succ set_app set_app0 Option.map_some Option.bind_some rd setCells lay rdS szOk rapp ownAt lenAt Option.any_some Option.getD_some List.drop_zero List.drop_succ_cons List.take_succ_cons List.take_zero List.drop_nil List.take_nil Nat.lt_irrefl Nat.zero_add Nat.add_zero Nat.mul_one Nat.one_mul Nat.add_assoc Option.some.injEq eq_self
set_option maxHeartbeats 4000000
set_option linter.unusedSimpArgs false
set_option linter.unusedVariables false
/-! The plain store; the program's side, told by it. -/
abbrev Pu := (List Int × Int) × (List Int × Int)
def Stt.pu (S : Stt) : Pu := ((S.ws, S.c0), (S.vs, S.c1))
def nwP (q : Pu) : Int := nw q.1.1 q.1.2 q.2.1 q.2.2
def lastP (q : Pu) : Int := if nwP q = -1 then 0 else if nwP q = 0 then hd0 q.1.1 else hd0 q.2.1
def slotP (old : List Int × Int) (w : Int) (us : List Int) (done : Int) : List Int × Int :=
  if (us.length : Int) + 3 ≤ done then (w :: us, com (w :: us)) else if 1 < done then ((w :: us).take (done - 1).toNat, 0) else if done = 1 then (old.1, 0) else old
def errP (q : Pu) (us : List Int) : Int := if 600 < us.length ∨ lastP q = 4611686018427387904 then 5 else 0
def tornP (q : Pu) (us : List Int) (done : Int) : Pu :=
  if 600 < us.length ∨ lastP q = 4611686018427387904 then q
  else if nwP q = 0 then (q.1, slotP q.2 (lastP q + 1) us done) else (slotP q.1 (lastP q + 1) us done, q.2)
def rdP (q : Pu) : List Int := if nwP q = -1 then [] else if nwP q = 0 then q.1.1.drop 1 else q.2.1.drop 1
def onP (q : Pu) : Bool := !decide (nwP q = -1)
theorem Stt.ok.ext {S : Stt} {H H' : Heap} (h : S.ok H) (hx : Ext H H') : S.ok H' := ⟨hx.sl h.h0, hx.sl h.h1, h.l0, h.l1⟩
def Torn (S : Stt) (us : List Int) (done : Int) (v : AV) (H' : Heap) : Prop := ∃ S' : Stt, v = .tup [.agg S'.av, .int .i64 (errP S.pu us)] ∧ S'.ok H' ∧ S'.pu = tornP S.pu us done
theorem f16_t {S : Stt} {us : List Int} {q oq : Nat} {kq : Option Nat} {done : Int} {H : Heap} (h : S.ok H) (hu : Sl i64 H q oq us) (lu : us.length ≤ 1000) :
    ACallE Try.prog 16 [.agg S.av, .sl q oq us.length 1 kq, .int .i64 done] H (Torn S us done) := by
  obtain ⟨h0, h1, l0, l1⟩ := h
  have mk : ∀ (G : Heap) (S' : Stt) (e : Int), ACall Try.prog 16 [.agg S.av, .sl q oq us.length 1 kq, .int .i64 done] H (.tup [.agg S'.av, .int .i64 e]) (H ++ G) → S'.ok (H ++ G) → e = errP S.pu us → S'.pu = tornP S.pu us done →
      ACallE Try.prog 16 [.agg S.av, .sl q oq us.length 1 kq, .int .i64 done] H (Torn S us done) := fun G S' e g ok he hp => ⟨_, _, g, ⟨G, rfl⟩, S', by rw [he], ok, hp⟩
  have err : ACall Try.prog 16 [.agg S.av, .sl q oq us.length 1 kq, .int .i64 done] H (.tup [.agg S.av, .int .i64 5]) H → (600 < us.length ∨ lastP S.pu = 4611686018427387904) → ACallE Try.prog 16 [.agg S.av, .sl q oq us.length 1 kq, .int .i64 done] H (Torn S us done) := by
    intro g e
    exact mk [] S 5 (by rw [List.append_nil]; exact g) (by rw [List.append_nil]; exact ⟨h0, h1, l0, l1⟩) (by unfold errP; rw [if_pos e]) (by unfold tornP; rw [if_pos e])
  have new : ∀ w : Int, Sl i64 (H ++ [some ⟨(w :: us).map i64, true⟩]) H.length 0 (w :: us) := fun w => Sl.whole (o := true) (by simp only [go_sem, Nat.reduceEqDiff, Nat.reduceLT, Nat.reduceAdd, Nat.reduceSub, Nat.reduceMul, Nat.reduceBEq, Int.reduceLT, Int.reduceAdd, Int.reduceMul, Int.reduceSub, Int.reduceToNat, Int.reduceLE, Int.reduceEq, ↓reduceIte, reduceCtorEq, Int.reduceNeg, Nat.reduceLeDiff])
  have newt : ∀ (w : Int) (d : Nat), d ≤ us.length + 1 → Sl i64 (H ++ [some ⟨(w :: us).map i64, true⟩]) H.length 0 ((w :: us).take d) ∧ ((w :: us).take d).length = d := fun w d hd => ⟨(new w).take d, by rw [List.length_take, List.length_cons]; omega⟩
  by_cases hb : us.length ≤ 600
  rotate_left
  · have hb2 : 600 < us.length := by omega
    rcases nw_cases S.ws S.c0 S.vs S.c1 with ⟨hw, a, b⟩ | ⟨hw, a, b⟩ | ⟨hw, a, b⟩
    · exact err (f16_big_n h0 h1 hu l0 l1 lu hw (by omega)) (.inl hb2)
    · exact err (f16_big_0 h0 h1 hu l0 l1 lu hw (wh_pos a) (by omega)) (.inl hb2)
    · exact err (f16_big_1 h0 h1 hu l0 l1 lu hw (wh_pos a) (by omega)) (.inl hb2)
  have hb2 : ¬ 600 < us.length := by omega
  rcases nw_cases S.ws S.c0 S.vs S.c1 with ⟨hw, a, b⟩ | ⟨hw, a, b⟩ | ⟨hw, a, b⟩
  · have en : nwP S.pu = -1 := hw
    have el : lastP S.pu = 0 := by unfold lastP; rw [if_pos en]
    have ee : 0 = errP S.pu us := by unfold errP; rw [el, if_neg (by omega)]
    have et : tornP S.pu us done = (slotP (S.ws, S.c0) 1 us done, (S.vs, S.c1)) := by unfold tornP; rw [el, en, if_neg (by omega), if_neg (by omega)]; rfl
    by_cases hd : (us.length : Int) + 3 ≤ done
    · exact mk _ ⟨H.length, 0, none, 1 :: us, com (1 :: us), S.p1, S.o1, S.k1, S.vs, S.c1⟩ 0 (f16_full_n h0 h1 hu l0 l1 lu hw hb hd) ⟨new 1, h1.app _, by simp; omega, l1⟩ ee (by rw [et]; unfold slotP; rw [if_pos hd]; rfl)
    · by_cases h2 : 1 < done
      · obtain ⟨d, hde⟩ : ∃ d : Nat, done = (d : Int) + 1 := ⟨(done - 1).toNat, by omega⟩
        have hd1 : (done - 1).toNat = d := by omega
        obtain ⟨g1, g2⟩ := newt 1 d (by omega)
        have g := f16_part_n (kq := kq) (k0 := S.k0) (k1 := S.k1) h0 h1 hu l0 l1 lu hw hb hde (by omega) (by omega)
        rw [← g2] at g
        exact mk _ ⟨H.length, 0, some ((1 :: us).take d).length, (1 :: us).take d, 0, S.p1, S.o1, S.k1, S.vs, S.c1⟩ 0 g ⟨g1, h1.app _, Nat.le_trans (Nat.le_of_eq g2) (by omega), l1⟩ ee (by rw [et]; unfold slotP; rw [if_neg hd, if_pos h2, hd1]; rfl)
      · by_cases h3 : done = 1
        · exact mk _ ⟨S.p0, S.o0, S.k0, S.ws, 0, S.p1, S.o1, S.k1, S.vs, S.c1⟩ 0 (f16_one_n h0 h1 hu l0 l1 lu hw hb h3) ⟨h0.app _, h1.app _, l0, l1⟩ ee (by rw [et]; unfold slotP; rw [if_neg hd, if_neg h2, if_pos h3]; rfl)
        · exact mk _ S 0 (f16_zero_n h0 h1 hu l0 l1 lu hw hb (by omega)) ⟨h0.app _, h1.app _, l0, l1⟩ ee (by rw [et]; unfold slotP; rw [if_neg hd, if_neg h2, if_neg h3]; rfl)
  · have hh := wh_hd a
    have hn := wh_pos a
    have en : nwP S.pu = 0 := hw
    have el : lastP S.pu = hd0 S.ws := by unfold lastP; rw [if_neg (by omega), if_pos en]; rfl
    by_cases hf : hd0 S.ws = 4611686018427387904
    · exact err (f16_far_0 h0 h1 hu l0 l1 lu hw hn hb hf) (.inr (by rw [el, hf]))
    have hf2 : 0 ≤ hd0 S.ws ∧ hd0 S.ws < 4611686018427387904 := ⟨hh.1, by omega⟩
    have ee : 0 = errP S.pu us := by unfold errP; rw [el, if_neg (by omega)]
    have et : tornP S.pu us done = ((S.ws, S.c0), slotP (S.vs, S.c1) (hd0 S.ws + 1) us done) := by unfold tornP; rw [el, en, if_neg (by omega), if_pos rfl]; rfl
    by_cases hd : (us.length : Int) + 3 ≤ done
    · exact mk _ ⟨S.p0, S.o0, S.k0, S.ws, S.c0, H.length, 0, none, (hd0 S.ws + 1) :: us, com ((hd0 S.ws + 1) :: us)⟩ 0 (f16_full_0 h0 h1 hu l0 l1 lu hw hn hb hf2 hd) ⟨h0.app _, new _, l0, by simp; omega⟩ ee (by rw [et]; unfold slotP; rw [if_pos hd]; rfl)
    · by_cases h2 : 1 < done
      · obtain ⟨d, hde⟩ : ∃ d : Nat, done = (d : Int) + 1 := ⟨(done - 1).toNat, by omega⟩
        have hd1 : (done - 1).toNat = d := by omega
        obtain ⟨g1, g2⟩ := newt (hd0 S.ws + 1) d (by omega)
        have g := f16_part_0 (kq := kq) (k0 := S.k0) (k1 := S.k1) h0 h1 hu l0 l1 lu hw hn hb hf2 hde (by omega) (by omega)
        rw [← g2] at g
        exact mk _ ⟨S.p0, S.o0, S.k0, S.ws, S.c0, H.length, 0, some (((hd0 S.ws + 1) :: us).take d).length, ((hd0 S.ws + 1) :: us).take d, 0⟩ 0 g ⟨h0.app _, g1, l0, Nat.le_trans (Nat.le_of_eq g2) (by omega)⟩ ee (by rw [et]; unfold slotP; rw [if_neg hd, if_pos h2, hd1]; rfl)
      · by_cases h3 : done = 1
        · exact mk _ ⟨S.p0, S.o0, S.k0, S.ws, S.c0, S.p1, S.o1, S.k1, S.vs, 0⟩ 0 (f16_one_0 h0 h1 hu l0 l1 lu hw hn hb hf2 h3) ⟨h0.app _, h1.app _, l0, l1⟩ ee (by rw [et]; unfold slotP; rw [if_neg hd, if_neg h2, if_pos h3]; rfl)
        · exact mk _ S 0 (f16_zero_0 h0 h1 hu l0 l1 lu hw hn hb hf2 (by omega)) ⟨h0.app _, h1.app _, l0, l1⟩ ee (by rw [et]; unfold slotP; rw [if_neg hd, if_neg h2, if_neg h3]; rfl)
  · have hh := wh_hd a
    have hn := wh_pos a
    have en : nwP S.pu = 1 := hw
    have el : lastP S.pu = hd0 S.vs := by unfold lastP; rw [if_neg (by omega), if_neg (by omega)]; rfl
    by_cases hf : hd0 S.vs = 4611686018427387904
    · exact err (f16_far_1 h0 h1 hu l0 l1 lu hw hn hb hf) (.inr (by rw [el, hf]))
    have hf2 : 0 ≤ hd0 S.vs ∧ hd0 S.vs < 4611686018427387904 := ⟨hh.1, by omega⟩
    have ee : 0 = errP S.pu us := by unfold errP; rw [el, if_neg (by omega)]
    have et : tornP S.pu us done = (slotP (S.ws, S.c0) (hd0 S.vs + 1) us done, (S.vs, S.c1)) := by unfold tornP; rw [el, en, if_neg (by omega), if_neg (by omega)]; rfl
    by_cases hd : (us.length : Int) + 3 ≤ done
    · exact mk _ ⟨H.length, 0, none, (hd0 S.vs + 1) :: us, com ((hd0 S.vs + 1) :: us), S.p1, S.o1, S.k1, S.vs, S.c1⟩ 0 (f16_full_1 h0 h1 hu l0 l1 lu hw hn hb hf2 hd) ⟨new _, h1.app _, by simp; omega, l1⟩ ee (by rw [et]; unfold slotP; rw [if_pos hd]; rfl)
    · by_cases h2 : 1 < done
      · obtain ⟨d, hde⟩ : ∃ d : Nat, done = (d : Int) + 1 := ⟨(done - 1).toNat, by omega⟩
        have hd1 : (done - 1).toNat = d := by omega
        obtain ⟨g1, g2⟩ := newt (hd0 S.vs + 1) d (by omega)
        have g := f16_part_1 (kq := kq) (k0 := S.k0) (k1 := S.k1) h0 h1 hu l0 l1 lu hw hn hb hf2 hde (by omega) (by omega)
        rw [← g2] at g
        exact mk _ ⟨H.length, 0, some (((hd0 S.vs + 1) :: us).take d).length, ((hd0 S.vs + 1) :: us).take d, 0, S.p1, S.o1, S.k1, S.vs, S.c1⟩ 0 g ⟨g1, h1.app _, Nat.le_trans (Nat.le_of_eq g2) (by omega), l1⟩ ee (by rw [et]; unfold slotP; rw [if_neg hd, if_pos h2, hd1]; rfl)
      · by_cases h3 : done = 1
        · exact mk _ ⟨S.p0, S.o0, S.k0, S.ws, 0, S.p1, S.o1, S.k1, S.vs, S.c1⟩ 0 (f16_one_1 h0 h1 hu l0 l1 lu hw hn hb hf2 h3) ⟨h0.app _, h1.app _, l0, l1⟩ ee (by rw [et]; unfold slotP; rw [if_neg hd, if_neg h2, if_pos h3]; rfl)
        · exact mk _ S 0 (f16_zero_1 h0 h1 hu l0 l1 lu hw hn hb hf2 (by omega)) ⟨h0.app _, h1.app _, l0, l1⟩ ee (by rw [et]; unfold slotP; rw [if_neg hd, if_neg h2, if_neg h3]; rfl)
theorem Sl.app_set {α : Type} {f : α → AV} {H : Heap} {p off : Nat} {zs : List α} (hs : Sl f H p off zs) {G : Heap} {b : Nat} (hb : H.length ≤ b) (x : Option Blk) : Sl f ((H ++ G).set b x) p off zs :=
  (hs.app G).set (by have := hs.lt; omega) x
theorem Stt.ok.app_set {S : Stt} {H : Heap} (h : S.ok H) {G : Heap} {b : Nat} (hb : H.length ≤ b) (x : Option Blk) : S.ok ((H ++ G).set b x) := ⟨h.h0.app_set hb x, h.h1.app_set hb x, h.l0, h.l1⟩
theorem Stt.ok.unset {S : Stt} {H : Heap} {b : Nat} (h : S.ok (H.set b none)) (x : Option Blk) : S.ok (H.set b x) := ⟨h.h0.unset x, h.h1.unset x, h.l0, h.l1⟩
theorem f13_t {S : Stt} {us : List Int} {q oq : Nat} {kq : Option Nat} {H : Heap} (h : S.ok H) (hu : Sl i64 H q oq us) (lu : us.length ≤ 1000) :
    ACallE Try.prog 13 [.agg S.av, .sl q oq us.length 1 kq] H (Torn S us ((us.length : Int) + 3)) := by
  refine acallE (fun v Hf h => acallK13 (by simp) h) (acs_start ?_)
  have g1 := fun H => @f17 us.length q oq kq H (by omega)
  have g2 := fun G => f16_t (kq := kq) (done := (us.length : Int) + 3) (h.app_set (G := G) (b := H.length + 1) (by omega) none) (hu.app_set (G := G) (b := H.length + 1) (by omega) none) lu
  have av1 := av_len S
  have av2 := av_all S
  have av3 := av_take S
  generalize S.av = X at *
  unfold c13
  simp (maxSteps := 1000000) (disch := omega) only [go_sem, Nat.reduceEqDiff, Nat.reduceLT, Nat.reduceAdd, Nat.reduceSub, Nat.reduceMul, Nat.reduceBEq, Int.reduceLT, Int.reduceAdd, Int.reduceMul, Int.reduceSub, Int.reduceToNat, Int.reduceLE, Int.reduceEq, ↓reduceIte, reduceCtorEq, Int.reduceNeg, Nat.reduceLeDiff,  av1, av2, av3]
  first | refine callB_intro (g1 _) ?_ | refine callD_intro (g1 _) ?_ | refine callP_intro (fun _ => (g1 _)) ?_ | refine callX_pure (g1 _) ?_
  simp (maxSteps := 1000000) (disch := omega) only [go_sem, Nat.reduceEqDiff, Nat.reduceLT, Nat.reduceAdd, Nat.reduceSub, Nat.reduceMul, Nat.reduceBEq, Int.reduceLT, Int.reduceAdd, Int.reduceMul, Int.reduceSub, Int.reduceToNat, Int.reduceLE, Int.reduceEq, ↓reduceIte, reduceCtorEq, Int.reduceNeg, Nat.reduceLeDiff,  av1, av2, av3]
  first | refine callBE (ACallE.frame (b := H.length + 1) (x := ⟨[.nils, .int .i64 0, .nils, .int .i64 0], true⟩) (by simp only [go_sem, Nat.reduceEqDiff, Nat.reduceLT, Nat.reduceAdd, Nat.reduceSub, Nat.reduceMul, Nat.reduceBEq, Int.reduceLT, Int.reduceAdd, Int.reduceMul, Int.reduceSub, Int.reduceToNat, Int.reduceLE, Int.reduceEq, ↓reduceIte, reduceCtorEq, Int.reduceNeg, Nat.reduceLeDiff]) rfl (g2 _)) ?_ | refine callDE (ACallE.frame (b := H.length + 1) (x := ⟨[.nils, .int .i64 0, .nils, .int .i64 0], true⟩) (by simp only [go_sem, Nat.reduceEqDiff, Nat.reduceLT, Nat.reduceAdd, Nat.reduceSub, Nat.reduceMul, Nat.reduceBEq, Int.reduceLT, Int.reduceAdd, Int.reduceMul, Int.reduceSub, Int.reduceToNat, Int.reduceLE, Int.reduceEq, ↓reduceIte, reduceCtorEq, Int.reduceNeg, Nat.reduceLeDiff]) rfl (g2 _)) ?_ | refine callXE (ACallE.frame (b := H.length + 1) (x := ⟨[.nils, .int .i64 0, .nils, .int .i64 0], true⟩) (by simp only [go_sem, Nat.reduceEqDiff, Nat.reduceLT, Nat.reduceAdd, Nat.reduceSub, Nat.reduceMul, Nat.reduceBEq, Int.reduceLT, Int.reduceAdd, Int.reduceMul, Int.reduceSub, Int.reduceToNat, Int.reduceLE, Int.reduceEq, ↓reduceIte, reduceCtorEq, Int.reduceNeg, Nat.reduceLeDiff]) rfl (g2 _)) ?_
  rintro v H1 hx ⟨b, S', rfl, ok, hp⟩
  have bl := blkAt_lt b
  have w1 := av_len S'
  have w2 := av_all S'
  have w3 := av_take S'
  have ok2 := fun y => ok.unset (some ⟨y, true⟩)
  simp (maxSteps := 1000000) (disch := omega) only [go_sem, Nat.reduceEqDiff, Nat.reduceLT, Nat.reduceAdd, Nat.reduceSub, Nat.reduceMul, Nat.reduceBEq, Int.reduceLT, Int.reduceAdd, Int.reduceMul, Int.reduceSub, Int.reduceToNat, Int.reduceLE, Int.reduceEq, ↓reduceIte, reduceCtorEq, Int.reduceNeg, Nat.reduceLeDiff,  b, w1, w2, w3, blkAt_set_self, set_lo]
  refine fin_e (by simp) (by simp (maxSteps := 1000000) (disch := omega) only [resVal, resAll, resOne, rs13, Env.get, go_sem, Nat.reduceEqDiff, Nat.reduceLT, Nat.reduceAdd, Nat.reduceSub, Nat.reduceMul, Nat.reduceBEq, Int.reduceLT, Int.reduceAdd, Int.reduceMul, Int.reduceSub, Int.reduceToNat, Int.reduceLE, Int.reduceEq, ↓reduceIte, reduceCtorEq, Int.reduceNeg, Nat.reduceLeDiff, blkAt_set_self, bl, List.length_set, w1, w3] <;> rfl) (((Ext.app _ _).trans hx).set (by omega) _) ⟨S', rfl, ok2 _, hp⟩
end Go.Proofs.Ytjibcbfdfambeaa.Ah
