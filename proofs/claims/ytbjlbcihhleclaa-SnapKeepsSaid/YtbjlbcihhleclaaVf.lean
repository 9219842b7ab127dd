/- Vf: a part of the proof: contracts of functions, or plain laws. Conditions: none. -/
import Derived.Test.YtbjlbcihhleclaaVe
import Derived.WalkKit
import Derived.MapKept
import Derived.Laws.Externs
namespace Go.Proofs.Ytbjlbcihhleclaa.Ah
open Go Go.WideShapes
attribute [local irreducible] acs aopsK drawK leave condK bindR bindD bindX guardK guardD callB callD callX callP callPv rfunG rfunK yldB yldD
attribute [local go_sem] mop mget mfind mput mres keyed AV.isAgg beq_self_eq_true Bool.true_and Option.isSome_some List.set_cons_zero acs_nil acs_blk acs_skip acs_reg acs_dreg acs_freg acs_nam0 acs_nam nones acs_seq acs_cond acs_block acs_exit acs_ret acs_kl acs_loop leave_nil leave_code leave_lp leave_blk aopsK_nil aopsK_cons aopsK_guard bindR_val bindR_need bindR_br bindR_call bindR_ycall acs_rfun rfunG_fn bindR_bad drawK_nil drawK_cons drawK_wat bindW_val bindW_need bindW_br WatL_nil WatL_cons isP_ptr drawK_ext drawK_pur drawK_guard callPv_fn drawK_purv bindD_val bindD_need bindD_br bindD_call bindD_ycall bindD_bad bindX_val bindX_need bindX_br bindX_call guardD_bool guardD_tup grows grows0 List.append_cancel_left_eq List.cons.injEq exists_eq' exists_eq condK_bool guardK_bool guardK_tup sor r0 r1 r2 r3 rC rB rI rP rA rT rS rF rSl rO rbin rcut run1 Env.evals Env.eval Env.get Env.put Env.ins Env.del Env.dels argEnv AV.full AV.cells AV.cell eqCells decide_true decide_false decide_eq_true_eq decide_eq_false_iff_not Bool.not_eq_true' Bool.not_eq_false' true_and and_true false_implies true_implies forall_const Bool.not_true Bool.not_false Bool.false_eq_true Bool.true_eq_false List.getElem?_cons_zero List.getElem?_cons_succ List.length_cons List.length_nil List.length_append List.all_cons List.all_nil Bool.and_true Bool.and_self implies_true List.append_assoc List.cons_append List.nil_append List.append_nil i64_in imin_eq imax_eq cast3 cast0 cast1 cast2 Option.map_none ite_self and_false false_and Option.isSome_some or_true true_or Int.sub_zero Int.mul_one Nat.sub_zero Nat.zero_le Int.cast_ofNat_Int Int.natCast_nonneg Int.toNat_natCast ne_eq not_false_eq_true not_true_eq_false strC blkAt_app blkAt_app0 blkAt_zero blkAt_succ List.set_cons_zero List.set_cons_succ set_app set_app0 Option.map_some Option.bind_some rd setCells lay rdS szOk rapp ownAt lenAt Option.any_some Option.getD_some List.drop_zero List.drop_succ_cons List.take_succ_cons List.take_zero List.drop_nil List.take_nil Nat.lt_irrefl Nat.zero_add Nat.add_zero Nat.mul_one Nat.one_mul Nat.add_assoc Option.some.injEq eq_self
set_option maxHeartbeats 8000000
set_option linter.unusedSimpArgs false
set_option linter.unusedVariables false
/-! Bits, as numbers. -/
def cb (u : Nat) : Nat → Nat
  | 0 => 0
  | n + 1 => u % 2 + cb (u / 2) n
/-- A bit of a word. -/
def wb (n : Int) (t : Nat) : Bool := decide (u64 n / 2 ^ t % 2 = 1)

/-! The plain law: a delta has one row, a row one delta. -/

/-! The plain law: bits of a delta. -/
def sb (d : List Int) : Nat → Nat → Nat
  | 0, _ => 0
  | m + 1, i => (if wb (d.getD (i / 64) 0) (i % 64) then 1 else 0) + sb d m (i + 1)

/-! The plain law: there and back. -/
/-- A row that differs at the bits. -/
def MarksB (β : Nat → Bool) (j : Nat) (rb rn : List Int) : Prop := ∀ t, t < rn.length → β (j + t) = decide (rn.getD t 0 ≠ rb.getD t 0)
theorem MarksB.head {β : Nat → Bool} {j : Nat} {b n : Int} {rb rn : List Int} (h : MarksB β j (b :: rb) (n :: rn)) : β j = decide (n ≠ b) := by simpa using h 0 (by simp)

/-! Parts, joined. -/

/-! An estimator of words. -/
structure Tk.sq (t : Tk) (x0 x1 x2 p0 p1 p2 p3 p4 p5 : Int) : Prop where
  xr : t.xr = 3
  xc : t.xc = 1
  xl : t.xl = [x0, x1, x2]
  pr : t.pr = 3
  pc : t.pc = 3
  pl : t.pl = [p0, p1, p2, p1, p3, p4, p2, p4, p5]
theorem Tk.sq.axW {t : Tk} {x0 x1 x2 p0 p1 p2 p3 p4 p5 : Int} (h : t.sq x0 x1 x2 p0 p1 p2 p3 p4 p5) : Ah.axW t = [x0, x1, x2, p0, p1, p2, p3, p4, p5] := by
  unfold Ah.axW
  rw [h.xl, h.pl]
  rfl
structure Es.far (e : Es) (n : Nat) : Prop where
  ax : n ≤ e.a.xp
  ap : n ≤ e.a.pp
  bx : n ≤ e.b.xp
  bp : n ≤ e.b.pp
  cx : n ≤ e.c.xp
  cp : n ≤ e.c.pp
theorem both {s : Int} {X P : Prop} (h : s = 0 ∨ s = 1) (hp : P) : (¬ s = 0 → (¬ s = 1 → X) ∧ (s = 1 → P)) ∧ (s = 0 → P) := ⟨fun h0 => ⟨fun h1 => (h.elim h0 h1).elim, fun _ => hp⟩, fun _ => hp⟩

/-! Whether all parts are there. -/

/-! What is done. -/

/-! What is done, when all is there. -/
theorem pc_chunks {p D : List Int} {n : Nat} (hl : p.length = 40) (hn : n ≤ 5) (h : ∀ j, j < n → chunk p j = row8 D j) : p.take (8 * n) = pc D n := by
  apply List.ext_getElem?
  intro i
  by_cases hi : i < 8 * n
  · rw [List.getElem?_take_of_lt hi, pc_get D hi]
    have hj : i / 8 < n := by omega
    have h1 : (chunk p (i / 8))[i % 8]? = (row8 D (i / 8))[i % 8]? := by rw [h _ hj]
    unfold chunk row8 at h1
    rw [List.getElem?_take_of_lt (by omega), List.getElem?_drop, List.getElem?_map, List.getElem?_range (by omega)] at h1
    rw [show i / 8 * 8 + i % 8 = i by omega] at h1
    rw [h1]
    simp only [Option.map_some]
    rw [show 8 * (i / 8) + i % 8 = i by omega]
  · rw [List.getElem?_eq_none (by rw [List.length_take]; omega), List.getElem?_eq_none (by rw [pc_len]; omega)]
theorem Sn.parts {s : Sn} (h : s.ok) {D : List Int} {n : Nat} (hn : n ≤ 5) (hc : ∀ j, j < n → chunk s.p j = row8 D j) : (s.av.drop 9).take (8 * n) = (pc D n).map (AV.int .i64) := by
  unfold Sn.av
  have hl : (s.h.map AV.bool).length = 5 := by simp [h.h]
  rw [show (9 : Nat) = 5 + 1 + 1 + 1 + 1 from rfl]
  simp only [List.drop_succ_cons]
  rw [← hl, List.drop_left, ← List.map_take, pc_chunks h.p hn hc]

/-! Parts that come: what is there. -/
theorem row8_len (D : List Int) (k : Nat) : (row8 D k).length = 8 := by simp [row8]
structure Got (a b c : Int) (D : List Int) (n : Nat) (A : Nat → Bool) (s : Sn) : Prop where
  ok : s.ok
  mrk : ((∀ j, j < n → A j = false) ∧ s = Sn.new 0 0 0 0) ∨ (s.a = a ∧ s.b = b ∧ s.c = c ∧ s.d = (D.length : Int))
  has : ∀ j, j < 5 → s.h.getD j false = A j
  part : ∀ j, j < n → A j = true → chunk s.p j = row8 D j
theorem Got.zero (a b c : Int) (D : List Int) (n : Nat) : Got a b c D n (fun _ => false) (Sn.new 0 0 0 0) :=
  ⟨Sn.new_ok _ _ _ _, .inl ⟨fun _ _ => rfl, rfl⟩, fun j _ => Sn.new_has 0 0 0 0 j, fun _ _ h => by cases h⟩
theorem mrkB_c0 {a b c d : Int} (h : mrkB a b c d = true) : 0 ≤ c := by
  unfold mrkB okM at h
  simp only [Bool.and_eq_true, decide_eq_true_eq] at h
  exact h.1.2.1
theorem Got.put {a b c : Int} {D : List Int} {n : Nat} {A : Nat → Bool} {s : Sn} (h : s.ok) (hn5 : n ≤ 5) {i : Nat} (hi : i < n) (ha : s.a = a ∧ s.b = b ∧ s.c = c ∧ s.d = (D.length : Int)) (hh : ∀ j, j < 5 → s.h.getD j false = A j) (hp : ∀ j, j < n → A j = true → chunk s.p j = row8 D j) :
    Got a b c D n (fun j => A j || decide (j = i)) (s.put i (row8 D i)) := by
  refine ⟨Sn.put_ok h (by omega) (row8_len D i), .inr ha, fun j hj => ?_, fun j hj hA => ?_⟩
  · rw [put_has h hj (by omega), hh j hj]
    by_cases e : j = i
    · simp [e]
    · simp [e]
  · have e1 : chunk (s.put i (row8 D i)).p j = if j = i then row8 D i else chunk s.p j := chunk_put h.p (row8_len D i) (by omega) (by omega)
    rw [e1]
    by_cases e : j = i
    · rw [if_pos e, e]
    · rw [if_neg e]
      exact hp j hj (by simpa [e] using hA)
theorem Got.step {a b c : Int} {D : List Int} {n : Nat} {A : Nat → Bool} {s : Sn} (h : Got a b c D n A s) (hm : mrkB a b c (D.length : Int) = true) (hn : (D.length + 7) / 8 = n) {i : Nat} (hi : i < n) :
    Got a b c D n (fun j => A j || decide (j = i)) (takeS s a b c (D.length : Int) (i : Int) (row8 D i)) := by
  have d39 := mrkB_d39 hm
  have c0 := mrkB_c0 hm
  have n5 : n ≤ 5 := by omega
  unfold takeS
  rw [if_pos ⟨hm, by omega, by omega⟩, Int.toNat_natCast]
  rcases h.mrk with ⟨h1, h2⟩ | h1
  · have z : s.a = 0 ∧ s.b = 0 ∧ s.c = 0 ∧ s.d = 0 := by rw [h2]; exact ⟨rfl, rfl, rfl, rfl⟩
    obtain ⟨z1, z2, z3, z4⟩ := z
    rw [if_neg (by rw [z4]; omega), if_neg (by rw [z3]; omega)]
    have hA : ∀ j, j < 5 → A j = false := fun j hj => by rw [← h.has j hj, h2]; exact Sn.new_has 0 0 0 0 j
    refine Got.put (Sn.new_ok _ _ _ _) n5 hi ⟨rfl, rfl, rfl, rfl⟩ (fun j hj => ?_) (fun j hj hj2 => ?_)
    · rw [Sn.new_has, hA j hj]
    · rw [hA j (by omega)] at hj2; cases hj2
  · obtain ⟨z1, z2, z3, z4⟩ := h1
    rw [if_pos ⟨z1.symm, z2.symm, z3.symm, z4.symm⟩]
    exact Got.put h.ok n5 hi ⟨z1, z2, z3, z4⟩ h.has h.part
theorem Got.congr {a b c : Int} {D : List Int} {n : Nat} {A B : Nat → Bool} {s : Sn} (h : Got a b c D n A s) (hAB : ∀ j, A j = B j) : Got a b c D n B s := by
  have : A = B := funext hAB
  rw [← this]
  exact h

/-! The law SnapMissing. -/

/-! The law SnapMissing, joined. -/
theorem Es.ok.fill {e : Es} {H : Heap} {b : Nat} (h : e.ok H) (hb : H[b]? = some none) (x : Option Blk) : e.ok (H.set b x) :=
  ⟨⟨h.ha.hx.fill hb x, h.ha.hp.fill hb x, h.ha.lx, h.ha.lp⟩, ⟨h.hb.hx.fill hb x, h.hb.hp.fill hb x, h.hb.lx, h.hb.lp⟩, ⟨h.hc.hx.fill hb x, h.hc.hp.fill hb x, h.hc.lx, h.hc.lp⟩⟩
def p9 (y0 y1 y2 y3 y4 y5 : Int) (e : Es) (l : List AV) : List AV := [.int .i64 y0, .int .i64 y1, .int .i64 y2, .int .i64 y3, .int .i64 y4, .int .i64 y5] ++ (e.av ++ l)

/-! The law SnapComes: a part that comes. -/
def hb (A : Nat → Bool) : List AV := [.bool (A 0), .bool (A 1), .bool (A 2), .bool (A 3), .bool (A 4)]
structure CI (H : Heap) (b3 b4 b5 b11 b12 q n : Nat) (y0 y1 y2 y3 y4 y5 a b c : Int) (e : Es) (A : Nat → Bool) (s : Sn) (X : Heap) : Prop where
  h3 : blkAt X b3 = some ⟨[.int .i64 y0, .int .i64 y1, .int .i64 y2, .int .i64 y3, .int .i64 y4, .int .i64 y5], true⟩
  h4 : blkAt X b4 = some ⟨e.av, true⟩
  h5 : blkAt X b5 = some ⟨[.int .i64 a, .int .i64 b, .int .i64 c, .int .i64 ((dlt e).length : Int)], true⟩
  hq : blkAt X q = some ⟨(pc (dlt e) n).map (AV.int .i64), true⟩
  h11 : blkAt X b11 = some ⟨s.av, true⟩
  h12 : blkAt X b12 = some ⟨hb A, true⟩
  got : Got a b c (dlt e) n A s
  ext : Ext H X
theorem CI.next {H : Heap} {b3 b4 b5 b11 b12 q n : Nat} {y0 y1 y2 y3 y4 y5 a b c : Int} {e : Es} {A A' : Nat → Bool} {s s' : Sn} {X : Heap} (h : CI H b3 b4 b5 b11 b12 q n y0 y1 y2 y3 y4 y5 a b c e A s X) (hg : Got a b c (dlt e) n A' s')
    (n3 : b3 < b11 ∧ b4 < b11 ∧ b5 < b11 ∧ q < b11 ∧ b11 < b12) (hH : H.length ≤ b11) : CI H b3 b4 b5 b11 b12 q n y0 y1 y2 y3 y4 y5 a b c e A' s' ((X.set b11 (some ⟨s'.av, true⟩)).set b12 (some ⟨hb A', true⟩)) := by
  obtain ⟨m3, m4, m5, mq, m12⟩ := n3
  have l11 := blkAt_lt h.h11
  have l12 := blkAt_lt h.h12
  have lo : ∀ (b : Nat) (k : Blk), b < b11 → blkAt X b = some k → blkAt ((X.set b11 (some ⟨s'.av, true⟩)).set b12 (some ⟨hb A', true⟩)) b = some k := fun b k hlt hb => by
    rw [blkAt_set_ne (by omega), blkAt_set_ne (by omega)]
    exact hb
  exact ⟨lo _ _ m3 h.h3, lo _ _ m4 h.h4, lo _ _ m5 h.h5, lo _ _ mq h.hq, by rw [blkAt_set_ne (by omega), blkAt_set_self l11], by rw [blkAt_set_self (by rw [List.length_set]; exact l12)], hg, (h.ext.set hH _).set (by omega) _⟩
theorem CI.grow {H : Heap} {b3 b4 b5 b11 b12 q n : Nat} {y0 y1 y2 y3 y4 y5 a b c : Int} {e : Es} {A : Nat → Bool} {s : Sn} {X Y : Heap} (h : CI H b3 b4 b5 b11 b12 q n y0 y1 y2 y3 y4 y5 a b c e A s X) (hx : Ext X Y) : CI H b3 b4 b5 b11 b12 q n y0 y1 y2 y3 y4 y5 a b c e A s Y :=
  ⟨hx.blk h.h3, hx.blk h.h4, hx.blk h.h5, hx.blk h.hq, hx.blk h.h11, hx.blk h.h12, h.got, h.ext.trans hx⟩

/-! The law SnapComes: a round. -/

/-! The law SnapComes, joined. -/

/-! A map that is cloned. -/
theorem run_eq_map (w : World) (d : Nat) (t k e : TypeId) (p : Option Nat) (h : Try.prog.underlying t = some (.map k e)) :
    (Op.equalIn (d + 1) t (.map p) (.map none)).run Try.prog w = .ok p.isNone w := by
  cases p <;> simp [Op.equalIn, run_underlying h]
theorem run_eql_map (w : World) (t k e : TypeId) (p : Option Nat) (h : Try.prog.underlying t = some (.map k e)) :
    (binOp .eql t (.map p) (.map none)).run Try.prog w = .ok (.bool p.isNone) w := by
  simp only [binOp]
  simp [show Op.equal t (.map p) (.map none) = Op.equalIn (9999 + 1) t (.map p) (.map none) from rfl, run_eq_map w 9999 t k e p h]
theorem run_assert_map (w : World) (t xT k e : TypeId) (v : Value) (h : Try.prog.underlying t = some (.map k e)) : (Instr.typeAssert (.iface t v) xT t false).run Try.prog w = .ok v w := by
  simp [Instr.typeAssert, run_underlying h, go_sem, Result.andThen]
theorem run_clone (w : World) {r : Nat} {es : Array MapEntry} {clock : Nat} (t : TypeId) (hb : w.heap[r]? = some (.map es clock)) :
    (Extern.MapsClone.clone #[.iface t (.map (some r))]).run Try.prog w = .ok (.iface t (.map (some w.heap.size))) (w.alloc (.map es clock)) := by
  have e : Extern.MapsClone.clone #[.iface t (.map (some r))] = (getObj r >>= fun o => match o with
      | .map entries clock => (newObj (.map entries clock) >>= fun n => pure (.iface t (.map (some n))))
      | _ => stuck "maps.clone: a map expected") := rfl
  rw [e]
  simp [MapKept.run_getObj_map hb, Result.andThen, go_sem]
set_option maxRecDepth 100000 in
theorem f28_raw (b : Nat) (es : Array MapEntry) (clock : Nat) (w : World) (hb : w.heap[b]? = some (.map es clock)) :
    Calls Try.prog 28 #[.map (some b)] w fun e w' => e = .returned (.map (some w.heap.size)) ∧ w' = w.alloc (.map es clock) := by
  have hq := fun w => run_eql_map w 40 _ _ (some b) Try.underlying40
  go_enter Try.func28, Try.ntmps28
  go_wp2
  rw [run_callFunc_extern Try.func51 (by kernel_rfl) (by kernel_rfl) (by kernel_rfl) (e := Extern.MapsClone.clone) (by kernel_rfl), run_clone w 40 hb]
  simp only [Result.andThen]
  rw [Oper.upon_value]
  go_wp2
  rw [run_assert_map _ 40 20 _ _ _ Try.underlying40]
  simp only [Result.andThen]
  rw [Oper.upon_value]
  go_wp2
  go_ret
  exact ⟨rfl, rfl⟩
theorem f28 {b : Nat} {ks vs : List AV} {H : Heap} (hb : blkAt H b = some ⟨[.mapo ks vs], true⟩) : ACall Try.prog 28 [.mapp b] H (.mapp H.length) (H ++ [some ⟨[.mapo ks vs], true⟩]) := by
  intro M w xs hH hv
  simp only [VRs] at hv
  obtain ⟨x, xs1, rfl, hx, rfl⟩ := hv
  simp only [VR] at hx
  obtain ⟨l, hl, rfl⟩ := hx
  obtain ⟨es, clock, he, hk, hvs⟩ := hH.map hb hl
  have hle : M.le (M.put H.length ⟨w.heap.size, 0, 0, true⟩) := Val.le_put (hH.dom _ (Nat.le_refl _))
  refine (f28_raw l.blk es clock w he).mono fun e w' ⟨h1, h2⟩ => ?_
  subst h2
  refine ⟨_, M.put H.length ⟨w.heap.size, 0, 0, true⟩, h1, hH.allocO _ _ ?_, (Kept.refl M H w).alloc _ _ _ true, ?_⟩
  · unfold ObjR
    exact ⟨es, clock, heap_alloc_new w _, hk.mono hle, hvs.mono hle⟩
  · simp only [VR]
    exact ⟨_, Val.ob_in (if_pos rfl) rfl, rfl⟩

/-! The law SnapKeeps. -/
theorem f12_same {b : Nat} {a0 a1 a2 a3 : Int} {e f : Es} {H : Heap} (hb : blkAt H b = some ⟨[.mapo [.agg [.int .i64 a0, .int .i64 a1, .int .i64 a2, .int .i64 a3]] [.agg e.av]], true⟩) : ACallE Try.prog 12 [.mapp b, .agg [.int .i64 a0, .int .i64 a1, .int .i64 a2, .int .i64 a3], .agg f.av] H fun v H' => ∃ p, v = .mapp p ∧ blkAt H' p = some ⟨[.mapo [.agg [.int .i64 a0, .int .i64 a1, .int .i64 a2, .int .i64 a3]] [.agg f.av]], true⟩ ∧ H.length ≤ p := by
  refine acallE (fun v Hf h => acallK12 (by simp) h) (acs_start ?_)
  have full : (AV.agg f.av).full = true := rfl
  have len : f.av.length = 29 := rfl
  have all : f.av.all AV.cell = true := rfl
  have tk : List.take 29 f.av = f.av := rfl
  have l := blkAt_lt hb
  have g28 := fun (G : Heap) => f28 (H := H ++ G) (by rw [blkAt_lo _ l]; exact hb)
  unfold c12
  simp (maxSteps := 1000000) (disch := omega) only [go_sem, Nat.reduceEqDiff, Nat.reduceLT, Nat.reduceAdd, Nat.reduceSub, Nat.reduceMul, Nat.reduceBEq, Int.reduceLT, Int.reduceAdd, Int.reduceMul, Int.reduceSub, Int.reduceToNat, Int.reduceLE, Int.reduceEq, ↓reduceIte, reduceCtorEq, Int.reduceNeg, Nat.reduceLeDiff,  full, len, all, tk]
  first | refine callB_intro (g28 _) ?_ | refine callD_intro (g28 _) ?_ | refine callP_intro (fun _ => (g28 _)) ?_ | refine callX_pure (g28 _) ?_
  simp (maxSteps := 1000000) (disch := omega) only [go_sem, Nat.reduceEqDiff, Nat.reduceLT, Nat.reduceAdd, Nat.reduceSub, Nat.reduceMul, Nat.reduceBEq, Int.reduceLT, Int.reduceAdd, Int.reduceMul, Int.reduceSub, Int.reduceToNat, Int.reduceLE, Int.reduceEq, ↓reduceIte, reduceCtorEq, Int.reduceNeg, Nat.reduceLeDiff,  full, len, all, tk, List.set_cons_zero]
  refine fin_e (by simp) (by simp (maxSteps := 1000000) (disch := omega) only [resVal, resAll, resOne, rs12, Env.get, go_sem, Nat.reduceEqDiff, Nat.reduceLT, Nat.reduceAdd, Nat.reduceSub, Nat.reduceMul, Nat.reduceBEq, Int.reduceLT, Int.reduceAdd, Int.reduceMul, Int.reduceSub, Int.reduceToNat, Int.reduceLE, Int.reduceEq, ↓reduceIte, reduceCtorEq, Int.reduceNeg, Nat.reduceLeDiff, ] <;> rfl) (Ext.app _ _) ⟨H.length + 2, rfl, by simp only [go_sem, Nat.reduceEqDiff, Nat.reduceLT, Nat.reduceAdd, Nat.reduceSub, Nat.reduceMul, Nat.reduceBEq, Int.reduceLT, Int.reduceAdd, Int.reduceMul, Int.reduceSub, Int.reduceToNat, Int.reduceLE, Int.reduceEq, ↓reduceIte, reduceCtorEq, Int.reduceNeg, Nat.reduceLeDiff], by omega⟩
theorem f12_other {b : Nat} {a0 a1 a2 a3 m0 m1 m2 m3 : Int} {e f : Es} {H : Heap} (hb : blkAt H b = some ⟨[.mapo [.agg [.int .i64 a0, .int .i64 a1, .int .i64 a2, .int .i64 a3]] [.agg e.av]], true⟩) (hne : (decide (m0 = a0) && (decide (m1 = a1) && (decide (m2 = a2) && decide (m3 = a3)))) = false) : ACallE Try.prog 12 [.mapp b, .agg [.int .i64 m0, .int .i64 m1, .int .i64 m2, .int .i64 m3], .agg f.av] H fun v H' => ∃ p, v = .mapp p ∧ blkAt H' p = some ⟨[.mapo [.agg [.int .i64 a0, .int .i64 a1, .int .i64 a2, .int .i64 a3], .agg [.int .i64 m0, .int .i64 m1, .int .i64 m2, .int .i64 m3]] [.agg e.av, .agg f.av]], true⟩ ∧ H.length ≤ p := by
  refine acallE (fun v Hf h => acallK12 (by simp) h) (acs_start ?_)
  have full : (AV.agg f.av).full = true := rfl
  have len : f.av.length = 29 := rfl
  have all : f.av.all AV.cell = true := rfl
  have tk : List.take 29 f.av = f.av := rfl
  have l := blkAt_lt hb
  have g28 := fun (G : Heap) => f28 (H := H ++ G) (by rw [blkAt_lo _ l]; exact hb)
  unfold c12
  simp (maxSteps := 1000000) (disch := omega) only [go_sem, Nat.reduceEqDiff, Nat.reduceLT, Nat.reduceAdd, Nat.reduceSub, Nat.reduceMul, Nat.reduceBEq, Int.reduceLT, Int.reduceAdd, Int.reduceMul, Int.reduceSub, Int.reduceToNat, Int.reduceLE, Int.reduceEq, ↓reduceIte, reduceCtorEq, Int.reduceNeg, Nat.reduceLeDiff,  full, len, all, tk]
  first | refine callB_intro (g28 _) ?_ | refine callD_intro (g28 _) ?_ | refine callP_intro (fun _ => (g28 _)) ?_ | refine callX_pure (g28 _) ?_
  simp (maxSteps := 1000000) (disch := omega) only [go_sem, Nat.reduceEqDiff, Nat.reduceLT, Nat.reduceAdd, Nat.reduceSub, Nat.reduceMul, Nat.reduceBEq, Int.reduceLT, Int.reduceAdd, Int.reduceMul, Int.reduceSub, Int.reduceToNat, Int.reduceLE, Int.reduceEq, ↓reduceIte, reduceCtorEq, Int.reduceNeg, Nat.reduceLeDiff,  full, len, all, tk, hne]
  refine fin_e (by simp) (by simp (maxSteps := 1000000) (disch := omega) only [resVal, resAll, resOne, rs12, Env.get, go_sem, Nat.reduceEqDiff, Nat.reduceLT, Nat.reduceAdd, Nat.reduceSub, Nat.reduceMul, Nat.reduceBEq, Int.reduceLT, Int.reduceAdd, Int.reduceMul, Int.reduceSub, Int.reduceToNat, Int.reduceLE, Int.reduceEq, ↓reduceIte, reduceCtorEq, Int.reduceNeg, Nat.reduceLeDiff, ] <;> rfl) (Ext.app _ _) ⟨H.length + 2, rfl, by simp only [go_sem, Nat.reduceEqDiff, Nat.reduceLT, Nat.reduceAdd, Nat.reduceSub, Nat.reduceMul, Nat.reduceBEq, Int.reduceLT, Int.reduceAdd, Int.reduceMul, Int.reduceSub, Int.reduceToNat, Int.reduceLE, Int.reduceEq, ↓reduceIte, reduceCtorEq, Int.reduceNeg, Nat.reduceLeDiff], by omega⟩
def p3 (a0 a1 a2 a3 b0 b1 b2 b3 : Int) (e f : Es) : List AV := [.int .i64 a0, .int .i64 a1, .int .i64 a2, .int .i64 a3, .int .i64 b0, .int .i64 b1, .int .i64 b2, .int .i64 b3] ++ (e.av ++ f.av)
theorem f3 {a0 a1 a2 a3 b0 b1 b2 b3 : Int} {e f : Es} {H : Heap} (hoe : e.ok H) (hof : f.ok H) : ACall Try.prog 3 [.agg (p3 a0 a1 a2 a3 b0 b1 b2 b3 e f)] H (.bool true) H := by
  refine acall3 (by simp) (acs_start ?_)
  have fullE : (AV.agg e.av).full = true := rfl
  have lenE : e.av.length = 29 := rfl
  have allE : e.av.all AV.cell = true := rfl
  have tkE : List.take 29 e.av = e.av := rfl
  have drpE : List.drop 29 e.av = [] := rfl
  have fullF : (AV.agg f.av).full = true := rfl
  have lenF : f.av.length = 29 := rfl
  have allF : f.av.all AV.cell = true := rfl
  have tkF : List.take 29 f.av = f.av := rfl
  have drpF : List.drop 29 f.av = [] := rfl
  have t0 : List.take 4 (p3 a0 a1 a2 a3 b0 b1 b2 b3 e f) = [.int .i64 a0, .int .i64 a1, .int .i64 a2, .int .i64 a3] := rfl
  have t4 : List.take 4 (List.drop 4 (p3 a0 a1 a2 a3 b0 b1 b2 b3 e f)) = [.int .i64 b0, .int .i64 b1, .int .i64 b2, .int .i64 b3] := rfl
  have t8 : List.take 29 (List.drop 8 (p3 a0 a1 a2 a3 b0 b1 b2 b3 e f)) = e.av := rfl
  have t37 : List.take 29 (List.drop 37 (p3 a0 a1 a2 a3 b0 b1 b2 b3 e f)) = f.av := rfl
  have lp : (p3 a0 a1 a2 a3 b0 b1 b2 b3 e f).length = 66 := rfl
  have ap : (p3 a0 a1 a2 a3 b0 b1 b2 b3 e f).all AV.cell = true := by unfold p3; rw [List.all_append, List.all_append, allE, allF]; rfl
  have fp : (AV.agg (p3 a0 a1 a2 a3 b0 b1 b2 b3 e f)).full = true := ap
  have gE := fun G => f11 (hoe.app G)
  have gF := fun G => f11 (hof.app G)
  generalize p3 a0 a1 a2 a3 b0 b1 b2 b3 e f = P3 at *
  unfold c3
  simp (maxSteps := 1000000) (disch := omega) only [go_sem, Nat.reduceEqDiff, Nat.reduceLT, Nat.reduceAdd, Nat.reduceSub, Nat.reduceMul, Nat.reduceBEq, Int.reduceLT, Int.reduceAdd, Int.reduceMul, Int.reduceSub, Int.reduceToNat, Int.reduceLE, Int.reduceEq, ↓reduceIte, reduceCtorEq, Int.reduceNeg, Nat.reduceLeDiff,  lp, ap, fp, t0, t4, t8, t37, fullE, lenE, allE, tkE, drpE, fullF, lenF, allF, tkF, drpF]
  first | refine callB_intro (f10) ?_ | refine callD_intro (f10) ?_ | refine callP_intro (fun _ => (f10)) ?_ | refine callX_pure (f10) ?_
  simp (maxSteps := 1000000) (disch := omega) only [go_sem, Nat.reduceEqDiff, Nat.reduceLT, Nat.reduceAdd, Nat.reduceSub, Nat.reduceMul, Nat.reduceBEq, Int.reduceLT, Int.reduceAdd, Int.reduceMul, Int.reduceSub, Int.reduceToNat, Int.reduceLE, Int.reduceEq, ↓reduceIte, reduceCtorEq, Int.reduceNeg, Nat.reduceLeDiff,  fullE, lenE, allE, tkE, drpE]
  first | refine callB_intro (gE _) ?_ | refine callD_intro (gE _) ?_ | refine callP_intro (fun _ => (gE _)) ?_ | refine callX_pure (gE _) ?_
  cases he : estB e with
  | false =>
    simp (maxSteps := 1000000) (disch := omega) only [go_sem, Nat.reduceEqDiff, Nat.reduceLT, Nat.reduceAdd, Nat.reduceSub, Nat.reduceMul, Nat.reduceBEq, Int.reduceLT, Int.reduceAdd, Int.reduceMul, Int.reduceSub, Int.reduceToNat, Int.reduceLE, Int.reduceEq, ↓reduceIte, reduceCtorEq, Int.reduceNeg, Nat.reduceLeDiff]
    exact fin_ext (by simp) (Ext.app _ _) (by simp (maxSteps := 1000000) (disch := omega) only [resVal, resAll, resOne, rs3, Env.get, go_sem, Nat.reduceEqDiff, Nat.reduceLT, Nat.reduceAdd, Nat.reduceSub, Nat.reduceMul, Nat.reduceBEq, Int.reduceLT, Int.reduceAdd, Int.reduceMul, Int.reduceSub, Int.reduceToNat, Int.reduceLE, Int.reduceEq, ↓reduceIte, reduceCtorEq, Int.reduceNeg, Nat.reduceLeDiff]) (by simp only [AV.und, AV.unds, and_self])
  | true =>
    simp (maxSteps := 1000000) (disch := omega) only [go_sem, Nat.reduceEqDiff, Nat.reduceLT, Nat.reduceAdd, Nat.reduceSub, Nat.reduceMul, Nat.reduceBEq, Int.reduceLT, Int.reduceAdd, Int.reduceMul, Int.reduceSub, Int.reduceToNat, Int.reduceLE, Int.reduceEq, ↓reduceIte, reduceCtorEq, Int.reduceNeg, Nat.reduceLeDiff,  fullF, lenF, allF, tkF, drpF]
    first | refine callB_intro (gF _) ?_ | refine callD_intro (gF _) ?_ | refine callP_intro (fun _ => (gF _)) ?_ | refine callX_pure (gF _) ?_
    cases hf : estB f with
    | false =>
      simp (maxSteps := 1000000) (disch := omega) only [go_sem, Nat.reduceEqDiff, Nat.reduceLT, Nat.reduceAdd, Nat.reduceSub, Nat.reduceMul, Nat.reduceBEq, Int.reduceLT, Int.reduceAdd, Int.reduceMul, Int.reduceSub, Int.reduceToNat, Int.reduceLE, Int.reduceEq, ↓reduceIte, reduceCtorEq, Int.reduceNeg, Nat.reduceLeDiff]
      exact fin_ext (by simp) (Ext.app _ _) (by simp (maxSteps := 1000000) (disch := omega) only [resVal, resAll, resOne, rs3, Env.get, go_sem, Nat.reduceEqDiff, Nat.reduceLT, Nat.reduceAdd, Nat.reduceSub, Nat.reduceMul, Nat.reduceBEq, Int.reduceLT, Int.reduceAdd, Int.reduceMul, Int.reduceSub, Int.reduceToNat, Int.reduceLE, Int.reduceEq, ↓reduceIte, reduceCtorEq, Int.reduceNeg, Nat.reduceLeDiff]) (by simp only [AV.und, AV.unds, and_self])
    | true =>
      simp (maxSteps := 1000000) (disch := omega) only [go_sem, Nat.reduceEqDiff, Nat.reduceLT, Nat.reduceAdd, Nat.reduceSub, Nat.reduceMul, Nat.reduceBEq, Int.reduceLT, Int.reduceAdd, Int.reduceMul, Int.reduceSub, Int.reduceToNat, Int.reduceLE, Int.reduceEq, ↓reduceIte, reduceCtorEq, Int.reduceNeg, Nat.reduceLeDiff,  fullE, lenE, allE, tkE, drpE]
      refine callBE f12_nil ?_
      rintro v X hx ⟨p, rfl, hp, hpl⟩
      have hX : Ext H X := (Ext.app _ _).trans hx
      have x3 : blkAt X (H.length + 1) = some ⟨[.int .i64 a0, .int .i64 a1, .int .i64 a2, .int .i64 a3], true⟩ := hx.blk (by simp only [go_sem, Nat.reduceEqDiff, Nat.reduceLT, Nat.reduceAdd, Nat.reduceSub, Nat.reduceMul, Nat.reduceBEq, Int.reduceLT, Int.reduceAdd, Int.reduceMul, Int.reduceSub, Int.reduceToNat, Int.reduceLE, Int.reduceEq, ↓reduceIte, reduceCtorEq, Int.reduceNeg, Nat.reduceLeDiff])
      have x4 : blkAt X (H.length + 2) = some ⟨[.int .i64 b0, .int .i64 b1, .int .i64 b2, .int .i64 b3], true⟩ := hx.blk (by simp only [go_sem, Nat.reduceEqDiff, Nat.reduceLT, Nat.reduceAdd, Nat.reduceSub, Nat.reduceMul, Nat.reduceBEq, Int.reduceLT, Int.reduceAdd, Int.reduceMul, Int.reduceSub, Int.reduceToNat, Int.reduceLE, Int.reduceEq, ↓reduceIte, reduceCtorEq, Int.reduceNeg, Nat.reduceLeDiff])
      have x5 : blkAt X (H.length + 3) = some ⟨e.av, true⟩ := hx.blk (by simp only [go_sem, Nat.reduceEqDiff, Nat.reduceLT, Nat.reduceAdd, Nat.reduceSub, Nat.reduceMul, Nat.reduceBEq, Int.reduceLT, Int.reduceAdd, Int.reduceMul, Int.reduceSub, Int.reduceToNat, Int.reduceLE, Int.reduceEq, ↓reduceIte, reduceCtorEq, Int.reduceNeg, Nat.reduceLeDiff])
      have x6 : blkAt X (H.length + 4) = some ⟨f.av, true⟩ := hx.blk (by simp only [go_sem, Nat.reduceEqDiff, Nat.reduceLT, Nat.reduceAdd, Nat.reduceSub, Nat.reduceMul, Nat.reduceBEq, Int.reduceLT, Int.reduceAdd, Int.reduceMul, Int.reduceSub, Int.reduceToNat, Int.reduceLE, Int.reduceEq, ↓reduceIte, reduceCtorEq, Int.reduceNeg, Nat.reduceLeDiff])
      simp (maxSteps := 1000000) (disch := omega) only [go_sem, Nat.reduceEqDiff, Nat.reduceLT, Nat.reduceAdd, Nat.reduceSub, Nat.reduceMul, Nat.reduceBEq, Int.reduceLT, Int.reduceAdd, Int.reduceMul, Int.reduceSub, Int.reduceToNat, Int.reduceLE, Int.reduceEq, ↓reduceIte, reduceCtorEq, Int.reduceNeg, Nat.reduceLeDiff,  x4, x6, fullF, lenF, allF, tkF, drpF]
      by_cases hab : a0 = b0 ∧ a1 = b1 ∧ a2 = b2 ∧ a3 = b3
      · obtain ⟨rfl, rfl, rfl, rfl⟩ := hab
        refine callBE (f12_same hp) ?_
        rintro v Y hy ⟨r, rfl, hr, hrl⟩
        have y3 := hy.blk x3
        have y4 := hy.blk x4
        have y5 := hy.blk x5
        have y6 := hy.blk x6
        have yp := hy.blk hp
        have m3 := blkAt_lt y3
        have m4 := blkAt_lt y4
        have m5 := blkAt_lt y5
        have m6 := blkAt_lt y6
        have mp := blkAt_lt yp
        have mr := blkAt_lt hr
        have okE := (hoe.ext (hX.trans hy))
        have okF := (hof.ext (hX.trans hy))
        have gee := fun G => f13 (okE.app G) (okE.app G) (.refl e)
        have gff := fun G => f13 (okF.app G) (okF.app G) (.refl f)
        simp (maxSteps := 1000000) (disch := omega) only [go_sem, Nat.reduceEqDiff, Nat.reduceLT, Nat.reduceAdd, Nat.reduceSub, Nat.reduceMul, Nat.reduceBEq, Int.reduceLT, Int.reduceAdd, Int.reduceMul, Int.reduceSub, Int.reduceToNat, Int.reduceLE, Int.reduceEq, ↓reduceIte, reduceCtorEq, Int.reduceNeg, Nat.reduceLeDiff,  y3, y4, y5, y6, yp, hr, m3, m4, m5, m6, mp, mr, fullE, lenE, allE, tkE, drpE, fullF, lenF, allF, tkF, drpF, blkAt_lo]
        first | refine callB_intro (gee _) ?_ | refine callD_intro (gee _) ?_ | refine callP_intro (fun _ => (gee _)) ?_ | refine callX_pure (gee _) ?_
        simp (maxSteps := 1000000) (disch := omega) only [go_sem, Nat.reduceEqDiff, Nat.reduceLT, Nat.reduceAdd, Nat.reduceSub, Nat.reduceMul, Nat.reduceBEq, Int.reduceLT, Int.reduceAdd, Int.reduceMul, Int.reduceSub, Int.reduceToNat, Int.reduceLE, Int.reduceEq, ↓reduceIte, reduceCtorEq, Int.reduceNeg, Nat.reduceLeDiff,  y3, y4, y5, y6, yp, hr, m3, m4, m5, m6, mp, mr, fullE, lenE, allE, tkE, drpE, fullF, lenF, allF, tkF, drpF, blkAt_lo]
        first | refine callB_intro (gff _) ?_ | refine callD_intro (gff _) ?_ | refine callP_intro (fun _ => (gff _)) ?_ | refine callX_pure (gff _) ?_
        simp (maxSteps := 1000000) (disch := omega) only [go_sem, Nat.reduceEqDiff, Nat.reduceLT, Nat.reduceAdd, Nat.reduceSub, Nat.reduceMul, Nat.reduceBEq, Int.reduceLT, Int.reduceAdd, Int.reduceMul, Int.reduceSub, Int.reduceToNat, Int.reduceLE, Int.reduceEq, ↓reduceIte, reduceCtorEq, Int.reduceNeg, Nat.reduceLeDiff,  y3, y4, y5, y6, yp, hr, m3, m4, m5, m6, mp, mr, blkAt_lo]
        exact fin_ext (by simp) ((hX.trans hy).to _) (by simp (maxSteps := 1000000) (disch := omega) only [resVal, resAll, resOne, rs3, Env.get, go_sem, Nat.reduceEqDiff, Nat.reduceLT, Nat.reduceAdd, Nat.reduceSub, Nat.reduceMul, Nat.reduceBEq, Int.reduceLT, Int.reduceAdd, Int.reduceMul, Int.reduceSub, Int.reduceToNat, Int.reduceLE, Int.reduceEq, ↓reduceIte, reduceCtorEq, Int.reduceNeg, Nat.reduceLeDiff]) (by simp only [AV.und, AV.unds, and_self])
      · have mne : (decide (b0 = a0) && (decide (b1 = a1) && (decide (b2 = a2) && decide (b3 = a3)))) = false := by
          by_cases e1 : b0 = a0
          · by_cases e2 : b1 = a1
            · by_cases e3 : b2 = a2
              · by_cases e4 : b3 = a3
                · exact absurd ⟨e1.symm, e2.symm, e3.symm, e4.symm⟩ hab
                · simp [e4]
              · simp [e3]
            · simp [e2]
          · simp [e1]
        have mne2 : (decide (a0 = b0) && (decide (a1 = b1) && (decide (a2 = b2) && decide (a3 = b3)))) = false := by
          have c : ∀ x y : Int, decide (x = y) = decide (y = x) := fun x y => by by_cases h : x = y <;> simp [h, eq_comm]
          rw [c a0, c a1, c a2, c a3]
          exact mne
        refine callBE (f12_other hp mne) ?_
        rintro v Y hy ⟨r, rfl, hr, hrl⟩
        have y3 := hy.blk x3
        have y4 := hy.blk x4
        have y5 := hy.blk x5
        have y6 := hy.blk x6
        have yp := hy.blk hp
        have m3 := blkAt_lt y3
        have m4 := blkAt_lt y4
        have m5 := blkAt_lt y5
        have m6 := blkAt_lt y6
        have mp := blkAt_lt yp
        have mr := blkAt_lt hr
        have okE := (hoe.ext (hX.trans hy))
        have okF := (hof.ext (hX.trans hy))
        have gee := fun G => f13 (okE.app G) (okE.app G) (.refl e)
        have gff := fun G => f13 (okF.app G) (okF.app G) (.refl f)
        simp (maxSteps := 1000000) (disch := omega) only [go_sem, Nat.reduceEqDiff, Nat.reduceLT, Nat.reduceAdd, Nat.reduceSub, Nat.reduceMul, Nat.reduceBEq, Int.reduceLT, Int.reduceAdd, Int.reduceMul, Int.reduceSub, Int.reduceToNat, Int.reduceLE, Int.reduceEq, ↓reduceIte, reduceCtorEq, Int.reduceNeg, Nat.reduceLeDiff,  y3, y4, y5, y6, yp, hr, m3, m4, m5, m6, mp, mr, mne, mne2, fullE, lenE, allE, tkE, drpE, fullF, lenF, allF, tkF, drpF, blkAt_lo]
        first | refine callB_intro (gee _) ?_ | refine callD_intro (gee _) ?_ | refine callP_intro (fun _ => (gee _)) ?_ | refine callX_pure (gee _) ?_
        simp (maxSteps := 1000000) (disch := omega) only [go_sem, Nat.reduceEqDiff, Nat.reduceLT, Nat.reduceAdd, Nat.reduceSub, Nat.reduceMul, Nat.reduceBEq, Int.reduceLT, Int.reduceAdd, Int.reduceMul, Int.reduceSub, Int.reduceToNat, Int.reduceLE, Int.reduceEq, ↓reduceIte, reduceCtorEq, Int.reduceNeg, Nat.reduceLeDiff,  y3, y4, y5, y6, yp, hr, m3, m4, m5, m6, mp, mr, mne, mne2, fullE, lenE, allE, tkE, drpE, fullF, lenF, allF, tkF, drpF, blkAt_lo]
        first | refine callB_intro (gff _) ?_ | refine callD_intro (gff _) ?_ | refine callP_intro (fun _ => (gff _)) ?_ | refine callX_pure (gff _) ?_
        simp (maxSteps := 1000000) (disch := omega) only [go_sem, Nat.reduceEqDiff, Nat.reduceLT, Nat.reduceAdd, Nat.reduceSub, Nat.reduceMul, Nat.reduceBEq, Int.reduceLT, Int.reduceAdd, Int.reduceMul, Int.reduceSub, Int.reduceToNat, Int.reduceLE, Int.reduceEq, ↓reduceIte, reduceCtorEq, Int.reduceNeg, Nat.reduceLeDiff,  y3, y4, y5, y6, yp, hr, m3, m4, m5, m6, mp, mr, mne, mne2, fullE, lenE, allE, tkE, drpE, blkAt_lo]
        first | refine callB_intro (gee _) ?_ | refine callD_intro (gee _) ?_ | refine callP_intro (fun _ => (gee _)) ?_ | refine callX_pure (gee _) ?_
        simp (maxSteps := 1000000) (disch := omega) only [go_sem, Nat.reduceEqDiff, Nat.reduceLT, Nat.reduceAdd, Nat.reduceSub, Nat.reduceMul, Nat.reduceBEq, Int.reduceLT, Int.reduceAdd, Int.reduceMul, Int.reduceSub, Int.reduceToNat, Int.reduceLE, Int.reduceEq, ↓reduceIte, reduceCtorEq, Int.reduceNeg, Nat.reduceLeDiff]
        exact fin_ext (by simp) ((hX.trans hy).to _) (by simp (maxSteps := 1000000) (disch := omega) only [resVal, resAll, resOne, rs3, Env.get, go_sem, Nat.reduceEqDiff, Nat.reduceLT, Nat.reduceAdd, Nat.reduceSub, Nat.reduceMul, Nat.reduceBEq, Int.reduceLT, Int.reduceAdd, Int.reduceMul, Int.reduceSub, Int.reduceToNat, Int.reduceLE, Int.reduceEq, ↓reduceIte, reduceCtorEq, Int.reduceNeg, Nat.reduceLeDiff]) (by simp only [AV.und, AV.unds, and_self])
end Go.Proofs.Ytbjlbcihhleclaa.Ah
