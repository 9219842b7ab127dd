/- V10o: a part of the proof: contracts of functions, or plain laws. Conditions: none. -/
import Derived.Test.YtjibcbfdfambeaaV10k
namespace Go.Proofs.Ytjibcbfdfambeaa.Ah
open Go Go.WideShapes
set_option maxHeartbeats 4000000
set_option linter.unusedSimpArgs false
set_option linter.unusedVariables false
/-! The law NvramCrashes. -/
inductive RdK where
  | no
  | so (r : List Int) (i : Int)
def RdK.av (L : Nat) : RdK → AV
  | .no => .nils
  | .so r _ => .sl L 0 r.length 1 none
def RdK.i : RdK → Int
  | .no => 0
  | .so _ i => i
def RdK.b : RdK → Bool
  | .no => false
  | .so _ _ => true
def RdK.e : RdK → Heap
  | .no => []
  | .so r _ => [some ⟨r.map i64, false⟩]
structure Stt where
  p0 : Nat
  o0 : Nat
  k0 : Option Nat
  ws : List Int
  c0 : Int
  p1 : Nat
  o1 : Nat
  k1 : Option Nat
  vs : List Int
  c1 : Int
def Stt.av (S : Stt) : List AV := nvc S.p0 S.o0 S.ws.length S.k0 S.c0 S.p1 S.o1 S.vs.length S.k1 S.c1
structure Stt.ok (S : Stt) (H : Heap) : Prop where
  h0 : Sl i64 H S.p0 S.o0 S.ws
  h1 : Sl i64 H S.p1 S.o1 S.vs
  l0 : S.ws.length ≤ 1000
  l1 : S.vs.length ≤ 1000
theorem Stt.ok.app {S : Stt} {H : Heap} (h : S.ok H) (G : Heap) : S.ok (H ++ G) := ⟨h.h0.app G, h.h1.app G, h.l0, h.l1⟩
def Stt.nw (S : Stt) : Int := Ah.nw S.ws S.c0 S.vs S.c1
def Stt.rd (S : Stt) : RdK := if S.nw = -1 then .no else if S.nw = 0 then .so (S.ws.drop 1) (hd0 S.ws) else .so (S.vs.drop 1) (hd0 S.vs)
theorem f12_all {S : Stt} {H : Heap} (h : S.ok H) : ACall Try.prog 12 [.agg S.av] H (.tup [S.rd.av H.length, .int .i64 S.rd.i, .bool S.rd.b]) (H ++ S.rd.e) := by
  obtain ⟨h0, h1, l0, l1⟩ := h
  have e1 : (S.ws.drop 1).length = S.ws.length - 1 := List.length_drop
  have e2 : (S.vs.drop 1).length = S.vs.length - 1 := List.length_drop
  unfold Stt.rd Stt.nw Stt.av
  rcases nw_cases S.ws S.c0 S.vs S.c1 with ⟨hw, a, b⟩ | ⟨hw, a, b⟩ | ⟨hw, a, b⟩
  · rw [if_pos hw]
    have := f12_none (k0 := S.k0) (k1 := S.k1) h0 h1 (by omega) (by omega) hw
    simpa [RdK.av, RdK.i, RdK.b, RdK.e] using this
  · rw [if_neg (by omega), if_pos hw]
    have := f12_0 (k0 := S.k0) (k1 := S.k1) h0 h1 (by omega) (by omega) hw (wh_pos a)
    simp only [RdK.av, RdK.i, RdK.b, RdK.e, e1]
    exact this
  · rw [if_neg (by omega), if_neg (by omega)]
    have := f12_1 (k0 := S.k0) (k1 := S.k1) h0 h1 (by omega) (by omega) hw (wh_pos a)
    simp only [RdK.av, RdK.i, RdK.b, RdK.e, e2]
    exact this
/-- What is behind a reading. -/
def RdK.is (k : RdK) (us : List Int) : Prop := ∃ i, k = .so us i
theorem rd_no {S : Stt} (h : S.nw = -1) : S.rd = .no := by unfold Stt.rd; rw [if_pos h]
theorem rd_0 {S : Stt} (h : S.nw = 0) : S.rd = .so (S.ws.drop 1) (hd0 S.ws) := by unfold Stt.rd; rw [if_neg (by omega), if_pos h]
theorem rd_1 {S : Stt} (h : S.nw = 1) : S.rd = .so (S.vs.drop 1) (hd0 S.vs) := by unfold Stt.rd; rw [if_neg (by omega), if_neg (by omega)]
theorem f16_all {S : Stt} {us : List Int} {q oq : Nat} {kq : Option Nat} {done : Int} {H : Heap} (h : S.ok H) (hu : Sl i64 H q oq us) (lu : us.length ≤ 1000) :
    ∃ (E : Heap) (S' : Stt) (e : Int), ACall Try.prog 16 [.agg S.av, .sl q oq us.length 1 kq, .int .i64 done] H (.tup [.agg S'.av, .int .i64 e]) (H ++ E) ∧ S'.ok (H ++ E) ∧
      ((e = 5 ∧ S'.rd = S.rd) ∨ (e = 0 ∧ us.length ≤ 600 ∧ ((us.length : Int) + 3 ≤ done → S'.rd.is us) ∧ (¬ (us.length : Int) + 3 ≤ done → S'.rd = S.rd))) := by
  obtain ⟨h0, h1, l0, l1⟩ := h
  have err : ACall Try.prog 16 [.agg S.av, .sl q oq us.length 1 kq, .int .i64 done] H (.tup [.agg S.av, .int .i64 5]) H → ∃ (E : Heap) (S' : Stt) (e : Int), ACall Try.prog 16 [.agg S.av, .sl q oq us.length 1 kq, .int .i64 done] H (.tup [.agg S'.av, .int .i64 e]) (H ++ E) ∧ S'.ok (H ++ E) ∧
      ((e = 5 ∧ S'.rd = S.rd) ∨ (e = 0 ∧ us.length ≤ 600 ∧ ((us.length : Int) + 3 ≤ done → S'.rd.is us) ∧ (¬ (us.length : Int) + 3 ≤ done → S'.rd = S.rd))) := by
    intro g
    exact ⟨[], S, 5, by rw [List.append_nil]; exact g, by rw [List.append_nil]; exact ⟨h0, h1, l0, l1⟩, .inl ⟨rfl, rfl⟩⟩
  have new : ∀ w : Int, Sl i64 (H ++ [some ⟨(w :: us).map i64, true⟩]) H.length 0 (w :: us) := fun w => Sl.whole (o := true) (by simp only [strC, blkAt_app, blkAt_app0, blkAt_zero, blkAt_succ, List.set_cons_zero, List.set_cons_succ, set_app, set_app0, Option.map_some, Option.bind_some, rd, setCells, lay, rdS, szOk, rapp, ownAt, lenAt, Option.any_some, Option.getD_some, List.drop_zero, List.drop_succ_cons, List.take_succ_cons, List.take_zero, List.drop_nil, List.take_nil, Nat.reduceLeDiff, Nat.lt_irrefl, Nat.zero_add, Nat.add_zero, Nat.mul_one, Nat.one_mul, Nat.add_assoc, Option.some.injEq, eq_self])
  have newt : ∀ (w : Int) (d : Nat), d ≤ us.length + 1 → Sl i64 (H ++ [some ⟨(w :: us).map i64, true⟩]) H.length 0 ((w :: us).take d) ∧ ((w :: us).take d).length = d := fun w d hd => ⟨(new w).take d, by rw [List.length_take, List.length_cons]; omega⟩
  by_cases hb : us.length ≤ 600
  rotate_left
  · rcases nw_cases S.ws S.c0 S.vs S.c1 with ⟨hw, a, b⟩ | ⟨hw, a, b⟩ | ⟨hw, a, b⟩
    · exact err (f16_big_n h0 h1 hu l0 l1 lu hw (by omega))
    · exact err (f16_big_0 h0 h1 hu l0 l1 lu hw (wh_pos a) (by omega))
    · exact err (f16_big_1 h0 h1 hu l0 l1 lu hw (wh_pos a) (by omega))
  rcases nw_cases S.ws S.c0 S.vs S.c1 with ⟨hw, a, b⟩ | ⟨hw, a, b⟩ | ⟨hw, a, b⟩
  · by_cases hd : (us.length : Int) + 3 ≤ done
    · refine ⟨_, ⟨H.length, 0, none, 1 :: us, com (1 :: us), S.p1, S.o1, S.k1, S.vs, S.c1⟩, 0, f16_full_n h0 h1 hu l0 l1 lu hw hb hd, ⟨new 1, h1.app _, by simp; omega, l1⟩, .inr ⟨rfl, hb, fun _ => ?_, fun h => absurd hd h⟩⟩
      exact ⟨_, rd_0 (nw_0 (wh_new (by decide)) (.inl b))⟩
    · by_cases h2 : 1 < done
      · obtain ⟨d, hde⟩ : ∃ d : Nat, done = (d : Int) + 1 := ⟨(done - 1).toNat, by omega⟩
        obtain ⟨g1, g2⟩ := newt 1 d (by omega)
        have g := f16_part_n (kq := kq) (k0 := S.k0) (k1 := S.k1) h0 h1 hu l0 l1 lu hw hb hde (by omega) (by omega)
        rw [← g2] at g
        refine ⟨_, ⟨H.length, 0, some ((1 :: us).take d).length, (1 :: us).take d, 0, S.p1, S.o1, S.k1, S.vs, S.c1⟩, 0, g, ⟨g1, h1.app _, Nat.le_trans (Nat.le_of_eq g2) (by omega), l1⟩, .inr ⟨rfl, hb, fun h => absurd h hd, fun _ => ?_⟩⟩
        rw [rd_no (S := S) hw]
        exact rd_no (nw_f (wh_zero _) b)
      · by_cases h3 : done = 1
        · refine ⟨_, ⟨S.p0, S.o0, S.k0, S.ws, 0, S.p1, S.o1, S.k1, S.vs, S.c1⟩, 0, f16_one_n h0 h1 hu l0 l1 lu hw hb h3, ⟨h0.app _, h1.app _, l0, l1⟩, .inr ⟨rfl, hb, fun h => absurd h hd, fun _ => ?_⟩⟩
          rw [rd_no (S := S) hw]
          exact rd_no (nw_f (wh_zero _) b)
        · exact ⟨_, S, 0, f16_zero_n h0 h1 hu l0 l1 lu hw hb (by omega), ⟨h0.app _, h1.app _, l0, l1⟩, .inr ⟨rfl, hb, fun h => absurd h hd, fun _ => rfl⟩⟩
  · have hh := wh_hd a
    have hn := wh_pos a
    by_cases hf : hd0 S.ws = 4611686018427387904
    · exact err (f16_far_0 h0 h1 hu l0 l1 lu hw hn hb hf)
    have hf2 : 0 ≤ hd0 S.ws ∧ hd0 S.ws < 4611686018427387904 := ⟨hh.1, by omega⟩
    by_cases hd : (us.length : Int) + 3 ≤ done
    · refine ⟨_, ⟨S.p0, S.o0, S.k0, S.ws, S.c0, H.length, 0, none, (hd0 S.ws + 1) :: us, com ((hd0 S.ws + 1) :: us)⟩, 0, f16_full_0 h0 h1 hu l0 l1 lu hw hn hb hf2 hd, ⟨h0.app _, new _, l0, by simp; omega⟩, .inr ⟨rfl, hb, fun _ => ?_, fun h => absurd hd h⟩⟩
      exact ⟨_, rd_1 (nw_1 (wh_new ⟨by omega, by omega⟩) (.inr (by show hd0 S.ws < hd0 S.ws + 1; omega)))⟩
    · by_cases h2 : 1 < done
      · obtain ⟨d, hde⟩ : ∃ d : Nat, done = (d : Int) + 1 := ⟨(done - 1).toNat, by omega⟩
        obtain ⟨g1, g2⟩ := newt (hd0 S.ws + 1) d (by omega)
        have g := f16_part_0 (kq := kq) (k0 := S.k0) (k1 := S.k1) h0 h1 hu l0 l1 lu hw hn hb hf2 hde (by omega) (by omega)
        rw [← g2] at g
        refine ⟨_, ⟨S.p0, S.o0, S.k0, S.ws, S.c0, H.length, 0, some (((hd0 S.ws + 1) :: us).take d).length, ((hd0 S.ws + 1) :: us).take d, 0⟩, 0, g, ⟨h0.app _, g1, l0, Nat.le_trans (Nat.le_of_eq g2) (by omega)⟩, .inr ⟨rfl, hb, fun h => absurd h hd, fun _ => ?_⟩⟩
        rw [rd_0 (S := S) hw]
        exact rd_0 (nw_0 a (.inl (wh_zero _)))
      · by_cases h3 : done = 1
        · refine ⟨_, ⟨S.p0, S.o0, S.k0, S.ws, S.c0, S.p1, S.o1, S.k1, S.vs, 0⟩, 0, f16_one_0 h0 h1 hu l0 l1 lu hw hn hb hf2 h3, ⟨h0.app _, h1.app _, l0, l1⟩, .inr ⟨rfl, hb, fun h => absurd h hd, fun _ => ?_⟩⟩
          rw [rd_0 (S := S) hw]
          exact rd_0 (nw_0 a (.inl (wh_zero _)))
        · exact ⟨_, S, 0, f16_zero_0 h0 h1 hu l0 l1 lu hw hn hb hf2 (by omega), ⟨h0.app _, h1.app _, l0, l1⟩, .inr ⟨rfl, hb, fun h => absurd h hd, fun _ => rfl⟩⟩
  · have hh := wh_hd a
    have hn := wh_pos a
    by_cases hf : hd0 S.vs = 4611686018427387904
    · exact err (f16_far_1 h0 h1 hu l0 l1 lu hw hn hb hf)
    have hf2 : 0 ≤ hd0 S.vs ∧ hd0 S.vs < 4611686018427387904 := ⟨hh.1, by omega⟩
    by_cases hd : (us.length : Int) + 3 ≤ done
    · refine ⟨_, ⟨H.length, 0, none, (hd0 S.vs + 1) :: us, com ((hd0 S.vs + 1) :: us), S.p1, S.o1, S.k1, S.vs, S.c1⟩, 0, f16_full_1 h0 h1 hu l0 l1 lu hw hn hb hf2 hd, ⟨new _, h1.app _, by simp; omega, l1⟩, .inr ⟨rfl, hb, fun _ => ?_, fun h => absurd hd h⟩⟩
      exact ⟨_, rd_0 (nw_0 (wh_new ⟨by omega, by omega⟩) (.inr (by show hd0 S.vs ≤ hd0 S.vs + 1; omega)))⟩
    · by_cases h2 : 1 < done
      · obtain ⟨d, hde⟩ : ∃ d : Nat, done = (d : Int) + 1 := ⟨(done - 1).toNat, by omega⟩
        obtain ⟨g1, g2⟩ := newt (hd0 S.vs + 1) d (by omega)
        have g := f16_part_1 (kq := kq) (k0 := S.k0) (k1 := S.k1) h0 h1 hu l0 l1 lu hw hn hb hf2 hde (by omega) (by omega)
        rw [← g2] at g
        refine ⟨_, ⟨H.length, 0, some (((hd0 S.vs + 1) :: us).take d).length, ((hd0 S.vs + 1) :: us).take d, 0, S.p1, S.o1, S.k1, S.vs, S.c1⟩, 0, g, ⟨g1, h1.app _, Nat.le_trans (Nat.le_of_eq g2) (by omega), l1⟩, .inr ⟨rfl, hb, fun h => absurd h hd, fun _ => ?_⟩⟩
        rw [rd_1 (S := S) hw]
        exact rd_1 (nw_1 a (.inl (wh_zero _)))
      · by_cases h3 : done = 1
        · refine ⟨_, ⟨S.p0, S.o0, S.k0, S.ws, 0, S.p1, S.o1, S.k1, S.vs, S.c1⟩, 0, f16_one_1 h0 h1 hu l0 l1 lu hw hn hb hf2 h3, ⟨h0.app _, h1.app _, l0, l1⟩, .inr ⟨rfl, hb, fun h => absurd h hd, fun _ => ?_⟩⟩
          rw [rd_1 (S := S) hw]
          exact rd_1 (nw_1 a (.inl (wh_zero _)))
        · exact ⟨_, S, 0, f16_zero_1 h0 h1 hu l0 l1 lu hw hn hb hf2 (by omega), ⟨h0.app _, h1.app _, l0, l1⟩, .inr ⟨rfl, hb, fun h => absurd h hd, fun _ => rfl⟩⟩
theorem f13_all {S : Stt} {us : List Int} {q oq : Nat} {kq : Option Nat} {H : Heap} (h : S.ok H) (hu : Sl i64 H q oq us) (lu : us.length ≤ 1000) :
    ∃ (E : Heap) (S' : Stt) (e : Int), ACall Try.prog 13 [.agg S.av, .sl q oq us.length 1 kq] H (.tup [.agg S'.av, .int .i64 e]) (H ++ E) ∧ S'.ok (H ++ E) ∧ (e = 5 ∨ (e = 0 ∧ S'.rd.is us)) := by
  obtain ⟨h0, h1, l0, l1⟩ := h
  have err : ACall Try.prog 13 [.agg S.av, .sl q oq us.length 1 kq] H (.tup [.agg S.av, .int .i64 5]) H → ∃ (E : Heap) (S' : Stt) (e : Int), ACall Try.prog 13 [.agg S.av, .sl q oq us.length 1 kq] H (.tup [.agg S'.av, .int .i64 e]) (H ++ E) ∧ S'.ok (H ++ E) ∧ (e = 5 ∨ (e = 0 ∧ S'.rd.is us)) := by
    intro g
    exact ⟨[], S, 5, by rw [List.append_nil]; exact g, by rw [List.append_nil]; exact ⟨h0, h1, l0, l1⟩, .inl rfl⟩
  have new : ∀ w : Int, Sl i64 (H ++ [some ⟨(w :: us).map i64, true⟩]) H.length 0 (w :: us) := fun w => Sl.whole (o := true) (by simp only [strC, blkAt_app, blkAt_app0, blkAt_zero, blkAt_succ, List.set_cons_zero, List.set_cons_succ, set_app, set_app0, Option.map_some, Option.bind_some, rd, setCells, lay, rdS, szOk, rapp, ownAt, lenAt, Option.any_some, Option.getD_some, List.drop_zero, List.drop_succ_cons, List.take_succ_cons, List.take_zero, List.drop_nil, List.take_nil, Nat.reduceLeDiff, Nat.lt_irrefl, Nat.zero_add, Nat.add_zero, Nat.mul_one, Nat.one_mul, Nat.add_assoc, Option.some.injEq, eq_self])
  by_cases hb : us.length ≤ 600
  rotate_left
  · rcases nw_cases S.ws S.c0 S.vs S.c1 with ⟨hw, a, b⟩ | ⟨hw, a, b⟩ | ⟨hw, a, b⟩
    · exact err (f13_big_n h0 h1 hu l0 l1 lu hw (by omega))
    · exact err (f13_big_0 h0 h1 hu l0 l1 lu hw (wh_pos a) (by omega))
    · exact err (f13_big_1 h0 h1 hu l0 l1 lu hw (wh_pos a) (by omega))
  rcases nw_cases S.ws S.c0 S.vs S.c1 with ⟨hw, a, b⟩ | ⟨hw, a, b⟩ | ⟨hw, a, b⟩
  · exact ⟨_, ⟨H.length, 0, none, 1 :: us, com (1 :: us), S.p1, S.o1, S.k1, S.vs, S.c1⟩, 0, f13_full_n h0 h1 hu l0 l1 lu hw hb, ⟨new 1, h1.app _, by simp; omega, l1⟩, .inr ⟨rfl, _, rd_0 (nw_0 (wh_new (by decide)) (.inl b))⟩⟩
  · have hh := wh_hd a
    have hn := wh_pos a
    by_cases hf : hd0 S.ws = 4611686018427387904
    · exact err (f13_far_0 h0 h1 hu l0 l1 lu hw hn hb hf)
    exact ⟨_, ⟨S.p0, S.o0, S.k0, S.ws, S.c0, H.length, 0, none, (hd0 S.ws + 1) :: us, com ((hd0 S.ws + 1) :: us)⟩, 0, f13_full_0 h0 h1 hu l0 l1 lu hw hn ⟨hh.1, by omega⟩ hb, ⟨h0.app _, new _, l0, by simp; omega⟩, .inr ⟨rfl, _, rd_1 (nw_1 (wh_new ⟨by omega, by omega⟩) (.inr (by show hd0 S.ws < hd0 S.ws + 1; omega)))⟩⟩
  · have hh := wh_hd a
    have hn := wh_pos a
    by_cases hf : hd0 S.vs = 4611686018427387904
    · exact err (f13_far_1 h0 h1 hu l0 l1 lu hw hn hb hf)
    exact ⟨_, ⟨H.length, 0, none, (hd0 S.vs + 1) :: us, com ((hd0 S.vs + 1) :: us), S.p1, S.o1, S.k1, S.vs, S.c1⟩, 0, f13_full_1 h0 h1 hu l0 l1 lu hw hn ⟨hh.1, by omega⟩ hb, ⟨new _, h1.app _, by simp; omega, l1⟩, .inr ⟨rfl, _, rd_0 (nw_0 (wh_new ⟨by omega, by omega⟩) (.inr (by show hd0 S.vs ≤ hd0 S.vs + 1; omega)))⟩⟩
/-- Readings that are the same. -/
theorem f15_rd {k : RdK} {L L2 : Nat} {H : Heap} (h1 : ∀ r i, k = .so r i → Sl i64 H L 0 r ∧ Sl i64 H L2 0 r ∧ r.length ≤ 1000) : ACall Try.prog 15 [k.av L, k.av L2] H (.bool true) H := by
  cases k with
  | no => exact f15_nil H
  | so r i =>
    obtain ⟨a, b, c⟩ := h1 r i rfl
    have := f15 (c1 := none) (c2 := none) a b (by omega)
    simpa [RdK.av] using this
theorem rd_len {S : Stt} {H : Heap} (h : S.ok H) : ∀ r i, S.rd = .so r i → r.length ≤ 1000 := by
  intro r i e
  have l0 := h.l0
  have l1 := h.l1
  unfold Stt.rd at e
  split at e
  · cases e
  · split at e <;> (cases e; simp; omega)
theorem rd_sl {k : RdK} {H G : Heap} : ∀ r i, k = .so r i → Sl i64 (H ++ (k.e ++ G)) H.length 0 r := by
  rintro r i rfl
  exact Sl.whole (o := false) (by simp only [RdK.e, List.cons_append, List.nil_append, strC, blkAt_app, blkAt_app0, blkAt_zero, blkAt_succ, List.set_cons_zero, List.set_cons_succ, set_app, set_app0, Option.map_some, Option.bind_some, rd, setCells, lay, rdS, szOk, rapp, ownAt, lenAt, Option.any_some, Option.getD_some, List.drop_zero, List.drop_succ_cons, List.take_succ_cons, List.take_zero, List.drop_nil, List.take_nil, Nat.reduceLeDiff, Nat.lt_irrefl, Nat.zero_add, Nat.add_zero, Nat.mul_one, Nat.one_mul, Nat.add_assoc, Option.some.injEq, eq_self])
theorem av_len (S : Stt) : S.av.length = 4 := rfl
theorem av_all (S : Stt) : S.av.all AV.cell = true := rfl
theorem av_take (S : Stt) : List.take 4 S.av = S.av := rfl
end Go.Proofs.Ytjibcbfdfambeaa.Ah
