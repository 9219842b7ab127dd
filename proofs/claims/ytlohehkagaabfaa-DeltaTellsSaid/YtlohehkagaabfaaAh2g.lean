/- Ah2g: a part of the proof: steps over abstract values, or contracts of functions. Conditions: none. -/
import Derived.Test.YtlohehkagaabfaaAh2f
namespace Go.Proofs.Ytlohehkagaabfaa.Ah
open Go
section
variable {P : Program} {o : Oper}

theorem rdS_len {H : Heap} {x : AV} {cs : List AV} {n sz : Nat} (hr : rdS H x = some (cs, n)) (hs : ∀ b off k s c, x = .sl b off k s c → s = sz) : cs.length = n * sz := by
  cases x with
  | nils => simp [rdS] at hr; obtain ⟨rfl, rfl⟩ := hr; simp
  | sl b off k s c =>
    obtain rfl := hs _ _ _ _ _ rfl
    simp only [rdS] at hr
    obtain ⟨cs', h1, h2⟩ := Option.map_eq_some_iff.1 hr
    simp only [Prod.mk.injEq] at h2
    obtain ⟨rfl, rfl⟩ := h2
    obtain ⟨_, _, _, _, h⟩ := rd_some h1
    exact h
  | _ => simp [rdS] at hr

theorem exec_append {x y : Operand} {t u : TypeId} {c : Call} (ho : o.op = .call c) (hc : c = { callee := .builtin .append, args := #[x, y], argTypes := #[t, u] }) (a : Act) (w : World) :
    (execOp a.eval o).run P w = ((Builtin.append_ #[t, u] o.type #[a.eval x, a.eval y]).run P w).andThen fun v w' => .ok (.value v) w' := by
  subst hc
  simp [execOp, ho, resolve, invoke, builtin]

/-- Nothing is appended. -/
theorem s_app0 {x y : Operand} {t u : TypeId} {c : Call} (ho : o.op = .call c) (hc : c = { callee := .builtin .append, args := #[x, y], argTypes := #[t, u] }) {e e' : TypeId} (ht : P.underlying t = some (.slice e)) (hu : P.underlying u = some (.slice e'))
    {sz : Nat} (hs : (P.info? e).map (·.size) = some sz) {s v : AV} (hv : ∀ M z, VR M s z → ∃ ad n cap, z = .slice ad n cap ∧ n ≤ cap) {cs : List AV} {H : Heap} (hr : rdS H v = some (cs, 0)) (hsv : ∀ b off k s c, v = .sl b off k s c → s = sz) :
    SStep P o [x, y] [s, v] H s H :=
  .of_pure fun M w a hH hv' => by
    obtain ⟨x', y', hy, h1, h2⟩ := hv'.two
    obtain ⟨e1, e2⟩ := map2 hy
    obtain ⟨ad, n, cap, rfl, hn⟩ := hv M x' h1
    obtain ⟨nw, hf, _, hl⟩ := firsts (P := P) hH hr hsv h2
    have hl' : nw = [] := by simpa using hl
    subst hl'
    refine ⟨.slice ad n cap, ?_, h1⟩
    rw [exec_append ho hc, e1, e2, run_append_in ht hu hs o.type hf (by omega)]
    cases ad <;> simp [storeCells]

/-- Into new memory. -/
theorem s_appN {x y : Operand} {t u : TypeId} {c : Call} (ho : o.op = .call c) (hc : c = { callee := .builtin .append, args := #[x, y], argTypes := #[t, u] }) {e e' : TypeId} (ht : P.underlying t = some (.slice e)) (hu : P.underlying u = some (.slice e'))
    {i : TypeInfo} (hi : P.info? e = some i) {z : Value} (hz : i.zero = some z) (hzs : z.cells.size = i.size) (hb : i.bytes ≠ 0) {s v : AV} {old nw : List AV} {n m : Nat} {H : Heap} (hro : rdS H s = some (old, n)) (hr : rdS H v = some (nw, m))
    (hss : ∀ b off k s' c, s = .sl b off k s' c → s' = i.size) (hsv : ∀ b off k s c, v = .sl b off k s c → s = i.size) (hcap : ∀ M z, VR M s z → ∃ ad cap, z = .slice ad n cap ∧ cap < n + m) (hl : (n + m) * i.bytes ≤ 140737488355328) :
    SStep P o [x, y] [s, v] H (.sl H.length 0 (n + m) i.size none) (H ++ [some ⟨old ++ nw, true⟩]) :=
  .of_run fun M w a hH hv' => by
    obtain ⟨x', y', hy, h1, h2⟩ := hv'.two
    obtain ⟨e1, e2⟩ := map2 hy
    obtain ⟨ad, cap, rfl, hcp⟩ := hcap M x' h1
    obtain ⟨ov, hfo, hvo, hlo⟩ := firsts (P := P) hH hro hss h1
    obtain ⟨nv, hfn, hvn, hln⟩ := firsts (P := P) hH hr hsv h2
    obtain ⟨c', hc1, hrun⟩ := run_append_out (P := P) ht hu hi hz hb o.type hfn hfo hcp hl
    have hzc : (Builtin.zeroCells z.cells (c' - (n + m))).toList.length = (c' - (n + m)) * i.size := by simp [Builtin.zeroCells, hzs]
    have hvr : VRs M (old ++ nw ++ List.replicate ((c' - (n + m)) * i.size) .any) (ov ++ nv ++ (Builtin.zeroCells z.cells (c' - (n + m))).toList) := by
      refine (hvo.append hvn).append (VRs.mk (by simp only [hzc, List.length_replicate]) fun j q hq => ?_)
      have hj := List.getElem?_eq_some_iff.1 hq
      obtain ⟨g1, g2⟩ := hj
      simp only [List.length_replicate] at g1
      rw [List.getElem_replicate] at g2
      subst g2
      exact ⟨_, List.getElem?_eq_getElem (by rw [hzc]; exact g1), trivial⟩
    have hsize : (ov ++ nv ++ (Builtin.zeroCells z.cells (c' - (n + m))).toList).length = c' * i.size := by
      simp only [List.length_append, hzc, hlo, hln, ← Nat.add_mul]
      congr 1
      omega
    refine ⟨_, _, _, _, by rw [exec_append ho hc, e1, e2, hrun]; rfl, .inl rfl, HRel.shrink ((hH.drew).alloc e hvr), Kept.shrink (ds := []) ((Kept.refl M H w).draw.alloc _ _ _), ?_⟩
    simp only [VR]
    refine ⟨⟨w.heap.size, 0, _⟩, by simp [Val.put]; rfl, .inl ⟨_, c', rfl, hc1, fun _ => ⟨rfl, ?_⟩, fun k hk => by cases hk⟩⟩
    simp only [List.length_append, Array.length_toList] at hsize
    simp
    omega

/-- Into one's own row, or new memory. -/
theorem s_appO {x y : Operand} {t u : TypeId} {c : Call} (ho : o.op = .call c) (hc : c = { callee := .builtin .append, args := #[x, y], argTypes := #[t, u] }) {e e' : TypeId} (ht : P.underlying t = some (.slice e)) (hu : P.underlying u = some (.slice e'))
    {i : TypeInfo} (hi : P.info? e = some i) {z : Value} (hz : i.zero = some z) (hzs : z.cells.size = i.size) (hb : i.bytes ≠ 0) {v : AV} {b off n m : Nat} {cp : Option Nat} {k : Blk} {old nw : List AV} {H : Heap} (hk : blkAt H b = some k) (hown : k.own = true)
    (hro : rd H b off (n * i.size) = some old) (hr : rdS H v = some (nw, m)) (hsv : ∀ b off k s c, v = .sl b off k s c → s = i.size) (hcell : nw.all AV.cell = true) (hm : m ≠ 0) (hl : (n + m) * i.bytes ≤ 140737488355328) :
    SStep P o [x, y] [.sl b off n i.size cp, v] H (.sl H.length 0 (n + m) i.size none) (H.set b none ++ [some ⟨old ++ nw, true⟩]) := by
  have hroS : rdS H (.sl b off n i.size cp) = some (old, n) := by simp [rdS, hro]
  refine .of_run fun M w a hH hv' => ?_
  obtain ⟨x', y', hy, h1, h2⟩ := hv'.two
  obtain ⟨e1, e2⟩ := map2 hy
  have h1' := h1
  simp only [VR] at h1'
  obtain ⟨l, ad, cap, hM, rfl, g2⟩ : ∃ l ad cap, M b = some l ∧ x' = .slice ad n cap ∧ (n + m ≤ cap → ad = some ⟨l.blk, l.off + off, none⟩ ∧ l.off + off + cap * i.size ≤ l.size) := by
    obtain ⟨l, hM, ⟨ad, cap, rfl, g1, g2, g3⟩ | ⟨rfl, _, rfl⟩⟩ := h1'
    · exact ⟨l, some ad, cap, hM, rfl, fun h => ⟨by rw [(g2 (by omega)).1], (g2 (by omega)).2⟩⟩
    · exact ⟨l, none, 0, hM, rfl, fun h => by omega⟩
  by_cases hcp : cap < n + m
  · obtain ⟨ov, hfo, hvo, hlo⟩ := firsts (P := P) hH hroS (fun _ _ _ _ _ h => by cases h; rfl) h1
    obtain ⟨nv, hfn, hvn, hln⟩ := firsts (P := P) hH hr hsv h2
    obtain ⟨c', hc1, hrun⟩ := run_append_out (P := P) ht hu hi hz hb o.type hfn hfo hcp hl
    have hzc : (Builtin.zeroCells z.cells (c' - (n + m))).toList.length = (c' - (n + m)) * i.size := by simp [Builtin.zeroCells, hzs]
    have hvr : VRs M (old ++ nw ++ List.replicate ((c' - (n + m)) * i.size) .any) (ov ++ nv ++ (Builtin.zeroCells z.cells (c' - (n + m))).toList) := by
      refine (hvo.append hvn).append (VRs.mk (by simp only [hzc, List.length_replicate]) fun j q hq => ?_)
      have hj := List.getElem?_eq_some_iff.1 hq
      obtain ⟨g1, g2⟩ := hj
      simp only [List.length_replicate] at g1
      rw [List.getElem_replicate] at g2
      subst g2
      exact ⟨_, List.getElem?_eq_getElem (by rw [hzc]; exact g1), trivial⟩
    have hsize : (ov ++ nv ++ (Builtin.zeroCells z.cells (c' - (n + m))).toList).length = c' * i.size := by
      simp only [List.length_append, hzc, hlo, hln, ← Nat.add_mul]
      congr 1
      omega
    have hb' : b < H.length := by
      have := blkAt_some hk
      rcases Nat.lt_or_ge b H.length with h | h
      · exact h
      · rw [List.getElem?_eq_none h] at this; cases this
    have hset : (H ++ [some (Blk.mk (old ++ nw) true)]).set b none = H.set b none ++ [some (Blk.mk (old ++ nw) true)] := by rw [List.set_append_left _ _ hb']
    have HR := (HRel.shrink ((hH.drew).alloc e hvr)).kill b
    have HK := (Kept.shrink (cs := old ++ nw) (ds := List.replicate ((c' - (n + m)) * i.size) .any) ((Kept.refl M H w).draw.alloc (ov ++ nv ++ (Builtin.zeroCells z.cells (c' - (n + m))).toList).length _ (.cells (ov ++ nv ++ (Builtin.zeroCells z.cells (c' - (n + m))).toList).toArray e))).kill b
    rw [hset] at HR HK
    refine ⟨_, _, _, _, by rw [exec_append ho hc, e1, e2, hrun]; rfl, .inl rfl, HR, HK, ?_⟩
    simp only [VR]
    refine ⟨⟨w.heap.size, 0, _⟩, by simp [Val.put]; rfl, .inl ⟨_, c', rfl, hc1, fun _ => ⟨rfl, ?_⟩, fun k hk => by cases hk⟩⟩
    simp only [List.length_append, Array.length_toList] at hsize
    simp
    omega
  · obtain ⟨nv, hfn, hvn, hln⟩ := firsts (P := P) hH hr hsv h2
    obtain ⟨rfl, hroom⟩ := g2 (by omega)
    obtain ⟨k', hb', hle, hold, holdl⟩ := rd_some hro
    rw [blkAt_some hk] at hb'
    cases hb'
    have hmul : (n + m) * i.size = n * i.size + m * i.size := Nat.add_mul ..
    have hcm : (n + m) * i.size ≤ cap * i.size := Nat.mul_le_mul_right _ (by omega)
    have hmv := hH.move (blkAt_some hk) hown hM (off := off) (n := n * i.size) (m := m * i.size) hle (by omega)
    have hkm := (Kept.refl M H w).move (blkAt_some hk) hown hM (l.off + off) l.size ((k.cells.drop off).take (n * i.size) ++ List.replicate (m * i.size) .any)
    rw [← hold] at hmv hkm
    have hnwl : nw.length = m * i.size := rdS_len hr hsv
    obtain ⟨w', r1, r2, r3⟩ := run_st (P := P) nw nv _ w H.length ⟨old ++ List.replicate (m * i.size) .any, true⟩ ⟨l.blk, l.off + off, l.size⟩ (n * i.size) hmv hkm (by rw [List.getElem?_append_right (by simp)]; simp) rfl (by simp [Val.put])
      (by simp [holdl, hnwl]) hcell (hvn.mono (Val.le_put (hH.dom _ (Nat.le_refl _)))) 0 (l.off + off + n * i.size) (by simp)
    have hfin : (H.set b none ++ [some (Blk.mk (old ++ List.replicate (m * i.size) AV.any) true)]).set H.length (some (Blk.mk (setCells (old ++ List.replicate (m * i.size) AV.any) (n * i.size) nw) true)) = H.set b none ++ [some (Blk.mk (old ++ nw) true)] := by
      rw [List.set_append_right _ _ (by simp)]
      simp only [List.length_set, Nat.sub_self, List.set_cons_zero]
      congr 4
      unfold setCells
      rw [List.take_append_of_le_length (by omega), List.take_of_length_le (by omega), List.drop_of_length_le (by simp; omega), List.append_nil]
    rw [hfin] at r2 r3
    refine ⟨.value (.slice (some ⟨l.blk, l.off + off, none⟩) (n + m) cap), _, w', _, ?_, .inl rfl, r2, r3, ?_⟩
    · rw [exec_append ho hc, e1, e2, run_append_in ht hu (by rw [hi]; rfl) o.type hfn (by omega)]
      simp only [plain_add, r1, Result.andThen_ok]
    · simp only [VR]
      exact ⟨⟨l.blk, l.off + off, l.size⟩, by simp [Val.put], .inl ⟨_, cap, rfl, by omega, fun _ => ⟨by simp, by simp; omega⟩, fun k hk => by cases hk⟩⟩
end
end Go.Proofs.Ytlohehkagaabfaa.Ah
