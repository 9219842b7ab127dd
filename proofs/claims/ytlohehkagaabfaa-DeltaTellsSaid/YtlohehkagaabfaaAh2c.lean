/- Ah2c: a part of the proof: steps over abstract values, or contracts of functions. Conditions: none. -/
import Derived.Test.YtlohehkagaabfaaAh2b
namespace Go.Proofs.Ytlohehkagaabfaa.Ah
open Go
section
variable {P : Program} {o : Oper}

theorem run_info {t : TypeId} {i : TypeInfo} (h : P.info? t = some i) (w : World) : (typeInfo t).run P w = .ok i w := by simp [typeInfo, h]
theorem run_size {t : TypeId} {n : Nat} (h : (P.info? t).map (·.size) = some n) (w : World) : (sizeOf t).run P w = .ok n w := by
  obtain ⟨i, h1, rfl⟩ := Option.map_eq_some_iff.1 h
  simp [sizeOf, run_info h1]
theorem run_zero {t : TypeId} {z : Value} (h : (P.info? t).bind (·.zero) = some z) (w : World) : (zeroValue t).run P w = .ok z w := by
  obtain ⟨i, h1, h2⟩ := Option.bind_eq_some_iff.1 h
  simp [zeroValue, run_info h1, h2]

def aggB : Option TypeDesc → Bool
  | some (.struct _) | some (.array _ _) => true
  | _ => false
theorem run_isAgg {t : TypeId} {d : TypeDesc} (h : P.underlying t = some d) (w : World) : (isAgg t).run P w = .ok (aggB (some d)) w := by
  simp [isAgg, run_underlying h]
  cases d <;> rfl

/-! Reading -/
theorem s_ld1 {t : TypeId} {x : Operand} (ho : o.op = .load t x) {d : TypeDesc} (hd : P.underlying t = some d) (ha : aggB (some d) = false) {b off : Nat} {k : Blk} {v : AV} {H : Heap} (hb : blkAt H b = some k) (hv : k.cells[off]? = some v) :
    SStep P o [x] [.ptr b off] H v H :=
  .of_pure fun M w a hH hv' => by
    obtain ⟨y, hy, h1⟩ := hv'.one
    have e := map1 hy
    simp only [VR] at h1
    obtain ⟨l, hM, rfl⟩ := h1
    obtain ⟨l', z, hM', hr, hz⟩ := run_ld hH hb hv
    rw [hM] at hM'
    cases hM'
    exact ⟨z, by simp [execOp, ho, e, Instr.loadAt, Instr.sureAddr, loadVar, run_isAgg hd, ha, hr], hz⟩

theorem s_ldn {t : TypeId} {x : Operand} (ho : o.op = .load t x) {d : TypeDesc} (hd : P.underlying t = some d) (ha : aggB (some d) = true) {n : Nat} (hn : (P.info? t).map (·.size) = some n) {b off : Nat} {cs : List AV} {H : Heap} (hr : rd H b off n = some cs) :
    SStep P o [x] [.ptr b off] H (.agg cs) H :=
  .of_pure fun M w a hH hv' => by
    obtain ⟨y, hy, h1⟩ := hv'.one
    have e := map1 hy
    simp only [VR] at h1
    obtain ⟨l, hM, rfl⟩ := h1
    obtain ⟨l', zs, hM', hr', hz, _⟩ := run_rd (P := P) hH hr
    rw [hM] at hM'
    cases hM'
    exact ⟨.agg zs.toArray, by simp [execOp, ho, e, Instr.loadAt, Instr.sureAddr, loadVar, run_isAgg hd, ha, run_size hn, hr' w rfl], by simp only [VR]; exact ⟨zs, rfl, hz⟩⟩

/-! Making -/
theorem step_new {H : Heap} {cs : List AV} {v : AV} {opds : List Operand} {vals : List AV}
    (h : ∀ M w (a : Act), HRel M H w → VRs M vals (opds.map a.eval) → ∃ x xs e, (execOp a.eval o).run P w = .ok (.value x) (w.alloc (.cells (List.toArray xs) e)) ∧ VRs M cs xs ∧ VR (M.put H.length ⟨w.heap.size, 0, xs.length⟩) v x) :
    SStep P o opds vals H v (H ++ [some ⟨cs, true⟩]) :=
  .of_run fun M w a hH hv => by
    obtain ⟨x, xs, e, h1, h2, h3⟩ := h M w a hH hv
    exact ⟨.value x, x, _, _, h1, .inl rfl, hH.alloc e h2, (Kept.refl M H w).alloc _ cs _, h3⟩

theorem s_alloc {t : TypeId} (ho : o.op = .alloc t) {z : Value} (hz : (P.info? t).bind (·.zero) = some z) {cs : List AV} (hc : ∀ M, VRs M cs z.cells.toList) (H : Heap) :
    SStep P o [] [] H (.ptr H.length 0) (H ++ [some ⟨cs, true⟩]) :=
  step_new fun M w a hH _ => by
    refine ⟨.pointer (some ⟨w.heap.size, 0, none⟩), z.cells.toList, t, ?_, hc M, ?_⟩
    · simp [execOp, ho, Instr.alloc, run_zero hz, newVar, newRow]
    · simp only [VR]
      exact ⟨_, by simp [Val.put]; rfl, rfl⟩

theorem AV.full_ne {v : AV} (h : v.full = true) : v ≠ .any := by
  rintro rfl
  simp [AV.full, AV.cells, AV.cell] at h

theorem s_box {t : TypeId} {x : Operand} (ho : o.op = .box t x) {v : AV} (hv : v.full = true) (H : Heap) : SStep P o [x] [v] H (.ptr H.length 0) (H ++ [some ⟨v.cells, true⟩]) :=
  step_new fun M w a hH hv' => by
    obtain ⟨y, hy, h1⟩ := hv'.one
    have e := map1 hy
    refine ⟨.pointer (some ⟨w.heap.size, 0, none⟩), y.cells.toList, t, ?_, h1.cells (AV.full_ne hv), ?_⟩
    · simp [execOp, ho, e, Instr.box, newVar, newRow]
    · simp only [VR]
      exact ⟨_, by simp [Val.put]; rfl, rfl⟩

/-! Values laid over cells -/
theorem foldl_set (off : Nat) : ∀ (vs : List Value) (i : Nat) (cs : Array Value), off + i + vs.length ≤ cs.size →
    ((vs.zipIdx i).foldl (fun cs (c, j) => cs.setIfInBounds (off + j) c) cs).toList = cs.toList.take (off + i) ++ vs ++ cs.toList.drop (off + i + vs.length)
  | [], i, cs, _ => by simp
  | v :: vs, i, cs, h => by
    simp only [List.length_cons] at h
    simp only [List.zipIdx_cons, List.foldl_cons]
    rw [foldl_set off vs (i + 1) _ (by simp; omega)]
    have hlt : off + i < cs.size := by omega
    have h1 : (cs.setIfInBounds (off + i) v).toList.take (off + (i + 1)) = cs.toList.take (off + i) ++ [v] := by
      rw [Array.toList_setIfInBounds, show off + (i + 1) = off + i + 1 by omega, List.take_succ_eq_append_getElem (by simpa using hlt)]
      simp [List.take_set_of_le]
    have h2 : (cs.setIfInBounds (off + i) v).toList.drop (off + (i + 1) + vs.length) = cs.toList.drop (off + i + (vs.length + 1)) := by
      rw [Array.toList_setIfInBounds, List.drop_set_of_lt (by omega)]
      congr 1
      omega
    rw [h1, h2]
    simp

theorem VRs.take {M : Val} {vs : List AV} {us : List Value} (h : VRs M vs us) (n : Nat) : VRs M (vs.take n) (us.take n) := by
  have hl := h.length
  refine VRs.mk (by simp [hl]) fun j v hv => ?_
  rw [List.getElem?_take] at hv
  split at hv
  · rename_i hj
    obtain ⟨x, h1, h2⟩ := h.get j v hv
    exact ⟨x, by rw [List.getElem?_take, if_pos hj, h1], h2⟩
  · cases hv
theorem VRs.drop {M : Val} {vs : List AV} {us : List Value} (h : VRs M vs us) (n : Nat) : VRs M (vs.drop n) (us.drop n) := by
  have hl := h.length
  refine VRs.mk (by simp [hl]) fun j v hv => ?_
  rw [List.getElem?_drop] at hv
  obtain ⟨x, h1, h2⟩ := h.get _ v hv
  exact ⟨x, by rw [List.getElem?_drop, h1], h2⟩

theorem fill_lay {M : Val} (place : Nat → Option (Nat × Nat)) : ∀ (ps : List (Nat × Nat)) (vs : List AV) (parts : List (Nat × Value)) (z : List AV) (zv : Array Value) (cs : List AV), lay z ps vs = some cs → VRs M z zv.toList →
    VRs M vs (parts.map (·.2)) → parts.map (fun p => place p.1) = ps.map some → (∀ v ∈ vs, v ≠ .any) → ∃ xs, Instr.fill place zv parts = some xs ∧ VRs M cs xs.toList
  | [], [], parts, z, zv, cs, hl, hz, hv, hp, hf => by
    simp [lay] at hl
    subst hl
    simp at hp
    subst hp
    exact ⟨zv, rfl, hz⟩
  | (off, n) :: ps, v :: vs, [], z, zv, cs, hl, hz, hv, hp, hf => by simp at hp
  | (off, n) :: ps, v :: vs, (i, x) :: parts, z, zv, cs, hl, hz, hv, hp, hf => by
    simp only [lay] at hl
    split at hl
    · rename_i hc
      obtain ⟨hc1, hc2⟩ := hc
      simp only [List.map_cons, VRs] at hv
      obtain ⟨x', xs', he, h1, h2⟩ := hv
      simp only [List.cons.injEq] at he
      obtain ⟨rfl, rfl⟩ := he
      simp only [List.map_cons, List.cons.injEq] at hp
      have hcs := h1.cells (hf v (by simp))
      have hlen : x.cells.size = n := by
        have := hcs.length
        simp at this
        omega
      have hzl : zv.size = z.length := by have := hz.length; simpa using this
      have hfold := foldl_set off x.cells.toList 0 zv (by simp; omega)
      obtain ⟨ys, g1, g2⟩ := fill_lay (M := M) place ps vs parts _ (x.cells.zipIdx.foldl (fun cs (c, j) => cs.setIfInBounds (off + j) c) zv) cs hl (by
        have e1 : (x.cells.zipIdx.foldl (fun cs (c, j) => cs.setIfInBounds (off + j) c) zv).toList = zv.toList.take off ++ x.cells.toList ++ zv.toList.drop (off + n) := by
          rw [← Array.foldl_toList, Array.toList_zipIdx]
          rw [hfold]
          simp [hlen]
        rw [e1]
        exact ((hz.take _).append hcs).append (hz.drop _)) h2 hp.2 (fun u hu => hf u (by simp [hu]))
      refine ⟨ys, ?_, g2⟩
      simp only [Instr.fill, hp.1]
      rw [if_neg (by simp [hlen]; omega)]
      exact g1
    · cases hl
  | [], v :: vs, parts, z, zv, cs, hl, hz, hv, hp, hf => by simp [lay] at hl
  | (off, n) :: ps, [], parts, z, zv, cs, hl, hz, hv, hp, hf => by simp [lay] at hl

/-- Where the fields of a struct lie. -/
def placesOf (P : Program) : List Field → Option (List (Nat × Nat))
  | [] => some []
  | f :: fs => match (P.info? f.type).map (·.size), placesOf P fs with
    | some n, some l => some ((f.offset, n) :: l)
    | _, _ => none

theorem run_placesL : ∀ (fs : List Field) (l : List (Nat × Nat)), placesOf P fs = some l → ∀ w, (fs.mapM (fun f => Prod.mk f.offset <$> sizeOf f.type) : Sem (List (Nat × Nat))).run P w = .ok l w
  | [], l, h, w => by simp [placesOf] at h; subst h; rfl
  | f :: fs, l, h, w => by
    simp only [placesOf] at h
    split at h
    · rename_i n l' h1 h2
      cases h
      simp [List.mapM_cons, run_size h1, run_placesL fs l' h2]
    · cases h

theorem run_places (fs : Array Field) (places : Array (Nat × Nat)) (h : placesOf P fs.toList = some places.toList) (w : World) :
    (fs.mapM (fun f => Prod.mk f.offset <$> sizeOf f.type) : Sem (Array (Nat × Nat))).run P w = .ok places w := by
  rw [Array.mapM_eq_mapM_toList]
  simp [run_placesL _ _ h]

theorem s_buildS {t : TypeId} {parts : Array (Nat × Operand)} (ho : o.op = .build t parts) {fs : Array Field} (hd : P.underlying t = some (.struct fs)) {z : Value} (hz : (P.info? t).bind (·.zero) = some z) {zs : List AV} (hc : ∀ M, VRs M zs z.cells.toList)
    {places : Array (Nat × Nat)} (hp : placesOf P fs.toList = some places.toList)
    {ps : List (Nat × Nat)} (hps : parts.toList.map (fun p => places[p.1]?) = ps.map some) {vs cs : List AV} (hl : lay zs ps vs = some cs) (hf : vs.all AV.full = true) (H : Heap) :
    SStep P o (parts.toList.map (·.2)) vs H (.agg cs) H :=
  .of_pure fun M w a hH hv => by
    obtain ⟨xs, h1, h2⟩ := fill_lay (M := M) (places[·]?) ps vs (parts.toList.map fun p => (p.1, a.eval p.2)) zs z.cells cs hl (hc M) (by simpa [List.map_map, Function.comp_def] using hv) (by simpa [List.map_map, Function.comp_def] using hps) (fun v hv => AV.full_ne (by simpa using List.all_eq_true.1 hf v hv))
    refine ⟨.agg xs, ?_, by simp only [VR]; exact ⟨xs.toList, by simp, h2⟩⟩
    simp [execOp, ho, Instr.build, run_zero hz, run_underlying hd, run_places fs places hp, h1]

theorem s_buildA {t : TypeId} {parts : Array (Nat × Operand)} (ho : o.op = .build t parts) {m : Nat} {e : TypeId} (hd : P.underlying t = some (.array m e)) {z : Value} (hz : (P.info? t).bind (·.zero) = some z) {zs : List AV} (hc : ∀ M, VRs M zs z.cells.toList)
    {n : Nat} (hn : (P.info? e).map (·.size) = some n) {ps : List (Nat × Nat)} (hps : parts.toList.map (fun p => (p.1 * n, n)) = ps) {vs cs : List AV} (hl : lay zs ps vs = some cs) (hf : vs.all AV.full = true) (H : Heap) :
    SStep P o (parts.toList.map (·.2)) vs H (.agg cs) H :=
  .of_pure fun M w a hH hv => by
    obtain ⟨xs, h1, h2⟩ := fill_lay (M := M) (fun i => some (i * n, n)) ps vs (parts.toList.map fun p => (p.1, a.eval p.2)) zs z.cells cs hl (hc M) (by simpa [List.map_map, Function.comp_def] using hv) (by subst hps; simp [List.map_map, Function.comp_def]) (fun v hv => AV.full_ne (by simpa using List.all_eq_true.1 hf v hv))
    refine ⟨.agg xs, ?_, by simp only [VR]; exact ⟨xs.toList, by simp, h2⟩⟩
    simp [execOp, ho, Instr.build, run_zero hz, run_underlying hd, run_size hn, h1]

theorem s_bslice {t : TypeId} {parts : Array (Nat × Operand)} {m : Nat} (ho : o.op = .buildSlice t m parts) {e : TypeId} (hd : P.underlying t = some (.slice e)) {z : Value} (hz : (P.info? e).bind (·.zero) = some z)
    {n : Nat} (hn : (P.info? e).map (·.size) = some n) (hm : m * n ≤ 16777216) {zs : List AV} (hc : ∀ M, VRs M zs ((Array.range (m * n)).map (z.cells[· % z.cells.size]!)).toList)
    {ps : List (Nat × Nat)} (hps : parts.toList.map (fun p => (p.1 * n, n)) = ps) {vs cs : List AV} (hl : lay zs ps vs = some cs) (hlen : cs.length = m * n) (hf : vs.all AV.full = true) (H : Heap) :
    SStep P o (parts.toList.map (·.2)) vs H (.sl H.length 0 m n (some m)) (H ++ [some ⟨cs, true⟩]) :=
  step_new fun M w a hH hv => by
    obtain ⟨xs, h1, h2⟩ := fill_lay (M := M) (fun i => some (i * n, n)) ps vs (parts.toList.map fun p => (p.1, a.eval p.2)) zs ((Array.range (m * n)).map (z.cells[· % z.cells.size]!)) cs hl (hc M) (by simpa [List.map_map, Function.comp_def] using hv) (by subst hps; simp [List.map_map, Function.comp_def]) (fun v hv => AV.full_ne (by simpa using List.all_eq_true.1 hf v hv))
    refine ⟨.slice (some ⟨w.heap.size, 0, none⟩) m m, xs.toList, e, ?_, h2, ?_⟩
    · have h24 : ¬ m * n > 2 ^ 24 := by omega
      by_cases h0 : m * n = 0
      · have hr0 : Array.range 0 = #[] := rfl
        have h1' : Instr.fill (fun i => some (i * n, n)) #[] (parts.toList.map fun p => (p.1, a.eval p.2)) = some xs := by
          rw [h0, hr0] at h1
          simpa using h1
        simp [execOp, ho, Instr.buildSlice, run_underlying hd, run_size hn, h0, newRow, hr0, h1']
      · simp [execOp, ho, Instr.buildSlice, run_underlying hd, run_size hn, h24, h0, run_zero hz, newRow, h1]
    · simp only [VR]
      have hxl : xs.toList.length = m * n := by rw [h2.length, hlen]
      exact ⟨⟨w.heap.size, 0, xs.toList.length⟩, by simp [Val.put], .inl ⟨_, m, rfl, Nat.le_refl _, fun _ => ⟨rfl, by simp only [Nat.zero_add]; omega⟩, fun k hk => by cases hk; rfl⟩⟩
end
end Go.Proofs.Ytlohehkagaabfaa.Ah
