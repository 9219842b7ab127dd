/- Ah2i: a part of the proof: steps over abstract values, or contracts of functions. Conditions: none. -/
import Derived.Test.YtlohehkagaabfaaAh2h
import Derived.IntWalk
set_option linter.unusedSimpArgs false
namespace Go.Proofs.Ytlohehkagaabfaa.Ah
open Go
section
variable {P : Program} {o : Oper}

theorem VRs.rep {M : Val} {zs : List AV} {us : List Value} (h : VRs M zs us) : ∀ n, VRs M (List.replicate n zs).flatten (List.replicate n us).flatten
  | 0 => by simp [VRs]
  | n + 1 => by
    rw [List.replicate_succ, List.replicate_succ, List.flatten_cons, List.flatten_cons]
    exact h.append (h.rep n)

theorem rep_get (us : List Value) (h0 : us.length ≠ 0) : ∀ (n j : Nat), j < n * us.length → (List.replicate n us).flatten[j]? = us[j % us.length]?
  | 0, j, h => by simp at h
  | n + 1, j, h => by
    rw [List.replicate_succ, List.flatten_cons]
    by_cases hj : j < us.length
    · rw [List.getElem?_append_left hj, Nat.mod_eq_of_lt hj]
    · rw [List.getElem?_append_right (by omega), rep_get us h0 n _ (by rw [Nat.succ_mul] at h; omega)]
      congr 1
      exact (Nat.mod_eq_sub_mod (by omega)).symm

theorem made_eq (z : Array Value) (n : Nat) : ((Array.range (n * z.size)).map (z[· % z.size]!)).toList = (List.replicate n z.toList).flatten := by
  by_cases h0 : z.size = 0
  · have hz : z.toList = [] := List.eq_nil_of_length_eq_zero (by simpa using h0)
    rw [h0, hz]
    simp
  · apply List.ext_getElem?
    intro j
    by_cases hj : j < n * z.size
    · rw [rep_get z.toList (by simpa using h0) n j (by simpa using hj)]
      have hm : j % z.size < z.size := Nat.mod_lt _ (by omega)
      simp [hj, hm]
    · rw [List.getElem?_eq_none (by simp; omega), List.getElem?_eq_none (by simp [List.length_flatten]; omega)]

theorem s_mksl {t : TypeId} {x y : Operand} (ho : o.op = .makeSlice t x y) {e : TypeId} (hd : P.underlying t = some (.slice e)) {i : TypeInfo} (hi : P.info? e = some i) {z : Value} (hz : i.zero = some z) (hzs : z.cells.size = i.size) {zs : List AV} (hc : ∀ M, VRs M zs z.cells.toList)
    {k k' : IntKind} {l c : Int} (h0 : 0 ≤ l) (h1 : l ≤ c) (h2 : i.bytes * c ≤ 281474976710656) (h3 : c ≤ 4611686018427387904) (H : Heap) :
    SStep P o [x, y] [.int k l, .int k' c] H (.sl H.length 0 l.toNat i.size (some c.toNat)) (H ++ [some ⟨(List.replicate c.toNat zs).flatten, true⟩]) :=
  step_new fun M w a hH hv => by
    obtain ⟨p, q, hy, g1, g2⟩ := hv.two
    obtain ⟨e1, e2⟩ := map2 hy
    simp only [VR] at g1 g2
    subst g1; subst g2
    have wl : ∀ m : Int, 0 ≤ m → m ≤ 4611686018427387904 → IntKind.i64.wrap m = m := fun m hm hm' => IntWalk.i64_in m (by omega)
    have hl : IntKind.i64.wrap l = l := wl l h0 (by omega)
    have hcw : IntKind.i64.wrap c = c := wl c (by omega) h3
    refine ⟨.slice (some ⟨w.heap.size, 0, none⟩) l.toNat c.toNat, (List.replicate c.toNat z.cells.toList).flatten, e, ?_, (hc M).rep _, ?_⟩
    · have n1 : ¬ c < 0 := by omega
      have n2 : ¬ (i.bytes : Int) * c > 281474976710656 := by omega
      have n3 : ¬ l < 0 := by omega
      have n4 : ¬ c < l := by omega
      have hrow : (if c.toNat * i.size = 0 then #[] else z.cells) = (if c.toNat * i.size = 0 then #[] else z.cells) := rfl
      by_cases hn : c.toNat * i.size = 0
      · have hfl : (List.replicate c.toNat z.cells.toList).flatten = [] := by
          rw [← made_eq z.cells, hzs, hn, show Array.range 0 = #[] from rfl]
          simp
        simp [execOp, ho, e1, e2, Instr.makeSlice, run_underlying hd, asInt, asIntOf, run_info hi, hl, hcw, n1, n2, n3, n4, run_size (P := P) (t := e) (n := i.size) (by rw [hi]; rfl), hn, newRow, hfl, show Array.range 0 = #[] from rfl]
      · have hmade : ((Array.range (c.toNat * i.size)).map (z.cells[· % z.cells.size]!)) = (List.replicate c.toNat z.cells.toList).flatten.toArray := by
          apply Array.ext'
          rw [← hzs, made_eq]
        simp [execOp, ho, e1, e2, Instr.makeSlice, run_underlying hd, asInt, asIntOf, run_info hi, hl, hcw, n1, n2, n3, n4, run_size (P := P) (t := e) (n := i.size) (by rw [hi]; rfl), hn, newRow, zeroValue, hz]
        rw [← hmade]
    · simp only [VR]
      have hlen : (List.replicate c.toNat z.cells.toList).flatten.length = c.toNat * i.size := by simp [List.length_flatten, hzs]
      exact ⟨_, by simp [Val.put]; rfl, .inl ⟨_, c.toNat, rfl, by omega, fun _ => ⟨rfl, by have := hlen; simp [List.length_flatten] at this ⊢; rw [hzs]; omega⟩, fun k hk => by cases hk; rfl⟩⟩

theorem s_copyN {x y : Operand} {t u : TypeId} {c : Call} (ho : o.op = .call c) (hc : c = { callee := .builtin .copy, args := #[x, y], argTypes := #[t, u] }) {e : TypeId} (ht : P.underlying t = some (.slice e)) {sz : Nat} (hs : (P.info? e).map (·.size) = some sz) (b off n : Nat) (cp : Option Nat) (H : Heap) :
    SStep P o [x, y] [.sl b off n sz cp, .nils] H (.int .i64 0) H :=
  .of_pure fun M w a hH hv => by
    obtain ⟨p, q, hy, g1, g2⟩ := hv.two
    obtain ⟨e1, e2⟩ := map2 hy
    simp only [VR] at g1 g2
    subst g2
    subst hc
    obtain ⟨l, hM, ⟨ad, cap, rfl, _⟩ | ⟨rfl, _, rfl⟩⟩ := g1
    · exact ⟨.int .i64 0, by simp [execOp, ho, e1, e2, resolve, invoke, builtin, Builtin.copy_, run_underlying ht, Builtin.lenOf, run_size hs, Builtin.firstCells, storeCells, goInt], rfl⟩
    · exact ⟨.int .i64 0, by simp [execOp, ho, e1, e2, resolve, invoke, builtin, Builtin.copy_, run_underlying ht, Builtin.lenOf, run_size hs, Builtin.firstCells, storeCells, goInt], rfl⟩

theorem s_copy {x y : Operand} {t u : TypeId} {c : Call} (ho : o.op = .call c) (hc : c = { callee := .builtin .copy, args := #[x, y], argTypes := #[t, u] }) {e : TypeId} (ht : P.underlying t = some (.slice e)) {sz : Nat} (hs : (P.info? e).map (·.size) = some sz)
    {b off n : Nat} {cp : Option Nat} {b' off' m sz' : Nat} {cp' : Option Nat} {cs : List AV} {k : Blk} {H : Heap} (hr : rd H b' off' (min m n * sz) = some cs) (hk : blkAt H b = some k) (hown : k.own = true) (hcell : cs.all AV.cell = true) (hl : off + min m n * sz ≤ k.cells.length) :
    SStep P o [x, y] [.sl b off n sz cp, .sl b' off' m sz' cp'] H (.int .i64 (min m n : Nat)) (H.set b (some ⟨setCells k.cells off cs, true⟩)) :=
  .of_run fun M w a hH hv => by
    obtain ⟨p, q, hy, g1, g2⟩ := hv.two
    obtain ⟨e1, e2⟩ := map2 hy
    simp only [VR] at g1 g2
    obtain ⟨l, ad, cap, hM, rfl, c2⟩ : ∃ l ad cap, M b = some l ∧ p = .slice ad n cap ∧ (n ≠ 0 → ad = some ⟨l.blk, l.off + off, none⟩) := by
      obtain ⟨l, hM, ⟨ad, cap, rfl, g1, g2, g3⟩ | ⟨rfl, _, rfl⟩⟩ := g1
      · exact ⟨l, some ad, cap, hM, rfl, fun h => by rw [(g2 (by omega)).1]⟩
      · exact ⟨l, none, 0, hM, rfl, fun h => absurd rfl h⟩
    obtain ⟨l', ad', cap', hM', rfl, d2⟩ : ∃ l ad cap, M b' = some l ∧ q = .slice ad m cap ∧ (m ≠ 0 → ad = some ⟨l.blk, l.off + off', none⟩) := by
      obtain ⟨l, hM, ⟨ad, cap, rfl, g1, g2, g3⟩ | ⟨rfl, _, rfl⟩⟩ := g2
      · exact ⟨l, some ad, cap, hM, rfl, fun h => by rw [(g2 (by omega)).1]⟩
      · exact ⟨l, none, 0, hM, rfl, fun h => absurd rfl h⟩
    obtain ⟨_, _, _, _, hcl⟩ := rd_some hr
    obtain ⟨l2, xs, hM2, hrun, hvs, hxl⟩ := run_rd (P := P) hH hr
    rw [hM'] at hM2
    cases hM2
    obtain ⟨w', r1, r2, r3⟩ := run_st (P := P) cs xs H w b k l off hH (Kept.refl M H w) (blkAt_some hk) hown hM (by omega) hcell hvs 0 (l.off + off) (by omega)
    refine ⟨.value (.int .i64 (min m n : Nat)), _, w', M, ?_, .inl rfl, r2, r3, rfl⟩
    subst hc
    have hmin : Nat.min m n = min m n := rfl
    by_cases h0 : min m n = 0
    · rw [h0] at hxl hrun ⊢
      have hx : xs = [] := List.eq_nil_of_length_eq_zero (by simpa using hxl)
      subst hx
      have hw : w' = w := by simp [storeCells] at r1; exact r1.symm
      subst hw
      cases ad <;> cases ad' <;> simp [execOp, ho, e1, e2, resolve, invoke, builtin, Builtin.copy_, run_underlying ht, Builtin.lenOf, run_size hs, Builtin.firstCells, hmin, h0, goInt, loadCells, loadCellsFrom, storeCells]
    · obtain rfl := c2 (by omega)
      obtain rfl := d2 (by omega)
      simp [execOp, ho, e1, e2, resolve, invoke, builtin, Builtin.copy_, run_underlying ht, Builtin.lenOf, run_size hs, Builtin.firstCells, hmin, hrun w rfl, r1, goInt]

/-- append(nil, make(..)..). -/
theorem s_appZ {x y : Operand} {t u : TypeId} {c : Call} (ho : o.op = .call c) (hc : c = { callee := .builtin .append, args := #[x, y], argTypes := #[t, u] }) {e : TypeId} (ht : P.underlying t = some (.slice e)) {ku : IntKind} (hu : P.underlying u = some (.int ku))
    {i : TypeInfo} (hi : P.info? e = some i) {z : Value} (hz : i.zero = some z) (hzs : z.cells.size = i.size) (hb : i.bytes ≠ 0) (hsz : i.size ≠ 0) {zs : List AV} (hc0 : ∀ M, VRs M zs z.cells.toList) {k : IntKind} {n : Int} (h0 : 0 < n) (hl : n * i.bytes ≤ 140737488355328) (hn : n ≤ 4611686018427387904) (H : Heap) :
    SStep P o [x, y] [.nils, .int k n] H (.sl H.length 0 n.toNat i.size none) (H ++ [some ⟨(List.replicate n.toNat zs).flatten, true⟩]) :=
  .of_run fun M w a hH hv => by
    obtain ⟨p, q, hy, g1, g2⟩ := hv.two
    obtain ⟨e1, e2⟩ := map2 hy
    simp only [VR] at g1 g2
    subst g1; subst g2
    have hw : IntKind.i64.wrap n = n := IntWalk.i64_in n (by omega)
    obtain ⟨m, rfl⟩ : ∃ m : Nat, n = m := ⟨n.toNat, by omega⟩
    have hm0 : m ≠ 0 := by omega
    have hl' : m * i.bytes ≤ 140737488355328 := by
      rw [← Int.natCast_mul] at hl
      omega
    have h4 : ¬ 281474976710656 < Builtin.nextslicecap m 0 * i.bytes := Nat.not_lt.2 (growslice_fits (old := 0) (need := m) (by omega) hl')
    have n5 : ¬ ((m : Int) < 0) := by omega
    have n6 : ¬ ((9223372036854775807 : Int) < (m : Int)) := by omega
    have n2 : ¬ (281474976710656 : Int) < (m : Int) * (i.bytes : Int) := by omega
    have n3 : ¬ (IntKind.i64.max < (m : Int)) := by
      have : IntKind.i64.max = 9223372036854775807 := by rfl
      omega
    generalize hC : (Question.appendCap m 0 e).cut (w.tape w.drawn (.appendCap m 0 e)) = C
    have hcm : m ≤ C := by rw [← hC]; exact Nat.le_add_right _ _
    have hzc : (Builtin.zeroCells z.cells m).toList = (List.replicate m z.cells.toList).flatten := by
      rw [← made_eq]
      simp [Builtin.zeroCells]
    have hzr : (Builtin.zeroCells z.cells (C - m)).toList.length = (C - m) * i.size := by simp [Builtin.zeroCells, hzs]
    have hvr : VRs M ((List.replicate m zs).flatten ++ List.replicate ((C - m) * i.size) .any) ((List.replicate m z.cells.toList).flatten ++ (Builtin.zeroCells z.cells (C - m)).toList) := by
      refine ((hc0 M).rep m).append (VRs.mk (by simp only [hzr, List.length_replicate]) fun j q hq => ?_)
      have hj := List.getElem?_eq_some_iff.1 hq
      obtain ⟨g1, g2⟩ := hj
      simp only [List.length_replicate] at g1
      rw [List.getElem_replicate] at g2
      subst g2
      exact ⟨_, List.getElem?_eq_getElem (by rw [hzr]; exact g1), trivial⟩
    refine ⟨.value (.slice (some ⟨w.heap.size, 0, none⟩) m C), _, w.drew.alloc (.cells ((List.replicate m z.cells.toList).flatten ++ (Builtin.zeroCells z.cells (C - m)).toList).toArray e), _, ?_, .inl rfl, HRel.shrink ((hH.drew).alloc e hvr), Kept.shrink (ds := []) ((Kept.refl M H w).draw.alloc _ _ _), ?_⟩
    · subst hc
      have hmi : ¬ (m * i.size = 0) := by
        intro h
        rcases Nat.mul_eq_zero.1 h with h | h
        · exact hm0 h
        · exact hsz h
      have harr : ((List.replicate m z.cells.toList).flatten ++ (Builtin.zeroCells z.cells (C - m)).toList).toArray = Builtin.zeroCells z.cells m ++ Builtin.zeroCells z.cells (C - m) := by
        apply Array.ext'
        rw [Array.toList_append, hzc]
      rw [harr]
      simp [execOp, ho, e1, e2, resolve, invoke, builtin, Builtin.append_, run_underlying ht, run_underlying hu, sizeOf, run_info hi, asInt, asIntOf, hw, n2, hm0, h4, Question.forced, Builtin.firstCells, zeroValue, hz, newRow, hC, n5, n6, hb, hmi]
    · simp only [VR]
      refine ⟨⟨w.heap.size, 0, _⟩, by simp [Val.put]; rfl, .inl ⟨_, C, rfl, by omega, fun _ => ⟨rfl, ?_⟩, fun k hk => by cases hk⟩⟩
      have : ((List.replicate m z.cells.toList).flatten ++ (Builtin.zeroCells z.cells (C - m)).toList).length = C * i.size := by
        rw [List.length_append, hzr]
        simp [List.length_flatten, hzs, ← Nat.add_mul]
        congr 1
        omega
      simp only [List.length_append, Array.length_toList, List.length_flatten, List.map_replicate, List.sum_replicate_nat, hzs] at this ⊢
      omega
end
end Go.Proofs.Ytlohehkagaabfaa.Ah
