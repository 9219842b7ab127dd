/- Ah10: a part of the proof: steps over abstract values, or contracts of functions. Conditions: none. -/
import Derived.Test.YtlohehkagaabfaaAh9
import Derived.DataShut
import Derived.SizedLaws
import Derived.Deep.Slices
namespace Go.Proofs.Ytlohehkagaabfaa.Ah
open Go Go.ChangeShapes Go.WideShapes Go.ChangeAt Go.RowKit
set_option linter.unusedVariables false

/-! ### Arguments that lead into memory: rows -/

/-- A row in memory, as it is told. -/
def RowOk (W : World) (l : Loc) (avs : List AV) : Prop :=
  avs ≠ [] → ∃ arr elem fr, W.heap[l.blk]? = some (.cells arr elem fr) ∧ arr.size = l.size ∧ ∀ (j : Nat) (u : AV), avs[j]? = some u → ∃ x, arr[l.off + j]? = some x ∧ ∀ M, VR M u x

theorem hrel_rows (W : World) (bs : List (Loc × List AV)) (h : ∀ b ∈ bs, RowOk W b.1 b.2) : HRel (fun i => (bs[i]?).map (·.1)) (bs.map fun b => some ⟨b.2, false⟩) W := by
  refine ⟨fun i hi => by simp at hi; simp [hi], fun i b hb => ?_, fun i j b c l l' hb ho => ?_⟩
  · simp only [List.getElem?_map, Option.map_eq_some_iff] at hb
    obtain ⟨p, hp, hb⟩ := hb
    cases hb
    refine ⟨p.1, by simp [hp], fun ht => ?_⟩
    rcases ht with ht | ht
    · obtain ⟨arr, elem, fr, h1, h2, h3⟩ := h p (List.mem_of_getElem? hp) ht
      refine ⟨arr, elem, fr, h1, h2, fun j v hv => ?_, fun ho => by cases ho⟩
      obtain ⟨x, hx, hr⟩ := h3 j v hv
      exact ⟨x, hx, hr _⟩
    · cases ht
  · simp only [List.getElem?_map, Option.map_eq_some_iff] at hb
    obtain ⟨p, hp, hb⟩ := hb
    cases hb
    cases ho

variable {H : Type} {enc : TypeId × Value → H} {P : Program} {W : World} {b : Nat} {sp : Nat → Bool} {held : Bool}

/-- A law that reads rows of memory. -/
theorem rows_run {f : FuncId} {vals : List AV} {bs : List (Loc × List AV)} {H' : Heap} (h : ACall P f vals (bs.map fun b => some ⟨b.2, false⟩) (.bool true) H') {args : Array Value} (hb : ∀ b ∈ bs, RowOk W b.1 b.2) (hv : VRs (fun i => (bs[i]?).map (·.1)) vals args.toList) :
    Calls P f args W fun e W' => e = .returned (.bool true) ∧ Below W.heap.size W W' := by
  refine (h _ W args.toList (hrel_rows W bs hb) hv).mono fun e W' ⟨x, M', he, _, hk, hx⟩ => ?_
  simp only [VR] at hx
  subst hx
  refine ⟨he, hk.os, hk.tape, hk.output, hk.size, fun k hk' => hk.block k hk' ?_⟩
  rintro ⟨i, b, l, h1, h2, _⟩
  simp only [List.getElem?_map, Option.map_eq_some_iff] at h1
  obtain ⟨p, hp, h1⟩ := h1
  cases h1
  cases h2

theorem fits_rows {ks : List LV} : ∀ (m : Nat) (cs : List Value), Fits (rep ks m) cs → ∃ rows : List (List Value), rows.length = m ∧ cs = rows.flatten ∧ ∀ r ∈ rows, Fits ks r
  | 0, cs, h => ⟨[], rfl, by cases cs with | nil => rfl | cons _ _ => exact h.elim, by simp⟩
  | m + 1, cs, h => by
    have split : ∀ (ks ks' : List LV) (cs : List Value), Fits (ks ++ ks') cs → ∃ a b, cs = a ++ b ∧ Fits ks a ∧ Fits ks' b := by
      intro ks
      induction ks with
      | nil => exact fun ks' cs h => ⟨[], cs, rfl, trivial, h⟩
      | cons k ks ih =>
        intro ks' cs h
        cases cs with
        | nil => exact h.elim
        | cons v r =>
          obtain ⟨a, b, h1, h2, h3⟩ := ih ks' r h.2
          exact ⟨v :: a, b, by rw [h1]; rfl, ⟨h.1, h2⟩, h3⟩
    obtain ⟨a, b, rfl, h1, h2⟩ := split _ _ _ h
    obtain ⟨rows, h3, h4, h5⟩ := fits_rows m b h2
    exact ⟨a :: rows, by simp [h3], by simp [h4], by simp; exact ⟨h1, h5⟩⟩

/-- What a slice argument is: a row, whose cells are told, and a value that is that row's, or nil for no element. -/
theorem open_slice {r : Reach} {base : Nat} {t e : TypeId} {v : Value} {d : DataW H} {ps : List MemPlace} {n sz : Nat} {ks : List LV} (hl : laidOutB P = true) (hu : P.underlying t = some (.slice e)) (he : e < P.types.size) (hk : leaf P n e = some ks) (hc : P.cellsOf e = sz) (hz : sz ≠ 0)
    (hv : Value.okWide P W r base t v) (h : DataW.Trod enc P W 0 (fun _ => true) held t v d ps) :
    ∃ (l : Loc) (rows : List (List Value)), (∀ r ∈ rows, Fits ks r) ∧ rows.length ≤ maxLen ∧ (∀ (M : Val) (i : Nat), M i = some l → VR M (.sl i 0 rows.length sz none) v) ∧
      (∀ avs : List AV, avs.length = rows.flatten.length → (∀ (j : Nat) u x, avs[j]? = some u → rows.flatten[j]? = some x → ∀ M, VR M u x) → RowOk W l avs) ∧ (rows.length = 0 ∨ ∃ el rest, d = .slice el rest ∧ el.length = rows.length) := by
  obtain ⟨fuel, hf⟩ := h
  rcases Deep.open_slice hu hf with ⟨h1, _⟩ | ⟨a, len, cap, m, n', D, Pl, hcs, _, hle, hmax, hm, hdx, hx⟩
  · have hv0 : v = .slice none 0 0 := by
      cases v <;> simp [Value.cells] at h1 <;> simp_all
      rename_i u
      unfold Value.okWide Cell.okWide at hv
      rw [hu] at hv
      simp [Cell.ok, hu] at hv
    subst hv0
    refine ⟨⟨0, 0, 0⟩, [], by simp, by simp, fun M i hM => ?_, fun avs ha _ h0 => ?_, .inl rfl⟩
    · simp only [VR]
      exact ⟨_, hM, .inr (by simp)⟩
    · exact absurd (List.eq_nil_of_length_eq_zero (by simpa using ha)) h0
  · have hv0 : v = .slice (some a) len cap := by
      cases v <;> simp [Value.cells] at hcs <;> simp_all
      rename_i u
      unfold Value.okWide Cell.okWide at hv
      rw [hu] at hv
      simp [Cell.ok, hu] at hv
    subst hv0
    simp only [if_true] at hm
    subst hm
    have hok : a.spot = none := by
      unfold Value.okWide at hv
      rw [hu] at hv
      simp only [Cell.okWide, hu, Cell.ok] at hv
      exact hv.2.2.2.1
    have cell : ∀ i, i < m → ∃ cs', W.cells? 0 (a.add (i * sz)) sz = some cs' ∧ cs'.length = sz ∧ Fits ks cs' := by
      intro i hi
      obtain ⟨cs', h1, h2⟩ := hx i hi
      rw [hc] at h1
      exact ⟨cs', h1, (World.cells?_some h1).2.1, leaf_fits hl n e ks cs' _ _ he hk h2⟩
    obtain ⟨C, hC⟩ := Deep.choose_lt (α := List Value) (p := fun i cs' => W.cells? 0 (a.add (i * sz)) sz = some cs' ∧ cs'.length = sz ∧ Fits ks cs') cell
    have hcell : ∀ i, i < m → ∀ k, k < sz → W.cell? ⟨a.block, a.off + (i * sz + k), none⟩ = (C i)[k]? := by
      intro i hi k hk'
      have := (World.cells?_some (hC i hi).1).2.2 k hk'
      rw [Deep.add_add] at this
      rw [← this]
      congr 1
      obtain ⟨ab, ao, asp⟩ := a
      simp only at hok
      subst hok
      rw [plain_add]
    have hrow : 0 < m → ∃ arr elem fr, W.heap[a.block]? = some (.cells arr elem fr) ∧ ∀ j, j < m * sz → ∃ x, arr[a.off + j]? = some x ∧ (C (j / sz))[j % sz]? = some x := by
      intro h0
      have hz0 : 0 < sz := Nat.pos_of_ne_zero hz
      have get : ∀ j, j < m * sz → ∃ x, W.cell? ⟨a.block, a.off + j, none⟩ = some x ∧ (C (j / sz))[j % sz]? = some x := by
        intro j hj
        have hj1 : j / sz < m := (Nat.div_lt_iff_lt_mul hz0).2 hj
        have hj2 : j % sz < sz := Nat.mod_lt _ hz0
        have h5 := hcell (j / sz) hj1 (j % sz) hj2
        rw [show j / sz * sz + j % sz = j by rw [Nat.mul_comm]; exact Nat.div_add_mod j sz] at h5
        have hlen := (hC _ hj1).2.1
        exact ⟨(C (j / sz))[j % sz]'(by omega), by rw [h5]; simp [hlen, hj2], by simp [hlen, hj2]⟩
      obtain ⟨x0, hx0, _⟩ := get 0 (Nat.mul_pos h0 hz0)
      cases hh : W.heap[a.block]? with
      | none => simp [World.cell?, hh] at hx0
      | some o =>
        cases o with
        | cells arr elem fr =>
          refine ⟨arr, elem, fr, rfl, fun j hj => ?_⟩
          obtain ⟨x, h6, h7⟩ := get j hj
          rw [cell_of_row W _ _ arr elem fr hh] at h6
          exact ⟨x, h6, h7⟩
        | _ => simp [World.cell?, hh] at hx0
    have hsize : ∃ S, ∀ arr elem fr, W.heap[a.block]? = some (.cells arr elem fr) → arr.size = S := by
      cases hh : W.heap[a.block]? with
      | none => exact ⟨0, fun _ _ _ h => by cases h⟩
      | some o =>
        cases o with
        | cells arr elem fr => exact ⟨arr.size, fun _ _ _ h => by cases h; rfl⟩
        | _ => exact ⟨0, fun _ _ _ h => by cases h⟩
    obtain ⟨S, hS⟩ := hsize
    have hfl : ∀ k, ((List.range k).map C).flatten.length = k * sz → True := fun _ _ => trivial
    have flen : ∀ k, k ≤ m → ((List.range k).map C).flatten.length = k * sz := by
      intro k hk'
      induction k with
      | zero => simp
      | succ k ih =>
        rw [List.range_succ, List.map_append, List.flatten_append, List.length_append, ih (by omega)]
        simp [(hC k (by omega)).2.1, Nat.succ_mul]
    have fget : ∀ k, k ≤ m → ∀ j, j < k * sz → ((List.range k).map C).flatten[j]? = (C (j / sz))[j % sz]? := by
      intro k hk'
      induction k with
      | zero => intro j hj; omega
      | succ k ih =>
        intro j hj
        rw [List.range_succ, List.map_append, List.flatten_append]
        by_cases hjk : j < k * sz
        · rw [List.getElem?_append_left (by rw [flen k (by omega)]; exact hjk)]
          exact ih (by omega) j hjk
        · rw [List.getElem?_append_right (by rw [flen k (by omega)]; omega), flen k (by omega)]
          have h1 : j / sz = k := by
            rw [Nat.div_eq_of_lt_le (by omega) hj]
          have h2 : j % sz = j - k * sz := by
            have := Nat.div_add_mod j sz
            rw [h1, Nat.mul_comm] at this
            omega
          rw [h1, h2]
          simp
    refine ⟨⟨a.block, a.off, S⟩, (List.range len).map C, ?_, by simp; omega, fun M i hM => ?_, fun avs ha hav h0 => ?_, .inr ⟨_, _, congrArg Prod.fst hdx, by simp⟩⟩
    · intro r hr
      obtain ⟨i, hi, rfl⟩ := List.mem_map.1 hr
      exact (hC i (by have := List.mem_range.1 hi; omega)).2.2
    · simp only [VR, List.length_map, List.length_range]
      refine ⟨_, hM, .inl ⟨a, m, rfl, hle, fun h0 => ⟨?_, ?_⟩, fun k hk => by cases hk⟩⟩
      · obtain ⟨ab, ao, asp⟩ := a
        simp only at hok
        subst hok
        rfl
      · obtain ⟨arr, elem, fr, h1, h2⟩ := hrow h0
        have h3 := hS _ _ _ h1
        have h4 : 0 < m * sz := Nat.mul_pos h0 (Nat.pos_of_ne_zero hz)
        obtain ⟨x, h5, _⟩ := h2 (m * sz - 1) (by omega)
        have := (Array.getElem?_eq_some_iff.1 h5).1
        simp only
        omega
    · have hlen0 : ((List.range len).map C).flatten.length = len * sz := flen len hle
      have hpos : 0 < len * sz := by
        rw [← hlen0, ← ha]
        exact List.length_pos_iff.2 h0
      have hm0 : 0 < m := by
        rcases Nat.eq_zero_or_pos len with h | h
        · subst h; simp at hpos
        · omega
      obtain ⟨arr, elem, fr, h1, h2⟩ := hrow hm0
      refine ⟨arr, elem, fr, h1, hS _ _ _ h1, fun j u hu => ?_⟩
      have hj : j < len * sz := by
        have := (List.getElem?_eq_some_iff.1 hu).1
        omega
      have hjm : j < m * sz := Nat.lt_of_lt_of_le hj (Nat.mul_le_mul_right _ hle)
      obtain ⟨x, h5, h6⟩ := h2 j hjm
      exact ⟨x, h5, hav j u x hu (by rw [fget len hle j hj]; exact h6)⟩

theorem row_of {l : Loc} {cs : List Value} {avs : List AV} (h : ∀ avs : List AV, avs.length = cs.length → (∀ (j : Nat) u x, avs[j]? = some u → cs[j]? = some x → ∀ M, VR M u x) → RowOk W l avs) (hv : ∀ M, VRs M avs cs) : RowOk W l avs := by
  refine h avs (hv (fun _ => none)).length.symm fun j u x hu hx M => ?_
  obtain ⟨y, hy, hr⟩ := (hv M).get j u hu
  rw [hx] at hy
  cases hy
  exact hr

/-- A row of whole numbers. -/
theorem ints_rows {k : IntKind} : ∀ (rows : List (List Value)), (∀ r ∈ rows, Fits [.i k] r) → ∃ zs : List Int, zs.length = rows.length ∧ rows.flatten = zs.map (Value.int k) ∧ ∀ z ∈ zs, (Lit.int k z).wf = true
  | [], _ => ⟨[], rfl, rfl, by simp⟩
  | r :: rows, h => by
    obtain ⟨zs, h1, h2, h3⟩ := ints_rows rows (fun r hr => h r (by simp [hr]))
    obtain ⟨n, _, rfl, hw, g⟩ := (h r (by simp)).int
    obtain rfl := g.nil
    exact ⟨n :: zs, by simp [h1], by simp [h2], by simp; exact ⟨hw, h3⟩⟩

/-- A slice of whole numbers. -/
theorem open_isl {r : Reach} {base : Nat} {t e : TypeId} {v : Value} {d : DataW H} {ps : List MemPlace} {k : IntKind} (hl : laidOutB P = true) (hu : P.underlying t = some (.slice e)) (he : e < P.types.size) (hk : P.underlying e = some (.int k)) (hc : P.cellsOf e = 1)
    (hv : Value.okWide P W r base t v) (h : DataW.Trod enc P W 0 (fun _ => true) held t v d ps) :
    ∃ (l : Loc) (zs : List Int), zs.length ≤ maxLen ∧ (∀ z ∈ zs, (Lit.int k z).wf = true) ∧ (∀ (M : Val) (i : Nat), M i = some l → VR M (.sl i 0 zs.length 1 none) v) ∧ RowOk W l (zs.map (AV.int k)) ∧ (zs.length = 0 ∨ ∃ el rest, d = .slice el rest ∧ el.length = zs.length) := by
  obtain ⟨l, rows, h1, h2, h3, h4, h5⟩ := open_slice (n := 1) (ks := [.i k]) hl hu he (by simp [leaf, hk]) hc (by simp) hv h
  obtain ⟨zs, g1, g2, g3⟩ := ints_rows rows h1
  refine ⟨l, zs, by rw [g1]; exact h2, g3, by rw [g1]; exact h3, h4 _ (by rw [g2]; simp) fun j u x hu hx M => ?_, by rw [g1]; exact h5⟩
  rw [g2] at hx
  simp only [List.getElem?_map, Option.map_eq_some_iff] at hu hx
  obtain ⟨z, hz, rfl⟩ := hu
  obtain ⟨z', hz', rfl⟩ := hx
  rw [hz] at hz'
  cases hz'
  rfl

theorem wf_u8 {n : Int} (h : (Lit.int .u8 n).wf = true) : 0 ≤ n ∧ n ≤ 255 := by
  have h2 := (Lit.wf_int_iff .u8 n).1 h
  have e1 : IntKind.u8.min = 0 := by decide
  have e2 : IntKind.u8.max = 255 := by decide
  rw [e1, e2] at h2
  exact h2
theorem wf_i64 {n : Int} (h : (Lit.int .i64 n).wf = true) : -9223372036854775808 ≤ n ∧ n ≤ 9223372036854775807 := by
  have h2 := (Lit.wf_int_iff .i64 n).1 h
  have e1 : IntKind.i64.min = -9223372036854775808 := by decide
  have e2 : IntKind.i64.max = 9223372036854775807 := by decide
  rw [e1, e2] at h2
  exact h2
theorem wf_u64 {n : Int} (h : (Lit.int .u64 n).wf = true) : 0 ≤ n ∧ n ≤ 18446744073709551615 := by
  have h2 := (Lit.wf_int_iff .u64 n).1 h
  have e1 : IntKind.u64.min = 0 := by decide
  have e2 : IntKind.u64.max = 18446744073709551615 := by decide
  rw [e1, e2] at h2
  exact h2
theorem wf_u32 {n : Int} (h : (Lit.int .u32 n).wf = true) : 0 ≤ n ∧ n ≤ 4294967295 := by
  have h2 := (Lit.wf_int_iff .u32 n).1 h
  have e1 : IntKind.u32.min = 0 := by decide
  have e2 : IntKind.u32.max = 4294967295 := by decide
  rw [e1, e2] at h2
  exact h2

theorem nats_of : ∀ (zs : List Int), (∀ z ∈ zs, 0 ≤ z) → ∃ ns : List Nat, zs = ns.map (fun n : Nat => (n : Int))
  | [], _ => ⟨[], rfl⟩
  | z :: zs, h => by
    obtain ⟨ns, hn⟩ := nats_of zs (fun z hz => h z (by simp [hz]))
    obtain ⟨n, rfl⟩ : ∃ n : Nat, z = n := ⟨z.toNat, by have := h z (by simp); omega⟩
    exact ⟨n :: ns, by rw [hn]; rfl⟩

/-- How long a slice can be. -/
theorem sized_len {ts : List TypeId} {ds : List (DataW H)} (h : (DataW.weightsEach P ts ds).all (· ≤ reachBytes) = true) {j : Nat} {t e : TypeId} {d : DataW H} {n : Nat} (ht : ts[j]? = some t) (hd : ds[j]? = some d) (hu : P.underlying t = some (.slice e)) (hb : P.bytesOf e ≠ 0)
    (hn : n = 0 ∨ ∃ el rest, d = .slice el rest ∧ el.length = n) : n ≤ 140737488351232 := by
  rcases hn with rfl | ⟨el, rest, rfl, rfl⟩
  · omega
  · have := sized_slice h ht hd hu
    have h2 : el.length ≤ (el.length + rest.length) * P.bytesOf e := Nat.le_trans (Nat.le_add_right _ _) (Nat.le_mul_of_pos_right _ (Nat.pos_of_ne_zero hb))
    have h3 : reachBytes = 140737488351232 := rfl
    omega

theorem open_arr {r : Reach} {base : Nat} {t e : TypeId} {m : Nat} {v : Value} {d : DataW H} {ps : List MemPlace} {n : Nat} {ks : List LV} (hl : laidOutB P = true) (ht : t < P.types.size) (hu : P.underlying t = some (.array m e)) (hk : leaf P n t = some ks)
    (hv : Value.okWide P W r base t v) (h : DataW.Trod enc P W b sp held t v d ps) : ∃ cs : List Value, v = .agg cs.toArray ∧ Fits ks cs := by
  unfold Value.okWide at hv
  rw [hu] at hv
  obtain ⟨cs, rfl, _⟩ := hv
  obtain ⟨fuel, hf⟩ := h
  exact ⟨cs.toList, by simp, by simpa [Value.cells] using leaf_fits hl n t ks _ fuel _ ht hk hf⟩
end Go.Proofs.Ytlohehkagaabfaa.Ah
