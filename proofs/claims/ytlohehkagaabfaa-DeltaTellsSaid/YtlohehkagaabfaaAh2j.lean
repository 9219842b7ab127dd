/- Ah2j: a part of the proof: steps over abstract values, or contracts of functions. Conditions: none. -/
import Derived.Test.YtlohehkagaabfaaAh2i
import Derived.Laws.BytesString
import Derived.Laws.BytesArg
namespace Go.Proofs.Ytlohehkagaabfaa.Ah
open Go
section
variable {P : Program} {o : Oper}

theorem strC_vr {M : Val} : ∀ {cs : List AV} {xs : List Value} {bs : List UInt8}, VRs M cs xs → strC cs = some bs → ∃ ns : List Int, xs = ns.map (Value.int .u8) ∧ ns.map (fun n => UInt8.ofNat n.toNat) = bs
  | [], xs, bs, h, hb => by
    simp only [VRs] at h
    subst h
    simp [strC] at hb
    subst hb
    exact ⟨[], rfl, rfl⟩
  | c :: cs, xs, bs, h, hb => by
    simp only [VRs] at h
    obtain ⟨x, xs, rfl, h1, h2⟩ := h
    unfold strC at hb
    split at hb
    · rename_i e
      cases e
    · rename_i n r e
      cases e
      obtain ⟨bs', h3, rfl⟩ := Option.map_eq_some_iff.1 hb
      obtain ⟨ns, rfl, rfl⟩ := strC_vr h2 h3
      simp only [VR] at h1
      subst h1
      exact ⟨n :: ns, rfl, rfl⟩
    · cases hb

theorem s_strOf {s d : TypeId} {x : Operand} (ho : o.op = .convert s d x) {e : TypeId} (hs : P.underlying s = some (.slice e)) (he : P.underlying e = some (.int .u8)) (hd : P.underlying d = some .string) {v : AV} {cs : List AV} {n : Nat} {H : Heap} (hr : rdS H v = some (cs, n))
    (hsv : ∀ b off k s c, v = .sl b off k s c → s = 1) {bs : List UInt8} (hb : strC cs = some bs) : SStep P o [x] [v] H (.str ⟨bs.toArray⟩) H :=
  .of_pure fun M w a hH hv => by
    obtain ⟨y, hy, h1⟩ := hv.one
    have ey := map1 hy
    refine ⟨.string ⟨bs.toArray⟩, ?_, by simp only [VR]⟩
    have key : (convert s d y).run P w = .ok (.string ⟨bs.toArray⟩) w := by
      cases v with
      | nils =>
        simp only [rdS, Option.some.injEq, Prod.mk.injEq] at hr
        obtain ⟨rfl, rfl⟩ := hr
        simp [strC] at hb
        subst hb
        simp only [VR] at h1
        subst h1
        rw [run_convert_bytes_string w s d e _ _ _ hs he hd]
        simp [Conv.bytesToString]
        rfl
      | sl b off k s' c =>
        obtain rfl := hsv _ _ _ _ _ rfl
        simp only [rdS] at hr
        obtain ⟨cs', g1, g2⟩ := Option.map_eq_some_iff.1 hr
        simp only [Prod.mk.injEq] at g2
        obtain ⟨rfl, rfl⟩ := g2
        simp only [VR] at h1
        obtain ⟨l', xs, hM', hrun, hvs, hl⟩ := run_rd (P := P) hH g1
        obtain ⟨ns, rfl, rfl⟩ := strC_vr hvs hb
        obtain ⟨l, hM, ⟨ad, cap, rfl, c1, c2, c3⟩ | ⟨rfl, _, rfl⟩⟩ := h1
        · rw [hM] at hM'
          cases hM'
          rw [run_convert_bytes_string w s d e _ _ _ hs he hd]
          by_cases hk : k = 0
          · subst hk
            simp at hl
            subst hl
            rw [run_bytesToString w ad 0 cap [] (by simp [loadCells, loadCellsFrom])]
            rfl
          · obtain ⟨rfl, _⟩ := c2 (by omega)
            rw [run_bytesToString w _ k cap ns (by simpa using hrun w rfl), foldl_push_bytes]
            simp
        · simp at hl
          subst hl
          rw [run_convert_bytes_string w s d e _ _ _ hs he hd]
          simp [Conv.bytesToString]
          rfl
      | _ => simp [rdS] at hr
    simp [execOp, ho, ey, key]

theorem freeze_heap (w : World) (b n : Nat) {arr : Array Value} {elem : TypeId} {fr : Nat × Nat} (h : w.heap[b]? = some (.cells arr elem fr)) :
    (w.freeze ⟨b, n, none⟩ 1).heap[b]? = some (.cells arr elem (if fr.1 == fr.2 then (n, n + 1) else (min fr.1 n, max fr.2 (n + 1)))) := by
  unfold World.freeze
  rw [if_neg (by decide)]
  simp only [Array.getElem?_modify, if_true, h, Option.map_some]

theorem freeze_other (w : World) (b n i : Nat) (h : i ≠ b) : (w.freeze ⟨b, n, none⟩ 1).heap[i]? = w.heap[i]? := by
  unfold World.freeze
  rw [if_neg (by decide)]
  simp only [Array.getElem?_modify]
  rw [if_neg (fun e => h e.symm)]

theorem HRel.freeze {M : Val} {H : Heap} {w : World} (h : HRel M H w) {i : Nat} {b : Blk} {l : Loc} (hb : H[i]? = some (some b)) (ho : b.own = true) (hl : M i = some l) : HRel M H (w.freeze ⟨l.blk, l.size, none⟩ 1) := by
  refine ⟨h.dom, fun k c hc => ?_, h.sep⟩
  obtain ⟨l', hl', hB⟩ := h.row k c hc
  refine ⟨l', hl', fun ht => ?_⟩
  by_cases hk : k = i
  · subst hk
    rw [hl] at hl'
    cases hl'
    rw [hb] at hc
    cases hc
    obtain ⟨arr, elem, fr, e1, e2, e3, e4⟩ := hB ht
    refine ⟨arr, elem, _, freeze_heap w l.blk l.size e1, e2, e3, fun _ => ?_⟩
    have := e4 ho
    right
    by_cases hf : fr.1 = fr.2
    · simp [hf]; omega
    · simp [hf]; omega
  · refine (hB ht).of_block (freeze_other w _ _ _ fun e => ?_)
    exact h.sep i k b c l l' hb ho hc ht (fun e => hk e.symm) hl hl' e.symm

theorem Kept.freeze {X : Cx} {M : Val} {H : Heap} {w : World} (hk : Kept X M H w) {i : Nat} {b : Blk} {l : Loc} (hb : H[i]? = some (some b)) (ho : b.own = true) (hl : M i = some l) (n : Nat) : Kept X M H (w.freeze ⟨l.blk, n, none⟩ 1) where
  os := hk.os
  tape := hk.tape
  output := hk.output
  size := by have := hk.size; simpa [World.freeze] using this
  block := fun m hm hno => by
    refine (freeze_other w _ _ _ ?_).trans (hk.block m hm hno)
    rintro rfl
    rcases hk.own i b l hb ho hl with h1 | h1
    · omega
    · exact hno h1
  own := hk.own
  ext := hk.ext
  len := hk.len

/-- What is a constant text's bytes is marked so. -/
theorem s_mark {s : TypeId} {x : Operand} (ho : o.op = .convert s s x) {e : TypeId} (hs : P.underlying s = some (.slice e)) (he : P.underlying e = some (.int .u8)) (b off n k : Nat) {kb : Blk} {H : Heap} (hb : blkAt H b = some kb) (hown : kb.own = true) (hk : 0 < k) :
    SStep P o [x] [.sl b off n 1 (some k)] H (.sl b off n 1 (some k)) H :=
  .of_run fun M w a hH hv => by
    obtain ⟨y, hy, h1⟩ := hv.one
    have ey := map1 hy
    have h1' := h1
    simp only [VR] at h1'
    obtain ⟨l, hM, ⟨ad, cap, rfl, c1, c2, c3⟩ | ⟨_, h2, _⟩⟩ := h1'
    · have hcap := c3 k rfl
      obtain ⟨rfl, _⟩ := c2 (by omega)
      obtain ⟨l', hl', arr, elem, fr, e1, e2, e3, e4⟩ := hH.blk b kb (blkAt_some hb) (.inr hown)
      rw [hM] at hl'
      cases hl'
      refine ⟨.value (.slice (some ⟨l.blk, l.off + off, none⟩) n cap), _, w.freeze ⟨l.blk, l.size, none⟩ 1, M, ?_, .inl rfl, hH.freeze (blkAt_some hb) hown hM, (Kept.refl M H w).freeze (blkAt_some hb) hown hM _, h1⟩
      have hsh : w.shape? l.blk = some (elem, l.size) := by unfold World.shape?; rw [e1]; simp [e2]
      simp [execOp, ho, ey, convert, run_underlying hs, run_underlying he, markStringish, hsh]
    · cases h2
end
end Go.Proofs.Ytlohehkagaabfaa.Ah
