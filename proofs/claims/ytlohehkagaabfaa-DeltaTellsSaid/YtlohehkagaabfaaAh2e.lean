/- Ah2e: a part of the proof: steps over abstract values, or contracts of functions. Conditions: none. -/
import Derived.Test.YtlohehkagaabfaaAh2d
namespace Go.Proofs.Ytlohehkagaabfaa.Ah
open Go
section
variable {P : Program} {o : Oper}

/-- What bounds come to. -/
def CutR (P : Program) (n : Nat) (c : Option Nat) (lo hi mx : Option Operand) (vs : List AV) (l h : Nat) (c' : Option Nat) : Prop :=
  ∀ M (a : Act) cap w isSlice, n ≤ cap → (∀ k, c = some k → cap = k) → VRs M vs ((lo.toList ++ hi.toList ++ mx.toList).map a.eval) →
    ∃ m, (Instr.sliceBounds isSlice n cap (lo.map a.eval) (hi.map a.eval) (mx.map a.eval)).run P w = .ok (l, h, m) w ∧ l ≤ h ∧ h ≤ m ∧ m ≤ cap ∧ (∀ k, c' = some k → m - l = k)

theorem run_bound (k : IntKind) (i : Int) (y : Nat) (code : BoundsCode) (h0 : 0 ≤ i) (h1 : i ≤ y) (w : World) : (Instr.sliceBound (.int k i) y code).run P w = .ok i.toNat w := by
  simp [Instr.sliceBound, asIntOf, h0, h1]

theorem cut_sound {n : Nat} {c : Option Nat} {lo hi mx : Option Operand} {vs : List AV} {K : Nat → Nat → Option Nat → Prop} (hc : cut n c lo.isSome hi.isSome mx.isSome vs K) :
    ∃ l h c', K l h c' ∧ h ≤ n ∧ CutR P n c lo hi mx vs l h c' := by
  cases lo <;> cases hi <;> cases mx <;> simp only [Option.isSome_none, Option.isSome_some, cut] at hc
  · obtain ⟨rfl, hc⟩ := a0_out hc
    refine ⟨_, _, _, hc, Nat.le_refl _, ?_⟩
    intro M a cap w s hn hk hv
    exact ⟨cap, by simp [Instr.sliceBounds], by omega, by omega, by omega, fun k hk' => by have := hk k hk'; omega⟩
  · obtain ⟨x, rfl, hc⟩ := a1_out hc
    obtain ⟨kk, hI, rfl, hc⟩ := isI_out hc
    obtain ⟨h1, h2, h3⟩ := hc
    refine ⟨_, _, _, h3, by omega, ?_⟩
    intro M a cap w s hn hk hv
    obtain ⟨y, hy, hv1⟩ := VRs.one hv
    have e := map1 hy
    simp only [VR] at hv1
    subst hv1
    refine ⟨cap, ?_, by omega, by omega, by omega, fun k hk' => by have := hk k hk'; omega⟩
    simp [Instr.sliceBounds, e]
    rw [run_bound _ _ _ _ h1 (by omega)]
    simp
  · obtain ⟨x, y, rfl, hc⟩ := a2_out hc
    obtain ⟨kk, hI, rfl, hc⟩ := isI_out hc
    obtain ⟨kk', mI, rfl, hc⟩ := isI_out hc
    obtain ⟨h1, h2, h3, h4⟩ := hc
    refine ⟨_, _, _, h4, by omega, ?_⟩
    intro M a cap w s hn hk hv
    obtain ⟨y, z, hy, hv1, hv2⟩ := VRs.two hv
    obtain ⟨e1, e2⟩ := map2 hy
    simp only [VR] at hv1 hv2
    subst hv1; subst hv2
    refine ⟨mI.toNat, ?_, by omega, by omega, by omega, fun k hk' => by cases hk'; omega⟩
    simp [Instr.sliceBounds, e1, e2]
    rw [run_bound _ _ _ _ (by omega) (by omega)]
    simp
    rw [run_bound _ _ _ _ (by omega) (by omega)]
    simp
  · obtain ⟨x, rfl, hc⟩ := a1_out hc
    obtain ⟨kk, lI, rfl, hc⟩ := isI_out hc
    obtain ⟨h1, h2, h3⟩ := hc
    refine ⟨_, _, _, h3, by omega, ?_⟩
    intro M a cap w s hn hk hv
    obtain ⟨y, hy, hv1⟩ := VRs.one hv
    have e := map1 hy
    simp only [VR] at hv1
    subst hv1
    refine ⟨cap, ?_, by omega, by omega, by omega, fun k hk' => by
      cases c with
      | none => cases hk'
      | some k0 => have := hk k0 rfl; simp at hk'; omega⟩
    simp [Instr.sliceBounds, e]
    rw [run_bound _ _ _ _ h1 (by omega)]
    simp
  · obtain ⟨x, y, rfl, hc⟩ := a2_out hc
    obtain ⟨kk, lI, rfl, hc⟩ := isI_out hc
    obtain ⟨kk', hI, rfl, hc⟩ := isI_out hc
    obtain ⟨h1, h2, h3, h4⟩ := hc
    refine ⟨_, _, _, h4, by omega, ?_⟩
    intro M a cap w s hn hk hv
    obtain ⟨y, z, hy, hv1, hv2⟩ := VRs.two hv
    obtain ⟨e1, e2⟩ := map2 hy
    simp only [VR] at hv1 hv2
    subst hv1; subst hv2
    refine ⟨cap, ?_, by omega, by omega, by omega, fun k hk' => by
      cases c with
      | none => cases hk'
      | some k0 => have := hk k0 rfl; simp at hk'; omega⟩
    simp [Instr.sliceBounds, e1, e2]
    rw [run_bound _ _ _ _ (by omega) (by omega)]
    simp
    rw [run_bound _ _ _ _ (by omega) (by omega)]
    simp
  · obtain ⟨x, y, z, rfl, hc⟩ := a3_out hc
    obtain ⟨kk, lI, rfl, hc⟩ := isI_out hc
    obtain ⟨kk', hI, rfl, hc⟩ := isI_out hc
    obtain ⟨kk'', mI, rfl, hc⟩ := isI_out hc
    obtain ⟨h1, h2, h3, h4, h5⟩ := hc
    refine ⟨_, _, _, h5, by omega, ?_⟩
    intro M a cap w s hn hk hv
    obtain ⟨y, z, u, hy, hv1, hv2, hv3⟩ := VRs.three hv
    obtain ⟨e1, e2, e3⟩ := map3 hy
    simp only [VR] at hv1 hv2 hv3
    subst hv1; subst hv2; subst hv3
    refine ⟨mI.toNat, ?_, by omega, by omega, by omega, fun k hk' => by cases hk'; omega⟩
    simp [Instr.sliceBounds, e1, e2, e3]
    rw [run_bound _ _ _ _ (by omega) (by omega)]
    simp
    rw [run_bound _ _ _ _ (by omega) (by omega)]
    simp
    rw [run_bound _ _ _ _ (by omega) (by omega)]
    simp

theorem s_slice {t : TypeId} {x : Operand} {lo hi mx : Option Operand} (ho : o.op = .slice t x lo hi mx) {et : TypeId} (hd : P.underlying t = some (.slice et)) {sz : Nat} (hn : (P.info? et).map (·.size) = some sz)
    (b off n : Nat) (c c' : Option Nat) (vs : List AV) (l h : Nat) (hc : CutR P n c lo hi mx vs l h c') (H : Heap) :
    SStep P o (x :: (lo.toList ++ hi.toList ++ mx.toList)) (.sl b off n sz c :: vs) H (.sl b (off + l * sz) (h - l) sz (if n = 0 ∧ c = none then none else c')) H :=
  .of_pure fun M w a hH hv => by
    rw [List.map_cons] at hv
    simp only [VRs] at hv
    obtain ⟨y, ys, he, h1, h2⟩ := hv
    simp only [List.cons.injEq] at he
    obtain ⟨e, rfl⟩ := he
    simp only [VR] at h1
    obtain ⟨loc, hM, ⟨ad, cap, rfl, g1, g2, g3⟩ | ⟨rfl, g3, rfl⟩⟩ := h1
    case inr =>
      obtain ⟨m, hr, k1, k2, k3, k4⟩ := hc M a 0 w true (Nat.le_refl _) (fun k hk => by rw [g3] at hk; cases hk) h2
      have hm : m = 0 := by omega
      have hl : l = 0 := by omega
      have hh : h = 0 := by omega
      subst hm hl hh
      refine ⟨.slice none 0 0, ?_, by simp only [VR]; exact ⟨loc, hM, .inr ⟨by first | trivial | rfl, by simp [g3], by first | trivial | rfl⟩⟩⟩
      simp [execOp, ho, e, Instr.sliceAt, run_underlying hd, Instr.slice, run_size hn]
      rw [hr]
      simp
    obtain ⟨m, hr, k1, k2, k3, k4⟩ := hc M a cap w true g1 g3 h2
    refine ⟨.slice (if m = l then some ad else some (ad.add (l * sz))) (h - l) (m - l), ?_, ?_⟩
    · simp [execOp, ho, e, Instr.sliceAt, run_underlying hd, Instr.slice, run_size hn]
      rw [hr]
      simp
    · replace k4 : ∀ k, (if n = 0 ∧ c = none then none else c') = some k → m - l = k := by
        intro k hk
        split at hk
        · cases hk
        · exact k4 k hk
      simp only [VR]
      by_cases hml : m = l
      · rw [if_pos hml]
        exact ⟨loc, hM, .inl ⟨ad, m - l, rfl, by omega, fun h0 => by omega, k4⟩⟩
      · rw [if_neg hml]
        obtain ⟨rfl, g4⟩ := g2 (by omega)
        refine ⟨loc, hM, .inl ⟨_, m - l, rfl, by omega, fun h0 => ⟨by rw [plain_add, Nat.add_assoc], ?_⟩, k4⟩⟩
        have : (m - l) * sz + l * sz = m * sz := by rw [← Nat.add_mul]; congr 1; omega
        have : m * sz ≤ cap * sz := Nat.mul_le_mul_right _ k3
        omega

theorem s_sliceN {t : TypeId} {x : Operand} {lo hi mx : Option Operand} (ho : o.op = .slice t x lo hi mx) {et : TypeId} (hd : P.underlying t = some (.slice et)) {sz : Nat} (hn : (P.info? et).map (·.size) = some sz)
    (c' : Option Nat) (vs : List AV) (l h : Nat) (hc : CutR P 0 (some 0) lo hi mx vs l h c') (H : Heap) :
    SStep P o (x :: (lo.toList ++ hi.toList ++ mx.toList)) (.nils :: vs) H .nils H :=
  .of_pure fun M w a hH hv => by
    rw [List.map_cons] at hv
    simp only [VRs] at hv
    obtain ⟨y, ys, he, h1, h2⟩ := hv
    simp only [List.cons.injEq] at he
    obtain ⟨e, rfl⟩ := he
    simp only [VR] at h1
    subst h1
    obtain ⟨m, hr, k1, k2, k3, k4⟩ := hc M a 0 w true (Nat.le_refl _) (fun k hk => by cases hk; rfl) h2
    refine ⟨.slice none 0 0, ?_, rfl⟩
    simp [execOp, ho, e, Instr.sliceAt, run_underlying hd, Instr.slice, run_size hn]
    rw [hr]
    have hm : m = 0 := by omega
    have hl : l = 0 := by omega
    have hh : h = 0 := by omega
    subst hm hl hh
    simp

theorem s_aslice {t : TypeId} {x : Operand} {lo hi mx : Option Operand} (ho : o.op = .slice t x lo hi mx) {n : Nat} {et : TypeId} (hd : P.underlying t = some (.array n et)) {sz : Nat} (hn : (P.info? et).map (·.size) = some sz)
    (b off : Nat) (c' : Option Nat) (vs : List AV) (l h : Nat) (hc : CutR P n (some n) lo hi mx vs l h c') (H : Heap) (hb : off + n * sz ≤ ((blkAt H b).map (·.cells.length)).getD 0) (hb0 : (blkAt H b).isSome = true) (hsz : sz ≠ 0) :
    SStep P o (x :: (lo.toList ++ hi.toList ++ mx.toList)) (.ptr b off :: vs) H (.sl b (off + l * sz) (h - l) sz c') H :=
  .of_pure fun M w a hH hv => by
    rw [List.map_cons] at hv
    simp only [VRs] at hv
    obtain ⟨y, ys, he, h1, h2⟩ := hv
    simp only [List.cons.injEq] at he
    obtain ⟨e, rfl⟩ := he
    simp only [VR] at h1
    obtain ⟨loc, hM, rfl⟩ := h1
    obtain ⟨m, hr, k1, k2, k3, k4⟩ := hc M a n w false (Nat.le_refl _) (fun k hk => by cases hk; rfl) h2
    refine ⟨.slice (some (if m = l then ⟨loc.blk, loc.off + off, none⟩ else (⟨loc.blk, loc.off + off, none⟩ : Addr).add (l * sz))) (h - l) (m - l), ?_, ?_⟩
    · simp [execOp, ho, e, Instr.sliceAt, run_underlying hd, Instr.sureAddr, run_size hn]
      rw [hr]
      simp
    · simp only [VR]
      refine ⟨loc, hM, .inl ⟨_, m - l, rfl, by omega, fun h0 => ⟨by rw [if_neg (by omega), plain_add, Nat.add_assoc], ?_⟩, k4⟩⟩
      obtain ⟨k, hk⟩ := Option.isSome_iff_exists.1 hb0
      have hkc : k.cells ≠ [] := by
        intro e0
        rw [hk] at hb
        simp [e0] at hb
        have h8 : n = 0 := by
          rcases Nat.eq_zero_or_pos n with h | h
          · exact h
          · have := Nat.mul_pos h (Nat.pos_of_ne_zero hsz)
            omega
        omega
      obtain ⟨loc', hM', arr, elem, fr, q1, q2, q3, q4⟩ := hH.blk b k (blkAt_some hk) (.inl hkc)
      rw [hM] at hM'
      cases hM'
      have hlen : loc.off + k.cells.length ≤ loc.size ∨ k.cells.length = 0 := by
        by_cases hz : k.cells.length = 0
        · exact .inr hz
        · left
          obtain ⟨x, hx, _⟩ := q3 (k.cells.length - 1) (k.cells[k.cells.length - 1]'(by omega)) (by simp)
          have := (Array.getElem?_eq_some_iff.1 hx).1
          omega
      rw [hk] at hb
      simp at hb
      have h5 : (m - l) * sz + l * sz = m * sz := by rw [← Nat.add_mul]; congr 1; omega
      have h6 : m * sz ≤ n * sz := Nat.mul_le_mul_right _ k3
      rcases hlen with hlen | hlen
      · omega
      · have : n * sz = 0 := by omega
        have h7 : off = 0 := by omega
        have h8 : n = 0 := by rcases Nat.mul_eq_zero.1 this with h | h <;> omega
        omega

end
end Go.Proofs.Ytlohehkagaabfaa.Ah
