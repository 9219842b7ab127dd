/- Ah2a: a part of the proof: steps over abstract values, or contracts of functions. Conditions: none. -/

import Derived.Test.YtlohehkagaabfaaAh2
namespace Go.Proofs.Ytlohehkagaabfaa.Ah
open Go

/-- An operation does so, wherever its operands read so. -/
def SStep (P : Program) (o : Oper) (opds : List Operand) (vals : List AV) (H : Heap) (v : AV) (H' : Heap) : Prop :=
  ∀ M w (a : Act), HRel M H w → VRs M vals (opds.map a.eval) → ∀ next Q, (∀ x M' w', HRel M' H' w' → Kept ⟨w, M, H⟩ M' H' w' → VR M' v x → next (a.put o.dst x) w') → o.wp P a w next Q

/-- What hands back a value, or nothing. -/
def ends (nx : Next) (x : Value) : Prop := nx = .value x ∨ (nx = .skip ∧ x = undef)

theorem SStep.of_run {P : Program} {o : Oper} {opds : List Operand} {vals : List AV} {H : Heap} {v : AV} {H' : Heap}
    (h : ∀ M w (a : Act), HRel M H w → VRs M vals (opds.map a.eval) → ∃ nx x w' M', (execOp a.eval o).run P w = .ok nx w' ∧ ends nx x ∧ HRel M' H' w' ∧ Kept ⟨w, M, H⟩ M' H' w' ∧ VR M' v x) :
    SStep P o opds vals H v H' := by
  intro M w a hH hv next Q hn
  obtain ⟨nx, x, w', M', hr, he, h1, h2, h3⟩ := h M w a hH hv
  unfold Oper.wp
  rw [hr]
  rcases he with rfl | ⟨rfl, rfl⟩
  · exact hn x M' w' h1 h2 h3
  · exact hn undef M' w' h1 h2 h3

theorem SStep.of_pure {P : Program} {o : Oper} {opds : List Operand} {vals : List AV} {H : Heap} {v : AV}
    (h : ∀ M w (a : Act), HRel M H w → VRs M vals (opds.map a.eval) → ∃ x, (execOp a.eval o).run P w = .ok (.value x) w ∧ VR M v x) : SStep P o opds vals H v H :=
  .of_run fun M w a hH hv => let ⟨x, h1, h2⟩ := h M w a hH hv; ⟨.value x, x, w, M, h1, .inl rfl, hH, Kept.refl M H w, h2⟩

theorem VRs.one {M : Val} {v : AV} {us : List Value} (h : VRs M [v] us) : ∃ x, us = [x] ∧ VR M v x := by
  simp only [VRs] at h
  obtain ⟨x, xs, rfl, h1, rfl⟩ := h
  exact ⟨x, rfl, h1⟩
theorem VRs.two {M : Val} {v v' : AV} {us : List Value} (h : VRs M [v, v'] us) : ∃ x y, us = [x, y] ∧ VR M v x ∧ VR M v' y := by
  simp only [VRs] at h
  obtain ⟨x, xs, rfl, h1, y, ys, rfl, h2, rfl⟩ := h
  exact ⟨x, y, rfl, h1, h2⟩
theorem VRs.three {M : Val} {v v' v'' : AV} {us : List Value} (h : VRs M [v, v', v''] us) : ∃ x y z, us = [x, y, z] ∧ VR M v x ∧ VR M v' y ∧ VR M v'' z := by
  simp only [VRs] at h
  obtain ⟨x, xs, rfl, h1, y, ys, rfl, h2, z, zs, rfl, h3, rfl⟩ := h
  exact ⟨x, y, z, rfl, h1, h2, h3⟩

theorem map1 {α β : Type} {f : α → β} {x : α} {y : β} (h : [x].map f = [y]) : f x = y := by simpa using h
theorem map2 {α β : Type} {f : α → β} {x x' : α} {y y' : β} (h : [x, x'].map f = [y, y']) : f x = y ∧ f x' = y' := by simpa using h
theorem map3 {α β : Type} {f : α → β} {x x' x'' : α} {y y' y'' : β} (h : [x, x', x''].map f = [y, y', y'']) : f x = y ∧ f x' = y' ∧ f x'' = y'' := by simpa using h

section
variable {P : Program} {o : Oper}

theorem s_mv {x : Operand} (ho : o.op = .move x ∨ o.op = .assign x) (v : AV) (H : Heap) : SStep P o [x] [v] H v H :=
  .of_pure fun M w a hH hv => by
    obtain ⟨y, hy, h1⟩ := hv.one
    have := map1 hy
    rcases ho with ho | ho <;> exact ⟨y, by simp [execOp, ho, this], h1⟩

theorem s_pick {c x y : Operand} (ho : o.op = .pick c x y) (b : Bool) (v v' : AV) (H : Heap) : SStep P o [c, x, y] [.bool b, v, v'] H (if b then v else v') H :=
  .of_pure fun M w a hH hv => by
    obtain ⟨c', x', y', hy, h1, h2, h3⟩ := hv.three
    obtain ⟨e1, e2, e3⟩ := map3 hy
    simp only [VR] at h1
    refine ⟨if b then x' else y', ?_, by cases b <;> simpa⟩
    cases b <;> simp [execOp, ho, e1, e2, e3, h1, asBool]

theorem s_bin {x y : Operand} {op : BinOp} {t u : TypeId} (ho : o.op = .binOp op t x y u) {k : IntKind} (p q : Int) (v : AV) (H : Heap)
    (hg : eqGuard op t x y (.int k p) (.int k q) = Pure.pure ())
    (z : Value) (hz : ∀ w, (binOp op t (.int k p) (.int k q)).run P w = .ok z w) (hv : ∀ M, VR M v z) : SStep P o [x, y] [.int k p, .int k q] H v H :=
  .of_pure fun M w a hH hv' => by
    obtain ⟨x', y', hy, h1, h2⟩ := hv'.two
    obtain ⟨e1, e2⟩ := map2 hy
    simp only [VR] at h1 h2
    subst h1; subst h2
    exact ⟨z, by simp [execOp, ho, e1, e2, hg, hz], hv M⟩

theorem s_shift {x y : Operand} {op : BinOp} {t u : TypeId} (ho : o.op = .binOp op t x y u) {k k' : IntKind} (p q : Int) (v : AV) (H : Heap)
    (hg : eqGuard op t x y (.int k p) (.int k' q) = Pure.pure ())
    (z : Value) (hz : ∀ w, (binOp op t (.int k p) (.int k' q)).run P w = .ok z w) (hv : ∀ M, VR M v z) : SStep P o [x, y] [.int k p, .int k' q] H v H :=
  .of_pure fun M w a hH hv' => by
    obtain ⟨x', y', hy, h1, h2⟩ := hv'.two
    obtain ⟨e1, e2⟩ := map2 hy
    simp only [VR] at h1 h2
    subst h1; subst h2
    exact ⟨z, by simp [execOp, ho, e1, e2, hg, hz], hv M⟩

/-- Whole numbers. -/
theorem s_int {x y : Operand} {op : BinOp} {t u : TypeId} (ho : o.op = .binOp op t x y u) {k k' : IntKind} (p q : Int) (H : Heap) {K : AV → Prop}
    (h : bin op k p k' q K) : ∃ v, K v ∧ SStep P o [x, y] [.int k p, .int k' q] H v H := by
  have hg : eqGuard op t x y (.int k p) (.int k' q) = Pure.pure () := by unfold eqGuard; cases op <;> rfl
  cases op
  case shl =>
    simp only [bin] at h
    refine ⟨_, h.2, s_shift ho p q _ H hg _ (fun w => ?_) (fun M => rfl)⟩
    simp [binOp, Op.shift, show ¬ q < 0 by omega]
  case shr =>
    simp only [bin] at h
    refine ⟨_, h.2, s_shift ho p q _ H hg _ (fun w => ?_) (fun M => rfl)⟩
    simp [binOp, Op.shift, show ¬ q < 0 by omega]
  case quo =>
    simp only [bin] at h
    obtain ⟨rfl, h1, h2⟩ := h
    refine ⟨_, h2, s_bin ho p q _ H hg _ (fun w => ?_) (fun M => rfl)⟩
    simp [binOp, Op.intDiv, h1]
  case rem =>
    simp only [bin] at h
    obtain ⟨rfl, h1, h2⟩ := h
    refine ⟨_, h2, s_bin ho p q _ H hg _ (fun w => ?_) (fun M => rfl)⟩
    simp [binOp, Op.intDiv, h1]
  all_goals
    simp only [bin] at h
    obtain ⟨rfl, h2⟩ := h
    refine ⟨_, h2, s_bin ho p q _ H hg _ (fun w => ?_) (fun M => rfl)⟩
    simp [binOp, Op.intArith, Op.intBits, Op.intCmp]
  all_goals first | rfl | (simp [bne]; done) | skip
end
end Go.Proofs.Ytlohehkagaabfaa.Ah
