/- Ah11: a part of the proof: steps over abstract values, or contracts of functions. Conditions: none. -/
import Derived.Test.YtlohehkagaabfaaAh7
namespace Go.Proofs.Ytlohehkagaabfaa.Ah
open Go
variable {P : Program}

/-! ### Results that are told with less; rows of whole numbers -/

/-- A result that is told with less than is known. -/
def FinW (H : Heap) (rs : List SR) (v : AV) (H' : Heap) : Post := fun e T Hf => ∃ v', (∀ M x, VR M v' x → VR M v x) ∧ Fin H rs v' H' e T Hf

theorem acallW {P : Program} {f : FuncId} {args : List AV} {H H' : Heap} {v : AV} {s : SC} {T : Env} {rs : List SR} (mk : ∀ v', ac P s T H (Fin H rs v' H') → ACall P f args H v' H') (h : ac P s T H (FinW H rs v H')) : ACall P f args H v H' := by
  obtain ⟨e, T', H'', ⟨v', hw, hf⟩, up⟩ := ac_det s T H _ h
  intro M w xs hH hv
  refine (mk v' (up _ hf) M w xs hH hv).mono fun e w' ⟨x, M', h1, h2, h3, h4⟩ => ⟨x, M', h1, h2, h3, hw _ _ h4⟩

theorem ACall.weaken {P : Program} {f : FuncId} {args : List AV} {H H' : Heap} {v v' : AV} (h : ACall P f args H v H') (hw : ∀ M x, VR M v x → VR M v' x) : ACall P f args H v' H' := by
  intro M w xs hH hv
  exact (h M w xs hH hv).mono fun e w' ⟨x, M', h1, h2, h3, h4⟩ => ⟨x, M', h1, h2, h3, hw _ _ h4⟩

/-- Of a slice its room is forgotten. -/
theorem sl_weak {b o n s : Nat} {c : Option Nat} (M : Val) (x : Value) (h : VR M (.sl b o n s c) x) : VR M (.sl b o n s none) x := by
  simp only [VR] at h ⊢
  obtain ⟨l, h1, ⟨a, cap, h2, h3, h4, _⟩ | ⟨h2, _, h3⟩⟩ := h
  · exact ⟨l, h1, .inl ⟨a, cap, h2, h3, h4, fun k hk => by cases hk⟩⟩
  · exact ⟨l, h1, .inr ⟨h2, fun k hk => (by cases hk), h3⟩⟩

theorem tup2_weak {u u' v v' : AV} (h1 : ∀ M x, VR M u x → VR M u' x) (h2 : ∀ M x, VR M v x → VR M v' x) (M : Val) (x : Value) (h : VR M (.tup [u, v]) x) : VR M (.tup [u', v']) x := by
  simp only [VR, VRs] at h ⊢
  obtain ⟨us, e, x0, xs, rfl, g1, x1, xs1, rfl, g2, rfl⟩ := h
  exact ⟨_, e, _, _, rfl, h1 _ _ g1, _, _, rfl, h2 _ _ g2, rfl⟩

theorem getMap {k : IntKind} {zs : List Int} {j : Nat} {z : Int} (h : zs[j]? = some z) : (zs.map (AV.int k))[j]? = some (AV.int k z) := by simp [h]
theorem setMap {k : IntKind} {zs : List Int} {j : Nat} {z : Int} (h : j < zs.length) : setCells (zs.map (AV.int k)) j [AV.int k z] = (zs.set j z).map (AV.int k) := by
  unfold setCells
  rw [List.set_eq_take_append_cons_drop, if_pos h]
  simp [List.map_take, List.map_drop]
theorem allMap {k : IntKind} (zs : List Int) : (zs.map (AV.int k)).all AV.cell = true := by simp [AV.cell]
theorem undMap {k : IntKind} {n : Nat} : ∀ (zs : List Int), AV.unds n (zs.map (AV.int k))
  | [] => by simp [AV.unds]
  | z :: zs => by simp only [List.map_cons, AV.unds, AV.und]; exact ⟨trivial, undMap zs⟩
theorem takeMap {k : IntKind} (zs : List Int) : (zs.map (AV.int k)).take zs.length = zs.map (AV.int k) := by rw [List.take_of_length_le (by simp)]
theorem rdMap {H : Heap} {b : Nat} {k : IntKind} {zs : List Int} {o : Bool} (h : blkAt H b = some ⟨zs.map (AV.int k), o⟩) : rd H b 0 zs.length = some (zs.map (AV.int k)) := by
  unfold rd
  rw [h]
  simp [takeMap]
end Go.Proofs.Ytlohehkagaabfaa.Ah
