/- Ah11: a part of the proof: steps over abstract values, or contracts of functions. Conditions: none. -/
import Derived.Test.YtlohehkagaabfaaAh7
namespace Go.Proofs.Ytlohehkagaabfaa.Ah
open Go
variable {P : Program}

/-! ### Results that are told with less; rows of whole numbers -/

/-- A result that is told with less than is known. -/
def FinW (H : Heap) (rs : List SR) (v : AV) (H' : Heap) : Post := fun e T Hf => ∃ v', (∀ M x, VR M v' x → VR M v x) ∧ Fin H rs v' H' e T Hf

theorem acallW {P : Program} {f : FuncId} {args : List AV} {H H' : Heap} {v : AV} {s : SC} {T : Env} {rs : List SR} (mk : ∀ v', ac P s T H (Fin H rs v' H') → ACall P f args H v' H') (h : ac P s T H (FinW H rs v H')) : ACall P f args H v H' := by
  obtain ⟨e, T', H'', ⟨v', hw, hf⟩, up⟩ := ac_det s T H _ h
  intro M w xs hH hv
  refine (mk v' (up _ hf) M w xs hH hv).mono fun e w' ⟨x, M', h1, h2, h3, h4⟩ => ⟨x, M', h1, h2, h3, hw _ _ h4⟩

theorem ACall.weaken {P : Program} {f : FuncId} {args : List AV} {H H' : Heap} {v v' : AV} (h : ACall P f args H v H') (hw : ∀ M x, VR M v x → VR M v' x) : ACall P f args H v' H' := by
  intro M w xs hH hv
  exact (h M w xs hH hv).mono fun e w' ⟨x, M', h1, h2, h3, h4⟩ => ⟨x, M', h1, h2, h3, hw _ _ h4⟩

/-- Of a slice its room is forgotten. -/
theorem sl_weak {b o n s : Nat} {c : Option Nat} (M : Val) (x : Value) (h : VR M (.sl b o n s c) x) : VR M (.sl b o n s none) x := by
  simp only [VR] at h ⊢
  obtain ⟨l, h1, ⟨a, cap, h2, h3, h4, _⟩ | ⟨h2, _, h3⟩⟩ := h
  · exact ⟨l, h1, .inl ⟨a, cap, h2, h3, h4, fun k hk => by cases hk⟩⟩
  · exact ⟨l, h1, .inr ⟨h2, trivial, h3⟩⟩

theorem tup2_weak {u u' v v' : AV} (h1 : ∀ M x, VR M u x → VR M u' x) (h2 : ∀ M x, VR M v x → VR M v' x) (M : Val) (x : Value) (h : VR M (.tup [u, v]) x) : VR M (.tup [u', v']) x := by
  simp only [VR, VRs] at h ⊢
  obtain ⟨us, e, x0, xs, rfl, g1, x1, xs1, rfl, g2, rfl⟩ := h
  exact ⟨_, e, _, _, rfl, h1 _ _ g1, _, _, rfl, h2 _ _ g2, rfl⟩

/-- A row that may be nil: both ways. -/
theorem call_empty {P : Program} {f : FuncId} {b o s : Nat} {v : AV} {H H' : Heap} (h0 : ACall P f [.nils] H v H') (h1 : ∀ k, ACall P f [.sl b o 0 s (some k)] H v H') : ACall P f [.sl b o 0 s none] H v H' := by
  intro M w xs hH hv
  simp only [VRs, VR] at hv
  obtain ⟨x, r, rfl, ⟨l, hM, ⟨a, cap, e1, e2, e3, _⟩ | ⟨_, _, e⟩⟩, rfl⟩ := hv
  · refine h1 cap M w _ hH ?_
    simp only [VRs, VR]
    exact ⟨x, [], rfl, ⟨l, hM, .inl ⟨a, cap, e1, e2, e3, fun k hk => by cases hk; rfl⟩⟩, rfl⟩
  · refine h0 M w _ hH ?_
    simp only [VRs, VR]
    exact ⟨x, [], rfl, e, rfl⟩

theorem getMapF {α : Type} {f : α → AV} {zs : List α} {j : Nat} {z : α} (h : zs[j]? = some z) : (zs.map f)[j]? = some (f z) := by simp [h]
theorem setMapF {α : Type} {f : α → AV} {zs : List α} {j : Nat} {z : α} (h : j < zs.length) : setCells (zs.map f) j [f z] = (zs.set j z).map f := by
  unfold setCells
  rw [List.set_eq_take_append_cons_drop, if_pos h]
  simp [List.map_take, List.map_drop]
theorem takeMapF {α : Type} {f : α → AV} (zs : List α) : (zs.map f).take zs.length = zs.map f := by rw [List.take_of_length_le (by simp)]
theorem undMapF {α : Type} {f : α → AV} {n : Nat} (hf : ∀ z, (f z).und n) : ∀ (zs : List α), AV.unds n (zs.map f)
  | [] => by simp [AV.unds]
  | z :: zs => by simp only [List.map_cons, AV.unds]; exact ⟨hf z, undMapF hf zs⟩

theorem getMap {k : IntKind} {zs : List Int} {j : Nat} {z : Int} (h : zs[j]? = some z) : (zs.map (AV.int k))[j]? = some (AV.int k z) := by simp [h]
theorem setMap {k : IntKind} {zs : List Int} {j : Nat} {z : Int} (h : j < zs.length) : setCells (zs.map (AV.int k)) j [AV.int k z] = (zs.set j z).map (AV.int k) := by
  unfold setCells
  rw [List.set_eq_take_append_cons_drop, if_pos h]
  simp [List.map_take, List.map_drop]
theorem allMap {k : IntKind} (zs : List Int) : (zs.map (AV.int k)).all AV.cell = true := by simp [AV.cell]
theorem undMap {k : IntKind} {n : Nat} : ∀ (zs : List Int), AV.unds n (zs.map (AV.int k))
  | [] => by simp [AV.unds]
  | z :: zs => by simp only [List.map_cons, AV.unds, AV.und]; exact ⟨trivial, undMap zs⟩
theorem takeMap {k : IntKind} (zs : List Int) : (zs.map (AV.int k)).take zs.length = zs.map (AV.int k) := by rw [List.take_of_length_le (by simp)]
theorem rdMap {H : Heap} {b : Nat} {k : IntKind} {zs : List Int} {o : Bool} (h : blkAt H b = some ⟨zs.map (AV.int k), o⟩) : rd H b 0 zs.length = some (zs.map (AV.int k)) := by
  unfold rd
  rw [h]
  simp [takeMap]

/-- A slice's elements, each of one cell. -/
def Sl {α : Type} (f : α → AV) (H : Heap) (p off : Nat) (zs : List α) : Prop := ∃ cs o, blkAt H p = some ⟨cs, o⟩ ∧ off + zs.length ≤ cs.length ∧ (cs.drop off).take zs.length = zs.map f
theorem sl_get {α : Type} {f : α → AV} {cs : List AV} {off : Nat} {zs : List α} (h : (cs.drop off).take zs.length = zs.map f) {j : Nat} {z : α} (hz : zs[j]? = some z) : cs[off + j]? = some (f z) := by
  have h1 := congrArg (·[j]?) h
  have hj : j < zs.length := (List.getElem?_eq_some_iff.1 hz).1
  simp only [List.getElem?_take, List.getElem?_drop, List.getElem?_map, hz, Option.map_some, if_pos hj] at h1
  exact h1
theorem Sl.rd {α : Type} {f : α → AV} {H : Heap} {p off : Nat} {zs : List α} (h : Sl f H p off zs) : rd H p off zs.length = some (zs.map f) := by
  obtain ⟨cs, o, h1, h2, h3⟩ := h
  unfold Ah.rd
  rw [h1]
  simp only [h2, if_true, h3]
theorem Sl.whole {α : Type} {f : α → AV} {H : Heap} {p : Nat} {zs : List α} {o : Bool} (h : blkAt H p = some ⟨zs.map f, o⟩) : Sl f H p 0 zs := ⟨_, _, h, by simp, by simp [takeMapF]⟩
theorem Sl.lt {α : Type} {f : α → AV} {H : Heap} {p off : Nat} {zs : List α} (h : Sl f H p off zs) : p < H.length := by
  obtain ⟨cs, o, h1, _⟩ := h
  exact blkAt_lt h1
theorem Sl.app {α : Type} {f : α → AV} {H : Heap} {p off : Nat} {zs : List α} (h : Sl f H p off zs) (G : Heap) : Sl f (H ++ G) p off zs := by
  have hl := h.lt
  obtain ⟨cs, o, h1, h2⟩ := h
  exact ⟨cs, o, by rw [blkAt_lo G hl]; exact h1, h2⟩
theorem Sl.take {α : Type} {f : α → AV} {H : Heap} {p off : Nat} {zs : List α} (h : Sl f H p off zs) (n : Nat) : Sl f H p off (zs.take n) := by
  obtain ⟨cs, o, h1, h2, h3⟩ := h
  refine ⟨cs, o, h1, ?_, ?_⟩
  · simp; omega
  · rw [List.map_take, ← h3, List.take_take, List.length_take]
theorem Sl.drop {α : Type} {f : α → AV} {H : Heap} {p off : Nat} {zs : List α} (h : Sl f H p off zs) {n : Nat} (hn : n ≤ zs.length) : Sl f H p (off + n) (zs.drop n) := by
  obtain ⟨cs, o, h1, h2, h3⟩ := h
  refine ⟨cs, o, h1, ?_, ?_⟩
  · simp; omega
  · rw [List.map_drop, ← h3, List.length_drop, List.drop_take, List.drop_drop]

theorem blkAt_s2 (x : Option Blk) (G : Heap) (a b : Nat) : blkAt (x :: G) (a + (b + 1)) = blkAt G (a + b) := rfl
theorem blkAt_s3 (x : Option Blk) (G : Heap) (a b c : Nat) : blkAt (x :: G) (a + (b + (c + 1))) = blkAt G (a + (b + c)) := rfl
theorem blkAt_s4 (x : Option Blk) (G : Heap) (a b c d : Nat) : blkAt (x :: G) (a + (b + (c + (d + 1)))) = blkAt G (a + (b + (c + d))) := rfl
theorem blkAt_s5 (x : Option Blk) (G : Heap) (a b c d e : Nat) : blkAt (x :: G) (a + (b + (c + (d + (e + 1))))) = blkAt G (a + (b + (c + (d + e)))) := rfl
theorem set_s2 (x y : Option Blk) (G : Heap) (a b : Nat) : List.set (x :: G) (a + (b + 1)) y = x :: List.set G (a + b) y := rfl
theorem set_s3 (x y : Option Blk) (G : Heap) (a b c : Nat) : List.set (x :: G) (a + (b + (c + 1))) y = x :: List.set G (a + (b + c)) y := rfl
theorem set_s4 (x y : Option Blk) (G : Heap) (a b c d : Nat) : List.set (x :: G) (a + (b + (c + (d + 1)))) y = x :: List.set G (a + (b + (c + d))) y := rfl
theorem set_s5 (x y : Option Blk) (G : Heap) (a b c d e : Nat) : List.set (x :: G) (a + (b + (c + (d + (e + 1))))) y = x :: List.set G (a + (b + (c + (d + e)))) y := rfl
end Go.Proofs.Ytlohehkagaabfaa.Ah
