/- Ah4b: a part of the proof: steps over abstract values, or contracts of functions. Conditions: none. -/
import Derived.Test.YtlohehkagaabfaaAh4
import Derived.Orders
namespace Go.Proofs.Ytlohehkagaabfaa.Ah
open Go
set_option linter.unusedVariables false

/-! ### Operations whose order is drawn -/

inductive Cls where
  | pure | load | heavy
  deriving DecidableEq

def SOp.cls : SOp → Cls
  | .mv | .pick | .build .. | .nilchk | .bin _ | .eqv .. | .eqb _ | .eqs _ | .eqnil _ | .un _ | .conv _ | .mkfn .. | .slice .. | .faddr _ | .fld .. | .iaddrS _ | .iaddrA .. | .idxA .. | .ext _ | .len | .lenA _ | .cap | .mn | .mx => .pure
  | .ld1 | .ldn _ => .load
  | _ => .heavy

section
variable {P : Program}

/-- A result that leaves the heap as it is. -/
def Same (P : Program) (f : Heap → R) : Prop := ∀ H K, (f H).sat P K → ∃ v, K v H ∧ ∀ H2 K', K' v H2 → (f H2).sat P K'

theorem Same.bad : Same P (fun _ => .bad) := fun _ _ h => h.elim
theorem Same.val (v : AV) : Same P (fun H => .val v H) := fun H K h => ⟨v, h, fun _ _ h => h⟩
theorem Same.need {p : Prop} {f : Heap → R} (h : Same P f) : Same P (fun H => .need p (f H)) := fun H K hs => let ⟨v, h1, h2⟩ := h H K hs.2; ⟨v, h1, fun H2 K' hk => ⟨hs.1, h2 H2 K' hk⟩⟩
theorem Same.br (c : Bool) {f g : Heap → R} (hf : Same P f) (hg : Same P g) : Same P (fun H => .br c (f H) (g H)) := by
  intro H K hs
  cases c
  · obtain ⟨v, h1, h2⟩ := hg H K (hs.2 rfl)
    exact ⟨v, h1, fun H2 K' hk => ⟨(fun e => by cases e), fun _ => h2 H2 K' hk⟩⟩
  · obtain ⟨v, h1, h2⟩ := hf H K (hs.1 rfl)
    exact ⟨v, h1, fun H2 K' hk => ⟨fun _ => h2 H2 K' hk, (fun e => by cases e)⟩⟩
theorem Same.r0 (vs : List AV) {f : Heap → R} (h : Same P f) : Same P (fun H => r0 vs (f H)) := by unfold Ah.r0; rcases vs with _ | ⟨_, _⟩ <;> first | exact h | exact .bad
theorem Same.r1 (vs : List AV) {f : Heap → AV → R} (h : ∀ x, Same P (fun H => f H x)) : Same P (fun H => r1 vs (f H)) := by unfold Ah.r1; rcases vs with _ | ⟨_, _ | ⟨_, _⟩⟩ <;> first | exact h _ | exact .bad
theorem Same.r2 (vs : List AV) {f : Heap → AV → AV → R} (h : ∀ x y, Same P (fun H => f H x y)) : Same P (fun H => r2 vs (f H)) := by unfold Ah.r2; rcases vs with _ | ⟨_, _ | ⟨_, _ | ⟨_, _⟩⟩⟩ <;> first | exact h _ _ | exact .bad
theorem Same.r3 (vs : List AV) {f : Heap → AV → AV → AV → R} (h : ∀ x y z, Same P (fun H => f H x y z)) : Same P (fun H => r3 vs (f H)) := by unfold Ah.r3; rcases vs with _ | ⟨_, _ | ⟨_, _ | ⟨_, _ | ⟨_, _⟩⟩⟩⟩ <;> first | exact h _ _ _ | exact .bad
theorem Same.rC (vs : List AV) {f : Heap → AV → List AV → R} (h : ∀ x y, Same P (fun H => f H x y)) : Same P (fun H => rC vs (f H)) := by unfold Ah.rC; rcases vs with _ | ⟨_, _⟩ <;> first | exact h _ _ | exact .bad
theorem Same.rB (v : AV) {f : Heap → Bool → R} (h : ∀ x, Same P (fun H => f H x)) : Same P (fun H => rB v (f H)) := by unfold Ah.rB; cases v <;> first | exact h _ | exact .bad
theorem Same.rI (v : AV) {f : Heap → IntKind → Int → R} (h : ∀ x y, Same P (fun H => f H x y)) : Same P (fun H => rI v (f H)) := by unfold Ah.rI; cases v <;> first | exact h _ _ | exact .bad
theorem Same.rP (v : AV) {f : Heap → Nat → Nat → R} (h : ∀ x y, Same P (fun H => f H x y)) : Same P (fun H => rP v (f H)) := by unfold Ah.rP; cases v <;> first | exact h _ _ | exact .bad
theorem Same.rA (v : AV) {f : Heap → List AV → R} (h : ∀ x, Same P (fun H => f H x)) : Same P (fun H => rA v (f H)) := by unfold Ah.rA; cases v <;> first | exact h _ | exact .bad
theorem Same.rT (v : AV) {f : Heap → List AV → R} (h : ∀ x, Same P (fun H => f H x)) : Same P (fun H => rT v (f H)) := by unfold Ah.rT; cases v <;> first | exact h _ | exact .bad
theorem Same.rS (v : AV) {f : Heap → ByteArray → R} (h : ∀ x, Same P (fun H => f H x)) : Same P (fun H => rS v (f H)) := by unfold Ah.rS; cases v <;> first | exact h _ | exact .bad
theorem Same.rSl (v : AV) {n : Heap → R} {f : Heap → Nat → Nat → Nat → Nat → Option Nat → R} (hn : Same P n) (h : ∀ a b c d e, Same P (fun H => f H a b c d e)) : Same P (fun H => rSl v (n H) (f H)) := by unfold Ah.rSl; cases v <;> first | exact h _ _ _ _ _ | exact hn | exact .bad
theorem Same.rO {α : Type} (o : Option α) {f : Heap → α → R} (h : ∀ x, Same P (fun H => f H x)) : Same P (fun H => rO o (f H)) := by unfold Ah.rO; cases o <;> first | exact h _ | exact .bad

theorem Same.rcut (n : Nat) (c : Option Nat) (lo hi mx : Bool) (vs : List AV) {f : Heap → Nat → Nat → Option Nat → R} (h : ∀ x y z, Same P (fun H => f H x y z)) : Same P (fun H => rcut n c lo hi mx vs (f H)) := by
  unfold Ah.rcut
  cases lo <;> cases hi <;> cases mx <;> simp only <;> first
    | exact .bad
    | exact .r0 _ (h _ _ _)
    | exact .r1 _ fun _ => .rI _ fun _ _ => .need (h _ _ _)
    | exact .r2 _ fun _ _ => .rI _ fun _ _ => .rI _ fun _ _ => .need (h _ _ _)
    | exact .r3 _ fun _ _ _ => .rI _ fun _ _ => .rI _ fun _ _ => .rI _ fun _ _ => .need (h _ _ _)

theorem Same.rbin (op : BinOp) (k : IntKind) (a : Int) (k' : IntKind) (b : Int) : Same P (fun H => rbin op k a k' b H) := by
  cases op <;> simp only [Ah.rbin] <;> exact .need (.val _)
theorem Same.run1 (op : UnOp) (v : AV) : Same P (fun H => run1 op v H) := by
  cases op <;> simp only [Ah.run1] <;> first | exact .rB _ fun _ => .val _ | exact .rI _ fun _ _ => .val _ | exact .bad

theorem sor_pure (s : SOp) (hs : s.cls = .pure) (vs : List AV) : Same P (fun H => sor P s vs H) := by
  cases s <;> simp only [SOp.cls, reduceCtorEq] at hs <;> simp only [sor]
  case mv => exact .r1 _ fun _ => .val _
  case pick => exact .r3 _ fun _ _ _ => .rB _ fun _ => .br _ (.val _) (.val _)
  case build => exact .need (.rO _ fun _ => .val _)
  case nilchk => exact .r1 _ fun _ => .rP _ fun _ _ => .val _
  case bin => exact .r2 _ fun _ _ => .rI _ fun _ _ => .rI _ fun _ _ => .rbin _ _ _ _ _
  case eqv => exact .r2 _ fun _ _ => .rA _ fun _ => .rA _ fun _ => .rO _ fun _ => .val _
  case eqb => exact .r2 _ fun _ _ => .rB _ fun _ => .rB _ fun _ => .val _
  case eqs => exact .r2 _ fun _ _ => .rS _ fun _ => .rS _ fun _ => .val _
  case eqnil => exact .r1 _ fun _ => .rSl _ (.val _) fun _ _ _ _ _ => .need (.val _)
  case un => exact .r1 _ fun _ => .run1 _ _
  case conv => exact .r1 _ fun _ => .rI _ fun _ _ => .val _
  case mkfn => exact .val _
  case slice => exact .rC _ fun _ _ => .rSl _ (.rcut _ _ _ _ _ _ fun _ _ _ => .val _) fun _ _ _ _ _ => .need (.rcut _ _ _ _ _ _ fun _ _ _ => .val _)
  case faddr => exact .r1 _ fun _ => .rP _ fun _ _ => .val _
  case fld o n agg =>
    cases agg
    · exact .r1 _ fun _ => .rA _ fun _ => .rO _ fun _ => .val _
    · exact .r1 _ fun _ => .rA _ fun _ => .val _
  case iaddrS => exact .r2 _ fun _ _ => .rSl _ .bad fun _ _ _ _ _ => .rI _ fun _ _ => .need (.val _)
  case iaddrA => exact .r2 _ fun _ _ => .rP _ fun _ _ => .rI _ fun _ _ => .need (.val _)
  case idxA => exact .r2 _ fun _ _ => .rA _ fun _ => .rI _ fun _ _ => .need (.rO _ fun _ => .val _)
  case ext => exact .r1 _ fun _ => .rT _ fun _ => .rO _ fun _ => .val _
  case len => exact .r1 _ fun _ => .rSl _ (.val _) fun _ _ _ _ _ => .val _
  case lenA => exact .r1 _ fun _ => .val _
  case cap => exact .r1 _ fun _ => .rSl _ (.val _) fun _ _ _ _ _ => .rO _ fun _ => .val _
  case mn => exact .r2 _ fun _ _ => .rI _ fun _ _ => .rI _ fun _ _ => .need (.val _)
  case mx => exact .r2 _ fun _ _ => .rI _ fun _ _ => .rI _ fun _ _ => .need (.val _)

/-- One heap goes on from the other. -/
def Along (H H2 : Heap) : Prop := (∃ G, H2 = H ++ G) ∨ ∃ G, H = H2 ++ G

theorem Along.at {H H2 : Heap} (h : Along H H2) {b : Nat} (h1 : b < H.length) (h2 : b < H2.length) : blkAt H2 b = blkAt H b := by
  unfold blkAt
  rcases h with ⟨G, rfl⟩ | ⟨G, rfl⟩
  · rw [List.getElem?_append_left h1]
  · rw [List.getElem?_append_left h2]

theorem blkAt_lt {H : Heap} {b : Nat} {k : Blk} (h : blkAt H b = some k) : b < H.length := by
  unfold blkAt at h
  rcases Nat.lt_or_ge b H.length with h1 | h1
  · exact h1
  · rw [List.getElem?_eq_none h1] at h; cases h

theorem sor_load (s : SOp) (hs : s.cls = .load) (vs : List AV) {H H2 : Heap} {K : AV → Heap → Prop} (h : (sor P s vs H).sat P K) (ha : Along H H2) (hb : ∀ b o, AV.ptr b o ∈ vs → b < H2.length) :
    ∃ v, K v H ∧ ∀ K', K' v H2 → (sor P s vs H2).sat P K' := by
  cases s <;> simp only [SOp.cls, reduceCtorEq] at hs <;> simp only [sor, r1_sat, rP_sat, rO_sat, val_sat] at h ⊢
  case ld1 =>
    obtain ⟨p, rfl, h⟩ := a1_out h
    obtain ⟨b, off, rfl, h⟩ := isP_out h
    obtain ⟨k, hk, h⟩ := sm_out h
    obtain ⟨v, hv, h⟩ := sm_out h
    refine ⟨v, h, fun K' hK => ?_⟩
    simp only [a1, isP, ha.at (blkAt_lt hk) (hb b off (by simp)), hk, sm, hv]
    exact hK
  case ldn n =>
    obtain ⟨p, rfl, h⟩ := a1_out h
    obtain ⟨b, off, rfl, h⟩ := isP_out h
    obtain ⟨cs, hc, h⟩ := sm_out h
    refine ⟨_, h, fun K' hK => ?_⟩
    simp only [a1, isP]
    have hk : ∃ k, blkAt H b = some k := by
      unfold rd at hc
      split at hc
      · rename_i k hk; exact ⟨k, hk⟩
      · cases hc
    obtain ⟨k, hk⟩ := hk
    have : rd H2 b off n = rd H b off n := by unfold rd; rw [ha.at (blkAt_lt hk) (hb b off (by simp))]
    rw [this, hc]
    exact hK
end
end Go.Proofs.Ytlohehkagaabfaa.Ah
