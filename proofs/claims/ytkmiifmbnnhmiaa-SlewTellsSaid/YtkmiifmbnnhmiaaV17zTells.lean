/- V17zTells: a part of the proof: steps over abstract values, or contracts of functions. Conditions: none. -/
import Derived.Test.YtkmiifmbnnhmiaaV17n
import Derived.Test.YtkmiifmbnnhmiaaAh9
import Derived.Test.YtkmiifmbnnhmiaaV17x
import Derived.Test.YtkmiifmbnnhmiaaRows
namespace Go.Proofs.Ytkmiifmbnnhmiaa.Ah
open Go Go.ChangeShapes Go.WideShapes Go.ChangeAt Go.RowKit Go.Proofs.Ytkmiifmbnnhmiaa
theorem read33 : Try.prog.readableRec 33 = true ∧ 33 < Try.prog.types.size := ⟨by kernel_rfl, of_decide_eq_true (by kernel_rfl)⟩
theorem leaf33 : leaf Try.prog 5 33 = some [.i .i64, .i .i64, .i .i64, .i .i64, .i .i64, .i .i64, .i .i64, .b, .i .i64, .i .i64, .i .i64] := by kernel_rfl
set_option maxRecDepth 100000 in
theorem lifted7 (os : Os) (started : os.Started) (H : Type) (enc : TypeId × Value → H) :
    ReturnsInHanded {} Try.checked os 7 .any (Rows.slewTellsSpec.pre6 enc Try.prog Try.f7 Rows.slewTellsRow.domain false) (Rows.slewTellsSpec.post enc Try.prog Try.f7 false true false false) := by
  refine returnsInHanded_of_change (C := Try.checked) own started (by kernel_rfl) Try.func7
    (ChangeSpec.witness6 (enc := enc) (C := Try.checked) false ⟨#[], #[.agg #[.int .i64 0, .int .i64 0, .int .i64 0, .int .i64 0, .int .i64 0, .int .i64 0, .int .i64 0, .bool false, .int .i64 0, .int .i64 0, .int .i64 0]], []⟩ 8 (by kernel_rfl) (by kernel_rfl) (by kernel_rfl) (by kernel_rfl)) ?_
  intro W base args ds gs before hval0 hW hcnd _
  have hval : ∀ (j : Nat) t v, Try.f7.params[j]? = some t → args[j]? = some v → Value.okWide Try.prog W .any base t v := hval0
  have hW' := hW
  obtain ⟨p, q, hA0, hV, rfl, hfz, hnd⟩ := hW
  have hA : DataW.TrodAll enc Try.prog W 0 (fun _ => true) true Try.f7.params.toList args.toList ds p := hA0
  rw [Try.params7] at hA hval
  obtain ⟨v0, vs0, d0, ds0, p0, q0, hargs, rfl, rfl, h0, r0⟩ := trodAll_cons hA
  obtain ⟨rfl, rfl, rfl⟩ := trodAll_nil r0
  obtain rfl : args = #[v0] := by cases args; simp_all
  obtain ⟨rfl, rfl⟩ := trodVars_none hV
  obtain ⟨cs, rfl, hf⟩ := open_struct laid read33.2 Try.underlying33 leaf33 (hval 0 33 v0 rfl rfl) h0
  obtain ⟨a, _, rfl, _, g1⟩ := hf.int
  obtain ⟨b, _, rfl, _, g2⟩ := g1.int
  obtain ⟨c, _, rfl, _, g3⟩ := g2.int
  obtain ⟨x, _, rfl, _, g4⟩ := g3.int
  obtain ⟨y, _, rfl, _, g5⟩ := g4.int
  obtain ⟨z, _, rfl, _, g6⟩ := g5.int
  obtain ⟨since, _, rfl, _, g7⟩ := g6.int
  obtain ⟨stale, _, rfl, g8⟩ := g7.bool
  obtain ⟨s, _, rfl, _, g9⟩ := g8.int
  obtain ⟨now, _, rfl, _, g10⟩ := g9.int
  obtain ⟨fresh, _, rfl, _, g11⟩ := g10.int
  obtain rfl := g11.nil
  refine (law_runs (f7 a b c x y z since s now fresh stale []) (by simp [VRs, VR]) W).mono fun e W' ⟨he, hb⟩ => ?_
  subst he
  exact ⟨_, rfl, post_true laid hW' rfl hb (by rw [Try.params7]; intro t ht; simp at ht; subst ht; exact read33) rfl (t := 4) rfl Try.underlying4⟩

theorem slewTells : Rows.SlewTellsSaid :=
  OpenClaim.holds_of_wide 7 Try.f7 rfl rfl rfl rfl rfl rfl rfl ⟨rfl, rfl, rfl, rfl, rfl⟩ rfl rfl rfl rfl rfl (by kernel_rfl) Try.func7 (by kernel_rfl)
    (of_decide_eq_true (by kernel_rfl)) (by unfold Func.isWrapper; first | (rw [if_pos (by decide +kernel)]; kernel_rfl) | (rw [if_neg (by decide +kernel)]; exact ⟨rfl, rfl⟩))
    (fun os started H enc _ => lifted7 os started H enc)
end Go.Proofs.Ytkmiifmbnnhmiaa.Ah
