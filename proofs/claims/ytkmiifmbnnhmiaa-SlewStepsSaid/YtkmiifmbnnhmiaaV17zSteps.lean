/- V17zSteps: a part of the proof: steps over abstract values, or contracts of functions. Conditions: none. -/
import Derived.Test.YtkmiifmbnnhmiaaV17l
import Derived.Test.YtkmiifmbnnhmiaaV17x
import Derived.Test.YtkmiifmbnnhmiaaRows
namespace Go.Proofs.Ytkmiifmbnnhmiaa.Ah
open Go Go.ChangeShapes Go.WideShapes Go.ChangeAt Go.RowKit Go.Proofs.Ytkmiifmbnnhmiaa
set_option maxRecDepth 100000 in
theorem lifted3 (os : Os) (started : os.Started) (H : Type) (enc : TypeId × Value → H) :
    ReturnsInHanded {} Try.checked os 3 .any (Rows.slewStepsSpec.pre6 enc Try.prog Try.f3 Rows.slewStepsRow.domain false) (Rows.slewStepsSpec.post enc Try.prog Try.f3 false true false false) := by
  refine returnsInHanded_of_change (C := Try.checked) own started (by kernel_rfl) Try.func3
    (ChangeSpec.witness6 (enc := enc) (C := Try.checked) false ⟨#[], #[.agg #[.int .i64 0, .int .i64 0, .int .i64 0], .agg #[.int .i64 0, .int .i64 0, .int .i64 0], .int .i64 0], []⟩ 8 (by kernel_rfl) (by kernel_rfl) (by kernel_rfl) (by kernel_rfl)) ?_
  intro W base args ds gs before hval0 hW hcnd _
  have hval : ∀ (j : Nat) t v, Try.f3.params[j]? = some t → args[j]? = some v → Value.okWide Try.prog W .any base t v := hval0
  have hW' := hW
  obtain ⟨p, q, hA0, hV, rfl, hfz, hnd⟩ := hW
  have hA : DataW.TrodAll enc Try.prog W 0 (fun _ => true) true Try.f3.params.toList args.toList ds p := hA0
  rw [Try.params3] at hA hval
  obtain ⟨v0, vs0, d0, ds0, p0, q0, hargs, rfl, rfl, h0, r0⟩ := trodAll_cons hA
  obtain ⟨v1, vs1, d1, ds1, p1, q1, rfl, rfl, rfl, h1, r1⟩ := trodAll_cons r0
  obtain ⟨v2, vs2, d2, ds2, p2, q2, rfl, rfl, rfl, h2, r2⟩ := trodAll_cons r1
  obtain ⟨rfl, rfl, rfl⟩ := trodAll_nil r2
  obtain rfl : args = #[v0, v1, v2] := by cases args; simp_all
  obtain ⟨rfl, rfl⟩ := trodVars_none hV
  obtain ⟨a, b, c, rfl⟩ := open_vec Try.underlying24 Try.underlying22 cells22 cells24 (hval 0 24 v0 rfl rfl) h0
  obtain ⟨d, e, f, rfl⟩ := open_vec Try.underlying24 Try.underlying22 cells22 cells24 (hval 1 24 v1 rfl rfl) h1
  obtain ⟨s, rfl, rfl, rfl, _⟩ := open_int Try.underlying22 (hval 2 22 v2 rfl rfl) h2
  refine (law_runs (f3 a b c d e f s []) (by simp only [VRs]; exact ⟨_, _, rfl, vr_vec a b c, _, _, rfl, vr_vec d e f, _, _, rfl, rfl, rfl⟩) W).mono fun e W' ⟨he, hb⟩ => ?_
  subst he
  exact ⟨_, rfl, post_true laid hW' rfl hb (by rw [Try.params3]; exact reads3) rfl (t := 4) rfl Try.underlying4⟩

theorem slewSteps : Rows.SlewStepsSaid :=
  OpenClaim.holds_of_wide 3 Try.f3 rfl rfl rfl rfl rfl rfl rfl ⟨rfl, rfl, rfl, rfl, rfl⟩ rfl rfl rfl rfl rfl (by kernel_rfl) Try.func3 (by kernel_rfl)
    (of_decide_eq_true (by kernel_rfl)) (by unfold Func.isWrapper; first | (rw [if_pos (by decide +kernel)]; kernel_rfl) | (rw [if_neg (by decide +kernel)]; exact ⟨rfl, rfl⟩))
    (fun os started H enc _ => lifted3 os started H enc)
end Go.Proofs.Ytkmiifmbnnhmiaa.Ah
