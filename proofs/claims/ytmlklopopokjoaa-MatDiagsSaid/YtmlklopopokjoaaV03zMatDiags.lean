/- V03zMatDiags: a part of the proof: contracts of functions, or plain laws. Conditions: none. -/
import Derived.Test.YtmlklopopokjoaaV03u
import Derived.Test.YtmlklopopokjoaaEb
import Derived.Test.YtmlklopopokjoaaProg
import Derived.Test.YtmlklopopokjoaaRows
import Derived.KernelRfl
namespace Go.Proofs.Ytmlklopopokjoaa.Ah
open Go Go.ChangeShapes Go.WideShapes Go.ChangeAt Go.RowKit Go.Proofs.Ytmlklopopokjoaa
set_option linter.unusedVariables false
set_option linter.unusedSimpArgs false
theorem own8 : ownKnob Try.prog.godebug = none := by kernel_rfl
theorem laid8 : laidOutB Try.prog = true := by kernel_rfl
theorem read8_44 : Try.prog.readableRec 44 = true ∧ 44 < Try.prog.types.size := ⟨by kernel_rfl, of_decide_eq_true (by kernel_rfl)⟩
theorem leaf8_44 : leaf Try.prog 9 44 = some [.i .i8, .i .i8, .i .i8] := by kernel_rfl
set_option maxRecDepth 100000 in
theorem lifted8 (os : Os) (started : os.Started) (H : Type) (enc : TypeId × Value → H) :
    ReturnsInHanded {} Try.checked os 8 .any (Rows.matDiagsSpec.pre6 enc Try.prog Try.f8 Rows.matDiagsRow.domain false) (Rows.matDiagsSpec.post enc Try.prog Try.f8 false true false false) := by
  refine returnsInHanded_of_change (C := Try.checked) own8 started (by kernel_rfl) Try.func8
    (ChangeSpec.witness6 (enc := enc) (C := Try.checked) false ⟨#[], #[.agg #[.int .i8 0, .int .i8 0, .int .i8 0], .agg #[.int .i8 0, .int .i8 0, .int .i8 0]], []⟩ 8 (by kernel_rfl) (by kernel_rfl) (by kernel_rfl) (by kernel_rfl)) ?_
  intro W base args ds gs before hval0 hW hcnd _
  have hval : ∀ (j : Nat) t v, Try.f8.params[j]? = some t → args[j]? = some v → Value.okWide Try.prog W .any base t v := hval0
  have hW' := hW
  obtain ⟨p, q, hA0, hV, rfl, hfz, hnd⟩ := hW
  have hA : DataW.TrodAll enc Try.prog W 0 (fun _ => true) true Try.f8.params.toList args.toList ds p := hA0
  rw [Try.params8] at hA hval
  obtain ⟨v0, vs0, d0, ds0, p0, q0, hargs, rfl, rfl, h0, s0⟩ := trodAll_cons hA
  obtain ⟨v1, vs1, d1, ds1, p1, q1, rfl, rfl, rfl, h1, s1⟩ := trodAll_cons s0
  obtain ⟨rfl, rfl, rfl⟩ := trodAll_nil s1
  obtain rfl : args = #[v0, v1] := by cases args; simp_all
  obtain ⟨rfl, rfl⟩ := trodVars_none hV
  obtain ⟨cs0, rfl, hf0⟩ := open_arr laid8 read8_44.2 Try.underlying44 leaf8_44 (hval 0 44 v0 rfl rfl) h0
  obtain ⟨a0_0, _, rfl, w0_0, g0_0⟩ := hf0.int
  obtain ⟨a0_1, _, rfl, w0_1, g0_1⟩ := g0_0.int
  obtain ⟨a0_2, _, rfl, w0_2, g0_2⟩ := g0_1.int
  obtain rfl := g0_2.nil
  obtain ⟨cs1, rfl, hf1⟩ := open_arr laid8 read8_44.2 Try.underlying44 leaf8_44 (hval 1 44 v1 rfl rfl) h1
  obtain ⟨a1_0, _, rfl, w1_0, g1_0⟩ := hf1.int
  obtain ⟨a1_1, _, rfl, w1_1, g1_1⟩ := g1_0.int
  obtain ⟨a1_2, _, rfl, w1_2, g1_2⟩ := g1_1.int
  obtain rfl := g1_2.nil
  refine (law_runs ((fun H => f8 a0_0 a0_1 a0_2 a1_0 a1_1 a1_2 H w0_0 w0_1 w0_2 w1_0 w1_1 w1_2) []) (by simp [VRs, VR]) W).mono fun e W' ⟨he, hb⟩ => ?_
  subst he
  exact ⟨_, rfl, post_true laid8 hW' rfl hb (by
    rw [Try.params8]
    intro t ht
    simp only [List.mem_cons, List.not_mem_nil, or_false] at ht
    rcases ht with rfl | rfl
    · exact read8_44
    · exact read8_44
    ) rfl (t := 4) rfl Try.underlying4⟩

theorem matDiags : Rows.MatDiagsSaid :=
  OpenClaim.holds_of_wide 8 Try.f8 rfl rfl rfl rfl rfl rfl rfl ⟨rfl, rfl, rfl, rfl, rfl⟩ rfl rfl rfl rfl rfl (by kernel_rfl) Try.func8 (by kernel_rfl)
    (of_decide_eq_true (by kernel_rfl)) (by unfold Func.isWrapper; first | (rw [if_pos (by decide +kernel)]; kernel_rfl) | (rw [if_neg (by decide +kernel)]; exact ⟨rfl, rfl⟩))
    (fun os started H enc _ => lifted8 os started H enc)
end Go.Proofs.Ytmlklopopokjoaa.Ah
