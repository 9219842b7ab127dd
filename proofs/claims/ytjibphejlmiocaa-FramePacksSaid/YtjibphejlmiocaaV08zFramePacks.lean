/- V08zFramePacks: a part of the proof: contracts of functions, or plain laws. Conditions: none. -/
import Derived.Test.YtjibphejlmiocaaV08l
import Derived.Test.YtjibphejlmiocaaEb
import Derived.Test.YtjibphejlmiocaaProg
import Derived.Test.YtjibphejlmiocaaRows
import Derived.KernelRfl
namespace Go.Proofs.Ytjibphejlmiocaa.Ah
open Go Go.ChangeShapes Go.WideShapes Go.ChangeAt Go.RowKit Go.Proofs.Ytjibphejlmiocaa
set_option linter.unusedVariables false
set_option linter.unusedSimpArgs false
theorem own4 : ownKnob Try.prog.godebug = none := by kernel_rfl
theorem laid4 : laidOutB Try.prog = true := by kernel_rfl
theorem read4_36 : Try.prog.readableRec 36 = true ∧ 36 < Try.prog.types.size := ⟨by kernel_rfl, of_decide_eq_true (by kernel_rfl)⟩
theorem leaf4_36 : leaf Try.prog 9 36 = some [.b, .i .i64, .i .i64, .i .i64, .i .i64, .i .i64, .i .i64, .b, .i .i64, .b, .i .i64, .i .i64, .i .i64] := by kernel_rfl
set_option maxRecDepth 100000 in
theorem lifted4 (os : Os) (started : os.Started) (H : Type) (enc : TypeId × Value → H) :
    ReturnsInHanded {} Try.checked os 4 .any (Rows.framePacksSpec.pre6 enc Try.prog Try.f4 Rows.framePacksRow.domain false) (Rows.framePacksSpec.post enc Try.prog Try.f4 false true false false) := by
  refine returnsInHanded_of_change (C := Try.checked) own4 started (by kernel_rfl) Try.func4
    (ChangeSpec.witness6 (enc := enc) (C := Try.checked) false ⟨#[], #[.agg #[.bool false, .int .i64 0, .int .i64 0, .int .i64 0, .int .i64 0, .int .i64 0, .int .i64 0, .bool false, .int .i64 0, .bool false, .int .i64 0, .int .i64 0, .int .i64 0], .agg #[.bool false, .int .i64 0, .int .i64 0, .int .i64 0, .int .i64 0, .int .i64 0, .int .i64 0, .bool false, .int .i64 0, .bool false, .int .i64 0, .int .i64 0, .int .i64 0]], []⟩ 8 (by kernel_rfl) (by kernel_rfl) (by kernel_rfl) (by kernel_rfl)) ?_
  intro W base args ds gs before hval0 hW hcnd _
  have hval : ∀ (j : Nat) t v, Try.f4.params[j]? = some t → args[j]? = some v → Value.okWide Try.prog W .any base t v := hval0
  have hW' := hW
  obtain ⟨p, q, hA0, hV, rfl, hfz, hnd⟩ := hW
  have hA : DataW.TrodAll enc Try.prog W 0 (fun _ => true) true Try.f4.params.toList args.toList ds p := hA0
  rw [Try.params4] at hA hval
  obtain ⟨v0, vs0, d0, ds0, p0, q0, hargs, rfl, rfl, h0, s0⟩ := trodAll_cons hA
  obtain ⟨v1, vs1, d1, ds1, p1, q1, rfl, rfl, rfl, h1, s1⟩ := trodAll_cons s0
  obtain ⟨rfl, rfl, rfl⟩ := trodAll_nil s1
  obtain rfl : args = #[v0, v1] := by cases args; simp_all
  obtain ⟨rfl, rfl⟩ := trodVars_none hV
  obtain ⟨cs0, rfl, hf0⟩ := open_struct laid4 read4_36.2 Try.underlying36 leaf4_36 (hval 0 36 v0 rfl rfl) h0
  obtain ⟨a0_0, _, rfl, g0_0⟩ := hf0.bool
  obtain ⟨a0_1, _, rfl, w0_1, g0_1⟩ := g0_0.int
  obtain ⟨a0_2, _, rfl, w0_2, g0_2⟩ := g0_1.int
  obtain ⟨a0_3, _, rfl, w0_3, g0_3⟩ := g0_2.int
  obtain ⟨a0_4, _, rfl, w0_4, g0_4⟩ := g0_3.int
  obtain ⟨a0_5, _, rfl, w0_5, g0_5⟩ := g0_4.int
  obtain ⟨a0_6, _, rfl, w0_6, g0_6⟩ := g0_5.int
  obtain ⟨a0_7, _, rfl, g0_7⟩ := g0_6.bool
  obtain ⟨a0_8, _, rfl, w0_8, g0_8⟩ := g0_7.int
  obtain ⟨a0_9, _, rfl, g0_9⟩ := g0_8.bool
  obtain ⟨a0_10, _, rfl, w0_10, g0_10⟩ := g0_9.int
  obtain ⟨a0_11, _, rfl, w0_11, g0_11⟩ := g0_10.int
  obtain ⟨a0_12, _, rfl, w0_12, g0_12⟩ := g0_11.int
  obtain rfl := g0_12.nil
  obtain ⟨cs1, rfl, hf1⟩ := open_struct laid4 read4_36.2 Try.underlying36 leaf4_36 (hval 1 36 v1 rfl rfl) h1
  obtain ⟨a1_0, _, rfl, g1_0⟩ := hf1.bool
  obtain ⟨a1_1, _, rfl, w1_1, g1_1⟩ := g1_0.int
  obtain ⟨a1_2, _, rfl, w1_2, g1_2⟩ := g1_1.int
  obtain ⟨a1_3, _, rfl, w1_3, g1_3⟩ := g1_2.int
  obtain ⟨a1_4, _, rfl, w1_4, g1_4⟩ := g1_3.int
  obtain ⟨a1_5, _, rfl, w1_5, g1_5⟩ := g1_4.int
  obtain ⟨a1_6, _, rfl, w1_6, g1_6⟩ := g1_5.int
  obtain ⟨a1_7, _, rfl, g1_7⟩ := g1_6.bool
  obtain ⟨a1_8, _, rfl, w1_8, g1_8⟩ := g1_7.int
  obtain ⟨a1_9, _, rfl, g1_9⟩ := g1_8.bool
  obtain ⟨a1_10, _, rfl, w1_10, g1_10⟩ := g1_9.int
  obtain ⟨a1_11, _, rfl, w1_11, g1_11⟩ := g1_10.int
  obtain ⟨a1_12, _, rfl, w1_12, g1_12⟩ := g1_11.int
  obtain rfl := g1_12.nil
  refine (law_runs (f4 ⟨a0_0, a0_1, a0_2, a0_3, a0_4, a0_5, a0_6, a0_7, a0_8, a0_9, a0_10, a0_11, a0_12⟩ ⟨a1_0, a1_1, a1_2, a1_3, a1_4, a1_5, a1_6, a1_7, a1_8, a1_9, a1_10, a1_11, a1_12⟩ []) (by simp [VRs, VR, Smp.av]) W).mono fun e W' ⟨he, hb⟩ => ?_
  subst he
  exact ⟨_, rfl, post_true laid4 hW' rfl hb (by
    rw [Try.params4]
    intro t ht
    simp only [List.mem_cons, List.not_mem_nil, or_false] at ht
    rcases ht with rfl | rfl
    · exact read4_36
    · exact read4_36
    ) rfl (t := 4) rfl Try.underlying4⟩

theorem framePacks : Rows.FramePacksSaid :=
  OpenClaim.holds_of_wide 4 Try.f4 rfl rfl rfl rfl rfl rfl rfl ⟨rfl, rfl, rfl, rfl, rfl⟩ rfl rfl rfl rfl rfl (by kernel_rfl) Try.func4 (by kernel_rfl)
    (of_decide_eq_true (by kernel_rfl)) (by unfold Func.isWrapper; first | (rw [if_pos (by decide +kernel)]; kernel_rfl) | (rw [if_neg (by decide +kernel)]; exact ⟨rfl, rfl⟩))
    (fun os started H enc _ => lifted4 os started H enc)
end Go.Proofs.Ytjibphejlmiocaa.Ah
