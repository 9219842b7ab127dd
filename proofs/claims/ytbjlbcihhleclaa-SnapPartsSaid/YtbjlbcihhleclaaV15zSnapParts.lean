/- V15zSnapParts: a part of the proof: contracts of functions, or plain laws. Conditions: none. -/
import Derived.Test.YtbjlbcihhleclaaVg
import Derived.Test.YtbjlbcihhleclaaEc
import Derived.Test.YtbjlbcihhleclaaProg
import Derived.Test.YtbjlbcihhleclaaRows
import Derived.KernelRfl
namespace Go.Proofs.Ytbjlbcihhleclaa.Ah
open Go Go.ChangeShapes Go.WideShapes Go.ChangeAt Go.RowKit Go.Proofs.Ytbjlbcihhleclaa
set_option linter.unusedVariables false
set_option linter.unusedSimpArgs false
theorem own6 : ownKnob Try.prog.godebug = none := by kernel_rfl
theorem laid6 : laidOutB Try.prog = true := by kernel_rfl
theorem read6_62 : Try.prog.readableRec 62 = true ∧ 62 < Try.prog.types.size := ⟨by kernel_rfl, of_decide_eq_true (by kernel_rfl)⟩
theorem leaf6_62 : leaf Try.prog 9 62 = some [.i .i64, .i .i64, .i .i64, .i .i64, .b, .b, .b, .b, .b, .i .i64, .i .i64, .i .i64, .i .i64, .i .i64, .i .i64, .i .i64, .i .i64, .i .i64, .i .i64, .i .i64, .i .i64, .i .i64, .i .i64, .i .i64, .i .i64, .i .i64, .i .i64, .i .i64, .i .i64, .i .i64, .i .i64, .i .i64, .i .i64, .i .i64, .i .i64, .i .i64, .i .i64, .i .i64, .i .i64, .i .i64, .i .i64, .i .i64, .i .i64, .i .i64, .i .i64, .i .i64, .i .i64, .i .i64, .i .i64, .i .i64, .i .i64, .i .i64, .i .i64, .i .i64, .i .i64, .i .i64, .i .i64, .i .i64, .i .i64, .i .i64, .i .i64, .i .i64] := by kernel_rfl
set_option maxRecDepth 100000 in
theorem lifted6 (os : Os) (started : os.Started) (H : Type) (enc : TypeId × Value → H) :
    ReturnsInHanded {} Try.checked os 6 .any (Rows.snapPartsSpec.pre6 enc Try.prog Try.f6 Rows.snapPartsRow.domain false) (Rows.snapPartsSpec.post enc Try.prog Try.f6 false true false false) := by
  refine returnsInHanded_of_change (C := Try.checked) own6 started (by kernel_rfl) Try.func6
    (ChangeSpec.witness6 (enc := enc) (C := Try.checked) false ⟨#[], #[.agg #[.int .i64 0, .int .i64 0, .int .i64 0, .int .i64 0, .bool false, .bool false, .bool false, .bool false, .bool false, .int .i64 0, .int .i64 0, .int .i64 0, .int .i64 0, .int .i64 0, .int .i64 0, .int .i64 0, .int .i64 0, .int .i64 0, .int .i64 0, .int .i64 0, .int .i64 0, .int .i64 0, .int .i64 0, .int .i64 0, .int .i64 0, .int .i64 0, .int .i64 0, .int .i64 0, .int .i64 0, .int .i64 0, .int .i64 0, .int .i64 0, .int .i64 0, .int .i64 0, .int .i64 0, .int .i64 0, .int .i64 0, .int .i64 0, .int .i64 0, .int .i64 0, .int .i64 0, .int .i64 0, .int .i64 0, .int .i64 0, .int .i64 0, .int .i64 0, .int .i64 0, .int .i64 0, .int .i64 0, .int .i64 0, .int .i64 0, .int .i64 0, .int .i64 0, .int .i64 0, .int .i64 0, .int .i64 0, .int .i64 0, .int .i64 0, .int .i64 0, .int .i64 0, .int .i64 0, .int .i64 0]], []⟩ 8 (by kernel_rfl) (by kernel_rfl) (by kernel_rfl) (by kernel_rfl)) ?_
  intro W base args ds gs before hval0 hW hcnd _
  have hval : ∀ (j : Nat) t v, Try.f6.params[j]? = some t → args[j]? = some v → Value.okWide Try.prog W .any base t v := hval0
  have hW' := hW
  obtain ⟨p, q, hA0, hV, rfl, hfz, hnd⟩ := hW
  have hA : DataW.TrodAll enc Try.prog W 0 (fun _ => true) true Try.f6.params.toList args.toList ds p := hA0
  rw [Try.params6] at hA hval
  obtain ⟨v0, vs0, d0, ds0, p0, q0, hargs, rfl, rfl, h0, s0⟩ := trodAll_cons hA
  obtain ⟨rfl, rfl, rfl⟩ := trodAll_nil s0
  obtain rfl : args = #[v0] := by cases args; simp_all
  obtain ⟨rfl, rfl⟩ := trodVars_none hV
  obtain ⟨cs0, rfl, hf0⟩ := open_struct laid6 read6_62.2 Try.underlying62 leaf6_62 (hval 0 62 v0 rfl rfl) h0
  obtain ⟨a0_0, _, rfl, w0_0, g0_0⟩ := hf0.int
  obtain ⟨a0_1, _, rfl, w0_1, g0_1⟩ := g0_0.int
  obtain ⟨a0_2, _, rfl, w0_2, g0_2⟩ := g0_1.int
  obtain ⟨a0_3, _, rfl, w0_3, g0_3⟩ := g0_2.int
  obtain ⟨a0_4, _, rfl, g0_4⟩ := g0_3.bool
  obtain ⟨a0_5, _, rfl, g0_5⟩ := g0_4.bool
  obtain ⟨a0_6, _, rfl, g0_6⟩ := g0_5.bool
  obtain ⟨a0_7, _, rfl, g0_7⟩ := g0_6.bool
  obtain ⟨a0_8, _, rfl, g0_8⟩ := g0_7.bool
  obtain ⟨a0_9, _, rfl, w0_9, g0_9⟩ := g0_8.int
  obtain ⟨a0_10, _, rfl, w0_10, g0_10⟩ := g0_9.int
  obtain ⟨a0_11, _, rfl, w0_11, g0_11⟩ := g0_10.int
  obtain ⟨a0_12, _, rfl, w0_12, g0_12⟩ := g0_11.int
  obtain ⟨a0_13, _, rfl, w0_13, g0_13⟩ := g0_12.int
  obtain ⟨a0_14, _, rfl, w0_14, g0_14⟩ := g0_13.int
  obtain ⟨a0_15, _, rfl, w0_15, g0_15⟩ := g0_14.int
  obtain ⟨a0_16, _, rfl, w0_16, g0_16⟩ := g0_15.int
  obtain ⟨a0_17, _, rfl, w0_17, g0_17⟩ := g0_16.int
  obtain ⟨a0_18, _, rfl, w0_18, g0_18⟩ := g0_17.int
  obtain ⟨a0_19, _, rfl, w0_19, g0_19⟩ := g0_18.int
  obtain ⟨a0_20, _, rfl, w0_20, g0_20⟩ := g0_19.int
  obtain ⟨a0_21, _, rfl, w0_21, g0_21⟩ := g0_20.int
  obtain ⟨a0_22, _, rfl, w0_22, g0_22⟩ := g0_21.int
  obtain ⟨a0_23, _, rfl, w0_23, g0_23⟩ := g0_22.int
  obtain ⟨a0_24, _, rfl, w0_24, g0_24⟩ := g0_23.int
  obtain ⟨a0_25, _, rfl, w0_25, g0_25⟩ := g0_24.int
  obtain ⟨a0_26, _, rfl, w0_26, g0_26⟩ := g0_25.int
  obtain ⟨a0_27, _, rfl, w0_27, g0_27⟩ := g0_26.int
  obtain ⟨a0_28, _, rfl, w0_28, g0_28⟩ := g0_27.int
  obtain ⟨a0_29, _, rfl, w0_29, g0_29⟩ := g0_28.int
  obtain ⟨a0_30, _, rfl, w0_30, g0_30⟩ := g0_29.int
  obtain ⟨a0_31, _, rfl, w0_31, g0_31⟩ := g0_30.int
  obtain ⟨a0_32, _, rfl, w0_32, g0_32⟩ := g0_31.int
  obtain ⟨a0_33, _, rfl, w0_33, g0_33⟩ := g0_32.int
  obtain ⟨a0_34, _, rfl, w0_34, g0_34⟩ := g0_33.int
  obtain ⟨a0_35, _, rfl, w0_35, g0_35⟩ := g0_34.int
  obtain ⟨a0_36, _, rfl, w0_36, g0_36⟩ := g0_35.int
  obtain ⟨a0_37, _, rfl, w0_37, g0_37⟩ := g0_36.int
  obtain ⟨a0_38, _, rfl, w0_38, g0_38⟩ := g0_37.int
  obtain ⟨a0_39, _, rfl, w0_39, g0_39⟩ := g0_38.int
  obtain ⟨a0_40, _, rfl, w0_40, g0_40⟩ := g0_39.int
  obtain ⟨a0_41, _, rfl, w0_41, g0_41⟩ := g0_40.int
  obtain ⟨a0_42, _, rfl, w0_42, g0_42⟩ := g0_41.int
  obtain ⟨a0_43, _, rfl, w0_43, g0_43⟩ := g0_42.int
  obtain ⟨a0_44, _, rfl, w0_44, g0_44⟩ := g0_43.int
  obtain ⟨a0_45, _, rfl, w0_45, g0_45⟩ := g0_44.int
  obtain ⟨a0_46, _, rfl, w0_46, g0_46⟩ := g0_45.int
  obtain ⟨a0_47, _, rfl, w0_47, g0_47⟩ := g0_46.int
  obtain ⟨a0_48, _, rfl, w0_48, g0_48⟩ := g0_47.int
  obtain ⟨a0_49, _, rfl, w0_49, g0_49⟩ := g0_48.int
  obtain ⟨a0_50, _, rfl, w0_50, g0_50⟩ := g0_49.int
  obtain ⟨a0_51, _, rfl, w0_51, g0_51⟩ := g0_50.int
  obtain ⟨a0_52, _, rfl, w0_52, g0_52⟩ := g0_51.int
  obtain ⟨a0_53, _, rfl, w0_53, g0_53⟩ := g0_52.int
  obtain ⟨a0_54, _, rfl, w0_54, g0_54⟩ := g0_53.int
  obtain ⟨a0_55, _, rfl, w0_55, g0_55⟩ := g0_54.int
  obtain ⟨a0_56, _, rfl, w0_56, g0_56⟩ := g0_55.int
  obtain ⟨a0_57, _, rfl, w0_57, g0_57⟩ := g0_56.int
  obtain ⟨a0_58, _, rfl, w0_58, g0_58⟩ := g0_57.int
  obtain ⟨a0_59, _, rfl, w0_59, g0_59⟩ := g0_58.int
  obtain ⟨a0_60, _, rfl, w0_60, g0_60⟩ := g0_59.int
  obtain ⟨a0_61, _, rfl, w0_61, g0_61⟩ := g0_60.int
  obtain rfl := g0_61.nil
  refine (law_runs ((fun (H : Heap) => f6 (s := ⟨a0_0, a0_1, a0_2, a0_3, [a0_4, a0_5, a0_6, a0_7, a0_8], [a0_9, a0_10, a0_11, a0_12, a0_13, a0_14, a0_15, a0_16, a0_17, a0_18, a0_19, a0_20, a0_21, a0_22, a0_23, a0_24, a0_25, a0_26, a0_27, a0_28, a0_29, a0_30, a0_31, a0_32, a0_33, a0_34, a0_35, a0_36, a0_37, a0_38, a0_39, a0_40, a0_41, a0_42, a0_43, a0_44, a0_45, a0_46, a0_47, a0_48]⟩) (a := a0_49) (b := a0_50) (c := a0_51) (d := a0_52) (i := a0_53) (q := [a0_54, a0_55, a0_56, a0_57, a0_58, a0_59, a0_60, a0_61]) (H := H) ⟨rfl, rfl⟩ rfl) []) (by simp [VRs, VR, pav, Sn.av, List.map, List.cons_append, List.nil_append]) W).mono fun e W' ⟨he, hb⟩ => ?_
  subst he
  exact ⟨_, rfl, post_true laid6 hW' rfl hb (by
    rw [Try.params6]
    intro t ht
    simp only [List.mem_cons, List.not_mem_nil, or_false] at ht
    rcases ht with rfl
    · exact read6_62
    ) rfl (t := 4) rfl Try.underlying4⟩

theorem snapParts : Rows.SnapPartsSaid :=
  OpenClaim.holds_of_wide 6 Try.f6 rfl rfl rfl rfl rfl rfl rfl ⟨rfl, rfl, rfl, rfl, rfl⟩ rfl rfl rfl rfl rfl (by kernel_rfl) Try.func6 (by kernel_rfl)
    (of_decide_eq_true (by kernel_rfl)) (by unfold Func.isWrapper; first | (rw [if_pos (by decide +kernel)]; kernel_rfl) | (rw [if_neg (by decide +kernel)]; exact ⟨rfl, rfl⟩))
    (fun os started H enc _ => lifted6 os started H enc)
end Go.Proofs.Ytbjlbcihhleclaa.Ah
