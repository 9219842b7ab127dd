/- V15zSnapTells: a part of the proof: contracts of functions, or plain laws. Conditions: none. -/
import Derived.Test.YtbjlbcihhleclaaVc
import Derived.Test.YtbjlbcihhleclaaEc
import Derived.Test.YtbjlbcihhleclaaProg
import Derived.Test.YtbjlbcihhleclaaRows
import Derived.KernelRfl
namespace Go.Proofs.Ytbjlbcihhleclaa.Ah
open Go Go.ChangeShapes Go.WideShapes Go.ChangeAt Go.RowKit Go.Proofs.Ytbjlbcihhleclaa
set_option linter.unusedVariables false
set_option linter.unusedSimpArgs false
theorem own7 : ownKnob Try.prog.godebug = none := by kernel_rfl
theorem laid7 : laidOutB Try.prog = true := by kernel_rfl
theorem read7_66 : Try.prog.readableRec 66 = true ∧ 66 < Try.prog.types.size := ⟨by kernel_rfl, of_decide_eq_true (by kernel_rfl)⟩
theorem leafc7_66 : leafC Try.prog 9 66 = some [.i .i64, .i .i64, .i .i64, .i .i64, .i .i64, .i .i64, .i .i64, .i .i64, .i .i64, .i .i64, .i .i64, .i .i64, .c 27, .i .i64, .i .i64, .c 27, .i .i64, .i .i64, .c 27, .i .i64, .i .i64, .c 27, .i .i64, .i .i64, .c 27, .i .i64, .i .i64, .c 27, .i .i64, .i .i64, .i .i64, .i .i64, .i .i64, .i .i64, .b, .i .i64, .i .i64, .i .i64, .i .i64, .b, .b, .b, .b, .b, .i .i64, .i .i64, .i .i64, .i .i64, .i .i64, .i .i64, .i .i64, .i .i64, .i .i64, .i .i64, .i .i64, .i .i64, .i .i64, .i .i64, .i .i64, .i .i64, .i .i64, .i .i64, .i .i64, .i .i64, .i .i64, .i .i64, .i .i64, .i .i64, .i .i64, .i .i64, .i .i64, .i .i64, .i .i64, .i .i64, .i .i64, .i .i64, .i .i64, .i .i64, .i .i64, .i .i64, .i .i64, .i .i64, .i .i64, .i .i64, .i .i64, .i .i64, .i .i64, .i .i64, .i .i64, .i .i64, .i .i64, .i .i64, .i .i64, .i .i64, .i .i64, .i .i64, .i .i64] := by kernel_rfl
theorem ctys7_66 : Try.prog.cellTypes Try.prog.depth 66 = some [24, 24, 24, 24, 24, 24, 24, 24, 24, 24, 3, 3, 27, 3, 3, 27, 3, 3, 27, 3, 3, 27, 3, 3, 27, 3, 3, 27, 3, 3, 3, 3, 3, 3, 4, 2, 2, 2, 2, 4, 4, 4, 4, 4, 2, 2, 2, 2, 2, 2, 2, 2, 2, 2, 2, 2, 2, 2, 2, 2, 2, 2, 2, 2, 2, 2, 2, 2, 2, 2, 2, 2, 2, 2, 2, 2, 2, 2, 2, 2, 2, 2, 2, 2, 2, 2, 2, 2, 2, 2, 2, 2, 2, 2, 2, 2, 2] := by kernel_rfl
theorem elt7_24 : 24 < Try.prog.types.size := of_decide_eq_true (by kernel_rfl)
theorem elc7_24 : Try.prog.cellsOf 24 = 1 := by kernel_rfl
set_option maxRecDepth 100000 in
theorem lifted7 (os : Os) (started : os.Started) (H : Type) (enc : TypeId × Value → H) :
    ReturnsInHanded {} Try.checked os 7 .any (Rows.snapTellsSpec.pre6 enc Try.prog Try.f7 Rows.snapTellsRow.domain false) (Rows.snapTellsSpec.post enc Try.prog Try.f7 false true false false) := by
  refine returnsInHanded_of_change_sized (C := Try.checked) own7 started (by kernel_rfl) Try.func7
    (ChangeSpec.witness6 (enc := enc) (C := Try.checked) false ⟨#[], #[.agg #[.int .i64 0, .int .i64 0, .int .i64 0, .int .i64 0, .int .i64 0, .int .i64 0, .int .i64 0, .int .i64 0, .int .i64 0, .int .i64 0, .int .i64 0, .int .i64 0, .slice none 0 0, .int .i64 0, .int .i64 0, .slice none 0 0, .int .i64 0, .int .i64 0, .slice none 0 0, .int .i64 0, .int .i64 0, .slice none 0 0, .int .i64 0, .int .i64 0, .slice none 0 0, .int .i64 0, .int .i64 0, .slice none 0 0, .int .i64 0, .int .i64 0, .int .i64 0, .int .i64 0, .int .i64 0, .int .i64 0, .bool false, .int .i64 0, .int .i64 0, .int .i64 0, .int .i64 0, .bool false, .bool false, .bool false, .bool false, .bool false, .int .i64 0, .int .i64 0, .int .i64 0, .int .i64 0, .int .i64 0, .int .i64 0, .int .i64 0, .int .i64 0, .int .i64 0, .int .i64 0, .int .i64 0, .int .i64 0, .int .i64 0, .int .i64 0, .int .i64 0, .int .i64 0, .int .i64 0, .int .i64 0, .int .i64 0, .int .i64 0, .int .i64 0, .int .i64 0, .int .i64 0, .int .i64 0, .int .i64 0, .int .i64 0, .int .i64 0, .int .i64 0, .int .i64 0, .int .i64 0, .int .i64 0, .int .i64 0, .int .i64 0, .int .i64 0, .int .i64 0, .int .i64 0, .int .i64 0, .int .i64 0, .int .i64 0, .int .i64 0, .int .i64 0, .int .i64 0, .int .i64 0, .int .i64 0, .int .i64 0, .int .i64 0, .int .i64 0, .int .i64 0, .int .i64 0, .int .i64 0, .int .i64 0, .int .i64 0, .int .i64 0]], []⟩ 8 (by kernel_rfl) (by kernel_rfl) (by kernel_rfl) (by kernel_rfl)) ?_
  intro W base args ds gs before hval0 hW hcnd hsz _
  have hval : ∀ (j : Nat) t v, Try.f7.params[j]? = some t → args[j]? = some v → Value.okWide Try.prog W .any base t v := hval0
  have hW' := hW
  obtain ⟨p, q, hA0, hV, rfl, hfz, hnd⟩ := hW
  have hA : DataW.TrodAll enc Try.prog W 0 (fun _ => true) true Try.f7.params.toList args.toList ds p := hA0
  rw [Try.params7] at hA hval
  obtain ⟨v0, vs0, d0, ds0, p0, q0, hargs, rfl, rfl, h0, s0⟩ := trodAll_cons hA
  obtain ⟨rfl, rfl, rfl⟩ := trodAll_nil s0
  obtain rfl : args = #[v0] := by cases args; simp_all
  obtain ⟨rfl, rfl⟩ := trodVars_none hV
  obtain ⟨cs0, rfl, hf0, hct0⟩ := open_mix laid7 read7_66.2 Try.underlying66 leafc7_66 (hval 0 66 v0 rfl rfl) h0
  have hct0 := hct0 _ ctys7_66
  obtain ⟨a0_0, _, rfl, w0_0, g0_0⟩ := hf0.int
  obtain ⟨a0_1, _, rfl, w0_1, g0_1⟩ := g0_0.int
  obtain ⟨a0_2, _, rfl, w0_2, g0_2⟩ := g0_1.int
  obtain ⟨a0_3, _, rfl, w0_3, g0_3⟩ := g0_2.int
  obtain ⟨a0_4, _, rfl, w0_4, g0_4⟩ := g0_3.int
  obtain ⟨a0_5, _, rfl, w0_5, g0_5⟩ := g0_4.int
  obtain ⟨a0_6, _, rfl, w0_6, g0_6⟩ := g0_5.int
  obtain ⟨a0_7, _, rfl, w0_7, g0_7⟩ := g0_6.int
  obtain ⟨a0_8, _, rfl, w0_8, g0_8⟩ := g0_7.int
  obtain ⟨a0_9, _, rfl, w0_9, g0_9⟩ := g0_8.int
  obtain ⟨a0_10, _, rfl, w0_10, g0_10⟩ := g0_9.int
  obtain ⟨a0_11, _, rfl, w0_11, g0_11⟩ := g0_10.int
  obtain ⟨x0_12, _, rfl, hcell0_12, g0_12⟩ := g0_11.cell
  obtain ⟨a0_13, _, rfl, w0_13, g0_13⟩ := g0_12.int
  obtain ⟨a0_14, _, rfl, w0_14, g0_14⟩ := g0_13.int
  obtain ⟨x0_15, _, rfl, hcell0_15, g0_15⟩ := g0_14.cell
  obtain ⟨a0_16, _, rfl, w0_16, g0_16⟩ := g0_15.int
  obtain ⟨a0_17, _, rfl, w0_17, g0_17⟩ := g0_16.int
  obtain ⟨x0_18, _, rfl, hcell0_18, g0_18⟩ := g0_17.cell
  obtain ⟨a0_19, _, rfl, w0_19, g0_19⟩ := g0_18.int
  obtain ⟨a0_20, _, rfl, w0_20, g0_20⟩ := g0_19.int
  obtain ⟨x0_21, _, rfl, hcell0_21, g0_21⟩ := g0_20.cell
  obtain ⟨a0_22, _, rfl, w0_22, g0_22⟩ := g0_21.int
  obtain ⟨a0_23, _, rfl, w0_23, g0_23⟩ := g0_22.int
  obtain ⟨x0_24, _, rfl, hcell0_24, g0_24⟩ := g0_23.cell
  obtain ⟨a0_25, _, rfl, w0_25, g0_25⟩ := g0_24.int
  obtain ⟨a0_26, _, rfl, w0_26, g0_26⟩ := g0_25.int
  obtain ⟨x0_27, _, rfl, hcell0_27, g0_27⟩ := g0_26.cell
  obtain ⟨a0_28, _, rfl, w0_28, g0_28⟩ := g0_27.int
  obtain ⟨a0_29, _, rfl, w0_29, g0_29⟩ := g0_28.int
  obtain ⟨a0_30, _, rfl, w0_30, g0_30⟩ := g0_29.int
  obtain ⟨a0_31, _, rfl, w0_31, g0_31⟩ := g0_30.int
  obtain ⟨a0_32, _, rfl, w0_32, g0_32⟩ := g0_31.int
  obtain ⟨a0_33, _, rfl, w0_33, g0_33⟩ := g0_32.int
  obtain ⟨a0_34, _, rfl, g0_34⟩ := g0_33.bool
  obtain ⟨a0_35, _, rfl, w0_35, g0_35⟩ := g0_34.int
  obtain ⟨a0_36, _, rfl, w0_36, g0_36⟩ := g0_35.int
  obtain ⟨a0_37, _, rfl, w0_37, g0_37⟩ := g0_36.int
  obtain ⟨a0_38, _, rfl, w0_38, g0_38⟩ := g0_37.int
  obtain ⟨a0_39, _, rfl, g0_39⟩ := g0_38.bool
  obtain ⟨a0_40, _, rfl, g0_40⟩ := g0_39.bool
  obtain ⟨a0_41, _, rfl, g0_41⟩ := g0_40.bool
  obtain ⟨a0_42, _, rfl, g0_42⟩ := g0_41.bool
  obtain ⟨a0_43, _, rfl, g0_43⟩ := g0_42.bool
  obtain ⟨a0_44, _, rfl, w0_44, g0_44⟩ := g0_43.int
  obtain ⟨a0_45, _, rfl, w0_45, g0_45⟩ := g0_44.int
  obtain ⟨a0_46, _, rfl, w0_46, g0_46⟩ := g0_45.int
  obtain ⟨a0_47, _, rfl, w0_47, g0_47⟩ := g0_46.int
  obtain ⟨a0_48, _, rfl, w0_48, g0_48⟩ := g0_47.int
  obtain ⟨a0_49, _, rfl, w0_49, g0_49⟩ := g0_48.int
  obtain ⟨a0_50, _, rfl, w0_50, g0_50⟩ := g0_49.int
  obtain ⟨a0_51, _, rfl, w0_51, g0_51⟩ := g0_50.int
  obtain ⟨a0_52, _, rfl, w0_52, g0_52⟩ := g0_51.int
  obtain ⟨a0_53, _, rfl, w0_53, g0_53⟩ := g0_52.int
  obtain ⟨a0_54, _, rfl, w0_54, g0_54⟩ := g0_53.int
  obtain ⟨a0_55, _, rfl, w0_55, g0_55⟩ := g0_54.int
  obtain ⟨a0_56, _, rfl, w0_56, g0_56⟩ := g0_55.int
  obtain ⟨a0_57, _, rfl, w0_57, g0_57⟩ := g0_56.int
  obtain ⟨a0_58, _, rfl, w0_58, g0_58⟩ := g0_57.int
  obtain ⟨a0_59, _, rfl, w0_59, g0_59⟩ := g0_58.int
  obtain ⟨a0_60, _, rfl, w0_60, g0_60⟩ := g0_59.int
  obtain ⟨a0_61, _, rfl, w0_61, g0_61⟩ := g0_60.int
  obtain ⟨a0_62, _, rfl, w0_62, g0_62⟩ := g0_61.int
  obtain ⟨a0_63, _, rfl, w0_63, g0_63⟩ := g0_62.int
  obtain ⟨a0_64, _, rfl, w0_64, g0_64⟩ := g0_63.int
  obtain ⟨a0_65, _, rfl, w0_65, g0_65⟩ := g0_64.int
  obtain ⟨a0_66, _, rfl, w0_66, g0_66⟩ := g0_65.int
  obtain ⟨a0_67, _, rfl, w0_67, g0_67⟩ := g0_66.int
  obtain ⟨a0_68, _, rfl, w0_68, g0_68⟩ := g0_67.int
  obtain ⟨a0_69, _, rfl, w0_69, g0_69⟩ := g0_68.int
  obtain ⟨a0_70, _, rfl, w0_70, g0_70⟩ := g0_69.int
  obtain ⟨a0_71, _, rfl, w0_71, g0_71⟩ := g0_70.int
  obtain ⟨a0_72, _, rfl, w0_72, g0_72⟩ := g0_71.int
  obtain ⟨a0_73, _, rfl, w0_73, g0_73⟩ := g0_72.int
  obtain ⟨a0_74, _, rfl, w0_74, g0_74⟩ := g0_73.int
  obtain ⟨a0_75, _, rfl, w0_75, g0_75⟩ := g0_74.int
  obtain ⟨a0_76, _, rfl, w0_76, g0_76⟩ := g0_75.int
  obtain ⟨a0_77, _, rfl, w0_77, g0_77⟩ := g0_76.int
  obtain ⟨a0_78, _, rfl, w0_78, g0_78⟩ := g0_77.int
  obtain ⟨a0_79, _, rfl, w0_79, g0_79⟩ := g0_78.int
  obtain ⟨a0_80, _, rfl, w0_80, g0_80⟩ := g0_79.int
  obtain ⟨a0_81, _, rfl, w0_81, g0_81⟩ := g0_80.int
  obtain ⟨a0_82, _, rfl, w0_82, g0_82⟩ := g0_81.int
  obtain ⟨a0_83, _, rfl, w0_83, g0_83⟩ := g0_82.int
  obtain ⟨a0_84, _, rfl, w0_84, g0_84⟩ := g0_83.int
  obtain ⟨a0_85, _, rfl, w0_85, g0_85⟩ := g0_84.int
  obtain ⟨a0_86, _, rfl, w0_86, g0_86⟩ := g0_85.int
  obtain ⟨a0_87, _, rfl, w0_87, g0_87⟩ := g0_86.int
  obtain ⟨a0_88, _, rfl, w0_88, g0_88⟩ := g0_87.int
  obtain ⟨a0_89, _, rfl, w0_89, g0_89⟩ := g0_88.int
  obtain ⟨a0_90, _, rfl, w0_90, g0_90⟩ := g0_89.int
  obtain ⟨a0_91, _, rfl, w0_91, g0_91⟩ := g0_90.int
  obtain ⟨a0_92, _, rfl, w0_92, g0_92⟩ := g0_91.int
  obtain ⟨a0_93, _, rfl, w0_93, g0_93⟩ := g0_92.int
  obtain ⟨a0_94, _, rfl, w0_94, g0_94⟩ := g0_93.int
  obtain ⟨a0_95, _, rfl, w0_95, g0_95⟩ := g0_94.int
  obtain ⟨a0_96, _, rfl, w0_96, g0_96⟩ := g0_95.int
  obtain rfl := g0_96.nil
  obtain ⟨u0_12, hu0_12, hok0_12⟩ := hct0 12 _ rfl
  cases hu0_12
  obtain ⟨l0_12, zs0_12, hwf0_12, hvr0_12, hrow0_12, hlen0_12⟩ := open_cisl laid7 Try.underlying27 elt7_24 Try.underlying24 elc7_24 hok0_12 hcell0_12
  have hsl0_12 := hlen0_12 (by rw [show Try.prog.bytesOf 24 = 8 by kernel_rfl]; decide) (fun n hn => by have := List.all_eq_true.1 hsz n (DataW.weights_mem_each (j := 0) (t := 66) rfl rfl n hn); simpa using this)
  obtain ⟨u0_15, hu0_15, hok0_15⟩ := hct0 15 _ rfl
  cases hu0_15
  obtain ⟨l0_15, zs0_15, hwf0_15, hvr0_15, hrow0_15, hlen0_15⟩ := open_cisl laid7 Try.underlying27 elt7_24 Try.underlying24 elc7_24 hok0_15 hcell0_15
  have hsl0_15 := hlen0_15 (by rw [show Try.prog.bytesOf 24 = 8 by kernel_rfl]; decide) (fun n hn => by have := List.all_eq_true.1 hsz n (DataW.weights_mem_each (j := 0) (t := 66) rfl rfl n hn); simpa using this)
  obtain ⟨u0_18, hu0_18, hok0_18⟩ := hct0 18 _ rfl
  cases hu0_18
  obtain ⟨l0_18, zs0_18, hwf0_18, hvr0_18, hrow0_18, hlen0_18⟩ := open_cisl laid7 Try.underlying27 elt7_24 Try.underlying24 elc7_24 hok0_18 hcell0_18
  have hsl0_18 := hlen0_18 (by rw [show Try.prog.bytesOf 24 = 8 by kernel_rfl]; decide) (fun n hn => by have := List.all_eq_true.1 hsz n (DataW.weights_mem_each (j := 0) (t := 66) rfl rfl n hn); simpa using this)
  obtain ⟨u0_21, hu0_21, hok0_21⟩ := hct0 21 _ rfl
  cases hu0_21
  obtain ⟨l0_21, zs0_21, hwf0_21, hvr0_21, hrow0_21, hlen0_21⟩ := open_cisl laid7 Try.underlying27 elt7_24 Try.underlying24 elc7_24 hok0_21 hcell0_21
  have hsl0_21 := hlen0_21 (by rw [show Try.prog.bytesOf 24 = 8 by kernel_rfl]; decide) (fun n hn => by have := List.all_eq_true.1 hsz n (DataW.weights_mem_each (j := 0) (t := 66) rfl rfl n hn); simpa using this)
  obtain ⟨u0_24, hu0_24, hok0_24⟩ := hct0 24 _ rfl
  cases hu0_24
  obtain ⟨l0_24, zs0_24, hwf0_24, hvr0_24, hrow0_24, hlen0_24⟩ := open_cisl laid7 Try.underlying27 elt7_24 Try.underlying24 elc7_24 hok0_24 hcell0_24
  have hsl0_24 := hlen0_24 (by rw [show Try.prog.bytesOf 24 = 8 by kernel_rfl]; decide) (fun n hn => by have := List.all_eq_true.1 hsz n (DataW.weights_mem_each (j := 0) (t := 66) rfl rfl n hn); simpa using this)
  obtain ⟨u0_27, hu0_27, hok0_27⟩ := hct0 27 _ rfl
  cases hu0_27
  obtain ⟨l0_27, zs0_27, hwf0_27, hvr0_27, hrow0_27, hlen0_27⟩ := open_cisl laid7 Try.underlying27 elt7_24 Try.underlying24 elc7_24 hok0_27 hcell0_27
  have hsl0_27 := hlen0_27 (by rw [show Try.prog.bytesOf 24 = 8 by kernel_rfl]; decide) (fun n hn => by have := List.all_eq_true.1 hsz n (DataW.weights_mem_each (j := 0) (t := 66) rfl rfl n hn); simpa using this)
  refine (rows_run (bs := [(l0_12, zs0_12.map (AV.int .i64)), (l0_15, zs0_15.map (AV.int .i64)), (l0_18, zs0_18.map (AV.int .i64)), (l0_21, zs0_21.map (AV.int .i64)), (l0_24, zs0_24.map (AV.int .i64)), (l0_27, zs0_27.map (AV.int .i64))]) ((fun (H : Heap) h0 h1 h2 h3 h4 h5 l0 l1 l2 l3 l4 l5 => f7 (y0 := a0_0) (y1 := a0_1) (y2 := a0_2) (y3 := a0_3) (y4 := a0_4) (y5 := a0_5) (a := a0_84) (b := a0_85) (c := a0_86) (d := a0_87) (i := a0_88) (e := ⟨a0_6, a0_7, a0_8, a0_9, ⟨a0_10, a0_11, zs0_12, 0, 0, none, a0_13, a0_14, zs0_15, 1, 0, none⟩, ⟨a0_16, a0_17, zs0_18, 2, 0, none, a0_19, a0_20, zs0_21, 3, 0, none⟩, ⟨a0_22, a0_23, zs0_24, 4, 0, none, a0_25, a0_26, zs0_27, 5, 0, none⟩, a0_28, a0_29, a0_30, a0_31, a0_32, a0_33, a0_34⟩) (s := ⟨a0_35, a0_36, a0_37, a0_38, [a0_39, a0_40, a0_41, a0_42, a0_43], [a0_44, a0_45, a0_46, a0_47, a0_48, a0_49, a0_50, a0_51, a0_52, a0_53, a0_54, a0_55, a0_56, a0_57, a0_58, a0_59, a0_60, a0_61, a0_62, a0_63, a0_64, a0_65, a0_66, a0_67, a0_68, a0_69, a0_70, a0_71, a0_72, a0_73, a0_74, a0_75, a0_76, a0_77, a0_78, a0_79, a0_80, a0_81, a0_82, a0_83]⟩) (q := [a0_89, a0_90, a0_91, a0_92, a0_93, a0_94, a0_95, a0_96]) (H := H) ⟨⟨h0, h1, Nat.le_trans l0 (by decide), Nat.le_trans l1 (by decide)⟩, ⟨h2, h3, Nat.le_trans l2 (by decide), Nat.le_trans l3 (by decide)⟩, ⟨h4, h5, Nat.le_trans l4 (by decide), Nat.le_trans l5 (by decide)⟩⟩ ⟨l0, l1, l2, l3, l4, l5⟩ ⟨rfl, rfl⟩ rfl) _ (Sl.whole (o := false) rfl) (Sl.whole (o := false) rfl) (Sl.whole (o := false) rfl) (Sl.whole (o := false) rfl) (Sl.whole (o := false) rfl) (Sl.whole (o := false) rfl) (Nat.le_trans hsl0_12 (by decide)) (Nat.le_trans hsl0_15 (by decide)) (Nat.le_trans hsl0_18 (by decide)) (Nat.le_trans hsl0_21 (by decide)) (Nat.le_trans hsl0_24 (by decide)) (Nat.le_trans hsl0_27 (by decide))) (by
    intro b hb
    simp only [List.mem_cons, List.not_mem_nil, or_false] at hb
    rcases hb with rfl | rfl | rfl | rfl | rfl | rfl
    · exact hrow0_12
    · exact hrow0_15
    · exact hrow0_18
    · exact hrow0_21
    · exact hrow0_24
    · exact hrow0_27
    ) (by
    exact (vrs_cons (vr_agg (vrs_cons (by simp [VR]) (vrs_cons (by simp [VR]) (vrs_cons (by simp [VR]) (vrs_cons (by simp [VR]) (vrs_cons (by simp [VR]) (vrs_cons (by simp [VR]) (vrs_cons (by simp [VR]) (vrs_cons (by simp [VR]) (vrs_cons (by simp [VR]) (vrs_cons (by simp [VR]) (vrs_cons (by simp [VR]) (vrs_cons (by simp [VR]) (vrs_cons (hvr0_12 _ 0 rfl) (vrs_cons (by simp [VR]) (vrs_cons (by simp [VR]) (vrs_cons (hvr0_15 _ 1 rfl) (vrs_cons (by simp [VR]) (vrs_cons (by simp [VR]) (vrs_cons (hvr0_18 _ 2 rfl) (vrs_cons (by simp [VR]) (vrs_cons (by simp [VR]) (vrs_cons (hvr0_21 _ 3 rfl) (vrs_cons (by simp [VR]) (vrs_cons (by simp [VR]) (vrs_cons (hvr0_24 _ 4 rfl) (vrs_cons (by simp [VR]) (vrs_cons (by simp [VR]) (vrs_cons (hvr0_27 _ 5 rfl) (vrs_cons (by simp [VR]) (vrs_cons (by simp [VR]) (vrs_cons (by simp [VR]) (vrs_cons (by simp [VR]) (vrs_cons (by simp [VR]) (vrs_cons (by simp [VR]) (vrs_cons (by simp [VR]) (vrs_cons (by simp [VR]) (vrs_cons (by simp [VR]) (vrs_cons (by simp [VR]) (vrs_cons (by simp [VR]) (vrs_cons (by simp [VR]) (vrs_cons (by simp [VR]) (vrs_cons (by simp [VR]) (vrs_cons (by simp [VR]) (vrs_cons (by simp [VR]) (vrs_cons (by simp [VR]) (vrs_cons (by simp [VR]) (vrs_cons (by simp [VR]) (vrs_cons (by simp [VR]) (vrs_cons (by simp [VR]) (vrs_cons (by simp [VR]) (vrs_cons (by simp [VR]) (vrs_cons (by simp [VR]) (vrs_cons (by simp [VR]) (vrs_cons (by simp [VR]) (vrs_cons (by simp [VR]) (vrs_cons (by simp [VR]) (vrs_cons (by simp [VR]) (vrs_cons (by simp [VR]) (vrs_cons (by simp [VR]) (vrs_cons (by simp [VR]) (vrs_cons (by simp [VR]) (vrs_cons (by simp [VR]) (vrs_cons (by simp [VR]) (vrs_cons (by simp [VR]) (vrs_cons (by simp [VR]) (vrs_cons (by simp [VR]) (vrs_cons (by simp [VR]) (vrs_cons (by simp [VR]) (vrs_cons (by simp [VR]) (vrs_cons (by simp [VR]) (vrs_cons (by simp [VR]) (vrs_cons (by simp [VR]) (vrs_cons (by simp [VR]) (vrs_cons (by simp [VR]) (vrs_cons (by simp [VR]) (vrs_cons (by simp [VR]) (vrs_cons (by simp [VR]) (vrs_cons (by simp [VR]) (vrs_cons (by simp [VR]) (vrs_cons (by simp [VR]) (vrs_cons (by simp [VR]) (vrs_cons (by simp [VR]) (vrs_cons (by simp [VR]) (vrs_cons (by simp [VR]) (vrs_cons (by simp [VR]) (vrs_cons (by simp [VR]) (vrs_cons (by simp [VR]) (vrs_cons (by simp [VR]) (vrs_cons (by simp [VR]) (vrs_cons (by simp [VR]) (vrs_cons (by simp [VR]) (vrs_cons (by simp [VR]) (vrs_cons (by simp [VR]) (vrs_cons (by simp [VR]) (vrs_cons (by simp [VR]) (vrs_cons (by simp [VR]) (vrs_cons (by simp [VR]) vrs_nil)))))))))))))))))))))))))))))))))))))))))))))))))))))))))))))))))))))))))))))))))))))))))))))))))) vrs_nil)
    )).mono fun e W' ⟨he, hb⟩ => ?_
  subst he
  exact ⟨_, rfl, post_true laid7 hW' rfl hb (by
    rw [Try.params7]
    intro t ht
    simp only [List.mem_cons, List.not_mem_nil, or_false] at ht
    rcases ht with rfl
    · exact read7_66
    ) rfl (t := 4) rfl Try.underlying4⟩
theorem snapTells : Rows.SnapTellsSaid :=
  OpenClaim.holds_of_wide 7 Try.f7 rfl rfl rfl rfl rfl rfl rfl ⟨rfl, rfl, rfl, rfl, rfl⟩ rfl rfl rfl rfl rfl (by kernel_rfl) Try.func7 (by kernel_rfl)
    (of_decide_eq_true (by kernel_rfl)) (by unfold Func.isWrapper; first | (rw [if_pos (by decide +kernel)]; kernel_rfl) | (rw [if_neg (by decide +kernel)]; exact ⟨rfl, rfl⟩))
    (fun os started H enc _ => lifted7 os started H enc)
end Go.Proofs.Ytbjlbcihhleclaa.Ah
