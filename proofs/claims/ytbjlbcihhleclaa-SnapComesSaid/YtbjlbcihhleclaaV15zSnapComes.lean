/- V15zSnapComes: a part of the proof: contracts of functions, or plain laws. Conditions: none. -/
import Derived.Test.YtbjlbcihhleclaaVf
import Derived.Test.YtbjlbcihhleclaaEc
import Derived.Test.YtbjlbcihhleclaaProg
import Derived.Test.YtbjlbcihhleclaaRows
import Derived.KernelRfl
namespace Go.Proofs.Ytbjlbcihhleclaa.Ah
open Go Go.ChangeShapes Go.WideShapes Go.ChangeAt Go.RowKit Go.Proofs.Ytbjlbcihhleclaa
set_option linter.unusedVariables false
set_option linter.unusedSimpArgs false
theorem own8 : ownKnob Try.prog.godebug = none := by kernel_rfl
theorem laid8 : laidOutB Try.prog = true := by kernel_rfl
theorem read8_74 : Try.prog.readableRec 74 = true ∧ 74 < Try.prog.types.size := ⟨by kernel_rfl, of_decide_eq_true (by kernel_rfl)⟩
theorem leafc8_74 : leafC Try.prog 9 74 = some [.i .i64, .i .i64, .i .i64, .i .i64, .i .i64, .i .i64, .i .i64, .i .i64, .i .i64, .i .i64, .i .i64, .i .i64, .c 27, .i .i64, .i .i64, .c 27, .i .i64, .i .i64, .c 27, .i .i64, .i .i64, .c 27, .i .i64, .i .i64, .c 27, .i .i64, .i .i64, .c 27, .i .i64, .i .i64, .i .i64, .i .i64, .i .i64, .i .i64, .b, .i .i64, .i .i64, .i .i64, .i .i64, .c 72] := by kernel_rfl
theorem ctys8_74 : Try.prog.cellTypes Try.prog.depth 74 = some [24, 24, 24, 24, 24, 24, 24, 24, 24, 24, 3, 3, 27, 3, 3, 27, 3, 3, 27, 3, 3, 27, 3, 3, 27, 3, 3, 27, 3, 3, 3, 3, 3, 3, 4, 2, 2, 2, 2, 72] := by kernel_rfl
theorem elt8_24 : 24 < Try.prog.types.size := of_decide_eq_true (by kernel_rfl)
theorem elc8_24 : Try.prog.cellsOf 24 = 1 := by kernel_rfl
theorem elt8_3 : 3 < Try.prog.types.size := of_decide_eq_true (by kernel_rfl)
theorem elc8_3 : Try.prog.cellsOf 3 = 1 := by kernel_rfl
set_option maxRecDepth 100000 in
theorem lifted8 (os : Os) (started : os.Started) (H : Type) (enc : TypeId × Value → H) :
    ReturnsInHanded {} Try.checked os 8 .any (Rows.snapComesSpec.pre6 enc Try.prog Try.f8 Rows.snapComesRow.domain false) (Rows.snapComesSpec.post enc Try.prog Try.f8 false true false false) := by
  refine returnsInHanded_of_change_sized (C := Try.checked) own8 started (by kernel_rfl) Try.func8
    (ChangeSpec.witness6 (enc := enc) (C := Try.checked) false ⟨#[], #[.agg #[.int .i64 0, .int .i64 0, .int .i64 0, .int .i64 0, .int .i64 0, .int .i64 0, .int .i64 0, .int .i64 0, .int .i64 0, .int .i64 0, .int .i64 0, .int .i64 0, .slice none 0 0, .int .i64 0, .int .i64 0, .slice none 0 0, .int .i64 0, .int .i64 0, .slice none 0 0, .int .i64 0, .int .i64 0, .slice none 0 0, .int .i64 0, .int .i64 0, .slice none 0 0, .int .i64 0, .int .i64 0, .slice none 0 0, .int .i64 0, .int .i64 0, .int .i64 0, .int .i64 0, .int .i64 0, .int .i64 0, .bool false, .int .i64 0, .int .i64 0, .int .i64 0, .int .i64 0, .slice none 0 0]], []⟩ 8 (by kernel_rfl) (by kernel_rfl) (by kernel_rfl) (by kernel_rfl)) ?_
  intro W base args ds gs before hval0 hW hcnd hsz _
  have hval : ∀ (j : Nat) t v, Try.f8.params[j]? = some t → args[j]? = some v → Value.okWide Try.prog W .any base t v := hval0
  have hW' := hW
  obtain ⟨p, q, hA0, hV, rfl, hfz, hnd⟩ := hW
  have hA : DataW.TrodAll enc Try.prog W 0 (fun _ => true) true Try.f8.params.toList args.toList ds p := hA0
  rw [Try.params8] at hA hval
  obtain ⟨v0, vs0, d0, ds0, p0, q0, hargs, rfl, rfl, h0, s0⟩ := trodAll_cons hA
  obtain ⟨rfl, rfl, rfl⟩ := trodAll_nil s0
  obtain rfl : args = #[v0] := by cases args; simp_all
  obtain ⟨rfl, rfl⟩ := trodVars_none hV
  obtain ⟨cs0, rfl, hf0, hct0⟩ := open_mix laid8 read8_74.2 Try.underlying74 leafc8_74 (hval 0 74 v0 rfl rfl) h0
  have hct0 := hct0 _ ctys8_74
  obtain ⟨a0_0, _, rfl, w0_0, g0_0⟩ := hf0.int
  obtain ⟨a0_1, _, rfl, w0_1, g0_1⟩ := g0_0.int
  obtain ⟨a0_2, _, rfl, w0_2, g0_2⟩ := g0_1.int
  obtain ⟨a0_3, _, rfl, w0_3, g0_3⟩ := g0_2.int
  obtain ⟨a0_4, _, rfl, w0_4, g0_4⟩ := g0_3.int
  obtain ⟨a0_5, _, rfl, w0_5, g0_5⟩ := g0_4.int
  obtain ⟨a0_6, _, rfl, w0_6, g0_6⟩ := g0_5.int
  obtain ⟨a0_7, _, rfl, w0_7, g0_7⟩ := g0_6.int
  obtain ⟨a0_8, _, rfl, w0_8, g0_8⟩ := g0_7.int
  obtain ⟨a0_9, _, rfl, w0_9, g0_9⟩ := g0_8.int
  obtain ⟨a0_10, _, rfl, w0_10, g0_10⟩ := g0_9.int
  obtain ⟨a0_11, _, rfl, w0_11, g0_11⟩ := g0_10.int
  obtain ⟨x0_12, _, rfl, hcell0_12, g0_12⟩ := g0_11.cell
  obtain ⟨a0_13, _, rfl, w0_13, g0_13⟩ := g0_12.int
  obtain ⟨a0_14, _, rfl, w0_14, g0_14⟩ := g0_13.int
  obtain ⟨x0_15, _, rfl, hcell0_15, g0_15⟩ := g0_14.cell
  obtain ⟨a0_16, _, rfl, w0_16, g0_16⟩ := g0_15.int
  obtain ⟨a0_17, _, rfl, w0_17, g0_17⟩ := g0_16.int
  obtain ⟨x0_18, _, rfl, hcell0_18, g0_18⟩ := g0_17.cell
  obtain ⟨a0_19, _, rfl, w0_19, g0_19⟩ := g0_18.int
  obtain ⟨a0_20, _, rfl, w0_20, g0_20⟩ := g0_19.int
  obtain ⟨x0_21, _, rfl, hcell0_21, g0_21⟩ := g0_20.cell
  obtain ⟨a0_22, _, rfl, w0_22, g0_22⟩ := g0_21.int
  obtain ⟨a0_23, _, rfl, w0_23, g0_23⟩ := g0_22.int
  obtain ⟨x0_24, _, rfl, hcell0_24, g0_24⟩ := g0_23.cell
  obtain ⟨a0_25, _, rfl, w0_25, g0_25⟩ := g0_24.int
  obtain ⟨a0_26, _, rfl, w0_26, g0_26⟩ := g0_25.int
  obtain ⟨x0_27, _, rfl, hcell0_27, g0_27⟩ := g0_26.cell
  obtain ⟨a0_28, _, rfl, w0_28, g0_28⟩ := g0_27.int
  obtain ⟨a0_29, _, rfl, w0_29, g0_29⟩ := g0_28.int
  obtain ⟨a0_30, _, rfl, w0_30, g0_30⟩ := g0_29.int
  obtain ⟨a0_31, _, rfl, w0_31, g0_31⟩ := g0_30.int
  obtain ⟨a0_32, _, rfl, w0_32, g0_32⟩ := g0_31.int
  obtain ⟨a0_33, _, rfl, w0_33, g0_33⟩ := g0_32.int
  obtain ⟨a0_34, _, rfl, g0_34⟩ := g0_33.bool
  obtain ⟨a0_35, _, rfl, w0_35, g0_35⟩ := g0_34.int
  obtain ⟨a0_36, _, rfl, w0_36, g0_36⟩ := g0_35.int
  obtain ⟨a0_37, _, rfl, w0_37, g0_37⟩ := g0_36.int
  obtain ⟨a0_38, _, rfl, w0_38, g0_38⟩ := g0_37.int
  obtain ⟨x0_39, _, rfl, hcell0_39, g0_39⟩ := g0_38.cell
  obtain rfl := g0_39.nil
  obtain ⟨u0_12, hu0_12, hok0_12⟩ := hct0 12 _ rfl
  cases hu0_12
  obtain ⟨l0_12, zs0_12, hwf0_12, hvr0_12, hrow0_12, hlen0_12⟩ := open_cisl laid8 Try.underlying27 elt8_24 Try.underlying24 elc8_24 hok0_12 hcell0_12
  have hsl0_12 := hlen0_12 (by rw [show Try.prog.bytesOf 24 = 8 by kernel_rfl]; decide) (fun n hn => by have := List.all_eq_true.1 hsz n (DataW.weights_mem_each (j := 0) (t := 74) rfl rfl n hn); simpa using this)
  obtain ⟨u0_15, hu0_15, hok0_15⟩ := hct0 15 _ rfl
  cases hu0_15
  obtain ⟨l0_15, zs0_15, hwf0_15, hvr0_15, hrow0_15, hlen0_15⟩ := open_cisl laid8 Try.underlying27 elt8_24 Try.underlying24 elc8_24 hok0_15 hcell0_15
  have hsl0_15 := hlen0_15 (by rw [show Try.prog.bytesOf 24 = 8 by kernel_rfl]; decide) (fun n hn => by have := List.all_eq_true.1 hsz n (DataW.weights_mem_each (j := 0) (t := 74) rfl rfl n hn); simpa using this)
  obtain ⟨u0_18, hu0_18, hok0_18⟩ := hct0 18 _ rfl
  cases hu0_18
  obtain ⟨l0_18, zs0_18, hwf0_18, hvr0_18, hrow0_18, hlen0_18⟩ := open_cisl laid8 Try.underlying27 elt8_24 Try.underlying24 elc8_24 hok0_18 hcell0_18
  have hsl0_18 := hlen0_18 (by rw [show Try.prog.bytesOf 24 = 8 by kernel_rfl]; decide) (fun n hn => by have := List.all_eq_true.1 hsz n (DataW.weights_mem_each (j := 0) (t := 74) rfl rfl n hn); simpa using this)
  obtain ⟨u0_21, hu0_21, hok0_21⟩ := hct0 21 _ rfl
  cases hu0_21
  obtain ⟨l0_21, zs0_21, hwf0_21, hvr0_21, hrow0_21, hlen0_21⟩ := open_cisl laid8 Try.underlying27 elt8_24 Try.underlying24 elc8_24 hok0_21 hcell0_21
  have hsl0_21 := hlen0_21 (by rw [show Try.prog.bytesOf 24 = 8 by kernel_rfl]; decide) (fun n hn => by have := List.all_eq_true.1 hsz n (DataW.weights_mem_each (j := 0) (t := 74) rfl rfl n hn); simpa using this)
  obtain ⟨u0_24, hu0_24, hok0_24⟩ := hct0 24 _ rfl
  cases hu0_24
  obtain ⟨l0_24, zs0_24, hwf0_24, hvr0_24, hrow0_24, hlen0_24⟩ := open_cisl laid8 Try.underlying27 elt8_24 Try.underlying24 elc8_24 hok0_24 hcell0_24
  have hsl0_24 := hlen0_24 (by rw [show Try.prog.bytesOf 24 = 8 by kernel_rfl]; decide) (fun n hn => by have := List.all_eq_true.1 hsz n (DataW.weights_mem_each (j := 0) (t := 74) rfl rfl n hn); simpa using this)
  obtain ⟨u0_27, hu0_27, hok0_27⟩ := hct0 27 _ rfl
  cases hu0_27
  obtain ⟨l0_27, zs0_27, hwf0_27, hvr0_27, hrow0_27, hlen0_27⟩ := open_cisl laid8 Try.underlying27 elt8_24 Try.underlying24 elc8_24 hok0_27 hcell0_27
  have hsl0_27 := hlen0_27 (by rw [show Try.prog.bytesOf 24 = 8 by kernel_rfl]; decide) (fun n hn => by have := List.all_eq_true.1 hsz n (DataW.weights_mem_each (j := 0) (t := 74) rfl rfl n hn); simpa using this)
  obtain ⟨u0_39, hu0_39, hok0_39⟩ := hct0 39 _ rfl
  cases hu0_39
  obtain ⟨l0_39, zs0_39, hwf0_39, hvr0_39, hrow0_39, hlen0_39⟩ := open_cisl laid8 Try.underlying72 elt8_3 Try.underlying3 elc8_3 hok0_39 hcell0_39
  have hsl0_39 := hlen0_39 (by rw [show Try.prog.bytesOf 3 = 8 by kernel_rfl]; decide) (fun n hn => by have := List.all_eq_true.1 hsz n (DataW.weights_mem_each (j := 0) (t := 74) rfl rfl n hn); simpa using this)
  refine (rows_run (bs := [(l0_12, zs0_12.map (AV.int .i64)), (l0_15, zs0_15.map (AV.int .i64)), (l0_18, zs0_18.map (AV.int .i64)), (l0_21, zs0_21.map (AV.int .i64)), (l0_24, zs0_24.map (AV.int .i64)), (l0_27, zs0_27.map (AV.int .i64)), (l0_39, zs0_39.map (AV.int .i64))]) ((fun (H : Heap) h0 h1 h2 h3 h4 h5 h6 l0 l1 l2 l3 l4 l5 l6 => f8 (y0 := a0_0) (y1 := a0_1) (y2 := a0_2) (y3 := a0_3) (y4 := a0_4) (y5 := a0_5) (a := a0_35) (b := a0_36) (c := a0_37) (d := a0_38) (e := ⟨a0_6, a0_7, a0_8, a0_9, ⟨a0_10, a0_11, zs0_12, 0, 0, none, a0_13, a0_14, zs0_15, 1, 0, none⟩, ⟨a0_16, a0_17, zs0_18, 2, 0, none, a0_19, a0_20, zs0_21, 3, 0, none⟩, ⟨a0_22, a0_23, zs0_24, 4, 0, none, a0_25, a0_26, zs0_27, 5, 0, none⟩, a0_28, a0_29, a0_30, a0_31, a0_32, a0_33, a0_34⟩) (ord := zs0_39) (p := 6) (off := 0) (cp := none) (H := H) ⟨⟨h0, h1, l0, l1⟩, ⟨h2, h3, l2, l3⟩, ⟨h4, h5, l4, l5⟩⟩ h6 l6) _ (Sl.whole (o := false) rfl) (Sl.whole (o := false) rfl) (Sl.whole (o := false) rfl) (Sl.whole (o := false) rfl) (Sl.whole (o := false) rfl) (Sl.whole (o := false) rfl) (Sl.whole (o := false) rfl) (Nat.le_trans hsl0_12 (by decide)) (Nat.le_trans hsl0_15 (by decide)) (Nat.le_trans hsl0_18 (by decide)) (Nat.le_trans hsl0_21 (by decide)) (Nat.le_trans hsl0_24 (by decide)) (Nat.le_trans hsl0_27 (by decide)) (Nat.le_trans hsl0_39 (by decide))) (by
    intro b hb
    simp only [List.mem_cons, List.not_mem_nil, or_false] at hb
    rcases hb with rfl | rfl | rfl | rfl | rfl | rfl | rfl
    · exact hrow0_12
    · exact hrow0_15
    · exact hrow0_18
    · exact hrow0_21
    · exact hrow0_24
    · exact hrow0_27
    · exact hrow0_39
    ) (by
    exact (vrs_cons (vr_agg (vrs_cons (by simp [VR]) (vrs_cons (by simp [VR]) (vrs_cons (by simp [VR]) (vrs_cons (by simp [VR]) (vrs_cons (by simp [VR]) (vrs_cons (by simp [VR]) (vrs_cons (by simp [VR]) (vrs_cons (by simp [VR]) (vrs_cons (by simp [VR]) (vrs_cons (by simp [VR]) (vrs_cons (by simp [VR]) (vrs_cons (by simp [VR]) (vrs_cons (hvr0_12 _ 0 rfl) (vrs_cons (by simp [VR]) (vrs_cons (by simp [VR]) (vrs_cons (hvr0_15 _ 1 rfl) (vrs_cons (by simp [VR]) (vrs_cons (by simp [VR]) (vrs_cons (hvr0_18 _ 2 rfl) (vrs_cons (by simp [VR]) (vrs_cons (by simp [VR]) (vrs_cons (hvr0_21 _ 3 rfl) (vrs_cons (by simp [VR]) (vrs_cons (by simp [VR]) (vrs_cons (hvr0_24 _ 4 rfl) (vrs_cons (by simp [VR]) (vrs_cons (by simp [VR]) (vrs_cons (hvr0_27 _ 5 rfl) (vrs_cons (by simp [VR]) (vrs_cons (by simp [VR]) (vrs_cons (by simp [VR]) (vrs_cons (by simp [VR]) (vrs_cons (by simp [VR]) (vrs_cons (by simp [VR]) (vrs_cons (by simp [VR]) (vrs_cons (by simp [VR]) (vrs_cons (by simp [VR]) (vrs_cons (by simp [VR]) (vrs_cons (by simp [VR]) (vrs_cons (hvr0_39 _ 6 rfl) vrs_nil))))))))))))))))))))))))))))))))))))))))) vrs_nil)
    )).mono fun e W' ⟨he, hb⟩ => ?_
  subst he
  exact ⟨_, rfl, post_true laid8 hW' rfl hb (by
    rw [Try.params8]
    intro t ht
    simp only [List.mem_cons, List.not_mem_nil, or_false] at ht
    rcases ht with rfl
    · exact read8_74
    ) rfl (t := 4) rfl Try.underlying4⟩

theorem snapComes : Rows.SnapComesSaid :=
  OpenClaim.holds_of_wide 8 Try.f8 rfl rfl rfl rfl rfl rfl rfl ⟨rfl, rfl, rfl, rfl, rfl⟩ rfl rfl rfl rfl rfl (by kernel_rfl) Try.func8 (by kernel_rfl)
    (of_decide_eq_true (by kernel_rfl)) (by unfold Func.isWrapper; first | (rw [if_pos (by decide +kernel)]; kernel_rfl) | (rw [if_neg (by decide +kernel)]; exact ⟨rfl, rfl⟩))
    (fun os started H enc _ => lifted8 os started H enc)
end Go.Proofs.Ytbjlbcihhleclaa.Ah
