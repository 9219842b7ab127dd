/- V15zSnapBeginning: a part of the proof: contracts of functions, or plain laws. Conditions: none. -/
import Derived.Test.YtbjlbcihhleclaaVg
import Derived.Test.YtbjlbcihhleclaaEc
import Derived.Test.YtbjlbcihhleclaaProg
import Derived.Test.YtbjlbcihhleclaaRows
import Derived.KernelRfl
namespace Go.Proofs.Ytbjlbcihhleclaa.Ah
open Go Go.ChangeShapes Go.WideShapes Go.ChangeAt Go.RowKit Go.Proofs.Ytbjlbcihhleclaa
set_option linter.unusedVariables false
set_option linter.unusedSimpArgs false
theorem own4 : ownKnob Try.prog.godebug = none := by kernel_rfl
theorem laid4 : laidOutB Try.prog = true := by kernel_rfl
theorem read4_35 : Try.prog.readableRec 35 = true ∧ 35 < Try.prog.types.size := ⟨by kernel_rfl, of_decide_eq_true (by kernel_rfl)⟩
theorem read4_46 : Try.prog.readableRec 46 = true ∧ 46 < Try.prog.types.size := ⟨by kernel_rfl, of_decide_eq_true (by kernel_rfl)⟩
theorem leaf4_46 : leaf Try.prog 9 46 = some [.i .i64, .i .i64, .i .i64, .i .i64, .i .i64, .i .i64] := by kernel_rfl
theorem leafc4_35 : leafC Try.prog 9 35 = some [.i .i64, .i .i64, .i .i64, .i .i64, .i .i64, .i .i64, .c 27, .i .i64, .i .i64, .c 27, .i .i64, .i .i64, .c 27, .i .i64, .i .i64, .c 27, .i .i64, .i .i64, .c 27, .i .i64, .i .i64, .c 27, .i .i64, .i .i64, .i .i64, .i .i64, .i .i64, .i .i64, .b] := by kernel_rfl
theorem ctys4_35 : Try.prog.cellTypes Try.prog.depth 35 = some [24, 24, 24, 24, 3, 3, 27, 3, 3, 27, 3, 3, 27, 3, 3, 27, 3, 3, 27, 3, 3, 27, 3, 3, 3, 3, 3, 3, 4] := by kernel_rfl
theorem elt4_24 : 24 < Try.prog.types.size := of_decide_eq_true (by kernel_rfl)
theorem elc4_24 : Try.prog.cellsOf 24 = 1 := by kernel_rfl
set_option maxRecDepth 100000 in
theorem lifted4 (os : Os) (started : os.Started) (H : Type) (enc : TypeId × Value → H) :
    ReturnsInHanded {} Try.checked os 4 .any (Rows.snapBeginningSpec.pre6 enc Try.prog Try.f4 Rows.snapBeginningRow.domain false) (Rows.snapBeginningSpec.post enc Try.prog Try.f4 false true false false) := by
  refine returnsInHanded_of_change_sized (C := Try.checked) own4 started (by kernel_rfl) Try.func4
    (ChangeSpec.witness6 (enc := enc) (C := Try.checked) false ⟨#[], #[.agg #[.int .i64 0, .int .i64 0, .int .i64 0, .int .i64 0, .int .i64 0, .int .i64 0], .agg #[.int .i64 0, .int .i64 0, .int .i64 0, .int .i64 0, .int .i64 0, .int .i64 0, .slice none 0 0, .int .i64 0, .int .i64 0, .slice none 0 0, .int .i64 0, .int .i64 0, .slice none 0 0, .int .i64 0, .int .i64 0, .slice none 0 0, .int .i64 0, .int .i64 0, .slice none 0 0, .int .i64 0, .int .i64 0, .slice none 0 0, .int .i64 0, .int .i64 0, .int .i64 0, .int .i64 0, .int .i64 0, .int .i64 0, .bool false]], []⟩ 8 (by kernel_rfl) (by kernel_rfl) (by kernel_rfl) (by kernel_rfl)) ?_
  intro W base args ds gs before hval0 hW hcnd hsz _
  have hval : ∀ (j : Nat) t v, Try.f4.params[j]? = some t → args[j]? = some v → Value.okWide Try.prog W .any base t v := hval0
  have hW' := hW
  obtain ⟨p, q, hA0, hV, rfl, hfz, hnd⟩ := hW
  have hA : DataW.TrodAll enc Try.prog W 0 (fun _ => true) true Try.f4.params.toList args.toList ds p := hA0
  rw [Try.params4] at hA hval
  obtain ⟨v0, vs0, d0, ds0, p0, q0, hargs, rfl, rfl, h0, s0⟩ := trodAll_cons hA
  obtain ⟨v1, vs1, d1, ds1, p1, q1, rfl, rfl, rfl, h1, s1⟩ := trodAll_cons s0
  obtain ⟨rfl, rfl, rfl⟩ := trodAll_nil s1
  obtain rfl : args = #[v0, v1] := by cases args; simp_all
  obtain ⟨rfl, rfl⟩ := trodVars_none hV
  obtain ⟨cs0, rfl, hf0⟩ := open_struct laid4 read4_46.2 Try.underlying46 leaf4_46 (hval 0 46 v0 rfl rfl) h0
  obtain ⟨a0_0, _, rfl, w0_0, g0_0⟩ := hf0.int
  obtain ⟨a0_1, _, rfl, w0_1, g0_1⟩ := g0_0.int
  obtain ⟨a0_2, _, rfl, w0_2, g0_2⟩ := g0_1.int
  obtain ⟨a0_3, _, rfl, w0_3, g0_3⟩ := g0_2.int
  obtain ⟨a0_4, _, rfl, w0_4, g0_4⟩ := g0_3.int
  obtain ⟨a0_5, _, rfl, w0_5, g0_5⟩ := g0_4.int
  obtain rfl := g0_5.nil
  obtain ⟨cs1, rfl, hf1, hct1⟩ := open_mix laid4 read4_35.2 Try.underlying35 leafc4_35 (hval 1 35 v1 rfl rfl) h1
  have hct1 := hct1 _ ctys4_35
  obtain ⟨a1_0, _, rfl, w1_0, g1_0⟩ := hf1.int
  obtain ⟨a1_1, _, rfl, w1_1, g1_1⟩ := g1_0.int
  obtain ⟨a1_2, _, rfl, w1_2, g1_2⟩ := g1_1.int
  obtain ⟨a1_3, _, rfl, w1_3, g1_3⟩ := g1_2.int
  obtain ⟨a1_4, _, rfl, w1_4, g1_4⟩ := g1_3.int
  obtain ⟨a1_5, _, rfl, w1_5, g1_5⟩ := g1_4.int
  obtain ⟨x1_6, _, rfl, hcell1_6, g1_6⟩ := g1_5.cell
  obtain ⟨a1_7, _, rfl, w1_7, g1_7⟩ := g1_6.int
  obtain ⟨a1_8, _, rfl, w1_8, g1_8⟩ := g1_7.int
  obtain ⟨x1_9, _, rfl, hcell1_9, g1_9⟩ := g1_8.cell
  obtain ⟨a1_10, _, rfl, w1_10, g1_10⟩ := g1_9.int
  obtain ⟨a1_11, _, rfl, w1_11, g1_11⟩ := g1_10.int
  obtain ⟨x1_12, _, rfl, hcell1_12, g1_12⟩ := g1_11.cell
  obtain ⟨a1_13, _, rfl, w1_13, g1_13⟩ := g1_12.int
  obtain ⟨a1_14, _, rfl, w1_14, g1_14⟩ := g1_13.int
  obtain ⟨x1_15, _, rfl, hcell1_15, g1_15⟩ := g1_14.cell
  obtain ⟨a1_16, _, rfl, w1_16, g1_16⟩ := g1_15.int
  obtain ⟨a1_17, _, rfl, w1_17, g1_17⟩ := g1_16.int
  obtain ⟨x1_18, _, rfl, hcell1_18, g1_18⟩ := g1_17.cell
  obtain ⟨a1_19, _, rfl, w1_19, g1_19⟩ := g1_18.int
  obtain ⟨a1_20, _, rfl, w1_20, g1_20⟩ := g1_19.int
  obtain ⟨x1_21, _, rfl, hcell1_21, g1_21⟩ := g1_20.cell
  obtain ⟨a1_22, _, rfl, w1_22, g1_22⟩ := g1_21.int
  obtain ⟨a1_23, _, rfl, w1_23, g1_23⟩ := g1_22.int
  obtain ⟨a1_24, _, rfl, w1_24, g1_24⟩ := g1_23.int
  obtain ⟨a1_25, _, rfl, w1_25, g1_25⟩ := g1_24.int
  obtain ⟨a1_26, _, rfl, w1_26, g1_26⟩ := g1_25.int
  obtain ⟨a1_27, _, rfl, w1_27, g1_27⟩ := g1_26.int
  obtain ⟨a1_28, _, rfl, g1_28⟩ := g1_27.bool
  obtain rfl := g1_28.nil
  obtain ⟨u1_6, hu1_6, hok1_6⟩ := hct1 6 _ rfl
  cases hu1_6
  obtain ⟨l1_6, zs1_6, hwf1_6, hvr1_6, hrow1_6, hlen1_6⟩ := open_cisl laid4 Try.underlying27 elt4_24 Try.underlying24 elc4_24 hok1_6 hcell1_6
  have hsl1_6 := hlen1_6 (by rw [show Try.prog.bytesOf 24 = 8 by kernel_rfl]; decide) (fun n hn => by have := List.all_eq_true.1 hsz n (DataW.weights_mem_each (j := 1) (t := 35) rfl rfl n hn); simpa using this)
  obtain ⟨u1_9, hu1_9, hok1_9⟩ := hct1 9 _ rfl
  cases hu1_9
  obtain ⟨l1_9, zs1_9, hwf1_9, hvr1_9, hrow1_9, hlen1_9⟩ := open_cisl laid4 Try.underlying27 elt4_24 Try.underlying24 elc4_24 hok1_9 hcell1_9
  have hsl1_9 := hlen1_9 (by rw [show Try.prog.bytesOf 24 = 8 by kernel_rfl]; decide) (fun n hn => by have := List.all_eq_true.1 hsz n (DataW.weights_mem_each (j := 1) (t := 35) rfl rfl n hn); simpa using this)
  obtain ⟨u1_12, hu1_12, hok1_12⟩ := hct1 12 _ rfl
  cases hu1_12
  obtain ⟨l1_12, zs1_12, hwf1_12, hvr1_12, hrow1_12, hlen1_12⟩ := open_cisl laid4 Try.underlying27 elt4_24 Try.underlying24 elc4_24 hok1_12 hcell1_12
  have hsl1_12 := hlen1_12 (by rw [show Try.prog.bytesOf 24 = 8 by kernel_rfl]; decide) (fun n hn => by have := List.all_eq_true.1 hsz n (DataW.weights_mem_each (j := 1) (t := 35) rfl rfl n hn); simpa using this)
  obtain ⟨u1_15, hu1_15, hok1_15⟩ := hct1 15 _ rfl
  cases hu1_15
  obtain ⟨l1_15, zs1_15, hwf1_15, hvr1_15, hrow1_15, hlen1_15⟩ := open_cisl laid4 Try.underlying27 elt4_24 Try.underlying24 elc4_24 hok1_15 hcell1_15
  have hsl1_15 := hlen1_15 (by rw [show Try.prog.bytesOf 24 = 8 by kernel_rfl]; decide) (fun n hn => by have := List.all_eq_true.1 hsz n (DataW.weights_mem_each (j := 1) (t := 35) rfl rfl n hn); simpa using this)
  obtain ⟨u1_18, hu1_18, hok1_18⟩ := hct1 18 _ rfl
  cases hu1_18
  obtain ⟨l1_18, zs1_18, hwf1_18, hvr1_18, hrow1_18, hlen1_18⟩ := open_cisl laid4 Try.underlying27 elt4_24 Try.underlying24 elc4_24 hok1_18 hcell1_18
  have hsl1_18 := hlen1_18 (by rw [show Try.prog.bytesOf 24 = 8 by kernel_rfl]; decide) (fun n hn => by have := List.all_eq_true.1 hsz n (DataW.weights_mem_each (j := 1) (t := 35) rfl rfl n hn); simpa using this)
  obtain ⟨u1_21, hu1_21, hok1_21⟩ := hct1 21 _ rfl
  cases hu1_21
  obtain ⟨l1_21, zs1_21, hwf1_21, hvr1_21, hrow1_21, hlen1_21⟩ := open_cisl laid4 Try.underlying27 elt4_24 Try.underlying24 elc4_24 hok1_21 hcell1_21
  have hsl1_21 := hlen1_21 (by rw [show Try.prog.bytesOf 24 = 8 by kernel_rfl]; decide) (fun n hn => by have := List.all_eq_true.1 hsz n (DataW.weights_mem_each (j := 1) (t := 35) rfl rfl n hn); simpa using this)
  refine (rows_run (bs := [(l1_6, zs1_6.map (AV.int .i64)), (l1_9, zs1_9.map (AV.int .i64)), (l1_12, zs1_12.map (AV.int .i64)), (l1_15, zs1_15.map (AV.int .i64)), (l1_18, zs1_18.map (AV.int .i64)), (l1_21, zs1_21.map (AV.int .i64))]) ((fun (H : Heap) h0 h1 h2 h3 h4 h5 l0 l1 l2 l3 l4 l5 => f4 (y0 := a0_0) (y1 := a0_1) (y2 := a0_2) (y3 := a0_3) (y4 := a0_4) (y5 := a0_5) (e := ⟨a1_0, a1_1, a1_2, a1_3, ⟨a1_4, a1_5, zs1_6, 0, 0, none, a1_7, a1_8, zs1_9, 1, 0, none⟩, ⟨a1_10, a1_11, zs1_12, 2, 0, none, a1_13, a1_14, zs1_15, 3, 0, none⟩, ⟨a1_16, a1_17, zs1_18, 4, 0, none, a1_19, a1_20, zs1_21, 5, 0, none⟩, a1_22, a1_23, a1_24, a1_25, a1_26, a1_27, a1_28⟩) (H := H) ⟨⟨h0, h1, l0, l1⟩, ⟨h2, h3, l2, l3⟩, ⟨h4, h5, l4, l5⟩⟩) _ (Sl.whole (o := false) rfl) (Sl.whole (o := false) rfl) (Sl.whole (o := false) rfl) (Sl.whole (o := false) rfl) (Sl.whole (o := false) rfl) (Sl.whole (o := false) rfl) (Nat.le_trans hsl1_6 (by decide)) (Nat.le_trans hsl1_9 (by decide)) (Nat.le_trans hsl1_12 (by decide)) (Nat.le_trans hsl1_15 (by decide)) (Nat.le_trans hsl1_18 (by decide)) (Nat.le_trans hsl1_21 (by decide))) (by
    intro b hb
    simp only [List.mem_cons, List.not_mem_nil, or_false] at hb
    rcases hb with rfl | rfl | rfl | rfl | rfl | rfl
    · exact hrow1_6
    · exact hrow1_9
    · exact hrow1_12
    · exact hrow1_15
    · exact hrow1_18
    · exact hrow1_21
    ) (by
    exact (vrs_cons (by simp [VR, VRs, Es.av]) (vrs_cons (vr_agg (vrs_cons (by simp [VR]) (vrs_cons (by simp [VR]) (vrs_cons (by simp [VR]) (vrs_cons (by simp [VR]) (vrs_cons (by simp [VR]) (vrs_cons (by simp [VR]) (vrs_cons (hvr1_6 _ 0 rfl) (vrs_cons (by simp [VR]) (vrs_cons (by simp [VR]) (vrs_cons (hvr1_9 _ 1 rfl) (vrs_cons (by simp [VR]) (vrs_cons (by simp [VR]) (vrs_cons (hvr1_12 _ 2 rfl) (vrs_cons (by simp [VR]) (vrs_cons (by simp [VR]) (vrs_cons (hvr1_15 _ 3 rfl) (vrs_cons (by simp [VR]) (vrs_cons (by simp [VR]) (vrs_cons (hvr1_18 _ 4 rfl) (vrs_cons (by simp [VR]) (vrs_cons (by simp [VR]) (vrs_cons (hvr1_21 _ 5 rfl) (vrs_cons (by simp [VR]) (vrs_cons (by simp [VR]) (vrs_cons (by simp [VR]) (vrs_cons (by simp [VR]) (vrs_cons (by simp [VR]) (vrs_cons (by simp [VR]) (vrs_cons (by simp [VR]) vrs_nil)))))))))))))))))))))))))))))) vrs_nil))
    )).mono fun e W' ⟨he, hb⟩ => ?_
  subst he
  exact ⟨_, rfl, post_true laid4 hW' rfl hb (by
    rw [Try.params4]
    intro t ht
    simp only [List.mem_cons, List.not_mem_nil, or_false] at ht
    rcases ht with rfl | rfl
    · exact read4_46
    · exact read4_35
    ) rfl (t := 4) rfl Try.underlying4⟩

theorem snapBeginning : Rows.SnapBeginningSaid :=
  OpenClaim.holds_of_wide 4 Try.f4 rfl rfl rfl rfl rfl rfl rfl ⟨rfl, rfl, rfl, rfl, rfl⟩ rfl rfl rfl rfl rfl (by kernel_rfl) Try.func4 (by kernel_rfl)
    (of_decide_eq_true (by kernel_rfl)) (by unfold Func.isWrapper; first | (rw [if_pos (by decide +kernel)]; kernel_rfl) | (rw [if_neg (by decide +kernel)]; exact ⟨rfl, rfl⟩))
    (fun os started H enc _ => lifted4 os started H enc)
end Go.Proofs.Ytbjlbcihhleclaa.Ah
