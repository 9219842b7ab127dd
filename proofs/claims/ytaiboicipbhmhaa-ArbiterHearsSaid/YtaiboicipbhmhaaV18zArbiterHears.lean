/- V18zArbiterHears: a part of the proof: contracts of functions, or plain laws. Conditions: none. -/
import Derived.Test.YtaiboicipbhmhaaVf
import Derived.Test.YtaiboicipbhmhaaEc
import Derived.Test.YtaiboicipbhmhaaProg
import Derived.Test.YtaiboicipbhmhaaRows
import Derived.KernelRfl
namespace Go.Proofs.Ytaiboicipbhmhaa.Ah
open Go Go.ChangeShapes Go.WideShapes Go.ChangeAt Go.RowKit Go.Proofs.Ytaiboicipbhmhaa
set_option linter.unusedVariables false
set_option linter.unusedSimpArgs false
theorem own6 : ownKnob Try.prog.godebug = none := by kernel_rfl
theorem laid6 : laidOutB Try.prog = true := by kernel_rfl
theorem read6_3 : Try.prog.readableRec 3 = true ∧ 3 < Try.prog.types.size := ⟨by kernel_rfl, of_decide_eq_true (by kernel_rfl)⟩
theorem read6_40 : Try.prog.readableRec 40 = true ∧ 40 < Try.prog.types.size := ⟨by kernel_rfl, of_decide_eq_true (by kernel_rfl)⟩
theorem read6_42 : Try.prog.readableRec 42 = true ∧ 42 < Try.prog.types.size := ⟨by kernel_rfl, of_decide_eq_true (by kernel_rfl)⟩
theorem leafc6_40 : leafC Try.prog 9 40 = some [.i .i64, .i .i64, .i .i64, .i .i64, .i .i64, .c 25, .i .i64, .c 25, .i .i64, .i .i64, .i .i64, .i .i64, .i .i64, .i .i64, .i .i64, .i .i64, .i .i64, .i .i64, .i .i64, .i .i64, .i .i64, .i .i64, .i .i64, .i .i64, .i .i64, .i .i64, .b] := by kernel_rfl
theorem ctys6_40 : Try.prog.cellTypes Try.prog.depth 40 = some [2, 2, 2, 2, 22, 25, 2, 25, 2, 2, 2, 2, 2, 2, 2, 2, 22, 22, 22, 2, 2, 2, 22, 22, 22, 2, 4] := by kernel_rfl
theorem elt6_2 : 2 < Try.prog.types.size := of_decide_eq_true (by kernel_rfl)
theorem elc6_2 : Try.prog.cellsOf 2 = 1 := by kernel_rfl
theorem leafc6_42 : leafC Try.prog 9 42 = some [.i .i64, .c 25] := by kernel_rfl
theorem ctys6_42 : Try.prog.cellTypes Try.prog.depth 42 = some [3, 25] := by kernel_rfl
set_option maxRecDepth 100000 in
theorem lifted6 (os : Os) (started : os.Started) (H : Type) (enc : TypeId × Value → H) :
    ReturnsInHanded {} Try.checked os 6 .any (Rows.arbiterHearsSpec.pre6 enc Try.prog Try.f6 Rows.arbiterHearsRow.domain false) (Rows.arbiterHearsSpec.post enc Try.prog Try.f6 false true false false) := by
  refine returnsInHanded_of_change_sized (C := Try.checked) own6 started (by kernel_rfl) Try.func6
    (ChangeSpec.witness6 (enc := enc) (C := Try.checked) false ⟨#[], #[.agg #[.int .i64 0, .int .i64 0, .int .i64 0, .int .i64 0, .int .i64 0, .slice none 0 0, .int .i64 0, .slice none 0 0, .int .i64 0, .int .i64 0, .int .i64 0, .int .i64 0, .int .i64 0, .int .i64 0, .int .i64 0, .int .i64 0, .int .i64 0, .int .i64 0, .int .i64 0, .int .i64 0, .int .i64 0, .int .i64 0, .int .i64 0, .int .i64 0, .int .i64 0, .int .i64 0, .bool false], .agg #[.int .i64 0, .slice none 0 0], .int .i64 0], []⟩ 8 (by kernel_rfl) (by kernel_rfl) (by kernel_rfl) (by kernel_rfl)) ?_
  intro W base args ds gs before hval0 hW hcnd hsz _
  have hval : ∀ (j : Nat) t v, Try.f6.params[j]? = some t → args[j]? = some v → Value.okWide Try.prog W .any base t v := hval0
  have hW' := hW
  obtain ⟨p, q, hA0, hV, rfl, hfz, hnd⟩ := hW
  have hA : DataW.TrodAll enc Try.prog W 0 (fun _ => true) true Try.f6.params.toList args.toList ds p := hA0
  rw [Try.params6] at hA hval
  obtain ⟨v0, vs0, d0, ds0, p0, q0, hargs, rfl, rfl, h0, s0⟩ := trodAll_cons hA
  obtain ⟨v1, vs1, d1, ds1, p1, q1, rfl, rfl, rfl, h1, s1⟩ := trodAll_cons s0
  obtain ⟨v2, vs2, d2, ds2, p2, q2, rfl, rfl, rfl, h2, s2⟩ := trodAll_cons s1
  obtain ⟨rfl, rfl, rfl⟩ := trodAll_nil s2
  obtain rfl : args = #[v0, v1, v2] := by cases args; simp_all
  obtain ⟨rfl, rfl⟩ := trodVars_none hV
  obtain ⟨n2, rfl, rfl, rfl, w2⟩ := open_int Try.underlying3 (hval 2 3 v2 rfl rfl) h2
  obtain ⟨cs0, rfl, hf0, hct0⟩ := open_mix laid6 read6_40.2 Try.underlying40 leafc6_40 (hval 0 40 v0 rfl rfl) h0
  have hct0 := hct0 _ ctys6_40
  obtain ⟨a0_0, _, rfl, w0_0, g0_0⟩ := hf0.int
  obtain ⟨a0_1, _, rfl, w0_1, g0_1⟩ := g0_0.int
  obtain ⟨a0_2, _, rfl, w0_2, g0_2⟩ := g0_1.int
  obtain ⟨a0_3, _, rfl, w0_3, g0_3⟩ := g0_2.int
  obtain ⟨a0_4, _, rfl, w0_4, g0_4⟩ := g0_3.int
  obtain ⟨x0_5, _, rfl, hcell0_5, g0_5⟩ := g0_4.cell
  obtain ⟨a0_6, _, rfl, w0_6, g0_6⟩ := g0_5.int
  obtain ⟨x0_7, _, rfl, hcell0_7, g0_7⟩ := g0_6.cell
  obtain ⟨a0_8, _, rfl, w0_8, g0_8⟩ := g0_7.int
  obtain ⟨a0_9, _, rfl, w0_9, g0_9⟩ := g0_8.int
  obtain ⟨a0_10, _, rfl, w0_10, g0_10⟩ := g0_9.int
  obtain ⟨a0_11, _, rfl, w0_11, g0_11⟩ := g0_10.int
  obtain ⟨a0_12, _, rfl, w0_12, g0_12⟩ := g0_11.int
  obtain ⟨a0_13, _, rfl, w0_13, g0_13⟩ := g0_12.int
  obtain ⟨a0_14, _, rfl, w0_14, g0_14⟩ := g0_13.int
  obtain ⟨a0_15, _, rfl, w0_15, g0_15⟩ := g0_14.int
  obtain ⟨a0_16, _, rfl, w0_16, g0_16⟩ := g0_15.int
  obtain ⟨a0_17, _, rfl, w0_17, g0_17⟩ := g0_16.int
  obtain ⟨a0_18, _, rfl, w0_18, g0_18⟩ := g0_17.int
  obtain ⟨a0_19, _, rfl, w0_19, g0_19⟩ := g0_18.int
  obtain ⟨a0_20, _, rfl, w0_20, g0_20⟩ := g0_19.int
  obtain ⟨a0_21, _, rfl, w0_21, g0_21⟩ := g0_20.int
  obtain ⟨a0_22, _, rfl, w0_22, g0_22⟩ := g0_21.int
  obtain ⟨a0_23, _, rfl, w0_23, g0_23⟩ := g0_22.int
  obtain ⟨a0_24, _, rfl, w0_24, g0_24⟩ := g0_23.int
  obtain ⟨a0_25, _, rfl, w0_25, g0_25⟩ := g0_24.int
  obtain ⟨a0_26, _, rfl, g0_26⟩ := g0_25.bool
  obtain rfl := g0_26.nil
  obtain ⟨u0_5, hu0_5, hok0_5⟩ := hct0 5 _ rfl
  cases hu0_5
  obtain ⟨l0_5, zs0_5, hwf0_5, hvr0_5, hrow0_5, hlen0_5⟩ := open_cisl laid6 Try.underlying25 elt6_2 Try.underlying2 elc6_2 hok0_5 hcell0_5
  have hsl0_5 := hlen0_5 (by rw [show Try.prog.bytesOf 2 = 8 by kernel_rfl]; decide) (fun n hn => by have := List.all_eq_true.1 hsz n (DataW.weights_mem_each (j := 0) (t := 40) rfl rfl n hn); simpa using this)
  obtain ⟨u0_7, hu0_7, hok0_7⟩ := hct0 7 _ rfl
  cases hu0_7
  obtain ⟨l0_7, zs0_7, hwf0_7, hvr0_7, hrow0_7, hlen0_7⟩ := open_cisl laid6 Try.underlying25 elt6_2 Try.underlying2 elc6_2 hok0_7 hcell0_7
  have hsl0_7 := hlen0_7 (by rw [show Try.prog.bytesOf 2 = 8 by kernel_rfl]; decide) (fun n hn => by have := List.all_eq_true.1 hsz n (DataW.weights_mem_each (j := 0) (t := 40) rfl rfl n hn); simpa using this)
  obtain ⟨cs1, rfl, hf1, hct1⟩ := open_mix laid6 read6_42.2 Try.underlying42 leafc6_42 (hval 1 42 v1 rfl rfl) h1
  have hct1 := hct1 _ ctys6_42
  obtain ⟨a1_0, _, rfl, w1_0, g1_0⟩ := hf1.int
  obtain ⟨x1_1, _, rfl, hcell1_1, g1_1⟩ := g1_0.cell
  obtain rfl := g1_1.nil
  obtain ⟨u1_1, hu1_1, hok1_1⟩ := hct1 1 _ rfl
  cases hu1_1
  obtain ⟨l1_1, zs1_1, hwf1_1, hvr1_1, hrow1_1, hlen1_1⟩ := open_cisl laid6 Try.underlying25 elt6_2 Try.underlying2 elc6_2 hok1_1 hcell1_1
  have hsl1_1 := hlen1_1 (by rw [show Try.prog.bytesOf 2 = 8 by kernel_rfl]; decide) (fun n hn => by have := List.all_eq_true.1 hsz n (DataW.weights_mem_each (j := 1) (t := 42) rfl rfl n hn); simpa using this)
  refine (rows_run (bs := [(l0_5, zs0_5.map (AV.int .i64)), (l0_7, zs0_7.map (AV.int .i64)), (l1_1, zs1_1.map (AV.int .i64))]) (f6 (Se.mk ⟨a0_0, a0_1, a0_2, a0_3, a0_4⟩ ⟨0, 0, none, zs0_5, a0_6, 1, 0, none, zs0_7, a0_8⟩ ⟨a0_9, a0_10, a0_11, a0_12, a0_13, a0_14, a0_15, a0_16, a0_17, a0_18⟩ ⟨a0_19, a0_20, a0_21⟩ ⟨a0_22, a0_23, a0_24, a0_25, a0_26⟩) a1_0 2 0 none zs1_1 n2 _ (Sl.whole (o := false) rfl) (Sl.whole (o := false) rfl) (Sl.whole (o := false) rfl) hsl0_5 hsl0_7 hsl1_1) (by
    intro b hb
    simp only [List.mem_cons, List.not_mem_nil, or_false] at hb
    rcases hb with rfl | rfl | rfl
    · exact hrow0_5
    · exact hrow0_7
    · exact hrow1_1
    ) (by
    exact (vrs_cons (vr_agg (vrs_cons (by simp [VR]) (vrs_cons (by simp [VR]) (vrs_cons (by simp [VR]) (vrs_cons (by simp [VR]) (vrs_cons (by simp [VR]) (vrs_cons (hvr0_5 _ 0 rfl) (vrs_cons (by simp [VR]) (vrs_cons (hvr0_7 _ 1 rfl) (vrs_cons (by simp [VR]) (vrs_cons (by simp [VR]) (vrs_cons (by simp [VR]) (vrs_cons (by simp [VR]) (vrs_cons (by simp [VR]) (vrs_cons (by simp [VR]) (vrs_cons (by simp [VR]) (vrs_cons (by simp [VR]) (vrs_cons (by simp [VR]) (vrs_cons (by simp [VR]) (vrs_cons (by simp [VR]) (vrs_cons (by simp [VR]) (vrs_cons (by simp [VR]) (vrs_cons (by simp [VR]) (vrs_cons (by simp [VR]) (vrs_cons (by simp [VR]) (vrs_cons (by simp [VR]) (vrs_cons (by simp [VR]) (vrs_cons (by simp [VR]) vrs_nil)))))))))))))))))))))))))))) (vrs_cons (vr_agg (vrs_cons (by simp [VR]) (vrs_cons (hvr1_1 _ 2 rfl) vrs_nil))) (vrs_cons (by simp [VR, VRs, Se.av]) vrs_nil)))
    )).mono fun e W' ⟨he, hb⟩ => ?_
  subst he
  exact ⟨_, rfl, post_true laid6 hW' rfl hb (by
    rw [Try.params6]
    intro t ht
    simp only [List.mem_cons, List.not_mem_nil, or_false] at ht
    rcases ht with rfl | rfl | rfl
    · exact read6_40
    · exact read6_42
    · exact read6_3
    ) rfl (t := 4) rfl Try.underlying4⟩
theorem arbiterHears : Rows.ArbiterHearsSaid :=
  OpenClaim.holds_of_wide 6 Try.f6 rfl rfl rfl rfl rfl rfl rfl ⟨rfl, rfl, rfl, rfl, rfl⟩ rfl rfl rfl rfl rfl (by kernel_rfl) Try.func6 (by kernel_rfl)
    (of_decide_eq_true (by kernel_rfl)) (by unfold Func.isWrapper; first | (rw [if_pos (by decide +kernel)]; kernel_rfl) | (rw [if_neg (by decide +kernel)]; exact ⟨rfl, rfl⟩))
    (fun os started H enc _ => lifted6 os started H enc)
end Go.Proofs.Ytaiboicipbhmhaa.Ah
