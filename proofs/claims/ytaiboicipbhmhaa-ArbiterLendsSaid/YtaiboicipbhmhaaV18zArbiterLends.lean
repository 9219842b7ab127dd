/- V18zArbiterLends: a part of the proof: contracts of functions, or plain laws. Conditions: none. -/
import Derived.Test.YtaiboicipbhmhaaVf
import Derived.Test.YtaiboicipbhmhaaEc
import Derived.Test.YtaiboicipbhmhaaProg
import Derived.Test.YtaiboicipbhmhaaRows
import Derived.KernelRfl
namespace Go.Proofs.Ytaiboicipbhmhaa.Ah
open Go Go.ChangeShapes Go.WideShapes Go.ChangeAt Go.RowKit Go.Proofs.Ytaiboicipbhmhaa
set_option linter.unusedVariables false
set_option linter.unusedSimpArgs false
theorem own4 : ownKnob Try.prog.godebug = none := by kernel_rfl
theorem laid4 : laidOutB Try.prog = true := by kernel_rfl
theorem read4_52 : Try.prog.readableRec 52 = true ∧ 52 < Try.prog.types.size := ⟨by kernel_rfl, of_decide_eq_true (by kernel_rfl)⟩
theorem leafc4_52 : leafC Try.prog 9 52 = some [.i .i64, .i .i64, .i .i64, .i .i64, .i .i64, .c 25, .i .i64, .c 25, .i .i64, .i .i64, .i .i64, .i .i64, .i .i64, .i .i64, .i .i64, .i .i64, .i .i64, .i .i64, .i .i64, .i .i64, .i .i64, .i .i64, .i .i64, .i .i64, .i .i64, .i .i64, .b, .i .i64, .i .i64, .i .i64] := by kernel_rfl
theorem ctys4_52 : Try.prog.cellTypes Try.prog.depth 52 = some [2, 2, 2, 2, 22, 25, 2, 25, 2, 2, 2, 2, 2, 2, 2, 2, 22, 22, 22, 2, 2, 2, 22, 22, 22, 2, 4, 2, 2, 2] := by kernel_rfl
theorem elt4_2 : 2 < Try.prog.types.size := of_decide_eq_true (by kernel_rfl)
theorem elc4_2 : Try.prog.cellsOf 2 = 1 := by kernel_rfl
set_option maxRecDepth 100000 in
theorem lifted4 (os : Os) (started : os.Started) (H : Type) (enc : TypeId × Value → H) :
    ReturnsInHanded {} Try.checked os 4 .any (Rows.arbiterLendsSpec.pre6 enc Try.prog Try.f4 Rows.arbiterLendsRow.domain false) (Rows.arbiterLendsSpec.post enc Try.prog Try.f4 false true false false) := by
  refine returnsInHanded_of_change_sized (C := Try.checked) own4 started (by kernel_rfl) Try.func4
    (ChangeSpec.witness6 (enc := enc) (C := Try.checked) false ⟨#[], #[.agg #[.int .i64 0, .int .i64 0, .int .i64 0, .int .i64 0, .int .i64 0, .slice none 0 0, .int .i64 0, .slice none 0 0, .int .i64 0, .int .i64 0, .int .i64 0, .int .i64 0, .int .i64 0, .int .i64 0, .int .i64 0, .int .i64 0, .int .i64 0, .int .i64 0, .int .i64 0, .int .i64 0, .int .i64 0, .int .i64 0, .int .i64 0, .int .i64 0, .int .i64 0, .int .i64 0, .bool false, .int .i64 0, .int .i64 0, .int .i64 0]], []⟩ 8 (by kernel_rfl) (by kernel_rfl) (by kernel_rfl) (by kernel_rfl)) ?_
  intro W base args ds gs before hval0 hW hcnd hsz _
  have hval : ∀ (j : Nat) t v, Try.f4.params[j]? = some t → args[j]? = some v → Value.okWide Try.prog W .any base t v := hval0
  have hW' := hW
  obtain ⟨p, q, hA0, hV, rfl, hfz, hnd⟩ := hW
  have hA : DataW.TrodAll enc Try.prog W 0 (fun _ => true) true Try.f4.params.toList args.toList ds p := hA0
  rw [Try.params4] at hA hval
  obtain ⟨v0, vs0, d0, ds0, p0, q0, hargs, rfl, rfl, h0, s0⟩ := trodAll_cons hA
  obtain ⟨rfl, rfl, rfl⟩ := trodAll_nil s0
  obtain rfl : args = #[v0] := by cases args; simp_all
  obtain ⟨rfl, rfl⟩ := trodVars_none hV
  obtain ⟨cs0, rfl, hf0, hct0⟩ := open_mix laid4 read4_52.2 Try.underlying52 leafc4_52 (hval 0 52 v0 rfl rfl) h0
  have hct0 := hct0 _ ctys4_52
  obtain ⟨a0_0, _, rfl, w0_0, g0_0⟩ := hf0.int
  obtain ⟨a0_1, _, rfl, w0_1, g0_1⟩ := g0_0.int
  obtain ⟨a0_2, _, rfl, w0_2, g0_2⟩ := g0_1.int
  obtain ⟨a0_3, _, rfl, w0_3, g0_3⟩ := g0_2.int
  obtain ⟨a0_4, _, rfl, w0_4, g0_4⟩ := g0_3.int
  obtain ⟨x0_5, _, rfl, hcell0_5, g0_5⟩ := g0_4.cell
  obtain ⟨a0_6, _, rfl, w0_6, g0_6⟩ := g0_5.int
  obtain ⟨x0_7, _, rfl, hcell0_7, g0_7⟩ := g0_6.cell
  obtain ⟨a0_8, _, rfl, w0_8, g0_8⟩ := g0_7.int
  obtain ⟨a0_9, _, rfl, w0_9, g0_9⟩ := g0_8.int
  obtain ⟨a0_10, _, rfl, w0_10, g0_10⟩ := g0_9.int
  obtain ⟨a0_11, _, rfl, w0_11, g0_11⟩ := g0_10.int
  obtain ⟨a0_12, _, rfl, w0_12, g0_12⟩ := g0_11.int
  obtain ⟨a0_13, _, rfl, w0_13, g0_13⟩ := g0_12.int
  obtain ⟨a0_14, _, rfl, w0_14, g0_14⟩ := g0_13.int
  obtain ⟨a0_15, _, rfl, w0_15, g0_15⟩ := g0_14.int
  obtain ⟨a0_16, _, rfl, w0_16, g0_16⟩ := g0_15.int
  obtain ⟨a0_17, _, rfl, w0_17, g0_17⟩ := g0_16.int
  obtain ⟨a0_18, _, rfl, w0_18, g0_18⟩ := g0_17.int
  obtain ⟨a0_19, _, rfl, w0_19, g0_19⟩ := g0_18.int
  obtain ⟨a0_20, _, rfl, w0_20, g0_20⟩ := g0_19.int
  obtain ⟨a0_21, _, rfl, w0_21, g0_21⟩ := g0_20.int
  obtain ⟨a0_22, _, rfl, w0_22, g0_22⟩ := g0_21.int
  obtain ⟨a0_23, _, rfl, w0_23, g0_23⟩ := g0_22.int
  obtain ⟨a0_24, _, rfl, w0_24, g0_24⟩ := g0_23.int
  obtain ⟨a0_25, _, rfl, w0_25, g0_25⟩ := g0_24.int
  obtain ⟨a0_26, _, rfl, g0_26⟩ := g0_25.bool
  obtain ⟨a0_27, _, rfl, w0_27, g0_27⟩ := g0_26.int
  obtain ⟨a0_28, _, rfl, w0_28, g0_28⟩ := g0_27.int
  obtain ⟨a0_29, _, rfl, w0_29, g0_29⟩ := g0_28.int
  obtain rfl := g0_29.nil
  obtain ⟨u0_5, hu0_5, hok0_5⟩ := hct0 5 _ rfl
  cases hu0_5
  obtain ⟨l0_5, zs0_5, hwf0_5, hvr0_5, hrow0_5, hlen0_5⟩ := open_cisl laid4 Try.underlying25 elt4_2 Try.underlying2 elc4_2 hok0_5 hcell0_5
  have hsl0_5 := hlen0_5 (by rw [show Try.prog.bytesOf 2 = 8 by kernel_rfl]; decide) (fun n hn => by have := List.all_eq_true.1 hsz n (DataW.weights_mem_each (j := 0) (t := 52) rfl rfl n hn); simpa using this)
  obtain ⟨u0_7, hu0_7, hok0_7⟩ := hct0 7 _ rfl
  cases hu0_7
  obtain ⟨l0_7, zs0_7, hwf0_7, hvr0_7, hrow0_7, hlen0_7⟩ := open_cisl laid4 Try.underlying25 elt4_2 Try.underlying2 elc4_2 hok0_7 hcell0_7
  have hsl0_7 := hlen0_7 (by rw [show Try.prog.bytesOf 2 = 8 by kernel_rfl]; decide) (fun n hn => by have := List.all_eq_true.1 hsz n (DataW.weights_mem_each (j := 0) (t := 52) rfl rfl n hn); simpa using this)
  refine (rows_run (bs := [(l0_5, zs0_5.map (AV.int .i64)), (l0_7, zs0_7.map (AV.int .i64))]) (f4 (Se.mk ⟨a0_0, a0_1, a0_2, a0_3, a0_4⟩ ⟨0, 0, none, zs0_5, a0_6, 1, 0, none, zs0_7, a0_8⟩ ⟨a0_9, a0_10, a0_11, a0_12, a0_13, a0_14, a0_15, a0_16, a0_17, a0_18⟩ ⟨a0_19, a0_20, a0_21⟩ ⟨a0_22, a0_23, a0_24, a0_25, a0_26⟩) a0_27 a0_28 a0_29 _ (Sl.whole (o := false) rfl) (Sl.whole (o := false) rfl) hsl0_5 hsl0_7) (by
    intro b hb
    simp only [List.mem_cons, List.not_mem_nil, or_false] at hb
    rcases hb with rfl | rfl
    · exact hrow0_5
    · exact hrow0_7
    ) (by
    exact (vrs_cons (vr_agg (vrs_cons (by simp [VR]) (vrs_cons (by simp [VR]) (vrs_cons (by simp [VR]) (vrs_cons (by simp [VR]) (vrs_cons (by simp [VR]) (vrs_cons (hvr0_5 _ 0 rfl) (vrs_cons (by simp [VR]) (vrs_cons (hvr0_7 _ 1 rfl) (vrs_cons (by simp [VR]) (vrs_cons (by simp [VR]) (vrs_cons (by simp [VR]) (vrs_cons (by simp [VR]) (vrs_cons (by simp [VR]) (vrs_cons (by simp [VR]) (vrs_cons (by simp [VR]) (vrs_cons (by simp [VR]) (vrs_cons (by simp [VR]) (vrs_cons (by simp [VR]) (vrs_cons (by simp [VR]) (vrs_cons (by simp [VR]) (vrs_cons (by simp [VR]) (vrs_cons (by simp [VR]) (vrs_cons (by simp [VR]) (vrs_cons (by simp [VR]) (vrs_cons (by simp [VR]) (vrs_cons (by simp [VR]) (vrs_cons (by simp [VR]) (vrs_cons (by simp [VR]) (vrs_cons (by simp [VR]) (vrs_cons (by simp [VR]) vrs_nil))))))))))))))))))))))))))))))) vrs_nil)
    )).mono fun e W' ⟨he, hb⟩ => ?_
  subst he
  exact ⟨_, rfl, post_true laid4 hW' rfl hb (by
    rw [Try.params4]
    intro t ht
    simp only [List.mem_cons, List.not_mem_nil, or_false] at ht
    rcases ht with rfl
    · exact read4_52
    ) rfl (t := 4) rfl Try.underlying4⟩
theorem arbiterLends : Rows.ArbiterLendsSaid :=
  OpenClaim.holds_of_wide 4 Try.f4 rfl rfl rfl rfl rfl rfl rfl ⟨rfl, rfl, rfl, rfl, rfl⟩ rfl rfl rfl rfl rfl (by kernel_rfl) Try.func4 (by kernel_rfl)
    (of_decide_eq_true (by kernel_rfl)) (by unfold Func.isWrapper; first | (rw [if_pos (by decide +kernel)]; kernel_rfl) | (rw [if_neg (by decide +kernel)]; exact ⟨rfl, rfl⟩))
    (fun os started H enc _ => lifted4 os started H enc)
end Go.Proofs.Ytaiboicipbhmhaa.Ah
