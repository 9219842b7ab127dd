/- V07zSumBursts: a part of the proof: steps over abstract values, or contracts of functions. Conditions: none. -/
import Derived.Test.YtlaioapnffnfnaaV07n
import Derived.Test.YtlaioapnffnfnaaAh10
import Derived.Test.YtlaioapnffnfnaaProg
import Derived.Test.YtlaioapnffnfnaaRows
import Derived.KernelRfl
namespace Go.Proofs.Ytlaioapnffnfnaa.Ah
open Go Go.ChangeShapes Go.WideShapes Go.ChangeAt Go.RowKit Go.Proofs.Ytlaioapnffnfnaa
set_option linter.unusedVariables false
set_option linter.unusedSimpArgs false
theorem own5 : ownKnob Try.prog.godebug = none := by kernel_rfl
theorem laid5 : laidOutB Try.prog = true := by kernel_rfl
theorem read5_3 : Try.prog.readableRec 3 = true ∧ 3 < Try.prog.types.size := ⟨by kernel_rfl, of_decide_eq_true (by kernel_rfl)⟩
theorem read5_23 : Try.prog.readableRec 23 = true ∧ 23 < Try.prog.types.size := ⟨by kernel_rfl, of_decide_eq_true (by kernel_rfl)⟩
theorem read5_38 : Try.prog.readableRec 38 = true ∧ 38 < Try.prog.types.size := ⟨by kernel_rfl, of_decide_eq_true (by kernel_rfl)⟩
theorem elt5_5 : 5 < Try.prog.types.size := of_decide_eq_true (by kernel_rfl)
theorem elc5_5 : Try.prog.cellsOf 5 = 1 := by kernel_rfl
theorem leaf5_38 : leaf Try.prog 9 38 = some [.i .u8, .i .u8, .i .u8, .i .u8] := by kernel_rfl
set_option maxRecDepth 100000 in
theorem lifted5 (os : Os) (started : os.Started) (H : Type) (enc : TypeId × Value → H) :
    ReturnsInHanded {} Try.checked os 5 .any (Rows.sumBurstsSpec.pre6 enc Try.prog Try.f5 Rows.sumBurstsRow.domain false) (Rows.sumBurstsSpec.post enc Try.prog Try.f5 false true false false) := by
  refine returnsInHanded_of_change (C := Try.checked) own5 started (by kernel_rfl) Try.func5
    (ChangeSpec.witness6 (enc := enc) (C := Try.checked) false ⟨#[], #[.slice none 0 0, .int .i64 0, .agg #[.int .u8 0, .int .u8 0, .int .u8 0, .int .u8 0]], []⟩ 8 (by kernel_rfl) (by kernel_rfl) (by kernel_rfl) (by kernel_rfl)) ?_
  intro W base args ds gs before hval0 hW hcnd _
  have hval : ∀ (j : Nat) t v, Try.f5.params[j]? = some t → args[j]? = some v → Value.okWide Try.prog W .any base t v := hval0
  have hW' := hW
  obtain ⟨p, q, hA0, hV, rfl, hfz, hnd⟩ := hW
  have hA : DataW.TrodAll enc Try.prog W 0 (fun _ => true) true Try.f5.params.toList args.toList ds p := hA0
  rw [Try.params5] at hA hval
  obtain ⟨v0, vs0, d0, ds0, p0, q0, hargs, rfl, rfl, h0, s0⟩ := trodAll_cons hA
  obtain ⟨v1, vs1, d1, ds1, p1, q1, rfl, rfl, rfl, h1, s1⟩ := trodAll_cons s0
  obtain ⟨v2, vs2, d2, ds2, p2, q2, rfl, rfl, rfl, h2, s2⟩ := trodAll_cons s1
  obtain ⟨rfl, rfl, rfl⟩ := trodAll_nil s2
  obtain rfl : args = #[v0, v1, v2] := by cases args; simp_all
  obtain ⟨rfl, rfl⟩ := trodVars_none hV
  obtain ⟨l0, zs0, hlen0, hwf0, hvr0, hrow0, hsd0⟩ := open_isl laid5 Try.underlying23 elt5_5 Try.underlying5 elc5_5 (hval 0 23 v0 rfl rfl) h0
  obtain ⟨n1, rfl, rfl, rfl, w1⟩ := open_int Try.underlying3 (hval 1 3 v1 rfl rfl) h1
  obtain ⟨cs2, rfl, hf2⟩ := open_arr laid5 read5_38.2 Try.underlying38 leaf5_38 (hval 2 38 v2 rfl rfl) h2
  obtain ⟨a2_0, _, rfl, w2_0, g2_0⟩ := hf2.int
  obtain ⟨a2_1, _, rfl, w2_1, g2_1⟩ := g2_0.int
  obtain ⟨a2_2, _, rfl, w2_2, g2_2⟩ := g2_1.int
  obtain ⟨a2_3, _, rfl, w2_3, g2_3⟩ := g2_2.int
  obtain rfl := g2_3.nil
  obtain ⟨ns0, rfl⟩ := nats_of zs0 (fun z hz => (wf_u8 (hwf0 z hz)).1)
  have hby0 : By ns0 := fun x hx => by have := (wf_u8 (hwf0 (x : Int) (List.mem_map.2 ⟨x, hx, rfl⟩))).2; omega
  have hm0 : ((ns0.map (fun n : Nat => (n : Int))).map (AV.int .u8)) = ns0.map u8 := by rw [List.map_map]; rfl
  rw [hm0] at hrow0
  rw [List.length_map] at hvr0 hlen0
  obtain ⟨y0, rfl⟩ : ∃ y : Nat, a2_0 = y := ⟨a2_0.toNat, by have := (wf_u8 w2_0).1; omega⟩
  have hy0 := (wf_u8 w2_0).2
  obtain ⟨y1, rfl⟩ : ∃ y : Nat, a2_1 = y := ⟨a2_1.toNat, by have := (wf_u8 w2_1).1; omega⟩
  have hy1 := (wf_u8 w2_1).2
  obtain ⟨y2, rfl⟩ : ∃ y : Nat, a2_2 = y := ⟨a2_2.toNat, by have := (wf_u8 w2_2).1; omega⟩
  have hy2 := (wf_u8 w2_2).2
  obtain ⟨y3, rfl⟩ : ∃ y : Nat, a2_3 = y := ⟨a2_3.toNat, by have := (wf_u8 w2_3).1; omega⟩
  have hy3 := (wf_u8 w2_3).2
  have hbb : By [y0, y1, y2, y3] := by unfold By; intro x hx; simp at hx; omega
  refine (rows_run (bs := [(l0, ns0.map u8)]) (f5 ns0 n1 y0 y1 y2 y3 0 none _ (Sl.whole (o := false) rfl) hby0 hbb) (by
    intro b hb
    simp only [List.mem_cons, List.not_mem_nil, or_false] at hb
    rcases hb with rfl
    · exact hrow0
    ) (by
    simp only [VRs]
    refine ⟨_, _, rfl, ?_, _, _, rfl, ?_, _, _, rfl, ?_, rfl⟩
    · exact hvr0 _ 0 rfl
    · simp [VR, VRs]
    · simp [VR, VRs]
    )).mono fun e W' ⟨he, hb⟩ => ?_
  subst he
  exact ⟨_, rfl, post_true laid5 hW' rfl hb (by
    rw [Try.params5]
    intro t ht
    simp only [List.mem_cons, List.not_mem_nil, or_false] at ht
    rcases ht with rfl | rfl | rfl
    · exact read5_23
    · exact read5_3
    · exact read5_38
    ) rfl (t := 4) rfl Try.underlying4⟩

theorem sumBursts : Rows.SumBurstsSaid :=
  OpenClaim.holds_of_wide 5 Try.f5 rfl rfl rfl rfl rfl rfl rfl ⟨rfl, rfl, rfl, rfl, rfl⟩ rfl rfl rfl rfl rfl (by kernel_rfl) Try.func5 (by kernel_rfl)
    (of_decide_eq_true (by kernel_rfl)) (by unfold Func.isWrapper; first | (rw [if_pos (by decide +kernel)]; kernel_rfl) | (rw [if_neg (by decide +kernel)]; exact ⟨rfl, rfl⟩))
    (fun os started H enc _ => lifted5 os started H enc)
end Go.Proofs.Ytlaioapnffnfnaa.Ah
