/- V07zSumTells: a part of the proof: steps over abstract values, or contracts of functions. Conditions: none. -/
import Derived.Test.YtlaioapnffnfnaaV07h
import Derived.Test.YtlaioapnffnfnaaAh10
import Derived.Test.YtlaioapnffnfnaaProg
import Derived.Test.YtlaioapnffnfnaaRows
import Derived.KernelRfl
namespace Go.Proofs.Ytlaioapnffnfnaa.Ah
open Go Go.ChangeShapes Go.WideShapes Go.ChangeAt Go.RowKit Go.Proofs.Ytlaioapnffnfnaa
set_option linter.unusedVariables false
set_option linter.unusedSimpArgs false
theorem own3 : ownKnob Try.prog.godebug = none := by kernel_rfl
theorem laid3 : laidOutB Try.prog = true := by kernel_rfl
theorem read3_22 : Try.prog.readableRec 22 = true ∧ 22 < Try.prog.types.size := ⟨by kernel_rfl, of_decide_eq_true (by kernel_rfl)⟩
theorem read3_23 : Try.prog.readableRec 23 = true ∧ 23 < Try.prog.types.size := ⟨by kernel_rfl, of_decide_eq_true (by kernel_rfl)⟩
theorem elt3_5 : 5 < Try.prog.types.size := of_decide_eq_true (by kernel_rfl)
theorem elc3_5 : Try.prog.cellsOf 5 = 1 := by kernel_rfl
set_option maxRecDepth 100000 in
theorem lifted3 (os : Os) (started : os.Started) (H : Type) (enc : TypeId × Value → H) :
    ReturnsInHanded {} Try.checked os 3 .any (Rows.sumTellsSpec.pre6 enc Try.prog Try.f3 Rows.sumTellsRow.domain false) (Rows.sumTellsSpec.post enc Try.prog Try.f3 false true false false) := by
  refine returnsInHanded_of_change (C := Try.checked) own3 started (by kernel_rfl) Try.func3
    (ChangeSpec.witness6 (enc := enc) (C := Try.checked) false ⟨#[], #[.int .u32 0, .slice none 0 0], []⟩ 8 (by kernel_rfl) (by kernel_rfl) (by kernel_rfl) (by kernel_rfl)) ?_
  intro W base args ds gs before hval0 hW hcnd _
  have hval : ∀ (j : Nat) t v, Try.f3.params[j]? = some t → args[j]? = some v → Value.okWide Try.prog W .any base t v := hval0
  have hW' := hW
  obtain ⟨p, q, hA0, hV, rfl, hfz, hnd⟩ := hW
  have hA : DataW.TrodAll enc Try.prog W 0 (fun _ => true) true Try.f3.params.toList args.toList ds p := hA0
  rw [Try.params3] at hA hval
  obtain ⟨v0, vs0, d0, ds0, p0, q0, hargs, rfl, rfl, h0, s0⟩ := trodAll_cons hA
  obtain ⟨v1, vs1, d1, ds1, p1, q1, rfl, rfl, rfl, h1, s1⟩ := trodAll_cons s0
  obtain ⟨rfl, rfl, rfl⟩ := trodAll_nil s1
  obtain rfl : args = #[v0, v1] := by cases args; simp_all
  obtain ⟨rfl, rfl⟩ := trodVars_none hV
  obtain ⟨n0, rfl, rfl, rfl, w0⟩ := open_int Try.underlying22 (hval 0 22 v0 rfl rfl) h0
  obtain ⟨l1, zs1, hlen1, hwf1, hvr1, hrow1⟩ := open_isl laid3 Try.underlying23 elt3_5 Try.underlying5 elc3_5 (hval 1 23 v1 rfl rfl) h1
  obtain ⟨c, rfl⟩ : ∃ c : Nat, n0 = c := ⟨n0.toNat, by have := (wf_u32 w0).1; omega⟩
  have hc := wf_u32 w0
  obtain ⟨ns1, rfl⟩ := nats_of zs1 (fun z hz => (wf_u8 (hwf1 z hz)).1)
  have hby1 : By ns1 := fun x hx => by have := (wf_u8 (hwf1 (x : Int) (List.mem_map.2 ⟨x, hx, rfl⟩))).2; omega
  have hm1 : ((ns1.map (fun n : Nat => (n : Int))).map (AV.int .u8)) = ns1.map u8 := by rw [List.map_map]; rfl
  rw [hm1] at hrow1
  rw [List.length_map] at hvr1 hlen1
  have hlen1' : ns1.length ≤ 9223372036854775807 := hlen1
  refine (rows_run (bs := [(l1, ns1.map u8)]) (f3 c ns1 0 none _ (Sl.whole (o := false) rfl) hby1 (by omega)) (by
    intro b hb
    simp only [List.mem_cons, List.not_mem_nil, or_false] at hb
    rcases hb with rfl
    · exact hrow1
    ) (by
    simp only [VRs]
    refine ⟨_, _, rfl, ?_, _, _, rfl, ?_, rfl⟩
    · simp [VR, VRs]
    · exact hvr1 _ 0 rfl
    )).mono fun e W' ⟨he, hb⟩ => ?_
  subst he
  exact ⟨_, rfl, post_true laid3 hW' rfl hb (by
    rw [Try.params3]
    intro t ht
    simp only [List.mem_cons, List.not_mem_nil, or_false] at ht
    rcases ht with rfl | rfl
    · exact read3_22
    · exact read3_23
    ) rfl (t := 4) rfl Try.underlying4⟩

theorem sumTells : Rows.SumTellsSaid :=
  OpenClaim.holds_of_wide 3 Try.f3 rfl rfl rfl rfl rfl rfl rfl ⟨rfl, rfl, rfl, rfl, rfl⟩ rfl rfl rfl rfl rfl (by kernel_rfl) Try.func3 (by kernel_rfl)
    (of_decide_eq_true (by kernel_rfl)) (by unfold Func.isWrapper; first | (rw [if_pos (by decide +kernel)]; kernel_rfl) | (rw [if_neg (by decide +kernel)]; exact ⟨rfl, rfl⟩))
    (fun os started H enc _ => lifted3 os started H enc)
end Go.Proofs.Ytlaioapnffnfnaa.Ah
