/- V07zSumShort: a part of the proof: steps over abstract values, or contracts of functions. Conditions: none. -/
import Derived.Test.YtlaioapnffnfnaaV07i
import Derived.Test.YtlaioapnffnfnaaAh10
import Derived.Test.YtlaioapnffnfnaaProg
import Derived.Test.YtlaioapnffnfnaaRows
import Derived.KernelRfl
namespace Go.Proofs.Ytlaioapnffnfnaa.Ah
open Go Go.ChangeShapes Go.WideShapes Go.ChangeAt Go.RowKit Go.Proofs.Ytlaioapnffnfnaa
set_option linter.unusedVariables false
set_option linter.unusedSimpArgs false
theorem own7 : ownKnob Try.prog.godebug = none := by kernel_rfl
theorem laid7 : laidOutB Try.prog = true := by kernel_rfl
theorem read7_23 : Try.prog.readableRec 23 = true ∧ 23 < Try.prog.types.size := ⟨by kernel_rfl, of_decide_eq_true (by kernel_rfl)⟩
theorem elt7_5 : 5 < Try.prog.types.size := of_decide_eq_true (by kernel_rfl)
theorem elc7_5 : Try.prog.cellsOf 5 = 1 := by kernel_rfl
set_option maxRecDepth 100000 in
theorem lifted7 (os : Os) (started : os.Started) (H : Type) (enc : TypeId × Value → H) :
    ReturnsInHanded {} Try.checked os 7 .any (Rows.sumShortSpec.pre6 enc Try.prog Try.f7 Rows.sumShortRow.domain false) (Rows.sumShortSpec.post enc Try.prog Try.f7 false true false false) := by
  refine returnsInHanded_of_change (C := Try.checked) own7 started (by kernel_rfl) Try.func7
    (ChangeSpec.witness6 (enc := enc) (C := Try.checked) false ⟨#[], #[.slice none 0 0], []⟩ 8 (by kernel_rfl) (by kernel_rfl) (by kernel_rfl) (by kernel_rfl)) ?_
  intro W base args ds gs before hval0 hW hcnd _
  have hval : ∀ (j : Nat) t v, Try.f7.params[j]? = some t → args[j]? = some v → Value.okWide Try.prog W .any base t v := hval0
  have hW' := hW
  obtain ⟨p, q, hA0, hV, rfl, hfz, hnd⟩ := hW
  have hA : DataW.TrodAll enc Try.prog W 0 (fun _ => true) true Try.f7.params.toList args.toList ds p := hA0
  rw [Try.params7] at hA hval
  obtain ⟨v0, vs0, d0, ds0, p0, q0, hargs, rfl, rfl, h0, s0⟩ := trodAll_cons hA
  obtain ⟨rfl, rfl, rfl⟩ := trodAll_nil s0
  obtain rfl : args = #[v0] := by cases args; simp_all
  obtain ⟨rfl, rfl⟩ := trodVars_none hV
  obtain ⟨l0, zs0, hlen0, hwf0, hvr0, hrow0⟩ := open_isl laid7 Try.underlying23 elt7_5 Try.underlying5 elc7_5 (hval 0 23 v0 rfl rfl) h0
  obtain ⟨ns0, rfl⟩ := nats_of zs0 (fun z hz => (wf_u8 (hwf0 z hz)).1)
  have hby0 : By ns0 := fun x hx => by have := (wf_u8 (hwf0 (x : Int) (List.mem_map.2 ⟨x, hx, rfl⟩))).2; omega
  have hm0 : ((ns0.map (fun n : Nat => (n : Int))).map (AV.int .u8)) = ns0.map u8 := by rw [List.map_map]; rfl
  rw [hm0] at hrow0
  rw [List.length_map] at hvr0 hlen0
  have hlen0' : ns0.length ≤ 9223372036854775807 := hlen0
  refine (rows_run (bs := [(l0, ns0.map u8)]) (f7 ns0 0 none _ (Sl.whole (o := false) rfl) hby0) (by
    intro b hb
    simp only [List.mem_cons, List.not_mem_nil, or_false] at hb
    rcases hb with rfl
    · exact hrow0
    ) (by
    simp only [VRs]
    refine ⟨_, _, rfl, ?_, rfl⟩
    · exact hvr0 _ 0 rfl
    )).mono fun e W' ⟨he, hb⟩ => ?_
  subst he
  exact ⟨_, rfl, post_true laid7 hW' rfl hb (by
    rw [Try.params7]
    intro t ht
    simp only [List.mem_cons, List.not_mem_nil, or_false] at ht
    rcases ht with rfl
    · exact read7_23
    ) rfl (t := 4) rfl Try.underlying4⟩

theorem sumShort : Rows.SumShortSaid :=
  OpenClaim.holds_of_wide 7 Try.f7 rfl rfl rfl rfl rfl rfl rfl ⟨rfl, rfl, rfl, rfl, rfl⟩ rfl rfl rfl rfl rfl (by kernel_rfl) Try.func7 (by kernel_rfl)
    (of_decide_eq_true (by kernel_rfl)) (by unfold Func.isWrapper; first | (rw [if_pos (by decide +kernel)]; kernel_rfl) | (rw [if_neg (by decide +kernel)]; exact ⟨rfl, rfl⟩))
    (fun os started H enc _ => lifted7 os started H enc)
end Go.Proofs.Ytlaioapnffnfnaa.Ah
