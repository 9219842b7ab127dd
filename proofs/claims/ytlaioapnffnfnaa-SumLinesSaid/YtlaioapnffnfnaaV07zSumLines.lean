/- V07zSumLines: a part of the proof: steps over abstract values, or contracts of functions. Conditions: none. -/
import Derived.Test.YtlaioapnffnfnaaV07m
import Derived.Test.YtlaioapnffnfnaaAh10
import Derived.Test.YtlaioapnffnfnaaProg
import Derived.Test.YtlaioapnffnfnaaRows
import Derived.KernelRfl
namespace Go.Proofs.Ytlaioapnffnfnaa.Ah
open Go Go.ChangeShapes Go.WideShapes Go.ChangeAt Go.RowKit Go.Proofs.Ytlaioapnffnfnaa
set_option linter.unusedVariables false
set_option linter.unusedSimpArgs false
theorem own6 : ownKnob Try.prog.godebug = none := by kernel_rfl
theorem laid6 : laidOutB Try.prog = true := by kernel_rfl
theorem read6_23 : Try.prog.readableRec 23 = true ∧ 23 < Try.prog.types.size := ⟨by kernel_rfl, of_decide_eq_true (by kernel_rfl)⟩
theorem elt6_5 : 5 < Try.prog.types.size := of_decide_eq_true (by kernel_rfl)
theorem elc6_5 : Try.prog.cellsOf 5 = 1 := by kernel_rfl
set_option maxRecDepth 100000 in
theorem lifted6 (os : Os) (started : os.Started) (H : Type) (enc : TypeId × Value → H) :
    ReturnsInHanded {} Try.checked os 6 .any (Rows.sumLinesSpec.pre6 enc Try.prog Try.f6 Rows.sumLinesRow.domain false) (Rows.sumLinesSpec.post enc Try.prog Try.f6 false true false false) := by
  refine returnsInHanded_of_change (C := Try.checked) own6 started (by kernel_rfl) Try.func6
    (ChangeSpec.witness6 (enc := enc) (C := Try.checked) false ⟨#[], #[.slice none 0 0, .slice none 0 0, .slice none 0 0], []⟩ 8 (by kernel_rfl) (by kernel_rfl) (by kernel_rfl) (by kernel_rfl)) ?_
  intro W base args ds gs before hval0 hW hcnd _
  have hval : ∀ (j : Nat) t v, Try.f6.params[j]? = some t → args[j]? = some v → Value.okWide Try.prog W .any base t v := hval0
  have hW' := hW
  obtain ⟨p, q, hA0, hV, rfl, hfz, hnd⟩ := hW
  have hA : DataW.TrodAll enc Try.prog W 0 (fun _ => true) true Try.f6.params.toList args.toList ds p := hA0
  rw [Try.params6] at hA hval
  obtain ⟨v0, vs0, d0, ds0, p0, q0, hargs, rfl, rfl, h0, s0⟩ := trodAll_cons hA
  obtain ⟨v1, vs1, d1, ds1, p1, q1, rfl, rfl, rfl, h1, s1⟩ := trodAll_cons s0
  obtain ⟨v2, vs2, d2, ds2, p2, q2, rfl, rfl, rfl, h2, s2⟩ := trodAll_cons s1
  obtain ⟨rfl, rfl, rfl⟩ := trodAll_nil s2
  obtain rfl : args = #[v0, v1, v2] := by cases args; simp_all
  obtain ⟨rfl, rfl⟩ := trodVars_none hV
  obtain ⟨l0, zs0, hlen0, hwf0, hvr0, hrow0, hsd0⟩ := open_isl laid6 Try.underlying23 elt6_5 Try.underlying5 elc6_5 (hval 0 23 v0 rfl rfl) h0
  obtain ⟨l1, zs1, hlen1, hwf1, hvr1, hrow1, hsd1⟩ := open_isl laid6 Try.underlying23 elt6_5 Try.underlying5 elc6_5 (hval 1 23 v1 rfl rfl) h1
  obtain ⟨l2, zs2, hlen2, hwf2, hvr2, hrow2, hsd2⟩ := open_isl laid6 Try.underlying23 elt6_5 Try.underlying5 elc6_5 (hval 2 23 v2 rfl rfl) h2
  obtain ⟨ns0, rfl⟩ := nats_of zs0 (fun z hz => (wf_u8 (hwf0 z hz)).1)
  have hby0 : By ns0 := fun x hx => by have := (wf_u8 (hwf0 (x : Int) (List.mem_map.2 ⟨x, hx, rfl⟩))).2; omega
  have hm0 : ((ns0.map (fun n : Nat => (n : Int))).map (AV.int .u8)) = ns0.map u8 := by rw [List.map_map]; rfl
  rw [hm0] at hrow0
  rw [List.length_map] at hvr0 hlen0
  obtain ⟨ns1, rfl⟩ := nats_of zs1 (fun z hz => (wf_u8 (hwf1 z hz)).1)
  have hby1 : By ns1 := fun x hx => by have := (wf_u8 (hwf1 (x : Int) (List.mem_map.2 ⟨x, hx, rfl⟩))).2; omega
  have hm1 : ((ns1.map (fun n : Nat => (n : Int))).map (AV.int .u8)) = ns1.map u8 := by rw [List.map_map]; rfl
  rw [hm1] at hrow1
  rw [List.length_map] at hvr1 hlen1
  obtain ⟨ns2, rfl⟩ := nats_of zs2 (fun z hz => (wf_u8 (hwf2 z hz)).1)
  have hby2 : By ns2 := fun x hx => by have := (wf_u8 (hwf2 (x : Int) (List.mem_map.2 ⟨x, hx, rfl⟩))).2; omega
  have hm2 : ((ns2.map (fun n : Nat => (n : Int))).map (AV.int .u8)) = ns2.map u8 := by rw [List.map_map]; rfl
  rw [hm2] at hrow2
  rw [List.length_map] at hvr2 hlen2
  refine (rows_run (bs := [(l0, ns0.map u8), (l1, ns1.map u8), (l2, ns2.map u8)]) (f6 ns0 ns1 ns2 0 1 2 none none none _ (Sl.whole (o := false) rfl) (Sl.whole (o := false) rfl) (Sl.whole (o := false) rfl) hby0 hby1 hby2) (by
    intro b hb
    simp only [List.mem_cons, List.not_mem_nil, or_false] at hb
    rcases hb with rfl | rfl | rfl
    · exact hrow0
    · exact hrow1
    · exact hrow2
    ) (by
    simp only [VRs]
    refine ⟨_, _, rfl, ?_, _, _, rfl, ?_, _, _, rfl, ?_, rfl⟩
    · exact hvr0 _ 0 rfl
    · exact hvr1 _ 1 rfl
    · exact hvr2 _ 2 rfl
    )).mono fun e W' ⟨he, hb⟩ => ?_
  subst he
  exact ⟨_, rfl, post_true laid6 hW' rfl hb (by
    rw [Try.params6]
    intro t ht
    simp only [List.mem_cons, List.not_mem_nil, or_false] at ht
    rcases ht with rfl | rfl | rfl
    · exact read6_23
    · exact read6_23
    · exact read6_23
    ) rfl (t := 4) rfl Try.underlying4⟩

theorem sumLines : Rows.SumLinesSaid :=
  OpenClaim.holds_of_wide 6 Try.f6 rfl rfl rfl rfl rfl rfl rfl ⟨rfl, rfl, rfl, rfl, rfl⟩ rfl rfl rfl rfl rfl (by kernel_rfl) Try.func6 (by kernel_rfl)
    (of_decide_eq_true (by kernel_rfl)) (by unfold Func.isWrapper; first | (rw [if_pos (by decide +kernel)]; kernel_rfl) | (rw [if_neg (by decide +kernel)]; exact ⟨rfl, rfl⟩))
    (fun os started H enc _ => lifted6 os started H enc)
end Go.Proofs.Ytlaioapnffnfnaa.Ah
