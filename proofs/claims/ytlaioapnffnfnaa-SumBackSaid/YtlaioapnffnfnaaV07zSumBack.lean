/- V07zSumBack: a part of the proof: steps over abstract values, or contracts of functions. Conditions: none. -/
import Derived.Test.YtlaioapnffnfnaaV07j
import Derived.Test.YtlaioapnffnfnaaAh10
import Derived.Test.YtlaioapnffnfnaaProg
import Derived.Test.YtlaioapnffnfnaaRows
import Derived.KernelRfl
namespace Go.Proofs.Ytlaioapnffnfnaa.Ah
open Go Go.ChangeShapes Go.WideShapes Go.ChangeAt Go.RowKit Go.Proofs.Ytlaioapnffnfnaa
set_option linter.unusedVariables false
set_option linter.unusedSimpArgs false
theorem own4 : ownKnob Try.prog.godebug = none := by kernel_rfl
theorem laid4 : laidOutB Try.prog = true := by kernel_rfl
theorem read4_22 : Try.prog.readableRec 22 = true ∧ 22 < Try.prog.types.size := ⟨by kernel_rfl, of_decide_eq_true (by kernel_rfl)⟩
theorem read4_23 : Try.prog.readableRec 23 = true ∧ 23 < Try.prog.types.size := ⟨by kernel_rfl, of_decide_eq_true (by kernel_rfl)⟩
theorem elt4_5 : 5 < Try.prog.types.size := of_decide_eq_true (by kernel_rfl)
theorem elc4_5 : Try.prog.cellsOf 5 = 1 := by kernel_rfl
set_option maxRecDepth 100000 in
theorem lifted4 (os : Os) (started : os.Started) (H : Type) (enc : TypeId × Value → H) :
    ReturnsInHanded {} Try.checked os 4 .any (Rows.sumBackSpec.pre6 enc Try.prog Try.f4 Rows.sumBackRow.domain false) (Rows.sumBackSpec.post enc Try.prog Try.f4 false true false false) := by
  refine returnsInHanded_of_change_sized (C := Try.checked) own4 started (by kernel_rfl) Try.func4
    (ChangeSpec.witness6 (enc := enc) (C := Try.checked) false ⟨#[], #[.slice none 0 0, .slice none 0 0, .int .u32 0], []⟩ 8 (by kernel_rfl) (by kernel_rfl) (by kernel_rfl) (by kernel_rfl)) ?_
  intro W base args ds gs before hval0 hW hcnd hsz _
  have hval : ∀ (j : Nat) t v, Try.f4.params[j]? = some t → args[j]? = some v → Value.okWide Try.prog W .any base t v := hval0
  have hW' := hW
  obtain ⟨p, q, hA0, hV, rfl, hfz, hnd⟩ := hW
  have hA : DataW.TrodAll enc Try.prog W 0 (fun _ => true) true Try.f4.params.toList args.toList ds p := hA0
  rw [Try.params4] at hA hval
  obtain ⟨v0, vs0, d0, ds0, p0, q0, hargs, rfl, rfl, h0, s0⟩ := trodAll_cons hA
  obtain ⟨v1, vs1, d1, ds1, p1, q1, rfl, rfl, rfl, h1, s1⟩ := trodAll_cons s0
  obtain ⟨v2, vs2, d2, ds2, p2, q2, rfl, rfl, rfl, h2, s2⟩ := trodAll_cons s1
  obtain ⟨rfl, rfl, rfl⟩ := trodAll_nil s2
  obtain rfl : args = #[v0, v1, v2] := by cases args; simp_all
  obtain ⟨rfl, rfl⟩ := trodVars_none hV
  obtain ⟨l0, zs0, hlen0, hwf0, hvr0, hrow0, hsd0⟩ := open_isl laid4 Try.underlying23 elt4_5 Try.underlying5 elc4_5 (hval 0 23 v0 rfl rfl) h0
  obtain ⟨l1, zs1, hlen1, hwf1, hvr1, hrow1, hsd1⟩ := open_isl laid4 Try.underlying23 elt4_5 Try.underlying5 elc4_5 (hval 1 23 v1 rfl rfl) h1
  obtain ⟨n2, rfl, rfl, rfl, w2⟩ := open_int Try.underlying22 (hval 2 22 v2 rfl rfl) h2
  have hsl0 := sized_len (P := Try.prog) hsz (j := 0) (t := 23) (e := 5) rfl rfl Try.underlying23 (by rw [show Try.prog.bytesOf 5 = 1 by kernel_rfl]; decide) hsd0
  have hsl1 := sized_len (P := Try.prog) hsz (j := 1) (t := 23) (e := 5) rfl rfl Try.underlying23 (by rw [show Try.prog.bytesOf 5 = 1 by kernel_rfl]; decide) hsd1
  obtain ⟨c, rfl⟩ : ∃ c : Nat, n2 = c := ⟨n2.toNat, by have := (wf_u32 w2).1; omega⟩
  have hc := wf_u32 w2
  obtain ⟨ns0, rfl⟩ := nats_of zs0 (fun z hz => (wf_u8 (hwf0 z hz)).1)
  have hby0 : By ns0 := fun x hx => by have := (wf_u8 (hwf0 (x : Int) (List.mem_map.2 ⟨x, hx, rfl⟩))).2; omega
  have hm0 : ((ns0.map (fun n : Nat => (n : Int))).map (AV.int .u8)) = ns0.map u8 := by rw [List.map_map]; rfl
  rw [hm0] at hrow0
  rw [List.length_map] at hvr0 hlen0 hsl0
  have hlen0' : ns0.length ≤ 9223372036854775807 := hlen0
  obtain ⟨ns1, rfl⟩ := nats_of zs1 (fun z hz => (wf_u8 (hwf1 z hz)).1)
  have hby1 : By ns1 := fun x hx => by have := (wf_u8 (hwf1 (x : Int) (List.mem_map.2 ⟨x, hx, rfl⟩))).2; omega
  have hm1 : ((ns1.map (fun n : Nat => (n : Int))).map (AV.int .u8)) = ns1.map u8 := by rw [List.map_map]; rfl
  rw [hm1] at hrow1
  rw [List.length_map] at hvr1 hlen1 hsl1
  have hlen1' : ns1.length ≤ 9223372036854775807 := hlen1
  refine (rows_run (bs := [(l0, ns0.map u8), (l1, ns1.map u8)]) (f4 ns0 ns1 c 0 1 none none _ (Sl.whole (o := false) rfl) (Sl.whole (o := false) rfl) hby0 hby1 (by omega) (by omega) (by omega)) (by
    intro b hb
    simp only [List.mem_cons, List.not_mem_nil, or_false] at hb
    rcases hb with rfl | rfl
    · exact hrow0
    · exact hrow1
    ) (by
    simp only [VRs]
    refine ⟨_, _, rfl, ?_, _, _, rfl, ?_, _, _, rfl, ?_, rfl⟩
    · exact hvr0 _ 0 rfl
    · exact hvr1 _ 1 rfl
    · simp [VR, VRs]
    )).mono fun e W' ⟨he, hb⟩ => ?_
  subst he
  exact ⟨_, rfl, post_true laid4 hW' rfl hb (by
    rw [Try.params4]
    intro t ht
    simp only [List.mem_cons, List.not_mem_nil, or_false] at ht
    rcases ht with rfl | rfl | rfl
    · exact read4_23
    · exact read4_23
    · exact read4_22
    ) rfl (t := 4) rfl Try.underlying4⟩

theorem sumBack : Rows.SumBackSaid :=
  OpenClaim.holds_of_wide 4 Try.f4 rfl rfl rfl rfl rfl rfl rfl ⟨rfl, rfl, rfl, rfl, rfl⟩ rfl rfl rfl rfl rfl (by kernel_rfl) Try.func4 (by kernel_rfl)
    (of_decide_eq_true (by kernel_rfl)) (by unfold Func.isWrapper; first | (rw [if_pos (by decide +kernel)]; kernel_rfl) | (rw [if_neg (by decide +kernel)]; exact ⟨rfl, rfl⟩))
    (fun os started H enc _ => lifted4 os started H enc)
end Go.Proofs.Ytlaioapnffnfnaa.Ah
