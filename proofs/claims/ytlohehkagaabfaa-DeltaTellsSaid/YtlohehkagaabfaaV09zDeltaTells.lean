/- V09zDeltaTells: a part of the proof: steps over abstract values, or contracts of functions. Conditions: none. -/
import Derived.Test.YtlohehkagaabfaaV09q
import Derived.Test.YtlohehkagaabfaaAh13
import Derived.Test.YtlohehkagaabfaaProg
import Derived.Test.YtlohehkagaabfaaRows
import Derived.KernelRfl
namespace Go.Proofs.Ytlohehkagaabfaa.Ah
open Go Go.ChangeShapes Go.WideShapes Go.ChangeAt Go.RowKit Go.Proofs.Ytlohehkagaabfaa
set_option linter.unusedVariables false
set_option linter.unusedSimpArgs false
theorem own5 : ownKnob Try.prog.godebug = none := by kernel_rfl
theorem laid5 : laidOutB Try.prog = true := by kernel_rfl
theorem read5_22 : Try.prog.readableRec 22 = true ∧ 22 < Try.prog.types.size := ⟨by kernel_rfl, of_decide_eq_true (by kernel_rfl)⟩
theorem elt5_2 : 2 < Try.prog.types.size := of_decide_eq_true (by kernel_rfl)
theorem elc5_2 : Try.prog.cellsOf 2 = 1 := by kernel_rfl
set_option maxRecDepth 100000 in
theorem lifted5 (os : Os) (started : os.Started) (H : Type) (enc : TypeId × Value → H) :
    ReturnsInHanded {} Try.checked os 5 .any (Rows.deltaTellsSpec.pre6 enc Try.prog Try.f5 Rows.deltaTellsRow.domain false) (Rows.deltaTellsSpec.post enc Try.prog Try.f5 false true false false) := by
  refine returnsInHanded_of_change_sized (C := Try.checked) own5 started (by kernel_rfl) Try.func5
    (ChangeSpec.witness6 (enc := enc) (C := Try.checked) false ⟨#[], #[.slice none 0 0, .slice none 0 0, .slice none 0 0], []⟩ 8 (by kernel_rfl) (by kernel_rfl) (by kernel_rfl) (by kernel_rfl)) ?_
  intro W base args ds gs before hval0 hW hcnd hsz _
  have hval : ∀ (j : Nat) t v, Try.f5.params[j]? = some t → args[j]? = some v → Value.okWide Try.prog W .any base t v := hval0
  have hW' := hW
  obtain ⟨p, q, hA0, hV, rfl, hfz, hnd⟩ := hW
  have hA : DataW.TrodAll enc Try.prog W 0 (fun _ => true) true Try.f5.params.toList args.toList ds p := hA0
  rw [Try.params5] at hA hval
  obtain ⟨v0, vs0, d0, ds0, p0, q0, hargs, rfl, rfl, h0, s0⟩ := trodAll_cons hA
  obtain ⟨v1, vs1, d1, ds1, p1, q1, rfl, rfl, rfl, h1, s1⟩ := trodAll_cons s0
  obtain ⟨v2, vs2, d2, ds2, p2, q2, rfl, rfl, rfl, h2, s2⟩ := trodAll_cons s1
  obtain ⟨rfl, rfl, rfl⟩ := trodAll_nil s2
  obtain rfl : args = #[v0, v1, v2] := by cases args; simp_all
  obtain ⟨rfl, rfl⟩ := trodVars_none hV
  obtain ⟨l0, zs0, hlen0, hwf0, hvr0, hrow0, hsd0⟩ := open_isl laid5 Try.underlying22 elt5_2 Try.underlying2 elc5_2 (hval 0 22 v0 rfl rfl) h0
  obtain ⟨l1, zs1, hlen1, hwf1, hvr1, hrow1, hsd1⟩ := open_isl laid5 Try.underlying22 elt5_2 Try.underlying2 elc5_2 (hval 1 22 v1 rfl rfl) h1
  obtain ⟨l2, zs2, hlen2, hwf2, hvr2, hrow2, hsd2⟩ := open_isl laid5 Try.underlying22 elt5_2 Try.underlying2 elc5_2 (hval 2 22 v2 rfl rfl) h2
  have hsl0 := sized_len (P := Try.prog) hsz (j := 0) (t := 22) (e := 2) rfl rfl Try.underlying22 (by rw [show Try.prog.bytesOf 2 = 8 by kernel_rfl]; decide) hsd0
  have hsl1 := sized_len (P := Try.prog) hsz (j := 1) (t := 22) (e := 2) rfl rfl Try.underlying22 (by rw [show Try.prog.bytesOf 2 = 8 by kernel_rfl]; decide) hsd1
  have hsl2 := sized_len (P := Try.prog) hsz (j := 2) (t := 22) (e := 2) rfl rfl Try.underlying22 (by rw [show Try.prog.bytesOf 2 = 8 by kernel_rfl]; decide) hsd2
  refine (rows_run (bs := [(l0, zs0.map (AV.int .i64)), (l1, zs1.map (AV.int .i64)), (l2, zs2.map (AV.int .i64))]) (f5 zs0 zs1 zs2 0 1 2 none none none false false false _ (by rfl) (by rfl) (by rfl) (by omega) (by omega) (by omega)) (by
    intro b hb
    simp only [List.mem_cons, List.not_mem_nil, or_false] at hb
    rcases hb with rfl | rfl | rfl
    · exact hrow0
    · exact hrow1
    · exact hrow2
    ) (by
    exact (vrs_cons (hvr0 _ 0 rfl) (vrs_cons (hvr1 _ 1 rfl) (vrs_cons (hvr2 _ 2 rfl) vrs_nil)))
    )).mono fun e W' ⟨he, hb⟩ => ?_
  subst he
  exact ⟨_, rfl, post_true laid5 hW' rfl hb (by
    rw [Try.params5]
    intro t ht
    simp only [List.mem_cons, List.not_mem_nil, or_false] at ht
    rcases ht with rfl | rfl | rfl
    · exact read5_22
    · exact read5_22
    · exact read5_22
    ) rfl (t := 4) rfl Try.underlying4⟩

theorem deltaTells : Rows.DeltaTellsSaid :=
  OpenClaim.holds_of_wide 5 Try.f5 rfl rfl rfl rfl rfl rfl rfl ⟨rfl, rfl, rfl, rfl, rfl⟩ rfl rfl rfl rfl rfl (by kernel_rfl) Try.func5 (by kernel_rfl)
    (of_decide_eq_true (by kernel_rfl)) (by unfold Func.isWrapper; first | (rw [if_pos (by decide +kernel)]; kernel_rfl) | (rw [if_neg (by decide +kernel)]; exact ⟨rfl, rfl⟩))
    (fun os started H enc _ => lifted5 os started H enc)
end Go.Proofs.Ytlohehkagaabfaa.Ah
