/- V09zDeltaOne: a part of the proof: steps over abstract values, or contracts of functions. Conditions: none. -/
import Derived.Test.YtlohehkagaabfaaV09n
import Derived.Test.YtlohehkagaabfaaAh13
import Derived.Test.YtlohehkagaabfaaProg
import Derived.Test.YtlohehkagaabfaaRows
import Derived.KernelRfl
namespace Go.Proofs.Ytlohehkagaabfaa.Ah
open Go Go.ChangeShapes Go.WideShapes Go.ChangeAt Go.RowKit Go.Proofs.Ytlohehkagaabfaa
set_option linter.unusedVariables false
set_option linter.unusedSimpArgs false
theorem own6 : ownKnob Try.prog.godebug = none := by kernel_rfl
theorem laid6 : laidOutB Try.prog = true := by kernel_rfl
theorem read6_22 : Try.prog.readableRec 22 = true ∧ 22 < Try.prog.types.size := ⟨by kernel_rfl, of_decide_eq_true (by kernel_rfl)⟩
theorem elt6_2 : 2 < Try.prog.types.size := of_decide_eq_true (by kernel_rfl)
theorem elc6_2 : Try.prog.cellsOf 2 = 1 := by kernel_rfl
set_option maxRecDepth 100000 in
theorem lifted6 (os : Os) (started : os.Started) (H : Type) (enc : TypeId × Value → H) :
    ReturnsInHanded {} Try.checked os 6 .any (Rows.deltaOneSpec.pre6 enc Try.prog Try.f6 Rows.deltaOneRow.domain false) (Rows.deltaOneSpec.post enc Try.prog Try.f6 false true false false) := by
  refine returnsInHanded_of_change (C := Try.checked) own6 started (by kernel_rfl) Try.func6
    (ChangeSpec.witness6 (enc := enc) (C := Try.checked) false ⟨#[], #[.slice none 0 0, .slice none 0 0], []⟩ 8 (by kernel_rfl) (by kernel_rfl) (by kernel_rfl) (by kernel_rfl)) ?_
  intro W base args ds gs before hval0 hW hcnd _
  have hval : ∀ (j : Nat) t v, Try.f6.params[j]? = some t → args[j]? = some v → Value.okWide Try.prog W .any base t v := hval0
  have hW' := hW
  obtain ⟨p, q, hA0, hV, rfl, hfz, hnd⟩ := hW
  have hA : DataW.TrodAll enc Try.prog W 0 (fun _ => true) true Try.f6.params.toList args.toList ds p := hA0
  rw [Try.params6] at hA hval
  obtain ⟨v0, vs0, d0, ds0, p0, q0, hargs, rfl, rfl, h0, s0⟩ := trodAll_cons hA
  obtain ⟨v1, vs1, d1, ds1, p1, q1, rfl, rfl, rfl, h1, s1⟩ := trodAll_cons s0
  obtain ⟨rfl, rfl, rfl⟩ := trodAll_nil s1
  obtain rfl : args = #[v0, v1] := by cases args; simp_all
  obtain ⟨rfl, rfl⟩ := trodVars_none hV
  obtain ⟨l0, zs0, hlen0, hwf0, hvr0, hrow0, hsd0⟩ := open_isl laid6 Try.underlying22 elt6_2 Try.underlying2 elc6_2 (hval 0 22 v0 rfl rfl) h0
  obtain ⟨l1, zs1, hlen1, hwf1, hvr1, hrow1, hsd1⟩ := open_isl laid6 Try.underlying22 elt6_2 Try.underlying2 elc6_2 (hval 1 22 v1 rfl rfl) h1
  have hr1 : ∀ x ∈ zs1, -9223372036854775808 ≤ x ∧ x ≤ 9223372036854775807 := fun x hx => wf_i64 (hwf1 x hx)
  refine (rows_run (bs := [(l0, zs0.map (AV.int .i64)), (l1, zs1.map (AV.int .i64))]) (f6 zs0 zs1 0 1 none none false false _ (by rfl) (by rfl) hr1) (by
    intro b hb
    simp only [List.mem_cons, List.not_mem_nil, or_false] at hb
    rcases hb with rfl | rfl
    · exact hrow0
    · exact hrow1
    ) (by
    exact (vrs_cons (hvr0 _ 0 rfl) (vrs_cons (hvr1 _ 1 rfl) vrs_nil))
    )).mono fun e W' ⟨he, hb⟩ => ?_
  subst he
  exact ⟨_, rfl, post_true laid6 hW' rfl hb (by
    rw [Try.params6]
    intro t ht
    simp only [List.mem_cons, List.not_mem_nil, or_false] at ht
    rcases ht with rfl | rfl
    · exact read6_22
    · exact read6_22
    ) rfl (t := 4) rfl Try.underlying4⟩

theorem deltaOne : Rows.DeltaOneSaid :=
  OpenClaim.holds_of_wide 6 Try.f6 rfl rfl rfl rfl rfl rfl rfl ⟨rfl, rfl, rfl, rfl, rfl⟩ rfl rfl rfl rfl rfl (by kernel_rfl) Try.func6 (by kernel_rfl)
    (of_decide_eq_true (by kernel_rfl)) (by unfold Func.isWrapper; first | (rw [if_pos (by decide +kernel)]; kernel_rfl) | (rw [if_neg (by decide +kernel)]; exact ⟨rfl, rfl⟩))
    (fun os started H enc _ => lifted6 os started H enc)
end Go.Proofs.Ytlohehkagaabfaa.Ah
