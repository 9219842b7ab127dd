/- V09zDeltaBack: a part of the proof: contracts of functions, or plain laws. Conditions: none. -/
import Derived.Test.YtlohehkagaabfaaV09x
import Derived.Test.YtlohehkagaabfaaEb
import Derived.Test.YtlohehkagaabfaaProg
import Derived.Test.YtlohehkagaabfaaRows
import Derived.KernelRfl
namespace Go.Proofs.Ytlohehkagaabfaa.Ah
open Go Go.ChangeShapes Go.WideShapes Go.ChangeAt Go.RowKit Go.Proofs.Ytlohehkagaabfaa
set_option linter.unusedVariables false
set_option linter.unusedSimpArgs false
theorem own8 : ownKnob Try.prog.godebug = none := by kernel_rfl
theorem laid8 : laidOutB Try.prog = true := by kernel_rfl
theorem read8_22 : Try.prog.readableRec 22 = true ∧ 22 < Try.prog.types.size := ⟨by kernel_rfl, of_decide_eq_true (by kernel_rfl)⟩
theorem elt8_2 : 2 < Try.prog.types.size := of_decide_eq_true (by kernel_rfl)
theorem elc8_2 : Try.prog.cellsOf 2 = 1 := by kernel_rfl
set_option maxRecDepth 100000 in
theorem lifted8 (os : Os) (started : os.Started) (H : Type) (enc : TypeId × Value → H) :
    ReturnsInHanded {} Try.checked os 8 .any (Rows.deltaBackSpec.pre6 enc Try.prog Try.f8 Rows.deltaBackRow.domain false) (Rows.deltaBackSpec.post enc Try.prog Try.f8 false true false false) := by
  refine returnsInHanded_of_change_sized (C := Try.checked) own8 started (by kernel_rfl) Try.func8
    (ChangeSpec.witness6 (enc := enc) (C := Try.checked) false ⟨#[], #[.slice none 0 0, .slice none 0 0], []⟩ 8 (by kernel_rfl) (by kernel_rfl) (by kernel_rfl) (by kernel_rfl)) ?_
  intro W base args ds gs before hval0 hW hcnd hsz _
  have hval : ∀ (j : Nat) t v, Try.f8.params[j]? = some t → args[j]? = some v → Value.okWide Try.prog W .any base t v := hval0
  have hW' := hW
  obtain ⟨p, q, hA0, hV, rfl, hfz, hnd⟩ := hW
  have hA : DataW.TrodAll enc Try.prog W 0 (fun _ => true) true Try.f8.params.toList args.toList ds p := hA0
  rw [Try.params8] at hA hval
  obtain ⟨v0, vs0, d0, ds0, p0, q0, hargs, rfl, rfl, h0, s0⟩ := trodAll_cons hA
  obtain ⟨v1, vs1, d1, ds1, p1, q1, rfl, rfl, rfl, h1, s1⟩ := trodAll_cons s0
  obtain ⟨rfl, rfl, rfl⟩ := trodAll_nil s1
  obtain rfl : args = #[v0, v1] := by cases args; simp_all
  obtain ⟨rfl, rfl⟩ := trodVars_none hV
  obtain ⟨l0, zs0, hlen0, hwf0, hvr0, hrow0, hsd0⟩ := open_isl laid8 Try.underlying22 elt8_2 Try.underlying2 elc8_2 (hval 0 22 v0 rfl rfl) h0
  obtain ⟨l1, zs1, hlen1, hwf1, hvr1, hrow1, hsd1⟩ := open_isl laid8 Try.underlying22 elt8_2 Try.underlying2 elc8_2 (hval 1 22 v1 rfl rfl) h1
  have hsl0 := sized_len (P := Try.prog) hsz (j := 0) (t := 22) (e := 2) rfl rfl Try.underlying22 (by rw [show Try.prog.bytesOf 2 = 8 by kernel_rfl]; decide) hsd0
  have hsl1 := sized_len (P := Try.prog) hsz (j := 1) (t := 22) (e := 2) rfl rfl Try.underlying22 (by rw [show Try.prog.bytesOf 2 = 8 by kernel_rfl]; decide) hsd1
  refine (rows_run (bs := [(l0, zs0.map (AV.int .i64)), (l1, zs1.map (AV.int .i64))]) (f8 zs0 zs1 0 1 none none false false _ (by rfl) (by rfl) (by omega)) (by
    intro b hb
    simp only [List.mem_cons, List.not_mem_nil, or_false] at hb
    rcases hb with rfl | rfl
    · exact hrow0
    · exact hrow1
    ) (by
    exact (vrs_cons (hvr0 _ 0 rfl) (vrs_cons (hvr1 _ 1 rfl) vrs_nil))
    )).mono fun e W' ⟨he, hb⟩ => ?_
  subst he
  exact ⟨_, rfl, post_true laid8 hW' rfl hb (by
    rw [Try.params8]
    intro t ht
    simp only [List.mem_cons, List.not_mem_nil, or_false] at ht
    rcases ht with rfl | rfl
    · exact read8_22
    · exact read8_22
    ) rfl (t := 4) rfl Try.underlying4⟩

theorem deltaBack : Rows.DeltaBackSaid :=
  OpenClaim.holds_of_wide 8 Try.f8 rfl rfl rfl rfl rfl rfl rfl ⟨rfl, rfl, rfl, rfl, rfl⟩ rfl rfl rfl rfl rfl (by kernel_rfl) Try.func8 (by kernel_rfl)
    (of_decide_eq_true (by kernel_rfl)) (by unfold Func.isWrapper; first | (rw [if_pos (by decide +kernel)]; kernel_rfl) | (rw [if_neg (by decide +kernel)]; exact ⟨rfl, rfl⟩))
    (fun os started H enc _ => lifted8 os started H enc)
end Go.Proofs.Ytlohehkagaabfaa.Ah
