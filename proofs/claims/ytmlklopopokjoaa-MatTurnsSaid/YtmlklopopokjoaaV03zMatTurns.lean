/- V03zMatTurns: a part of the proof: contracts of functions, or plain laws. Conditions: none. -/
import Derived.Test.YtmlklopopokjoaaV03s
import Derived.Test.YtmlklopopokjoaaEb
import Derived.Test.YtmlklopopokjoaaProg
import Derived.Test.YtmlklopopokjoaaRows
import Derived.KernelRfl
namespace Go.Proofs.Ytmlklopopokjoaa.Ah
open Go Go.ChangeShapes Go.WideShapes Go.ChangeAt Go.RowKit Go.Proofs.Ytmlklopopokjoaa
set_option linter.unusedVariables false
set_option linter.unusedSimpArgs false
theorem own7 : ownKnob Try.prog.godebug = none := by kernel_rfl
theorem laid7 : laidOutB Try.prog = true := by kernel_rfl
theorem read7_24 : Try.prog.readableRec 24 = true ∧ 24 < Try.prog.types.size := ⟨by kernel_rfl, of_decide_eq_true (by kernel_rfl)⟩
theorem leafc7_24 : leafC Try.prog 9 24 = some [.i .i64, .i .i64, .c 22] := by kernel_rfl
theorem ctys7_24 : Try.prog.cellTypes Try.prog.depth 24 = some [3, 3, 22] := by kernel_rfl
theorem elt7_25 : 25 < Try.prog.types.size := of_decide_eq_true (by kernel_rfl)
theorem elc7_25 : Try.prog.cellsOf 25 = 1 := by kernel_rfl
set_option maxRecDepth 100000 in
theorem lifted7 (os : Os) (started : os.Started) (H : Type) (enc : TypeId × Value → H) :
    ReturnsInHanded {} Try.checked os 7 .any (Rows.matTurnsSpec.pre6 enc Try.prog Try.f7 Rows.matTurnsRow.domain false) (Rows.matTurnsSpec.post enc Try.prog Try.f7 false true false false) := by
  refine returnsInHanded_of_change_sized (C := Try.checked) own7 started (by kernel_rfl) Try.func7
    (ChangeSpec.witness6 (enc := enc) (C := Try.checked) false ⟨#[], #[.agg #[.int .i64 0, .int .i64 0, .slice none 0 0], .agg #[.int .i64 0, .int .i64 0, .slice none 0 0]], []⟩ 8 (by kernel_rfl) (by kernel_rfl) (by kernel_rfl) (by kernel_rfl)) ?_
  intro W base args ds gs before hval0 hW hcnd hsz _
  have hval : ∀ (j : Nat) t v, Try.f7.params[j]? = some t → args[j]? = some v → Value.okWide Try.prog W .any base t v := hval0
  have hW' := hW
  obtain ⟨p, q, hA0, hV, rfl, hfz, hnd⟩ := hW
  have hA : DataW.TrodAll enc Try.prog W 0 (fun _ => true) true Try.f7.params.toList args.toList ds p := hA0
  rw [Try.params7] at hA hval
  obtain ⟨v0, vs0, d0, ds0, p0, q0, hargs, rfl, rfl, h0, s0⟩ := trodAll_cons hA
  obtain ⟨v1, vs1, d1, ds1, p1, q1, rfl, rfl, rfl, h1, s1⟩ := trodAll_cons s0
  obtain ⟨rfl, rfl, rfl⟩ := trodAll_nil s1
  obtain rfl : args = #[v0, v1] := by cases args; simp_all
  obtain ⟨rfl, rfl⟩ := trodVars_none hV
  obtain ⟨cs0, rfl, hf0, hct0⟩ := open_mix laid7 read7_24.2 Try.underlying24 leafc7_24 (hval 0 24 v0 rfl rfl) h0
  have hct0 := hct0 _ ctys7_24
  obtain ⟨a0_0, _, rfl, w0_0, g0_0⟩ := hf0.int
  obtain ⟨a0_1, _, rfl, w0_1, g0_1⟩ := g0_0.int
  obtain ⟨x0_2, _, rfl, hcell0_2, g0_2⟩ := g0_1.cell
  obtain rfl := g0_2.nil
  obtain ⟨u0_2, hu0_2, hok0_2⟩ := hct0 2 _ rfl
  cases hu0_2
  obtain ⟨l0_2, zs0_2, hwf0_2, hvr0_2, hrow0_2, hlen0_2⟩ := open_cisl laid7 Try.underlying22 elt7_25 Try.underlying25 elc7_25 hok0_2 hcell0_2
  have hsl0_2 := hlen0_2 (by rw [show Try.prog.bytesOf 25 = 8 by kernel_rfl]; decide) (fun n hn => by have := List.all_eq_true.1 hsz n (DataW.weights_mem_each (j := 0) (t := 24) rfl rfl n hn); simpa using this)
  obtain ⟨cs1, rfl, hf1, hct1⟩ := open_mix laid7 read7_24.2 Try.underlying24 leafc7_24 (hval 1 24 v1 rfl rfl) h1
  have hct1 := hct1 _ ctys7_24
  obtain ⟨a1_0, _, rfl, w1_0, g1_0⟩ := hf1.int
  obtain ⟨a1_1, _, rfl, w1_1, g1_1⟩ := g1_0.int
  obtain ⟨x1_2, _, rfl, hcell1_2, g1_2⟩ := g1_1.cell
  obtain rfl := g1_2.nil
  obtain ⟨u1_2, hu1_2, hok1_2⟩ := hct1 2 _ rfl
  cases hu1_2
  obtain ⟨l1_2, zs1_2, hwf1_2, hvr1_2, hrow1_2, hlen1_2⟩ := open_cisl laid7 Try.underlying22 elt7_25 Try.underlying25 elc7_25 hok1_2 hcell1_2
  have hsl1_2 := hlen1_2 (by rw [show Try.prog.bytesOf 25 = 8 by kernel_rfl]; decide) (fun n hn => by have := List.all_eq_true.1 hsz n (DataW.weights_mem_each (j := 1) (t := 24) rfl rfl n hn); simpa using this)
  refine (rows_run (bs := [(l0_2, zs0_2.map (AV.int .i64)), (l1_2, zs1_2.map (AV.int .i64))]) (f7 a0_0 a0_1 a1_0 a1_1 zs0_2 zs1_2 0 0 1 0 none none _ (Sl.whole (o := false) rfl) (Sl.whole (o := false) rfl) hsl0_2 hsl1_2) (by
    intro b hb
    simp only [List.mem_cons, List.not_mem_nil, or_false] at hb
    rcases hb with rfl | rfl
    · exact hrow0_2
    · exact hrow1_2
    ) (by
    exact (vrs_cons (vr_agg (vrs_cons (by simp [VR]) (vrs_cons (by simp [VR]) (vrs_cons (hvr0_2 _ 0 rfl) vrs_nil)))) (vrs_cons (vr_agg (vrs_cons (by simp [VR]) (vrs_cons (by simp [VR]) (vrs_cons (hvr1_2 _ 1 rfl) vrs_nil)))) vrs_nil))
    )).mono fun e W' ⟨he, hb⟩ => ?_
  subst he
  exact ⟨_, rfl, post_true laid7 hW' rfl hb (by
    rw [Try.params7]
    intro t ht
    simp only [List.mem_cons, List.not_mem_nil, or_false] at ht
    rcases ht with rfl | rfl
    · exact read7_24
    · exact read7_24
    ) rfl (t := 4) rfl Try.underlying4⟩

theorem matTurns : Rows.MatTurnsSaid :=
  OpenClaim.holds_of_wide 7 Try.f7 rfl rfl rfl rfl rfl rfl rfl ⟨rfl, rfl, rfl, rfl, rfl⟩ rfl rfl rfl rfl rfl (by kernel_rfl) Try.func7 (by kernel_rfl)
    (of_decide_eq_true (by kernel_rfl)) (by unfold Func.isWrapper; first | (rw [if_pos (by decide +kernel)]; kernel_rfl) | (rw [if_neg (by decide +kernel)]; exact ⟨rfl, rfl⟩))
    (fun os started H enc _ => lifted7 os started H enc)
end Go.Proofs.Ytmlklopopokjoaa.Ah
