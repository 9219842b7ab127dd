/- V08zFrameApart: a part of the proof: contracts of functions, or plain laws. Conditions: none. -/
import Derived.Test.YtjibphejlmiocaaV08o
import Derived.Test.YtjibphejlmiocaaEb
import Derived.Test.YtjibphejlmiocaaProg
import Derived.Test.YtjibphejlmiocaaRows
import Derived.KernelRfl
namespace Go.Proofs.Ytjibphejlmiocaa.Ah
open Go Go.ChangeShapes Go.WideShapes Go.ChangeAt Go.RowKit Go.Proofs.Ytjibphejlmiocaa
set_option linter.unusedVariables false
set_option linter.unusedSimpArgs false
theorem own3 : ownKnob Try.prog.godebug = none := by kernel_rfl
theorem laid3 : laidOutB Try.prog = true := by kernel_rfl
theorem read3_24 : Try.prog.readableRec 24 = true ∧ 24 < Try.prog.types.size := ⟨by kernel_rfl, of_decide_eq_true (by kernel_rfl)⟩
theorem leafc3_24 : leafC Try.prog 9 24 = some [.i .i64, .c 22] := by kernel_rfl
theorem ctys3_24 : Try.prog.cellTypes Try.prog.depth 24 = some [3, 22] := by kernel_rfl
theorem elt3_2 : 2 < Try.prog.types.size := of_decide_eq_true (by kernel_rfl)
theorem elc3_2 : Try.prog.cellsOf 2 = 1 := by kernel_rfl
set_option maxRecDepth 100000 in
theorem lifted3 (os : Os) (started : os.Started) (H : Type) (enc : TypeId × Value → H) :
    ReturnsInHanded {} Try.checked os 3 .any (Rows.frameApartSpec.pre6 enc Try.prog Try.f3 Rows.frameApartRow.domain false) (Rows.frameApartSpec.post enc Try.prog Try.f3 false true false false) := by
  refine returnsInHanded_of_change_sized (C := Try.checked) own3 started (by kernel_rfl) Try.func3
    (ChangeSpec.witness6 (enc := enc) (C := Try.checked) false ⟨#[], #[.agg #[.int .i64 0, .slice none 0 0], .agg #[.int .i64 0, .slice none 0 0]], []⟩ 8 (by kernel_rfl) (by kernel_rfl) (by kernel_rfl) (by kernel_rfl)) ?_
  intro W base args ds gs before hval0 hW hcnd hsz _
  have hval : ∀ (j : Nat) t v, Try.f3.params[j]? = some t → args[j]? = some v → Value.okWide Try.prog W .any base t v := hval0
  have hW' := hW
  obtain ⟨p, q, hA0, hV, rfl, hfz, hnd⟩ := hW
  have hA : DataW.TrodAll enc Try.prog W 0 (fun _ => true) true Try.f3.params.toList args.toList ds p := hA0
  rw [Try.params3] at hA hval
  obtain ⟨v0, vs0, d0, ds0, p0, q0, hargs, rfl, rfl, h0, s0⟩ := trodAll_cons hA
  obtain ⟨v1, vs1, d1, ds1, p1, q1, rfl, rfl, rfl, h1, s1⟩ := trodAll_cons s0
  obtain ⟨rfl, rfl, rfl⟩ := trodAll_nil s1
  obtain rfl : args = #[v0, v1] := by cases args; simp_all
  obtain ⟨rfl, rfl⟩ := trodVars_none hV
  obtain ⟨cs0, rfl, hf0, hct0⟩ := open_mix laid3 read3_24.2 Try.underlying24 leafc3_24 (hval 0 24 v0 rfl rfl) h0
  have hct0 := hct0 _ ctys3_24
  obtain ⟨a0_0, _, rfl, w0_0, g0_0⟩ := hf0.int
  obtain ⟨x0_1, _, rfl, hcell0_1, g0_1⟩ := g0_0.cell
  obtain rfl := g0_1.nil
  obtain ⟨u0_1, hu0_1, hok0_1⟩ := hct0 1 _ rfl
  cases hu0_1
  obtain ⟨l0_1, zs0_1, hwf0_1, hvr0_1, hrow0_1, hlen0_1⟩ := open_cisl laid3 Try.underlying22 elt3_2 Try.underlying2 elc3_2 hok0_1 hcell0_1
  have hsl0_1 := hlen0_1 (by rw [show Try.prog.bytesOf 2 = 8 by kernel_rfl]; decide) (fun n hn => by have := List.all_eq_true.1 hsz n (DataW.weights_mem_each (j := 0) (t := 24) rfl rfl n hn); simpa using this)
  obtain ⟨cs1, rfl, hf1, hct1⟩ := open_mix laid3 read3_24.2 Try.underlying24 leafc3_24 (hval 1 24 v1 rfl rfl) h1
  have hct1 := hct1 _ ctys3_24
  obtain ⟨a1_0, _, rfl, w1_0, g1_0⟩ := hf1.int
  obtain ⟨x1_1, _, rfl, hcell1_1, g1_1⟩ := g1_0.cell
  obtain rfl := g1_1.nil
  obtain ⟨u1_1, hu1_1, hok1_1⟩ := hct1 1 _ rfl
  cases hu1_1
  obtain ⟨l1_1, zs1_1, hwf1_1, hvr1_1, hrow1_1, hlen1_1⟩ := open_cisl laid3 Try.underlying22 elt3_2 Try.underlying2 elc3_2 hok1_1 hcell1_1
  have hsl1_1 := hlen1_1 (by rw [show Try.prog.bytesOf 2 = 8 by kernel_rfl]; decide) (fun n hn => by have := List.all_eq_true.1 hsz n (DataW.weights_mem_each (j := 1) (t := 24) rfl rfl n hn); simpa using this)
  refine (rows_run (bs := [(l0_1, zs0_1.map (AV.int .i64)), (l1_1, zs1_1.map (AV.int .i64))]) (f3 a0_0 a1_0 zs0_1 zs1_1 0 1 0 0 none none _ (Sl.whole (o := false) rfl) (Sl.whole (o := false) rfl) hwf0_1 hwf1_1 hsl0_1 hsl1_1) (by
    intro b hb
    simp only [List.mem_cons, List.not_mem_nil, or_false] at hb
    rcases hb with rfl | rfl
    · exact hrow0_1
    · exact hrow1_1
    ) (by
    exact (vrs_cons (vr_agg (vrs_cons (by simp [VR]) (vrs_cons (hvr0_1 _ 0 rfl) vrs_nil))) (vrs_cons (vr_agg (vrs_cons (by simp [VR]) (vrs_cons (hvr1_1 _ 1 rfl) vrs_nil))) vrs_nil))
    )).mono fun e W' ⟨he, hb⟩ => ?_
  subst he
  exact ⟨_, rfl, post_true laid3 hW' rfl hb (by
    rw [Try.params3]
    intro t ht
    simp only [List.mem_cons, List.not_mem_nil, or_false] at ht
    rcases ht with rfl | rfl
    · exact read3_24
    · exact read3_24
    ) rfl (t := 4) rfl Try.underlying4⟩

theorem frameApart : Rows.FrameApartSaid :=
  OpenClaim.holds_of_wide 3 Try.f3 rfl rfl rfl rfl rfl rfl rfl ⟨rfl, rfl, rfl, rfl, rfl⟩ rfl rfl rfl rfl rfl (by kernel_rfl) Try.func3 (by kernel_rfl)
    (of_decide_eq_true (by kernel_rfl)) (by unfold Func.isWrapper; first | (rw [if_pos (by decide +kernel)]; kernel_rfl) | (rw [if_neg (by decide +kernel)]; exact ⟨rfl, rfl⟩))
    (fun os started H enc _ => lifted3 os started H enc)
end Go.Proofs.Ytjibphejlmiocaa.Ah
