/- V08zFrameBursts: a part of the proof: contracts of functions, or plain laws. Conditions: none. -/
import Derived.Test.YtjibphejlmiocaaV08G
import Derived.Test.YtjibphejlmiocaaEb
import Derived.Test.YtjibphejlmiocaaProg
import Derived.Test.YtjibphejlmiocaaRows
import Derived.KernelRfl
namespace Go.Proofs.Ytjibphejlmiocaa.Ah
open Go Go.ChangeShapes Go.WideShapes Go.ChangeAt Go.RowKit Go.Proofs.Ytjibphejlmiocaa
set_option linter.unusedVariables false
set_option linter.unusedSimpArgs false
theorem own6 : ownKnob Try.prog.godebug = none := by kernel_rfl
theorem laid6 : laidOutB Try.prog = true := by kernel_rfl
theorem read6_3 : Try.prog.readableRec 3 = true ∧ 3 < Try.prog.types.size := ⟨by kernel_rfl, of_decide_eq_true (by kernel_rfl)⟩
theorem read6_24 : Try.prog.readableRec 24 = true ∧ 24 < Try.prog.types.size := ⟨by kernel_rfl, of_decide_eq_true (by kernel_rfl)⟩
theorem read6_45 : Try.prog.readableRec 45 = true ∧ 45 < Try.prog.types.size := ⟨by kernel_rfl, of_decide_eq_true (by kernel_rfl)⟩
theorem leaf6_45 : leaf Try.prog 9 45 = some [.i .u8, .i .u8, .i .u8, .i .u8] := by kernel_rfl
theorem leafc6_24 : leafC Try.prog 9 24 = some [.i .i64, .c 22] := by kernel_rfl
theorem ctys6_24 : Try.prog.cellTypes Try.prog.depth 24 = some [3, 22] := by kernel_rfl
theorem elt6_2 : 2 < Try.prog.types.size := of_decide_eq_true (by kernel_rfl)
theorem elc6_2 : Try.prog.cellsOf 2 = 1 := by kernel_rfl
set_option maxRecDepth 100000 in
theorem lifted6 (os : Os) (started : os.Started) (H : Type) (enc : TypeId × Value → H) :
    ReturnsInHanded {} Try.checked os 6 .any (Rows.frameBurstsSpec.pre6 enc Try.prog Try.f6 Rows.frameBurstsRow.domain false) (Rows.frameBurstsSpec.post enc Try.prog Try.f6 false true false false) := by
  refine returnsInHanded_of_change_sized (C := Try.checked) own6 started (by kernel_rfl) Try.func6
    (ChangeSpec.witness6 (enc := enc) (C := Try.checked) false ⟨#[], #[.agg #[.int .i64 0, .slice none 0 0], .int .i64 0, .agg #[.int .u8 0, .int .u8 0, .int .u8 0, .int .u8 0]], []⟩ 8 (by kernel_rfl) (by kernel_rfl) (by kernel_rfl) (by kernel_rfl)) ?_
  intro W base args ds gs before hval0 hW hcnd hsz _
  have hval : ∀ (j : Nat) t v, Try.f6.params[j]? = some t → args[j]? = some v → Value.okWide Try.prog W .any base t v := hval0
  have hW' := hW
  obtain ⟨p, q, hA0, hV, rfl, hfz, hnd⟩ := hW
  have hA : DataW.TrodAll enc Try.prog W 0 (fun _ => true) true Try.f6.params.toList args.toList ds p := hA0
  rw [Try.params6] at hA hval
  obtain ⟨v0, vs0, d0, ds0, p0, q0, hargs, rfl, rfl, h0, s0⟩ := trodAll_cons hA
  obtain ⟨v1, vs1, d1, ds1, p1, q1, rfl, rfl, rfl, h1, s1⟩ := trodAll_cons s0
  obtain ⟨v2, vs2, d2, ds2, p2, q2, rfl, rfl, rfl, h2, s2⟩ := trodAll_cons s1
  obtain ⟨rfl, rfl, rfl⟩ := trodAll_nil s2
  obtain rfl : args = #[v0, v1, v2] := by cases args; simp_all
  obtain ⟨rfl, rfl⟩ := trodVars_none hV
  obtain ⟨n1, rfl, rfl, rfl, w1⟩ := open_int Try.underlying3 (hval 1 3 v1 rfl rfl) h1
  obtain ⟨cs2, rfl, hf2⟩ := open_arr laid6 read6_45.2 Try.underlying45 leaf6_45 (hval 2 45 v2 rfl rfl) h2
  obtain ⟨a2_0, _, rfl, w2_0, g2_0⟩ := hf2.int
  obtain ⟨a2_1, _, rfl, w2_1, g2_1⟩ := g2_0.int
  obtain ⟨a2_2, _, rfl, w2_2, g2_2⟩ := g2_1.int
  obtain ⟨a2_3, _, rfl, w2_3, g2_3⟩ := g2_2.int
  obtain rfl := g2_3.nil
  obtain ⟨cs0, rfl, hf0, hct0⟩ := open_mix laid6 read6_24.2 Try.underlying24 leafc6_24 (hval 0 24 v0 rfl rfl) h0
  have hct0 := hct0 _ ctys6_24
  obtain ⟨a0_0, _, rfl, w0_0, g0_0⟩ := hf0.int
  obtain ⟨x0_1, _, rfl, hcell0_1, g0_1⟩ := g0_0.cell
  obtain rfl := g0_1.nil
  obtain ⟨u0_1, hu0_1, hok0_1⟩ := hct0 1 _ rfl
  cases hu0_1
  obtain ⟨l0_1, zs0_1, hwf0_1, hvr0_1, hrow0_1, hlen0_1⟩ := open_cisl laid6 Try.underlying22 elt6_2 Try.underlying2 elc6_2 hok0_1 hcell0_1
  have hsl0_1 := hlen0_1 (by rw [show Try.prog.bytesOf 2 = 8 by kernel_rfl]; decide) (fun n hn => by have := List.all_eq_true.1 hsz n (DataW.weights_mem_each (j := 0) (t := 24) rfl rfl n hn); simpa using this)
  obtain ⟨y0, rfl⟩ : ∃ y : Nat, a2_0 = y := ⟨a2_0.toNat, by have := (wf_u8 w2_0).1; omega⟩
  have hy0 := (wf_u8 w2_0).2
  obtain ⟨y1, rfl⟩ : ∃ y : Nat, a2_1 = y := ⟨a2_1.toNat, by have := (wf_u8 w2_1).1; omega⟩
  have hy1 := (wf_u8 w2_1).2
  obtain ⟨y2, rfl⟩ : ∃ y : Nat, a2_2 = y := ⟨a2_2.toNat, by have := (wf_u8 w2_2).1; omega⟩
  have hy2 := (wf_u8 w2_2).2
  obtain ⟨y3, rfl⟩ : ∃ y : Nat, a2_3 = y := ⟨a2_3.toNat, by have := (wf_u8 w2_3).1; omega⟩
  have hy3 := (wf_u8 w2_3).2
  have hbb : By [y0, y1, y2, y3] := by unfold By; intro x hx; simp at hx; omega
  refine (rows_run (bs := [(l0_1, zs0_1.map (AV.int .i64))]) (f6 a0_0 zs0_1 n1 y0 y1 y2 y3 0 0 none _ (Sl.whole (o := false) rfl) hwf0_1 hbb hsl0_1) (by
    intro b hb
    simp only [List.mem_cons, List.not_mem_nil, or_false] at hb
    rcases hb with rfl
    · exact hrow0_1
    ) (by
    exact (vrs_cons (vr_agg (vrs_cons (by simp [VR]) (vrs_cons (hvr0_1 _ 0 rfl) vrs_nil))) (vrs_cons (by simp [VR, VRs]) (vrs_cons (by simp [VR, VRs]) vrs_nil)))
    )).mono fun e W' ⟨he, hb⟩ => ?_
  subst he
  exact ⟨_, rfl, post_true laid6 hW' rfl hb (by
    rw [Try.params6]
    intro t ht
    simp only [List.mem_cons, List.not_mem_nil, or_false] at ht
    rcases ht with rfl | rfl | rfl
    · exact read6_24
    · exact read6_3
    · exact read6_45
    ) rfl (t := 4) rfl Try.underlying4⟩

theorem frameBursts : Rows.FrameBurstsSaid :=
  OpenClaim.holds_of_wide 6 Try.f6 rfl rfl rfl rfl rfl rfl rfl ⟨rfl, rfl, rfl, rfl, rfl⟩ rfl rfl rfl rfl rfl (by kernel_rfl) Try.func6 (by kernel_rfl)
    (of_decide_eq_true (by kernel_rfl)) (by unfold Func.isWrapper; first | (rw [if_pos (by decide +kernel)]; kernel_rfl) | (rw [if_neg (by decide +kernel)]; exact ⟨rfl, rfl⟩))
    (fun os started H enc _ => lifted6 os started H enc)
end Go.Proofs.Ytjibphejlmiocaa.Ah
