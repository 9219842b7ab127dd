/- V08zFrameWords: a part of the proof: contracts of functions, or plain laws. Conditions: none. -/
import Derived.Test.YtjibphejlmiocaaV08o
import Derived.Test.YtjibphejlmiocaaEb
import Derived.Test.YtjibphejlmiocaaProg
import Derived.Test.YtjibphejlmiocaaRows
import Derived.KernelRfl
namespace Go.Proofs.Ytjibphejlmiocaa.Ah
open Go Go.ChangeShapes Go.WideShapes Go.ChangeAt Go.RowKit Go.Proofs.Ytjibphejlmiocaa
set_option linter.unusedVariables false
set_option linter.unusedSimpArgs false
theorem own5 : ownKnob Try.prog.godebug = none := by kernel_rfl
theorem laid5 : laidOutB Try.prog = true := by kernel_rfl
theorem read5_22 : Try.prog.readableRec 22 = true ∧ 22 < Try.prog.types.size := ⟨by kernel_rfl, of_decide_eq_true (by kernel_rfl)⟩
theorem read5_36 : Try.prog.readableRec 36 = true ∧ 36 < Try.prog.types.size := ⟨by kernel_rfl, of_decide_eq_true (by kernel_rfl)⟩
theorem leaf5_36 : leaf Try.prog 9 36 = some [.b, .i .i64, .i .i64, .i .i64, .i .i64, .i .i64, .i .i64, .b, .i .i64, .b, .i .i64, .i .i64, .i .i64] := by kernel_rfl
theorem elt5_2 : 2 < Try.prog.types.size := of_decide_eq_true (by kernel_rfl)
theorem elc5_2 : Try.prog.cellsOf 2 = 1 := by kernel_rfl
set_option maxRecDepth 100000 in
theorem lifted5 (os : Os) (started : os.Started) (H : Type) (enc : TypeId × Value → H) :
    ReturnsInHanded {} Try.checked os 5 .any (Rows.frameWordsSpec.pre6 enc Try.prog Try.f5 Rows.frameWordsRow.domain false) (Rows.frameWordsSpec.post enc Try.prog Try.f5 false true false false) := by
  refine returnsInHanded_of_change_sized (C := Try.checked) own5 started (by kernel_rfl) Try.func5
    (ChangeSpec.witness6 (enc := enc) (C := Try.checked) false ⟨#[], #[.agg #[.bool false, .int .i64 0, .int .i64 0, .int .i64 0, .int .i64 0, .int .i64 0, .int .i64 0, .bool false, .int .i64 0, .bool false, .int .i64 0, .int .i64 0, .int .i64 0], .slice none 0 0], []⟩ 8 (by kernel_rfl) (by kernel_rfl) (by kernel_rfl) (by kernel_rfl)) ?_
  intro W base args ds gs before hval0 hW hcnd hsz _
  have hval : ∀ (j : Nat) t v, Try.f5.params[j]? = some t → args[j]? = some v → Value.okWide Try.prog W .any base t v := hval0
  have hW' := hW
  obtain ⟨p, q, hA0, hV, rfl, hfz, hnd⟩ := hW
  have hA : DataW.TrodAll enc Try.prog W 0 (fun _ => true) true Try.f5.params.toList args.toList ds p := hA0
  rw [Try.params5] at hA hval
  obtain ⟨v0, vs0, d0, ds0, p0, q0, hargs, rfl, rfl, h0, s0⟩ := trodAll_cons hA
  obtain ⟨v1, vs1, d1, ds1, p1, q1, rfl, rfl, rfl, h1, s1⟩ := trodAll_cons s0
  obtain ⟨rfl, rfl, rfl⟩ := trodAll_nil s1
  obtain rfl : args = #[v0, v1] := by cases args; simp_all
  obtain ⟨rfl, rfl⟩ := trodVars_none hV
  obtain ⟨cs0, rfl, hf0⟩ := open_struct laid5 read5_36.2 Try.underlying36 leaf5_36 (hval 0 36 v0 rfl rfl) h0
  obtain ⟨a0_0, _, rfl, g0_0⟩ := hf0.bool
  obtain ⟨a0_1, _, rfl, w0_1, g0_1⟩ := g0_0.int
  obtain ⟨a0_2, _, rfl, w0_2, g0_2⟩ := g0_1.int
  obtain ⟨a0_3, _, rfl, w0_3, g0_3⟩ := g0_2.int
  obtain ⟨a0_4, _, rfl, w0_4, g0_4⟩ := g0_3.int
  obtain ⟨a0_5, _, rfl, w0_5, g0_5⟩ := g0_4.int
  obtain ⟨a0_6, _, rfl, w0_6, g0_6⟩ := g0_5.int
  obtain ⟨a0_7, _, rfl, g0_7⟩ := g0_6.bool
  obtain ⟨a0_8, _, rfl, w0_8, g0_8⟩ := g0_7.int
  obtain ⟨a0_9, _, rfl, g0_9⟩ := g0_8.bool
  obtain ⟨a0_10, _, rfl, w0_10, g0_10⟩ := g0_9.int
  obtain ⟨a0_11, _, rfl, w0_11, g0_11⟩ := g0_10.int
  obtain ⟨a0_12, _, rfl, w0_12, g0_12⟩ := g0_11.int
  obtain rfl := g0_12.nil
  obtain ⟨l1, zs1, hlen1, hwf1, hvr1, hrow1, hsd1⟩ := open_isl laid5 Try.underlying22 elt5_2 Try.underlying2 elc5_2 (hval 1 22 v1 rfl rfl) h1
  have hsl1 := sized_len (P := Try.prog) hsz (j := 1) (t := 22) (e := 2) rfl rfl Try.underlying22 (by rw [show Try.prog.bytesOf 2 = 8 by kernel_rfl]; decide) hsd1
  refine (rows_run (bs := [(l1, zs1.map (AV.int .i64))]) (f5 ⟨a0_0, a0_1, a0_2, a0_3, a0_4, a0_5, a0_6, a0_7, a0_8, a0_9, a0_10, a0_11, a0_12⟩ zs1 0 0 none _ (Sl.whole (o := false) rfl) hsl1) (by
    intro b hb
    simp only [List.mem_cons, List.not_mem_nil, or_false] at hb
    rcases hb with rfl
    · exact hrow1
    ) (by
    exact (vrs_cons (by simp [VR, VRs, Smp.av]) (vrs_cons (hvr1 _ 0 rfl) vrs_nil))
    )).mono fun e W' ⟨he, hb⟩ => ?_
  subst he
  exact ⟨_, rfl, post_true laid5 hW' rfl hb (by
    rw [Try.params5]
    intro t ht
    simp only [List.mem_cons, List.not_mem_nil, or_false] at ht
    rcases ht with rfl | rfl
    · exact read5_36
    · exact read5_22
    ) rfl (t := 4) rfl Try.underlying4⟩

theorem frameWords : Rows.FrameWordsSaid :=
  OpenClaim.holds_of_wide 5 Try.f5 rfl rfl rfl rfl rfl rfl rfl ⟨rfl, rfl, rfl, rfl, rfl⟩ rfl rfl rfl rfl rfl (by kernel_rfl) Try.func5 (by kernel_rfl)
    (of_decide_eq_true (by kernel_rfl)) (by unfold Func.isWrapper; first | (rw [if_pos (by decide +kernel)]; kernel_rfl) | (rw [if_neg (by decide +kernel)]; exact ⟨rfl, rfl⟩))
    (fun os started H enc _ => lifted5 os started H enc)
end Go.Proofs.Ytjibphejlmiocaa.Ah
