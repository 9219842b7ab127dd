/- V10zNvramTwice: a part of the proof: contracts of functions, or plain laws. Conditions: none. -/
import Derived.Test.YtjibcbfdfambeaaV10y
import Derived.Test.YtjibcbfdfambeaaEb
import Derived.Test.YtjibcbfdfambeaaProg
import Derived.Test.YtjibcbfdfambeaaRows
import Derived.KernelRfl
namespace Go.Proofs.Ytjibcbfdfambeaa.Ah
open Go Go.ChangeShapes Go.WideShapes Go.ChangeAt Go.RowKit Go.Proofs.Ytjibcbfdfambeaa
set_option linter.unusedVariables false
set_option linter.unusedSimpArgs false
theorem own5 : ownKnob Try.prog.godebug = none := by kernel_rfl
theorem laid5 : laidOutB Try.prog = true := by kernel_rfl
theorem read5_41 : Try.prog.readableRec 41 = true ∧ 41 < Try.prog.types.size := ⟨by kernel_rfl, of_decide_eq_true (by kernel_rfl)⟩
theorem leafc5_41 : leafC Try.prog 9 41 = some [.c 22, .c 22, .c 22, .i .u8] := by kernel_rfl
theorem ctys5_41 : Try.prog.cellTypes Try.prog.depth 41 = some [22, 22, 22, 5] := by kernel_rfl
theorem elt5_2 : 2 < Try.prog.types.size := of_decide_eq_true (by kernel_rfl)
theorem elc5_2 : Try.prog.cellsOf 2 = 1 := by kernel_rfl
set_option maxRecDepth 100000 in
theorem lifted5 (os : Os) (started : os.Started) (H : Type) (enc : TypeId × Value → H) :
    ReturnsInHanded {} Try.checked os 5 .any (Rows.nvramTwiceSpec.pre6 enc Try.prog Try.f5 Rows.nvramTwiceRow.domain false) (Rows.nvramTwiceSpec.post enc Try.prog Try.f5 false true false false) := by
  refine returnsInHanded_of_change_sized (C := Try.checked) own5 started (by kernel_rfl) Try.func5
    (ChangeSpec.witness6 (enc := enc) (C := Try.checked) false ⟨#[], #[.agg #[.slice none 0 0, .slice none 0 0, .slice none 0 0, .int .u8 0]], []⟩ 8 (by kernel_rfl) (by kernel_rfl) (by kernel_rfl) (by kernel_rfl)) ?_
  intro W base args ds gs before hval0 hW hcnd hsz _
  have hval : ∀ (j : Nat) t v, Try.f5.params[j]? = some t → args[j]? = some v → Value.okWide Try.prog W .any base t v := hval0
  have hW' := hW
  obtain ⟨p, q, hA0, hV, rfl, hfz, hnd⟩ := hW
  have hA : DataW.TrodAll enc Try.prog W 0 (fun _ => true) true Try.f5.params.toList args.toList ds p := hA0
  rw [Try.params5] at hA hval
  obtain ⟨v0, vs0, d0, ds0, p0, q0, hargs, rfl, rfl, h0, s0⟩ := trodAll_cons hA
  obtain ⟨rfl, rfl, rfl⟩ := trodAll_nil s0
  obtain rfl : args = #[v0] := by cases args; simp_all
  obtain ⟨rfl, rfl⟩ := trodVars_none hV
  obtain ⟨cs0, rfl, hf0, hct0⟩ := open_mix laid5 read5_41.2 Try.underlying41 leafc5_41 (hval 0 41 v0 rfl rfl) h0
  have hct0 := hct0 _ ctys5_41
  obtain ⟨x0_0, _, rfl, hcell0_0, g0_0⟩ := hf0.cell
  obtain ⟨x0_1, _, rfl, hcell0_1, g0_1⟩ := g0_0.cell
  obtain ⟨x0_2, _, rfl, hcell0_2, g0_2⟩ := g0_1.cell
  obtain ⟨a0_3, _, rfl, w0_3, g0_3⟩ := g0_2.int
  obtain rfl := g0_3.nil
  obtain ⟨u0_0, hu0_0, hok0_0⟩ := hct0 0 _ rfl
  cases hu0_0
  obtain ⟨l0_0, zs0_0, hwf0_0, hvr0_0, hrow0_0, hlen0_0⟩ := open_cisl laid5 Try.underlying22 elt5_2 Try.underlying2 elc5_2 hok0_0 hcell0_0
  have hsl0_0 := hlen0_0 (by rw [show Try.prog.bytesOf 2 = 8 by kernel_rfl]; decide) (fun n hn => by have := List.all_eq_true.1 hsz n (DataW.weights_mem_each (j := 0) (t := 41) rfl rfl n hn); simpa using this)
  obtain ⟨u0_1, hu0_1, hok0_1⟩ := hct0 1 _ rfl
  cases hu0_1
  obtain ⟨l0_1, zs0_1, hwf0_1, hvr0_1, hrow0_1, hlen0_1⟩ := open_cisl laid5 Try.underlying22 elt5_2 Try.underlying2 elc5_2 hok0_1 hcell0_1
  have hsl0_1 := hlen0_1 (by rw [show Try.prog.bytesOf 2 = 8 by kernel_rfl]; decide) (fun n hn => by have := List.all_eq_true.1 hsz n (DataW.weights_mem_each (j := 0) (t := 41) rfl rfl n hn); simpa using this)
  obtain ⟨u0_2, hu0_2, hok0_2⟩ := hct0 2 _ rfl
  cases hu0_2
  obtain ⟨l0_2, zs0_2, hwf0_2, hvr0_2, hrow0_2, hlen0_2⟩ := open_cisl laid5 Try.underlying22 elt5_2 Try.underlying2 elc5_2 hok0_2 hcell0_2
  have hsl0_2 := hlen0_2 (by rw [show Try.prog.bytesOf 2 = 8 by kernel_rfl]; decide) (fun n hn => by have := List.all_eq_true.1 hsz n (DataW.weights_mem_each (j := 0) (t := 41) rfl rfl n hn); simpa using this)
  refine (rows_run (bs := [(l0_0, zs0_0.map (AV.int .i64)), (l0_1, zs0_1.map (AV.int .i64)), (l0_2, zs0_2.map (AV.int .i64))]) (f5 zs0_0 zs0_1 zs0_2 0 0 1 0 2 0 none none none a0_3 _ (Sl.whole (o := false) rfl) (Sl.whole (o := false) rfl) (Sl.whole (o := false) rfl) hsl0_0 hsl0_1 hsl0_2 (by have h := w0_3; simp [Lit.wf, IntKind.min, IntKind.max, IntKind.signed, IntKind.bits] at h; omega)) (by
    intro b hb
    simp only [List.mem_cons, List.not_mem_nil, or_false] at hb
    rcases hb with rfl | rfl | rfl
    · exact hrow0_0
    · exact hrow0_1
    · exact hrow0_2
    ) (by
    exact (vrs_cons (vr_agg (vrs_cons (hvr0_0 _ 0 rfl) (vrs_cons (hvr0_1 _ 1 rfl) (vrs_cons (hvr0_2 _ 2 rfl) (vrs_cons (by simp [VR]) vrs_nil))))) vrs_nil)
    )).mono fun e W' ⟨he, hb⟩ => ?_
  subst he
  exact ⟨_, rfl, post_true laid5 hW' rfl hb (by
    rw [Try.params5]
    intro t ht
    simp only [List.mem_cons, List.not_mem_nil, or_false] at ht
    rcases ht with rfl
    · exact read5_41
    ) rfl (t := 4) rfl Try.underlying4⟩

theorem nvramTwice : Rows.NvramTwiceSaid :=
  OpenClaim.holds_of_wide 5 Try.f5 rfl rfl rfl rfl rfl rfl rfl ⟨rfl, rfl, rfl, rfl, rfl⟩ rfl rfl rfl rfl rfl (by kernel_rfl) Try.func5 (by kernel_rfl)
    (of_decide_eq_true (by kernel_rfl)) (by unfold Func.isWrapper; first | (rw [if_pos (by decide +kernel)]; kernel_rfl) | (rw [if_neg (by decide +kernel)]; exact ⟨rfl, rfl⟩))
    (fun os started H enc _ => lifted5 os started H enc)
end Go.Proofs.Ytjibcbfdfambeaa.Ah
