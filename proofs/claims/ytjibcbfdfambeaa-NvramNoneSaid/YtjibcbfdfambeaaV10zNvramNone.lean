/- V10zNvramNone: a part of the proof: contracts of functions, or plain laws. Conditions: none. -/
import Derived.Test.YtjibcbfdfambeaaV10x
import Derived.Test.YtjibcbfdfambeaaEb
import Derived.Test.YtjibcbfdfambeaaProg
import Derived.Test.YtjibcbfdfambeaaRows
import Derived.KernelRfl
namespace Go.Proofs.Ytjibcbfdfambeaa.Ah
open Go Go.ChangeShapes Go.WideShapes Go.ChangeAt Go.RowKit Go.Proofs.Ytjibcbfdfambeaa
set_option linter.unusedVariables false
set_option linter.unusedSimpArgs false
theorem own9 : ownKnob Try.prog.godebug = none := by kernel_rfl
theorem laid9 : laidOutB Try.prog = true := by kernel_rfl
theorem read9_22 : Try.prog.readableRec 22 = true ∧ 22 < Try.prog.types.size := ⟨by kernel_rfl, of_decide_eq_true (by kernel_rfl)⟩
theorem read9_27 : Try.prog.readableRec 27 = true ∧ 27 < Try.prog.types.size := ⟨by kernel_rfl, of_decide_eq_true (by kernel_rfl)⟩
theorem elt9_2 : 2 < Try.prog.types.size := of_decide_eq_true (by kernel_rfl)
theorem elc9_2 : Try.prog.cellsOf 2 = 1 := by kernel_rfl
theorem leafc9_27 : leafC Try.prog 9 27 = some [.c 22, .i .i64, .c 22, .i .i64] := by kernel_rfl
theorem ctys9_27 : Try.prog.cellTypes Try.prog.depth 27 = some [22, 2, 22, 2] := by kernel_rfl
set_option maxRecDepth 100000 in
theorem lifted9 (os : Os) (started : os.Started) (H : Type) (enc : TypeId × Value → H) :
    ReturnsInHanded {} Try.checked os 9 .any (Rows.nvramNoneSpec.pre6 enc Try.prog Try.f9 Rows.nvramNoneRow.domain false) (Rows.nvramNoneSpec.post enc Try.prog Try.f9 false true false false) := by
  refine returnsInHanded_of_change_sized (C := Try.checked) own9 started (by kernel_rfl) Try.func9
    (ChangeSpec.witness6 (enc := enc) (C := Try.checked) false ⟨#[], #[.agg #[.slice none 0 0, .int .i64 0, .slice none 0 0, .int .i64 0], .slice none 0 0], []⟩ 8 (by kernel_rfl) (by kernel_rfl) (by kernel_rfl) (by kernel_rfl)) ?_
  intro W base args ds gs before hval0 hW hcnd hsz _
  have hval : ∀ (j : Nat) t v, Try.f9.params[j]? = some t → args[j]? = some v → Value.okWide Try.prog W .any base t v := hval0
  have hW' := hW
  obtain ⟨p, q, hA0, hV, rfl, hfz, hnd⟩ := hW
  have hA : DataW.TrodAll enc Try.prog W 0 (fun _ => true) true Try.f9.params.toList args.toList ds p := hA0
  rw [Try.params9] at hA hval
  obtain ⟨v0, vs0, d0, ds0, p0, q0, hargs, rfl, rfl, h0, s0⟩ := trodAll_cons hA
  obtain ⟨v1, vs1, d1, ds1, p1, q1, rfl, rfl, rfl, h1, s1⟩ := trodAll_cons s0
  obtain ⟨rfl, rfl, rfl⟩ := trodAll_nil s1
  obtain rfl : args = #[v0, v1] := by cases args; simp_all
  obtain ⟨rfl, rfl⟩ := trodVars_none hV
  obtain ⟨l1, zs1, hlen1, hwf1, hvr1, hrow1, hsd1⟩ := open_isl laid9 Try.underlying22 elt9_2 Try.underlying2 elc9_2 (hval 1 22 v1 rfl rfl) h1
  obtain ⟨cs0, rfl, hf0, hct0⟩ := open_mix laid9 read9_27.2 Try.underlying27 leafc9_27 (hval 0 27 v0 rfl rfl) h0
  have hct0 := hct0 _ ctys9_27
  obtain ⟨x0_0, _, rfl, hcell0_0, g0_0⟩ := hf0.cell
  obtain ⟨a0_1, _, rfl, w0_1, g0_1⟩ := g0_0.int
  obtain ⟨x0_2, _, rfl, hcell0_2, g0_2⟩ := g0_1.cell
  obtain ⟨a0_3, _, rfl, w0_3, g0_3⟩ := g0_2.int
  obtain rfl := g0_3.nil
  obtain ⟨u0_0, hu0_0, hok0_0⟩ := hct0 0 _ rfl
  cases hu0_0
  obtain ⟨l0_0, zs0_0, hwf0_0, hvr0_0, hrow0_0, hlen0_0⟩ := open_cisl laid9 Try.underlying22 elt9_2 Try.underlying2 elc9_2 hok0_0 hcell0_0
  have hsl0_0 := hlen0_0 (by rw [show Try.prog.bytesOf 2 = 8 by kernel_rfl]; decide) (fun n hn => by have := List.all_eq_true.1 hsz n (DataW.weights_mem_each (j := 0) (t := 27) rfl rfl n hn); simpa using this)
  obtain ⟨u0_2, hu0_2, hok0_2⟩ := hct0 2 _ rfl
  cases hu0_2
  obtain ⟨l0_2, zs0_2, hwf0_2, hvr0_2, hrow0_2, hlen0_2⟩ := open_cisl laid9 Try.underlying22 elt9_2 Try.underlying2 elc9_2 hok0_2 hcell0_2
  have hsl0_2 := hlen0_2 (by rw [show Try.prog.bytesOf 2 = 8 by kernel_rfl]; decide) (fun n hn => by have := List.all_eq_true.1 hsz n (DataW.weights_mem_each (j := 0) (t := 27) rfl rfl n hn); simpa using this)
  have hsl1 := sized_len (P := Try.prog) hsz (j := 1) (t := 22) (e := 2) rfl rfl Try.underlying22 (by rw [show Try.prog.bytesOf 2 = 8 by kernel_rfl]; decide) hsd1
  refine (rows_run (bs := [(l0_0, zs0_0.map (AV.int .i64)), (l0_2, zs0_2.map (AV.int .i64)), (l1, zs1.map (AV.int .i64))]) (f9 ⟨0, 0, none, zs0_0, a0_1, 1, 0, none, zs0_2, a0_3⟩ zs1 2 0 none _ (Sl.whole (o := false) rfl) (Sl.whole (o := false) rfl) (Sl.whole (o := false) rfl) hsl0_0 hsl0_2 hsl1) (by
    intro b hb
    simp only [List.mem_cons, List.not_mem_nil, or_false] at hb
    rcases hb with rfl | rfl | rfl
    · exact hrow0_0
    · exact hrow0_2
    · exact hrow1
    ) (by
    exact (vrs_cons (vr_agg (vrs_cons (hvr0_0 _ 0 rfl) (vrs_cons (by simp [VR]) (vrs_cons (hvr0_2 _ 1 rfl) (vrs_cons (by simp [VR]) vrs_nil))))) (vrs_cons (hvr1 _ 2 rfl) vrs_nil))
    )).mono fun e W' ⟨he, hb⟩ => ?_
  subst he
  exact ⟨_, rfl, post_true laid9 hW' rfl hb (by
    rw [Try.params9]
    intro t ht
    simp only [List.mem_cons, List.not_mem_nil, or_false] at ht
    rcases ht with rfl | rfl
    · exact read9_27
    · exact read9_22
    ) rfl (t := 4) rfl Try.underlying4⟩

theorem nvramNone : Rows.NvramNoneSaid :=
  OpenClaim.holds_of_wide 9 Try.f9 rfl rfl rfl rfl rfl rfl rfl ⟨rfl, rfl, rfl, rfl, rfl⟩ rfl rfl rfl rfl rfl (by kernel_rfl) Try.func9 (by kernel_rfl)
    (of_decide_eq_true (by kernel_rfl)) (by unfold Func.isWrapper; first | (rw [if_pos (by decide +kernel)]; kernel_rfl) | (rw [if_neg (by decide +kernel)]; exact ⟨rfl, rfl⟩))
    (fun os started H enc _ => lifted9 os started H enc)
end Go.Proofs.Ytjibcbfdfambeaa.Ah
