/- V08zFrameBytes: a part of the proof: contracts of functions, or plain laws. Conditions: none. -/
import Derived.Test.YtjibphejlmiocaaV08B
import Derived.Test.YtjibphejlmiocaaEb
import Derived.Test.YtjibphejlmiocaaProg
import Derived.Test.YtjibphejlmiocaaRows
import Derived.KernelRfl
namespace Go.Proofs.Ytjibphejlmiocaa.Ah
open Go Go.ChangeShapes Go.WideShapes Go.ChangeAt Go.RowKit Go.Proofs.Ytjibphejlmiocaa
set_option linter.unusedVariables false
set_option linter.unusedSimpArgs false
theorem own8 : ownKnob Try.prog.godebug = none := by kernel_rfl
theorem laid8 : laidOutB Try.prog = true := by kernel_rfl
theorem read8_24 : Try.prog.readableRec 24 = true ∧ 24 < Try.prog.types.size := ⟨by kernel_rfl, of_decide_eq_true (by kernel_rfl)⟩
theorem read8_27 : Try.prog.readableRec 27 = true ∧ 27 < Try.prog.types.size := ⟨by kernel_rfl, of_decide_eq_true (by kernel_rfl)⟩
theorem elt8_5 : 5 < Try.prog.types.size := of_decide_eq_true (by kernel_rfl)
theorem elc8_5 : Try.prog.cellsOf 5 = 1 := by kernel_rfl
theorem leafc8_24 : leafC Try.prog 9 24 = some [.i .i64, .c 22] := by kernel_rfl
theorem ctys8_24 : Try.prog.cellTypes Try.prog.depth 24 = some [3, 22] := by kernel_rfl
theorem elt8_2 : 2 < Try.prog.types.size := of_decide_eq_true (by kernel_rfl)
theorem elc8_2 : Try.prog.cellsOf 2 = 1 := by kernel_rfl
set_option maxRecDepth 100000 in
theorem lifted8 (os : Os) (started : os.Started) (H : Type) (enc : TypeId × Value → H) :
    ReturnsInHanded {} Try.checked os 8 .any (Rows.frameBytesSpec.pre6 enc Try.prog Try.f8 Rows.frameBytesRow.domain false) (Rows.frameBytesSpec.post enc Try.prog Try.f8 false true false false) := by
  refine returnsInHanded_of_change_sized (C := Try.checked) own8 started (by kernel_rfl) Try.func8
    (ChangeSpec.witness6 (enc := enc) (C := Try.checked) false ⟨#[], #[.agg #[.int .i64 0, .slice none 0 0], .agg #[.int .i64 0, .slice none 0 0], .slice none 0 0], []⟩ 8 (by kernel_rfl) (by kernel_rfl) (by kernel_rfl) (by kernel_rfl)) ?_
  intro W base args ds gs before hval0 hW hcnd hsz _
  have hval : ∀ (j : Nat) t v, Try.f8.params[j]? = some t → args[j]? = some v → Value.okWide Try.prog W .any base t v := hval0
  have hW' := hW
  obtain ⟨p, q, hA0, hV, rfl, hfz, hnd⟩ := hW
  have hA : DataW.TrodAll enc Try.prog W 0 (fun _ => true) true Try.f8.params.toList args.toList ds p := hA0
  rw [Try.params8] at hA hval
  obtain ⟨v0, vs0, d0, ds0, p0, q0, hargs, rfl, rfl, h0, s0⟩ := trodAll_cons hA
  obtain ⟨v1, vs1, d1, ds1, p1, q1, rfl, rfl, rfl, h1, s1⟩ := trodAll_cons s0
  obtain ⟨v2, vs2, d2, ds2, p2, q2, rfl, rfl, rfl, h2, s2⟩ := trodAll_cons s1
  obtain ⟨rfl, rfl, rfl⟩ := trodAll_nil s2
  obtain rfl : args = #[v0, v1, v2] := by cases args; simp_all
  obtain ⟨rfl, rfl⟩ := trodVars_none hV
  obtain ⟨l2, zs2, hlen2, hwf2, hvr2, hrow2, hsd2⟩ := open_isl laid8 Try.underlying27 elt8_5 Try.underlying5 elc8_5 (hval 2 27 v2 rfl rfl) h2
  obtain ⟨cs0, rfl, hf0, hct0⟩ := open_mix laid8 read8_24.2 Try.underlying24 leafc8_24 (hval 0 24 v0 rfl rfl) h0
  have hct0 := hct0 _ ctys8_24
  obtain ⟨a0_0, _, rfl, w0_0, g0_0⟩ := hf0.int
  obtain ⟨x0_1, _, rfl, hcell0_1, g0_1⟩ := g0_0.cell
  obtain rfl := g0_1.nil
  obtain ⟨u0_1, hu0_1, hok0_1⟩ := hct0 1 _ rfl
  cases hu0_1
  obtain ⟨l0_1, zs0_1, hwf0_1, hvr0_1, hrow0_1, hlen0_1⟩ := open_cisl laid8 Try.underlying22 elt8_2 Try.underlying2 elc8_2 hok0_1 hcell0_1
  have hsl0_1 := hlen0_1 (by rw [show Try.prog.bytesOf 2 = 8 by kernel_rfl]; decide) (fun n hn => by have := List.all_eq_true.1 hsz n (DataW.weights_mem_each (j := 0) (t := 24) rfl rfl n hn); simpa using this)
  obtain ⟨cs1, rfl, hf1, hct1⟩ := open_mix laid8 read8_24.2 Try.underlying24 leafc8_24 (hval 1 24 v1 rfl rfl) h1
  have hct1 := hct1 _ ctys8_24
  obtain ⟨a1_0, _, rfl, w1_0, g1_0⟩ := hf1.int
  obtain ⟨x1_1, _, rfl, hcell1_1, g1_1⟩ := g1_0.cell
  obtain rfl := g1_1.nil
  obtain ⟨u1_1, hu1_1, hok1_1⟩ := hct1 1 _ rfl
  cases hu1_1
  obtain ⟨l1_1, zs1_1, hwf1_1, hvr1_1, hrow1_1, hlen1_1⟩ := open_cisl laid8 Try.underlying22 elt8_2 Try.underlying2 elc8_2 hok1_1 hcell1_1
  have hsl1_1 := hlen1_1 (by rw [show Try.prog.bytesOf 2 = 8 by kernel_rfl]; decide) (fun n hn => by have := List.all_eq_true.1 hsz n (DataW.weights_mem_each (j := 1) (t := 24) rfl rfl n hn); simpa using this)
  have hsl2 := sized_len (P := Try.prog) hsz (j := 2) (t := 27) (e := 5) rfl rfl Try.underlying27 (by rw [show Try.prog.bytesOf 5 = 1 by kernel_rfl]; decide) hsd2
  obtain ⟨ns2, rfl⟩ := nats_of zs2 (fun z hz => (wf_u8 (hwf2 z hz)).1)
  have hby2 : By ns2 := fun x hx => by have := (wf_u8 (hwf2 (x : Int) (List.mem_map.2 ⟨x, hx, rfl⟩))).2; omega
  have hm2 : ((ns2.map (fun n : Nat => (n : Int))).map (AV.int .u8)) = ns2.map u8 := by rw [List.map_map]; rfl
  rw [hm2] at hrow2
  rw [List.length_map] at hvr2 hlen2 hsl2
  refine (rows_run (bs := [(l0_1, zs0_1.map (AV.int .i64)), (l1_1, zs1_1.map (AV.int .i64)), (l2, ns2.map u8)]) (f8 a0_0 a1_0 zs0_1 zs1_1 ns2 0 0 1 0 2 0 none none none _ (Sl.whole (o := false) rfl) (Sl.whole (o := false) rfl) (Sl.whole (o := false) rfl) hby2 hsl0_1 hsl1_1 hsl2) (by
    intro b hb
    simp only [List.mem_cons, List.not_mem_nil, or_false] at hb
    rcases hb with rfl | rfl | rfl
    · exact hrow0_1
    · exact hrow1_1
    · exact hrow2
    ) (by
    exact (vrs_cons (vr_agg (vrs_cons (by simp [VR]) (vrs_cons (hvr0_1 _ 0 rfl) vrs_nil))) (vrs_cons (vr_agg (vrs_cons (by simp [VR]) (vrs_cons (hvr1_1 _ 1 rfl) vrs_nil))) (vrs_cons (hvr2 _ 2 rfl) vrs_nil)))
    )).mono fun e W' ⟨he, hb⟩ => ?_
  subst he
  exact ⟨_, rfl, post_true laid8 hW' rfl hb (by
    rw [Try.params8]
    intro t ht
    simp only [List.mem_cons, List.not_mem_nil, or_false] at ht
    rcases ht with rfl | rfl | rfl
    · exact read8_24
    · exact read8_24
    · exact read8_27
    ) rfl (t := 4) rfl Try.underlying4⟩

theorem frameBytes : Rows.FrameBytesSaid :=
  OpenClaim.holds_of_wide 8 Try.f8 rfl rfl rfl rfl rfl rfl rfl ⟨rfl, rfl, rfl, rfl, rfl⟩ rfl rfl rfl rfl rfl (by kernel_rfl) Try.func8 (by kernel_rfl)
    (of_decide_eq_true (by kernel_rfl)) (by unfold Func.isWrapper; first | (rw [if_pos (by decide +kernel)]; kernel_rfl) | (rw [if_neg (by decide +kernel)]; exact ⟨rfl, rfl⟩))
    (fun os started H enc _ => lifted8 os started H enc)
end Go.Proofs.Ytjibphejlmiocaa.Ah
