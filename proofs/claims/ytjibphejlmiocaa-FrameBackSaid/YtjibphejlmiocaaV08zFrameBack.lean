/- V08zFrameBack: a part of the proof: contracts of functions, or plain laws. Conditions: none. -/
import Derived.Test.YtjibphejlmiocaaV08x
import Derived.Test.YtjibphejlmiocaaEb
import Derived.Test.YtjibphejlmiocaaProg
import Derived.Test.YtjibphejlmiocaaRows
import Derived.KernelRfl
namespace Go.Proofs.Ytjibphejlmiocaa.Ah
open Go Go.ChangeShapes Go.WideShapes Go.ChangeAt Go.RowKit Go.Proofs.Ytjibphejlmiocaa
set_option linter.unusedVariables false
set_option linter.unusedSimpArgs false
theorem own9 : ownKnob Try.prog.godebug = none := by kernel_rfl
theorem laid9 : laidOutB Try.prog = true := by kernel_rfl
theorem read9_24 : Try.prog.readableRec 24 = true ∧ 24 < Try.prog.types.size := ⟨by kernel_rfl, of_decide_eq_true (by kernel_rfl)⟩
theorem read9_27 : Try.prog.readableRec 27 = true ∧ 27 < Try.prog.types.size := ⟨by kernel_rfl, of_decide_eq_true (by kernel_rfl)⟩
theorem read9_36 : Try.prog.readableRec 36 = true ∧ 36 < Try.prog.types.size := ⟨by kernel_rfl, of_decide_eq_true (by kernel_rfl)⟩
theorem leaf9_36 : leaf Try.prog 9 36 = some [.b, .i .i64, .i .i64, .i .i64, .i .i64, .i .i64, .i .i64, .b, .i .i64, .b, .i .i64, .i .i64, .i .i64] := by kernel_rfl
theorem elt9_5 : 5 < Try.prog.types.size := of_decide_eq_true (by kernel_rfl)
theorem elc9_5 : Try.prog.cellsOf 5 = 1 := by kernel_rfl
theorem leafc9_24 : leafC Try.prog 9 24 = some [.i .i64, .c 22] := by kernel_rfl
theorem ctys9_24 : Try.prog.cellTypes Try.prog.depth 24 = some [3, 22] := by kernel_rfl
theorem elt9_2 : 2 < Try.prog.types.size := of_decide_eq_true (by kernel_rfl)
theorem elc9_2 : Try.prog.cellsOf 2 = 1 := by kernel_rfl
set_option maxRecDepth 100000 in
theorem lifted9 (os : Os) (started : os.Started) (H : Type) (enc : TypeId × Value → H) :
    ReturnsInHanded {} Try.checked os 9 .any (Rows.frameBackSpec.pre6 enc Try.prog Try.f9 Rows.frameBackRow.domain false) (Rows.frameBackSpec.post enc Try.prog Try.f9 false true false false) := by
  refine returnsInHanded_of_change_sized (C := Try.checked) own9 started (by kernel_rfl) Try.func9
    (ChangeSpec.witness6 (enc := enc) (C := Try.checked) false ⟨#[], #[.agg #[.int .i64 0, .slice none 0 0], .agg #[.bool false, .int .i64 0, .int .i64 0, .int .i64 0, .int .i64 0, .int .i64 0, .int .i64 0, .bool false, .int .i64 0, .bool false, .int .i64 0, .int .i64 0, .int .i64 0], .slice none 0 0], []⟩ 8 (by kernel_rfl) (by kernel_rfl) (by kernel_rfl) (by kernel_rfl)) ?_
  intro W base args ds gs before hval0 hW hcnd hsz _
  have hval : ∀ (j : Nat) t v, Try.f9.params[j]? = some t → args[j]? = some v → Value.okWide Try.prog W .any base t v := hval0
  have hW' := hW
  obtain ⟨p, q, hA0, hV, rfl, hfz, hnd⟩ := hW
  have hA : DataW.TrodAll enc Try.prog W 0 (fun _ => true) true Try.f9.params.toList args.toList ds p := hA0
  rw [Try.params9] at hA hval
  obtain ⟨v0, vs0, d0, ds0, p0, q0, hargs, rfl, rfl, h0, s0⟩ := trodAll_cons hA
  obtain ⟨v1, vs1, d1, ds1, p1, q1, rfl, rfl, rfl, h1, s1⟩ := trodAll_cons s0
  obtain ⟨v2, vs2, d2, ds2, p2, q2, rfl, rfl, rfl, h2, s2⟩ := trodAll_cons s1
  obtain ⟨rfl, rfl, rfl⟩ := trodAll_nil s2
  obtain rfl : args = #[v0, v1, v2] := by cases args; simp_all
  obtain ⟨rfl, rfl⟩ := trodVars_none hV
  obtain ⟨cs1, rfl, hf1⟩ := open_struct laid9 read9_36.2 Try.underlying36 leaf9_36 (hval 1 36 v1 rfl rfl) h1
  obtain ⟨a1_0, _, rfl, g1_0⟩ := hf1.bool
  obtain ⟨a1_1, _, rfl, w1_1, g1_1⟩ := g1_0.int
  obtain ⟨a1_2, _, rfl, w1_2, g1_2⟩ := g1_1.int
  obtain ⟨a1_3, _, rfl, w1_3, g1_3⟩ := g1_2.int
  obtain ⟨a1_4, _, rfl, w1_4, g1_4⟩ := g1_3.int
  obtain ⟨a1_5, _, rfl, w1_5, g1_5⟩ := g1_4.int
  obtain ⟨a1_6, _, rfl, w1_6, g1_6⟩ := g1_5.int
  obtain ⟨a1_7, _, rfl, g1_7⟩ := g1_6.bool
  obtain ⟨a1_8, _, rfl, w1_8, g1_8⟩ := g1_7.int
  obtain ⟨a1_9, _, rfl, g1_9⟩ := g1_8.bool
  obtain ⟨a1_10, _, rfl, w1_10, g1_10⟩ := g1_9.int
  obtain ⟨a1_11, _, rfl, w1_11, g1_11⟩ := g1_10.int
  obtain ⟨a1_12, _, rfl, w1_12, g1_12⟩ := g1_11.int
  obtain rfl := g1_12.nil
  obtain ⟨l2, zs2, hlen2, hwf2, hvr2, hrow2, hsd2⟩ := open_isl laid9 Try.underlying27 elt9_5 Try.underlying5 elc9_5 (hval 2 27 v2 rfl rfl) h2
  obtain ⟨cs0, rfl, hf0, hct0⟩ := open_mix laid9 read9_24.2 Try.underlying24 leafc9_24 (hval 0 24 v0 rfl rfl) h0
  have hct0 := hct0 _ ctys9_24
  obtain ⟨a0_0, _, rfl, w0_0, g0_0⟩ := hf0.int
  obtain ⟨x0_1, _, rfl, hcell0_1, g0_1⟩ := g0_0.cell
  obtain rfl := g0_1.nil
  obtain ⟨u0_1, hu0_1, hok0_1⟩ := hct0 1 _ rfl
  cases hu0_1
  obtain ⟨l0_1, zs0_1, hwf0_1, hvr0_1, hrow0_1, hlen0_1⟩ := open_cisl laid9 Try.underlying22 elt9_2 Try.underlying2 elc9_2 hok0_1 hcell0_1
  have hsl0_1 := hlen0_1 (by rw [show Try.prog.bytesOf 2 = 8 by kernel_rfl]; decide) (fun n hn => by have := List.all_eq_true.1 hsz n (DataW.weights_mem_each (j := 0) (t := 24) rfl rfl n hn); simpa using this)
  have hsl2 := sized_len (P := Try.prog) hsz (j := 2) (t := 27) (e := 5) rfl rfl Try.underlying27 (by rw [show Try.prog.bytesOf 5 = 1 by kernel_rfl]; decide) hsd2
  obtain ⟨ns2, rfl⟩ := nats_of zs2 (fun z hz => (wf_u8 (hwf2 z hz)).1)
  have hby2 : By ns2 := fun x hx => by have := (wf_u8 (hwf2 (x : Int) (List.mem_map.2 ⟨x, hx, rfl⟩))).2; omega
  have hm2 : ((ns2.map (fun n : Nat => (n : Int))).map (AV.int .u8)) = ns2.map u8 := by rw [List.map_map]; rfl
  rw [hm2] at hrow2
  rw [List.length_map] at hvr2 hlen2 hsl2
  refine (rows_run (bs := [(l0_1, zs0_1.map (AV.int .i64)), (l2, ns2.map u8)]) (f9 a0_0 zs0_1 ⟨a1_0, a1_1, a1_2, a1_3, a1_4, a1_5, a1_6, a1_7, a1_8, a1_9, a1_10, a1_11, a1_12⟩ ns2 0 0 1 0 none none _ (Sl.whole (o := false) rfl) (Sl.whole (o := false) rfl) hwf0_1 hby2 hsl0_1 hsl2) (by
    intro b hb
    simp only [List.mem_cons, List.not_mem_nil, or_false] at hb
    rcases hb with rfl | rfl
    · exact hrow0_1
    · exact hrow2
    ) (by
    exact (vrs_cons (vr_agg (vrs_cons (by simp [VR]) (vrs_cons (hvr0_1 _ 0 rfl) vrs_nil))) (vrs_cons (by simp [VR, VRs, Smp.av]) (vrs_cons (hvr2 _ 1 rfl) vrs_nil)))
    )).mono fun e W' ⟨he, hb⟩ => ?_
  subst he
  exact ⟨_, rfl, post_true laid9 hW' rfl hb (by
    rw [Try.params9]
    intro t ht
    simp only [List.mem_cons, List.not_mem_nil, or_false] at ht
    rcases ht with rfl | rfl | rfl
    · exact read9_24
    · exact read9_36
    · exact read9_27
    ) rfl (t := 4) rfl Try.underlying4⟩

theorem frameBack : Rows.FrameBackSaid :=
  OpenClaim.holds_of_wide 9 Try.f9 rfl rfl rfl rfl rfl rfl rfl ⟨rfl, rfl, rfl, rfl, rfl⟩ rfl rfl rfl rfl rfl (by kernel_rfl) Try.func9 (by kernel_rfl)
    (of_decide_eq_true (by kernel_rfl)) (by unfold Func.isWrapper; first | (rw [if_pos (by decide +kernel)]; kernel_rfl) | (rw [if_neg (by decide +kernel)]; exact ⟨rfl, rfl⟩))
    (fun os started H enc _ => lifted9 os started H enc)
end Go.Proofs.Ytjibphejlmiocaa.Ah
