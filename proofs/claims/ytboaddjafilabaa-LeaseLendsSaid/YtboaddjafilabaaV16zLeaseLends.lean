/- V16zLeaseLends: a part of the proof: steps over abstract values, or contracts of functions. Conditions: none. -/
import Derived.Test.YtboaddjafilabaaV16g
import Derived.Test.YtboaddjafilabaaAh10
import Derived.Test.YtboaddjafilabaaProg
import Derived.Test.YtboaddjafilabaaRows
import Derived.KernelRfl
namespace Go.Proofs.Ytboaddjafilabaa.Ah
open Go Go.ChangeShapes Go.WideShapes Go.ChangeAt Go.RowKit Go.Proofs.Ytboaddjafilabaa
set_option linter.unusedVariables false
set_option linter.unusedSimpArgs false
theorem own4 : ownKnob Try.prog.godebug = none := by kernel_rfl
theorem laid4 : laidOutB Try.prog = true := by kernel_rfl
theorem read4_24 : Try.prog.readableRec 24 = true ∧ 24 < Try.prog.types.size := ⟨by kernel_rfl, of_decide_eq_true (by kernel_rfl)⟩
theorem read4_38 : Try.prog.readableRec 38 = true ∧ 38 < Try.prog.types.size := ⟨by kernel_rfl, of_decide_eq_true (by kernel_rfl)⟩
theorem leaf4_24 : leaf Try.prog 9 24 = some [.i .i64, .i .i64, .i .i64, .i .i64, .i .i64] := by kernel_rfl
theorem elt4_40 : 40 < Try.prog.types.size := of_decide_eq_true (by kernel_rfl)
theorem elc4_40 : Try.prog.cellsOf 40 = 3 := by kernel_rfl
theorem leaf4_40 : leaf Try.prog 9 40 = some [.i .i64, .b, .b] := by kernel_rfl
theorem acts_rows : ∀ (rows : List (List Value)), (∀ r ∈ rows, Fits [.i .i64, .b, .b] r) → ∃ l : List Act, l.length = rows.length ∧ ∀ M, VRs M (flat l) rows.flatten
  | [], _ => ⟨[], rfl, fun M => rfl⟩
  | r :: rows, h => by
    obtain ⟨l, h1, h2⟩ := acts_rows rows (fun r hr => h r (by simp [hr]))
    obtain ⟨n, _, rfl, _, g1⟩ := (h r (by simp)).int
    obtain ⟨m, _, rfl, g2⟩ := g1.bool
    obtain ⟨s, _, rfl, g3⟩ := g2.bool
    obtain rfl := g3.nil
    refine ⟨⟨n, m, s⟩ :: l, by simp [h1], fun M => ?_⟩
    simp only [flat, List.flatten_cons, List.cons_append, List.nil_append, VRs]
    exact ⟨_, _, rfl, rfl, _, _, rfl, rfl, _, _, rfl, rfl, h2 M⟩
set_option maxRecDepth 100000 in
theorem lifted4 (os : Os) (started : os.Started) (H : Type) (enc : TypeId × Value → H) :
    ReturnsInHanded {} Try.checked os 4 .any (Rows.leaseLendsSpec.pre6 enc Try.prog Try.f4 Rows.leaseLendsRow.domain false) (Rows.leaseLendsSpec.post enc Try.prog Try.f4 false true false false) := by
  refine returnsInHanded_of_change (C := Try.checked) own4 started (by kernel_rfl) Try.func4
    (ChangeSpec.witness6 (enc := enc) (C := Try.checked) false ⟨#[], #[.agg #[.int .i64 0, .int .i64 0, .int .i64 0, .int .i64 0, .int .i64 0], .slice none 0 0], []⟩ 8 (by kernel_rfl) (by kernel_rfl) (by kernel_rfl) (by kernel_rfl)) ?_
  intro W base args ds gs before hval0 hW hcnd _
  have hval : ∀ (j : Nat) t v, Try.f4.params[j]? = some t → args[j]? = some v → Value.okWide Try.prog W .any base t v := hval0
  have hW' := hW
  obtain ⟨p, q, hA0, hV, rfl, hfz, hnd⟩ := hW
  have hA : DataW.TrodAll enc Try.prog W 0 (fun _ => true) true Try.f4.params.toList args.toList ds p := hA0
  rw [Try.params4] at hA hval
  obtain ⟨v0, vs0, d0, ds0, p0, q0, hargs, rfl, rfl, h0, s0⟩ := trodAll_cons hA
  obtain ⟨v1, vs1, d1, ds1, p1, q1, rfl, rfl, rfl, h1, s1⟩ := trodAll_cons s0
  obtain ⟨rfl, rfl, rfl⟩ := trodAll_nil s1
  obtain rfl : args = #[v0, v1] := by cases args; simp_all
  obtain ⟨rfl, rfl⟩ := trodVars_none hV
  obtain ⟨cs0, rfl, hf0⟩ := open_struct laid4 read4_24.2 Try.underlying24 leaf4_24 (hval 0 24 v0 rfl rfl) h0
  obtain ⟨a0_0, _, rfl, w0_0, g0_0⟩ := hf0.int
  obtain ⟨a0_1, _, rfl, w0_1, g0_1⟩ := g0_0.int
  obtain ⟨a0_2, _, rfl, w0_2, g0_2⟩ := g0_1.int
  obtain ⟨a0_3, _, rfl, w0_3, g0_3⟩ := g0_2.int
  obtain ⟨a0_4, _, rfl, w0_4, g0_4⟩ := g0_3.int
  obtain rfl := g0_4.nil
  obtain ⟨l1, rows1, hrf1, hlen1, hvr1, hrow1⟩ := open_slice laid4 Try.underlying38 elt4_40 leaf4_40 elc4_40 (by decide) (hval 1 38 v1 rfl rfl) h1
  obtain ⟨acts, ha, hv⟩ := acts_rows rows1 hrf1
  replace hrow1 := row_of hrow1 hv
  rw [← ha] at hvr1 hlen1
  refine (rows_run (bs := [(l1, flat acts)]) (f4 a0_0 a0_1 a0_2 a0_3 a0_4 0 false acts _ (by rfl)) (by
    intro b hb
    simp only [List.mem_cons, List.not_mem_nil, or_false] at hb
    rcases hb with rfl
    · exact hrow1
    ) (by
    simp only [VRs, tms]
    refine ⟨_, _, rfl, ?_, _, _, rfl, ?_, rfl⟩
    · simp [VR, VRs, tms]
    · exact hvr1 _ 0 rfl
    )).mono fun e W' ⟨he, hb⟩ => ?_
  subst he
  exact ⟨_, rfl, post_true laid4 hW' rfl hb (by
    rw [Try.params4]
    intro t ht
    simp only [List.mem_cons, List.not_mem_nil, or_false] at ht
    rcases ht with rfl | rfl
    · exact read4_24
    · exact read4_38
    ) rfl (t := 4) rfl Try.underlying4⟩

theorem leaseLends : Rows.LeaseLendsSaid :=
  OpenClaim.holds_of_wide 4 Try.f4 rfl rfl rfl rfl rfl rfl rfl ⟨rfl, rfl, rfl, rfl, rfl⟩ rfl rfl rfl rfl rfl (by kernel_rfl) Try.func4 (by kernel_rfl)
    (of_decide_eq_true (by kernel_rfl)) (by unfold Func.isWrapper; first | (rw [if_pos (by decide +kernel)]; kernel_rfl) | (rw [if_neg (by decide +kernel)]; exact ⟨rfl, rfl⟩))
    (fun os started H enc _ => lifted4 os started H enc)
end Go.Proofs.Ytboaddjafilabaa.Ah
