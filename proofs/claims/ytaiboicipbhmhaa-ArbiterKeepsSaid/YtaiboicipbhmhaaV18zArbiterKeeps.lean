/- V18zArbiterKeeps: a part of the proof: contracts of functions, or plain laws. Conditions: none. -/
import Derived.Test.YtaiboicipbhmhaaVf
import Derived.Test.YtaiboicipbhmhaaEc
import Derived.Test.YtaiboicipbhmhaaProg
import Derived.Test.YtaiboicipbhmhaaRows
import Derived.KernelRfl
namespace Go.Proofs.Ytaiboicipbhmhaa.Ah
open Go Go.ChangeShapes Go.WideShapes Go.ChangeAt Go.RowKit Go.Proofs.Ytaiboicipbhmhaa
set_option linter.unusedVariables false
set_option linter.unusedSimpArgs false
theorem own7 : ownKnob Try.prog.godebug = none := by kernel_rfl
theorem laid7 : laidOutB Try.prog = true := by kernel_rfl
theorem read7_24 : Try.prog.readableRec 24 = true ∧ 24 < Try.prog.types.size := ⟨by kernel_rfl, of_decide_eq_true (by kernel_rfl)⟩
theorem read7_58 : Try.prog.readableRec 58 = true ∧ 58 < Try.prog.types.size := ⟨by kernel_rfl, of_decide_eq_true (by kernel_rfl)⟩
theorem leaf7_24 : leaf Try.prog 9 24 = some [.i .i64, .i .i64, .i .i64, .i .i64, .i .i64] := by kernel_rfl
theorem elt7_64 : 64 < Try.prog.types.size := of_decide_eq_true (by kernel_rfl)
theorem elc7_64 : Try.prog.cellsOf 64 = 5 := by kernel_rfl
theorem elc7_2 : Try.prog.cellsOf 2 = 1 := by kernel_rfl
theorem leafc7_64 : leafC Try.prog 9 64 = some [.i .i64, .i .i64, .c 25, .i .i64, .i .i64] := by kernel_rfl
set_option maxRecDepth 100000 in
theorem lifted7 (os : Os) (started : os.Started) (H : Type) (enc : TypeId × Value → H) :
    ReturnsInHanded {} Try.checked os 7 .any (Rows.arbiterKeepsSpec.pre6 enc Try.prog Try.f7 Rows.arbiterKeepsRow.domain false) (Rows.arbiterKeepsSpec.post enc Try.prog Try.f7 false true false false) := by
  refine returnsInHanded_of_change (C := Try.checked) own7 started (by kernel_rfl) Try.func7
    (ChangeSpec.witness6 (enc := enc) (C := Try.checked) false ⟨#[], #[.agg #[.int .i64 0, .int .i64 0, .int .i64 0, .int .i64 0, .int .i64 0], .slice none 0 0], []⟩ 8 (by kernel_rfl) (by kernel_rfl) (by kernel_rfl) (by kernel_rfl)) ?_
  intro W base args ds gs before hval0 hW hcnd _
  have hval : ∀ (j : Nat) t v, Try.f7.params[j]? = some t → args[j]? = some v → Value.okWide Try.prog W .any base t v := hval0
  have hW' := hW
  obtain ⟨p, q, hA0, hV, rfl, hfz, hnd⟩ := hW
  have hA : DataW.TrodAll enc Try.prog W 0 (fun _ => true) true Try.f7.params.toList args.toList ds p := hA0
  rw [Try.params7] at hA hval
  obtain ⟨v0, vs0, d0, ds0, p0, q0, hargs, rfl, rfl, h0, s0⟩ := trodAll_cons hA
  obtain ⟨v1, vs1, d1, ds1, p1, q1, rfl, rfl, rfl, h1, s1⟩ := trodAll_cons s0
  obtain ⟨rfl, rfl, rfl⟩ := trodAll_nil s1
  obtain rfl : args = #[v0, v1] := by cases args; simp_all
  obtain ⟨rfl, rfl⟩ := trodVars_none hV
  obtain ⟨cs0, rfl, hf0⟩ := open_struct laid7 read7_24.2 Try.underlying24 leaf7_24 (hval 0 24 v0 rfl rfl) h0
  obtain ⟨a0_0, _, rfl, w0_0, g0_0⟩ := hf0.int
  obtain ⟨a0_1, _, rfl, w0_1, g0_1⟩ := g0_0.int
  obtain ⟨a0_2, _, rfl, w0_2, g0_2⟩ := g0_1.int
  obtain ⟨a0_3, _, rfl, w0_3, g0_3⟩ := g0_2.int
  obtain ⟨a0_4, _, rfl, w0_4, g0_4⟩ := g0_3.int
  obtain rfl := g0_4.nil
  obtain ⟨ad, le, ca, rfl⟩ := okWide_slice Try.underlying58 (hval 1 58 v1 rfl rfl)
  obtain ⟨fuel, hf⟩ := h1
  have hf1 : DataW.trod enc Try.prog W 0 (fun _ => true) true fuel 58 [.slice ad le ca] = some _ := hf
  obtain ⟨l1, rows1, hrf1, -, hvr1, hrow1⟩ := open_rows (Q := FitsC (CellQ enc Try.prog W true) [.i .i64, .i .i64, .c 25, .i .i64, .i .i64]) Try.underlying58 elc7_64 (by decide) (fun cs' n z h => (leafC_fits laid7 9 64 _ cs' n z elt7_64 leafc7_64 h).mono (fun t v ⟨fuel, d, ps, h1, _⟩ => ⟨fuel, _, h1⟩)) hf1
  obtain ⟨ps, hp1, hp2, hp3, hp4⟩ := acts_of Try.underlying25 Try.underlying2 elc7_2 rows1 1 (fun r hr => (hrf1 r hr).1)
  have hM : ∀ (i : Nat) x, ps[i]? = some x → ((((l1, flatA (ps.map (·.1))) :: ps.map fun x => (x.2, x.1.ns.map (AV.int .i64)))[1 + i]?).map (·.1)) = some x.2 := by
    intro i x hx
    rw [Nat.add_comm, List.getElem?_cons_succ, List.getElem?_map, hx]
    rfl
  have hvs := hp4 (fun i => (((l1, flatA (ps.map (·.1))) :: ps.map fun x => (x.2, x.1.ns.map (AV.int .i64)))[i]?).map (·.1)) hM
  refine (rows_runM (bs := (l1, flatA (ps.map (·.1))) :: ps.map fun x => (x.2, x.1.ns.map (AV.int .i64))) (f7 ⟨a0_0, a0_1, a0_2, a0_3, a0_4⟩ 0 none false (ps.map (·.1)) _ rfl (by
    intro x hx
    obtain ⟨y, hy, rfl⟩ := List.mem_map.1 hx
    obtain ⟨i, hi⟩ := List.getElem?_of_mem hy
    rw [hp2 i y hi]
    refine Sl.whole (o := false) ?_
    unfold blkAt
    rw [List.getElem?_map, Nat.add_comm, List.getElem?_cons_succ, List.getElem?_map, hi]
    rfl)) (by
    intro b hb
    rcases List.mem_cons.1 hb with rfl | hb
    · refine hrow1 _ _ (hvs.length).symm fun j u x hu hx => ?_
      obtain ⟨y, hy, hr⟩ := hvs.get j u hu
      rw [hx] at hy
      cases hy
      exact hr
    · obtain ⟨x, hx, rfl⟩ := List.mem_map.1 hb
      exact hp3 x hx _
    ) (by
    have h2 := hvr1 (fun i => (((l1, flatA (ps.map (·.1))) :: ps.map fun x => (x.2, x.1.ns.map (AV.int .i64)))[i]?).map (·.1)) 0 rfl
    rw [← hp1, ← List.length_map (f := fun x : Act × Loc => x.1)] at h2
    exact (vrs_cons (by simp [VR, VRs, Tm.av]) (vrs_cons h2 vrs_nil))
    )).mono fun e W' ⟨he, hb⟩ => ?_
  subst he
  exact ⟨_, rfl, post_true laid7 hW' rfl hb (by
    rw [Try.params7]
    intro t ht
    simp only [List.mem_cons, List.not_mem_nil, or_false] at ht
    rcases ht with rfl | rfl
    · exact read7_24
    · exact read7_58
    ) rfl (t := 4) rfl Try.underlying4⟩
theorem arbiterKeeps : Rows.ArbiterKeepsSaid :=
  OpenClaim.holds_of_wide 7 Try.f7 rfl rfl rfl rfl rfl rfl rfl ⟨rfl, rfl, rfl, rfl, rfl⟩ rfl rfl rfl rfl rfl (by kernel_rfl) Try.func7 (by kernel_rfl)
    (of_decide_eq_true (by kernel_rfl)) (by unfold Func.isWrapper; first | (rw [if_pos (by decide +kernel)]; kernel_rfl) | (rw [if_neg (by decide +kernel)]; exact ⟨rfl, rfl⟩))
    (fun os started H enc _ => lifted7 os started H enc)
end Go.Proofs.Ytaiboicipbhmhaa.Ah
