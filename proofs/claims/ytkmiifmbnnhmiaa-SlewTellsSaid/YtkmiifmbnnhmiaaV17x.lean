/- V17x: a part of the proof: steps over abstract values, or contracts of functions. Conditions: none. -/
import Derived.Test.YtkmiifmbnnhmiaaAh7
import Derived.Test.YtkmiifmbnnhmiaaAh8
import Derived.Test.YtkmiifmbnnhmiaaProg
import Derived.KernelRfl
import Derived.Test.YtkmiifmbnnhmiaaAh8
import Derived.Test.YtkmiifmbnnhmiaaRows
namespace Go.Proofs.Ytkmiifmbnnhmiaa.Ah
open Go Go.ChangeShapes Go.WideShapes Go.ChangeAt Go.RowKit Go.Proofs.Ytkmiifmbnnhmiaa
theorem own : ownKnob Try.prog.godebug = none := by kernel_rfl
theorem laid : laidOutB Try.prog = true := by kernel_rfl
theorem cells22 : Try.prog.cellsOf 22 = 1 := by kernel_rfl
theorem cells24 : Try.prog.cellsOf 24 = 3 := by kernel_rfl
theorem read24 : Try.prog.readableRec 24 = true ∧ 24 < Try.prog.types.size := ⟨by kernel_rfl, of_decide_eq_true (by kernel_rfl)⟩
theorem read22 : Try.prog.readableRec 22 = true ∧ 22 < Try.prog.types.size := ⟨by kernel_rfl, of_decide_eq_true (by kernel_rfl)⟩
theorem vr_vec (x y z : Int) : VR (fun _ => none) (vec x y z) (.agg #[.int .i64 x, .int .i64 y, .int .i64 z]) := by
  unfold vec
  simp only [VR, VRs]
  exact ⟨_, rfl, _, _, rfl, rfl, _, _, rfl, rfl, _, _, rfl, rfl, rfl⟩
theorem reads3 : ∀ t ∈ ([24, 24, 22] : List TypeId), Try.prog.readableRec t = true ∧ t < Try.prog.types.size := by
  intro t ht
  simp only [List.mem_cons, List.not_mem_nil, or_false] at ht
  rcases ht with rfl | rfl | rfl
  · exact read24
  · exact read24
  · exact read22

end Go.Proofs.Ytkmiifmbnnhmiaa.Ah
