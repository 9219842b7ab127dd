/- Ah7: a part of the proof: steps over abstract values, or contracts of functions. Conditions: none. -/
import Derived.Test.YtlohehkagaabfaaAh6
import Derived.IntWalk
namespace Go.Proofs.Ytlohehkagaabfaa.Ah
open Go

theorem blkAt_app (H G : Heap) (k : Nat) : blkAt (H ++ G) (H.length + k) = blkAt G k := by
  unfold blkAt
  rw [List.getElem?_append_right (by omega)]
  congr 2
  omega
theorem blkAt_app0 (H G : Heap) : blkAt (H ++ G) H.length = blkAt G 0 := blkAt_app H G 0
theorem blkAt_zero (x : Option Blk) (G : Heap) : blkAt (x :: G) 0 = x := rfl
theorem blkAt_succ (x : Option Blk) (G : Heap) (k : Nat) : blkAt (x :: G) (k + 1) = blkAt G k := rfl
theorem blkAt_lo {H : Heap} {p : Nat} (G : Heap) (h : p < H.length) : blkAt (H ++ G) p = blkAt H p := by
  unfold blkAt
  rw [List.getElem?_append_left h]
theorem set_app (H G : Heap) (k : Nat) (x : Option Blk) : (H ++ G).set (H.length + k) x = H ++ G.set k x := by
  rw [List.set_append_right _ _ (by omega)]
  congr 2
  omega
theorem set_app0 (H G : Heap) (x : Option Blk) : (H ++ G).set H.length x = H ++ G.set 0 x := set_app H G 0 x
theorem i64_in (n : Int) (h : -9223372036854775808 ≤ n ∧ n ≤ 9223372036854775807) : IntKind.i64.wrap n = n := IntWalk.i64_in n h
theorem u64_in (n : Int) (h : 0 ≤ n ∧ n ≤ 18446744073709551615) : IntKind.u64.wrap n = n := IntWalk.u64_in n h
theorem u32_in (n : Int) (h : 0 ≤ n ∧ n ≤ 4294967295) : IntKind.u32.wrap n = n := IntWalk.u32_in n h
theorem u16_in (n : Int) (h : 0 ≤ n ∧ n ≤ 65535) : IntKind.u16.wrap n = n := IntWalk.u16_in n h
theorem u8_in (n : Int) (h : 0 ≤ n ∧ n ≤ 255) : IntKind.u8.wrap n = n := IntWalk.u8_in n h
theorem i32_in (n : Int) (h : -2147483648 ≤ n ∧ n ≤ 2147483647) : IntKind.i32.wrap n = n := IntWalk.i32_in n h
def imin (a b : Int) : Int := if b < a then b else a
def imax (a b : Int) : Int := if b > a then b else a
theorem imin_eq (a b : Int) : (if b < a then b else a) = imin a b := rfl
theorem imax_eq (a b : Int) : (if b > a then b else a) = imax a b := rfl
theorem cast0 : ((0 : Nat) : Int) = 0 := rfl
theorem cast1 : ((1 : Nat) : Int) = 1 := rfl
theorem cast2 : ((2 : Nat) : Int) = 2 := rfl
theorem cast3 : ((3 : Nat) : Int) = 3 := rfl
/-- One block of what was made is left. -/
theorem fin_one {H : Heap} {rs : List SR} {v vf : AV} {e : Ex} {T : Env} {Hf : Heap} (G : Heap) (k : Nat) (c : List AV) (he : e = .normal ∨ e = .ret) (hG : Hf = H ++ G) (hk : G[k]? = some (some ⟨c, true⟩)) (hc : AV.unds H.length c) (hr : resVal T Hf rs = some vf)
    (hv : vf = v.ren (fun i => if i < H.length then i else H.length + k)) (hb : v.und (H.length + 1)) : Fin H rs v (H ++ [some ⟨c, true⟩]) e T Hf := by
  subst hG
  have hlow : ∀ i, i < H.length → (fun i => if i < H.length then i else H.length + k) i = i := fun i hi => by simp [hi]
  refine ⟨he, vf, (fun i => if i < H.length then i else H.length + k), hr, hlow, fun i j hi hj hij => ?_, by simp, fun i b' hi => ?_, hv, by simpa using hb⟩
  · simp only [List.length_append, List.length_cons, List.length_nil] at hi hj
    split at hij <;> split at hij <;> omega
  · rcases Nat.lt_or_ge i H.length with h | h
    · rw [List.getElem?_append_left h] at hi
      exact .inl ⟨h, hi, by rw [List.getElem?_append_left h]; exact hi⟩
    · rw [List.getElem?_append_right h] at hi
      have : i = H.length := by
        rcases Nat.eq_or_lt_of_le h with h2 | h2
        · exact h2.symm
        · rw [List.getElem?_eq_none (by simp; omega)] at hi; cases hi
      subst this
      simp at hi
      subst hi
      refine .inr ⟨⟨c, true⟩, ?_, (AV.rens_id hlow _ hc).symm, id, AV.unds_mono (by simp) _ hc⟩
      simp only [Nat.lt_irrefl, if_false]
      rw [List.getElem?_append_right (by omega)]
      rw [show H.length + k - H.length = k by omega]
      exact hk

theorem fin_b {H : Heap} {rs : List SR} {X Y : Bool} {e : Ex} {T : Env} {Hf : Heap} (G : Heap) (hG : Hf = H ++ G) (he : e = .normal ∨ e = .ret) (hr : resVal T Hf rs = some (.bool X)) (hx : X = Y) : Fin H rs (.bool Y) H e T Hf := by
  subst hx
  exact fin_same he G hG hr trivial
theorem fin_i {H : Heap} {rs : List SR} {k : IntKind} {X Y : Int} {e : Ex} {T : Env} {Hf : Heap} (G : Heap) (hG : Hf = H ++ G) (he : e = .normal ∨ e = .ret) (hr : resVal T Hf rs = some (.int k X)) (hx : X = Y) : Fin H rs (.int k Y) H e T Hf := by
  subst hx
  exact fin_same he G hG hr trivial
/-- A result told in part by what it is. -/
theorem fin_v {H : Heap} {rs : List SR} {v v' : AV} {e : Ex} {T : Env} {Hf : Heap} (G : Heap) (hG : Hf = H ++ G) (he : e = .normal ∨ e = .ret) (hr : resVal T Hf rs = some v') (hv : v'.und H.length) (hx : v' = v) : Fin H rs v H e T Hf := by
  subst hx
  exact fin_same he G hG hr hv

def vec (a b c : Int) : AV := .agg [.int .i64 a, .int .i64 b, .int .i64 c]
end Go.Proofs.Ytlohehkagaabfaa.Ah
