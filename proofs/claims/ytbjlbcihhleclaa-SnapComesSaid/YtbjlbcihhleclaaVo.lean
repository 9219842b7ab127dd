/- Vo: a part of the proof: contracts of functions, or plain laws. Conditions: none. -/
import Derived.Test.YtbjlbcihhleclaaVn
namespace Go.Proofs.Ytbjlbcihhleclaa.Ah
open Go Go.WideShapes
set_option maxHeartbeats 4000000
set_option linter.unusedSimpArgs false
set_option linter.unusedVariables false
/-! The law SnapComes: a part that comes. -/
def cn (A : Nat → Bool) : Nat → Nat
  | 0 => 0
  | n + 1 => cn A n + (if A n then 1 else 0)
theorem cn_le (A : Nat → Bool) : ∀ n, cn A n ≤ n
  | 0 => Nat.le_refl _
  | n + 1 => by
    have := cn_le A n
    rw [cn]
    split <;> omega
theorem cn_all (A : Nat → Bool) : ∀ n, cn A n = n ↔ ∀ j, j < n → A j = true
  | 0 => by simp [cn]
  | n + 1 => by
    have h1 := cn_le A n
    have h2 := cn_all A n
    rw [cn]
    constructor
    · intro h j hj
      have hn : A n = true := by
        cases ha : A n with
        | true => rfl
        | false => rw [ha] at h; simp at h; omega
      rw [hn] at h
      simp at h
      rcases Nat.lt_or_ge j n with h3 | h3
      · exact h2.1 h j h3
      · obtain rfl : j = n := by omega
        exact hn
    · intro h
      rw [h n (by omega), h2.2 fun j hj => h j (by omega)]
      rfl
theorem cn_step (A : Nat → Bool) (k : Nat) : ∀ n, cn (fun j => A j || decide (j = k)) n = cn A n + (if k < n ∧ A k = false then 1 else 0)
  | 0 => by simp [cn]
  | n + 1 => by
    have ih := cn_step A k n
    rw [cn, cn, ih]
    by_cases e : n = k
    · subst e
      rw [if_neg (by omega)]
      cases A n <;> simp
    · have e2 : ¬ k = n := fun x => e x.symm
      have e3 : (k < n + 1) ↔ (k < n) := by omega
      simp only [e, decide_false, Bool.or_false, e3]
      omega
def hb (A : Nat → Bool) : List AV := [.bool (A 0), .bool (A 1), .bool (A 2), .bool (A 3), .bool (A 4)]
theorem hb_get (A : Nat → Bool) {k : Nat} (hk : k < 5) : (hb A)[k]? = some (.bool (A k)) := by
  match k, hk with
  | 0, _ => rfl
  | 1, _ => rfl
  | 2, _ => rfl
  | 3, _ => rfl
  | 4, _ => rfl
theorem hb_set (A : Nat → Bool) {k : Nat} (hk : k < 5) : List.take k (hb A) ++ AV.bool true :: List.drop (k + 1) (hb A) = hb (fun j => A j || decide (j = k)) := by
  match k, hk with
  | 0, _ => simp [hb]
  | 1, _ => simp [hb]
  | 2, _ => simp [hb]
  | 3, _ => simp [hb]
  | 4, _ => simp [hb]
structure CI (H : Heap) (b3 b4 b5 b11 b12 q n : Nat) (y0 y1 y2 y3 y4 y5 a b c : Int) (e : Es) (A : Nat → Bool) (s : Sn) (X : Heap) : Prop where
  h3 : blkAt X b3 = some ⟨[.int .i64 y0, .int .i64 y1, .int .i64 y2, .int .i64 y3, .int .i64 y4, .int .i64 y5], true⟩
  h4 : blkAt X b4 = some ⟨e.av, true⟩
  h5 : blkAt X b5 = some ⟨[.int .i64 a, .int .i64 b, .int .i64 c, .int .i64 ((dlt e).length : Int)], true⟩
  hq : blkAt X q = some ⟨(pc (dlt e) n).map (AV.int .i64), true⟩
  h11 : blkAt X b11 = some ⟨s.av, true⟩
  h12 : blkAt X b12 = some ⟨hb A, true⟩
  got : Got a b c (dlt e) n A s
  ext : Ext H X
theorem CI.next {H : Heap} {b3 b4 b5 b11 b12 q n : Nat} {y0 y1 y2 y3 y4 y5 a b c : Int} {e : Es} {A A' : Nat → Bool} {s s' : Sn} {X : Heap} (h : CI H b3 b4 b5 b11 b12 q n y0 y1 y2 y3 y4 y5 a b c e A s X) (hg : Got a b c (dlt e) n A' s')
    (n3 : b3 < b11 ∧ b4 < b11 ∧ b5 < b11 ∧ q < b11 ∧ b11 < b12) (hH : H.length ≤ b11) : CI H b3 b4 b5 b11 b12 q n y0 y1 y2 y3 y4 y5 a b c e A' s' ((X.set b11 (some ⟨s'.av, true⟩)).set b12 (some ⟨hb A', true⟩)) := by
  obtain ⟨m3, m4, m5, mq, m12⟩ := n3
  have l11 := blkAt_lt h.h11
  have l12 := blkAt_lt h.h12
  have lo : ∀ (b : Nat) (k : Blk), b < b11 → blkAt X b = some k → blkAt ((X.set b11 (some ⟨s'.av, true⟩)).set b12 (some ⟨hb A', true⟩)) b = some k := fun b k hlt hb => by
    rw [blkAt_set_ne (by omega), blkAt_set_ne (by omega)]
    exact hb
  exact ⟨lo _ _ m3 h.h3, lo _ _ m4 h.h4, lo _ _ m5 h.h5, lo _ _ mq h.hq, by rw [blkAt_set_ne (by omega), blkAt_set_self l11], by rw [blkAt_set_self (by rw [List.length_set]; exact l12)], hg, (h.ext.set hH _).set (by omega) _⟩
theorem CI.grow {H : Heap} {b3 b4 b5 b11 b12 q n : Nat} {y0 y1 y2 y3 y4 y5 a b c : Int} {e : Es} {A : Nat → Bool} {s : Sn} {X Y : Heap} (h : CI H b3 b4 b5 b11 b12 q n y0 y1 y2 y3 y4 y5 a b c e A s X) (hx : Ext X Y) : CI H b3 b4 b5 b11 b12 q n y0 y1 y2 y3 y4 y5 a b c e A s Y :=
  ⟨hx.blk h.h3, hx.blk h.h4, hx.blk h.h5, hx.blk h.hq, hx.blk h.h11, hx.blk h.h12, h.got, h.ext.trans hx⟩
end Go.Proofs.Ytbjlbcihhleclaa.Ah
