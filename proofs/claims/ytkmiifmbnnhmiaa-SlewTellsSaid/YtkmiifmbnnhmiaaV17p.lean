/- V17p: a part of the proof: steps over abstract values, or contracts of functions. Conditions: none. -/
import Derived.Test.YtkmiifmbnnhmiaaV17i
namespace Go.Proofs.Ytkmiifmbnnhmiaa.Ah
open Go
theorem dst_mv1 {a d s : Int} (hs : S s) : dst (mv1 a d s) d = imax (dst a d - s) 0 := by
  unfold S at hs
  unfold dst mv1 imin imax
  repeat' split
  all_goals omega
theorem mx3_dcr {x y z s : Int} : mx3 (imax (x - s) 0) (imax (y - s) 0) (imax (z - s) 0) = imax (mx3 x y z - s) 0 := by
  unfold mx3 imax
  repeat' split
  all_goals omega
def mv (M s : Int) : Int := (M + s - 1).tdiv s
theorem mv_ediv {M s : Int} (hM : 0 ≤ M) (hs : 1 ≤ s) : mv M s = (M + s - 1) / s := by
  unfold mv
  rw [Int.tdiv_eq_ediv_of_nonneg (by omega)]
theorem mv_zero {M s : Int} (hM : 0 ≤ M) (hs : 1 ≤ s) : mv M s = 0 ↔ M = 0 := by
  rw [mv_ediv hM hs]
  have h1 : (M + s - 1) / s < 1 ↔ M + s - 1 < 1 * s := Int.ediv_lt_iff_lt_mul (by omega)
  have h2 : 0 ≤ (M + s - 1) / s := Int.ediv_nonneg (by omega) (by omega)
  omega
theorem mv_nonneg {M s : Int} (hM : 0 ≤ M) (hs : 1 ≤ s) : 0 ≤ mv M s := by
  rw [mv_ediv hM hs]
  exact Int.ediv_nonneg (by omega) (by omega)
theorem mv_step {M s : Int} (hM : 0 ≤ M) (hs : 1 ≤ s) : mv (imax (M - s) 0) s = imax (mv M s - 1) 0 := by
  have h0 : 0 ≤ imax (M - s) 0 := by unfold imax; split <;> omega
  rw [mv_ediv hM hs, mv_ediv h0 hs]
  have e : (M + s - 1) / s = (M - 1) / s + 1 := by
    rw [show M + s - 1 = M - 1 + s by omega, Int.add_ediv_of_dvd_right (Int.dvd_refl s), Int.ediv_self (by omega)]
  rw [e]
  have h1 : (M - 1) / s < 1 ↔ M - 1 < 1 * s := Int.ediv_lt_iff_lt_mul (by omega)
  by_cases h : M - s > 0
  · have h2 : 0 ≤ (M - 1) / s := Int.ediv_nonneg (by omega) (by omega)
    have e2 : imax (M - s) 0 = M - s := by unfold imax; rw [if_neg (by omega)]
    rw [e2, show M - s + s - 1 = M - 1 by omega]
    unfold imax
    split <;> omega
  · have e2 : imax (M - s) 0 = 0 := by unfold imax; split <;> omega
    rw [e2, show (0 : Int) + s - 1 = s - 1 by omega, Int.ediv_eq_zero_of_lt (by omega) (by omega)]
    unfold imax
    split <;> omega
theorem mvs_mv (x y z s : Int) : mvs x y z s = mv (mx3 x y z) s := rfl
theorem dst_zero {a d : Int} : dst a d = 0 ↔ a = d := by
  unfold dst imax
  split <;> omega
theorem mx3_zero {x y z : Int} (h1 : 0 ≤ x) (h2 : 0 ≤ y) (h3 : 0 ≤ z) : mx3 x y z = 0 ↔ x = 0 ∧ y = 0 ∧ z = 0 := by
  unfold mx3 imax
  repeat' split
  all_goals omega
theorem mv1_in {a d s : Int} (h1 : B a) (h2 : B d) (hs : S s) : B (mv1 a d s) := by
  unfold B S at *
  unfold mv1 imin imax
  repeat' split
  all_goals omega
variable {a b c d e f s : Int}
theorem mvs_zero (h1 : B a) (h2 : B b) (h3 : B c) (h4 : B d) (h5 : B e) (h6 : B f) (h7 : S s) : mvs (dst a d) (dst b e) (dst c f) s = 0 ↔ a = d ∧ b = e ∧ c = f := by
  have q := mx3_in (dst_in h1 h4) (dst_in h2 h5) (dst_in h3 h6)
  rw [mvs_mv, mv_zero q.1 h7.1, mx3_zero (dst_in h1 h4).1 (dst_in h2 h5).1 (dst_in h3 h6).1, dst_zero, dst_zero, dst_zero]
theorem mvs_nonneg (h1 : B a) (h2 : B b) (h3 : B c) (h4 : B d) (h5 : B e) (h6 : B f) (h7 : S s) : 0 ≤ mvs (dst a d) (dst b e) (dst c f) s := by
  have q := mx3_in (dst_in h1 h4) (dst_in h2 h5) (dst_in h3 h6)
  exact mv_nonneg q.1 h7.1
theorem mvs_step (h1 : B a) (h2 : B b) (h3 : B c) (h4 : B d) (h5 : B e) (h6 : B f) (h7 : S s) : mvs (dst (mv1 a d s) d) (dst (mv1 b e s) e) (dst (mv1 c f s) f) s = imax (mvs (dst a d) (dst b e) (dst c f) s - 1) 0 := by
  have q := mx3_in (dst_in h1 h4) (dst_in h2 h5) (dst_in h3 h6)
  rw [dst_mv1 h7, dst_mv1 h7, dst_mv1 h7, mvs_mv, mx3_dcr, mv_step q.1 h7.1, ← mvs_mv]
theorem mv1_self (d : Int) (h : S s) : mv1 d d s = d := by
  unfold S at h
  unfold mv1 imin imax
  repeat' split
  all_goals omega
end Go.Proofs.Ytkmiifmbnnhmiaa.Ah
