/- V08w: a part of the proof: contracts of functions, or plain laws. Conditions: none. -/
import Derived.Test.YtjibphejlmiocaaV08v
namespace Go.Proofs.Ytjibphejlmiocaa.Ah
open Go Go.WideShapes
set_option maxHeartbeats 4000000
set_option linter.unusedSimpArgs false
set_option linter.unusedVariables false
/-! What was told in bytes is told of them. -/
theorem whole_app (a : List Nat) : whole (a ++ tail4 a) a.length = true := by
  unfold whole
  rw [List.take_left', List.drop_left']
  · simp
  · rfl
  · rfl
theorem u64_wrap {n : Nat} (h : n < 18446744073709551616) : u64 (IntKind.i64.wrap (n : Int)) = n := by
  unfold u64
  simp only [IntKind.wrap, IntKind.bits, IntKind.signed]
  simp
  omega
theorem bw_num {a b c d e f g h : Nat} (ha : a < 256) (hb : b < 256) (hc : c < 256) (hd : d < 256) (he : e < 256) (hf : f < 256) (hg : g < 256) (hh : h < 256) : bw (num 0 [a, b, c, d, e, f, g, h]) 8 = [a, b, c, d, e, f, g, h] := by
  have e0 : ∀ n, bw n 8 = [b8 n 0, b8 n 1, b8 n 2, b8 n 3, b8 n 4, b8 n 5, b8 n 6, b8 n 7] := fun _ => rfl
  have key : ∀ n x : Nat, x < 256 → (n * 256 + x) / 256 = n := by intro n x hx; omega
  have key2 : ∀ n x : Nat, x < 256 → (n * 256 + x) % 256 = x := by intro n x hx; omega
  rw [e0]
  unfold num num num num num num num num num
  obtain ⟨n1, h1⟩ : ∃ n, n = 0 * 256 + a := ⟨_, rfl⟩
  rw [← h1]
  obtain ⟨n2, h2⟩ : ∃ n, n = n1 * 256 + b := ⟨_, rfl⟩
  rw [← h2]
  obtain ⟨n3, h3⟩ : ∃ n, n = n2 * 256 + c := ⟨_, rfl⟩
  rw [← h3]
  obtain ⟨n4, h4⟩ : ∃ n, n = n3 * 256 + d := ⟨_, rfl⟩
  rw [← h4]
  obtain ⟨n5, h5⟩ : ∃ n, n = n4 * 256 + e := ⟨_, rfl⟩
  rw [← h5]
  obtain ⟨n6, h6⟩ : ∃ n, n = n5 * 256 + f := ⟨_, rfl⟩
  rw [← h6]
  obtain ⟨n7, h7⟩ : ∃ n, n = n6 * 256 + g := ⟨_, rfl⟩
  rw [← h7]
  obtain ⟨n8, h8⟩ : ∃ n, n = n7 * 256 + h := ⟨_, rfl⟩
  rw [← h8]
  have d7 : n8 / 256 = n7 := by rw [h8]; exact key _ _ hh
  have d6 : n7 / 256 = n6 := by rw [h7]; exact key _ _ hg
  have d5 : n6 / 256 = n5 := by rw [h6]; exact key _ _ hf
  have d4 : n5 / 256 = n4 := by rw [h5]; exact key _ _ he
  have d3 : n4 / 256 = n3 := by rw [h4]; exact key _ _ hd
  have d2 : n3 / 256 = n2 := by rw [h3]; exact key _ _ hc
  have d1 : n2 / 256 = n1 := by rw [h2]; exact key _ _ hb
  have q1 : n8 / 65536 = n6 := by rw [show (65536 : Nat) = 256 * 256 from rfl, ← Nat.div_div_eq_div_mul, d7, d6]
  have q2 : n8 / 16777216 = n5 := by rw [show (16777216 : Nat) = 65536 * 256 from rfl, ← Nat.div_div_eq_div_mul, q1, d5]
  have q3 : n8 / 4294967296 = n4 := by rw [show (4294967296 : Nat) = 16777216 * 256 from rfl, ← Nat.div_div_eq_div_mul, q2, d4]
  have q4 : n8 / 1099511627776 = n3 := by rw [show (1099511627776 : Nat) = 4294967296 * 256 from rfl, ← Nat.div_div_eq_div_mul, q3, d3]
  have q5 : n8 / 281474976710656 = n2 := by rw [show (281474976710656 : Nat) = 1099511627776 * 256 from rfl, ← Nat.div_div_eq_div_mul, q4, d2]
  have q6 : n8 / 72057594037927936 = n1 := by rw [show (72057594037927936 : Nat) = 281474976710656 * 256 from rfl, ← Nat.div_div_eq_div_mul, q5, d1]
  have b0 : b8 n8 0 = n8 / 72057594037927936 % 256 := rfl
  have b1 : b8 n8 1 = n8 / 281474976710656 % 256 := rfl
  have b2 : b8 n8 2 = n8 / 1099511627776 % 256 := rfl
  have b3 : b8 n8 3 = n8 / 4294967296 % 256 := rfl
  have b4 : b8 n8 4 = n8 / 16777216 % 256 := rfl
  have b5 : b8 n8 5 = n8 / 65536 % 256 := rfl
  have b6 : b8 n8 6 = n8 / 256 % 256 := rfl
  have b7 : b8 n8 7 = n8 / 1 % 256 := rfl
  rw [b0, b1, b2, b3, b4, b5, b6, b7, q6, q5, q4, q3, q2, q1, d7, Nat.div_one, h8, h7, h6, h5, h4, h3, h2, h1]
  rw [key2 _ _ hh, key2 _ _ hg, key2 _ _ hf, key2 _ _ he, key2 _ _ hd, key2 _ _ hc, key2 _ _ hb, key2 _ _ ha]
theorem bw_back {bs : List Nat} (hz : By bs) (hl : bs.length = 8) : bw (u64 (IntKind.i64.wrap ((num 0 bs : Nat) : Int))) 8 = bs := by
  have h64 := num_lt bs 0 0 hz (by decide)
  rw [hl] at h64
  rw [u64_wrap (by have : (256 : Nat) ^ (0 + 8) = 18446744073709551616 := by decide
                   omega)]
  match bs, hl with
  | [a, b, c, d, e, f, g, h], _ => exact bw_num (hz a (by simp)) (hz b (by simp)) (hz c (by simp)) (hz d (by simp)) (hz e (by simp)) (hz f (by simp)) (hz g (by simp)) (hz h (by simp))
theorem bytes_get : ∀ (ns : List Int) (j : Nat) (x : Int) (r : List Nat), ns[j]? = some x → ((bytes ns ++ r).drop (8 * j)).take 8 = bw (u64 x) 8
  | [], j, x, r, h => by simp at h
  | n :: ns, 0, x, r, h => by
    simp at h
    subst h
    rw [bytes, Nat.mul_zero, List.drop_zero, List.append_assoc, List.take_left' (bw_len _ _)]
  | n :: ns, j + 1, x, r, h => by
    have := bytes_get ns j x r (by simpa using h)
    rw [bytes, List.append_assoc, show 8 * (j + 1) = (bw (u64 n) 8).length + 8 * j by rw [bw_len]; omega, ← List.drop_drop, List.drop_left' rfl]
    exact this
theorem wd_enc {k j : Nat} {ns : List Int} {x : Int} (hw : W64 ns) (h : ns[j]? = some x) : wd (encB k ns) j = x := by
  unfold wd encB
  rw [List.cons_append, Nat.add_comm 1, List.drop_succ_cons, bytes_get ns j x _ h, num_bw (u64_lt x), u64_back (hw x (List.mem_of_getElem? h))]
theorem dec_enc {k : Nat} {ns : List Int} (hw : W64 ns) (hr : right k ns.length = true) : decE (encB k ns) = 0 ∧ decK (encB k ns) = k ∧ decL (encB k ns) = ns := by
  obtain ⟨h1, h2⟩ := of_decide_eq_true hr
  have hk : dk (encB k ns) = k := rfl
  have hM : decM (encB k ns) = ns.length := by unfold decM; rw [hk]; omega
  have hl := encB_len k ns
  have hE : decE (encB k ns) = 0 := by
    unfold decE
    rw [if_neg (by omega), hl, hM, if_neg ?_, if_pos (by omega)]
    have := whole_app (k :: bytes ns)
    rw [List.length_cons, bytes_len] at this
    rw [show 5 + 8 * ns.length - 4 = 8 * ns.length + 1 by omega]
    unfold encB
    rw [this]
    decide
  refine ⟨hE, by unfold decK; rw [if_pos hE]; exact hk, ?_⟩
  unfold decL
  rw [if_pos hE, hM]
  unfold decW
  refine List.ext_getElem? fun j => ?_
  by_cases hj : j < ns.length
  · have hx : ns[j]? = some ns[j] := by simp [hj]
    rw [List.getElem?_map, List.getElem?_range hj, hx, Option.map_some, wd_enc hw hx]
  · rw [List.getElem?_eq_none (by simpa using hj), List.getElem?_eq_none (by simpa using hj)]
theorem bytes_dec : ∀ (m : Nat) (zs : List Nat), By zs → 8 * m ≤ zs.length → bytes ((List.range m).map fun j => IntKind.i64.wrap ((num 0 ((zs.drop (8 * j)).take 8) : Nat) : Int)) = zs.take (8 * m)
  | 0, zs, _, _ => rfl
  | m + 1, zs, hz, hl => by
    rw [List.range_succ, List.map_append, bytes_append, bytes_dec m zs hz (by omega)]
    simp only [List.map_cons, List.map_nil, bytes, List.append_nil]
    rw [bw_back (fun x hx => hz x (List.mem_of_mem_drop (List.mem_of_mem_take hx))) (by simp; omega), show 8 * (m + 1) = 8 * m + 8 by omega, List.take_add]
theorem enc_dec {zs : List Nat} (hz : By zs) (h : decE zs = 0) : encB (decK zs).toNat (decL zs) = zs ∧ right (decK zs) (decL zs).length = true ∧ W64 (decL zs) := by
  obtain ⟨h1, h2, h3⟩ := dec_ok h
  obtain ⟨h4, h5⟩ := decM_eq zs
  have hK : decK zs = dk zs := by unfold decK; rw [if_pos h]
  have hL : decL zs = decW zs (decM zs) := by unfold decL; rw [if_pos h]
  have hb : bytes (decW zs (decM zs)) = (zs.drop 1).take (8 * decM zs) := by
    have := bytes_dec (decM zs) (zs.drop 1) (fun x hx => hz x (List.mem_of_mem_drop hx)) (by simp; omega)
    rw [← this]
    unfold decW wd
    congr 1
    refine List.map_congr_left fun j _ => ?_
    rw [List.drop_drop]
  rw [hK, hL]
  refine ⟨?_, ?_, ?_⟩
  · unfold encB
    rw [hb]
    have e : (dk zs).toNat :: List.take (8 * decM zs) (List.drop 1 zs) = zs.take (1 + 8 * decM zs) := by
      cases zs with
      | nil => simp at h1
      | cons z r =>
        rw [Nat.add_comm 1, List.take_succ_cons]
        rfl
    rw [e]
    have := of_decide_eq_true h3
    rw [this, List.take_append_drop]
  · have : (decW zs (decM zs)).length = decM zs := by simp [decW]
    rw [this]
    exact decide_eq_true ⟨by omega, by omega⟩
  · intro x hx
    unfold decW wd at hx
    obtain ⟨j, _, rfl⟩ := List.mem_map.1 hx
    have hw := wrap_within .i64 ((num 0 ((zs.drop (1 + 8 * j)).take 8) : Nat) : Int)
    simp [Lit.wf]
    exact hw
end Go.Proofs.Ytjibphejlmiocaa.Ah
