/- Ah8: a part of the proof: a law from a contract. Conditions: none. -/
import Derived.Test.YtlohehkagaabfaaAh6
import Derived.WalkKit
import Derived.ProofKit
import Derived.OpenShut
import Derived.Carry
namespace Go.Proofs.Ytlohehkagaabfaa.Ah
open Go Go.ChangeShapes Go.WideShapes Go.ChangeAt Go.RowKit
set_option linter.unusedVariables false

variable {H : Type} {enc : TypeId × Value → H} {P : Program}

/-- What is read again behind a call that turns nothing. -/
theorem trodAll_stays (hl : laidOutB P = true) {W W' : World} (hb : Below W.heap.size W W') {sp : Nat → Bool} : ∀ {ts : List TypeId} {vs : List Value} {ds : List (DataW H)} {ps : List MemPlace},
    (∀ t ∈ ts, P.readableRec t = true ∧ t < P.types.size) → DataW.TrodAll enc P W 0 (fun _ => true) true ts vs ds ps → (∀ p ∈ ps, sp p.block = true) → DataW.TrodAll enc P W' 0 sp true ts vs ds ps
  | [], vs, ds, ps, _, h, _ => by
    obtain ⟨rfl, rfl, rfl⟩ := trodAll_nil h
    exact trodAll_mk0
  | t :: ts, vs, ds, ps, ht, h, hs => by
    have hlt := DataW.TrodAll.lt h
    obtain ⟨v, vs', d, ds', p, q, rfl, rfl, rfl, h1, h2⟩ := trodAll_cons h
    obtain ⟨h3, h4⟩ := ht t (by simp)
    exact trodAll_cons_mk (WideElems.Trod_stays hl h3 h4 h1 (fun x hx => hb.same (hlt x (by simp [hx]))) (fun x hx => hs x (by simp [hx]))) (trodAll_stays hl hb (fun t h => ht t (by simp [h])) h2 (fun x hx => hs x (by simp [hx])))

/-- A law's end: true, and all reads as it did. -/
theorem post_true (hl : laidOutB P = true) {f : Func} {s : ChangeSpec} {fresh handsOn again : Bool} {W W' : World} {args : Array Value} {ds gs : List (DataW H)} {before : List MemPlace}
    (hW : DataW.Whole enc P f.params.toList s.vars false W args.toList ds gs before) (hvs : s.vars = []) (hb : Below W.heap.size W W')
    (hts : ∀ t ∈ f.params.toList, P.readableRec t = true ∧ t < P.types.size)
    (hs : s.fn H (ds ++ gs) = { results := [.lit (.bool true)], args := ds }) {t : TypeId} (hrt : f.resultTypes = #[t]) (ht : P.underlying t = some .bool) :
    s.post enc P f false fresh handsOn again W args (.bool true) W' := by
  have hA := hW
  obtain ⟨p, q, hA0, hV, rfl, hfz, hnd⟩ := hA
  rw [hvs] at hV
  obtain ⟨rfl, rfl⟩ := trodVars_none hV
  have hlt := hW.lt
  have hlt' : ∀ x ∈ p, x.block < W.heap.size := fun x hx => hlt x (by simp [hx])
  have hres : ∀ (b : Nat) (sp : Nat → Bool) (hd : Bool), DataW.TrodAll enc P W' b sp hd f.resultTypes.toList ((Value.bool true).resultList f.resultTypes.size) (s.fn H (ds ++ [])).results [] := by
    intro b sp hd
    rw [hs, hrt]
    exact trodAll_cons_mk (shut_bool ht _) trodAll_mk0
  have hargs : ∀ sp : Nat → Bool, (∀ x ∈ p, sp x.block = true) → DataW.TrodAll enc P W' 0 sp true f.params.toList args.toList (s.fn H (ds ++ [])).args p := by
    intro sp hsp
    rw [hs]
    exact trodAll_stays hl hb hts hA0 hsp
  have hvars : ∀ sp : Nat → Bool, DataW.TrodVars enc P W' sp s.vars (s.fn H (ds ++ [])).vars [] := by
    intro sp
    rw [hvs, hs]
    exact rfl
  refine ⟨ds, [], p ++ [], [], p, [], hW, hres _ _ _, hargs _ (fun x hx => by simpa using hlt' x hx), hvars _, World.keptBut_mono (fun x hx => ⟨hx, .inr (by simpa using hx)⟩) (hb.frame _), fun _ => ?_⟩
  refine ⟨ok_one hrt rfl (okWide_bool_mk ht _), _, _, ([] ++ p) ++ [], ⟨[] ++ p, [], trodAll_append (hargs _ (fun _ _ => rfl)) (hres _ _ _), hvars _, rfl, ?_, ?_⟩, ?_⟩
  · intro b off hp
    rw [hb.frozen (p := ⟨b, off, none⟩) (hlt (.cell b off) (by simpa using hp))]
    exact hfz b off (by simpa using hp)
  · intro ha
    cases ha
  · intro x hx _
    simpa using hx

/-- Three integers in an array, opened. -/
theorem open_vec {W : World} {b : Nat} {r : Reach} {base : Nat} {spare : Nat → Bool} {held : Bool} {t e : TypeId} {v : Value} {d : DataW H} {ps : List MemPlace} (ht : P.underlying t = some (.array 3 e)) (he : P.underlying e = some (.int .i64)) (hc : P.cellsOf e = 1) (hC : P.cellsOf t = 3)
    (hv : Value.okWide P W r base t v) (h : DataW.Trod enc P W b spare held t v d ps) : ∃ x y z : Int, v = .agg #[.int .i64 x, .int .i64 y, .int .i64 z] := by
  unfold Value.okWide at hv
  rw [ht] at hv
  obtain ⟨cs, rfl, hsz, _⟩ := hv
  obtain ⟨fuel, hf⟩ := h
  obtain ⟨xs, m, _, _, _, hlen, hall⟩ := DataW.trod_array ht hf
  rw [hC] at hsz
  obtain ⟨c0, c1, c2, rfl⟩ : ∃ c0 c1 c2, cs = #[c0, c1, c2] := by
    obtain ⟨l⟩ := cs
    match l, hsz with
    | [c0, c1, c2], _ => exact ⟨c0, c1, c2, rfl⟩
  have get : ∀ i c, i < 3 → (((Value.agg #[c0, c1, c2]).cells.toList.drop (i * P.cellsOf e)).take (P.cellsOf e)) = [c] → ∃ n, c = .int .i64 n := by
    intro i c hi hd
    have h1 := hall i hi
    rw [hd] at h1
    obtain ⟨x, hx⟩ : ∃ x, xs[i]? = some x := ⟨xs[i], by simp⟩
    rw [hx] at h1
    obtain ⟨n, h2, _⟩ := DataW.trod_int he h1
    exact ⟨n, by simpa using h2⟩
  obtain ⟨x, rfl⟩ := get 0 c0 (by omega) (by simp [Value.cells, hc])
  obtain ⟨y, rfl⟩ := get 1 c1 (by omega) (by simp [Value.cells, hc])
  obtain ⟨z, rfl⟩ := get 2 c2 (by omega) (by simp [Value.cells, hc])
  exact ⟨x, y, z, rfl⟩

theorem hrel_nil (W : World) : HRel (fun _ => none) [] W := ⟨fun _ _ => rfl, fun i b h => by simp at h, fun i j b c l l' h => by simp at h⟩

/-- A law that reads no memory. -/
theorem law_runs {f : FuncId} {vals : List AV} (h : ACall P f vals [] (.bool true) []) {args : Array Value} (hv : VRs (fun _ => none) vals args.toList) (W : World) :
    Calls P f args W fun e W' => e = .returned (.bool true) ∧ Below W.heap.size W W' := by
  refine (h _ W args.toList (hrel_nil W) hv).mono fun e W' ⟨x, M', he, _, hk, hx⟩ => ?_
  simp only [VR] at hx
  subst hx
  refine ⟨he, hk.os, hk.tape, hk.output, hk.size, fun k hk' => hk.block k hk' ?_⟩
  rintro ⟨i, b, l, h1, _⟩
  simp at h1
end Go.Proofs.Ytlohehkagaabfaa.Ah
