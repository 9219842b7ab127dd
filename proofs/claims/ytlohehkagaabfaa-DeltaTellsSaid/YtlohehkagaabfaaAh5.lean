/- Ah5: a part of the proof: steps over abstract values, or contracts of functions. Conditions: none. -/
import Derived.Test.YtlohehkagaabfaaAh4h
namespace Go.Proofs.Ytlohehkagaabfaa.Ah
open Go
set_option linter.unusedVariables false

inductive Ex where
  | normal | exit (id : Nat) | ret

inductive SC where
  | skip
  | reg (ops : List SOper)
  | dreg (ops : List DOp)
  | seq (a b : SC)
  | cond (c : SO) (a b : SC)
  | block (id : Nat) (b : SC)
  | loop (b : SC)
  | exit (id : Nat)
  | ret
  | kl (l : List Nat) (b : SC)

abbrev Post := Ex → Env → Heap → Prop

def Post.seq (K : Env → Heap → Prop) (Q : Post) : Post := fun e T H => match e with | .normal => K T H | e => Q e T H
def Post.block (id : Nat) (Q : Post) : Post := fun e T H => match e with | .exit i => if i = id then Q .normal T H else Q (.exit i) T H | e => Q e T H

/-- Rounds of a loop. -/
def rounds (f : Env → Heap → Post → Prop) (Q : Post) : Nat → Env → Heap → Prop
  | 0, _, _ => False
  | n + 1, T, H => f T H (Post.seq (rounds f Q n) Q)

/-- What code comes to. -/
def ac (P : Program) : SC → Env → Heap → Post → Prop
  | .skip, T, H, Q => Q .normal T H
  | .reg ops, T, H, Q => aops P ops T H (Q .normal)
  | .dreg ops, T, H, Q => adraw P ops T H (Q .normal)
  | .seq a b, T, H, Q => ac P a T H (Post.seq (fun T' H' => ac P b T' H' Q) Q)
  | .cond c a b, T, H, Q => isB (T.eval c) fun t => (t = true → ac P a T H Q) ∧ (t = false → ac P b T H Q)
  | .block id b, T, H, Q => ac P b T H (Post.block id Q)
  | .loop b, T, H, Q => ∃ n, rounds (ac P b) Q n T H
  | .exit id, T, H, Q => Q (.exit id) T H
  | .ret, T, H, Q => Q .ret T H
  | .kl l b, T, H, Q => ac P b (T.dels l) H Q

def okC (P : Program) (N : Nat) : Code → SC → Bool
  | c, .kl _ s => okC P N c s
  | .skip, .skip => true
  | .region _ ops false, .reg ss => okOpers P N ops ops.toList ss
  | .region _ ops true, .dreg ds => okD P N ops ds
  | .seq a b, .seq c d => okC P N a c && okC P N b d
  | .cond c a b, .cond c' a' b' => okArg c c' && okC P N a a' && okC P N b b'
  | .block i b, .block j b' => i == j && okC P N b b'
  | .loop b, .loop b' => okC P N b b'
  | .exit i, .exit j => i == j
  | .ret, .ret => true
  | _, _ => false

/-- A way out, and what is known there. -/
def Outs (X : Cx) (N : Nat) (Q : Post) : Exit → Act → World → Prop
  | .normal, a, w => ∃ T H, Rel X N T H a w ∧ Q .normal T H
  | .exit id, a, w => ∃ T H, Rel X N T H a w ∧ Q (.exit id) T H
  | .ret, a, w => ∃ T H, Rel X N T H a w ∧ Q .ret T H
  | _, _, _ => False

theorem ac_sound {P : Program} {X : Cx} {N : Nat} : ∀ (c : Code) (s : SC), okC P N c s = true → ∀ (T : Env) (H : Heap) (Q : Post) (a : Act) (w : World), ac P s T H Q → Rel X N T H a w → c.wp P (Outs X N Q) a w := by
  intro c s
  induction s generalizing c with
  | skip =>
    intro hok T H Q a w h hr
    cases c <;> simp [okC] at hok
    exact wp_skip ⟨T, H, hr, h⟩
  | reg ops =>
    intro hok T H Q a w h hr
    cases c <;> first | (simp [okC] at hok; done) | skip
    rename_i id os d
    cases d
    · simp only [okC] at hok
      exact wp_region_list (ops_sound (fun T H a w hk hr => ⟨T, H, hr, hk⟩) _ _ hok T H a w h hr)
    · simp [okC] at hok
  | dreg ops =>
    intro hok T H Q a w h hr
    cases c <;> first | (simp [okC] at hok; done) | skip
    rename_i id os d
    cases d
    · simp [okC] at hok
    · simp only [okC] at hok
      exact draw_sound (fun T H a w hk hr => ⟨T, H, hr, hk⟩) hok T H a w h hr
  | seq s1 s2 ih1 ih2 =>
    intro hok T H Q a w h hr
    cases c <;> simp only [okC, Bool.false_eq_true, Bool.and_eq_true] at hok
    simp only [ac] at h
    refine wp_seq (wp_mono (ih1 _ hok.1 T H _ a w h hr) ?_)
    rintro e a' w' ho
    cases e <;> simp only [Outs, Post.seq] at ho <;> (try exact ho.elim)
    · obtain ⟨T', H', hr', hq⟩ := ho
      exact ih2 _ hok.2 T' H' Q a' w' hq hr'
    · exact ho
    · exact ho
  | cond x s1 s2 ih1 ih2 =>
    intro hok T H Q a w h hr
    cases c <;> simp only [okC, Bool.false_eq_true, Bool.and_eq_true] at hok
    obtain ⟨⟨h1, h2⟩, h3⟩ := hok
    simp only [ac] at h
    obtain ⟨t, ht, h⟩ := isB_out h
    have hr' := hr
    obtain ⟨M, hH, hK, hT, hd⟩ := hr'
    have hv := okArg_sound hT h1
    rw [ht] at hv
    simp only [VR] at hv
    cases t
    · exact wp_cond_false hv (ih2 _ h3 T H Q a w (h.2 rfl) hr)
    · exact wp_cond_true hv (ih1 _ h2 T H Q a w (h.1 rfl) hr)
  | block id b ih =>
    intro hok T H Q a w h hr
    cases c <;> simp only [okC, Bool.false_eq_true, Bool.and_eq_true, beq_iff_eq] at hok
    obtain ⟨rfl, h2⟩ := hok
    simp only [ac] at h
    refine wp_block (wp_mono (ih _ h2 T H _ a w h hr) ?_)
    rintro e a' w' ho
    cases e <;> simp only [Outs, Post.block] at ho <;> (try exact ho.elim)
    · exact ho
    · rename_i id'
      obtain ⟨T', H', hr', hq⟩ := ho
      simp only [Exit.inBlock]
      split
      · rename_i he; subst he; rw [if_pos rfl] at hq; exact ⟨T', H', hr', hq⟩
      · rename_i he; rw [if_neg he] at hq; exact ⟨T', H', hr', hq⟩
    · exact ho
  | loop b ih =>
    intro hok T H Q a w h hr
    cases c <;> simp only [okC, Bool.false_eq_true] at hok
    rename_i cb
    obtain ⟨n, h⟩ := h
    refine wp_loop_rounds n ?_
    induction n generalizing T H a w with
    | zero => exact h.elim
    | succ n ihn =>
      rw [rounds_succ]
      refine wp_mono (ih _ hok T H _ a w h hr) ?_
      rintro e a' w' ho
      cases e <;> simp only [Outs, Post.seq] at ho <;> (try exact ho.elim)
      · obtain ⟨T', H', hr', hq⟩ := ho
        exact ihn T' H' a' w' hr' hq
      · exact ho
      · exact ho
  | exit id =>
    intro hok T H Q a w h hr
    cases c <;> simp only [okC, Bool.false_eq_true, beq_iff_eq] at hok
    subst hok
    exact wp_exit ⟨T, H, hr, h⟩
  | ret =>
    intro hok T H Q a w h hr
    cases c <;> simp only [okC, Bool.false_eq_true] at hok
    exact wp_ret ⟨T, H, hr, h⟩
  | kl l b ih =>
    intro hok T H Q a w h hr
    have hok' : okC P N c b = true := by unfold okC at hok; cases c <;> exact hok
    simp only [ac] at h
    obtain ⟨M, hH, hK, hT, hd⟩ := hr
    exact ih c hok' _ H Q a w h ⟨M, hH, hK, hT.dels l, hd⟩

/-! ### What is handed back, and what is left of memory -/

mutual
def AV.ren (f : Nat → Nat) : AV → AV
  | .ptr b o => .ptr (f b) o
  | .sl b o n s c => .sl (f b) o n s c
  | .fn g xs ys => .fn g (AV.rens f xs) (AV.rens f ys)
  | .agg cs => .agg (AV.rens f cs)
  | .tup cs => .tup (AV.rens f cs)
  | .bool b => .bool b
  | .int k n => .int k n
  | .str s => .str s
  | .nilp => .nilp
  | .nils => .nils
  | .nilf => .nilf
  | .nilm => .nilm
  | .any => .any
def AV.rens (f : Nat → Nat) : List AV → List AV
  | [] => []
  | v :: vs => AV.ren f v :: AV.rens f vs
/-- All blocks that a value names lie below a number. -/
def AV.und (n : Nat) : AV → Prop
  | .ptr b _ => b < n
  | .sl b _ _ _ _ => b < n
  | .fn _ xs ys => AV.unds n xs ∧ AV.unds n ys
  | .agg cs => AV.unds n cs
  | .tup cs => AV.unds n cs
  | _ => True
def AV.unds (n : Nat) : List AV → Prop
  | [] => True
  | v :: vs => AV.und n v ∧ AV.unds n vs
end

mutual
theorem VR.ren {M M' : Val} {f : Nat → Nat} {n : Nat} (h : ∀ i, i < n → M' i = M (f i)) : ∀ (v : AV) (x : Value), v.und n → VR M (v.ren f) x → VR M' v x
  | .ptr b o, x, hb, hv => by
    simp only [AV.und] at hb
    simp only [AV.ren, VR] at hv ⊢
    rw [h b hb]
    exact hv
  | .sl b o m s c, x, hb, hv => by
    simp only [AV.und] at hb
    simp only [AV.ren, VR] at hv ⊢
    rw [h b hb]
    exact hv
  | .fn g xs ys, x, hb, hv => by
    simp only [AV.und] at hb
    simp only [AV.ren, VR] at hv ⊢
    obtain ⟨us, vs, e, h1, h2⟩ := hv
    exact ⟨us, vs, e, VRs.ren h xs us hb.1 h1, VRs.ren h ys vs hb.2 h2⟩
  | .agg cs, x, hb, hv => by
    simp only [AV.und] at hb
    simp only [AV.ren, VR] at hv ⊢
    obtain ⟨us, e, h1⟩ := hv
    exact ⟨us, e, VRs.ren h cs us hb h1⟩
  | .tup cs, x, hb, hv => by
    simp only [AV.und] at hb
    simp only [AV.ren, VR] at hv ⊢
    obtain ⟨us, e, h1⟩ := hv
    exact ⟨us, e, VRs.ren h cs us hb h1⟩
  | .bool _, x, _, hv => by simpa [AV.ren, VR] using hv
  | .int _ _, x, _, hv => by simpa [AV.ren, VR] using hv
  | .str _, x, _, hv => by simpa [AV.ren, VR] using hv
  | .nilp, x, _, hv => by simpa [AV.ren, VR] using hv
  | .nils, x, _, hv => by simpa [AV.ren, VR] using hv
  | .nilf, x, _, hv => by simpa [AV.ren, VR] using hv
  | .nilm, x, _, hv => by simpa [AV.ren, VR] using hv
  | .any, x, _, hv => by simp [VR]
theorem VRs.ren {M M' : Val} {f : Nat → Nat} {n : Nat} (h : ∀ i, i < n → M' i = M (f i)) : ∀ (vs : List AV) (xs : List Value), AV.unds n vs → VRs M (AV.rens f vs) xs → VRs M' vs xs
  | [], xs, _, hv => by simpa [AV.rens, VRs] using hv
  | v :: vs, xs, hb, hv => by
    simp only [AV.unds] at hb
    simp only [AV.rens, VRs] at hv ⊢
    obtain ⟨x, r, e, h1, h2⟩ := hv
    exact ⟨x, r, e, VR.ren h v x hb.1 h1, VRs.ren h vs r hb.2 h2⟩
end

theorem AV.rens_eq (f : Nat → Nat) (l : List AV) : AV.rens f l = l.map (AV.ren f) := by
  induction l with
  | nil => rfl
  | cons x r ih => simp [AV.rens, ih]

mutual
theorem VR.und {M : Val} {n : Nat} (h : ∀ i, n ≤ i → M i = none) : ∀ (v : AV) (x : Value), VR M v x → v.und n
  | .ptr b o, x, hv => by
    simp only [VR] at hv
    obtain ⟨l, e, _⟩ := hv
    simp only [AV.und]
    rcases Nat.lt_or_ge b n with h1 | h1
    · exact h1
    · rw [h b h1] at e; cases e
  | .sl b o m s c, x, hv => by
    simp only [VR] at hv
    obtain ⟨l, e, _⟩ := hv
    simp only [AV.und]
    rcases Nat.lt_or_ge b n with h1 | h1
    · exact h1
    · rw [h b h1] at e; cases e
  | .fn g xs ys, x, hv => by
    simp only [VR] at hv
    obtain ⟨us, vs, e, h1, h2⟩ := hv
    simp only [AV.und]
    exact ⟨VRs.und h xs us h1, VRs.und h ys vs h2⟩
  | .agg cs, x, hv => by
    simp only [VR] at hv
    obtain ⟨us, e, h1⟩ := hv
    simp only [AV.und]
    exact VRs.und h cs us h1
  | .tup cs, x, hv => by
    simp only [VR] at hv
    obtain ⟨us, e, h1⟩ := hv
    simp only [AV.und]
    exact VRs.und h cs us h1
  | .bool _, x, _ => by simp [AV.und]
  | .int _ _, x, _ => by simp [AV.und]
  | .str _, x, _ => by simp [AV.und]
  | .nilp, x, _ => by simp [AV.und]
  | .nils, x, _ => by simp [AV.und]
  | .nilf, x, _ => by simp [AV.und]
  | .nilm, x, _ => by simp [AV.und]
  | .any, x, _ => by simp [AV.und]
theorem VRs.und {M : Val} {n : Nat} (h : ∀ i, n ≤ i → M i = none) : ∀ (vs : List AV) (xs : List Value), VRs M vs xs → AV.unds n vs
  | [], xs, _ => by simp [AV.unds]
  | v :: vs, xs, hv => by
    simp only [VRs] at hv
    obtain ⟨x, r, e, h1, h2⟩ := hv
    simp only [AV.unds]
    exact ⟨VR.und h v x h1, VRs.und h vs r h2⟩
end

mutual
theorem AV.und_mono {n m : Nat} (h : n ≤ m) : ∀ (v : AV), v.und n → v.und m
  | .ptr b o, hv => by simp only [AV.und] at hv ⊢; omega
  | .sl b o _ s c, hv => by simp only [AV.und] at hv ⊢; omega
  | .fn g xs ys, hv => by simp only [AV.und] at hv ⊢; exact ⟨AV.unds_mono h xs hv.1, AV.unds_mono h ys hv.2⟩
  | .agg cs, hv => by simp only [AV.und] at hv ⊢; exact AV.unds_mono h cs hv
  | .tup cs, hv => by simp only [AV.und] at hv ⊢; exact AV.unds_mono h cs hv
  | .bool _, _ => by simp [AV.und]
  | .int _ _, _ => by simp [AV.und]
  | .str _, _ => by simp [AV.und]
  | .nilp, _ => by simp [AV.und]
  | .nils, _ => by simp [AV.und]
  | .nilf, _ => by simp [AV.und]
  | .nilm, _ => by simp [AV.und]
  | .any, _ => by simp [AV.und]
theorem AV.unds_mono {n m : Nat} (h : n ≤ m) : ∀ (vs : List AV), AV.unds n vs → AV.unds m vs
  | [], _ => by simp [AV.unds]
  | v :: vs, hv => by simp only [AV.unds] at hv ⊢; exact ⟨AV.und_mono h v hv.1, AV.unds_mono h vs hv.2⟩
end

mutual
theorem AV.ren_id {n : Nat} {f : Nat → Nat} (h : ∀ i, i < n → f i = i) : ∀ (v : AV), v.und n → v.ren f = v
  | .ptr b o, hv => by simp only [AV.und] at hv; simp only [AV.ren, h b hv]
  | .sl b o _ s c, hv => by simp only [AV.und] at hv; simp only [AV.ren, h b hv]
  | .fn g xs ys, hv => by simp only [AV.und] at hv; simp only [AV.ren, AV.rens_id h xs hv.1, AV.rens_id h ys hv.2]
  | .agg cs, hv => by simp only [AV.und] at hv; simp only [AV.ren, AV.rens_id h cs hv]
  | .tup cs, hv => by simp only [AV.und] at hv; simp only [AV.ren, AV.rens_id h cs hv]
  | .bool _, _ => rfl
  | .int _ _, _ => rfl
  | .str _, _ => rfl
  | .nilp, _ => rfl
  | .nils, _ => rfl
  | .nilf, _ => rfl
  | .nilm, _ => rfl
  | .any, _ => rfl
theorem AV.rens_id {n : Nat} {f : Nat → Nat} (h : ∀ i, i < n → f i = i) : ∀ (vs : List AV), AV.unds n vs → AV.rens f vs = vs
  | [], _ => rfl
  | v :: vs, hv => by simp only [AV.unds] at hv; simp only [AV.rens, AV.ren_id h v hv.1, AV.rens_id h vs hv.2]
end

theorem AV.unds_of_get {n : Nat} : ∀ {l : List AV}, (∀ (j : Nat) (v : AV), l[j]? = some v → v.und n) → AV.unds n l
  | [], _ => by simp [AV.unds]
  | x :: r, h => by
    simp only [AV.unds]
    exact ⟨h 0 x (by simp), AV.unds_of_get fun j v hv => h (j + 1) v (by simpa using hv)⟩

theorem HRel.und {M : Val} {H : Heap} {w : World} (h : HRel M H w) {i : Nat} {b : Blk} (hb : H[i]? = some (some b)) : AV.unds H.length b.cells := by
  by_cases hc : b.cells = []
  · rw [hc]; simp [AV.unds]
  obtain ⟨l, hM, arr, elem, fr, h1, h2, h3, h4⟩ := h.blk i b hb (.inl hc)
  exact AV.unds_of_get fun j v hv => let ⟨x, _, hx⟩ := h3 j v hv; VR.und h.dom v x hx

/-- What is left of memory: some blocks, under new numbers; an old block that stands as it was stays. -/
structure GC (H : Heap) (Hf : Heap) (vf : AV) (H' : Heap) (v : AV) (f : Nat → Nat) : Prop where
  low : ∀ i, i < H.length → f i = i
  inj : ∀ i j, i < H'.length → j < H'.length → f i = f j → i = j
  le : H.length ≤ H'.length
  blks : ∀ (i : Nat) (b' : Blk), H'[i]? = some (some b') → (i < H.length ∧ H[i]? = some (some b') ∧ Hf[i]? = some (some b')) ∨ ∃ b : Blk, Hf[f i]? = some (some b) ∧ b.cells = AV.rens f b'.cells ∧ (b'.own = true → b.own = true) ∧ AV.unds H'.length b'.cells
  val : vf = v.ren f
  bel : v.und H'.length

theorem GC.blk {H Hf H' : Heap} {vf v : AV} {f : Nat → Nat} (h : GC H Hf vf H' v f) {M : Val} {w : World} (hH : HRel M H w) (i : Nat) (b' : Blk) (hi : H'[i]? = some (some b')) :
    ∃ b : Blk, Hf[f i]? = some (some b) ∧ b.cells = AV.rens f b'.cells ∧ (b'.own = true → b.own = true) ∧ AV.unds H'.length b'.cells := by
  rcases h.blks i b' hi with ⟨h1, h2, h3⟩ | h1
  · have hu := hH.und h2
    exact ⟨b', by rw [h.low i h1]; exact h3, (AV.rens_id h.low _ hu).symm, id, AV.unds_mono h.le _ hu⟩
  · exact h1

theorem AV.unds_get {n : Nat} : ∀ {l : List AV}, AV.unds n l → ∀ (j : Nat) (v : AV), l[j]? = some v → v.und n
  | [], _, j, v, h => by simp at h
  | x :: r, hb, 0, v, h => by simp only [AV.unds] at hb; simp at h; subst h; exact hb.1
  | x :: r, hb, j + 1, v, h => by simp only [AV.unds] at hb; exact AV.unds_get hb.2 j v (by simpa using h)

theorem Blk.tells_ren {f : Nat → Nat} {b b' : Blk} (h : b.cells = AV.rens f b'.cells) (ho : b'.own = true → b.own = true) (ht : b'.tells) : b.tells := by
  rcases ht with ht | ht
  · left
    intro e
    rw [h] at e
    cases hc : b'.cells with
    | nil => exact ht hc
    | cons v r => rw [hc] at e; simp [AV.rens] at e
  · exact .inr (ho ht)

theorem gc_sound {X : Cx} {M : Val} {Hf H' : Heap} {vf v : AV} {f : Nat → Nat} {w : World} {x : Value} (hX : HRel X.M X.H X.w) (hg : GC X.H Hf vf H' v f) (hH : HRel M Hf w) (hK : Kept X M Hf w) (hv : VR M vf x) :
    ∃ M', HRel M' H' w ∧ Kept X M' H' w ∧ VR M' v x := by
  refine ⟨fun i => if i < H'.length then M (f i) else none, ⟨fun i hi => by simp; omega, fun i b' hb' => ?_, fun i j b c l l' h1 ho h2 ht2 hij hl hl' => ?_⟩, ⟨hK.os, hK.tape, hK.output, hK.size, hK.block, fun i b l h1 ho hl => ?_, fun i hi => ?_, hg.le⟩, ?_⟩
  · have hi : i < H'.length := by
      rcases Nat.lt_or_ge i H'.length with h | h
      · exact h
      · rw [List.getElem?_eq_none h] at hb'; cases hb'
    obtain ⟨b, h1, h2, h3, h4⟩ := hg.blk hX i b' hb'
    obtain ⟨l, hM, hB⟩ := hH.row _ b h1
    refine ⟨l, by simp [hi, hM], fun ht => ?_⟩
    obtain ⟨arr, elem, fr, e1, e2, e3, e4⟩ := hB (Blk.tells_ren h2 h3 ht)
    refine ⟨arr, elem, fr, e1, e2, fun j u hu => ?_, fun ho => e4 (h3 ho)⟩
    obtain ⟨y, hy, hvy⟩ := e3 j (u.ren f) (by rw [h2, AV.rens_eq]; simp [hu])
    refine ⟨y, hy, VR.ren (M := M) (f := f) (n := H'.length) (fun k hk => by simp [hk]) u y (AV.unds_get h4 j u hu) hvy⟩
  · have hi : ∀ (i : Nat) (b : Blk), H'[i]? = some (some b) → i < H'.length := by
      intro i b hb
      rcases Nat.lt_or_ge i H'.length with h | h
      · exact h
      · rw [List.getElem?_eq_none h] at hb; cases hb
    obtain ⟨b1, g1, _, g3, _⟩ := hg.blk hX i b h1
    obtain ⟨b2, k1, k2, k3, _⟩ := hg.blk hX j c h2
    rw [if_pos (hi i b h1)] at hl
    rw [if_pos (hi j c h2)] at hl'
    exact hH.sep _ _ b1 b2 l l' g1 (g3 ho) k1 (Blk.tells_ren k2 k3 ht2) (fun e => hij (hg.inj i j (hi i b h1) (hi j c h2) e)) hl hl'
  · have hi : i < H'.length := by
      rcases Nat.lt_or_ge i H'.length with h | h
      · exact h
      · rw [List.getElem?_eq_none h] at h1; cases h1
    obtain ⟨b1, g1, _, g3, _⟩ := hg.blk hX i b h1
    rw [if_pos hi] at hl
    exact hK.own _ b1 l g1 (g3 ho) hl
  · have := hg.le
    rw [if_pos (by omega), hg.low i hi]
    exact hK.ext i hi
  · refine VR.ren (M := M) (f := f) (n := H'.length) (fun k hk => by simp [hk]) v x hg.bel ?_
    rw [← hg.val]
    exact hv

/-- The results, read. -/
inductive SR where
  | tmp (t : Nat)
  | cell1 (t : Nat)
  | celln (t n : Nat)

def resOne (T : Env) (H : Heap) : SR → Option AV
  | .tmp t => some (T.get t)
  | .cell1 t => match T.get t with | .ptr b o => (blkAt H b).bind fun k => k.cells[o]? | _ => none
  | .celln t n => match T.get t with | .ptr b o => (rd H b o n).map .agg | _ => none

def resAll (T : Env) (H : Heap) : List SR → Option (List AV)
  | [] => some []
  | r :: rs => match resOne T H r, resAll T H rs with | some v, some vs => some (v :: vs) | _, _ => none

def resVal (T : Env) (H : Heap) (rs : List SR) : Option AV :=
  match resAll T H rs with
  | some [v] => some v
  | some vs => some (.tup vs)
  | none => none

def okR (P : Program) : List ResultVar → List SR → Bool
  | [], [] => true
  | .tmp t :: rs, .tmp u :: us => t == u && okR P rs us
  | .cell a t :: rs, .cell1 u :: us => a == u && decide (aggT P t = some false) && okR P rs us
  | .cell a t :: rs, .celln u n :: us => a == u && decide (aggT P t = some true) && decide (sizeC P t = some n) && okR P rs us
  | _, _ => false

theorem res_sound {P : Program} {N : Nat} {M : Val} {T : Env} {H : Heap} {a : Act} {w : World} (hH : HRel M H w) (hT : TRel N M T a.tmps) : ∀ (rs : List ResultVar) (us : List SR) (vs : List AV), okR P rs us = true → resAll T H us = some vs →
    ∃ xs, VRs M vs xs ∧ ∀ g : ResultVar → Sem Value, (∀ t, g (.tmp t) = pure (a.tmps.getD t undef)) → (∀ p t, g (.cell p t) = do loadVar t (← asAddr (a.tmps.getD p undef))) → (rs.mapM g).run P w = .ok xs w
  | [], [], vs, _, h => by
    simp [resAll] at h
    subst h
    exact ⟨[], by simp [VRs], fun _ _ _ => rfl⟩
  | [], _ :: _, _, hok, _ => by simp [okR] at hok
  | .tmp _ :: _, [], _, hok, _ => by simp [okR] at hok
  | .cell _ _ :: _, [], _, hok, _ => by simp [okR] at hok
  | r :: rs, u :: us, vs, hok, h => by
    simp only [resAll] at h
    split at h
    · rename_i v vs' h1 h2
      cases h
      have key : ∃ x, (∀ g : ResultVar → Sem Value, (∀ t, g (.tmp t) = pure (a.tmps.getD t undef)) → (∀ p t, g (.cell p t) = do loadVar t (← asAddr (a.tmps.getD p undef))) → (g r).run P w = .ok x w) ∧ VR M v x ∧ okR P rs us = true := by
        cases r with
        | tmp t =>
          cases u <;> simp only [okR, Bool.and_eq_true, beq_iff_eq, Bool.false_eq_true] at hok
          obtain ⟨rfl, hok⟩ := hok
          simp only [resOne, Option.some.injEq] at h1
          subst h1
          exact ⟨_, fun g g1 _ => by rw [g1]; rfl, hT.val t, hok⟩
        | cell p t =>
          cases u <;> simp only [okR, Bool.and_eq_true, beq_iff_eq, decide_eq_true_eq, Bool.false_eq_true] at hok
          · obtain ⟨⟨rfl, hag⟩, hok⟩ := hok
            obtain ⟨d, d1, d2⟩ := aggT_spec hag
            simp only [resOne] at h1
            split at h1
            · rename_i b o hb
              obtain ⟨k, hk, hv⟩ := Option.bind_eq_some_iff.1 h1
              have hp := hT.val p
              rw [hb] at hp
              simp only [VR] at hp
              obtain ⟨l, hM, hp⟩ := hp
              obtain ⟨l', x, hM', hc, hvx⟩ := run_ld hH hk hv
              rw [hM] at hM'
              cases hM'
              refine ⟨x, fun g _ g2 => ?_, hvx, hok⟩
              rw [g2, hp]
              simp [asAddr, loadVar, run_isAgg d1, d2, hc]
            · cases h1
          · obtain ⟨⟨⟨rfl, hag⟩, hn⟩, hok⟩ := hok
            obtain ⟨d, d1, d2⟩ := aggT_spec hag
            simp only [resOne] at h1
            split at h1
            · rename_i b o hb
              obtain ⟨cs, hr, rfl⟩ := Option.map_eq_some_iff.1 h1
              have hp := hT.val p
              rw [hb] at hp
              simp only [VR] at hp
              obtain ⟨l, hM, hp⟩ := hp
              obtain ⟨l', xs, hM', hrun, hvx, _⟩ := run_rd (P := P) hH hr
              rw [hM] at hM'
              cases hM'
              refine ⟨.agg xs.toArray, fun g _ g2 => ?_, by simp only [VR]; exact ⟨xs, rfl, hvx⟩, hok⟩
              rw [g2, hp]
              simp [asAddr, loadVar, run_isAgg d1, d2, run_size hn, hrun w rfl]
            · cases h1
      obtain ⟨x, e1, e2, e3⟩ := key
      obtain ⟨xs, g2, g1⟩ := res_sound hH hT rs us vs' e3 h2
      refine ⟨x :: xs, by simp only [VRs]; exact ⟨x, xs, rfl, e2, g2⟩, fun g k1 k2 => ?_⟩
      rw [List.mapM_cons]
      simp only [Sem.run_bind, e1 g k1 k2, Result.andThen_ok, g1 g k1 k2]
      rfl
    · cases h

theorem resVal_sound {P : Program} {N : Nat} {M : Val} {T : Env} {H : Heap} {a : Act} {w : World} (hH : HRel M H w) (hT : TRel N M T a.tmps) {fn : Func} {us : List SR} {v : AV} (hok : okR P fn.results.toList us = true) (h : resVal T H us = some v) :
    ∃ x, (results fn a.tmps).run P w = .ok x w ∧ VR M v x := by
  unfold resVal at h
  cases hr : resAll T H us with
  | none => rw [hr] at h; cases h
  | some vs =>
    rw [hr] at h
    obtain ⟨xs, h2, h1⟩ := res_sound hH hT _ us vs hok hr
    have hl := h2.length
    have hrun : (results fn a.tmps).run P w = .ok (if hs : xs.toArray.size = 1 then xs.toArray[0] else .tuple xs.toArray) w := by
      unfold results
      rw [Array.mapM_eq_mapM_toList]
      simp only [Sem.run_bind, Sem.run_map]
      rw [h1 _ (fun _ => rfl) (fun _ _ => rfl)]
      rfl
    refine ⟨_, hrun, ?_⟩
    match vs, xs, h2, hl, h with
    | [v1], [x1], h2, hl, h =>
      simp at h
      subst h
      obtain ⟨x, hx, hv⟩ := VRs.one h2
      cases hx
      simpa using hv
    | [], [], h2, hl, h =>
      simp at h
      subst h
      simp only [VR]
      exact ⟨[], by simp, h2⟩
    | v1 :: v2 :: vs, x1 :: x2 :: xs, h2, hl, h =>
      simp at h
      subst h
      simp only [VR]
      exact ⟨x1 :: x2 :: xs, by simp, h2⟩

/-! ### A function -/

def argEnv : Nat → List AV → Env
  | _, [] => []
  | i, v :: vs => (i, v) :: argEnv (i + 1) vs

theorem argEnv_get : ∀ (vs : List AV) (i j : Nat), (argEnv i vs).get j = if i ≤ j then vs.getD (j - i) .any else .any
  | [], i, j => by simp [argEnv, Env.get]
  | v :: vs, i, j => by
    simp only [argEnv, Env.get]
    by_cases h : i = j
    · subst h; simp
    · rw [if_neg h, argEnv_get vs (i + 1) j]
      by_cases h2 : i ≤ j
      · rw [if_pos (by omega), if_pos h2]
        obtain ⟨k, hk⟩ : ∃ k, j - i = k + 1 := ⟨j - i - 1, by omega⟩
        rw [hk, show j - (i + 1) = k by omega]
        rfl
      · rw [if_neg (by omega), if_neg h2]

/-- A function's end: what it hands back, and what is left. -/
def Fin (H : Heap) (rs : List SR) (v : AV) (H' : Heap) : Post := fun e T Hf => (e = .normal ∨ e = .ret) ∧ ∃ vf f, resVal T Hf rs = some vf ∧ GC H Hf vf H' v f

theorem acall {P : Program} {f : FuncId} {fn : Func} {c : Code} {s : SC} {rs : List SR} (hf : P.funcs[f]? = some fn) (hc : fn.body = some c) (hs : okC P fn.ntmps c s = true) (hr : okR P fn.results.toList rs = true)
    {args : List AV} (hn : args.length ≤ fn.ntmps) {H : Heap} {v : AV} {H' : Heap} (h : ac P s (argEnv 0 args) H (Fin H rs v H')) : ACall P f args H v H' := by
  intro M w xs hH hv
  refine calls_of_wp hf hc ?_
  have hl := hv.length
  have hrel : Rel ⟨w, M, H⟩ fn.ntmps (argEnv 0 args) H { tmps := xs.toArray ++ Array.replicate (fn.ntmps - xs.toArray.size) undef, defers := [] } w := by
    refine ⟨M, hH, Kept.refl M H w, ⟨by simp; omega, fun i => ?_⟩, rfl⟩
    rw [argEnv_get]
    simp only [Nat.zero_le, if_true, Nat.sub_zero]
    rcases Nat.lt_or_ge i args.length with hi | hi
    · obtain ⟨x, hx, hvx⟩ := hv.get i args[i] (by simp [hi])
      have h1 : args.getD i .any = args[i] := by simp [hi]
      rw [h1]
      have h2 : (xs.toArray ++ Array.replicate (fn.ntmps - xs.toArray.size) undef).getD i undef = x := by
        have : i < xs.length := by omega
        simp [Array.getElem?_append, this]
        have := List.getElem?_eq_some_iff.1 hx
        exact this.2
      rw [h2]
      exact hvx
    · have h1 : args.getD i .any = .any := by simp [hi]
      rw [h1]
      simp [VR]
  refine wp_mono (ac_sound c s hs _ H _ _ w h hrel) ?_
  rintro e a' w' ho
  have fin : ∀ e T Hf, Rel ⟨w, M, H⟩ fn.ntmps T Hf a' w' → Fin H rs v H' e T Hf → a'.defers = [] ∧ ∃ x, (results fn a'.tmps).run P w' = .ok x w' ∧ (∃ x' M', Ending.returned x = .returned x' ∧ HRel M' H' w' ∧ Kept ⟨w, M, H⟩ M' H' w' ∧ VR M' v x') := by
    rintro e T Hf ⟨M1, h1, h2, h3, h4⟩ ⟨_, vf, f, hres, hgc⟩
    obtain ⟨x, hx, hvx⟩ := resVal_sound h1 h3 hr hres
    obtain ⟨M', g1, g2, g3⟩ := gc_sound (X := ⟨w, M, H⟩) hH hgc h1 h2 hvx
    exact ⟨h4, x, hx, x, M', rfl, g1, g2, g3⟩
  cases e with
  | normal =>
    obtain ⟨T, Hf, h1, h2⟩ := ho
    obtain ⟨g1, x, g2, g3⟩ := fin _ T Hf h1 h2
    exact ⟨g1, x, g2, g3⟩
  | ret =>
    obtain ⟨T, Hf, h1, h2⟩ := ho
    obtain ⟨g1, x, g2, g3⟩ := fin _ T Hf h1 h2
    exact ⟨g1, x, g2, g3⟩
  | exit id =>
    obtain ⟨T, Hf, h1, ⟨h2, _⟩⟩ := ho
    rcases h2 with h2 | h2 <;> cases h2
  | _ => exact ho.elim

/-- Nothing of what was made is left. -/
theorem fin_same {H : Heap} {rs : List SR} {v : AV} {e : Ex} {T : Env} {Hf : Heap} (he : e = .normal ∨ e = .ret) (G : Heap) (hG : Hf = H ++ G) (hr : resVal T Hf rs = some v) (hv : v.und H.length) : Fin H rs v H e T Hf := by
  subst hG
  refine ⟨he, v, id, hr, fun _ _ => rfl, fun _ _ _ _ h => h, Nat.le_refl _, fun i b' hb => ?_, (AV.ren_id (n := H.length) (fun _ _ => rfl) v hv).symm, hv⟩
  have hi : i < H.length := by
    rcases Nat.lt_or_ge i H.length with h | h
    · exact h
    · rw [List.getElem?_eq_none h] at hb; cases hb
  exact .inl ⟨hi, hb, by rw [List.getElem?_append_left hi]; exact hb⟩

theorem fin_ret {H : Heap} {rs : List SR} {v : AV} {T : Env} {Hf : Heap} (G : Heap) (hG : Hf = H ++ G) (hr : resVal T Hf rs = some v) (hv : v.und H.length) : Fin H rs v H .ret T Hf := fin_same (.inr rfl) G hG hr hv
theorem fin_end {H : Heap} {rs : List SR} {v : AV} {T : Env} {Hf : Heap} (G : Heap) (hG : Hf = H ++ G) (hr : resVal T Hf rs = some v) (hv : v.und H.length) : Fin H rs v H .normal T Hf := fin_same (.inl rfl) G hG hr hv

/-- All is left as it stands. -/
theorem fin_keep {H : Heap} {rs : List SR} {v : AV} {e : Ex} {T : Env} {Hf : Heap} (he : e = .normal ∨ e = .ret) (hr : resVal T Hf rs = some v) (hl : H.length ≤ Hf.length) (hb : ∀ (i : Nat) (b : Blk), Hf[i]? = some (some b) → (i < H.length ∧ H[i]? = some (some b)) ∨ AV.unds Hf.length b.cells) (hv : v.und Hf.length) : Fin H rs v Hf e T Hf := by
  refine ⟨he, v, id, hr, fun _ _ => rfl, fun _ _ _ _ h => h, hl, fun i b' h => ?_, (AV.ren_id (n := Hf.length) (fun _ _ => rfl) v hv).symm, hv⟩
  rcases hb i b' h with ⟨h1, h2⟩ | h1
  · exact .inl ⟨h1, h2, h⟩
  · exact .inr ⟨b', h, (AV.rens_id (n := Hf.length) (fun _ _ => rfl) _ h1).symm, id, h1⟩
end Go.Proofs.Ytlohehkagaabfaa.Ah
