/- Ah3a: a part of the proof: steps over abstract values, or contracts of functions. Conditions: none. -/
import Derived.Test.YtlohehkagaabfaaAh3
namespace Go.Proofs.Ytlohehkagaabfaa.Ah
open Go
section
variable {P : Program}

theorem zOk_spec {t : TypeId} {z : List AV} (h : zOk P t z = true) : ∃ zv, (P.info? t).bind (·.zero) = some zv ∧ ∀ M, VRs M z zv.cells.toList := by
  unfold zOk zeroC at h
  split at h
  · rename_i l hl
    obtain ⟨zv, h1, rfl⟩ := Option.map_eq_some_iff.1 hl
    exact ⟨zv, h1, fun M => vcs_sound M _ _ h⟩
  · cases h

theorem zeroC_spec {t : TypeId} {l : List Value} (h : zeroC P t = some l) : ∃ zv i, P.info? t = some i ∧ i.zero = some zv ∧ zv.cells.toList = l := by
  unfold zeroC at h
  obtain ⟨zv, h1, rfl⟩ := Option.map_eq_some_iff.1 h
  obtain ⟨i, h2, h3⟩ := Option.bind_eq_some_iff.1 h1
  exact ⟨zv, i, h2, h3, rfl⟩

theorem aggT_spec {t : TypeId} {b : Bool} (h : aggT P t = some b) : ∃ d, P.underlying t = some d ∧ aggB (some d) = b := by
  unfold aggT at h
  obtain ⟨d, h1, h2⟩ := Option.map_eq_some_iff.1 h
  exact ⟨d, h1, h2⟩

theorem fullAll {M : Val} {vs : List AV} {us : List Value} (h : VRs M vs us) : us.length = vs.length := h.length

theorem lay_length : ∀ {ps : List (Nat × Nat)} {vs z cs : List AV}, lay z ps vs = some cs → cs.length = z.length
  | [], [], z, cs, h => by simp [lay] at h; subst h; rfl
  | [], _ :: _, _, _, h => by simp [lay] at h
  | _ :: _, [], _, _, h => by simp [lay] at h
  | (off, n) :: ps, v :: vs, z, cs, h => by
    simp only [lay] at h
    split at h
    · rename_i hc
      rw [lay_length h]
      simp
      omega
    · cases h

theorem slVR {v : AV} (h : v = .nils ∨ ∃ b off n sz c, v = .sl b off n sz c) : ∀ M z, VR M v z → ∃ ad n cap, z = .slice ad n cap ∧ n ≤ cap := by
  intro M z hz
  rcases h with rfl | ⟨b, off, n, sz, c, rfl⟩
  · simp only [VR] at hz; exact ⟨none, 0, 0, hz, Nat.le_refl _⟩
  · simp only [VR] at hz
    obtain ⟨l, _, ⟨a, cap, rfl, h1, _⟩ | ⟨rfl, _, rfl⟩⟩ := hz
    · exact ⟨_, _, _, rfl, h1⟩
    · exact ⟨_, _, _, rfl, Nat.le_refl _⟩

theorem szOk_spec {sz : Nat} {v : AV} (h : szOk sz v) : ∀ b off k s c, v = .sl b off k s c → s = sz := by
  rintro b off k s c rfl
  exact h

theorem of_ite {c : Prop} [Decidable c] {α : Type} {a b : α} (h : (if c then some a else none) = some b) : c ∧ a = b := by
  by_cases hc : c
  · rw [if_pos hc] at h; cases h; exact ⟨hc, rfl⟩
  · rw [if_neg hc] at h; cases h

theorem so_mv (o : Oper)  (l0 : List Operand) (hok : okOp P o.op .mv = some l0) (vals : List AV) (H : Heap) (K : AV → Heap → Prop) (h : so P .mv vals H K) :
    ∃ v H', K v H' ∧ SStep P o l0 vals H v H' := by
  generalize hop : o.op = op at hok
  simp only [okOp] at hok
  simp only [so] at h
  · split at hok
    · cases hok
      replace h := a1_out h; obtain ⟨x, rfl, h⟩ := h
      exact ⟨_, _, h, s_mv (.inl hop) _ _⟩
    · cases hok
      replace h := a1_out h; obtain ⟨x, rfl, h⟩ := h
      exact ⟨_, _, h, s_mv (.inr hop) _ _⟩
    · cases hok

theorem so_pick (o : Oper)  (l0 : List Operand) (hok : okOp P o.op .pick = some l0) (vals : List AV) (H : Heap) (K : AV → Heap → Prop) (h : so P .pick vals H K) :
    ∃ v H', K v H' ∧ SStep P o l0 vals H v H' := by
  generalize hop : o.op = op at hok
  simp only [okOp] at hok
  simp only [so] at h
  · split at hok
    · cases hok
      replace h := a3_out h; obtain ⟨c, x, y, rfl, h⟩ := h
      replace h := isB_out h; obtain ⟨b, rfl, h⟩ := h
      cases b
      · exact ⟨_, _, h.2 rfl, s_pick hop false x y H⟩
      · exact ⟨_, _, h.1 rfl, s_pick hop true x y H⟩
    · cases hok

theorem so_alloc (o : Oper) (z : List AV) (l0 : List Operand) (hok : okOp P o.op (.alloc z) = some l0) (vals : List AV) (H : Heap) (K : AV → Heap → Prop) (h : so P (.alloc z) vals H K) :
    ∃ v H', K v H' ∧ SStep P o l0 vals H v H' := by
  generalize hop : o.op = op at hok
  simp only [okOp] at hok
  simp only [so] at h
  · split at hok
    · obtain ⟨hz, rfl⟩ := of_ite hok
      obtain ⟨zv, h1, h2⟩ := zOk_spec hz
      replace h := a0_out h; obtain ⟨rfl, h⟩ := h
      exact ⟨_, _, h, s_alloc hop h1 h2 H⟩
    · cases hok

theorem so_box (o : Oper)  (l0 : List Operand) (hok : okOp P o.op .box = some l0) (vals : List AV) (H : Heap) (K : AV → Heap → Prop) (h : so P .box vals H K) :
    ∃ v H', K v H' ∧ SStep P o l0 vals H v H' := by
  generalize hop : o.op = op at hok
  simp only [okOp] at hok
  simp only [so] at h
  · split at hok
    · cases hok
      replace h := a1_out h; obtain ⟨x, rfl, h⟩ := h
      exact ⟨_, _, h.2, s_box hop h.1 H⟩
    · cases hok

theorem so_build (o : Oper) (z : List AV) (pl : List (Nat × Nat)) (l0 : List Operand) (hok : okOp P o.op (.build z pl) = some l0) (vals : List AV) (H : Heap) (K : AV → Heap → Prop) (h : so P (.build z pl) vals H K) :
    ∃ v H', K v H' ∧ SStep P o l0 vals H v H' := by
  generalize hop : o.op = op at hok
  simp only [okOp] at hok
  simp only [so] at h
  · obtain ⟨hf, h⟩ := h
    replace h := sm_out h; obtain ⟨cs, hl, h⟩ := h
    split at hok
    · split at hok
      · rename_i hd
        split at hok
        · rename_i places hp
          obtain ⟨hc, rfl⟩ := of_ite hok
          simp only [Bool.and_eq_true, decide_eq_true_eq] at hc
          obtain ⟨zv, h1, h2⟩ := zOk_spec hc.1
          exact ⟨_, _, h, s_buildS hop hd h1 h2 (places := places.toArray) (by simpa using hp) (by simpa using hc.2) hl hf H⟩
        · cases hok
      · rename_i hd
        split at hok
        · rename_i n hn
          obtain ⟨hc, rfl⟩ := of_ite hok
          simp only [Bool.and_eq_true, decide_eq_true_eq] at hc
          obtain ⟨zv, h1, h2⟩ := zOk_spec hc.1
          exact ⟨_, _, h, s_buildA hop hd h1 h2 hn hc.2 hl hf H⟩
        · cases hok
      · cases hok
    · cases hok

theorem so_bslice (o : Oper) (sz : Nat) (n : Nat) (z : List AV) (pl : List (Nat × Nat)) (l0 : List Operand) (hok : okOp P o.op (.bslice sz n z pl) = some l0) (vals : List AV) (H : Heap) (K : AV → Heap → Prop) (h : so P (.bslice sz n z pl) vals H K) :
    ∃ v H', K v H' ∧ SStep P o l0 vals H v H' := by
  generalize hop : o.op = op at hok
  simp only [okOp] at hok
  simp only [so] at h
  · obtain ⟨hf, h⟩ := h
    replace h := sm_out h; obtain ⟨cs, hl, h⟩ := h
    split at hok
    · split at hok
      · rename_i hd
        split at hok
        · rename_i zz hz
          obtain ⟨hc, rfl⟩ := of_ite hok
          obtain ⟨rfl, hs, hzl, hm, hv, hps, hzl2⟩ := hc
          obtain ⟨zv, i, hi, hz0, hzz⟩ := zeroC_spec hz
          have hlen := lay_length hl
          refine ⟨_, _, h, s_bslice hop hd (z := zv) (by rw [hi]; exact hz0) hs hm (fun M => ?_) hps hl (by rw [hlen]; exact hzl2) hf H⟩
          have hsz := congrArg List.length hzz
          rw [hzl, Array.length_toList] at hsz
          rw [← hsz, made_eq, hzz]
          exact vcs_sound M _ _ hv
        · cases hok
      · cases hok
    · cases hok

theorem so_ld1 (o : Oper)  (l0 : List Operand) (hok : okOp P o.op .ld1 = some l0) (vals : List AV) (H : Heap) (K : AV → Heap → Prop) (h : so P .ld1 vals H K) :
    ∃ v H', K v H' ∧ SStep P o l0 vals H v H' := by
  generalize hop : o.op = op at hok
  simp only [okOp] at hok
  simp only [so] at h
  · split at hok
    · obtain ⟨hc, rfl⟩ := of_ite hok
      obtain ⟨d, h1, h2⟩ := aggT_spec hc
      replace h := a1_out h; obtain ⟨p, rfl, h⟩ := h
      replace h := isP_out h; obtain ⟨b, off, rfl, h⟩ := h
      replace h := sm_out h; obtain ⟨k, hk, h⟩ := h
      replace h := sm_out h; obtain ⟨v, hv, h⟩ := h
      exact ⟨_, _, h, s_ld1 hop h1 h2 hk hv⟩
    · cases hok

theorem so_ldn (o : Oper) (n : Nat) (l0 : List Operand) (hok : okOp P o.op (.ldn n) = some l0) (vals : List AV) (H : Heap) (K : AV → Heap → Prop) (h : so P (.ldn n) vals H K) :
    ∃ v H', K v H' ∧ SStep P o l0 vals H v H' := by
  generalize hop : o.op = op at hok
  simp only [okOp] at hok
  simp only [so] at h
  · split at hok
    · obtain ⟨hc, rfl⟩ := of_ite hok
      obtain ⟨d, h1, h2⟩ := aggT_spec hc.1
      replace h := a1_out h; obtain ⟨p, rfl, h⟩ := h
      replace h := isP_out h; obtain ⟨b, off, rfl, h⟩ := h
      replace h := sm_out h; obtain ⟨cs, hr, h⟩ := h
      exact ⟨_, _, h, s_ldn hop h1 h2 hc.2 hr⟩
    · cases hok

theorem so_st (o : Oper) (n : Nat) (l0 : List Operand) (hok : okOp P o.op (.st n) = some l0) (vals : List AV) (H : Heap) (K : AV → Heap → Prop) (h : so P (.st n) vals H K) :
    ∃ v H', K v H' ∧ SStep P o l0 vals H v H' := by
  generalize hop : o.op = op at hok
  simp only [okOp] at hok
  simp only [so] at h
  · split at hok
    · obtain ⟨hc, rfl⟩ := of_ite hok
      replace h := a2_out h; obtain ⟨p, v, rfl, h⟩ := h
      replace h := isP_out h; obtain ⟨b, off, rfl, h⟩ := h
      replace h := sm_out h; obtain ⟨k, hk, h⟩ := h
      obtain ⟨g1, g2, g3, g4, g5⟩ := h
      exact ⟨_, _, g5, s_st hop hc hk g1 g2 g3 g4⟩
    · cases hok

theorem so_nilchk (o : Oper)  (l0 : List Operand) (hok : okOp P o.op .nilchk = some l0) (vals : List AV) (H : Heap) (K : AV → Heap → Prop) (h : so P .nilchk vals H K) :
    ∃ v H', K v H' ∧ SStep P o l0 vals H v H' := by
  generalize hop : o.op = op at hok
  simp only [okOp] at hok
  simp only [so] at h
  · split at hok
    · cases hok
      replace h := a1_out h; obtain ⟨p, rfl, h⟩ := h
      replace h := isP_out h; obtain ⟨b, off, rfl, h⟩ := h
      exact ⟨_, _, h, s_nilchk hop _ _ H⟩
    · cases hok

theorem so_bin (o : Oper) (op' : BinOp) (l0 : List Operand) (hok : okOp P o.op (.bin op') = some l0) (vals : List AV) (H : Heap) (K : AV → Heap → Prop) (h : so P (.bin op') vals H K) :
    ∃ v H', K v H' ∧ SStep P o l0 vals H v H' := by
  generalize hop : o.op = op at hok
  simp only [okOp] at hok
  simp only [so] at h
  · split at hok
    · obtain ⟨hc, rfl⟩ := of_ite hok
      subst hc
      replace h := a2_out h; obtain ⟨x, y, rfl, h⟩ := h
      replace h := isI_out h; obtain ⟨k, p, rfl, h⟩ := h
      replace h := isI_out h; obtain ⟨k', q, rfl, h⟩ := h
      obtain ⟨v, hv, hs⟩ := s_int hop p q H h
      exact ⟨v, H, hv, hs⟩
    · cases hok

theorem so_eqv (o : Oper) (neg : Bool) (ks : List LK) (l0 : List Operand) (hok : okOp P o.op (.eqv neg ks) = some l0) (vals : List AV) (H : Heap) (K : AV → Heap → Prop) (h : so P (.eqv neg ks) vals H K) :
    ∃ v H', K v H' ∧ SStep P o l0 vals H v H' := by
  generalize hop : o.op = op at hok
  simp only [okOp] at hok
  simp only [so] at h
  · split at hok
    · obtain ⟨hc, rfl⟩ := of_ite hok
      obtain ⟨rfl, g1, g2, g3⟩ := hc
      obtain ⟨d, e1, e2⟩ := aggT_spec g3
      replace h := a2_out h; obtain ⟨x, y, rfl, h⟩ := h
      replace h := isA_out h; obtain ⟨p, rfl, h⟩ := h
      replace h := isA_out h; obtain ⟨q, rfl, h⟩ := h
      replace h := sm_out h; obtain ⟨t, ht, h⟩ := h
      exact ⟨_, _, h, s_eqv hop g1 (by omega) g2 (by rw [e1]; exact e2) ht H⟩
    · cases hok

theorem so_eqb (o : Oper) (neg : Bool) (l0 : List Operand) (hok : okOp P o.op (.eqb neg) = some l0) (vals : List AV) (H : Heap) (K : AV → Heap → Prop) (h : so P (.eqb neg) vals H K) :
    ∃ v H', K v H' ∧ SStep P o l0 vals H v H' := by
  generalize hop : o.op = op at hok
  simp only [okOp] at hok
  simp only [so] at h
  · split at hok
    · split at hok
      · rename_i ht
        obtain ⟨hc, rfl⟩ := of_ite hok
        subst hc
        replace h := a2_out h; obtain ⟨x, y, rfl, h⟩ := h
        replace h := isB_out h; obtain ⟨p, rfl, h⟩ := h
        replace h := isB_out h; obtain ⟨q, rfl, h⟩ := h
        exact ⟨_, _, h, s_eqb hop ht _ _ H⟩
      · cases hok
    · cases hok

theorem so_eqs (o : Oper) (neg : Bool) (l0 : List Operand) (hok : okOp P o.op (.eqs neg) = some l0) (vals : List AV) (H : Heap) (K : AV → Heap → Prop) (h : so P (.eqs neg) vals H K) :
    ∃ v H', K v H' ∧ SStep P o l0 vals H v H' := by
  generalize hop : o.op = op at hok
  simp only [okOp] at hok
  simp only [so] at h
  · split at hok
    · obtain ⟨hc, rfl⟩ := of_ite hok
      subst hc
      replace h := a2_out h; obtain ⟨x, y, rfl, h⟩ := h
      replace h := isS_out h; obtain ⟨p, rfl, h⟩ := h
      replace h := isS_out h; obtain ⟨q, rfl, h⟩ := h
      exact ⟨_, _, h, s_eqs hop _ _ H⟩
    · cases hok

theorem so_eqnil (o : Oper) (neg : Bool) (l0 : List Operand) (hok : okOp P o.op (.eqnil neg) = some l0) (vals : List AV) (H : Heap) (K : AV → Heap → Prop) (h : so P (.eqnil neg) vals H K) :
    ∃ v H', K v H' ∧ SStep P o l0 vals H v H' := by
  generalize hop : o.op = op at hok
  simp only [okOp] at hok
  simp only [so] at h
  · split at hok
    · split at hok
      · rename_i ht
        obtain ⟨hc, rfl⟩ := of_ite hok
        subst hc
        replace h := a1_out h; obtain ⟨x, rfl, h⟩ := h
        replace h := isSl_out h; rcases h with ⟨rfl, h⟩ | ⟨b, off, n, sz, c, rfl, h⟩
        · exact ⟨_, _, h, s_eqnilS hop rfl ht .nils true (fun M x hx => by simp only [VR] at hx; exact ⟨none, 0, 0, hx, rfl⟩) H⟩
        · exact ⟨_, _, h.2, s_eqnilS hop rfl ht (.sl b off n sz c) false (fun M x hx => by
            have h0 := h.1
            simp only [VR] at hx
            obtain ⟨l, _, ⟨a, cap, e, _⟩ | ⟨e, _⟩⟩ := hx
            · exact ⟨_, n, _, e, rfl⟩
            · rename_i h5
              rw [h5.1] at h0
              simp at h0
              omega) H⟩
      · cases hok
    · cases hok

theorem so_un (o : Oper) (op' : UnOp) (l0 : List Operand) (hok : okOp P o.op (.un op') = some l0) (vals : List AV) (H : Heap) (K : AV → Heap → Prop) (h : so P (.un op') vals H K) :
    ∃ v H', K v H' ∧ SStep P o l0 vals H v H' := by
  generalize hop : o.op = op at hok
  simp only [okOp] at hok
  simp only [so] at h
  · split at hok
    · obtain ⟨hc, rfl⟩ := of_ite hok
      subst hc
      replace h := a1_out h; obtain ⟨x, rfl, h⟩ := h
      rename_i u _ _
      cases u <;> simp only [un] at h
      · replace h := isI_out h; obtain ⟨k, n, rfl, h⟩ := h
        exact ⟨_, _, h, s_un hop H _ _ (fun M x hx => by simpa only [VR] using hx) (fun w => rfl) (fun M => rfl)⟩
      · replace h := isI_out h; obtain ⟨k, n, rfl, h⟩ := h
        exact ⟨_, _, h, s_un hop H _ _ (fun M x hx => by simpa only [VR] using hx) (fun w => rfl) (fun M => rfl)⟩
      · replace h := isB_out h; obtain ⟨b, rfl, h⟩ := h
        exact ⟨_, _, h, s_un hop H _ _ (fun M x hx => by simpa only [VR] using hx) (fun w => rfl) (fun M => rfl)⟩
    · cases hok

theorem so_conv (o : Oper) (k : IntKind) (l0 : List Operand) (hok : okOp P o.op (.conv k) = some l0) (vals : List AV) (H : Heap) (K : AV → Heap → Prop) (h : so P (.conv k) vals H K) :
    ∃ v H', K v H' ∧ SStep P o l0 vals H v H' := by
  generalize hop : o.op = op at hok
  simp only [okOp] at hok
  simp only [so] at h
  · split at hok
    · split at hok
      · rename_i h1 h2
        obtain ⟨hc, rfl⟩ := of_ite hok
        subst hc
        replace h := a1_out h; obtain ⟨x, rfl, h⟩ := h
        replace h := isI_out h; obtain ⟨k0, n, rfl, h⟩ := h
        exact ⟨_, _, h, s_conv hop h1 h2 _ H⟩
      · cases hok
    · cases hok

theorem so_mkfn (o : Oper) (g : Fn) (n : Nat) (l0 : List Operand) (hok : okOp P o.op (.mkfn g n) = some l0) (vals : List AV) (H : Heap) (K : AV → Heap → Prop) (h : so P (.mkfn g n) vals H K) :
    ∃ v H', K v H' ∧ SStep P o l0 vals H v H' := by
  generalize hop : o.op = op at hok
  simp only [okOp] at hok
  simp only [so] at h
  · split at hok
    · obtain ⟨hc, rfl⟩ := of_ite hok
      obtain ⟨rfl, hn⟩ := hc
      exact ⟨_, _, h, s_mkfn hop H _ hn⟩
    · cases hok

theorem so_mksl (o : Oper) (sz : Nat) (bytes : Nat) (z : List AV) (l0 : List Operand) (hok : okOp P o.op (.mksl sz bytes z) = some l0) (vals : List AV) (H : Heap) (K : AV → Heap → Prop) (h : so P (.mksl sz bytes z) vals H K) :
    ∃ v H', K v H' ∧ SStep P o l0 vals H v H' := by
  generalize hop : o.op = op at hok
  simp only [okOp] at hok
  simp only [so] at h
  · split at hok
    · split at hok
      · rename_i hd
        obtain ⟨hc, rfl⟩ := of_ite hok
        obtain ⟨h1, h2, h3, h4, h5⟩ := hc
        obtain ⟨zv, g1, g2⟩ := zOk_spec h3
        obtain ⟨i, hi, hz⟩ := Option.bind_eq_some_iff.1 g1
        have e1 : i.size = sz := by unfold sizeC at h1; rw [hi] at h1; simpa using h1
        have e2 : i.bytes = bytes := by unfold bytesC at h2; rw [hi] at h2; simpa using h2
        subst e1; subst e2
        replace h := a2_out h; obtain ⟨x, y, rfl, h⟩ := h
        replace h := isI_out h; obtain ⟨k, p, rfl, h⟩ := h
        replace h := isI_out h; obtain ⟨k', c, rfl, h⟩ := h
        obtain ⟨k1, k2, k3, k4⟩ := h
        refine ⟨_, _, k4, s_mksl hop hd hi hz ?_ g2 k1 k2 k3 ?_ H⟩
        · have := (g2 (fun _ => none)).length
          simp only [Array.length_toList] at this
          omega
        · have hb : (1 : Int) ≤ i.bytes := by omega
          have : 1 * c ≤ i.bytes * c := Int.mul_le_mul_of_nonneg_right hb (by omega)
          omega
      · cases hok
    · cases hok

theorem so_slice (o : Oper) (sz : Nat) (l : Bool) (h0 : Bool) (m : Bool) (l0 : List Operand) (hok : okOp P o.op (.slice sz l h0 m) = some l0) (vals : List AV) (H : Heap) (K : AV → Heap → Prop) (h : so P (.slice sz l h0 m) vals H K) :
    ∃ v H', K v H' ∧ SStep P o l0 vals H v H' := by
  generalize hop : o.op = op at hok
  simp only [okOp] at hok
  simp only [so] at h
  · split at hok
    · split at hok
      · rename_i hd
        obtain ⟨hc, rfl⟩ := of_ite hok
        obtain ⟨h1, rfl, rfl, rfl⟩ := hc
        replace h := aC_out h; obtain ⟨x, vs, rfl, h⟩ := h
        replace h := isSl_out h; rcases h with ⟨rfl, h⟩ | ⟨b, off, n, sz, c, rfl, rfl, h⟩
        · obtain ⟨l, hh, c', hK, hhn, hR⟩ := cut_sound (P := P) h
          exact ⟨_, _, hK, s_sliceN hop hd h1 c' vs l hh hR H⟩
        · obtain ⟨l, hh, c', hK, hhn, hR⟩ := cut_sound (P := P) h
          exact ⟨_, _, hK, s_slice hop hd h1 _ _ _ _ c' vs l hh hR H⟩
      · cases hok
    · cases hok

theorem so_aslice (o : Oper) (sz : Nat) (n : Nat) (l : Bool) (h0 : Bool) (m : Bool) (l0 : List Operand) (hok : okOp P o.op (.aslice sz n l h0 m) = some l0) (vals : List AV) (H : Heap) (K : AV → Heap → Prop) (h : so P (.aslice sz n l h0 m) vals H K) :
    ∃ v H', K v H' ∧ SStep P o l0 vals H v H' := by
  generalize hop : o.op = op at hok
  simp only [okOp] at hok
  simp only [so] at h
  · split at hok
    · split at hok
      · rename_i hd
        obtain ⟨hc, rfl⟩ := of_ite hok
        obtain ⟨rfl, h1, h0, rfl, rfl, rfl⟩ := hc
        replace h := aC_out h; obtain ⟨x, vs, rfl, h⟩ := h
        replace h := isP_out h; obtain ⟨b, off, rfl, h⟩ := h
        obtain ⟨l, hh, c', ⟨hk1, hk2, hK⟩, hhn, hR⟩ := cut_sound (P := P) h
        exact ⟨_, _, hK, s_aslice hop hd h1 _ _ c' vs l hh hR H hk1 hk2 h0⟩
      · cases hok
    · cases hok

theorem so_faddr (o : Oper) (off : Nat) (l0 : List Operand) (hok : okOp P o.op (.faddr off) = some l0) (vals : List AV) (H : Heap) (K : AV → Heap → Prop) (h : so P (.faddr off) vals H K) :
    ∃ v H', K v H' ∧ SStep P o l0 vals H v H' := by
  generalize hop : o.op = op at hok
  simp only [okOp] at hok
  simp only [so] at h
  · split at hok
    · split at hok
      · rename_i hd
        split at hok
        · rename_i fd hf
          split at hok
          · rename_i n hn
            obtain ⟨hc, rfl⟩ := of_ite hok
            obtain ⟨h0, rfl⟩ := hc
            replace h := a1_out h; obtain ⟨p, rfl, h⟩ := h
            replace h := isP_out h; obtain ⟨b, off, rfl, h⟩ := h
            exact ⟨_, _, h, s_faddr hop hd hf hn h0 _ _ H⟩
          · cases hok
        · cases hok
      · cases hok
    · cases hok

theorem so_fld (o : Oper) (off : Nat) (n : Nat) (agg : Bool) (l0 : List Operand) (hok : okOp P o.op (.fld off n agg) = some l0) (vals : List AV) (H : Heap) (K : AV → Heap → Prop) (h : so P (.fld off n agg) vals H K) :
    ∃ v H', K v H' ∧ SStep P o l0 vals H v H' := by
  generalize hop : o.op = op at hok
  simp only [okOp] at hok
  simp only [so] at h
  · split at hok
    · split at hok
      · rename_i hd
        split at hok
        · rename_i fd hf
          obtain ⟨hc, rfl⟩ := of_ite hok
          obtain ⟨h1, h2, rfl⟩ := hc
          obtain ⟨d, e1, e2⟩ := aggT_spec h1
          replace h := a1_out h; obtain ⟨x, rfl, h⟩ := h
          replace h := isA_out h; obtain ⟨cs, rfl, h⟩ := h
          cases agg
          · simp only [Bool.false_eq_true, if_false] at h
            replace h := sm_out h; obtain ⟨v, hv, h⟩ := h
            exact ⟨_, _, h, s_fld1 hop hd hf e1 e2 hv H⟩
          · simp only [if_true] at h
            exact ⟨_, _, h, s_fldn hop hd hf e1 e2 h2 H⟩
        · cases hok
      · cases hok
    · cases hok

theorem so_iaddrS (o : Oper) (sz : Nat) (l0 : List Operand) (hok : okOp P o.op (.iaddrS sz) = some l0) (vals : List AV) (H : Heap) (K : AV → Heap → Prop) (h : so P (.iaddrS sz) vals H K) :
    ∃ v H', K v H' ∧ SStep P o l0 vals H v H' := by
  generalize hop : o.op = op at hok
  simp only [okOp] at hok
  simp only [so] at h
  · split at hok
    · split at hok
      · rename_i hd
        obtain ⟨hc, rfl⟩ := of_ite hok
        replace h := a2_out h; obtain ⟨x, y, rfl, h⟩ := h
        replace h := isSl_out h; rcases h with ⟨rfl, h⟩ | ⟨b, off, n, sz, c, rfl, h⟩
        · exact h.elim
        · replace h := isI_out h; obtain ⟨k, j, rfl, rfl, k1, k2, k3⟩ := h
          exact ⟨_, _, k3, s_iaddrS hop hd hc _ _ _ _ _ _ k1 k2 H⟩
      · cases hok
    · cases hok

theorem so_iaddrA (o : Oper) (sz : Nat) (n : Nat) (l0 : List Operand) (hok : okOp P o.op (.iaddrA sz n) = some l0) (vals : List AV) (H : Heap) (K : AV → Heap → Prop) (h : so P (.iaddrA sz n) vals H K) :
    ∃ v H', K v H' ∧ SStep P o l0 vals H v H' := by
  generalize hop : o.op = op at hok
  simp only [okOp] at hok
  simp only [so] at h
  · split at hok
    · split at hok
      · rename_i hd
        obtain ⟨hc, rfl⟩ := of_ite hok
        obtain ⟨h1, rfl⟩ := hc
        replace h := a2_out h; obtain ⟨x, y, rfl, h⟩ := h
        replace h := isP_out h; obtain ⟨b, off, rfl, h⟩ := h
        replace h := isI_out h; obtain ⟨k, j, rfl, k1, k2, k3⟩ := h
        exact ⟨_, _, k3, s_iaddrA hop hd h1 _ _ _ _ k1 k2 H⟩
      · cases hok
    · cases hok

theorem so_idxA (o : Oper) (sz : Nat) (n : Nat) (agg : Bool) (l0 : List Operand) (hok : okOp P o.op (.idxA sz n agg) = some l0) (vals : List AV) (H : Heap) (K : AV → Heap → Prop) (h : so P (.idxA sz n agg) vals H K) :
    ∃ v H', K v H' ∧ SStep P o l0 vals H v H' := by
  generalize hop : o.op = op at hok
  simp only [okOp] at hok
  simp only [so] at h
  · split at hok
    · split at hok
      · rename_i hd
        obtain ⟨hc, rfl⟩ := of_ite hok
        obtain ⟨h1, rfl, rfl, rfl, h2⟩ := hc
        obtain ⟨d, e1, e2⟩ := aggT_spec h2
        replace h := a2_out h; obtain ⟨x, y, rfl, h⟩ := h
        replace h := isA_out h; obtain ⟨cs, rfl, h⟩ := h
        replace h := isI_out h; obtain ⟨k, j, rfl, k1, k2, k3⟩ := h
        replace k3 := sm_out k3; obtain ⟨v, hv, k3⟩ := k3
        exact ⟨_, _, k3, s_idx1 hop hd e1 e2 h1 k1 k2 hv H⟩
      · cases hok
    · cases hok

theorem so_ext (o : Oper) (j : Nat) (l0 : List Operand) (hok : okOp P o.op (.ext j) = some l0) (vals : List AV) (H : Heap) (K : AV → Heap → Prop) (h : so P (.ext j) vals H K) :
    ∃ v H', K v H' ∧ SStep P o l0 vals H v H' := by
  generalize hop : o.op = op at hok
  simp only [okOp] at hok
  simp only [so] at h
  · split at hok
    · obtain ⟨hc, rfl⟩ := of_ite hok
      subst hc
      replace h := a1_out h; obtain ⟨x, rfl, h⟩ := h
      replace h := isT_out h; obtain ⟨l, rfl, h⟩ := h
      replace h := sm_out h; obtain ⟨v, hv, h⟩ := h
      exact ⟨_, _, h, s_ext hop hv H⟩
    · cases hok

theorem so_len (o : Oper)  (l0 : List Operand) (hok : okOp P o.op .len = some l0) (vals : List AV) (H : Heap) (K : AV → Heap → Prop) (h : so P .len vals H K) :
    ∃ v H', K v H' ∧ SStep P o l0 vals H v H' := by
  generalize hop : o.op = op at hok
  simp only [okOp] at hok
  simp only [so] at h
  · split at hok
    · split at hok
      · rename_i hd
        cases hok
        replace h := a1_out h; obtain ⟨x, rfl, h⟩ := h
        replace h := isSl_out h; rcases h with ⟨rfl, h⟩ | ⟨b, off, n, sz, c, rfl, h⟩
        · exact ⟨_, _, h, s_len hop rfl hd .nils 0 (fun M x hx => by simp only [VR] at hx; exact ⟨_, _, hx⟩) H⟩
        · exact ⟨_, _, h, s_len hop rfl hd (.sl b off n sz c) n (fun M x hx => by
            simp only [VR] at hx
            obtain ⟨l, _, ⟨a, cap, e, _⟩ | ⟨rfl, _, e⟩⟩ := hx
            · exact ⟨_, _, e⟩
            · exact ⟨_, _, e⟩) H⟩
      · cases hok
    · cases hok

theorem so_lenA (o : Oper) (n : Nat) (l0 : List Operand) (hok : okOp P o.op (.lenA n) = some l0) (vals : List AV) (H : Heap) (K : AV → Heap → Prop) (h : so P (.lenA n) vals H K) :
    ∃ v H', K v H' ∧ SStep P o l0 vals H v H' := by
  generalize hop : o.op = op at hok
  simp only [okOp] at hok
  simp only [so] at h
  · split at hok
    · split at hok
      · rename_i hd
        obtain ⟨hc, rfl⟩ := of_ite hok
        subst hc
        replace h := a1_out h; obtain ⟨x, rfl, h⟩ := h
        exact ⟨_, _, h, s_lenA hop rfl hd _ H⟩
      · cases hok
    · cases hok

theorem so_cap (o : Oper)  (l0 : List Operand) (hok : okOp P o.op .cap = some l0) (vals : List AV) (H : Heap) (K : AV → Heap → Prop) (h : so P .cap vals H K) :
    ∃ v H', K v H' ∧ SStep P o l0 vals H v H' := by
  generalize hop : o.op = op at hok
  simp only [okOp] at hok
  simp only [so] at h
  · split at hok
    · split at hok
      · rename_i hd
        cases hok
        replace h := a1_out h; obtain ⟨x, rfl, h⟩ := h
        replace h := isSl_out h; rcases h with ⟨rfl, h⟩ | ⟨b, off, n, sz, c, rfl, h⟩
        · exact ⟨_, _, h, s_cap hop rfl hd .nils 0 (fun M x hx => by simp only [VR] at hx; exact ⟨_, _, hx⟩) H⟩
        · replace h := sm_out h; obtain ⟨k, rfl, h⟩ := h
          exact ⟨_, _, h, s_cap hop rfl hd (.sl b off n sz (some k)) k (fun M x hx => by
            simp only [VR] at hx
            obtain ⟨l, _, ⟨a, cap, e, _, _, h3⟩ | ⟨rfl, h3, e⟩⟩ := hx
            · rw [h3 _ rfl] at e; exact ⟨_, _, e⟩
            · cases h3) H⟩
      · cases hok
    · cases hok

theorem so_app (o : Oper) (sz : Nat) (bytes : Nat) (l0 : List Operand) (hok : okOp P o.op (.app sz bytes) = some l0) (vals : List AV) (H : Heap) (K : AV → Heap → Prop) (h : so P (.app sz bytes) vals H K) :
    ∃ v H', K v H' ∧ SStep P o l0 vals H v H' := by
  generalize hop : o.op = op at hok
  simp only [okOp] at hok
  simp only [so] at h
  · split at hok
    · split at hok
      · rename_i hd hu
        split at hok
        · rename_i zz hz
          obtain ⟨hc, rfl⟩ := of_ite hok
          obtain ⟨h1, h2, h3, h4⟩ := hc
          obtain ⟨zv, i, hi, hz0, hzz⟩ := zeroC_spec hz
          have e1 : i.size = sz := by unfold sizeC at h1; rw [hi] at h1; simpa using h1
          have e2 : i.bytes = bytes := by unfold bytesC at h2; rw [hi] at h2; simpa using h2
          subst e1; subst e2
          have hzs : zv.cells.size = i.size := by rw [← h3, ← hzz]; simp
          replace h := a2_out h; obtain ⟨s1, x1, rfl, h⟩ := h
          unfold app at h
          obtain ⟨hs1, hs2, h⟩ := h
          replace h := sm_out h; obtain ⟨⟨nw, m⟩, hr, h⟩ := h
          dsimp only at h
          replace h := isSl_out h; rcases h with ⟨rfl, h⟩ | ⟨b, off, n, sz, c, rfl, h⟩
          · by_cases hm : m = 0
            · subst hm
              exact ⟨_, _, h.1 rfl, s_app0 hop rfl hd hu h1 (slVR (.inl rfl)) hr (szOk_spec hs2)⟩
            · obtain ⟨k1, k2⟩ := h.2 hm
              have := s_appN hop rfl hd hu hi hz0 hzs h4 (s := .nils) (old := []) (n := 0) (by simp [rdS]) hr (szOk_spec hs1) (szOk_spec hs2) (fun M z hz => by simp only [VR] at hz; exact ⟨_, 0, hz, by omega⟩) (by simpa using k1)
              simp only [List.nil_append, Nat.zero_add] at this
              exact ⟨_, _, k2, this⟩
          · obtain rfl : sz = i.size := hs1
            by_cases hm : m = 0
            · subst hm
              exact ⟨_, _, h.1 rfl, s_app0 hop rfl hd hu h1 (slVR (.inr ⟨_, _, _, _, _, rfl⟩)) hr (szOk_spec hs2)⟩
            · obtain ⟨k1, k2⟩ := h.2 hm
              replace k2 := sm_out k2; obtain ⟨old, ho, k2⟩ := k2
              split at k2
              · rename_i hk
                obtain ⟨k, rfl, hk⟩ := hk
                exact ⟨_, _, k2, s_appN hop rfl hd hu hi hz0 hzs h4 (by simp [rdS, ho]) hr (fun _ _ _ _ _ e => by cases e; rfl) (szOk_spec hs2) (fun M z hz => by
                  simp only [VR] at hz
                  obtain ⟨l, _, ⟨a, cap, e, _, _, h3⟩ | ⟨rfl, h3, e⟩⟩ := hz
                  · exact ⟨_, cap, e, by rw [h3 _ rfl]; exact hk⟩
                  · exact ⟨_, 0, e, by omega⟩) k1⟩
              · obtain ⟨k3, k4, k5⟩ := k2
                obtain ⟨kb, hkb, hown⟩ : ∃ kb, blkAt H b = some kb ∧ kb.own = true := by
                  cases hb : blkAt H b with
                  | none => rw [hb] at k3; cases k3
                  | some kb => rw [hb] at k3; exact ⟨kb, rfl, by simpa using k3⟩
                exact ⟨_, _, k5, s_appO hop rfl hd hu hi hz0 hzs h4 hkb hown ho hr (szOk_spec hs2) k4 hm k1⟩
        · cases hok
      · cases hok
    · cases hok

theorem so_appZ (o : Oper) (sz : Nat) (bytes : Nat) (z : List AV) (l0 : List Operand) (hok : okOp P o.op (.appZ sz bytes z) = some l0) (vals : List AV) (H : Heap) (K : AV → Heap → Prop) (h : so P (.appZ sz bytes z) vals H K) :
    ∃ v H', K v H' ∧ SStep P o l0 vals H v H' := by
  generalize hop : o.op = op at hok
  simp only [okOp] at hok
  simp only [so] at h
  · split at hok
    · split at hok
      · rename_i hd hu
        obtain ⟨hc, rfl⟩ := of_ite hok
        obtain ⟨h1, h2, h3, h4, h5, h6⟩ := hc
        obtain ⟨zv, g1, g2⟩ := zOk_spec h3
        obtain ⟨i, hi, hz⟩ := Option.bind_eq_some_iff.1 g1
        have e1 : i.size = sz := by unfold sizeC at h1; rw [hi] at h1; simpa using h1
        have e2 : i.bytes = bytes := by unfold bytesC at h2; rw [hi] at h2; simpa using h2
        subst e1; subst e2
        replace h := a2_out h; obtain ⟨x, y, rfl, h⟩ := h
        replace h := isSl_out h; rcases h with ⟨rfl, h⟩ | ⟨_, _, _, _, _, _, h⟩
        · replace h := isI_out h; obtain ⟨k, n, rfl, k1, k2, k3⟩ := h
          refine ⟨_, _, k3, s_appZ hop rfl hd hu hi hz ?_ h5 h6 g2 k1 k2 ?_ H⟩
          · have := (g2 (fun _ => none)).length
            simp only [Array.length_toList] at this
            omega
          · have hb : (1 : Int) ≤ i.bytes := by omega
            have : n * 1 ≤ n * i.bytes := Int.mul_le_mul_of_nonneg_left hb (by omega)
            omega
        · exact h.elim
      · cases hok
    · cases hok

theorem so_copy (o : Oper) (sz : Nat) (l0 : List Operand) (hok : okOp P o.op (.copy sz) = some l0) (vals : List AV) (H : Heap) (K : AV → Heap → Prop) (h : so P (.copy sz) vals H K) :
    ∃ v H', K v H' ∧ SStep P o l0 vals H v H' := by
  generalize hop : o.op = op at hok
  simp only [okOp] at hok
  simp only [so] at h
  · split at hok
    · split at hok
      · rename_i hd
        obtain ⟨hc, rfl⟩ := of_ite hok
        replace h := a2_out h; obtain ⟨x, y, rfl, h⟩ := h
        replace h := isSl_out h; rcases h with ⟨rfl, h⟩ | ⟨b, off, n, sz1, c, rfl, rfl, h⟩
        · exact h.elim
        · replace h := isSl_out h; rcases h with ⟨rfl, h⟩ | ⟨b', off', m, sz2, c', rfl, h⟩
          · exact ⟨_, _, h, s_copyN hop rfl hd hc _ _ _ _ H⟩
          · replace h := sm_out h; obtain ⟨cs, hr, h⟩ := h
            replace h := sm_out h; obtain ⟨k, hk, k1, k2, k3, k4⟩ := h
            exact ⟨_, _, k4, s_copy hop rfl hd hc hr hk k1 k2 k3⟩
      · cases hok
    · cases hok

theorem so_mn (o : Oper)  (l0 : List Operand) (hok : okOp P o.op .mn = some l0) (vals : List AV) (H : Heap) (K : AV → Heap → Prop) (h : so P .mn vals H K) :
    ∃ v H', K v H' ∧ SStep P o l0 vals H v H' := by
  generalize hop : o.op = op at hok
  simp only [okOp] at hok
  simp only [so] at h
  · split at hok
    · cases hok
      replace h := a2_out h; obtain ⟨x, y, rfl, h⟩ := h
      replace h := isI_out h; obtain ⟨k, p, rfl, h⟩ := h
      replace h := isI_out h; obtain ⟨k', q, rfl, rfl, h⟩ := h
      exact ⟨_, _, h, s_mnmx hop false rfl _ _ _ H⟩
    · cases hok

theorem so_mx (o : Oper)  (l0 : List Operand) (hok : okOp P o.op .mx = some l0) (vals : List AV) (H : Heap) (K : AV → Heap → Prop) (h : so P .mx vals H K) :
    ∃ v H', K v H' ∧ SStep P o l0 vals H v H' := by
  generalize hop : o.op = op at hok
  simp only [okOp] at hok
  simp only [so] at h
  · split at hok
    · cases hok
      replace h := a2_out h; obtain ⟨x, y, rfl, h⟩ := h
      replace h := isI_out h; obtain ⟨k, p, rfl, h⟩ := h
      replace h := isI_out h; obtain ⟨k', q, rfl, rfl, h⟩ := h
      exact ⟨_, _, h, s_mnmx hop true rfl _ _ _ H⟩
    · cases hok

theorem so_call (o : Oper) (g : Nat) (l0 : List Operand) (hok : okOp P o.op (.call g) = some l0) (vals : List AV) (H : Heap) (K : AV → Heap → Prop) (h : so P (.call g) vals H K) :
    ∃ v H', K v H' ∧ SStep P o l0 vals H v H' := by
  generalize hop : o.op = op at hok
  simp only [okOp] at hok
  simp only [so] at h
  · split at hok
    · obtain ⟨hc, rfl⟩ := of_ite hok
      obtain ⟨rfl, hb⟩ := hc
      obtain ⟨v, H', h1, h2⟩ := h
      exact ⟨_, _, h2, s_call hop rfl hb h1⟩
    · cases hok

theorem so_callv (o : Oper)  (l0 : List Operand) (hok : okOp P o.op .callv = some l0) (vals : List AV) (H : Heap) (K : AV → Heap → Prop) (h : so P .callv vals H K) :
    ∃ v H', K v H' ∧ SStep P o l0 vals H v H' := by
  generalize hop : o.op = op at hok
  simp only [okOp] at hok
  simp only [so] at h
  · split at hok
    · cases hok
      replace h := aC_out h; obtain ⟨x, vs, rfl, h⟩ := h
      replace h := isF_out h; obtain ⟨f, xs, ys, rfl, h⟩ := h
      obtain ⟨hb, v, H', h1, h2⟩ := h
      exact ⟨_, _, h2, s_callv hop rfl hb h1⟩
    · cases hok

theorem so_strOf (o : Oper) (l0 : List Operand) (hok : okOp P o.op .strOf = some l0) (vals : List AV) (H : Heap) (K : AV → Heap → Prop) (h : so P .strOf vals H K) :
    ∃ v H', K v H' ∧ SStep P o l0 vals H v H' := by
  generalize hop : o.op = op at hok
  simp only [okOp] at hok
  simp only [so] at h
  split at hok
  · split at hok
    · rename_i hs hd
      split at hok
      · rename_i he
        cases hok
        replace h := a1_out h; obtain ⟨x, rfl, h⟩ := h
        replace h := sm_out h; obtain ⟨⟨cs, n⟩, hr, h⟩ := h
        obtain ⟨h1, h⟩ := h
        replace h := sm_out h; obtain ⟨bs, hb, h⟩ := h
        exact ⟨_, _, h, s_strOf hop hs he hd hr (szOk_spec h1) hb⟩
      · cases hok
    · cases hok
  · cases hok

theorem so_bytesOf (o : Oper) (l0 : List Operand) (hok : okOp P o.op .bytesOf = some l0) (vals : List AV) (H : Heap) (K : AV → Heap → Prop) (h : so P .bytesOf vals H K) :
    ∃ v H', K v H' ∧ SStep P o l0 vals H v H' := by
  generalize hop : o.op = op at hok
  simp only [okOp] at hok
  simp only [so] at h
  split at hok
  · split at hok
    · rename_i hs
      split at hok
      · rename_i he
        obtain ⟨hc, rfl⟩ := of_ite hok
        subst hc
        replace h := a1_out h; obtain ⟨x, rfl, h⟩ := h
        replace h := isSl_out h; rcases h with ⟨rfl, h⟩ | ⟨b, off, n, sz, c, rfl, h⟩
        · exact h.elim
        · obtain ⟨rfl, h1, h⟩ := h
          replace h := sm_out h; obtain ⟨k, rfl, h⟩ := h
          obtain ⟨kb, hkb, hown⟩ : ∃ kb, blkAt H b = some kb ∧ kb.own = true := by
            cases hb : blkAt H b with
            | none => rw [hb] at h1; cases h1
            | some kb => rw [hb] at h1; exact ⟨kb, rfl, by simpa using h1⟩
          exact ⟨_, _, h.2, s_mark hop hs he b off n k hkb hown h.1⟩
      · cases hok
    · cases hok
  · cases hok

theorem so_sound (o : Oper) (s : SOp) (l : List Operand) (hok : okOp P o.op s = some l) (vals : List AV) (H : Heap) (K : AV → Heap → Prop) (h : so P s vals H K) :
    ∃ v H', K v H' ∧ SStep P o l vals H v H' := by
  cases s with
  | mv  => exact so_mv o  l hok vals H K h
  | pick  => exact so_pick o  l hok vals H K h
  | alloc x0 => exact so_alloc o x0 l hok vals H K h
  | box  => exact so_box o  l hok vals H K h
  | build x0 x1 => exact so_build o x0 x1 l hok vals H K h
  | bslice x0 x1 x2 x3 => exact so_bslice o x0 x1 x2 x3 l hok vals H K h
  | ld1  => exact so_ld1 o  l hok vals H K h
  | ldn x0 => exact so_ldn o x0 l hok vals H K h
  | st x0 => exact so_st o x0 l hok vals H K h
  | nilchk  => exact so_nilchk o  l hok vals H K h
  | bin x0 => exact so_bin o x0 l hok vals H K h
  | eqv x0 x1 => exact so_eqv o x0 x1 l hok vals H K h
  | eqb x0 => exact so_eqb o x0 l hok vals H K h
  | eqs x0 => exact so_eqs o x0 l hok vals H K h
  | eqnil x0 => exact so_eqnil o x0 l hok vals H K h
  | un x0 => exact so_un o x0 l hok vals H K h
  | conv x0 => exact so_conv o x0 l hok vals H K h
  | mkfn x0 x1 => exact so_mkfn o x0 x1 l hok vals H K h
  | mksl x0 x1 x2 => exact so_mksl o x0 x1 x2 l hok vals H K h
  | slice x0 x1 x2 x3 => exact so_slice o x0 x1 x2 x3 l hok vals H K h
  | aslice x0 x1 x2 x3 x4 => exact so_aslice o x0 x1 x2 x3 x4 l hok vals H K h
  | faddr x0 => exact so_faddr o x0 l hok vals H K h
  | fld x0 x1 x2 => exact so_fld o x0 x1 x2 l hok vals H K h
  | iaddrS x0 => exact so_iaddrS o x0 l hok vals H K h
  | iaddrA x0 x1 => exact so_iaddrA o x0 x1 l hok vals H K h
  | idxA x0 x1 x2 => exact so_idxA o x0 x1 x2 l hok vals H K h
  | ext x0 => exact so_ext o x0 l hok vals H K h
  | len  => exact so_len o  l hok vals H K h
  | lenA x0 => exact so_lenA o x0 l hok vals H K h
  | cap  => exact so_cap o  l hok vals H K h
  | app x0 x1 => exact so_app o x0 x1 l hok vals H K h
  | appZ x0 x1 x2 => exact so_appZ o x0 x1 x2 l hok vals H K h
  | copy x0 => exact so_copy o x0 l hok vals H K h
  | mn  => exact so_mn o  l hok vals H K h
  | mx  => exact so_mx o  l hok vals H K h
  | call x0 => exact so_call o x0 l hok vals H K h
  | callv  => exact so_callv o  l hok vals H K h
  | strOf => exact so_strOf o l hok vals H K h
  | bytesOf => exact so_bytesOf o l hok vals H K h
  | dead => simp only [so] at h
end
end Go.Proofs.Ytlohehkagaabfaa.Ah
