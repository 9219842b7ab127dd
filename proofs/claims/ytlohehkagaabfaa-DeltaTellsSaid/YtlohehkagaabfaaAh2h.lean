/- Ah2h: a part of the proof: steps over abstract values, or contracts of functions. Conditions: none. -/
import Derived.Test.YtlohehkagaabfaaAh2g
import Derived.Laws.StructEq
namespace Go.Proofs.Ytlohehkagaabfaa.Ah
open Go
section
variable {P : Program} {o : Oper}

theorem bytes_beq (p q : ByteArray) : (p == q) = decide (p = q) := by
  obtain ⟨x⟩ := p
  obtain ⟨y⟩ := q
  have h1 : ((⟨x⟩ : ByteArray) == ⟨y⟩) = (x == y) := rfl
  rw [h1]
  by_cases h : x = y
  · subst h; simp
  · simp [h]

mutual
/-- The cells of a type that is made of whole numbers, bools and strings, laid side by side. -/
def leafsT (P : Program) : Nat → TypeId → Option (List LK)
  | 0, _ => none
  | d + 1, t =>
    match P.underlying t with
    | some (.int _) => if P.cellsOf t = 1 then some [.int] else none
    | some .bool => if P.cellsOf t = 1 then some [.bool] else none
    | some .string => if P.cellsOf t = 1 then some [.str] else none
    | some (.struct fs) => match leafsF P d 0 fs.toList with
      | some l => if P.stoodInHeld t = false ∧ P.cellsOf t = l.length then some l else none
      | none => none
    | some (.array n e) => match leafsT P d e with
      | some l => if P.cellsOf t = n * P.cellsOf e ∧ P.cellsOf e = l.length then some (List.replicate n l).flatten else none
      | none => none
    | _ => none
def leafsF (P : Program) : Nat → Nat → List Field → Option (List LK)
  | _, _, [] => some []
  | 0, _, _ :: _ => none
  | d + 1, off, f :: fs => match leafsT P d f.type, leafsF P d (off + P.cellsOf f.type) fs with
    | some l, some l' => if f.name ≠ "_" ∧ f.offset = off ∧ P.cellsOf f.type = l.length then some (l ++ l') else none
    | _, _ => none
end

theorem eqCells_append : ∀ (ks ks' : List LK) (as bs as' bs' : List AV), as.length = ks.length → bs.length = ks.length → eqCells (ks ++ ks') (as ++ as') (bs ++ bs') = (eqCells ks as bs).bind fun p => (eqCells ks' as' bs').map fun q => p && q
  | [], ks', [], [], as', bs', _, _ => by simp [eqCells]
  | [], _, _ :: _, _, _, _, h, _ => by simp at h
  | [], _, _, _ :: _, _, _, _, h => by simp at h
  | _ :: _, _, [], _, _, _, h, _ => by simp at h
  | _ :: _, _, _, [], _, _, _, h => by simp at h
  | k :: ks, ks', a :: as, b :: bs, as', bs', h, h' => by
    have ih := eqCells_append ks ks' as bs as' bs' (by simpa using h) (by simpa using h')
    cases k <;> cases a <;> cases b <;> simp only [List.cons_append, eqCells] <;> (try rfl)
    case bool.bool.bool p q =>
      rw [ih]
      cases eqCells ks as bs <;> simp
      cases eqCells ks' as' bs' <;> simp
      cases decide (p = q) <;> simp
    case str.str.str p q =>
      rw [ih]
      cases eqCells ks as bs <;> simp
      cases eqCells ks' as' bs' <;> simp
      cases decide (p = q) <;> simp
    case int.int.int k p k' q =>
      split
      · rw [ih]
        cases eqCells ks as bs <;> simp
        cases eqCells ks' as' bs' <;> simp
        cases decide (p = q) <;> simp
      · rfl

theorem eqCells_len : ∀ (ks : List LK) (as bs : List AV) (r : Bool), eqCells ks as bs = some r → as.length = ks.length ∧ bs.length = ks.length
  | [], [], [], _, _ => by simp
  | [], _ :: _, _, _, h => by simp [eqCells] at h
  | [], [], _ :: _, _, h => by simp [eqCells] at h
  | k :: ks, [], _, _, h => by cases k <;> simp [eqCells] at h
  | k :: ks, a :: as, [], _, h => by cases k <;> cases a <;> simp [eqCells] at h
  | k :: ks, a :: as, b :: bs, r, h => by
    cases k <;> cases a <;> cases b <;> simp only [eqCells] at h <;> (try cases h)
    case bool.bool.bool p q => obtain ⟨x, hx, _⟩ := Option.map_eq_some_iff.1 h; simp [eqCells_len ks as bs x hx]
    case str.str.str p q => obtain ⟨x, hx, _⟩ := Option.map_eq_some_iff.1 h; simp [eqCells_len ks as bs x hx]
    case int.int.int k p k' q =>
      split at h
      · obtain ⟨x, hx, _⟩ := Option.map_eq_some_iff.1 h; simp [eqCells_len ks as bs x hx]
      · cases h

theorem eqCells_split {ks ks' : List LK} {as bs : List AV} {r : Bool} (h : eqCells (ks ++ ks') as bs = some r) :
    ∃ p q, eqCells ks (as.take ks.length) (bs.take ks.length) = some p ∧ eqCells ks' (as.drop ks.length) (bs.drop ks.length) = some q ∧ r = (p && q) := by
  obtain ⟨h1, h2⟩ := eqCells_len _ _ _ _ h
  rw [List.length_append] at h1 h2
  have := eqCells_append ks ks' (as.take ks.length) (bs.take ks.length) (as.drop ks.length) (bs.drop ks.length) (by simp; omega) (by simp; omega)
  rw [List.take_append_drop, List.take_append_drop, h] at this
  obtain ⟨p, hp, hq⟩ := Option.bind_eq_some_iff.1 this.symm
  obtain ⟨q, hq, hr⟩ := Option.map_eq_some_iff.1 hq
  exact ⟨p, q, hp, hq, hr.symm⟩

/-- A value of a type, out of its cells. -/
def valOf (P : Program) (t : TypeId) (xs : List Value) : Value := if aggB (P.underlying t) then .agg xs.toArray else xs.headD undef

theorem run_part {t : TypeId} {d : TypeDesc} (hd : P.underlying t = some d) {xs : List Value} {off n : Nat} (hn : (P.info? t).map (·.size) = some n) (h1 : aggB (some d) = false → n = 1) (hl : off + n ≤ xs.length) (w : World) :
    (part t xs.toArray off).run P w = .ok (valOf P t ((xs.drop off).take n)) w := by
  unfold valOf
  rw [hd]
  cases ha : aggB (some d) with
  | true =>
    simp [part, run_isAgg hd, ha, run_size hn, List.extract_eq_take_drop]
  | false =>
    obtain rfl := h1 ha
    have hlt : off < xs.length := by omega
    simp [part, run_isAgg hd, ha, hlt, List.headD_eq_head?_getD, List.head?_drop, List.head?_take]

theorem cellsOf_info {t : TypeId} {n : Nat} (h : P.cellsOf t = n) (hn : n ≠ 0) : (P.info? t).map (·.size) = some n := by
  unfold Program.cellsOf at h
  cases hi : P.info? t with
  | none => simp [hi] at h; omega
  | some i => simp [hi] at h; simp [h]

theorem underlying_info {t : TypeId} {d : TypeDesc} (h : P.underlying t = some d) : ∃ i, P.info? t = some i := by
  unfold Program.underlying at h
  cases hi : P.info? t with
  | none => simp [hi] at h
  | some i => exact ⟨i, rfl⟩

theorem cellsOf_info' {t : TypeId} {d : TypeDesc} (h : P.underlying t = some d) : (P.info? t).map (·.size) = some (P.cellsOf t) := by
  obtain ⟨i, hi⟩ := underlying_info h
  simp [Program.cellsOf, hi]

theorem leafs_under {d : Nat} {t : TypeId} {l : List LK} (h : leafsT P d t = some l) : ∃ ds, P.underlying t = some ds ∧ P.cellsOf t = l.length ∧ (aggB (some ds) = false → l.length = 1) := by
  cases d with
  | zero => simp [leafsT] at h
  | succ d =>
    simp only [leafsT] at h
    split at h
    · rename_i k hu
      split at h
      · cases h; exact ⟨_, hu, by simpa, fun _ => rfl⟩
      · cases h
    · rename_i hu
      split at h
      · cases h; exact ⟨_, hu, by simpa, fun _ => rfl⟩
      · cases h
    · rename_i hu
      split at h
      · cases h; exact ⟨_, hu, by simpa, fun _ => rfl⟩
      · cases h
    · rename_i fs hu
      split at h
      · split at h
        · rename_i h1
          cases h
          exact ⟨_, hu, h1.2, fun ha => by simp [aggB] at ha⟩
        · cases h
      · cases h
    · rename_i n e hu
      split at h
      · split at h
        · rename_i h1
          cases h
          refine ⟨_, hu, ?_, fun ha => by simp [aggB] at ha⟩
          rw [h1.1, h1.2]
          simp
        · cases h
      · cases h
    · cases h

mutual
theorem run_eqT {M : Val} : ∀ (d D : Nat) (t : TypeId) (ks : List LK), leafsT P d t = some ks → d ≤ D → ∀ (as bs : List AV) (xs ys : List Value) (r : Bool), eqCells ks as bs = some r → VRs M as xs → VRs M bs ys → ∀ w,
    (Op.equalIn D t (valOf P t xs) (valOf P t ys)).run P w = .ok r w
  | 0, _, _, _, h, _, _, _, _, _, _, _, _, _, _ => by simp [leafsT] at h
  | d + 1, 0, t, _, h, hD, _, _, _, _, _, _, _, _, _ => by omega
  | d + 1, D + 1, t, ks, h, hD, as, bs, xs, ys, r, he, hx, hy, w => by
    obtain ⟨hla, hlb⟩ := eqCells_len _ _ _ _ he
    simp only [leafsT] at h
    have leaf : ∀ ds, P.underlying t = some ds → aggB (some ds) = false → ks.length = 1 → ∃ a b x y, as = [a] ∧ bs = [b] ∧ VR M a x ∧ VR M b y ∧ valOf P t xs = x ∧ valOf P t ys = y := by
      intro ds hu ha h1
      obtain ⟨a, rfl⟩ := List.length_eq_one_iff.1 (hla.trans h1)
      obtain ⟨b, rfl⟩ := List.length_eq_one_iff.1 (hlb.trans h1)
      obtain ⟨x, rfl, hx'⟩ := VRs.one hx
      obtain ⟨y, rfl, hy'⟩ := VRs.one hy
      exact ⟨a, b, x, y, rfl, rfl, hx', hy', by simp [valOf, hu, ha], by simp [valOf, hu, ha]⟩
    split at h
    · rename_i k hu
      split at h
      · cases h
        obtain ⟨a, b, x, y, rfl, rfl, hx', hy', e1, e2⟩ := leaf _ hu rfl rfl
        rw [e1, e2]
        cases a <;> cases b <;> simp only [eqCells] at he <;> (try cases he)
        rename_i k1 p k2 q
        simp only [VR] at hx' hy'
        subst hx'; subst hy'
        split at he
        · rename_i hk
          subst hk
          simp at he
          subst he
          rw [run_equalIn_int w D t k1 k p q hu]
          rfl
        · cases he
      · cases h
    · rename_i hu
      split at h
      · cases h
        obtain ⟨a, b, x, y, rfl, rfl, hx', hy', e1, e2⟩ := leaf _ hu rfl rfl
        rw [e1, e2]
        cases a <;> cases b <;> simp only [eqCells] at he <;> (try cases he)
        rename_i p q
        simp only [VR] at hx' hy'
        subst hx'; subst hy'
        rw [run_equalIn_bool' w D t p q hu]
        cases p <;> cases q <;> rfl
      · cases h
    · rename_i hu
      split at h
      · cases h
        obtain ⟨a, b, x, y, rfl, rfl, hx', hy', e1, e2⟩ := leaf _ hu rfl rfl
        rw [e1, e2]
        cases a <;> cases b <;> simp only [eqCells] at he <;> (try cases he)
        rename_i p q
        simp only [VR] at hx' hy'
        subst hx'; subst hy'
        rw [run_equalIn_string w D t p q hu, ← beq_toListBytes]
        congr 1
        rw [bytes_beq]
        simp
      · cases h
    · rename_i fs hu
      split at h
      · rename_i l hl
        split at h
        · rename_i h1
          cases h
          simp only [valOf, hu, aggB, if_true]
          have hfo : P.fieldsOf t = fs := by simp [Program.fieldsOf, hu]
          rw [run_equalIn_struct w D t _ _ (by rw [hfo]; exact hu) h1.1, hfo]
          have := run_eqF d D 0 fs.toList ks hl (by omega) as bs xs ys r (by simpa using he) hx hy (by omega) (by omega) w
          simpa using this
        · cases h
      · cases h
    · rename_i n e hu
      split at h
      · rename_i l hl
        split at h
        · rename_i h1
          cases h
          simp only [valOf, hu, aggB, if_true]
          obtain ⟨ds, hue, hc, hagg⟩ := leafs_under hl
          have hinfo := cellsOf_info' (P := P) hue
          rw [h1.2] at hinfo
          have hxl := hx.length
          have hyl := hy.length
          simp only [List.length_flatten, List.map_replicate, List.sum_replicate_nat] at hla hlb
          have key : ∀ (m j : Nat), j + m = n → ∀ r, eqCells (List.replicate m l).flatten (as.drop (j * l.length)) (bs.drop (j * l.length)) = some r → ∀ w, (do
              let s ← forIn (List.range' j m) ((none, ()) : Option Bool × Unit) fun i _ => do
                let a ← part e xs.toArray (i * l.length)
                let b ← part e ys.toArray (i * l.length)
                let q ← Op.equalIn D e a b
                if q = false then pure (ForInStep.done (some false, ())) else pure (ForInStep.yield (none, ()))
              match s.1 with
              | some a => pure a
              | none => pure true : Sem Bool).run P w = .ok r w := by
            intro m
            induction m with
            | zero =>
              intro j hj r hr w
              obtain ⟨k1, k2⟩ := eqCells_len _ _ _ _ hr
              simp at k1 k2
              simp [eqCells, List.drop_of_length_le (show as.length ≤ j * l.length by omega), List.drop_of_length_le (show bs.length ≤ j * l.length by omega)] at hr
              subst hr
              simp
            | succ m ih =>
              intro j hj r hr w
              rw [List.replicate_succ, List.flatten_cons] at hr
              obtain ⟨p, q, hp, hq, rfl⟩ := eqCells_split hr
              have hjl : j * l.length + l.length ≤ as.length := by
                rw [hla, ← Nat.succ_mul]
                exact Nat.mul_le_mul_right _ (by omega)
              have hjl' : j * l.length + l.length ≤ bs.length := by
                rw [hlb, ← Nat.succ_mul]
                exact Nat.mul_le_mul_right _ (by omega)
              simp only [List.range'_succ, List.forIn_cons, bind_assoc, Sem.run_bind]
              rw [run_part hue hinfo hagg (by omega), Result.andThen_ok, run_part hue hinfo hagg (by omega), Result.andThen_ok]
              rw [run_eqT d D e l hl (by omega) _ _ _ _ p hp ((hx.drop _).take _) ((hy.drop _).take _) w, Result.andThen_ok]
              cases p with
              | false => simp
              | true =>
                rw [List.drop_drop, List.drop_drop] at hq
                have := ih (j + 1) (by omega) q (by rw [Nat.succ_mul]; exact hq) w
                simpa using this
          have := key n 0 (by omega) r (by simpa using he) w
          rw [Op.equalIn]
          simp only [Sem.run_bind, run_underlying hu, Result.andThen_ok, run_size hinfo]
          simp only [Std.Legacy.Range.forIn_eq_forIn_range', Std.Legacy.Range.size]
          simp only [Sem.run_bind] at this
          simp
          refine Eq.trans ?_ this
          congr 1
          funext a w'
          obtain ⟨a1, a2⟩ := a
          cases a1 <;> rfl
        · cases h
      · cases h
    · cases h
theorem run_eqF {M : Val} : ∀ (d D off : Nat) (fs : List Field) (ks : List LK), leafsF P d off fs = some ks → d ≤ D → ∀ (as bs : List AV) (xs ys : List Value) (r : Bool), eqCells ks (as.drop off) (bs.drop off) = some r → VRs M as xs → VRs M bs ys → off ≤ as.length → off ≤ bs.length → ∀ w,
    (Op.eqFields D xs.toArray ys.toArray fs).run P w = .ok r w
  | d, _, off, [], ks, h, _, as, bs, _, _, r, he, _, _, _, _, w => by
    have hk : ks = [] := by cases d <;> simp [leafsF] at h <;> exact h
    subst hk
    obtain ⟨h1, h2⟩ := eqCells_len _ _ _ _ he
    have h1' := List.eq_nil_of_length_eq_zero h1
    have h2' := List.eq_nil_of_length_eq_zero h2
    rw [h1', h2'] at he
    simp [eqCells] at he
    subst he
    simp [Op.eqFields]
  | 0, _, _, _ :: _, _, h, _, _, _, _, _, _, _, _, _, _, _, _ => by simp [leafsF] at h
  | d + 1, D, off, f :: fs, ks, h, hD, as, bs, xs, ys, r, he, hx, hy, ho, ho', w => by
    simp only [leafsF] at h
    split at h
    · rename_i l l' h1 h2
      split at h
      · rename_i h3
        obtain ⟨hn, hof, hlen⟩ := h3
        cases h
        obtain ⟨p, q, hp, hq, rfl⟩ := eqCells_split he
        obtain ⟨ds, hu, hc, hagg⟩ := leafs_under h1
        have hxl := hx.length
        have hyl := hy.length
        obtain ⟨g1, g2⟩ := eqCells_len _ _ _ _ he
        simp only [List.length_drop, List.length_append] at g1 g2
        have hinfo := cellsOf_info' (P := P) hu
        rw [hlen] at hinfo
        simp only [Op.eqFields, hn, ne_eq, not_false_eq_true, if_true, Sem.run_bind]
        rw [run_part hu hinfo hagg (by rw [hof]; omega), Result.andThen_ok, run_part hu hinfo hagg (by rw [hof]; omega), Result.andThen_ok, hof]
        rw [run_eqT d D f.type l h1 (by omega) _ _ _ _ p hp ((hx.drop off).take _) ((hy.drop off).take _) w, Result.andThen_ok]
        cases p with
        | false => simp
        | true =>
          simp only [Bool.not_true, Bool.false_eq_true, if_false, Bool.true_and]
          rw [List.drop_drop, List.drop_drop, ← hlen] at hq
          exact run_eqF d D (off + P.cellsOf f.type) fs l' h2 (by omega) as bs xs ys q hq hx hy (by omega) (by omega) w
      · cases h
    · cases h
end

theorem valOf_agg {t : TypeId} (h : aggB (P.underlying t) = true) {xs : List Value} : valOf P t xs = .agg xs.toArray := by simp [valOf, h]

theorem eqv_run {neg : Bool} {t : TypeId} {p q : Value} {r : Bool} {w : World} (h : ∀ op : BinOp, op = .eql ∨ op = .neq → (binOp op t p q).run P w = .ok (.bool (if op = .neq then !r else r)) w) :
    (binOp (if neg then .neq else .eql) t p q).run P w = .ok (.bool (if neg then !r else r)) w := by
  cases neg
  · exact h .eql (.inl rfl)
  · exact h .neq (.inr rfl)

/-- '==' and '!=' of structs and arrays. -/
theorem s_eqv {x y : Operand} {neg : Bool} {t u : TypeId} (ho : o.op = .binOp (if neg then .neq else .eql) t x y u) {ks : List LK} {d : Nat} (hk : leafsT P d t = some ks) (hd : d ≤ 10000) (hg : P.eqGuardType P.depth t = false)
    (hagg : aggB (P.underlying t) = true) {cs cs' : List AV} {r : Bool} (he : eqCells ks cs cs' = some r) (H : Heap) :
    SStep P o [x, y] [.agg cs, .agg cs'] H (.bool (if neg then !r else r)) H :=
  .of_pure fun M w a hH hv' => by
    obtain ⟨p, q, hy, h1, h2⟩ := hv'.two
    obtain ⟨e1, e2⟩ := map2 hy
    simp only [VR] at h1 h2
    obtain ⟨us, rfl, h1⟩ := h1
    obtain ⟨us', rfl, h2⟩ := h2
    have hr := run_eqT d 10000 t ks hk hd cs cs' us us' r he h1 h2 w
    rw [valOf_agg hagg, valOf_agg hagg] at hr
    have hguard := fun op : BinOp => run_eqGuard_agg (P := P) w op t x y us.toArray us'.toArray hg
    have hrun := eqv_run (P := P) (neg := neg) (t := t) (p := .agg us.toArray) (q := .agg us'.toArray) (r := r) (w := w) (by
      rintro op (rfl | rfl)
      · rw [run_eql_struct, hr]; rfl
      · rw [run_neq_struct, hr]; rfl)
    exact ⟨_, by simp [execOp, ho, e1, e2, hguard, hrun], rfl⟩

theorem s_eqb {x y : Operand} {neg : Bool} {t u : TypeId} (ho : o.op = .binOp (if neg then .neq else .eql) t x y u) (ht : P.underlying t = some .bool) (b b' : Bool) (H : Heap) :
    SStep P o [x, y] [.bool b, .bool b'] H (.bool (if neg then !decide (b = b') else decide (b = b'))) H :=
  .of_pure fun M w a hH hv' => by
    obtain ⟨p, q, hy, h1, h2⟩ := hv'.two
    obtain ⟨e1, e2⟩ := map2 hy
    simp only [VR] at h1 h2
    subst h1; subst h2
    have hguard : ∀ op : BinOp, (eqGuard op t x y (.bool b) (.bool b')).run P w = .ok () w := by
      intro op
      unfold eqGuard
      cases op <;> rfl
    have hr : (b == b') = decide (b = b') := by cases b <;> cases b' <;> rfl
    have hrun := eqv_run (P := P) (neg := neg) (t := t) (p := .bool b) (q := .bool b') (r := decide (b = b')) (w := w) (by
      rintro op (rfl | rfl) <;> simp [binOp, Op.equal, Op.maxDepth, run_equalIn_bool' w 9999 t b b' ht, hr])
    exact ⟨_, by simp [execOp, ho, e1, e2, hguard, hrun], rfl⟩

theorem s_eqs {x y : Operand} {neg : Bool} {t u : TypeId} (ho : o.op = .binOp (if neg then .neq else .eql) t x y u) (b b' : ByteArray) (H : Heap) :
    SStep P o [x, y] [.str b, .str b'] H (.bool (if neg then !decide (b = b') else decide (b = b'))) H :=
  .of_pure fun M w a hH hv' => by
    obtain ⟨p, q, hy, h1, h2⟩ := hv'.two
    obtain ⟨e1, e2⟩ := map2 hy
    simp only [VR] at h1 h2
    subst h1; subst h2
    have hguard : ∀ op : BinOp, (eqGuard op t x y (.string b) (.string b')).run P w = .ok () w := by
      intro op
      unfold eqGuard
      cases op <;> rfl
    have hrun := eqv_run (P := P) (neg := neg) (t := t) (p := .string b) (q := .string b') (r := decide (b = b')) (w := w) (by
      rintro op (rfl | rfl) <;> simp [binOp, Op.stringOp, ← beq_toListBytes, bytes_beq])
    exact ⟨_, by simp [execOp, ho, e1, e2, hguard, hrun], rfl⟩

/-- '== nil', '!= nil' of a slice. -/
theorem s_eqnilS {x : Operand} {y : Operand} {neg : Bool} {t u e : TypeId} (ho : o.op = .binOp (if neg then .neq else .eql) t x y u) (hy : y = .const (.slice none 0 0)) (ht : P.underlying t = some (.slice e)) (v : AV) (isn : Bool)
    (hv : ∀ M x, VR M v x → ∃ ad n c, x = .slice ad n c ∧ ad.isNone = isn) (H : Heap) :
    SStep P o [x] [v] H (.bool (if neg then !isn else isn)) H :=
  .of_pure fun M w a hH hv' => by
    obtain ⟨p, hp, h1⟩ := hv'.one
    have e1 := map1 hp
    obtain ⟨ad, n, c, rfl, hn⟩ := hv M p h1
    subst hy
    have e2 : a.eval (.const (.slice none 0 0)) = .slice none 0 0 := rfl
    have hguard : ∀ op : BinOp, (eqGuard op t x (.const (.slice none 0 0)) (.slice ad n c) (.slice none 0 0)).run P w = .ok () w := by
      intro op
      unfold eqGuard
      cases op <;> rfl
    have hrun := eqv_run (P := P) (neg := neg) (t := t) (p := .slice ad n c) (q := .slice none 0 0) (r := isn) (w := w) (by
      have hq : ∀ d, (Op.equalIn (d + 1) t (.slice ad n c) (.slice none 0 0)).run P w = .ok isn w := by
        intro d
        rw [Op.equalIn]
        cases ad <;> simp [run_underlying ht, ← hn]
      rintro op (rfl | rfl)
      · simp only [binOp, Op.equal, Op.maxDepth]
        simp [hq 9999]
      · simp only [binOp, Op.equal, Op.maxDepth]
        simp [hq 9999])
    exact ⟨_, by simp [execOp, ho, e1, e2, hguard, hrun], rfl⟩
end
end Go.Proofs.Ytlohehkagaabfaa.Ah
