/- Ah2d: a part of the proof: steps over abstract values, or contracts of functions. Conditions: none. -/
import Derived.Test.YtlohehkagaabfaaAh2c
namespace Go.Proofs.Ytlohehkagaabfaa.Ah
open Go
section
variable {P : Program} {o : Oper}

theorem VRs.all_size {M : Val} {v : AV} {x : Value} (h : VR M v x) (hf : v.full = true) : x.cells.size = v.cells.length := by
  have := (h.cells (AV.full_ne hf)).length
  simpa using this

theorem s_st {t : TypeId} {x y : Operand} (ho : o.op = .store t x y) {n : Nat} (hn : (P.info? t).map (·.size) = some n) {b off : Nat} {k : Blk} {v : AV} {H : Heap} (hb : blkAt H b = some k)
    (hown : k.own = true) (hf : v.full = true) (hlen : v.cells.length = n) (hl : off + n ≤ k.cells.length) :
    SStep P o [x, y] [.ptr b off, v] H (.tup []) (H.set b (some ⟨setCells k.cells off v.cells, true⟩)) :=
  .of_run fun M w a hH hv' => by
    obtain ⟨x', y', hy, h1, h2⟩ := hv'.two
    obtain ⟨e1, e2⟩ := map2 hy
    simp only [VR] at h1
    obtain ⟨l, hM, rfl⟩ := h1
    have hsz := VRs.all_size h2 hf
    obtain ⟨w', g1, g2, g3⟩ := run_st (P := P) v.cells y'.cells.toList H w b k l off hH (Kept.refl M H w) (blkAt_some hb) hown hM (by omega) hf (h2.cells (AV.full_ne hf)) 0 (l.off + off) (by omega)
    refine ⟨.skip, undef, w', M, ?_, .inr ⟨rfl, rfl⟩, g2, g3, by simp only [VR, VRs]; exact ⟨[], rfl, rfl⟩⟩
    have : ¬ y'.cells.size ≠ n := by omega
    simp [execOp, ho, e1, e2, Instr.storeAt, Instr.sureAddr, storeVar, run_size hn, this, g1]

theorem s_nilchk {x : Operand} (ho : o.op = .nilCheck x) (b off : Nat) (H : Heap) : SStep P o [x] [.ptr b off] H (.ptr b off) H :=
  .of_pure fun M w a hH hv => by
    obtain ⟨y, hy, h1⟩ := hv.one
    have e := map1 hy
    have h1' := h1
    simp only [VR] at h1'
    obtain ⟨l, hM, rfl⟩ := h1'
    exact ⟨_, by simp [execOp, ho, e], h1⟩

theorem s_faddr {t : TypeId} {x : Operand} {f : Nat} (ho : o.op = .fieldAddr t x f) {fs : Array Field} (hd : P.underlying t = some (.struct fs)) {fd : Field} (hf : fs[f]? = some fd) {n : Nat} (hn : (P.info? fd.type).map (·.size) = some n) (hn0 : n ≠ 0)
    (b off : Nat) (H : Heap) : SStep P o [x] [.ptr b off] H (.ptr b (off + fd.offset)) H :=
  .of_pure fun M w a hH hv => by
    obtain ⟨y, hy, h1⟩ := hv.one
    have e := map1 hy
    simp only [VR] at h1
    obtain ⟨l, hM, rfl⟩ := h1
    refine ⟨.pointer (some ⟨l.blk, l.off + off + fd.offset, none⟩), ?_, by simp only [VR]; exact ⟨l, hM, by rw [Nat.add_assoc]⟩⟩
    simp [execOp, ho, e, Instr.fieldAt, run_underlying hd, hf, Instr.sureAddr, fieldPlace, run_size hn, hn0, plain_add]

theorem s_iaddrS {t : TypeId} {x i : Operand} (ho : o.op = .indexAddr t x i) {et : TypeId} (hd : P.underlying t = some (.slice et)) {n : Nat} (hn : (P.info? et).map (·.size) = some n)
    (b off len : Nat) (c : Option Nat) (k : IntKind) (j : Int) (h0 : 0 ≤ j) (hj : j < len) (H : Heap) : SStep P o [x, i] [.sl b off len n c, .int k j] H (.ptr b (off + j.toNat * n)) H :=
  .of_pure fun M w a hH hv => by
    obtain ⟨y, z, hy, h1, h2⟩ := hv.two
    obtain ⟨e1, e2⟩ := map2 hy
    simp only [VR] at h1 h2
    subst h2
    obtain ⟨l, hM, ⟨ad, cap, rfl, hc1, hc2, _⟩ | ⟨rfl, _⟩⟩ := h1
    case inr => omega
    obtain ⟨rfl, _⟩ := hc2 (by omega)
    refine ⟨.pointer (some ⟨l.blk, l.off + off + j.toNat * n, none⟩), ?_, by simp only [VR]; exact ⟨l, hM, by rw [Nat.add_assoc]⟩⟩
    simp [execOp, ho, e1, e2, Instr.indexAt, asIntOf, run_underlying hd, h0, hj, run_size hn, plain_add]

theorem s_iaddrA {t : TypeId} {x i : Operand} (ho : o.op = .indexAddr t x i) {m : Nat} {et : TypeId} (hd : P.underlying t = some (.array m et)) {n : Nat} (hn : (P.info? et).map (·.size) = some n)
    (b off : Nat) (k : IntKind) (j : Int) (h0 : 0 ≤ j) (hj : j < m) (H : Heap) : SStep P o [x, i] [.ptr b off, .int k j] H (.ptr b (off + j.toNat * n)) H :=
  .of_pure fun M w a hH hv => by
    obtain ⟨y, z, hy, h1, h2⟩ := hv.two
    obtain ⟨e1, e2⟩ := map2 hy
    simp only [VR] at h1 h2
    subst h2
    obtain ⟨l, hM, rfl⟩ := h1
    refine ⟨.pointer (some ⟨l.blk, l.off + off + j.toNat * n, none⟩), ?_, by simp only [VR]; exact ⟨l, hM, by rw [Nat.add_assoc]⟩⟩
    simp [execOp, ho, e1, e2, Instr.indexAt, asIntOf, run_underlying hd, h0, hj, Instr.sureAddr, run_size hn, plain_add]

theorem s_ext {x : Operand} {i : Nat} (ho : o.op = .extract x i) {vs : List AV} {v : AV} (hv : vs[i]? = some v) (H : Heap) : SStep P o [x] [.tup vs] H v H :=
  .of_pure fun M w a hH hv' => by
    obtain ⟨y, hy, h1⟩ := hv'.one
    have e := map1 hy
    simp only [VR] at h1
    obtain ⟨us, rfl, h2⟩ := h1
    obtain ⟨x', hx, hvx⟩ := h2.get i v hv
    exact ⟨x', by simp [execOp, ho, e, Instr.extract, hx], hvx⟩

theorem s_un {x : Operand} {op : UnOp} {t : TypeId} (ho : o.op = .unOp op t x) {v v' : AV} (H : Heap) (z z' : Value) (hz : ∀ M x, VR M v x → x = z) (hr : ∀ w, (Op.unary op z).run P w = .ok z' w) (hz' : ∀ M, VR M v' z') : SStep P o [x] [v] H v' H :=
  .of_pure fun M w a hH hv' => by
    obtain ⟨y, hy, h1⟩ := hv'.one
    have e := map1 hy
    obtain rfl := hz M y h1
    exact ⟨z', by simp [execOp, ho, e, hr], hz' M⟩

theorem s_conv {x : Operand} {s d : TypeId} (ho : o.op = .convert s d x) {k k0 : IntKind} {ds : TypeDesc} (hs : P.underlying s = some ds) (hd : P.underlying d = some (.int k)) (n : Int) (H : Heap) : SStep P o [x] [.int k0 n] H (.int k (k.wrap n)) H :=
  .of_pure fun M w a hH hv' => by
    obtain ⟨y, hy, h1⟩ := hv'.one
    have e := map1 hy
    simp only [VR] at h1
    subst h1
    refine ⟨.int k (k.wrap n), ?_, rfl⟩
    simp [execOp, ho, e, convert, run_underlying hs, run_underlying hd, Conv.intToInt]

theorem s_mkfn {f : Fn} {xs ys : Array Operand} (ho : o.op = .makeFunc f xs ys) {vs : List AV} (H : Heap) (n : Nat) (hn : n = xs.size) : SStep P o (xs.toList ++ ys.toList) vs H (.fn f (vs.take n) (vs.drop n)) H :=
  .of_pure fun M w a hH hv' => by
    subst hn
    refine ⟨.func f (xs.map a.eval) (ys.map a.eval), by simp [execOp, ho, Instr.makeFunc], ?_⟩
    simp only [VR]
    have h1 := hv'.take xs.size
    have h2 := hv'.drop xs.size
    simp only [List.map_append] at h1 h2
    rw [show (xs.toList.map a.eval ++ ys.toList.map a.eval).take xs.size = xs.toList.map a.eval by rw [List.take_append_of_le_length (by simp), List.take_of_length_le (l := xs.toList.map a.eval) (by simp)]] at h1
    rw [show (xs.toList.map a.eval ++ ys.toList.map a.eval).drop xs.size = ys.toList.map a.eval by rw [List.drop_append_of_le_length (by simp), List.drop_of_length_le (l := xs.toList.map a.eval) (by simp), List.nil_append]] at h2
    exact ⟨_, _, by simp [← Array.toList_map], h1, h2⟩

theorem s_fld1 {t : TypeId} {x : Operand} {f : Nat} (ho : o.op = .field t x f) {fs : Array Field} (hd : P.underlying t = some (.struct fs)) {fd : Field} (hf : fs[f]? = some fd) {d : TypeDesc} (hfd : P.underlying fd.type = some d) (ha : aggB (some d) = false)
    {cs : List AV} {v : AV} (hv : cs[fd.offset]? = some v) (H : Heap) : SStep P o [x] [.agg cs] H v H :=
  .of_pure fun M w a hH hv' => by
    obtain ⟨y, hy, h1⟩ := hv'.one
    have e := map1 hy
    simp only [VR] at h1
    obtain ⟨us, rfl, h2⟩ := h1
    obtain ⟨x', hx, hvx⟩ := h2.get _ v hv
    exact ⟨x', by simp [execOp, ho, e, Instr.field, run_underlying hd, hf, asAgg, part, run_isAgg hfd, ha, hx], hvx⟩

theorem s_fldn {t : TypeId} {x : Operand} {f : Nat} (ho : o.op = .field t x f) {fs : Array Field} (hd : P.underlying t = some (.struct fs)) {fd : Field} (hf : fs[f]? = some fd) {d : TypeDesc} (hfd : P.underlying fd.type = some d) (ha : aggB (some d) = true)
    {n : Nat} (hn : (P.info? fd.type).map (·.size) = some n) {cs : List AV} (H : Heap) : SStep P o [x] [.agg cs] H (.agg ((cs.drop fd.offset).take n)) H :=
  .of_pure fun M w a hH hv' => by
    obtain ⟨y, hy, h1⟩ := hv'.one
    have e := map1 hy
    simp only [VR] at h1
    obtain ⟨us, rfl, h2⟩ := h1
    refine ⟨.agg (us.toArray.extract fd.offset (fd.offset + n)), by simp [execOp, ho, e, Instr.field, run_underlying hd, hf, asAgg, part, run_isAgg hfd, ha, run_size hn], ?_⟩
    simp only [VR]
    refine ⟨(us.drop fd.offset).take n, ?_, (h2.drop _).take _⟩
    rw [List.extract_toArray]
    simp [List.extract_eq_take_drop]

theorem s_idx1 {t : TypeId} {x i : Operand} (ho : o.op = .index t x i) {m : Nat} {et : TypeId} (hd : P.underlying t = some (.array m et)) {d : TypeDesc} (hfd : P.underlying et = some d) (ha : aggB (some d) = false) (hn : (P.info? et).map (·.size) = some 1)
    {cs : List AV} {v : AV} {k : IntKind} {j : Int} (h0 : 0 ≤ j) (hj : j < m) (hv : cs[j.toNat]? = some v) (H : Heap) : SStep P o [x, i] [.agg cs, .int k j] H v H :=
  .of_pure fun M w a hH hv' => by
    obtain ⟨y, z, hy, h1, h2⟩ := hv'.two
    obtain ⟨e1, e2⟩ := map2 hy
    simp only [VR] at h1 h2
    subst h2
    obtain ⟨us, rfl, h2⟩ := h1
    obtain ⟨x', hx, hvx⟩ := h2.get _ v hv
    exact ⟨x', by simp [execOp, ho, e1, e2, Instr.index, asIntOf, run_underlying hd, h0, hj, run_size hn, part, run_isAgg hfd, ha, hx], hvx⟩

theorem s_len {x : Operand} {t : TypeId} {c : Call} (ho : o.op = .call c) (hc : c = { callee := .builtin .len, args := #[x], argTypes := #[t] }) {et : TypeId} (hd : P.underlying t = some (.slice et)) (v : AV) (n : Nat)
    (hv : ∀ M x, VR M v x → ∃ a c, x = .slice a n c) (H : Heap) : SStep P o [x] [v] H (.int .i64 n) H :=
  .of_pure fun M w a hH hv' => by
    obtain ⟨y, hy, h1⟩ := hv'.one
    have e := map1 hy
    obtain ⟨ad, cp, rfl⟩ := hv M y h1
    subst hc
    exact ⟨.int .i64 n, by simp [execOp, ho, e, resolve, invoke, builtin, Builtin.len_, run_underlying hd, goInt], rfl⟩

theorem s_lenA {x : Operand} {t : TypeId} {c : Call} (ho : o.op = .call c) (hc : c = { callee := .builtin .len, args := #[x], argTypes := #[t] }) {n : Nat} {et : TypeId} (hd : P.underlying t = some (.array n et)) (v : AV) (H : Heap) : SStep P o [x] [v] H (.int .i64 n) H :=
  .of_pure fun M w a hH hv' => by
    obtain ⟨y, hy, h1⟩ := hv'.one
    have e := map1 hy
    subst hc
    exact ⟨.int .i64 n, by simp [execOp, ho, resolve, invoke, builtin, Builtin.len_, run_underlying hd, goInt], rfl⟩

theorem s_cap {x : Operand} {t : TypeId} {c : Call} (ho : o.op = .call c) (hc : c = { callee := .builtin .cap, args := #[x], argTypes := #[t] }) {et : TypeId} (hd : P.underlying t = some (.slice et)) (v : AV) (n : Nat)
    (hv : ∀ M x, VR M v x → ∃ a m, x = .slice a m n) (H : Heap) : SStep P o [x] [v] H (.int .i64 n) H :=
  .of_pure fun M w a hH hv' => by
    obtain ⟨y, hy, h1⟩ := hv'.one
    have e := map1 hy
    obtain ⟨ad, cp, rfl⟩ := hv M y h1
    subst hc
    exact ⟨.int .i64 n, by simp [execOp, ho, e, resolve, invoke, builtin, Builtin.cap_, run_underlying hd, goInt], rfl⟩

theorem s_mnmx {x y : Operand} {t u : TypeId} {c : Call} (ho : o.op = .call c) (mx : Bool) (hc : c = { callee := .builtin (if mx then .max else .min), args := #[x, y], argTypes := #[t, u] }) (k : IntKind) (p q : Int) (H : Heap) :
    SStep P o [x, y] [.int k p, .int k q] H (.int k (if mx then (if q > p then q else p) else (if q < p then q else p))) H :=
  .of_pure fun M w a hH hv' => by
    obtain ⟨y', z', hy, h1, h2⟩ := hv'.two
    obtain ⟨e1, e2⟩ := map2 hy
    simp only [VR] at h1 h2
    subst h1; subst h2; subst hc
    cases mx
    · exact ⟨.int k (if q < p then q else p), by simp [execOp, ho, e1, e2, resolve, invoke, builtin, Builtin.min_, Builtin.min2], rfl⟩
    · exact ⟨.int k (if q > p then q else p), by simp [execOp, ho, e1, e2, resolve, invoke, builtin, Builtin.max_, Builtin.max2], rfl⟩

/-! Calls -/
theorem step_call {opds : List Operand} {vals args : List AV} {H H' : Heap} {v : AV} {f : FuncId} (hc : ACall P f args H v H')
    (hr : ∀ M w (a : Act), HRel M H w → VRs M vals (opds.map a.eval) → ∃ xs, (execOp a.eval o).run P w = .ok (.enter f (List.toArray xs)) w ∧ VRs M args xs) : SStep P o opds vals H v H' := by
  intro M w a hH hv next Q hn
  obtain ⟨xs, h1, h2⟩ := hr M w a hH hv
  unfold Oper.wp
  rw [h1, Oper.upon_enter]
  refine (hc M w xs hH h2).mono ?_
  rintro e w' ⟨x, M', rfl, g1, g2, g3⟩
  exact hn x M' w' g1 g2 g3

theorem run_enter {f : FuncId} (h : hasBody P f = true) (args : Array Value) (w : World) : (callFunc f args).run P w = .ok (.enter f args) w := by
  unfold hasBody at h
  cases hf : P.funcs[f]? with
  | none => simp [hf] at h
  | some fn =>
    simp only [hf, Bool.and_eq_true, bne_iff_ne, ne_eq] at h
    obtain ⟨h1, h2⟩ := h
    obtain ⟨b, hb⟩ := Option.isSome_iff_exists.1 h2
    simp [callFunc, hf, h1, hb]

theorem s_call {f : FuncId} {args : Array Operand} {ts : Array TypeId} {c : Call} (ho : o.op = .call c) (hc : c = { callee := .value (.func f), args, argTypes := ts }) (hb : hasBody P f = true) {vals : List AV} {H H' : Heap} {v : AV} (h : ACall P f vals H v H') :
    SStep P o args.toList vals H v H' :=
  step_call h fun M w a hH hv => by
    subst hc
    refine ⟨_, ?_, hv⟩
    have : (a.eval (.func f)) = .func (.func f) #[] #[] := rfl
    simp [execOp, ho, resolve, this, Deferred.ofValue, invoke, run_enter hb, ← Array.toList_map]

theorem s_callv {g : Operand} {args : Array Operand} {ts : Array TypeId} {c : Call} (ho : o.op = .call c) (hc : c = { callee := .value g, args, argTypes := ts }) {f : FuncId} (hb : hasBody P f = true) {xs ys vals : List AV} {H H' : Heap} {v : AV} (h : ACall P f (xs ++ vals ++ ys) H v H') :
    SStep P o (g :: args.toList) (.fn (.func f) xs ys :: vals) H v H' :=
  step_call h fun M w a hH hv => by
    subst hc
    simp only [List.map_cons] at hv
    simp only [VRs] at hv
    obtain ⟨x, us, he, h1, h2⟩ := hv
    simp only [List.cons.injEq] at he
    obtain ⟨e1, rfl⟩ := he
    simp only [VR] at h1
    obtain ⟨p, q, rfl, hp, hq⟩ := h1
    refine ⟨p ++ args.toList.map a.eval ++ q, ?_, (hp.append h2).append hq⟩
    simp [execOp, ho, resolve, e1, Deferred.ofValue, invoke, run_enter hb]
end
end Go.Proofs.Ytlohehkagaabfaa.Ah
