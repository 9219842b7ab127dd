/- Ah2: a part of the proof: steps over abstract values, or contracts of functions. Conditions: none. -/
/- The small steps: operations in a plain form, what each says of abstract values and heaps, and the test that such an operation stands for one of the machine's. -/
import Derived.Test.YtlohehkagaabfaaAh1
import Derived.Laws.Append
namespace Go.Proofs.Ytlohehkagaabfaa.Ah
open Go

inductive SO where
  | r (i : Nat)
  | c (v : AV)

/-- What a cell may be that is held against another one. -/
inductive LK where
  | int | bool | str
  deriving DecidableEq

inductive SOp where
  | mv | pick
  | alloc (zero : List AV)
  | box
  | build (zero : List AV) (places : List (Nat × Nat))
  | bslice (sz len : Nat) (zero : List AV) (places : List (Nat × Nat))
  | ld1 | ldn (n : Nat) | st (n : Nat)
  | nilchk
  | bin (op : BinOp)
  | eqv (neg : Bool) (ks : List LK)
  | eqb (neg : Bool) | eqs (neg : Bool) | eqnil (neg : Bool)
  | un (op : UnOp)
  | conv (k : IntKind)
  | strOf | bytesOf
  | mkfn (f : Fn) (nfirst : Nat)
  | mksl (sz bytes : Nat) (zero : List AV)
  | slice (sz : Nat) (lo hi mx : Bool)
  | aslice (sz n : Nat) (lo hi mx : Bool)
  | faddr (off : Nat) | fld (off n : Nat) (agg : Bool)
  | iaddrS (sz : Nat) | iaddrA (sz n : Nat)
  | idxA (sz n : Nat) (agg : Bool)
  | ext (i : Nat)
  | len | lenA (n : Nat) | cap | app (sz bytes : Nat) | appZ (sz bytes : Nat) (zero : List AV) | copy (sz : Nat) | mn | mx
  | call (f : Nat) | callv
  | dead

/-- A call of a function: what it hands back, and the heap behind it. -/
def ACall (P : Program) (f : FuncId) (args : List AV) (H : Heap) (v : AV) (H' : Heap) : Prop :=
  ∀ M w xs, HRel M H w → VRs M args xs → Calls P f xs.toArray w fun e w' =>
    ∃ x M', e = .returned x ∧ HRel M' H' w' ∧ Kept ⟨w, M, H⟩ M' H' w' ∧ VR M' v x

/-- A function that the program has a body for. -/
def hasBody (P : Program) (f : FuncId) : Bool :=
  match P.funcs[f]? with
  | some fn => fn.name != "runtime.NumGoroutine" && fn.body.isSome
  | none => false

def blkAt (H : Heap) (b : Nat) : Option Blk := (H[b]?).join

/-- n cells of a block from a place on. -/
def rd (H : Heap) (b off n : Nat) : Option (List AV) :=
  match blkAt H b with
  | some k => if off + n ≤ k.cells.length then some ((k.cells.drop off).take n) else none
  | none => none

/-- The cells of a slice. -/
def rdS (H : Heap) : AV → Option (List AV × Nat)
  | .nils => some ([], 0)
  | .sl b off n sz _ => (rd H b off (n * sz)).map fun cs => (cs, n)
  | _ => none

/-- Bytes, read. -/
def strC : List AV → Option (List UInt8)
  | [] => some []
  | .int .u8 n :: r => (strC r).map (UInt8.ofNat n.toNat :: ·)
  | _ => none

/-- Values laid over cells. -/
def lay (zero : List AV) : List (Nat × Nat) → List AV → Option (List AV)
  | [], [] => some zero
  | (off, n) :: ps, v :: vs => if v.cells.length = n ∧ off + n ≤ zero.length then lay (zero.take off ++ v.cells ++ zero.drop (off + n)) ps vs else none
  | _, _ => none

def setCells (cs : List AV) (off : Nat) (vs : List AV) : List AV := cs.take off ++ vs ++ cs.drop (off + vs.length)

/-- A value whose cells are told. -/
def AV.full (v : AV) : Bool := v.cells.all AV.cell

/-- Are cells the same? -/
def eqCells : List LK → List AV → List AV → Option Bool
  | [], [], [] => some true
  | .int :: ks, .int k a :: r, .int k' b :: r' => if k = k' then (eqCells ks r r').map fun t => decide (a = b) && t else none
  | .bool :: ks, .bool a :: r, .bool b :: r' => (eqCells ks r r').map fun t => decide (a = b) && t
  | .str :: ks, .str a :: r, .str b :: r' => (eqCells ks r r').map fun t => decide (a = b) && t
  | _, _, _ => none

/-- A slice of elements of that many cells. -/
def szOk (sz : Nat) : AV → Prop
  | .sl _ _ _ s _ => s = sz
  | _ => True

/-! What operands have to be. -/
def a0 (vs : List AV) (K : Prop) : Prop := match vs with | [] => K | _ => False
def a1 (vs : List AV) (K : AV → Prop) : Prop := match vs with | [x] => K x | _ => False
def a2 (vs : List AV) (K : AV → AV → Prop) : Prop := match vs with | [x, y] => K x y | _ => False
def a3 (vs : List AV) (K : AV → AV → AV → Prop) : Prop := match vs with | [x, y, z] => K x y z | _ => False
def aC (vs : List AV) (K : AV → List AV → Prop) : Prop := match vs with | x :: r => K x r | _ => False
def isB (v : AV) (K : Bool → Prop) : Prop := match v with | .bool b => K b | _ => False
def isI (v : AV) (K : IntKind → Int → Prop) : Prop := match v with | .int k n => K k n | _ => False
def isP (v : AV) (K : Nat → Nat → Prop) : Prop := match v with | .ptr b o => K b o | _ => False
def isA (v : AV) (K : List AV → Prop) : Prop := match v with | .agg cs => K cs | _ => False
def isT (v : AV) (K : List AV → Prop) : Prop := match v with | .tup cs => K cs | _ => False
def isS (v : AV) (K : ByteArray → Prop) : Prop := match v with | .str s => K s | _ => False
def isF (v : AV) (K : FuncId → List AV → List AV → Prop) : Prop := match v with | .fn (.func f) xs ys => K f xs ys | _ => False
/-- A slice, or nil. -/
def isSl (v : AV) (N : Prop) (K : Nat → Nat → Nat → Nat → Option Nat → Prop) : Prop := match v with | .nils => N | .sl b off n sz c => K b off n sz c | _ => False
def sm {α : Type} (o : Option α) (K : α → Prop) : Prop := match o with | some x => K x | none => False

theorem a0_out {vs : List AV} {K : Prop} (h : a0 vs K) : vs = [] ∧ K := by unfold a0 at h; split at h <;> first | exact ⟨rfl, h⟩ | exact h.elim
theorem a1_out {vs : List AV} {K : AV → Prop} (h : a1 vs K) : ∃ x, vs = [x] ∧ K x := by unfold a1 at h; split at h <;> first | exact ⟨_, rfl, h⟩ | exact h.elim
theorem a2_out {vs : List AV} {K : AV → AV → Prop} (h : a2 vs K) : ∃ x y, vs = [x, y] ∧ K x y := by unfold a2 at h; split at h <;> first | exact ⟨_, _, rfl, h⟩ | exact h.elim
theorem a3_out {vs : List AV} {K : AV → AV → AV → Prop} (h : a3 vs K) : ∃ x y z, vs = [x, y, z] ∧ K x y z := by unfold a3 at h; split at h <;> first | exact ⟨_, _, _, rfl, h⟩ | exact h.elim
theorem aC_out {vs : List AV} {K : AV → List AV → Prop} (h : aC vs K) : ∃ x r, vs = x :: r ∧ K x r := by unfold aC at h; split at h <;> first | exact ⟨_, _, rfl, h⟩ | exact h.elim
theorem isB_out {v : AV} {K : Bool → Prop} (h : isB v K) : ∃ b, v = .bool b ∧ K b := by unfold isB at h; split at h <;> first | exact ⟨_, rfl, h⟩ | exact h.elim
theorem isI_out {v : AV} {K : IntKind → Int → Prop} (h : isI v K) : ∃ k n, v = .int k n ∧ K k n := by unfold isI at h; split at h <;> first | exact ⟨_, _, rfl, h⟩ | exact h.elim
theorem isP_out {v : AV} {K : Nat → Nat → Prop} (h : isP v K) : ∃ b o, v = .ptr b o ∧ K b o := by unfold isP at h; split at h <;> first | exact ⟨_, _, rfl, h⟩ | exact h.elim
theorem isA_out {v : AV} {K : List AV → Prop} (h : isA v K) : ∃ cs, v = .agg cs ∧ K cs := by unfold isA at h; split at h <;> first | exact ⟨_, rfl, h⟩ | exact h.elim
theorem isT_out {v : AV} {K : List AV → Prop} (h : isT v K) : ∃ cs, v = .tup cs ∧ K cs := by unfold isT at h; split at h <;> first | exact ⟨_, rfl, h⟩ | exact h.elim
theorem isS_out {v : AV} {K : ByteArray → Prop} (h : isS v K) : ∃ s, v = .str s ∧ K s := by unfold isS at h; split at h <;> first | exact ⟨_, rfl, h⟩ | exact h.elim
theorem isF_out {v : AV} {K : FuncId → List AV → List AV → Prop} (h : isF v K) : ∃ f xs ys, v = .fn (.func f) xs ys ∧ K f xs ys := by unfold isF at h; split at h <;> first | exact ⟨_, _, _, rfl, h⟩ | exact h.elim
theorem isSl_out {v : AV} {N : Prop} {K : Nat → Nat → Nat → Nat → Option Nat → Prop} (h : isSl v N K) : (v = .nils ∧ N) ∨ ∃ b off n sz c, v = .sl b off n sz c ∧ K b off n sz c := by
  unfold isSl at h; split at h <;> first | exact .inl ⟨rfl, h⟩ | exact .inr ⟨_, _, _, _, _, rfl, h⟩ | exact h.elim
theorem sm_out {α : Type} {o : Option α} {K : α → Prop} (h : sm o K) : ∃ x, o = some x ∧ K x := by unfold sm at h; split at h <;> first | exact ⟨_, rfl, h⟩ | exact h.elim

def cut (n : Nat) (c : Option Nat) (lo hi mx : Bool) (vs : List AV) (K : Nat → Nat → Option Nat → Prop) : Prop :=
  match lo, hi, mx with
  | false, false, false => a0 vs (K 0 n c)
  | true, false, false => a1 vs fun x => isI x fun _ l => 0 ≤ l ∧ l ≤ n ∧ K l.toNat n (c.map (· - l.toNat))
  | false, true, false => a1 vs fun x => isI x fun _ h => 0 ≤ h ∧ h ≤ n ∧ K 0 h.toNat c
  | true, true, false => a2 vs fun x y => isI x fun _ l => isI y fun _ h => 0 ≤ l ∧ l ≤ h ∧ h ≤ n ∧ K l.toNat h.toNat (c.map (· - l.toNat))
  | false, true, true => a2 vs fun y z => isI y fun _ h => isI z fun _ m => 0 ≤ h ∧ h ≤ m ∧ m ≤ n ∧ K 0 h.toNat (some m.toNat)
  | true, true, true => a3 vs fun x y z => isI x fun _ l => isI y fun _ h => isI z fun _ m => 0 ≤ l ∧ l ≤ h ∧ h ≤ m ∧ m ≤ n ∧ K l.toNat h.toNat (some (m.toNat - l.toNat))
  | _, _, _ => False

/-- Whole numbers. -/
def bin (op : BinOp) (k : IntKind) (a : Int) (k' : IntKind) (b : Int) (K : AV → Prop) : Prop :=
  match op with
  | .add => k = k' ∧ K (.int k (k.wrap (a + b)))
  | .sub => k = k' ∧ K (.int k (k.wrap (a - b)))
  | .mul => k = k' ∧ K (.int k (k.wrap (a * b)))
  | .quo => k = k' ∧ b ≠ 0 ∧ K (.int k (k.wrap (a.tdiv b)))
  | .rem => k = k' ∧ b ≠ 0 ∧ K (.int k (a.tmod b))
  | .and => k = k' ∧ K (.int k (k.wrap (BitVec.ofInt k.bits a &&& BitVec.ofInt k.bits b).toNat))
  | .or => k = k' ∧ K (.int k (k.wrap (BitVec.ofInt k.bits a ||| BitVec.ofInt k.bits b).toNat))
  | .xor => k = k' ∧ K (.int k (k.wrap (BitVec.ofInt k.bits a ^^^ BitVec.ofInt k.bits b).toNat))
  | .andNot => k = k' ∧ K (.int k (k.wrap (BitVec.ofInt k.bits a &&& ~~~ BitVec.ofInt k.bits b).toNat))
  | .shl => 0 ≤ b ∧ K (.int k (k.wrap (a * 2 ^ (min b.toNat k.bits))))
  | .shr => 0 ≤ b ∧ K (.int k (a.fdiv (2 ^ (min b.toNat k.bits))))
  | .eql => k = k' ∧ K (.bool (decide (a = b)))
  | .neq => k = k' ∧ K (.bool (!decide (a = b)))
  | .lss => k = k' ∧ K (.bool (decide (a < b)))
  | .leq => k = k' ∧ K (.bool (decide (a ≤ b)))
  | .gtr => k = k' ∧ K (.bool (decide (b < a)))
  | .geq => k = k' ∧ K (.bool (decide (b ≤ a)))

def un (op : UnOp) (v : AV) (K : AV → Prop) : Prop :=
  match op with
  | .not => isB v fun b => K (.bool (!b))
  | .neg => isI v fun k n => K (.int k (k.wrap (0 - n)))
  | .xor => isI v fun k n => K (.int k (k.wrap (BitVec.ofInt k.bits (if k.signed then -1 else k.max) ^^^ BitVec.ofInt k.bits n).toNat))
  | .plus => False

/-- append(s, x..). -/
def app (sz bytes : Nat) (s x : AV) (H : Heap) (K : AV → Heap → Prop) : Prop :=
  szOk sz s ∧ szOk sz x ∧ sm (rdS H x) fun p => isSl s
    ((p.2 = 0 → K .nils H) ∧ (p.2 ≠ 0 → p.2 * bytes ≤ 140737488355328 ∧ K (.sl H.length 0 p.2 sz none) (H ++ [some ⟨p.1, true⟩])))
    fun b off n _ c => (p.2 = 0 → K s H) ∧ (p.2 ≠ 0 → (n + p.2) * bytes ≤ 140737488355328 ∧ sm (rd H b off (n * sz)) fun old =>
      if (∃ k, c = some k ∧ k < n + p.2) then K (.sl H.length 0 (n + p.2) sz none) (H ++ [some ⟨old ++ p.1, true⟩])
      else ((blkAt H b).any (·.own) = true ∧ p.1.all AV.cell = true ∧ K (.sl H.length 0 (n + p.2) sz none) (H.set b none ++ [some ⟨old ++ p.1, true⟩])))

/-- A call: what it comes to has to be told. -/
def callK (P : Program) (f : FuncId) (vs : List AV) (H : Heap) (K : AV → Heap → Prop) : Prop := ∃ v H', ACall P f vs H v H' ∧ K v H'

/-- What an operation comes to. -/
def so (P : Program) (s : SOp) (vs : List AV) (H : Heap) (K : AV → Heap → Prop) : Prop :=
  match s with
  | .mv => a1 vs fun x => K x H
  | .pick => a3 vs fun c a b => isB c fun c => (c = true → K a H) ∧ (c = false → K b H)
  | .alloc z => a0 vs (K (.ptr H.length 0) (H ++ [some ⟨z, true⟩]))
  | .box => a1 vs fun x => x.full = true ∧ K (.ptr H.length 0) (H ++ [some ⟨x.cells, true⟩])
  | .build z ps => vs.all AV.full = true ∧ sm (lay z ps vs) fun cs => K (.agg cs) H
  | .bslice sz n z ps => vs.all AV.full = true ∧ sm (lay z ps vs) fun cs => K (.sl H.length 0 n sz (some n)) (H ++ [some ⟨cs, true⟩])
  | .ld1 => a1 vs fun p => isP p fun b off => sm (blkAt H b) fun k => sm k.cells[off]? fun v => K v H
  | .ldn n => a1 vs fun p => isP p fun b off => sm (rd H b off n) fun cs => K (.agg cs) H
  | .st n => a2 vs fun p v => isP p fun b off => sm (blkAt H b) fun k =>
    k.own = true ∧ v.full = true ∧ v.cells.length = n ∧ off + n ≤ k.cells.length ∧ K (.tup []) (H.set b (some ⟨setCells k.cells off v.cells, true⟩))
  | .nilchk => a1 vs fun p => isP p fun b off => K (.ptr b off) H
  | .bin op => a2 vs fun x y => isI x fun k a => isI y fun k' b => bin op k a k' b fun v => K v H
  | .eqv neg ks => a2 vs fun x y => isA x fun a => isA y fun b => sm (eqCells ks a b) fun t => K (.bool (if neg then !t else t)) H
  | .eqb neg => a2 vs fun x y => isB x fun a => isB y fun b => K (.bool (if neg then !decide (a = b) else decide (a = b))) H
  | .eqs neg => a2 vs fun x y => isS x fun a => isS y fun b => K (.bool (if neg then !decide (a = b) else decide (a = b))) H
  | .eqnil neg => a1 vs fun x => isSl x (K (.bool (if neg then !true else true)) H) fun _ _ n _ c => (0 < n ∨ c.isSome = true) ∧ K (.bool (if neg then !false else false)) H
  | .un op => a1 vs fun x => un op x fun v => K v H
  | .conv k => a1 vs fun x => isI x fun _ n => K (.int k (k.wrap n)) H
  | .strOf => a1 vs fun x => sm (rdS H x) fun p => szOk 1 x ∧ sm (strC p.1) fun s => K (.str ⟨s.toArray⟩) H
  | .bytesOf => a1 vs fun x => isSl x False fun b off n sz c => sz = 1 ∧ (blkAt H b).any (·.own) = true ∧ sm c fun k => 0 < k ∧ K (.sl b off n sz (some k)) H
  | .mkfn f n => K (.fn f (vs.take n) (vs.drop n)) H
  | .mksl sz bytes z => a2 vs fun x y => isI x fun _ l => isI y fun _ c => 0 ≤ l ∧ l ≤ c ∧ bytes * c ≤ 281474976710656 ∧ K (.sl H.length 0 l.toNat sz (some c.toNat)) (H ++ [some ⟨(List.replicate c.toNat z).flatten, true⟩])
  | .slice sz lo hi mx => aC vs fun x r => isSl x (cut 0 (some 0) lo hi mx r fun _ _ _ => K .nils H) fun b off n sz' c => sz' = sz ∧ cut n c lo hi mx r fun l h c' => K (.sl b (off + l * sz') (h - l) sz' (if n = 0 ∧ c = none then none else c')) H
  | .aslice sz n lo hi mx => aC vs fun x r => isP x fun b off => cut n (some n) lo hi mx r fun l h c' => off + n * sz ≤ ((blkAt H b).map (·.cells.length)).getD 0 ∧ (blkAt H b).isSome = true ∧ K (.sl b (off + l * sz) (h - l) sz c') H
  | .faddr o => a1 vs fun p => isP p fun b off => K (.ptr b (off + o)) H
  | .fld o n agg => a1 vs fun x => isA x fun cs => if agg then K (.agg ((cs.drop o).take n)) H else sm cs[o]? fun v => K v H
  | .iaddrS sz => a2 vs fun x i => isSl x False fun b off n sz' _ => isI i fun _ i => sz' = sz ∧ 0 ≤ i ∧ i < n ∧ K (.ptr b (off + i.toNat * sz')) H
  | .iaddrA sz n => a2 vs fun p i => isP p fun b off => isI i fun _ i => 0 ≤ i ∧ i < n ∧ K (.ptr b (off + i.toNat * sz)) H
  | .idxA _ n _ => a2 vs fun x i => isA x fun cs => isI i fun _ i => 0 ≤ i ∧ i < n ∧ sm cs[i.toNat]? fun v => K v H
  | .ext i => a1 vs fun x => isT x fun l => sm l[i]? fun v => K v H
  | .len => a1 vs fun x => isSl x (K (.int .i64 0) H) fun _ _ n _ _ => K (.int .i64 n) H
  | .lenA n => a1 vs fun _ => K (.int .i64 n) H
  | .cap => a1 vs fun x => isSl x (K (.int .i64 0) H) fun _ _ _ _ c => sm c fun k => K (.int .i64 k) H
  | .mn => a2 vs fun x y => isI x fun k a => isI y fun k' b => k = k' ∧ K (.int k (if b < a then b else a)) H
  | .mx => a2 vs fun x y => isI x fun k a => isI y fun k' b => k = k' ∧ K (.int k (if b > a then b else a)) H
  | .call f => callK P f vs H K
  | .callv => aC vs fun g r => isF g fun f xs ys => hasBody P f = true ∧ callK P f (xs ++ r ++ ys) H K
  | .app sz bytes => a2 vs fun s x => app sz bytes s x H K
  | .appZ sz bytes z => a2 vs fun s x => isSl s (isI x fun _ n => 0 < n ∧ n * bytes ≤ 140737488355328 ∧ K (.sl H.length 0 n.toNat sz none) (H ++ [some ⟨(List.replicate n.toNat z).flatten, true⟩])) fun _ _ _ _ _ => False
  | .copy sz => a2 vs fun d x => isSl d False fun b off n sz' _ => sz' = sz ∧ isSl x (K (.int .i64 0) H) fun b' off' m _ _ => sm (rd H b' off' (min m n * sz)) fun cs => sm (blkAt H b) fun k =>
    k.own = true ∧ cs.all AV.cell = true ∧ off + min m n * sz ≤ k.cells.length ∧ K (.int .i64 (min m n : Nat)) (H.set b (some ⟨setCells k.cells off cs, true⟩))
  | .dead => False

end Go.Proofs.Ytlohehkagaabfaa.Ah
