/- Ah3b: a part of the proof: steps over abstract values, or contracts of functions. Conditions: none. -/
import Derived.Test.YtlohehkagaabfaaAh3a
namespace Go.Proofs.Ytlohehkagaabfaa.Ah
open Go
set_option linter.unusedVariables false

/-! The same, told so that it can be reckoned by rewriting: no function stands in the terms. -/

inductive R where
  | bad
  | val (v : AV) (H : Heap)
  | need (p : Prop) (r : R)
  | br (c : Bool) (x y : R)
  | call (f : FuncId) (vs : List AV) (H : Heap)

def R.sat (P : Program) (K : AV → Heap → Prop) : R → Prop
  | .bad => False
  | .val v H => K v H
  | .need p r => p ∧ R.sat P K r
  | .br c x y => (c = true → R.sat P K x) ∧ (c = false → R.sat P K y)
  | .call f vs H => callK P f vs H K

def r0 (vs : List AV) (r : R) : R := match vs with | [] => r | _ => .bad
def r1 (vs : List AV) (f : AV → R) : R := match vs with | [x] => f x | _ => .bad
def r2 (vs : List AV) (f : AV → AV → R) : R := match vs with | [x, y] => f x y | _ => .bad
def r3 (vs : List AV) (f : AV → AV → AV → R) : R := match vs with | [x, y, z] => f x y z | _ => .bad
def rC (vs : List AV) (f : AV → List AV → R) : R := match vs with | x :: r => f x r | _ => .bad
def rB (v : AV) (f : Bool → R) : R := match v with | .bool b => f b | _ => .bad
def rI (v : AV) (f : IntKind → Int → R) : R := match v with | .int k n => f k n | _ => .bad
def rP (v : AV) (f : Nat → Nat → R) : R := match v with | .ptr b o => f b o | _ => .bad
def rA (v : AV) (f : List AV → R) : R := match v with | .agg cs => f cs | _ => .bad
def rT (v : AV) (f : List AV → R) : R := match v with | .tup cs => f cs | _ => .bad
def rS (v : AV) (f : ByteArray → R) : R := match v with | .str s => f s | _ => .bad
def rF (v : AV) (f : FuncId → List AV → List AV → R) : R := match v with | .fn (.func g) xs ys => f g xs ys | _ => .bad
def rSl (v : AV) (n : R) (f : Nat → Nat → Nat → Nat → Option Nat → R) : R := match v with | .nils => n | .sl b off k sz c => f b off k sz c | _ => .bad
def rO {α : Type} (o : Option α) (f : α → R) : R := match o with | some x => f x | none => .bad

section
variable {P : Program} {K : AV → Heap → Prop}
theorem r0_sat (vs : List AV) (r : R) : (r0 vs r).sat P K = a0 vs (r.sat P K) := by unfold r0 a0; rcases vs with _ | ⟨_, _⟩ <;> rfl
theorem r1_sat (vs : List AV) (f : AV → R) : (r1 vs f).sat P K = a1 vs (fun x => (f x).sat P K) := by unfold r1 a1; rcases vs with _ | ⟨_, _ | ⟨_, _⟩⟩ <;> rfl
theorem r2_sat (vs : List AV) (f : AV → AV → R) : (r2 vs f).sat P K = a2 vs (fun x y => (f x y).sat P K) := by unfold r2 a2; rcases vs with _ | ⟨_, _ | ⟨_, _ | ⟨_, _⟩⟩⟩ <;> rfl
theorem r3_sat (vs : List AV) (f : AV → AV → AV → R) : (r3 vs f).sat P K = a3 vs (fun x y z => (f x y z).sat P K) := by unfold r3 a3; rcases vs with _ | ⟨_, _ | ⟨_, _ | ⟨_, _ | ⟨_, _⟩⟩⟩⟩ <;> rfl
theorem rC_sat (vs : List AV) (f : AV → List AV → R) : (rC vs f).sat P K = aC vs (fun x y => (f x y).sat P K) := by unfold rC aC; rcases vs with _ | ⟨_, _⟩ <;> rfl
theorem rB_sat (v : AV) (f : Bool → R) : (rB v f).sat P K = isB v (fun x => (f x).sat P K) := by unfold rB isB; cases v <;> rfl
theorem rI_sat (v : AV) (f : IntKind → Int → R) : (rI v f).sat P K = isI v (fun x y => (f x y).sat P K) := by unfold rI isI; cases v <;> rfl
theorem rP_sat (v : AV) (f : Nat → Nat → R) : (rP v f).sat P K = isP v (fun x y => (f x y).sat P K) := by unfold rP isP; cases v <;> rfl
theorem rA_sat (v : AV) (f : List AV → R) : (rA v f).sat P K = isA v (fun x => (f x).sat P K) := by unfold rA isA; cases v <;> rfl
theorem rT_sat (v : AV) (f : List AV → R) : (rT v f).sat P K = isT v (fun x => (f x).sat P K) := by unfold rT isT; cases v <;> rfl
theorem rS_sat (v : AV) (f : ByteArray → R) : (rS v f).sat P K = isS v (fun x => (f x).sat P K) := by unfold rS isS; cases v <;> rfl
theorem rF_sat (v : AV) (f : FuncId → List AV → List AV → R) : (rF v f).sat P K = isF v (fun x y z => (f x y z).sat P K) := by
  unfold rF isF
  cases v <;> (try rfl)
  rename_i g _ _
  cases g <;> rfl
theorem rSl_sat (v : AV) (n : R) (f : Nat → Nat → Nat → Nat → Option Nat → R) : (rSl v n f).sat P K = isSl v (n.sat P K) (fun a b c d e => (f a b c d e).sat P K) := by unfold rSl isSl; cases v <;> rfl
theorem rO_sat {α : Type} (o : Option α) (f : α → R) : (rO o f).sat P K = sm o (fun x => (f x).sat P K) := by unfold rO sm; cases o <;> rfl
theorem need_sat (p : Prop) (r : R) : (R.need p r).sat P K = (p ∧ r.sat P K) := rfl
theorem val_sat (v : AV) (H : Heap) : (R.val v H).sat P K = K v H := rfl
theorem br_sat (c : Bool) (x y : R) : (R.br c x y).sat P K = ((c = true → x.sat P K) ∧ (c = false → y.sat P K)) := rfl
theorem call_sat (f : FuncId) (vs : List AV) (H : Heap) : (R.call f vs H).sat P K = callK P f vs H K := rfl
theorem bad_sat : R.bad.sat P K = False := rfl
end

def rcut (n : Nat) (c : Option Nat) (lo hi mx : Bool) (vs : List AV) (f : Nat → Nat → Option Nat → R) : R :=
  match lo, hi, mx with
  | false, false, false => r0 vs (f 0 n c)
  | true, false, false => r1 vs fun x => rI x fun _ l => .need (0 ≤ l ∧ l ≤ n) (f l.toNat n (c.map (· - l.toNat)))
  | false, true, false => r1 vs fun x => rI x fun _ h => .need (0 ≤ h ∧ h ≤ n) (f 0 h.toNat c)
  | true, true, false => r2 vs fun x y => rI x fun _ l => rI y fun _ h => .need (0 ≤ l ∧ l ≤ h ∧ h ≤ n) (f l.toNat h.toNat (c.map (· - l.toNat)))
  | false, true, true => r2 vs fun y z => rI y fun _ h => rI z fun _ m => .need (0 ≤ h ∧ h ≤ m ∧ m ≤ n) (f 0 h.toNat (some m.toNat))
  | true, true, true => r3 vs fun x y z => rI x fun _ l => rI y fun _ h => rI z fun _ m => .need (0 ≤ l ∧ l ≤ h ∧ h ≤ m ∧ m ≤ n) (f l.toNat h.toNat (some (m.toNat - l.toNat)))
  | _, _, _ => .bad

def rbin (op : BinOp) (k : IntKind) (a : Int) (k' : IntKind) (b : Int) (H : Heap) : R :=
  match op with
  | .add => .need (k = k') (.val (.int k (k.wrap (a + b))) H)
  | .sub => .need (k = k') (.val (.int k (k.wrap (a - b))) H)
  | .mul => .need (k = k') (.val (.int k (k.wrap (a * b))) H)
  | .quo => .need (k = k' ∧ b ≠ 0) (.val (.int k (k.wrap (a.tdiv b))) H)
  | .rem => .need (k = k' ∧ b ≠ 0) (.val (.int k (a.tmod b)) H)
  | .and => .need (k = k') (.val (.int k (k.wrap (BitVec.ofInt k.bits a &&& BitVec.ofInt k.bits b).toNat)) H)
  | .or => .need (k = k') (.val (.int k (k.wrap (BitVec.ofInt k.bits a ||| BitVec.ofInt k.bits b).toNat)) H)
  | .xor => .need (k = k') (.val (.int k (k.wrap (BitVec.ofInt k.bits a ^^^ BitVec.ofInt k.bits b).toNat)) H)
  | .andNot => .need (k = k') (.val (.int k (k.wrap (BitVec.ofInt k.bits a &&& ~~~ BitVec.ofInt k.bits b).toNat)) H)
  | .shl => .need (0 ≤ b) (.val (.int k (k.wrap (a * 2 ^ (min b.toNat k.bits)))) H)
  | .shr => .need (0 ≤ b) (.val (.int k (a.fdiv (2 ^ (min b.toNat k.bits)))) H)
  | .eql => .need (k = k') (.val (.bool (decide (a = b))) H)
  | .neq => .need (k = k') (.val (.bool (!decide (a = b))) H)
  | .lss => .need (k = k') (.val (.bool (decide (a < b))) H)
  | .leq => .need (k = k') (.val (.bool (decide (a ≤ b))) H)
  | .gtr => .need (k = k') (.val (.bool (decide (b < a))) H)
  | .geq => .need (k = k') (.val (.bool (decide (b ≤ a))) H)

def run1 (op : UnOp) (v : AV) (H : Heap) : R :=
  match op with
  | .not => rB v fun b => .val (.bool (!b)) H
  | .neg => rI v fun k n => .val (.int k (k.wrap (0 - n))) H
  | .xor => rI v fun k n => .val (.int k (k.wrap (BitVec.ofInt k.bits (if k.signed then -1 else k.max) ^^^ BitVec.ofInt k.bits n).toNat)) H
  | .plus => .bad

def ownAt (H : Heap) (b : Nat) : Bool := (blkAt H b).any (·.own)

def rapp (sz bytes : Nat) (s x : AV) (H : Heap) : R :=
  .need (szOk sz s ∧ szOk sz x) (rO (rdS H x) fun p => rSl s
    (.br (decide (p.2 = 0)) (.val .nils H) (.need (p.2 * bytes ≤ 140737488355328) (.val (.sl H.length 0 p.2 sz none) (H ++ [some ⟨p.1, true⟩]))))
    fun b off n sz' c => .br (decide (p.2 = 0)) (.val (.sl b off n sz' c) H) (.need ((n + p.2) * bytes ≤ 140737488355328) (rO (rd H b off (n * sz)) fun old =>
      match c with
      | some k => .br (decide (k < n + p.2)) (.val (.sl H.length 0 (n + p.2) sz none) (H ++ [some ⟨old ++ p.1, true⟩])) (.need (ownAt H b = true ∧ p.1.all AV.cell = true) (.val (.sl H.length 0 (n + p.2) sz none) (H.set b none ++ [some ⟨old ++ p.1, true⟩])))
      | none => .need (ownAt H b = true ∧ p.1.all AV.cell = true) (.val (.sl H.length 0 (n + p.2) sz none) (H.set b none ++ [some ⟨old ++ p.1, true⟩])))))

def lenAt (H : Heap) (b : Nat) : Nat := ((blkAt H b).map (·.cells.length)).getD 0

def sor (P : Program) (s : SOp) (vs : List AV) (H : Heap) : R :=
  match s with
  | .mv => r1 vs fun x => .val x H
  | .pick => r3 vs fun c a b => rB c fun c => .br c (.val a H) (.val b H)
  | .alloc z => r0 vs (.val (.ptr H.length 0) (H ++ [some ⟨z, true⟩]))
  | .box => r1 vs fun x => .need (x.full = true) (.val (.ptr H.length 0) (H ++ [some ⟨x.cells, true⟩]))
  | .build z ps => .need (vs.all AV.full = true) (rO (lay z ps vs) fun cs => .val (.agg cs) H)
  | .bslice sz n z ps => .need (vs.all AV.full = true) (rO (lay z ps vs) fun cs => .val (.sl H.length 0 n sz (some n)) (H ++ [some ⟨cs, true⟩]))
  | .ld1 => r1 vs fun p => rP p fun b off => rO (blkAt H b) fun k => rO k.cells[off]? fun v => .val v H
  | .ldn n => r1 vs fun p => rP p fun b off => rO (rd H b off n) fun cs => .val (.agg cs) H
  | .st n => r2 vs fun p v => rP p fun b off => rO (blkAt H b) fun k =>
    .need (k.own = true ∧ v.full = true ∧ v.cells.length = n ∧ off + n ≤ k.cells.length) (.val (.tup []) (H.set b (some ⟨setCells k.cells off v.cells, true⟩)))
  | .nilchk => r1 vs fun p => rP p fun b off => .val (.ptr b off) H
  | .bin op => r2 vs fun x y => rI x fun k a => rI y fun k' b => rbin op k a k' b H
  | .eqv neg ks => r2 vs fun x y => rA x fun a => rA y fun b => rO (eqCells ks a b) fun t => .val (.bool (if neg then !t else t)) H
  | .eqb neg => r2 vs fun x y => rB x fun a => rB y fun b => .val (.bool (if neg then !decide (a = b) else decide (a = b))) H
  | .eqs neg => r2 vs fun x y => rS x fun a => rS y fun b => .val (.bool (if neg then !decide (a = b) else decide (a = b))) H
  | .eqnil neg => r1 vs fun x => rSl x (.val (.bool (if neg then !true else true)) H) fun _ _ n _ c => .need (0 < n ∨ c.isSome = true) (.val (.bool (if neg then !false else false)) H)
  | .un op => r1 vs fun x => run1 op x H
  | .conv k => r1 vs fun x => rI x fun _ n => .val (.int k (k.wrap n)) H
  | .strOf => r1 vs fun x => rO (rdS H x) fun p => .need (szOk 1 x) (rO (strC p.1) fun s => .val (.str ⟨s.toArray⟩) H)
  | .bytesOf => r1 vs fun x => rSl x .bad fun b off n sz c => .need (sz = 1 ∧ ownAt H b = true) (rO c fun k => .need (0 < k) (.val (.sl b off n sz (some k)) H))
  | .mkfn f n => .val (.fn f (vs.take n) (vs.drop n)) H
  | .mksl sz bytes z => r2 vs fun x y => rI x fun _ l => rI y fun _ c => .need (0 ≤ l ∧ l ≤ c ∧ bytes * c ≤ 281474976710656) (.val (.sl H.length 0 l.toNat sz (some c.toNat)) (H ++ [some ⟨(List.replicate c.toNat z).flatten, true⟩]))
  | .slice sz lo hi mx => rC vs fun x r => rSl x (rcut 0 (some 0) lo hi mx r fun _ _ _ => .val .nils H) fun b off n sz' c => .need (sz' = sz) (rcut n c lo hi mx r fun l h c' => .val (.sl b (off + l * sz') (h - l) sz' (if n = 0 ∧ c = none then none else c')) H)
  | .aslice sz n lo hi mx => rC vs fun x r => rP x fun b off => rcut n (some n) lo hi mx r fun l h c' => .need (off + n * sz ≤ lenAt H b ∧ (blkAt H b).isSome = true) (.val (.sl b (off + l * sz) (h - l) sz c') H)
  | .faddr o => r1 vs fun p => rP p fun b off => .val (.ptr b (off + o)) H
  | .fld o n agg => r1 vs fun x => rA x fun cs => match agg with | true => .val (.agg ((cs.drop o).take n)) H | false => rO cs[o]? fun v => .val v H
  | .iaddrS sz => r2 vs fun x i => rSl x .bad fun b off n sz' _ => rI i fun _ i => .need (sz' = sz ∧ 0 ≤ i ∧ i < n) (.val (.ptr b (off + i.toNat * sz')) H)
  | .iaddrA sz n => r2 vs fun p i => rP p fun b off => rI i fun _ i => .need (0 ≤ i ∧ i < n) (.val (.ptr b (off + i.toNat * sz)) H)
  | .idxA _ n _ => r2 vs fun x i => rA x fun cs => rI i fun _ i => .need (0 ≤ i ∧ i < n) (rO cs[i.toNat]? fun v => .val v H)
  | .ext i => r1 vs fun x => rT x fun l => rO l[i]? fun v => .val v H
  | .len => r1 vs fun x => rSl x (.val (.int .i64 0) H) fun _ _ n _ _ => .val (.int .i64 n) H
  | .lenA n => r1 vs fun _ => .val (.int .i64 n) H
  | .cap => r1 vs fun x => rSl x (.val (.int .i64 0) H) fun _ _ _ _ c => rO c fun k => .val (.int .i64 k) H
  | .mn => r2 vs fun x y => rI x fun k a => rI y fun k' b => .need (k = k') (.val (.int k (if b < a then b else a)) H)
  | .mx => r2 vs fun x y => rI x fun k a => rI y fun k' b => .need (k = k') (.val (.int k (if b > a then b else a)) H)
  | .call f => .call f vs H
  | .callv => rC vs fun g r => rF g fun f xs ys => .need (hasBody P f = true) (.call f (xs ++ r ++ ys) H)
  | .app sz bytes => r2 vs fun s x => rapp sz bytes s x H
  | .appZ sz bytes z => r2 vs fun s x => rSl s (rI x fun _ n => .need (0 < n ∧ n * bytes ≤ 140737488355328) (.val (.sl H.length 0 n.toNat sz none) (H ++ [some ⟨(List.replicate n.toNat z).flatten, true⟩]))) fun _ _ _ _ _ => .bad
  | .copy sz => r2 vs fun d x => rSl d .bad fun b off n sz' _ => .need (sz' = sz) (rSl x (.val (.int .i64 0) H) fun b' off' m _ _ => rO (rd H b' off' (min m n * sz)) fun cs => rO (blkAt H b) fun k =>
    .need (k.own = true ∧ cs.all AV.cell = true ∧ off + min m n * sz ≤ k.cells.length) (.val (.int .i64 (min m n : Nat)) (H.set b (some ⟨setCells k.cells off cs, true⟩))))
  | .dead => .bad

theorem rcut_sat {P : Program} {K : AV → Heap → Prop} (n : Nat) (c : Option Nat) (lo hi mx : Bool) (vs : List AV) (f : Nat → Nat → Option Nat → R) :
    (rcut n c lo hi mx vs f).sat P K = cut n c lo hi mx vs (fun l h c' => (f l h c').sat P K) := by
  unfold rcut cut
  split <;> simp only [r0_sat, r1_sat, r2_sat, r3_sat, rI_sat, need_sat, bad_sat, and_assoc]

theorem sor_so (P : Program) (s : SOp) (vs : List AV) (H : Heap) (K : AV → Heap → Prop) (h : (sor P s vs H).sat P K) : so P s vs H K := by
  cases s <;> simp only [sor, r0_sat, r1_sat, r2_sat, r3_sat, rC_sat, rB_sat, rI_sat, rP_sat, rA_sat, rT_sat, rS_sat, rF_sat, rSl_sat, rO_sat, need_sat, val_sat, br_sat, call_sat, bad_sat, rcut_sat, and_assoc] at h <;> simp only [so] <;> (try exact h)
  case bin op =>
    obtain ⟨x, y, rfl, h⟩ := a2_out h
    obtain ⟨k, a, rfl, h⟩ := isI_out h
    obtain ⟨k', b, rfl, h⟩ := isI_out h
    simp only [a2, isI]
    cases op <;> simp only [rbin, need_sat, val_sat, and_assoc] at h <;> simp only [bin] <;> exact h
  case un op =>
    obtain ⟨x, rfl, h⟩ := a1_out h
    simp only [a1]
    cases op <;> simp only [run1, rB_sat, rI_sat, val_sat, bad_sat] at h <;> simp only [un] <;> exact h
  case fld o n agg =>
    cases agg
    · simpa [rO_sat, val_sat] using h
    · simpa [val_sat] using h
  case app sz bytes =>
    obtain ⟨s, x, rfl, h⟩ := a2_out h
    simp only [a2]
    unfold rapp at h
    unfold app
    simp only [need_sat, rO_sat, rSl_sat, br_sat, val_sat, and_assoc] at h
    obtain ⟨h1, h2, h⟩ := h
    refine ⟨h1, h2, ?_⟩
    obtain ⟨p, hp, h⟩ := sm_out h
    rw [hp]
    simp only [sm]
    rcases isSl_out h with ⟨rfl, h⟩ | ⟨b, off, n, sz', c, rfl, h⟩
    · simp only [isSl]
      exact ⟨fun e => h.1 (by simpa using e), fun e => h.2 (by simpa using e)⟩
    · simp only [isSl]
      refine ⟨fun e => h.1 (by simpa using e), fun e => ?_⟩
      obtain ⟨g1, g2⟩ := h.2 (by simpa using e)
      refine ⟨g1, ?_⟩
      obtain ⟨old, ho, g2⟩ := sm_out g2
      rw [ho]
      simp only
      cases c with
      | none =>
        rw [if_neg (by simp)]
        simp only [need_sat, val_sat, and_assoc] at g2
        exact g2
      | some k =>
        simp only [br_sat, need_sat, val_sat, and_assoc] at g2
        by_cases hk : k < n + p.2
        · rw [if_pos ⟨k, rfl, hk⟩]
          exact g2.1 (by simpa using hk)
        · rw [if_neg (by rintro ⟨k', e, hk'⟩; cases e; exact hk hk')]
          exact g2.2 (by simpa using hk)

theorem R.det {P : Program} {K : AV → Heap → Prop} : ∀ (r : R), r.sat P K → ∃ v H', K v H' ∧ ∀ K' : AV → Heap → Prop, K' v H' → r.sat P K'
  | .bad, h => h.elim
  | .val v H, h => ⟨v, H, h, fun _ h => h⟩
  | .need p r, h => let ⟨v, H', h1, h2⟩ := R.det r h.2; ⟨v, H', h1, fun K' hk => ⟨h.1, h2 K' hk⟩⟩
  | .br true x y, h => let ⟨v, H', h1, h2⟩ := R.det x (h.1 rfl); ⟨v, H', h1, fun K' hk => ⟨fun _ => h2 K' hk, (fun e => by cases e)⟩⟩
  | .br false x y, h => let ⟨v, H', h1, h2⟩ := R.det y (h.2 rfl); ⟨v, H', h1, fun K' hk => ⟨(fun e => by cases e), fun _ => h2 K' hk⟩⟩
  | .call f vs H, ⟨v, H', h1, h2⟩ => ⟨v, H', h2, fun K' hk => ⟨v, H', h1, hk⟩⟩

theorem sor_sound {P : Program} (o : Oper) (s : SOp) (l : List Operand) (hok : okOp P o.op s = some l) (vals : List AV) (H : Heap) (K : AV → Heap → Prop) (h : (sor P s vals H).sat P K) :
    ∃ v H', K v H' ∧ SStep P o l vals H v H' := so_sound o s l hok vals H K (sor_so P s vals H K h)
end Go.Proofs.Ytlohehkagaabfaa.Ah
