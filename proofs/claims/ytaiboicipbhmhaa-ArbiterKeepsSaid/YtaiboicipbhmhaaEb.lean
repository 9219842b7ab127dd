/- Steps over abstract values and heaps, and what a call keeps. Conditions: none. -/
import Derived.Test.YtaiboicipbhmhaaEa
import Derived.TacticsIn
import Derived.LoopN
import Derived.OrdersIn
import Derived.RangeFuncLeaves
import Derived.LoopNIn
import Derived.RangeFuncRecord
import Derived.IntWalk
import Derived.WalkKit
import Derived.ProofKit
import Derived.OpenShut
import Derived.Carry
import Derived.DataShut
import Derived.SizedLaws
import Derived.Deep.Slices
namespace Go.Proofs.Ytaiboicipbhmhaa.Ah
open Go
set_option linter.unusedVariables false

inductive R where
  | bad
  | val (v : AV) (H : Heap)
  | need (p : Prop) (r : R)
  | br (c : Bool) (x y : R)
  | call (f : FuncId) (vs : List AV) (H : Heap)
  | ycall (b : Nat) (vs : List AV) (H : Heap)
def R.sat (P : Program) (K : AV → Heap → Prop) : R → Prop
  | .bad => False
  | .val v H => K v H
  | .need p r => p ∧ R.sat P K r
  | .br c x y => (c = true → R.sat P K x) ∧ (c = false → R.sat P K y)
  | .call f vs H => callK P f vs H K
  | .ycall b vs H => ycallK P b vs H K
def r0 (vs : List AV) (r : R) : R := match vs with | [] => r | _ => .bad
def r1 (vs : List AV) (f : AV → R) : R := match vs with | [x] => f x | _ => .bad
def r2 (vs : List AV) (f : AV → AV → R) : R := match vs with | [x, y] => f x y | _ => .bad
def r3 (vs : List AV) (f : AV → AV → AV → R) : R := match vs with | [x, y, z] => f x y z | _ => .bad
def rC (vs : List AV) (f : AV → List AV → R) : R := match vs with | x :: r => f x r | _ => .bad
def rB (v : AV) (f : Bool → R) : R := match v with | .bool b => f b | _ => .bad
def rI (v : AV) (f : IntKind → Int → R) : R := match v with | .int k n => f k n | _ => .bad
def rP (v : AV) (f : Nat → Nat → R) : R := match v with | .ptr b o => f b o | _ => .bad
def rA (v : AV) (f : List AV → R) : R := match v with | .agg cs => f cs | _ => .bad
def rT (v : AV) (f : List AV → R) : R := match v with | .tup cs => f cs | _ => .bad
def rS (v : AV) (f : ByteArray → R) : R := match v with | .str s => f s | _ => .bad
def rF (v : AV) (f : FuncId → List AV → List AV → R) (y : Nat → R) : R := match v with | .fn (.func g) xs ys => f g xs ys | .yld b => y b | _ => .bad
def rSl (v : AV) (n : R) (f : Nat → Nat → Nat → Nat → Option Nat → R) : R := match v with | .nils => n | .sl b off k sz c => f b off k sz c | _ => .bad
def rO {α : Type} (o : Option α) (f : α → R) : R := match o with | some x => f x | none => .bad
section
variable {P : Program} {K : AV → Heap → Prop}
theorem r0_sat (vs : List AV) (r : R) : (r0 vs r).sat P K = a0 vs (r.sat P K) := by unfold r0 a0; rcases vs with _ | ⟨_, _⟩ <;> rfl
theorem r1_sat (vs : List AV) (f : AV → R) : (r1 vs f).sat P K = a1 vs (fun x => (f x).sat P K) := by unfold r1 a1; rcases vs with _ | ⟨_, _ | ⟨_, _⟩⟩ <;> rfl
theorem r2_sat (vs : List AV) (f : AV → AV → R) : (r2 vs f).sat P K = a2 vs (fun x y => (f x y).sat P K) := by unfold r2 a2; rcases vs with _ | ⟨_, _ | ⟨_, _ | ⟨_, _⟩⟩⟩ <;> rfl
theorem r3_sat (vs : List AV) (f : AV → AV → AV → R) : (r3 vs f).sat P K = a3 vs (fun x y z => (f x y z).sat P K) := by unfold r3 a3; rcases vs with _ | ⟨_, _ | ⟨_, _ | ⟨_, _ | ⟨_, _⟩⟩⟩⟩ <;> rfl
theorem rC_sat (vs : List AV) (f : AV → List AV → R) : (rC vs f).sat P K = aC vs (fun x y => (f x y).sat P K) := by unfold rC aC; rcases vs with _ | ⟨_, _⟩ <;> rfl
theorem rB_sat (v : AV) (f : Bool → R) : (rB v f).sat P K = isB v (fun x => (f x).sat P K) := by unfold rB isB; cases v <;> rfl
theorem rI_sat (v : AV) (f : IntKind → Int → R) : (rI v f).sat P K = isI v (fun x y => (f x y).sat P K) := by unfold rI isI; cases v <;> rfl
theorem rP_sat (v : AV) (f : Nat → Nat → R) : (rP v f).sat P K = isP v (fun x y => (f x y).sat P K) := by unfold rP isP; cases v <;> rfl
theorem rA_sat (v : AV) (f : List AV → R) : (rA v f).sat P K = isA v (fun x => (f x).sat P K) := by unfold rA isA; cases v <;> rfl
theorem rT_sat (v : AV) (f : List AV → R) : (rT v f).sat P K = isT v (fun x => (f x).sat P K) := by unfold rT isT; cases v <;> rfl
theorem rS_sat (v : AV) (f : ByteArray → R) : (rS v f).sat P K = isS v (fun x => (f x).sat P K) := by unfold rS isS; cases v <;> rfl
theorem rF_sat (v : AV) (f : FuncId → List AV → List AV → R) (y : Nat → R) : (rF v f y).sat P K = isF v (fun x y z => (f x y z).sat P K) (fun b => (y b).sat P K) := by
  unfold rF isF
  cases v <;> (try rfl)
  rename_i g _ _
  cases g <;> rfl
theorem rSl_sat (v : AV) (n : R) (f : Nat → Nat → Nat → Nat → Option Nat → R) : (rSl v n f).sat P K = isSl v (n.sat P K) (fun a b c d e => (f a b c d e).sat P K) := by unfold rSl isSl; cases v <;> rfl
theorem rO_sat {α : Type} (o : Option α) (f : α → R) : (rO o f).sat P K = sm o (fun x => (f x).sat P K) := by unfold rO sm; cases o <;> rfl
theorem need_sat (p : Prop) (r : R) : (R.need p r).sat P K = (p ∧ r.sat P K) := rfl
theorem val_sat (v : AV) (H : Heap) : (R.val v H).sat P K = K v H := rfl
theorem br_sat (c : Bool) (x y : R) : (R.br c x y).sat P K = ((c = true → x.sat P K) ∧ (c = false → y.sat P K)) := rfl
theorem ycall_sat (b : Nat) (vs : List AV) (H : Heap) : (R.ycall b vs H).sat P K = ycallK P b vs H K := rfl
theorem call_sat (f : FuncId) (vs : List AV) (H : Heap) : (R.call f vs H).sat P K = callK P f vs H K := rfl
theorem bad_sat : R.bad.sat P K = False := rfl
end
def rcut (n : Nat) (c : Option Nat) (lo hi mx : Bool) (vs : List AV) (f : Nat → Nat → Option Nat → R) : R :=
  match lo, hi, mx with
  | false, false, false => r0 vs (f 0 n c)
  | true, false, false => r1 vs fun x => rI x fun _ l => .need (0 ≤ l ∧ l ≤ n) (f l.toNat n (c.map (· - l.toNat)))
  | false, true, false => r1 vs fun x => rI x fun _ h => .need (0 ≤ h ∧ h ≤ n) (f 0 h.toNat c)
  | true, true, false => r2 vs fun x y => rI x fun _ l => rI y fun _ h => .need (0 ≤ l ∧ l ≤ h ∧ h ≤ n) (f l.toNat h.toNat (c.map (· - l.toNat)))
  | false, true, true => r2 vs fun y z => rI y fun _ h => rI z fun _ m => .need (0 ≤ h ∧ h ≤ m ∧ m ≤ n) (f 0 h.toNat (some m.toNat))
  | true, true, true => r3 vs fun x y z => rI x fun _ l => rI y fun _ h => rI z fun _ m => .need (0 ≤ l ∧ l ≤ h ∧ h ≤ m ∧ m ≤ n) (f l.toNat h.toNat (some (m.toNat - l.toNat)))
  | _, _, _ => .bad
def rbin (op : BinOp) (k : IntKind) (a : Int) (k' : IntKind) (b : Int) (H : Heap) : R :=
  match op with
  | .add => .need (k = k') (.val (.int k (k.wrap (a + b))) H)
  | .sub => .need (k = k') (.val (.int k (k.wrap (a - b))) H)
  | .mul => .need (k = k') (.val (.int k (k.wrap (a * b))) H)
  | .quo => .need (k = k' ∧ b ≠ 0) (.val (.int k (k.wrap (a.tdiv b))) H)
  | .rem => .need (k = k' ∧ b ≠ 0) (.val (.int k (a.tmod b)) H)
  | .and => .need (k = k') (.val (.int k (k.wrap (BitVec.ofInt k.bits a &&& BitVec.ofInt k.bits b).toNat)) H)
  | .or => .need (k = k') (.val (.int k (k.wrap (BitVec.ofInt k.bits a ||| BitVec.ofInt k.bits b).toNat)) H)
  | .xor => .need (k = k') (.val (.int k (k.wrap (BitVec.ofInt k.bits a ^^^ BitVec.ofInt k.bits b).toNat)) H)
  | .andNot => .need (k = k') (.val (.int k (k.wrap (BitVec.ofInt k.bits a &&& ~~~ BitVec.ofInt k.bits b).toNat)) H)
  | .shl => .need (0 ≤ b) (.val (.int k (k.wrap (a * 2 ^ (min b.toNat k.bits)))) H)
  | .shr => .need (0 ≤ b) (.val (.int k (a.fdiv (2 ^ (min b.toNat k.bits)))) H)
  | .eql => .need (k = k') (.val (.bool (decide (a = b))) H)
  | .neq => .need (k = k') (.val (.bool (!decide (a = b))) H)
  | .lss => .need (k = k') (.val (.bool (decide (a < b))) H)
  | .leq => .need (k = k') (.val (.bool (decide (a ≤ b))) H)
  | .gtr => .need (k = k') (.val (.bool (decide (b < a))) H)
  | .geq => .need (k = k') (.val (.bool (decide (b ≤ a))) H)
def run1 (op : UnOp) (v : AV) (H : Heap) : R :=
  match op with
  | .not => rB v fun b => .val (.bool (!b)) H
  | .neg => rI v fun k n => .val (.int k (k.wrap (0 - n))) H
  | .xor => rI v fun k n => .val (.int k (k.wrap (BitVec.ofInt k.bits (if k.signed then -1 else k.max) ^^^ BitVec.ofInt k.bits n).toNat)) H
  | .plus => .bad
def ownAt (H : Heap) (b : Nat) : Bool := (blkAt H b).any (·.own)
def rapp (sz bytes : Nat) (s x : AV) (H : Heap) : R :=
  .need (szOk sz s ∧ szOk sz x) (rO (rdS H x) fun p => rSl s
    (.br (decide (p.2 = 0)) (.val .nils H) (.need (p.2 * bytes ≤ 140737488355328) (.val (.sl H.length 0 p.2 sz none) (H ++ [some ⟨p.1, true⟩]))))
    fun b off n sz' c => .br (decide (p.2 = 0)) (.val (.sl b off n sz' c) H) (.need ((n + p.2) * bytes ≤ 140737488355328) (rO (rd H b off (n * sz)) fun old =>
      match c with
      | some k => .br (decide (k < n + p.2)) (.val (.sl H.length 0 (n + p.2) sz none) (H ++ [some ⟨old ++ p.1, true⟩])) (.need (ownAt H b = true ∧ p.1.all AV.cell = true) (.val (.sl H.length 0 (n + p.2) sz none) (H.set b none ++ [some ⟨old ++ p.1, true⟩])))
      | none => .need (ownAt H b = true ∧ p.1.all AV.cell = true) (.val (.sl H.length 0 (n + p.2) sz none) (H.set b none ++ [some ⟨old ++ p.1, true⟩])))))
def lenAt (H : Heap) (b : Nat) : Nat := ((blkAt H b).map (·.cells.length)).getD 0
def sor (P : Program) (s : SOp) (vs : List AV) (H : Heap) : R :=
  match s with
  | .mv => r1 vs fun x => .val x H
  | .pick => r3 vs fun c a b => rB c fun c => .br c (.val a H) (.val b H)
  | .alloc z => r0 vs (.val (.ptr H.length 0) (H ++ [some ⟨z, true⟩]))
  | .box => r1 vs fun x => .need (x.full = true) (.val (.ptr H.length 0) (H ++ [some ⟨x.cells, true⟩]))
  | .build z ps => .need (vs.all AV.full = true) (rO (lay z ps vs) fun cs => .val (.agg cs) H)
  | .bslice sz n z ps => .need (vs.all AV.full = true) (rO (lay z ps vs) fun cs => .val (.sl H.length 0 n sz (some n)) (H ++ [some ⟨cs, true⟩]))
  | .ld1 => r1 vs fun p => rP p fun b off => rO (blkAt H b) fun k => rO k.cells[off]? fun v => .val v H
  | .ldn n => r1 vs fun p => rP p fun b off => rO (rd H b off n) fun cs => .val (.agg cs) H
  | .st n => r2 vs fun p v => rP p fun b off => rO (blkAt H b) fun k =>
    .need (k.own = true ∧ v.full = true ∧ v.cells.length = n ∧ off + n ≤ k.cells.length) (.val (.tup []) (H.set b (some ⟨setCells k.cells off v.cells, true⟩)))
  | .nilchk => r1 vs fun p => rP p fun b off => .val (.ptr b off) H
  | .bin op => r2 vs fun x y => rI x fun k a => rI y fun k' b => rbin op k a k' b H
  | .eqv neg ks => r2 vs fun x y => rA x fun a => rA y fun b => rO (eqCells ks a b) fun t => .val (.bool (if neg then !t else t)) H
  | .eqb neg => r2 vs fun x y => rB x fun a => rB y fun b => .val (.bool (if neg then !decide (a = b) else decide (a = b))) H
  | .eqs neg => r2 vs fun x y => rS x fun a => rS y fun b => .val (.bool (if neg then !decide (a = b) else decide (a = b))) H
  | .eqnil neg => r1 vs fun x => rSl x (.val (.bool (if neg then !true else true)) H) fun _ _ n _ c => .need (0 < n ∨ c.isSome = true) (.val (.bool (if neg then !false else false)) H)
  | .un op => r1 vs fun x => run1 op x H
  | .conv k => r1 vs fun x => rI x fun _ n => .val (.int k (k.wrap n)) H
  | .strOf => r1 vs fun x => rO (rdS H x) fun p => .need (szOk 1 x) (rO (strC p.1) fun s => .val (.str ⟨s.toArray⟩) H)
  | .bytesOf => r1 vs fun x => rSl x .bad fun b off n sz c => .need (sz = 1 ∧ ownAt H b = true) (rO c fun k => .need (0 < k) (.val (.sl b off n sz (some k)) H))
  | .mkfn f n => .val (.fn f (vs.take n) (vs.drop n)) H
  | .mksl sz bytes z => r2 vs fun x y => rI x fun _ l => rI y fun _ c => .need (0 ≤ l ∧ l ≤ c ∧ bytes * c ≤ 281474976710656) (.val (.sl H.length 0 l.toNat sz (some c.toNat)) (H ++ [some ⟨(List.replicate c.toNat z).flatten, true⟩]))
  | .slice sz lo hi mx => rC vs fun x r => rSl x (rcut 0 (some 0) lo hi mx r fun _ _ _ => .val .nils H) fun b off n sz' c => .need (sz' = sz) (rcut n c lo hi mx r fun l h c' => .val (.sl b (off + l * sz') (h - l) sz' (if n = 0 ∧ c = none then none else c')) H)
  | .aslice sz n lo hi mx => rC vs fun x r => rP x fun b off => rcut n (some n) lo hi mx r fun l h c' => .need (off + n * sz ≤ lenAt H b ∧ (blkAt H b).isSome = true) (.val (.sl b (off + l * sz) (h - l) sz c') H)
  | .faddr o => r1 vs fun p => rP p fun b off => .val (.ptr b (off + o)) H
  | .fld o n agg => r1 vs fun x => rA x fun cs => match agg with | true => .val (.agg ((cs.drop o).take n)) H | false => rO cs[o]? fun v => .val v H
  | .iaddrS sz => r2 vs fun x i => rSl x .bad fun b off n sz' _ => rI i fun _ i => .need (sz' = sz ∧ 0 ≤ i ∧ i < n) (.val (.ptr b (off + i.toNat * sz')) H)
  | .iaddrA sz n => r2 vs fun p i => rP p fun b off => rI i fun _ i => .need (0 ≤ i ∧ i < n) (.val (.ptr b (off + i.toNat * sz)) H)
  | .idxA sz n agg => r2 vs fun x i => rA x fun cs => rI i fun _ i => .need (0 ≤ i ∧ i < n) (match agg with | true => .val (.agg ((cs.drop (i.toNat * sz)).take sz)) H | false => rO cs[i.toNat]? fun v => .val v H)
  | .ext i => r1 vs fun x => rT x fun l => rO l[i]? fun v => .val v H
  | .len => r1 vs fun x => rSl x (.val (.int .i64 0) H) fun _ _ n _ _ => .val (.int .i64 n) H
  | .lenA n => r1 vs fun _ => .val (.int .i64 n) H
  | .cap => r1 vs fun x => rSl x (.val (.int .i64 0) H) fun _ _ _ _ c => rO c fun k => .val (.int .i64 k) H
  | .mn => r2 vs fun x y => rI x fun k a => rI y fun k' b => .need (k = k') (.val (.int k (if b < a then b else a)) H)
  | .mx => r2 vs fun x y => rI x fun k a => rI y fun k' b => .need (k = k') (.val (.int k (if b > a then b else a)) H)
  | .call f => .call f vs H
  | .callv => rC vs fun g r => rF g (fun f xs ys => .need (hasBody P f = true) (.call f (xs ++ r ++ ys) H)) fun b => .ycall b r H
  | .app sz bytes => r2 vs fun s x => rapp sz bytes s x H
  | .appZ sz bytes z => r2 vs fun s x => rSl s (rI x fun _ n => .need (0 < n ∧ n * bytes ≤ 140737488355328) (.val (.sl H.length 0 n.toNat sz none) (H ++ [some ⟨(List.replicate n.toNat z).flatten, true⟩]))) fun _ _ _ _ _ => .bad
  | .copy sz => r2 vs fun d x => rSl d .bad fun b off n sz' _ => .need (sz' = sz) (rSl x (.val (.int .i64 0) H) fun b' off' m _ _ => rO (rd H b' off' (min m n * sz)) fun cs => rO (blkAt H b) fun k =>
    .need (k.own = true ∧ cs.all AV.cell = true ∧ off + min m n * sz ≤ k.cells.length) (.val (.int .i64 (min m n : Nat)) (H.set b (some ⟨setCells k.cells off cs, true⟩))))
  | .mp m => rO (mop m vs H) fun p => .val p.1 p.2
  | .dead => .bad
theorem rcut_sat {P : Program} {K : AV → Heap → Prop} (n : Nat) (c : Option Nat) (lo hi mx : Bool) (vs : List AV) (f : Nat → Nat → Option Nat → R) :
    (rcut n c lo hi mx vs f).sat P K = cut n c lo hi mx vs (fun l h c' => (f l h c').sat P K) := by
  unfold rcut cut
  split <;> simp only [r0_sat, r1_sat, r2_sat, r3_sat, rI_sat, need_sat, bad_sat, and_assoc]
theorem sor_so (P : Program) (s : SOp) (vs : List AV) (H : Heap) (K : AV → Heap → Prop) (h : (sor P s vs H).sat P K) : so P s vs H K := by
  cases s <;> simp only [sor, r0_sat, r1_sat, r2_sat, r3_sat, rC_sat, rB_sat, rI_sat, rP_sat, rA_sat, rT_sat, rS_sat, rF_sat, rSl_sat, rO_sat, need_sat, val_sat, br_sat, call_sat, ycall_sat, bad_sat, rcut_sat, and_assoc] at h <;> simp only [so] <;> (try exact h)
  case bin op =>
    obtain ⟨x, y, rfl, h⟩ := a2_out h
    obtain ⟨k, a, rfl, h⟩ := isI_out h
    obtain ⟨k', b, rfl, h⟩ := isI_out h
    simp only [a2, isI]
    cases op <;> simp only [rbin, need_sat, val_sat, and_assoc] at h <;> simp only [bin] <;> exact h
  case un op =>
    obtain ⟨x, rfl, h⟩ := a1_out h
    simp only [a1]
    cases op <;> simp only [run1, rB_sat, rI_sat, val_sat, bad_sat] at h <;> simp only [un] <;> exact h
  case idxA sz n agg =>
    cases agg
    · simpa [rO_sat, val_sat] using h
    · simpa [val_sat] using h
  case fld o n agg =>
    cases agg
    · simpa [rO_sat, val_sat] using h
    · simpa [val_sat] using h
  case app sz bytes =>
    obtain ⟨s, x, rfl, h⟩ := a2_out h
    simp only [a2]
    unfold rapp at h
    unfold app
    simp only [need_sat, rO_sat, rSl_sat, br_sat, val_sat, and_assoc] at h
    obtain ⟨h1, h2, h⟩ := h
    refine ⟨h1, h2, ?_⟩
    obtain ⟨p, hp, h⟩ := sm_out h
    rw [hp]
    simp only [sm]
    rcases isSl_out h with ⟨rfl, h⟩ | ⟨b, off, n, sz', c, rfl, h⟩
    · simp only [isSl]
      exact ⟨fun e => h.1 (by simpa using e), fun e => h.2 (by simpa using e)⟩
    · simp only [isSl]
      refine ⟨fun e => h.1 (by simpa using e), fun e => ?_⟩
      obtain ⟨g1, g2⟩ := h.2 (by simpa using e)
      refine ⟨g1, ?_⟩
      obtain ⟨old, ho, g2⟩ := sm_out g2
      rw [ho]
      simp only
      cases c with
      | none =>
        rw [if_neg (by simp)]
        simp only [need_sat, val_sat, and_assoc] at g2
        exact g2
      | some k =>
        simp only [br_sat, need_sat, val_sat, and_assoc] at g2
        by_cases hk : k < n + p.2
        · rw [if_pos ⟨k, rfl, hk⟩]
          exact g2.1 (by simpa using hk)
        · rw [if_neg (by rintro ⟨k', e, hk'⟩; cases e; exact hk hk')]
          exact g2.2 (by simpa using hk)
theorem R.det {P : Program} {K : AV → Heap → Prop} : ∀ (r : R), r.sat P K → ∃ v H', K v H' ∧ ∀ K' : AV → Heap → Prop, K' v H' → r.sat P K'
  | .bad, h => h.elim
  | .val v H, h => ⟨v, H, h, fun _ h => h⟩
  | .need p r, h => let ⟨v, H', h1, h2⟩ := R.det r h.2; ⟨v, H', h1, fun K' hk => ⟨h.1, h2 K' hk⟩⟩
  | .br true x y, h => let ⟨v, H', h1, h2⟩ := R.det x (h.1 rfl); ⟨v, H', h1, fun K' hk => ⟨fun _ => h2 K' hk, (fun e => by cases e)⟩⟩
  | .br false x y, h => let ⟨v, H', h1, h2⟩ := R.det y (h.2 rfl); ⟨v, H', h1, fun K' hk => ⟨(fun e => by cases e), fun _ => h2 K' hk⟩⟩
  | .call f vs H, ⟨v, H', h1, h2⟩ => ⟨v, H', h2, fun K' hk => ⟨v, H', h1, hk⟩⟩
  | .ycall b vs H, ⟨v, H', h1, h2⟩ => ⟨v, H', h2, fun K' hk => ⟨v, H', h1, hk⟩⟩
theorem sor_sound {P : Program} (o : Oper) (s : SOp) (l : List Operand) (hok : okOp P o.op s = some l) (vals : List AV) (H : Heap) (K : AV → Heap → Prop) (h : (sor P s vals H).sat P K) :
    ∃ v H', K v H' ∧ (∀ c, o.op ≠ .defer c) ∧ SStep P o l vals H v H' := by
  obtain ⟨v, H', h1, h2⟩ := so_sound o s l hok vals H K (sor_so P s vals H K h)
  refine ⟨v, H', h1, fun c hc => ?_, h2⟩
  rw [hc] at hok
  cases s <;> first | (simp [okOp] at hok; done) | exact h | (rename_i m; cases m <;> simp [okOp] at hok)
end Go.Proofs.Ytaiboicipbhmhaa.Ah
namespace Go.Proofs.Ytaiboicipbhmhaa.Ah
open Go
abbrev Env := List (Nat × AV)
def Env.get : Env → Nat → AV
  | [], _ => .any
  | (j, v) :: r, i => if j = i then v else Env.get r i
def Env.del : Env → Nat → Env
  | [], _ => []
  | (j, v) :: r, i => if j = i then Env.del r i else (j, v) :: Env.del r i
def Env.dels (T : Env) : List Nat → Env
  | [] => T
  | i :: r => Env.dels (T.del i) r
def Env.ins : Env → Nat → AV → Env
  | [], i, v => [(i, v)]
  | (j, u) :: r, i, v => if i < j then (i, v) :: (j, u) :: r else if i = j then (i, v) :: r else (j, u) :: Env.ins r i v
def Env.put (T : Env) (d : Option Nat) (v : AV) : Env := match d with | some i => T.ins i v | none => T
structure St where
  t : Env
  h : Heap
def Env.eval (T : Env) : SO → AV
  | .r i => T.get i
  | .c v => v
def Env.evals (T : Env) : List SO → List AV
  | [] => []
  | x :: r => T.eval x :: Env.evals T r
def aops (P : Program) : List SOper → Env → Heap → (Env → Heap → Prop) → Prop
  | [], T, H, K => K T H
  | o :: os, T, H, K =>
    match o.guard with
    | none => (sor P o.op (T.evals o.args) H).sat P fun v H' => aops P os ((T.dels o.kill).put o.dst v) H' K
    | some (g, want) => match T.get g with
      | .bool b => (b = want → (sor P o.op (((T.put (some g) (.bool want))).evals o.args) H).sat P fun v H' => aops P os (((T.put (some g) (.bool want)).dels o.kill).put o.dst v) H' K) ∧
          (b = !want → aops P os (((T.put (some g) (.bool (!want))).dels o.kill).put o.dst (.tup [])) H K)
      | .tup [] => aops P os ((T.dels o.kill).put o.dst (.tup [])) H K
      | _ => False
structure TRel (N : Nat) (M : Val) (T : Env) (tmps : Array Value) : Prop where
  size : tmps.size = N
  val : ∀ i, VR M (T.get i) (tmps.getD i undef)
theorem Env.get_del (T : Env) (i j : Nat) : (T.del i).get j = if i = j then .any else T.get j := by
  induction T with
  | nil => simp [Env.del, Env.get]
  | cons p r ih =>
    obtain ⟨k, v⟩ := p
    by_cases h : k = i
    · subst h
      by_cases h2 : k = j
      · subst h2; simp [Env.del, ih]
      · simp [Env.del, Env.get, ih, h2]
    · by_cases h2 : k = j
      · subst h2
        have : ¬ i = k := fun e => h e.symm
        simp [Env.del, Env.get, h, this]
      · simp [Env.del, Env.get, ih, h, h2]
theorem Env.get_ins (T : Env) (i j : Nat) (v : AV) : (T.ins i v).get j = if i = j then v else T.get j := by
  induction T with
  | nil => simp [Env.ins, Env.get]
  | cons p r ih =>
    obtain ⟨k, u⟩ := p
    simp only [Env.ins]
    split
    · simp [Env.get]
    · split
      · rename_i h; subst h
        simp only [Env.get]
        split <;> rfl
      · rename_i h
        simp only [Env.get]
        by_cases h2 : k = j
        · subst h2; simp [h]
        · simp [h2, ih]
theorem TRel.del {N : Nat} {M : Val} {T : Env} {tmps : Array Value} (h : TRel N M T tmps) (i : Nat) : TRel N M (T.del i) tmps := by
  refine ⟨h.size, fun j => ?_⟩
  rw [Env.get_del]
  split
  · simp [VR]
  · exact h.val j
theorem TRel.dels {N : Nat} {M : Val} {tmps : Array Value} : ∀ (l : List Nat) {T : Env}, TRel N M T tmps → TRel N M (T.dels l) tmps
  | [], _, h => h
  | i :: r, _, h => TRel.dels r (h.del i)
theorem TRel.mono {N : Nat} {M M' : Val} {T : Env} {tmps : Array Value} (h : TRel N M T tmps) (hM : M.le M') : TRel N M' T tmps := ⟨h.size, fun j => (h.val j).mono hM⟩
theorem TRel.put {N : Nat} {M : Val} {T : Env} {a : Act} (h : TRel N M T a.tmps) (d : Option Nat) (hd : ∀ i, d = some i → i < N) {v : AV} {x : Value} (hv : VR M v x) : TRel N M (T.put d v) (a.put d x).tmps := by
  cases d with
  | none => exact h
  | some i =>
    have hi := hd i rfl
    refine ⟨by simp [Act.put, h.size], fun j => ?_⟩
    simp only [Env.put, Env.get_ins, Act.put]
    by_cases hj : i = j
    · subst hj
      rw [if_pos rfl]
      have : i < a.tmps.size := by rw [h.size]; exact hi
      simpa [this] using hv
    · rw [if_neg hj]
      have := h.val j
      simp only [Array.getD_eq_getD_getElem?] at this ⊢
      rw [Array.getElem?_setIfInBounds_ne hj]
      exact this
theorem TRel.know {N : Nat} {M : Val} {T : Env} {tmps : Array Value} (h : TRel N M T tmps) (i : Nat) {v : AV} (hv : VR M v (tmps.getD i undef)) : TRel N M (T.put (some i) v) tmps := by
  refine ⟨h.size, fun j => ?_⟩
  simp only [Env.put, Env.get_ins]
  by_cases hj : i = j
  · subst hj
    rw [if_pos rfl]
    exact hv
  · rw [if_neg hj]
    exact h.val j
theorem okArg_sound {M : Val} {T : Env} {N : Nat} {a : Act} (h : TRel N M T a.tmps) {x : Operand} {s : SO} (hok : okArg x s = true) : VR M (T.eval s) (a.eval x) := by
  unfold okArg at hok
  split at hok
  · simp at hok
    subst hok
    exact h.val _
  · exact vc_sound M _ _ hok
  · simp at hok
    subst hok
    simp only [Env.eval, VR, Act.eval]
    exact ⟨[], [], rfl, by simp [VRs], by simp [VRs]⟩
  · cases hok
def okArgs : List Operand → List SO → Bool
  | [], [] => true
  | x :: xs, s :: ss => okArg x s && okArgs xs ss
  | _, _ => false
theorem okArgs_sound {M : Val} {T : Env} {N : Nat} {a : Act} (h : TRel N M T a.tmps) : ∀ (xs : List Operand) (ss : List SO), okArgs xs ss = true → VRs M (T.evals ss) (xs.map a.eval)
  | [], [], _ => by simp [Env.evals, VRs]
  | [], _ :: _, hok => by simp [okArgs] at hok
  | _ :: _, [], hok => by simp [okArgs] at hok
  | x :: xs, s :: ss, hok => by
    simp only [okArgs, Bool.and_eq_true] at hok
    simp only [Env.evals, List.map_cons, VRs]
    exact ⟨_, _, rfl, okArg_sound h hok.1, okArgs_sound h xs ss hok.2⟩
def okDst (N : Nat) : Option Nat → Bool
  | some i => decide (i < N)
  | none => true
def okOper (P : Program) (N : Nat) (ops : Array Oper) (o : Oper) (s : SOper) : Bool :=
  (match okOp P o.op s.op with | some l => okArgs l s.args | none => false) && o.dst == s.dst && okDst N o.dst &&
  match o.guard, s.guard with
  | none, none => true
  | some (j, w), some (g, w') => w == w' && (ops[j]?).bind (·.dst) == some g && decide (g < N)
  | _, _ => false
def okOpers (P : Program) (N : Nat) (ops : Array Oper) : List Oper → List SOper → Bool
  | [], [] => true
  | o :: os, s :: ss => okOper P N ops o s && okOpers P N ops os ss
  | _, _ => false
def Rel (X : Cx) (N : Nat) (T : Env) (H : Heap) (a : Act) (w : World) : Prop :=
  ∃ M, HRel M H w ∧ Kept X M H w ∧ TRel N M T a.tmps ∧ Marks X.w.heap.size w a.defers
theorem put_defers (a : Act) (d : Option Tmp) (v : Value) : (a.put d v).defers = a.defers := by cases d <;> rfl
theorem vr_undef (M : Val) : VR M (.tup []) undef := by
  simp only [VR]
  exact ⟨[], rfl, by simp [VRs]⟩
theorem ops_sound {P : Program} {rd : Option Nat} {X : Cx} {N : Nat} {ops : Array Oper} {Q : Exit → Act → World → Prop} {K : Env → Heap → Prop} (hQ : ∀ T H a w, K T H → Rel X N T H a w → Q .normal a w) :
    ∀ (os : List Oper) (ss : List SOper), okOpers P N ops os ss = true → ∀ (T : Env) (H : Heap) (a : Act) (w : World), aops P ss T H K → Rel X N T H a w → wpListIn (Wd rd) 0 P ops Q os a w
  | [], [], _, T, H, a, w, h, hr => hQ T H a w h hr
  | [], _ :: _, hok, _, _, _, _, _, _ => by simp [okOpers] at hok
  | _ :: _, [], hok, _, _, _, _, _, _ => by simp [okOpers] at hok
  | o :: os, s :: ss, hok, T, H, a, w, h, hr => by
    simp only [okOpers, Bool.and_eq_true] at hok
    obtain ⟨h1, h2⟩ := hok
    simp only [okOper, Bool.and_eq_true] at h1
    obtain ⟨⟨⟨g1, g2⟩, g3⟩, g4⟩ := h1
    have hdst : o.dst = s.dst := by simpa using g2
    have hdN : ∀ i, s.dst = some i → i < N := by
      intro i hi
      rw [hdst, hi] at g3
      simpa [okDst] using g3
    cases hop : okOp P o.op s.op with
    | none => rw [hop] at g1; cases g1
    | some l =>
      rw [hop] at g1
      simp only at g1
      -- the operation is carried out
      have run : ∀ T' : Env, Rel X N T' H a w → (sor P s.op (T'.evals s.args) H).sat P (fun v H' => aops P ss ((T'.dels s.kill).put s.dst v) H' K) → o.wpIn (Wd rd) 0 P a w (wpListIn (Wd rd) 0 P ops Q os) Q := by
        rintro T' ⟨M, hH, hK, hT, hd⟩ hso
        obtain ⟨v, H', hk, hnd, hstep⟩ := sor_sound o s.op l hop _ H _ hso
        refine hstep hnd M w a hH (okArgs_sound hT l s.args g1) rd (wpListIn (Wd rd) 0 P ops Q os) Q fun x M' w' e1 e2 e3 => ?_
        have hle := hH.le e2
        refine ops_sound hQ os ss h2 _ H' _ w' hk ⟨M', e1, hK.trans e2, ?_, by rw [put_defers]; exact hd.keep hH e2⟩
        rw [hdst]
        exact ((hT.mono hle).dels s.kill).put s.dst hdN e3
      -- it is passed over
      have skip : ∀ T' : Env, Rel X N T' H a w → aops P ss ((T'.dels s.kill).put s.dst (.tup [])) H K → wpListIn (Wd rd) 0 P ops Q os (a.put o.dst undef) w := by
        rintro T' ⟨M, hH, hK, hT, hd⟩ hk
        refine ops_sound hQ os ss h2 _ H _ w hk ⟨M, hH, hK, ?_, by rw [put_defers]; exact hd⟩
        rw [hdst]
        exact (hT.dels s.kill).put s.dst hdN (vr_undef M)
      unfold wpListIn
      unfold aops at h
      cases hg : o.guard with
      | none =>
        rw [hg] at g4
        cases hsg : s.guard with
        | some p => rw [hsg] at g4; cases g4
        | none =>
          rw [hsg] at h
          simp only at h
          rw [if_pos (by simp [Region.wanted, hg])]
          exact run T hr h
      | some p =>
        obtain ⟨j, wt⟩ := p
        rw [hg] at g4
        cases hsg : s.guard with
        | none => rw [hsg] at g4; cases g4
        | some q =>
          obtain ⟨g, wt'⟩ := q
          rw [hsg] at g4 h
          simp only [Bool.and_eq_true, beq_iff_eq, decide_eq_true_eq] at g4
          obtain ⟨⟨rfl, hj⟩, hgN⟩ := g4
          simp only at h
          have hr' := hr
          obtain ⟨M, hH, hK, hT, hd⟩ := hr'
          have hval := hT.val g
          have hy : yielded ops a.tmps j = match a.tmps[g]? with | some (.bool b) => some b | _ => none := by
            unfold yielded
            rw [hj]
            rfl
          have hgs : a.tmps[g]? = some (a.tmps.getD g undef) := by
            have : g < a.tmps.size := by rw [hT.size]; exact hgN
            simp [this]
          rw [hgs] at hy
          split at h
          · rename_i b hb
            rw [hb] at hval
            simp only [VR] at hval
            rw [hval] at hy
            simp only at hy
            by_cases hbw : b = wt
            · rw [if_pos (by simp [Region.wanted, hg, hy, hbw])]
              exact (run _ ⟨M, hH, hK, hT.know g (by rw [hval, hbw]; simp [VR]), hd⟩ (h.1 hbw))
            · rw [if_neg (by simp [Region.wanted, hg, hy, hbw])]
              have hb2 : b = !wt := by cases b <;> cases wt <;> simp_all
              exact ⟨fun _ _ => trivial, skip _ ⟨M, hH, hK, hT.know g (by rw [hval, hb2]; simp [VR]), hd⟩ (h.2 hb2)⟩
          · rename_i hb
            rw [hb] at hval
            simp only [VR, VRs] at hval
            obtain ⟨us, e1, e2⟩ := hval
            rw [e1, e2] at hy
            simp only at hy
            rw [if_neg (by simp [Region.wanted, hg, hy])]
            exact ⟨fun _ _ => trivial, skip T hr h⟩
          · exact h.elim
end Go.Proofs.Ytaiboicipbhmhaa.Ah
namespace Go.Proofs.Ytaiboicipbhmhaa.Ah
open Go
set_option linter.unusedVariables false

inductive Cls where
  | pure | load | heavy
  deriving DecidableEq
def SOp.cls : SOp → Cls
  | .mv | .pick | .build .. | .nilchk | .bin _ | .eqv .. | .eqb _ | .eqs _ | .eqnil _ | .un _ | .conv _ | .mkfn .. | .slice .. | .faddr _ | .fld .. | .iaddrS _ | .iaddrA .. | .idxA .. | .ext _ | .len | .lenA _ | .cap | .mn | .mx => .pure
  | .ld1 | .ldn _ | .strOf | .aslice .. => .load
  | _ => .heavy
section
variable {P : Program}
def Same (P : Program) (f : Heap → R) : Prop := ∀ H K, (f H).sat P K → ∃ v, K v H ∧ ∀ H2 K', K' v H2 → (f H2).sat P K'
theorem Same.bad : Same P (fun _ => .bad) := fun _ _ h => h.elim
theorem Same.val (v : AV) : Same P (fun H => .val v H) := fun H K h => ⟨v, h, fun _ _ h => h⟩
theorem Same.need {p : Prop} {f : Heap → R} (h : Same P f) : Same P (fun H => .need p (f H)) := fun H K hs => let ⟨v, h1, h2⟩ := h H K hs.2; ⟨v, h1, fun H2 K' hk => ⟨hs.1, h2 H2 K' hk⟩⟩
theorem Same.br (c : Bool) {f g : Heap → R} (hf : Same P f) (hg : Same P g) : Same P (fun H => .br c (f H) (g H)) := by
  intro H K hs
  cases c
  · obtain ⟨v, h1, h2⟩ := hg H K (hs.2 rfl)
    exact ⟨v, h1, fun H2 K' hk => ⟨(fun e => by cases e), fun _ => h2 H2 K' hk⟩⟩
  · obtain ⟨v, h1, h2⟩ := hf H K (hs.1 rfl)
    exact ⟨v, h1, fun H2 K' hk => ⟨fun _ => h2 H2 K' hk, (fun e => by cases e)⟩⟩
theorem Same.r0 (vs : List AV) {f : Heap → R} (h : Same P f) : Same P (fun H => r0 vs (f H)) := by unfold Ah.r0; rcases vs with _ | ⟨_, _⟩ <;> first | exact h | exact .bad
theorem Same.r1 (vs : List AV) {f : Heap → AV → R} (h : ∀ x, Same P (fun H => f H x)) : Same P (fun H => r1 vs (f H)) := by unfold Ah.r1; rcases vs with _ | ⟨_, _ | ⟨_, _⟩⟩ <;> first | exact h _ | exact .bad
theorem Same.r2 (vs : List AV) {f : Heap → AV → AV → R} (h : ∀ x y, Same P (fun H => f H x y)) : Same P (fun H => r2 vs (f H)) := by unfold Ah.r2; rcases vs with _ | ⟨_, _ | ⟨_, _ | ⟨_, _⟩⟩⟩ <;> first | exact h _ _ | exact .bad
theorem Same.r3 (vs : List AV) {f : Heap → AV → AV → AV → R} (h : ∀ x y z, Same P (fun H => f H x y z)) : Same P (fun H => r3 vs (f H)) := by unfold Ah.r3; rcases vs with _ | ⟨_, _ | ⟨_, _ | ⟨_, _ | ⟨_, _⟩⟩⟩⟩ <;> first | exact h _ _ _ | exact .bad
theorem Same.rC (vs : List AV) {f : Heap → AV → List AV → R} (h : ∀ x y, Same P (fun H => f H x y)) : Same P (fun H => rC vs (f H)) := by unfold Ah.rC; rcases vs with _ | ⟨_, _⟩ <;> first | exact h _ _ | exact .bad
theorem Same.rB (v : AV) {f : Heap → Bool → R} (h : ∀ x, Same P (fun H => f H x)) : Same P (fun H => rB v (f H)) := by unfold Ah.rB; cases v <;> first | exact h _ | exact .bad
theorem Same.rI (v : AV) {f : Heap → IntKind → Int → R} (h : ∀ x y, Same P (fun H => f H x y)) : Same P (fun H => rI v (f H)) := by unfold Ah.rI; cases v <;> first | exact h _ _ | exact .bad
theorem Same.rP (v : AV) {f : Heap → Nat → Nat → R} (h : ∀ x y, Same P (fun H => f H x y)) : Same P (fun H => rP v (f H)) := by unfold Ah.rP; cases v <;> first | exact h _ _ | exact .bad
theorem Same.rA (v : AV) {f : Heap → List AV → R} (h : ∀ x, Same P (fun H => f H x)) : Same P (fun H => rA v (f H)) := by unfold Ah.rA; cases v <;> first | exact h _ | exact .bad
theorem Same.rT (v : AV) {f : Heap → List AV → R} (h : ∀ x, Same P (fun H => f H x)) : Same P (fun H => rT v (f H)) := by unfold Ah.rT; cases v <;> first | exact h _ | exact .bad
theorem Same.rS (v : AV) {f : Heap → ByteArray → R} (h : ∀ x, Same P (fun H => f H x)) : Same P (fun H => rS v (f H)) := by unfold Ah.rS; cases v <;> first | exact h _ | exact .bad
theorem Same.rSl (v : AV) {n : Heap → R} {f : Heap → Nat → Nat → Nat → Nat → Option Nat → R} (hn : Same P n) (h : ∀ a b c d e, Same P (fun H => f H a b c d e)) : Same P (fun H => rSl v (n H) (f H)) := by unfold Ah.rSl; cases v <;> first | exact h _ _ _ _ _ | exact hn | exact .bad
theorem Same.rO {α : Type} (o : Option α) {f : Heap → α → R} (h : ∀ x, Same P (fun H => f H x)) : Same P (fun H => rO o (f H)) := by unfold Ah.rO; cases o <;> first | exact h _ | exact .bad
theorem Same.rcut (n : Nat) (c : Option Nat) (lo hi mx : Bool) (vs : List AV) {f : Heap → Nat → Nat → Option Nat → R} (h : ∀ x y z, Same P (fun H => f H x y z)) : Same P (fun H => rcut n c lo hi mx vs (f H)) := by
  unfold Ah.rcut
  cases lo <;> cases hi <;> cases mx <;> simp only <;> first
    | exact .bad
    | exact .r0 _ (h _ _ _)
    | exact .r1 _ fun _ => .rI _ fun _ _ => .need (h _ _ _)
    | exact .r2 _ fun _ _ => .rI _ fun _ _ => .rI _ fun _ _ => .need (h _ _ _)
    | exact .r3 _ fun _ _ _ => .rI _ fun _ _ => .rI _ fun _ _ => .rI _ fun _ _ => .need (h _ _ _)
theorem Same.rbin (op : BinOp) (k : IntKind) (a : Int) (k' : IntKind) (b : Int) : Same P (fun H => rbin op k a k' b H) := by
  cases op <;> simp only [Ah.rbin] <;> exact .need (.val _)
theorem Same.run1 (op : UnOp) (v : AV) : Same P (fun H => run1 op v H) := by
  cases op <;> simp only [Ah.run1] <;> first | exact .rB _ fun _ => .val _ | exact .rI _ fun _ _ => .val _ | exact .bad
theorem sor_pure (s : SOp) (hs : s.cls = .pure) (vs : List AV) : Same P (fun H => sor P s vs H) := by
  cases s <;> simp only [SOp.cls, reduceCtorEq] at hs <;> simp only [sor]
  case mv => exact .r1 _ fun _ => .val _
  case pick => exact .r3 _ fun _ _ _ => .rB _ fun _ => .br _ (.val _) (.val _)
  case build => exact .need (.rO _ fun _ => .val _)
  case nilchk => exact .r1 _ fun _ => .rP _ fun _ _ => .val _
  case bin => exact .r2 _ fun _ _ => .rI _ fun _ _ => .rI _ fun _ _ => .rbin _ _ _ _ _
  case eqv => exact .r2 _ fun _ _ => .rA _ fun _ => .rA _ fun _ => .rO _ fun _ => .val _
  case eqb => exact .r2 _ fun _ _ => .rB _ fun _ => .rB _ fun _ => .val _
  case eqs => exact .r2 _ fun _ _ => .rS _ fun _ => .rS _ fun _ => .val _
  case eqnil => exact .r1 _ fun _ => .rSl _ (.val _) fun _ _ _ _ _ => .need (.val _)
  case un => exact .r1 _ fun _ => .run1 _ _
  case conv => exact .r1 _ fun _ => .rI _ fun _ _ => .val _
  case mkfn => exact .val _
  case slice => exact .rC _ fun _ _ => .rSl _ (.rcut _ _ _ _ _ _ fun _ _ _ => .val _) fun _ _ _ _ _ => .need (.rcut _ _ _ _ _ _ fun _ _ _ => .val _)
  case faddr => exact .r1 _ fun _ => .rP _ fun _ _ => .val _
  case fld o n agg =>
    cases agg
    · exact .r1 _ fun _ => .rA _ fun _ => .rO _ fun _ => .val _
    · exact .r1 _ fun _ => .rA _ fun _ => .val _
  case iaddrS => exact .r2 _ fun _ _ => .rSl _ .bad fun _ _ _ _ _ => .rI _ fun _ _ => .need (.val _)
  case iaddrA => exact .r2 _ fun _ _ => .rP _ fun _ _ => .rI _ fun _ _ => .need (.val _)
  case idxA sz n agg => exact .r2 _ fun _ _ => .rA _ fun _ => .rI _ fun _ _ => .need (by cases agg <;> first | exact .val _ | exact .rO _ fun _ => .val _)
  case ext => exact .r1 _ fun _ => .rT _ fun _ => .rO _ fun _ => .val _
  case len => exact .r1 _ fun _ => .rSl _ (.val _) fun _ _ _ _ _ => .val _
  case lenA => exact .r1 _ fun _ => .val _
  case cap => exact .r1 _ fun _ => .rSl _ (.val _) fun _ _ _ _ _ => .rO _ fun _ => .val _
  case mn => exact .r2 _ fun _ _ => .rI _ fun _ _ => .rI _ fun _ _ => .need (.val _)
  case mx => exact .r2 _ fun _ _ => .rI _ fun _ _ => .rI _ fun _ _ => .need (.val _)
def Along (H H2 : Heap) : Prop := (∃ G, H2 = H ++ G) ∨ ∃ G, H = H2 ++ G
theorem Along.at {H H2 : Heap} (h : Along H H2) {b : Nat} (h1 : b < H.length) (h2 : b < H2.length) : blkAt H2 b = blkAt H b := by
  unfold blkAt
  rcases h with ⟨G, rfl⟩ | ⟨G, rfl⟩
  · rw [List.getElem?_append_left h1]
  · rw [List.getElem?_append_left h2]
theorem blkAt_lt {H : Heap} {b : Nat} {k : Blk} (h : blkAt H b = some k) : b < H.length := by
  unfold blkAt at h
  rcases Nat.lt_or_ge b H.length with h1 | h1
  · exact h1
  · rw [List.getElem?_eq_none h1] at h; cases h
theorem rcut_ex {n : Nat} {c : Option Nat} {lo hi mx : Bool} {vs : List AV} {f : Nat → Nat → Option Nat → R} {K : AV → Heap → Prop} (h : (rcut n c lo hi mx vs f).sat P K) : (∃ l r c', (f l r c').sat P K) ∧ ∀ v ∈ vs, ∃ k n, v = .int k n := by
  unfold rcut at h
  split at h <;> simp only [r0_sat, r1_sat, r2_sat, r3_sat, rI_sat, need_sat, bad_sat] at h
  · obtain ⟨rfl, h⟩ := a0_out h
    exact ⟨⟨_, _, _, h⟩, by simp⟩
  · obtain ⟨x, rfl, h⟩ := a1_out h
    obtain ⟨_, _, rfl, h⟩ := isI_out h
    exact ⟨⟨_, _, _, h.2⟩, by simp⟩
  · obtain ⟨x, rfl, h⟩ := a1_out h
    obtain ⟨_, _, rfl, h⟩ := isI_out h
    exact ⟨⟨_, _, _, h.2⟩, by simp⟩
  · obtain ⟨x, y, rfl, h⟩ := a2_out h
    obtain ⟨_, _, rfl, h⟩ := isI_out h
    obtain ⟨_, _, rfl, h⟩ := isI_out h
    exact ⟨⟨_, _, _, h.2⟩, by simp⟩
  · obtain ⟨x, y, rfl, h⟩ := a2_out h
    obtain ⟨_, _, rfl, h⟩ := isI_out h
    obtain ⟨_, _, rfl, h⟩ := isI_out h
    exact ⟨⟨_, _, _, h.2⟩, by simp⟩
  · obtain ⟨x, y, z, rfl, h⟩ := a3_out h
    obtain ⟨_, _, rfl, h⟩ := isI_out h
    obtain ⟨_, _, rfl, h⟩ := isI_out h
    obtain ⟨_, _, rfl, h⟩ := isI_out h
    exact ⟨⟨_, _, _, h.2⟩, by simp⟩
def aims (b : Nat) (vs : List AV) : Prop := (∃ o, AV.ptr b o ∈ vs) ∨ ∃ o n s c, AV.sl b o n s c ∈ vs
def SameAt (vs : List AV) (H H2 : Heap) : Prop := ∀ b k, aims b vs → blkAt H b = some k → blkAt H2 b = some k
theorem Along.same {vs : List AV} {H H2 : Heap} (ha : Along H H2) (hb : ∀ b, aims b vs → b < H2.length) : SameAt vs H H2 := by
  intro b k h1 h2
  rw [ha.at (blkAt_lt h2) (hb b h1)]
  exact h2
theorem rdS_some {H : Heap} {b off n s : Nat} {c : Option Nat} {q : List AV × Nat} (hc : rdS H (.sl b off n s c) = some q) : ∃ k, blkAt H b = some k := by
  simp only [rdS, Option.map_eq_some_iff] at hc
  obtain ⟨cs, hc, _⟩ := hc
  unfold rd at hc
  split at hc
  · rename_i k hk; exact ⟨k, hk⟩
  · cases hc
theorem rdS_along {H H2 : Heap} {x : AV} {q : List AV × Nat} (ha : SameAt [x] H H2) (hq : rdS H x = some q) : rdS H2 x = rdS H x := by
  cases x with
  | sl b off n sz c =>
    obtain ⟨k, hk⟩ := rdS_some hq
    have e := ha b k (.inr ⟨off, n, sz, c, by simp⟩) hk
    simp only [rdS]
    unfold rd
    rw [e, hk]
  | _ => rfl
theorem sor_load (s : SOp) (hs : s.cls = .load) (vs : List AV) {H H2 : Heap} {K : AV → Heap → Prop} (h : (sor P s vs H).sat P K) (ha : SameAt vs H H2) :
    ∃ v, K v H ∧ ∀ K', K' v H2 → (sor P s vs H2).sat P K' := by
  cases s <;> simp only [SOp.cls, reduceCtorEq] at hs <;> simp only [sor, r1_sat, rP_sat, rO_sat, val_sat, rC_sat, need_sat] at h ⊢
  case ld1 =>
    obtain ⟨p, rfl, h⟩ := a1_out h
    obtain ⟨b, off, rfl, h⟩ := isP_out h
    obtain ⟨k, hk, h⟩ := sm_out h
    obtain ⟨v, hv, h⟩ := sm_out h
    refine ⟨v, h, fun K' hK => ?_⟩
    simp only [a1, isP, ha b _ (.inl ⟨off, by simp⟩) hk, sm, hv]
    exact hK
  case ldn n =>
    obtain ⟨p, rfl, h⟩ := a1_out h
    obtain ⟨b, off, rfl, h⟩ := isP_out h
    obtain ⟨cs, hc, h⟩ := sm_out h
    refine ⟨_, h, fun K' hK => ?_⟩
    simp only [a1, isP]
    have hk : ∃ k, blkAt H b = some k := by
      unfold rd at hc
      split at hc
      · rename_i k hk; exact ⟨k, hk⟩
      · cases hc
    obtain ⟨k, hk⟩ := hk
    have : rd H2 b off n = rd H b off n := by unfold rd; rw [ha b k (.inl ⟨off, by simp⟩) hk, hk]
    rw [this, hc]
    exact hK
  case strOf =>
    obtain ⟨x, rfl, h⟩ := a1_out h
    obtain ⟨q, hq, h1, h⟩ := sm_out h
    obtain ⟨s, hs, h⟩ := sm_out h
    refine ⟨_, h, fun K' hK => ?_⟩
    have this := rdS_along ha hq
    simp only [a1, this, hq, sm, hs]
    exact ⟨h1, hK⟩
  case aslice sz n lo hi mx =>
    obtain ⟨x, r, rfl, h⟩ := aC_out h
    obtain ⟨b, off, rfl, h⟩ := isP_out h
    simp only [aC, isP]
    obtain ⟨⟨l, r2, c', hp⟩, _⟩ := rcut_ex h
    obtain ⟨k0, hk0⟩ := Option.isSome_iff_exists.1 hp.1.2
    have hbl : blkAt H2 b = blkAt H b := by rw [hk0]; exact ha b k0 (.inl ⟨off, by simp⟩) hk0
    have e : lenAt H2 b = lenAt H b := by unfold lenAt; rw [hbl]
    rw [e, hbl]
    exact Same.rcut (P := P) n (some n) lo hi mx r (f := fun H' l h c' => R.need (off + n * sz ≤ lenAt H b ∧ (blkAt H b).isSome = true) (R.val (.sl b (off + l * sz) (h - l) sz c') H')) (fun l h c' => .need (.val _)) H K h |>.imp fun v hv => ⟨hv.1, fun K' hK => hv.2 H2 K' hK⟩
end
end Go.Proofs.Ytaiboicipbhmhaa.Ah
namespace Go.Proofs.Ytaiboicipbhmhaa.Ah
open Go
set_option linter.unusedVariables false
structure DOp where
  ix : Nat
  anc : Nat
  ext : Bool
  pur : Bool
  o : SOper
  wat : List Nat
def Pur (P : Program) (s : SOp) (vs : List AV) (H : Heap) (v : AV) : Prop := ∀ (G : Heap) (K : AV → Heap → Prop), K v (H ++ G) → (sor P s vs (H ++ G)).sat P K
def WatL (T : Env) (H H' : Heap) : List Nat → Prop
  | [] => True
  | t :: r => (isP (T.get t) fun b _ => blkAt H' b = blkAt H b) ∧ WatL T H H' r
def Wat (ws : List Nat) (T : Env) (H H' : Heap) : Prop := H' = H ∨ WatL T H H' ws
theorem WatL.at {T : Env} {H H' : Heap} : ∀ {ws : List Nat}, WatL T H H' ws → ∀ t ∈ ws, ∃ b off, T.get t = .ptr b off ∧ blkAt H' b = blkAt H b
  | [], _, t, h => by simp at h
  | u :: r, h, t, ht => by
    simp only [WatL] at h
    rcases List.mem_cons.1 ht with rfl | h2
    · obtain ⟨b, off, e, h3⟩ := isP_out h.1
      exact ⟨b, off, e, h3⟩
    · exact h.2.at t h2
theorem WatL.congr {T T' : Env} {H H' : Heap} (hT : ∀ t, T.get t = T'.get t) : ∀ {ws : List Nat}, WatL T H H' ws → WatL T' H H' ws
  | [], _ => trivial
  | u :: r, h => by
    simp only [WatL] at h ⊢
    rw [hT u] at h
    exact ⟨h.1, h.2.congr hT⟩
def adraw (P : Program) : List DOp → Env → Heap → (Env → Heap → Prop) → Prop
  | [], T, H, K => K T H
  | d :: ds, T, H, K =>
    match d.o.guard with
    | none => (sor P d.o.op (T.evals d.o.args) H).sat P fun v H' => (((d.ext = true → ∃ G, H' = H ++ G) ∧ (d.pur = true → H' = H ∧ Pur P d.o.op (T.evals d.o.args) H v)) ∧ WatL T H H' d.wat) ∧ adraw P ds ((T.dels d.o.kill).put d.o.dst v) H' K
    | some (g, want) => match T.get g with
      | .bool b => (b = want → (sor P d.o.op ((T.put (some g) (.bool want)).evals d.o.args) H).sat P fun v H' => (((d.ext = true → ∃ G, H' = H ++ G) ∧ (d.pur = true → H' = H ∧ Pur P d.o.op ((T.put (some g) (.bool want)).evals d.o.args) H v)) ∧ WatL (T.put (some g) (.bool want)) H H' d.wat) ∧ adraw P ds (((T.put (some g) (.bool want)).dels d.o.kill).put d.o.dst v) H' K) ∧
          (b = !want → adraw P ds (((T.put (some g) (.bool (!want))).dels d.o.kill).put d.o.dst (.tup [])) H K)
      | .tup [] => adraw P ds ((T.dels d.o.kill).put d.o.dst (.tup [])) H K
      | _ => False
def Did (P : Program) (d : DOp) (T : Env) (H : Heap) (v : AV) (H' : Heap) : Prop :=
  ((d.o.guard = none ∨ ∃ g want, d.o.guard = some (g, want) ∧ T.get g = .bool want) ∧ (∀ K : AV → Heap → Prop, K v H' → (sor P d.o.op (T.evals d.o.args) H).sat P K) ∧ (d.pur = true → H' = H ∧ Pur P d.o.op (T.evals d.o.args) H v)) ∨
  (v = .tup [] ∧ H' = H ∧ ∃ g want, d.o.guard = some (g, want) ∧ (T.get g = .bool (!want) ∨ T.get g = .tup []))
structure Tr (P : Program) (ds : List DOp) (Ts : Nat → Env) (Hs : Nat → Heap) (Vs : Nat → AV) : Prop where
  did : ∀ p d, ds[p]? = some d → Did P d (Ts p) (Hs p) (Vs p) (Hs (p + 1))
  ext : ∀ p d, ds[p]? = some d → d.ext = true → ∃ G, Hs (p + 1) = Hs p ++ G
  wat : ∀ p d, ds[p]? = some d → Wat d.wat (Ts p) (Hs p) (Hs (p + 1))
  nxt : ∀ p d, ds[p]? = some d → ∀ t, (Ts (p + 1)).get t = (((Ts p).dels d.o.kill).put d.o.dst (Vs p)).get t
theorem Env.get_put_some (T : Env) (g : Nat) (v : AV) (t : Nat) : (T.put (some g) v).get t = if g = t then v else T.get t := Env.get_ins T g t v
theorem adraw_trace {P : Program} {K : Env → Heap → Prop} : ∀ (ds : List DOp) (T : Env) (H : Heap), adraw P ds T H K →
    ∃ Ts Hs Vs, (∀ t, (Ts 0).get t = T.get t) ∧ Hs 0 = H ∧ Tr P ds Ts Hs Vs ∧ ∃ Tf, (∀ t, Tf.get t = (Ts ds.length).get t) ∧ K Tf (Hs ds.length) ∧ ∀ K' : Env → Heap → Prop, K' Tf (Hs ds.length) → adraw P ds T H K'
  | [], T, H, h => ⟨fun _ => T, fun _ => H, fun _ => .any, fun _ => rfl, rfl, ⟨fun p d h => by simp at h, fun p d h => by simp at h, fun p d h => by simp at h, fun p d h => by simp at h⟩, T, fun _ => rfl, h, fun _ hk => hk⟩
  | d :: ds, T, H, h => by
    -- one step on
    have step : ∀ (T1 : Env) (v : AV) (H1 : Heap), (∀ t, T1.get t = T.get t) → Did P d T1 H v H1 → (d.ext = true → ∃ G, H1 = H ++ G) → Wat d.wat T1 H H1 → adraw P ds ((T1.dels d.o.kill).put d.o.dst v) H1 K →
        (∀ K' : Env → Heap → Prop, adraw P ds ((T1.dels d.o.kill).put d.o.dst v) H1 K' → adraw P (d :: ds) T H K') →
        ∃ Ts Hs Vs, (∀ t, (Ts 0).get t = T.get t) ∧ Hs 0 = H ∧ Tr P (d :: ds) Ts Hs Vs ∧ ∃ Tf, (∀ t, Tf.get t = (Ts (d :: ds).length).get t) ∧ K Tf (Hs (d :: ds).length) ∧ ∀ K' : Env → Heap → Prop, K' Tf (Hs (d :: ds).length) → adraw P (d :: ds) T H K' := by
      intro T1 v H1 hT hd he hw hk hb
      obtain ⟨Ts, Hs, Vs, h1, h2, h3, Tf, h4, h5, h6⟩ := adraw_trace ds _ _ hk
      refine ⟨fun n => match n with | 0 => T1 | n + 1 => Ts n, fun n => match n with | 0 => H | n + 1 => Hs n, fun n => match n with | 0 => v | n + 1 => Vs n, hT, rfl, ⟨?_, ?_, ?_, ?_⟩, Tf, h4, h5, fun K' hK => hb _ (h6 _ hK)⟩
      · intro p e hp
        cases p with
        | zero => simp at hp; subst hp; simp only [h2]; exact hd
        | succ p => exact h3.did p e (by simpa using hp)
      · intro p e hp
        cases p with
        | zero => simp at hp; subst hp; simp only [h2]; exact he
        | succ p => exact h3.ext p e (by simpa using hp)
      · intro p e hp
        cases p with
        | zero => simp at hp; subst hp; simp only [h2]; exact hw
        | succ p => exact h3.wat p e (by simpa using hp)
      · intro p e hp
        cases p with
        | zero => simp at hp; subst hp; exact h1
        | succ p => exact h3.nxt p e (by simpa using hp)
    unfold adraw at h
    cases hg : d.o.guard with
    | none =>
      rw [hg] at h
      simp only at h
      obtain ⟨v, H1, h1, h2⟩ := R.det _ h
      exact step T v H1 (fun _ => rfl) (.inl ⟨.inl hg, h2, h1.1.1.2⟩) h1.1.1.1 (.inr h1.1.2) h1.2 (fun K' hk => by unfold adraw; rw [hg]; exact h2 _ ⟨h1.1, hk⟩)
    | some q =>
      obtain ⟨g, want⟩ := q
      rw [hg] at h
      simp only at h
      split at h
      · rename_i b hb
        by_cases hbw : b = want
        · obtain ⟨v, H1, h1, h2⟩ := R.det _ (h.1 hbw)
          refine step _ v H1 (fun t => ?_) (.inl ⟨.inr ⟨g, want, hg, ?_⟩, h2, h1.1.1.2⟩) h1.1.1.1 (.inr h1.1.2) h1.2 (fun K' hk => ?_)
          · rw [Env.get_put_some]
            split
            · rename_i e; subst e; rw [hb, hbw]
            · rfl
          · rw [Env.get_put_some, if_pos rfl]
          · unfold adraw; rw [hg]; simp only [hb]
            exact ⟨fun _ => h2 _ ⟨h1.1, hk⟩, fun e => by rw [hbw] at e; cases want <;> cases e⟩
        · have hb2 : b = !want := by cases b <;> cases want <;> simp_all
          refine step (T.put (some g) (.bool (!want))) (.tup []) H (fun t => ?_) (.inr ⟨rfl, rfl, g, want, hg, .inl ?_⟩) (fun _ => ⟨[], by simp⟩) (.inl rfl) (h.2 hb2) (fun K' hk => ?_)
          · rw [Env.get_put_some]
            split
            · rename_i e; subst e; rw [hb, hb2]
            · rfl
          · rw [Env.get_put_some, if_pos rfl]
          · unfold adraw; rw [hg]; simp only [hb]
            exact ⟨fun e => absurd e hbw, fun _ => hk⟩
      · rename_i hb
        exact step T (.tup []) H (fun _ => rfl) (.inr ⟨rfl, rfl, g, want, hg, .inr hb⟩) (fun _ => ⟨[], by simp⟩) (.inl rfl) h (fun K' hk => by unfold adraw; rw [hg]; simp only [hb]; exact hk)
      · exact h.elim
theorem Env.get_dels (T : Env) (l : List Nat) (t : Nat) : (T.dels l).get t = if t ∈ l then .any else T.get t := by
  induction l generalizing T with
  | nil => simp [Env.dels]
  | cons i r ih =>
    simp only [Env.dels, ih, Env.get_del, List.mem_cons]
    by_cases h1 : t ∈ r
    · simp [h1]
    · by_cases h2 : i = t
      · subst h2; simp [h1]
      · have : ¬ t = i := fun e => h2 e.symm
        simp [h1, h2, this]
theorem Tr.src {P : Program} {ds : List DOp} {Ts : Nat → Env} {Hs : Nat → Heap} {Vs : Nat → AV} (h : Tr P ds Ts Hs Vs) (t : Nat) : ∀ q, q ≤ ds.length →
    (Ts q).get t = .any ∨ (∃ p d, p < q ∧ ds[p]? = some d ∧ d.o.dst = some t ∧ (Ts q).get t = Vs p) ∨ ((∀ p d, p < q → ds[p]? = some d → d.o.dst ≠ some t) ∧ (Ts q).get t = (Ts 0).get t)
  | 0, _ => .inr (.inr ⟨fun p d hp => by omega, rfl⟩)
  | q + 1, hq => by
    obtain ⟨d, hd⟩ : ∃ d, ds[q]? = some d := ⟨ds[q], by simp⟩
    have hn := h.nxt q d hd t
    have hs : d.o.dst ≠ some t → (Ts (q + 1)).get t = .any ∨ (Ts (q + 1)).get t = (Ts q).get t := by
      intro hne
      rw [hn]
      have : (((Ts q).dels d.o.kill).put d.o.dst (Vs q)).get t = ((Ts q).dels d.o.kill).get t := by
        cases hdst : d.o.dst with
        | none => rfl
        | some i =>
          rw [Env.get_put_some, if_neg]
          intro e
          subst e
          exact hne hdst
      rw [this, Env.get_dels]
      split
      · exact .inl rfl
      · exact .inr rfl
    by_cases hd2 : d.o.dst = some t
    · refine .inr (.inl ⟨q, d, by omega, hd, hd2, ?_⟩)
      rw [hn, hd2, Env.get_put_some, if_pos rfl]
    · rcases hs hd2 with h1 | h1
      · exact .inl h1
      · rcases h.src t q (by omega) with h2 | ⟨p, e, h2, h3, h4, h5⟩ | ⟨h2, h3⟩
        · exact .inl (h1.trans h2)
        · exact .inr (.inl ⟨p, e, by omega, h3, h4, h1.trans h5⟩)
        · refine .inr (.inr ⟨fun p e hp he => ?_, h1.trans h3⟩)
          rcases Nat.lt_or_ge p q with hpq | hpq
          · exact h2 p e hpq he
          · have : p = q := by omega
            subst this
            rw [hd] at he
            cases he
            exact hd2
end Go.Proofs.Ytaiboicipbhmhaa.Ah
namespace Go.Proofs.Ytaiboicipbhmhaa.Ah
open Go
set_option linter.unusedVariables false
def SO.reg? : SO → Option Nat
  | .r t => some t
  | .c _ => none
def DOp.reads (d : DOp) : List Nat := d.o.args.filterMap SO.reg? ++ (match d.o.guard with | some (g, _) => [g] | none => [])
def DOp.heavy (d : DOp) : Bool := decide (d.o.op.cls = .heavy) && !d.pur
def DOp.load (d : DOp) : Bool := decide (d.o.op.cls = .load)
def DOp.be (d e : DOp) : Bool := e.anc.testBit d.ix
def wr (o : Option Nat) (l : List Nat) : Bool := match o with | some t => l.elem t | none => false
def DOp.lets (d e : DOp) : Bool := !e.wat.isEmpty && d.o.args.all fun x => match x with | .r t => e.wat.elem t | .c _ => false
def okPair (d e : DOp) : Bool :=
  !(d.ix == e.ix) && (d.be e || (
    !(d.heavy && e.heavy) && !(d.load && e.heavy && !e.ext && !d.lets e) && !(d.heavy && e.load && !d.ext) && !(d.pur && e.heavy && !e.ext) && !(d.heavy && e.pur) && !wr d.o.dst e.reads && !wr e.o.dst d.reads)) &&
  !wr d.o.dst e.o.dst.toList && !(d.load && (wr e.o.dst d.reads || wr d.o.dst d.reads))
def pairsOk : List DOp → Bool
  | [] => true
  | d :: r => r.all (okPair d) && pairsOk r
theorem pairsOk_at : ∀ (ds : List DOp), pairsOk ds = true → ∀ (p q : Nat) (d e : DOp), p < q → ds[p]? = some d → ds[q]? = some e → okPair d e = true
  | [], _, p, q, d, e, _, h, _ => by simp at h
  | c :: r, h, p, q, d, e, hpq, hp, hq => by
    simp only [pairsOk, Bool.and_eq_true, List.all_eq_true] at h
    cases q with
    | zero => omega
    | succ q =>
      cases p with
      | zero =>
        simp at hp hq
        subst hp
        exact h.1 e (List.mem_of_getElem? hq)
      | succ p => exact pairsOk_at r h.2 p q d e (by omega) (by simpa using hp) (by simpa using hq)
def prs (o : Oper) : List Nat := (o.after.toList.filter (Region.binds .any)).map (·.on)
def ancOf (ds : List DOp) (k : Nat) : Nat := match ds.find? (fun d => d.ix == k) with | some d => d.anc | none => 0
def maskOf (ds : List DOp) : List Nat → Nat
  | [] => 0
  | k :: r => (1 <<< k) ||| ancOf ds k ||| maskOf ds r
theorem maskOf_bit (ds : List DOp) (j : Nat) : ∀ l, (maskOf ds l).testBit j = true → ∃ k ∈ l, j = k ∨ (ancOf ds k).testBit j = true
  | [], h => by simp [maskOf] at h
  | k :: r, h => by
    simp only [maskOf, Nat.testBit_or, Bool.or_eq_true] at h
    rcases h with (h | h) | h
    · refine ⟨k, by simp, .inl ?_⟩
      rw [Nat.one_shiftLeft, Nat.testBit_two_pow] at h
      exact (of_decide_eq_true h).symm
    · exact ⟨k, by simp, .inr h⟩
    · obtain ⟨k', h1, h2⟩ := maskOf_bit ds j r h
      exact ⟨k', by simp [h1], h2⟩
def okOne (P : Program) (N : Nat) (ops : Array Oper) (ds : List DOp) (seen : Nat) (d : DOp) : Bool :=
  match ops[d.ix]? with
  | some o => okOper P N ops o d.o && (maskOf ds (prs o) ||| d.anc == maskOf ds (prs o)) && (prs o).all (fun k => seen.testBit k)
  | none => false
def okEach (P : Program) (N : Nat) (ops : Array Oper) (ds : List DOp) : Nat → List DOp → Bool
  | _, [] => true
  | seen, d :: r => okOne P N ops ds seen d && okEach P N ops ds (seen ||| (1 <<< d.ix)) r
def okD (P : Program) (N : Nat) (ops : Array Oper) (ds : List DOp) : Bool :=
  P.follows .mixedOrders && pairsOk ds && okEach P N ops ds 0 ds && (List.range ops.size).all (fun i => ds.any fun d => d.ix == i)
theorem okEach_at {P : Program} {N : Nat} {ops : Array Oper} {ds : List DOp} : ∀ (r : List DOp) (seen : Nat), okEach P N ops ds seen r = true → ∀ (p : Nat) (d : DOp), r[p]? = some d →
    ∃ o, ops[d.ix]? = some o ∧ okOper P N ops o d.o = true ∧ (∀ j, d.anc.testBit j = true → ∃ k ∈ prs o, j = k ∨ (ancOf ds k).testBit j = true) ∧
      ∀ k ∈ prs o, seen.testBit k = true ∨ ∃ (q : Nat) (e : DOp), q < p ∧ r[q]? = some e ∧ e.ix = k
  | [], _, _, p, d, h => by simp at h
  | c :: r, seen, h, p, d, hp => by
    simp only [okEach, Bool.and_eq_true] at h
    cases p with
    | zero =>
      simp at hp
      subst hp
      have h1 := h.1
      unfold okOne at h1
      split at h1
      · rename_i o ho
        simp only [Bool.and_eq_true, beq_iff_eq, List.all_eq_true] at h1
        refine ⟨o, ho, h1.1.1, fun j hj => maskOf_bit ds j _ ?_, fun k hk => .inl (h1.2 k hk)⟩
        rw [← h1.1.2, Nat.testBit_or, hj, Bool.or_true]
      · cases h1
    | succ p =>
      obtain ⟨o, h1, h2, h3, h4⟩ := okEach_at r _ h.2 p d (by simpa using hp)
      refine ⟨o, h1, h2, h3, fun k hk => ?_⟩
      rcases h4 k hk with h5 | ⟨q, e, h5, h6, h7⟩
      · rw [Nat.testBit_or, Bool.or_eq_true] at h5
        rcases h5 with h5 | h5
        · exact .inl h5
        · refine .inr ⟨0, c, by omega, by simp, ?_⟩
          rw [Nat.one_shiftLeft, Nat.testBit_two_pow] at h5
          exact of_decide_eq_true h5
      · exact .inr ⟨q + 1, e, by omega, by simpa using h6, h7⟩
theorem pick_get (T : Env) (t : Nat) : ∀ l : List Nat, Env.get (l.map fun t => (t, T.get t)) t = if t ∈ l then T.get t else .any
  | [] => by simp [Env.get]
  | i :: r => by
    simp only [List.map_cons, Env.get, List.mem_cons, pick_get T t r]
    by_cases h : i = t
    · subst h; simp
    · have : ¬ t = i := fun e => h e.symm
      simp [h, this]
theorem evals_congr {T T' : Env} : ∀ (l : List SO), (∀ t, t ∈ l.filterMap SO.reg? → T.get t = T'.get t) → T.evals l = T'.evals l
  | [], _ => rfl
  | x :: r, h => by
    simp only [Env.evals]
    rw [evals_congr r fun t ht => h t (by simp only [List.filterMap_cons]; split <;> simp [ht])]
    congr 1
    cases x with
    | c v => rfl
    | r t => exact h t (by simp [SO.reg?])
end Go.Proofs.Ytaiboicipbhmhaa.Ah
namespace Go.Proofs.Ytaiboicipbhmhaa.Ah
open Go
set_option linter.unusedVariables false
def Lst (L : Array Bool) (i : Nat) : Prop := L.getD i false = true
structure Sim (X : Cx) (N : Nat) (n : Nat) (ds : List DOp) (Ts : Nat → Env) (Hs : Nat → Heap) (Vs : Nat → AV) (L : Array Bool) (m : Nat) (a : Act) (w : World) : Prop where
  size : L.size = n
  cl : ∀ (p : Nat) (d : DOp), ds[p]? = some d → Lst L d.ix → ∀ j, d.anc.testBit j = true → Lst L j
  hv : ∀ (p : Nat) (d : DOp), ds[p]? = some d → d.heavy = true → (Lst L d.ix ↔ p < m)
  le : m ≤ ds.length
  defers : Marks X.w.heap.size w a.defers
  tsz : a.tmps.size = N
  st : ∃ M, HRel M (Hs m) w ∧ Kept X M (Hs m) w ∧ ∀ t, (∀ (p : Nat) (d : DOp), ds[p]? = some d → Lst L d.ix → d.o.dst = some t → VR M (Vs p) (a.tmps.getD t undef)) ∧
    ((∀ (p : Nat) (d : DOp), ds[p]? = some d → Lst L d.ix → d.o.dst ≠ some t) → VR M ((Ts 0).get t) (a.tmps.getD t undef))
section
variable {P : Program} {X : Cx} {N : Nat} {ops : Array Oper} {ds : List DOp} {Ts : Nat → Env} {Hs : Nat → Heap} {Vs : Nat → AV} {L : Array Bool} {m n : Nat} {a : Act} {w : World}
theorem Did.still {o : DOp} {T : Env} {H H' : Heap} {v : AV} (h : Did P o T H v H') (hc : o.heavy = false) : H' = H := by
  rcases h with ⟨_, h, hp⟩ | ⟨_, h, _⟩
  · cases hcl : o.o.op.cls with
    | heavy =>
      refine (hp ?_).1
      simpa [DOp.heavy, hcl] using hc
    | pure =>
      obtain ⟨v', h1, _⟩ := sor_pure o.o.op hcl (T.evals o.o.args) H _ (h (fun u K => u = v ∧ K = H') ⟨rfl, rfl⟩)
      exact h1.2.symm
    | load =>
      obtain ⟨v', h1, _⟩ := sor_load o.o.op hcl (T.evals o.o.args) (H2 := H) (h (fun u K => u = v ∧ K = H') ⟨rfl, rfl⟩) (fun _ _ _ h => h)
      exact h1.2.symm
  · exact h
theorem Tr.flat (h : Tr P ds Ts Hs Vs) : ∀ (k i : Nat), i + k ≤ ds.length → (∀ q d, i ≤ q → q < i + k → ds[q]? = some d → d.heavy = false) → Hs (i + k) = Hs i
  | 0, _, _, _ => rfl
  | k + 1, i, hl, hh => by
    obtain ⟨d, hd⟩ : ∃ d, ds[i + k]? = some d := ⟨ds[i + k], by simp⟩
    have h1 := hh (i + k) d (by omega) (by omega) hd
    have h2 := (h.did (i + k) d hd).still h1
    rw [show i + (k + 1) = i + k + 1 by omega, h2]
    exact h.flat k i (by omega) fun q d h3 h4 => hh q d h3 (by omega)
theorem Tr.flat' (h : Tr P ds Ts Hs Vs) {i j : Nat} (hij : i ≤ j) (hj : j ≤ ds.length) (hh : ∀ q d, i ≤ q → q < j → ds[q]? = some d → d.heavy = false) : Hs j = Hs i := by
  obtain ⟨k, rfl⟩ : ∃ k, j = i + k := ⟨j - i, by omega⟩
  exact h.flat k i hj hh
theorem Tr.grow (h : Tr P ds Ts Hs Vs) : ∀ (k i : Nat), i + k ≤ ds.length → (∀ q d, i ≤ q → q < i + k → ds[q]? = some d → d.heavy = true → d.ext = true) → ∃ G, Hs (i + k) = Hs i ++ G
  | 0, _, _, _ => ⟨[], by simp⟩
  | k + 1, i, hl, hh => by
    obtain ⟨d, hd⟩ : ∃ d, ds[i + k]? = some d := ⟨ds[i + k], by simp⟩
    obtain ⟨G, hG⟩ := h.grow k i (by omega) fun q d h3 h4 => hh q d h3 (by omega)
    rw [show i + (k + 1) = i + k + 1 by omega]
    cases hhv : d.heavy with
    | false =>
      rw [(h.did (i + k) d hd).still hhv]
      exact ⟨G, hG⟩
    | true =>
      obtain ⟨G', hG'⟩ := h.ext (i + k) d hd (hh (i + k) d (by omega) (by omega) hd hhv)
      exact ⟨G ++ G', by rw [hG', hG, List.append_assoc]⟩
theorem Tr.grow' (h : Tr P ds Ts Hs Vs) {i j : Nat} (hij : i ≤ j) (hj : j ≤ ds.length) (hh : ∀ q d, i ≤ q → q < j → ds[q]? = some d → d.heavy = true → d.ext = true) : ∃ G, Hs j = Hs i ++ G := by
  obtain ⟨k, rfl⟩ : ∃ k, j = i + k := ⟨j - i, by omega⟩
  exact h.grow k i hj hh
theorem okPair_be {d e : DOp} (h : okPair d e = true) (hb : d.be e = false) : (d.heavy && e.heavy) = false ∧ (d.load && e.heavy && !e.ext && !d.lets e) = false ∧ (d.heavy && e.load && !d.ext) = false ∧ wr d.o.dst e.reads = false ∧ wr e.o.dst d.reads = false ∧ (d.pur && e.heavy && !e.ext) = false ∧ (d.heavy && e.pur) = false := by
  unfold okPair at h
  rw [hb] at h
  simp only [Bool.false_or, Bool.and_eq_true, Bool.not_eq_true'] at h
  have h := h.1
  exact ⟨h.1.2.1.1.1.1.1.1, h.1.2.1.1.1.1.1.2, h.1.2.1.1.1.1.2, h.1.2.1.2, h.1.2.2, h.1.2.1.1.1.2, h.1.2.1.1.2⟩
theorem okPair_rw {d e : DOp} (h : okPair d e = true) (hl : d.load = true) : wr e.o.dst d.reads = false ∧ wr d.o.dst d.reads = false := by
  unfold okPair at h
  rw [hl] at h
  simp only [Bool.true_and, Bool.and_eq_true, Bool.not_eq_true', Bool.or_eq_false_iff] at h
  exact h.2
theorem okPair_ix {d e : DOp} (h : okPair d e = true) : d.ix ≠ e.ix := by
  unfold okPair at h
  simp only [Bool.and_eq_true, Bool.not_eq_true', beq_eq_false_iff_ne] at h
  exact h.1.1.1
theorem okPair_dst {d e : DOp} (h : okPair d e = true) {t : Nat} (h1 : d.o.dst = some t) : e.o.dst ≠ some t := by
  intro h2
  unfold okPair at h
  simp only [Bool.and_eq_true, Bool.not_eq_true'] at h
  have := h.1.2
  rw [h1, h2] at this
  simp [wr] at this
theorem wr_mem {o : Option Nat} {l : List Nat} {t : Nat} (h : wr o l = false) (h1 : o = some t) : t ∉ l := by
  subst h1
  simpa [wr] using h
structure Due (ds : List DOp) (L : Array Bool) (p : Nat) (d : DOp) : Prop where
  at' : ds[p]? = some d
  no : ¬ Lst L d.ix
  yes : ∀ j, d.anc.testBit j = true → Lst L j
theorem Sim.read (hp : pairsOk ds = true) (ht : Tr P ds Ts Hs Vs) (hs : Sim X N n ds Ts Hs Vs L m a w) {p : Nat} {d : DOp} (hd : Due ds L p d) {M : Val}
    (hM : ∀ t, (∀ (p : Nat) (d : DOp), ds[p]? = some d → Lst L d.ix → d.o.dst = some t → VR M (Vs p) (a.tmps.getD t undef)) ∧ ((∀ (p : Nat) (d : DOp), ds[p]? = some d → Lst L d.ix → d.o.dst ≠ some t) → VR M ((Ts 0).get t) (a.tmps.getD t undef)))
    (t : Nat) (hr : t ∈ d.reads) : VR M ((Ts p).get t) (a.tmps.getD t undef) := by
  have hlen : p < ds.length := (List.getElem?_eq_some_iff.1 hd.at').1
  rcases ht.src t p (by omega) with h | ⟨q, e, h1, h2, h3, h4⟩ | ⟨h1, h2⟩
  · rw [h]; simp [VR]
  · rw [h4]
    have hpair := pairsOk_at ds hp q p e d h1 h2 hd.at'
    have hdone : Lst L e.ix := by
      cases hb : e.be d with
      | true => exact hd.yes _ hb
      | false =>
        have := (okPair_be hpair hb).2.2.2.1
        exact absurd hr (wr_mem this h3)
    exact (hM t).1 q e h2 hdone h3
  · rw [h2]
    refine (hM t).2 fun q e hq hl he => ?_
    rcases Nat.lt_trichotomy q p with h3 | h3 | h3
    · exact h1 q e h3 hq he
    · subst h3
      rw [hd.at'] at hq
      cases hq
      exact hd.no hl
    · have hpair := pairsOk_at ds hp p q d e h3 hd.at' hq
      cases hb : d.be e with
      | true => exact hd.no (hs.cl q e hq hl _ hb)
      | false =>
        have := (okPair_be hpair hb).2.2.2.2.1
        exact absurd hr (wr_mem this he)
end
end Go.Proofs.Ytaiboicipbhmhaa.Ah
namespace Go.Proofs.Ytaiboicipbhmhaa.Ah
open Go
set_option linter.unusedVariables false
theorem Lst_set {L : Array Bool} {i j : Nat} (hi : i < L.size) : Lst (L.setIfInBounds i true) j ↔ (Lst L j ∨ j = i) := by
  unfold Lst
  by_cases h : i = j
  · subst h; simp [hi]
  · have h2 : ¬ j = i := fun e => h e.symm
    simp only [Array.getD_eq_getD_getElem?, Array.getElem?_setIfInBounds_ne h, h2, or_false]
section
variable {P : Program} {X : Cx} {N : Nat} {ops : Array Oper} {ds : List DOp} {Ts : Nat → Env} {Hs : Nat → Heap} {Vs : Nat → AV} {L : Array Bool} {m n : Nat} {a : Act} {w : World}
theorem Sim.heavy (hp : pairsOk ds = true) (ht : Tr P ds Ts Hs Vs) (hs : Sim X N n ds Ts Hs Vs L m a w) {p : Nat} {d : DOp} (hd : Due ds L p d) (hh : d.heavy = true) :
    Hs p = Hs m ∧ ∀ (q : Nat) (e : DOp), ds[q]? = some e → e.heavy = true → q ≠ p → (Lst L e.ix ↔ q < p) := by
  have hlen : p < ds.length := (List.getElem?_eq_some_iff.1 hd.at').1
  have h1 : ∀ (q : Nat) (e : DOp), ds[q]? = some e → e.heavy = true → q < p → Lst L e.ix := by
    intro q e hq he hqp
    have hpair := pairsOk_at ds hp q p e d hqp hq hd.at'
    cases hb : e.be d with
    | true => exact hd.yes _ hb
    | false =>
      have := (okPair_be hpair hb).1
      rw [hh, he] at this
      cases this
  have h2 : ∀ (q : Nat) (e : DOp), ds[q]? = some e → e.heavy = true → p < q → ¬ Lst L e.ix := by
    intro q e hq he hqp hl
    have hpair := pairsOk_at ds hp p q d e hqp hd.at' hq
    cases hb : d.be e with
    | true => exact hd.no (hs.cl q e hq hl _ hb)
    | false =>
      have := (okPair_be hpair hb).1
      rw [hh, he] at this
      cases this
  have hm : m ≤ p := by
    have := hs.hv p d hd.at' hh
    have h3 : ¬ p < m := fun h => hd.no (this.2 h)
    omega
  refine ⟨ht.flat' hm (by omega) fun q e hq1 hq2 hq3 => ?_, fun q e hq he hne => ⟨fun h => ?_, fun h => h1 q e hq he h⟩⟩
  · cases he : e.heavy with
    | false => rfl
    | true =>
      have := (hs.hv q e hq3 he).1 (h1 q e hq3 he hq2)
      omega
  · rcases Nat.lt_trichotomy q p with h3 | h3 | h3
    · exact h3
    · exact absurd h3 hne
    · exact absurd h (h2 q e hq he h3)
theorem Tr.watched (hp : pairsOk ds = true) (ht : Tr P ds Ts Hs Vs) {p q : Nat} {d e : DOp} (hpq : p < q) (hd : ds[p]? = some d) (he : ds[q]? = some e) (hl : d.load = true) {t : Nat} (hr : t ∈ d.reads) (h1 : (Ts p).get t ≠ .any) (h2 : (Ts q).get t ≠ .any) : (Ts q).get t = (Ts p).get t := by
  have hq : q < ds.length := (List.getElem?_eq_some_iff.1 he).1
  rcases ht.src t p (by omega) with h3 | ⟨a, x, a1, a2, a3, a4⟩ | ⟨a1, a2⟩
  · exact absurd h3 h1
  · rcases ht.src t q (by omega) with h4 | ⟨c, y, c1, c2, c3, c4⟩ | ⟨c1, c2⟩
    · exact absurd h4 h2
    · have : a = c := by
        rcases Nat.lt_trichotomy a c with h | h | h
        · exact absurd c3 (okPair_dst (pairsOk_at ds hp a c x y h a2 c2) a3)
        · exact h
        · exact absurd a3 (okPair_dst (pairsOk_at ds hp c a y x h c2 a2) c3)
      subst this
      rw [a4, c4]
    · exact absurd a3 (c1 a x (by omega) a2)
  · rcases ht.src t q (by omega) with h4 | ⟨c, y, c1, c2, c3, c4⟩ | ⟨c1, c2⟩
    · exact absurd h4 h2
    · rcases Nat.lt_trichotomy c p with h | h | h
      · exact absurd c3 (a1 c y h c2)
      · subst h
        rw [hd] at c2
        cases c2
        exact absurd hr (wr_mem (okPair_rw (pairsOk_at ds hp c q d e hpq hd he) hl).2 c3)
      · exact absurd hr (wr_mem (okPair_rw (pairsOk_at ds hp p c d y h hd c2) hl).1 c3)
    · rw [a2, c2]
theorem Sim.along (hp : pairsOk ds = true) (ht : Tr P ds Ts Hs Vs) (hs : Sim X N n ds Ts Hs Vs L m a w) {p : Nat} {d : DOp} (hd : Due ds L p d) (hh : d.load = true) (hb : ∀ b, aims b ((Ts p).evals d.o.args) → b < (Hs m).length) : SameAt ((Ts p).evals d.o.args) (Hs p) (Hs m) := by
  have hlen : p < ds.length := (List.getElem?_eq_some_iff.1 hd.at').1
  have nhv : d.heavy = false := by
    unfold DOp.load at hh
    unfold DOp.heavy
    simp only [decide_eq_true_eq] at hh
    rw [hh]
    rfl
  rcases Nat.lt_or_ge m p with h | h
  · refine Along.same (.inr (ht.grow' (Nat.le_of_lt h) (by omega) fun q e h1 h2 h3 h4 => ?_)) hb
    have hpair := pairsOk_at ds hp q p e d h2 h3 hd.at'
    cases hb : e.be d with
    | true =>
      have := (hs.hv q e h3 h4).1 (hd.yes _ hb)
      omega
    | false =>
      have := (okPair_be hpair hb).2.2.1
      rw [h4, hh] at this
      simpa using this
  · intro b k ha hk
    have step : ∀ q, p + q ≤ m → blkAt (Hs (p + q)) b = some k := by
      intro q
      induction q with
      | zero => intro _; exact hk
      | succ q ih =>
        intro hq
        have hk' := ih (by omega)
        have hm := hs.le
        obtain ⟨e, he⟩ : ∃ e, ds[p + q]? = some e := ⟨ds[p + q], by simp⟩
        rw [show p + (q + 1) = p + q + 1 by omega]
        cases hhv : e.heavy with
        | false => rw [(ht.did (p + q) e he).still hhv]; exact hk'
        | true =>
          have hqp : p < p + q := by
            cases q with
            | zero =>
              rw [Nat.add_zero] at he
              rw [hd.at'] at he
              cases he
              rw [nhv] at hhv
              cases hhv
            | succ q => omega
          have hpair := pairsOk_at ds hp p (p + q) d e hqp hd.at' he
          cases hbe : d.be e with
          | true => exact absurd (hs.cl (p + q) e he ((hs.hv (p + q) e he hhv).2 (by omega)) _ hbe) hd.no
          | false =>
            have h5 := (okPair_be hpair hbe).2.1
            rw [hh, hhv] at h5
            cases hext : e.ext with
            | true =>
              obtain ⟨G, hG⟩ := ht.ext (p + q) e he hext
              rw [hG]
              have hlt := blkAt_lt hk'
              unfold blkAt at hk' ⊢
              rw [List.getElem?_append_left hlt]
              exact hk'
            | false =>
              rw [hext] at h5
              have h6 : d.lets e = true := by simpa using h5
              unfold DOp.lets at h6
              simp only [Bool.and_eq_true, List.all_eq_true] at h6
              rcases ht.wat (p + q) e he with h7 | h7
              · rw [h7]; exact hk'
              · have mem : ∀ v, v ∈ (Ts p).evals d.o.args → ∃ t, t ∈ d.reads ∧ t ∈ e.wat ∧ v = (Ts p).get t := by
                  intro v hv
                  have hx : ∀ l : List SO, v ∈ (Ts p).evals l → ∃ x ∈ l, v = (Ts p).eval x := by
                    intro l
                    induction l with
                    | nil => intro h; simp [Env.evals] at h
                    | cons y l ihl =>
                      intro h
                      simp only [Env.evals, List.mem_cons] at h
                      rcases h with rfl | h
                      · exact ⟨y, by simp, rfl⟩
                      · obtain ⟨x, h1, h2⟩ := ihl h
                        exact ⟨x, by simp [h1], h2⟩
                  obtain ⟨x, hx1, hx2⟩ := hx _ hv
                  have h8 := h6.2 x hx1
                  cases x with
                  | c c => simp at h8
                  | r t =>
                    refine ⟨t, ?_, by simpa using h8, hx2⟩
                    unfold DOp.reads
                    exact List.mem_append_left _ (List.mem_filterMap.2 ⟨.r t, hx1, rfl⟩)
                rcases ha with ⟨o, ha⟩ | ⟨o, n', s, c, ha⟩
                · obtain ⟨t, t1, t2, t3⟩ := mem _ ha
                  obtain ⟨b', off', g1, g2⟩ := h7.at t t2
                  have g3 := ht.watched hp hqp hd.at' he hh t1 (by rw [← t3]; simp) (by rw [g1]; simp)
                  rw [g1, ← t3] at g3
                  cases g3
                  rw [g2]; exact hk'
                · obtain ⟨t, t1, t2, t3⟩ := mem _ ha
                  obtain ⟨b', off', g1, g2⟩ := h7.at t t2
                  have g3 := ht.watched hp hqp hd.at' he hh t1 (by rw [← t3]; simp) (by rw [g1]; simp)
                  rw [g1, ← t3] at g3
                  cases g3
    have := step (m - p) (by omega)
    rwa [show p + (m - p) = m by omega] at this
theorem Sim.alongP (hp : pairsOk ds = true) (ht : Tr P ds Ts Hs Vs) (hs : Sim X N n ds Ts Hs Vs L m a w) {p : Nat} {d : DOp} (hd : Due ds L p d) (hh : d.pur = true) : ∃ G, Hs m = Hs p ++ G := by
  have hlen : p < ds.length := (List.getElem?_eq_some_iff.1 hd.at').1
  have nhv : d.heavy = false := by simp [DOp.heavy, hh]
  rcases Nat.lt_or_ge m p with h | h
  · refine ⟨[], ?_⟩
    rw [List.append_nil]
    refine (ht.flat' (Nat.le_of_lt h) (by omega) fun q e h1 h2 h3 => ?_).symm
    cases h4 : e.heavy with
    | false => rfl
    | true =>
      have hpair := pairsOk_at ds hp q p e d h2 h3 hd.at'
      cases hb : e.be d with
      | true =>
        have := (hs.hv q e h3 h4).1 (hd.yes _ hb)
        omega
      | false =>
        have := (okPair_be hpair hb).2.2.2.2.2.2
        rw [h4, hh] at this
        simp at this
  · refine ht.grow' h hs.le fun q e h1 h2 h3 h4 => ?_
    have hqp : p < q := by
      rcases Nat.lt_or_ge p q with h5 | h5
      · exact h5
      · have : q = p := by omega
        subst this
        rw [hd.at'] at h3
        cases h3
        rw [nhv] at h4
        cases h4
    have hpair := pairsOk_at ds hp p q d e hqp hd.at' h3
    cases hb : d.be e with
    | true => exact absurd (hs.cl q e h3 ((hs.hv q e h3 h4).2 h2) _ hb) hd.no
    | false =>
      have := (okPair_be hpair hb).2.2.2.2.2.1
      rw [h4, hh] at this
      simpa using this
theorem Sim.after (hp : pairsOk ds = true) (hs : Sim X N n ds Ts Hs Vs L m a w) {p : Nat} {d : DOp} (hd : Due ds L p d) (hix : d.ix < n) (hN : ∀ i, d.o.dst = some i → i < N) {m' : Nat} (hm' : m' ≤ ds.length)
    (hhv : ∀ (q : Nat) (e : DOp), ds[q]? = some e → e.heavy = true → (Lst (L.setIfInBounds d.ix true) e.ix ↔ q < m'))
    {M M' : Val} {w' : World} {x : Value} (hM : ∀ t, (∀ (p : Nat) (d : DOp), ds[p]? = some d → Lst L d.ix → d.o.dst = some t → VR M (Vs p) (a.tmps.getD t undef)) ∧ ((∀ (p : Nat) (d : DOp), ds[p]? = some d → Lst L d.ix → d.o.dst ≠ some t) → VR M ((Ts 0).get t) (a.tmps.getD t undef)))
    (hle : M.le M') (hH : HRel M' (Hs m') w') (hK : Kept X M' (Hs m') w') (hx : VR M' (Vs p) x) (hdf : Marks X.w.heap.size w' a.defers) : Sim X N n ds Ts Hs Vs (L.setIfInBounds d.ix true) m' (a.put d.o.dst x) w' := by
  have hsz : d.ix < L.size := by rw [hs.size]; exact hix
  have other : ∀ (q : Nat) (e : DOp), ds[q]? = some e → q ≠ p → e.ix ≠ d.ix := by
    intro q e hq hne
    rcases Nat.lt_or_ge q p with h | h
    · exact okPair_ix (pairsOk_at ds hp q p e d h hq hd.at')
    · exact fun e' => okPair_ix (pairsOk_at ds hp p q d e (by omega) hd.at' hq) e'.symm
  have otherD : ∀ (q : Nat) (e : DOp) (t : Nat), ds[q]? = some e → q ≠ p → e.o.dst = some t → d.o.dst ≠ some t := by
    intro q e t hq hne h1
    rcases Nat.lt_or_ge q p with h | h
    · exact okPair_dst (pairsOk_at ds hp q p e d h hq hd.at') h1
    · exact fun h2 => okPair_dst (pairsOk_at ds hp p q d e (by omega) hd.at' hq) h2 h1
  refine ⟨by simp [hs.size], ?_, hhv, hm', by rw [put_defers]; exact hdf, by cases d.o.dst <;> simp [Act.put, hs.tsz], M', hH, hK, fun t => ⟨?_, ?_⟩⟩
  · intro q e hq hl j hj
    rw [Lst_set hsz] at hl ⊢
    by_cases hqp : q = p
    · subst hqp
      rw [hd.at'] at hq
      cases hq
      exact .inl (hd.yes j hj)
    · rcases hl with hl | hl
      · exact .inl (hs.cl q e hq hl j hj)
      · exact absurd hl (other q e hq hqp)
  · intro q e hq hl ht
    rw [Lst_set hsz] at hl
    by_cases hqp : q = p
    · subst hqp
      rw [hd.at'] at hq
      cases hq
      rw [ht]
      have : t < a.tmps.size := by rw [hs.tsz]; exact hN t ht
      simpa [Act.put, this] using hx
    · rcases hl with hl | hl
      · have h1 := ((hM t).1 q e hq hl ht).mono hle
        have h2 := otherD q e t hq hqp ht
        cases hdd : d.o.dst with
        | none => exact h1
        | some i =>
          have : i ≠ t := fun e => by subst e; exact h2 hdd
          simp only [Act.put, Array.getD_eq_getD_getElem?] at h1 ⊢
          rw [Array.getElem?_setIfInBounds_ne this]
          exact h1
      · exact absurd hl (other q e hq hqp)
  · intro h
    have hne : d.o.dst ≠ some t := h p d hd.at' ((Lst_set hsz).2 (.inr rfl))
    have h1 := ((hM t).2 fun q e hq hl => h q e hq ((Lst_set hsz).2 (.inl hl))).mono hle
    cases hdd : d.o.dst with
    | none => exact h1
    | some i =>
      have : i ≠ t := fun e => by subst e; exact hne hdd
      simp only [Act.put, Array.getD_eq_getD_getElem?] at h1 ⊢
      rw [Array.getElem?_setIfInBounds_ne this]
      exact h1
theorem Sim.hv' (hp : pairsOk ds = true) (ht : Tr P ds Ts Hs Vs) (hs : Sim X N n ds Ts Hs Vs L m a w) {p : Nat} {d : DOp} (hd : Due ds L p d) (hix : d.ix < n) :
    ∃ m', m' ≤ ds.length ∧ (∀ (q : Nat) (e : DOp), ds[q]? = some e → e.heavy = true → (Lst (L.setIfInBounds d.ix true) e.ix ↔ q < m')) ∧
      ((d.heavy = false ∧ m' = m) ∨ (d.heavy = true ∧ m' = p + 1 ∧ Hs p = Hs m)) := by
  have hlen : p < ds.length := (List.getElem?_eq_some_iff.1 hd.at').1
  have hsz : d.ix < L.size := by rw [hs.size]; exact hix
  have other : ∀ (q : Nat) (e : DOp), ds[q]? = some e → q ≠ p → e.ix ≠ d.ix := by
    intro q e hq hne
    rcases Nat.lt_or_ge q p with h | h
    · exact okPair_ix (pairsOk_at ds hp q p e d h hq hd.at')
    · exact fun e' => okPair_ix (pairsOk_at ds hp p q d e (by omega) hd.at' hq) e'.symm
  cases hh : d.heavy with
  | false =>
    refine ⟨m, hs.le, fun q e hq he => ?_, .inl ⟨rfl, rfl⟩⟩
    have hne : q ≠ p := by
      rintro rfl
      rw [hd.at'] at hq
      cases hq
      rw [hh] at he
      cases he
    rw [Lst_set hsz, or_iff_left (other q e hq hne)]
    exact hs.hv q e hq he
  | true =>
    obtain ⟨h1, h2⟩ := hs.heavy hp ht hd hh
    refine ⟨p + 1, by omega, fun q e hq he => ?_, .inr ⟨rfl, rfl, h1⟩⟩
    rw [Lst_set hsz]
    by_cases hqp : q = p
    · subst hqp
      rw [hd.at'] at hq
      cases hq
      simp
    · rw [or_iff_left (other q e hq hqp), h2 q e hq he hqp]
      omega
end
end Go.Proofs.Ytaiboicipbhmhaa.Ah
namespace Go.Proofs.Ytaiboicipbhmhaa.Ah
open Go
set_option linter.unusedVariables false
section
variable {P : Program} {rd : Option Nat} {X : Cx} {N : Nat} {ops : Array Oper} {ds : List DOp} {Ts : Nat → Env} {Hs : Nat → Heap} {Vs : Nat → AV} {L : Array Bool} {m n : Nat} {a : Act} {w : World}
theorem cls_light {d : DOp} (h : d.heavy = false) : d.o.op.cls = .pure ∨ d.o.op.cls = .load ∨ d.pur = true := by
  unfold DOp.heavy at h
  cases hc : d.o.op.cls <;> simp_all
theorem Sim.step {Q : Exit → Act → World → Prop} {K : Act → World → Prop} (hp : pairsOk ds = true) (ht : Tr P ds Ts Hs Vs) (hs : Sim X N n ds Ts Hs Vs L m a w) {p : Nat} {d : DOp} (hd : Due ds L p d) (hix : d.ix < n)
    {o : Oper} (ho : ops[d.ix]? = some o) (hok : okOper P N ops o d.o = true)
    (hk : ∀ m' a' w', Sim X N n ds Ts Hs Vs (L.setIfInBounds d.ix true) m' a' w' → K a' w') : wpOpIn (Wd rd) 0 P ops Q d.ix K a w := by
  obtain ⟨m', hm', hhv, hcase⟩ := hs.hv' hp ht hd hix
  obtain ⟨M, hH, hK, hM⟩ := hs.st
  have hread := hs.read hp ht hd hM
  simp only [okOper, Bool.and_eq_true] at hok
  obtain ⟨⟨⟨g1, g2⟩, g3⟩, g4⟩ := hok
  have hdst : o.dst = d.o.dst := by simpa using g2
  have hdN : ∀ i, d.o.dst = some i → i < N := by
    intro i hi
    rw [hdst, hi] at g3
    simpa [okDst] using g3
  have hsub : ∀ t, t ∈ d.o.args.filterMap SO.reg? → t ∈ d.reads := fun t h => by unfold DOp.reads; exact List.mem_append_left _ h
  have hrel : TRel N M (d.reads.map fun t => (t, (Ts p).get t)) a.tmps := by
    refine ⟨hs.tsz, fun t => ?_⟩
    rw [pick_get]
    split
    · rename_i h; exact hread t h
    · simp [VR]
  have hev : Env.evals (d.reads.map fun t => (t, (Ts p).get t)) d.o.args = (Ts p).evals d.o.args := by
    refine evals_congr _ fun t h => ?_
    rw [pick_get, if_pos (hsub t h)]
  -- what the guard says
  have hgd : ∀ g want, d.o.guard = some (g, want) → ∃ j, o.guard = some (j, want) ∧ yielded ops a.tmps j = (match a.tmps.getD g undef with | .bool b => some b | _ => none) ∧ VR M ((Ts p).get g) (a.tmps.getD g undef) := by
    intro g want hg
    rw [hg] at g4
    cases hgo : o.guard with
    | none => rw [hgo] at g4; cases g4
    | some q =>
      obtain ⟨j, wt⟩ := q
      rw [hgo] at g4
      simp only [Bool.and_eq_true, beq_iff_eq, decide_eq_true_eq] at g4
      obtain ⟨⟨rfl, hj⟩, hgN⟩ := g4
      refine ⟨j, rfl, ?_, hread g (by unfold DOp.reads; rw [hg]; simp)⟩
      have hgs : a.tmps[g]? = some (a.tmps.getD g undef) := by
        have : g < a.tmps.size := by rw [hs.tsz]; exact hgN
        simp [this]
      unfold yielded
      rw [hj]
      show (match a.tmps[g]? with | some (.bool b) => some b | _ => none) = _
      rw [hgs]
      generalize a.tmps.getD g undef = v
      cases v <;> rfl
  have hno : d.o.guard = none → o.guard = none := by
    intro h
    rw [h] at g4
    cases hgo : o.guard with
    | none => rfl
    | some q => rw [hgo] at g4; cases g4
  unfold wpOpIn
  rw [ho]
  simp only
  rcases ht.did p d hd.at' with ⟨hw, hsat, hpur⟩ | ⟨hv, hst, g, want, hg, hgv⟩
  · -- carried out
    have hwant : Region.wanted o (yielded ops a.tmps) = true := by
      rcases hw with hw | ⟨g, want, hg, hgv⟩
      · simp [Region.wanted, hno hw]
      · obtain ⟨j, e1, e2, e3⟩ := hgd g want hg
        rw [hgv] at e3
        simp only [VR] at e3
        rw [e3] at e2
        simp [Region.wanted, e1, e2]
    rw [if_pos hwant]
    skip
    cases hop : okOp P o.op d.o.op with
    | none => rw [hop] at g1; cases g1
    | some l =>
      rw [hop] at g1
      simp only at g1
      have hargs := okArgs_sound hrel l d.o.args g1
      rw [hev] at hargs
      have hso : (sor P d.o.op ((Ts p).evals d.o.args) (Hs m)).sat P (fun v H => v = Vs p ∧ H = Hs m') := by
        rcases hcase with ⟨h1, rfl⟩ | ⟨h1, rfl, h2⟩
        · have hst := (ht.did p d hd.at').still h1
          rcases cls_light h1 with hc2 | hc2 | hc2
          rotate_left 2
          · obtain ⟨G, hG⟩ := hs.alongP hp ht hd hc2
            rw [hG]
            exact (hpur hc2).2 G _ ⟨rfl, rfl⟩
          · obtain ⟨v, h3, h4⟩ := sor_pure (P := P) d.o.op hc2 ((Ts p).evals d.o.args) (Hs p) (fun v H => v = Vs p) (hsat _ rfl)
            exact h4 (Hs m') _ ⟨h3, rfl⟩
          · have hbs : ∀ b, aims b ((Ts p).evals d.o.args) → b < (Hs m').length := by
              intro b hb
              have key : ∀ l, M b = some l → b < (Hs m').length := by
                intro l hl
                rcases Nat.lt_or_ge b (Hs m').length with h5 | h5
                · exact h5
                · rw [hH.dom b h5] at hl; cases hl
              rcases hb with ⟨off, hb⟩ | ⟨off, sn, ss, sc, hb⟩
              · obtain ⟨i, hi⟩ := List.mem_iff_getElem?.1 hb
                obtain ⟨x, hx, hvx⟩ := hargs.get i _ hi
                simp only [VR] at hvx
                obtain ⟨lc, hl, _⟩ := hvx
                exact key lc (Val.at_out hl).1
              · obtain ⟨i, hi⟩ := List.mem_iff_getElem?.1 hb
                obtain ⟨x, hx, hvx⟩ := hargs.get i _ hi
                simp only [VR] at hvx
                obtain ⟨lc, hl, _⟩ := hvx
                exact key lc (Val.at_out hl).1
            obtain ⟨v, h3, h4⟩ := sor_load (P := P) d.o.op hc2 ((Ts p).evals d.o.args) (H := Hs p) (H2 := Hs m') (K := fun v H => v = Vs p) (hsat _ rfl) (hs.along hp ht hd (by simp [DOp.load, hc2]) hbs)
            exact h4 _ ⟨h3, rfl⟩
        · rw [← h2]
          exact hsat _ ⟨rfl, rfl⟩
      obtain ⟨v, H', ⟨rfl, rfl⟩, hnd, hstep⟩ := sor_sound o d.o.op l hop _ (Hs m) _ hso
      refine hstep hnd M w a hH hargs rd K Q fun x M' w' e1 e2 e3 => ?_
      rw [hdst]
      exact hk m' _ _ (hs.after hp hd hix hdN hm' hhv hM (hH.le e2) e1 (hK.trans e2) e3 (hs.defers.keep hH e2))
  · -- passed over
    obtain ⟨j, e1, e2, e3⟩ := hgd g want hg
    have hwant : ¬ Region.wanted o (yielded ops a.tmps) = true := by
      rcases hgv with hgv | hgv
      · rw [hgv] at e3
        simp only [VR] at e3
        rw [e3] at e2
        cases want <;> simp [Region.wanted, e1, e2]
      · rw [hgv] at e3
        simp only [VR, VRs] at e3
        obtain ⟨us, e4, e5⟩ := e3
        rw [e4, e5] at e2
        simp [Region.wanted, e1, e2]
    rw [if_neg hwant, hdst]
    refine ⟨fun _ _ => trivial, ?_⟩
    have hsame : Hs m' = Hs m := by
      rcases hcase with ⟨_, rfl⟩ | ⟨_, rfl, h2⟩
      · rfl
      · rw [hst, h2]
    refine hk m' _ _ (hs.after hp hd hix hdN hm' hhv hM (Val.le_refl M) (by rw [hsame]; exact hH) (by rw [hsame]; exact hK) ?_ hs.defers)
    rw [hv]
    exact vr_undef M
def left (L : Array Bool) : Nat → Nat
  | 0 => 0
  | i + 1 => left L i + (if L.getD i false then 0 else 1)
theorem left_zero {L : Array Bool} : ∀ n, left L n = 0 → ∀ i, i < n → Lst L i
  | 0, _, i, h => by omega
  | n + 1, hl, i, h => by
    simp only [left] at hl
    by_cases h1 : L.getD n false = true
    · rw [if_pos h1] at hl
      rcases Nat.lt_or_ge i n with h2 | h2
      · exact left_zero n (by omega) i h2
      · have : i = n := by omega
        subst this
        exact h1
    · rw [if_neg h1] at hl
      omega
theorem left_set {L : Array Bool} {j : Nat} (hj : j < L.size) (hn : ¬ Lst L j) : ∀ n, left (L.setIfInBounds j true) n + (if j < n then 1 else 0) = left L n
  | 0 => by simp [left]
  | n + 1 => by
    simp only [left]
    have ih := left_set hj hn n
    by_cases h : n = j
    · subst h
      have h1 : (L.setIfInBounds n true).getD n false = true := by simp [hj]
      have h2 : L.getD n false = false := by unfold Lst at hn; simpa using hn
      rw [h1, h2]
      simp only [Nat.lt_irrefl, if_false, Nat.lt_succ_self, if_true] at ih ⊢
      simp
      omega
    · have h1 : (L.setIfInBounds j true).getD n false = L.getD n false := by
        simp only [Array.getD_eq_getD_getElem?, Array.getElem?_setIfInBounds_ne (fun e => h e.symm)]
      rw [h1]
      generalize (if L.getD n false = true then 0 else 1) = z
      by_cases h2 : j < n
      · rw [if_pos h2] at ih
        rw [if_pos (by omega)]
        omega
      · rw [if_neg h2] at ih
        rw [if_neg (by omega)]
        omega
end
end Go.Proofs.Ytaiboicipbhmhaa.Ah
namespace Go.Proofs.Ytaiboicipbhmhaa.Ah
open Go
set_option linter.unusedVariables false
section
variable {P : Program} {rd : Option Nat} {X : Cx} {N : Nat} {ops : Array Oper} {ds : List DOp} {Ts : Nat → Env} {Hs : Nat → Heap} {Vs : Nat → AV}
theorem okD_parts (h : okD P N ops ds = true) : P.follows .mixedOrders = true ∧ pairsOk ds = true ∧ okEach P N ops ds 0 ds = true ∧ ∀ i, i < ops.size → ∃ (p : Nat) (d : DOp), ds[p]? = some d ∧ d.ix = i := by
  unfold okD at h
  simp only [Bool.and_eq_true, List.all_eq_true, List.mem_range, List.any_eq_true, beq_iff_eq] at h
  refine ⟨h.1.1.1, h.1.1.2, h.1.2, fun i hi => ?_⟩
  obtain ⟨d, hd, he⟩ := h.2 i hi
  obtain ⟨p, hp⟩ := List.mem_iff_getElem?.1 hd
  exact ⟨p, d, hp, he⟩
theorem ancOf_mem {k : Nat} {j : Nat} (h : (ancOf ds k).testBit j = true) : ∃ (p : Nat) (d : DOp), ds[p]? = some d ∧ d.ix = k ∧ d.anc.testBit j = true := by
  unfold ancOf at h
  split at h
  · rename_i d hd
    obtain ⟨p, hp⟩ := List.mem_iff_getElem?.1 (List.mem_of_find?_eq_some hd)
    have := List.find?_some hd
    exact ⟨p, d, hp, by simpa using this, h⟩
  · simp at h
theorem wpAny_sim {Q : Exit → Act → World → Prop} (hok : okD P N ops ds = true) (ht : Tr P ds Ts Hs Vs)
    (hQ : ∀ a w, Rel X N (Ts ds.length) (Hs ds.length) a w → Q .normal a w) :
    ∀ (fuel : Nat) (L : Array Bool) (m : Nat) (a : Act) (w : World), left L ops.size ≤ fuel → Sim X N ops.size ds Ts Hs Vs L m a w → wpAnyIn (Wd rd) 0 P .any ops Q fuel L a w := by
  obtain ⟨hmix, hp, heach, hall⟩ := okD_parts hok
  -- all is done
  have fin : ∀ (L : Array Bool) (m : Nat) (a : Act) (w : World), Sim X N ops.size ds Ts Hs Vs L m a w → (∀ (p : Nat) (d : DOp), ds[p]? = some d → Lst L d.ix) → Q .normal a w := by
    intro L m a w hs hl
    obtain ⟨M, hH, hK, hM⟩ := hs.st
    have hflat : Hs ds.length = Hs m := ht.flat' hs.le (Nat.le_refl _) fun q d h1 h2 h3 => by
      cases h : d.heavy with
      | false => rfl
      | true =>
        have := (hs.hv q d h3 h).1 (hl q d h3)
        omega
    refine hQ a w ⟨M, by rw [hflat]; exact hH, by rw [hflat]; exact hK, ⟨hs.tsz, fun t => ?_⟩, hs.defers⟩
    rcases ht.src t ds.length (Nat.le_refl _) with h | ⟨p, d, h1, h2, h3, h4⟩ | ⟨h1, h2⟩
    · rw [h]; simp [VR]
    · rw [h4]; exact (hM t).1 p d h2 (hl p d h2) h3
    · rw [h2]
      exact (hM t).2 fun p d h3 _ => h1 p d (List.getElem?_eq_some_iff.1 h3).1 h3
  -- where nothing is ready all is done
  have nil : ∀ (L : Array Bool), L.size = ops.size → Region.ready .any ops L = [] → ∀ (p : Nat) (d : DOp), ds[p]? = some d → Lst L d.ix := by
    intro L hsz hr p
    induction p using Nat.strongRecOn with
    | _ p ih =>
      intro d hd
      obtain ⟨o, h1, h2, h3, h4⟩ := okEach_at ds 0 heach p d hd
      by_cases hc : Lst L d.ix
      · exact hc
      · exfalso
        have hix : d.ix < ops.size := (Array.getElem?_eq_some_iff.1 h1).1
        have : d.ix ∈ Region.ready .any ops L := by
          rw [mem_ready]
          refine ⟨?_, o, h1, fun e he hb => ?_⟩
          · have : d.ix < L.size := by omega
            unfold Lst at hc
            simp only [Array.getD_eq_getD_getElem?, Array.getElem?_eq_getElem this, Option.getD_some] at hc ⊢
            simpa using hc
          · rcases h4 e.on (by unfold prs; exact List.mem_map.2 ⟨e, List.mem_filter.2 ⟨by simpa using he, hb⟩, rfl⟩) with h5 | ⟨q, c, h5, h6, h7⟩
            · simp at h5
            · have := ih q h5 c h6
              rw [h7] at this
              exact this
        rw [hr] at this
        cases this
  intro fuel
  induction fuel with
  | zero =>
    intro L m a w hl hs
    have hz := left_zero ops.size (Nat.le_zero.1 hl)
    have hd : ∀ (p : Nat) (d : DOp), ds[p]? = some d → Lst L d.ix := by
      intro p d hd
      obtain ⟨o, h1, _⟩ := okEach_at ds 0 heach p d hd
      exact hz _ (Array.getElem?_eq_some_iff.1 h1).1
    refine ⟨?_, fin L m a w hs hd⟩
    cases hr : Region.ready .any ops L with
    | nil => rfl
    | cons i r =>
      have hi : i ∈ Region.ready .any ops L := by rw [hr]; simp
      rw [mem_ready] at hi
      obtain ⟨h2, o, h4, _⟩ := hi
      have h1 : i < ops.size := (Array.getElem?_eq_some_iff.1 h4).1
      have h3 := hz i h1
      have : i < L.size := by rw [hs.size]; exact h1
      unfold Lst at h3
      simp only [Array.getD_eq_getD_getElem?, Array.getElem?_eq_getElem this, Option.getD_some] at h2 h3
      rw [h3] at h2
      cases h2
  | succ fuel ih =>
    intro L m a w hl hs
    refine ⟨fun hr => fin L m a w hs (nil L hs.size hr), fun i hi => ?_⟩
    rw [mem_ready] at hi
    obtain ⟨h2, o, h3, h4⟩ := hi
    have h1 : i < ops.size := (Array.getElem?_eq_some_iff.1 h3).1
    obtain ⟨p, d, hd, rfl⟩ := hall i h1
    obtain ⟨o', e1, e2, e3, e4⟩ := okEach_at ds 0 heach p d hd
    rw [h3] at e1
    cases e1
    have hno : ¬ Lst L d.ix := by
      have : d.ix < L.size := by rw [hs.size]; exact h1
      unfold Lst
      simp only [Array.getD_eq_getD_getElem?, Array.getElem?_eq_getElem this, Option.getD_some] at h2 ⊢
      rw [h2]
      simp
    have hprs : ∀ k ∈ prs o, Lst L k := by
      intro k hk
      unfold prs at hk
      obtain ⟨e, he, rfl⟩ := List.mem_map.1 hk
      obtain ⟨he1, he2⟩ := List.mem_filter.1 he
      exact h4 e (by simpa using he1) he2
    refine hs.step hp ht ⟨hd, hno, fun j hj => ?_⟩ h1 h3 e2 fun m' a' w' hs' => ih _ m' a' w' ?_ hs'
    · obtain ⟨k, hk, hjk⟩ := e3 j hj
      rcases hjk with rfl | hjk
      · exact hprs _ hk
      · obtain ⟨q, c, f1, f2, f3⟩ := ancOf_mem hjk
        exact hs.cl q c f1 (by rw [f2]; exact hprs k hk) j f3
    · have := left_set (j := d.ix) (by rw [hs.size]; exact h1) hno ops.size
      rw [if_pos h1] at this
      omega
theorem draw_sound {Q : Exit → Act → World → Prop} {K : Env → Heap → Prop} {id : Nat} (hQ : ∀ T H a w, K T H → Rel X N T H a w → Q .normal a w) (hok : okD P N ops ds = true) (T : Env) (H : Heap) (a : Act) (w : World)
    (h : adraw P ds T H K) (hr : Rel X N T H a w) : (Code.region id ops true).wpIn (Wd rd) 0 P Q a w := by
  obtain ⟨Ts, Hs, Vs, h1, h2, h3, Tf, h4, h5, _⟩ := adraw_trace ds T H h
  obtain ⟨M, hH, hK, hT, hd⟩ := hr
  refine wpIn_region_any (okD_parts hok).1 (wpAny_sim (X := X) hok h3 (fun a w hr => hQ Tf _ a w h5 ?_) ops.size _ 0 a _ ?_ ?_)
  · obtain ⟨M, g1, g2, g3, g4⟩ := hr
    exact ⟨M, g1, g2, ⟨g3.size, fun i => by rw [h4]; exact g3.val i⟩, g4⟩
  · have : ∀ n, left (Array.replicate ops.size false) n ≤ n := by
      intro n
      induction n with
      | zero => simp [left]
      | succ n ih => simp only [left]; split <;> omega
    exact this _
  · refine ⟨by simp, ?_, ?_, Nat.zero_le _, hd, hT.size, M, ?_, ?_, fun t => ⟨?_, fun _ => ?_⟩⟩
    · intro p d _ hl
      unfold Lst at hl
      simp only [Array.getD_eq_getD_getElem?, Array.getElem?_replicate] at hl
      split at hl <;> simp at hl
    · intro p d _ _
      constructor
      · intro hl
        unfold Lst at hl
        simp only [Array.getD_eq_getD_getElem?, Array.getElem?_replicate] at hl
        split at hl <;> simp at hl
      · intro hl; omega
    · rw [h2]; exact ⟨hH.dom, hH.row, hH.sep⟩
    · rw [h2]; exact ⟨hK.os, hK.tape, hK.output, hK.size, hK.block, hK.own, hK.ext, hK.len, hK.loc⟩
    · intro p d _ hl
      unfold Lst at hl
      simp only [Array.getD_eq_getD_getElem?, Array.getElem?_replicate] at hl
      split at hl <;> simp at hl
    · rw [h1]; exact hT.val t
end
end Go.Proofs.Ytaiboicipbhmhaa.Ah
namespace Go.Proofs.Ytaiboicipbhmhaa.Ah
open Go
set_option linter.unusedVariables false

theorem alloc_was (w : World) (o : Obj) (i : Nat) (h : i < w.heap.size) : (w.alloc o).heap[i]? = w.heap[i]? := by
  show (w.heap.push o)[i]? = _
  rw [Array.getElem?_push, if_neg (by omega)]
theorem alloc_is (w : World) (o : Obj) : (w.alloc o).heap[w.heap.size]? = some o := by
  show (w.heap.push o)[w.heap.size]? = _
  rw [Array.getElem?_push, if_pos rfl]
def DOp.flt (d : DOp) : Bool := match d.o.op with | .alloc _ => d.o.guard.isNone && d.o.args.isEmpty && d.pur | _ => false
def DOp.zero (d : DOp) : List AV := match d.o.op with | .alloc z => z | _ => []
def DOp.mem (d : DOp) : Bool := !decide (d.o.op.cls = .pure)
theorem DOp.flt_op {d : DOp} (h : d.flt = true) : d.o.op = .alloc d.zero ∧ d.o.guard = none ∧ d.o.args = [] := by
  unfold DOp.flt at h
  unfold DOp.zero
  split at h
  · rename_i z hz
    rw [hz]
    simp only [Bool.and_eq_true, Option.isNone_iff_eq_none, List.isEmpty_iff] at h
    exact ⟨rfl, h.1.1, h.1.2⟩
  · cases h
theorem DOp.flt_mem {d : DOp} (h : d.flt = true) : d.mem = true := by
  unfold DOp.mem
  rw [(DOp.flt_op h).1]
  rfl
theorem DOp.heavy_mem {d : DOp} (h : d.heavy = true) : d.mem = true := by
  unfold DOp.heavy at h
  unfold DOp.mem
  simp only [Bool.and_eq_true, decide_eq_true_eq] at h
  rw [h.1]
  rfl
def Pend (X : Cx) (M : Val) (H : Heap) (w : World) (l : Loc) (z : List AV) : Prop :=
  (∃ arr e, w.heap[l.blk]? = some (.cells arr e (0, 0)) ∧ arr.size = l.size ∧ (l.off = 0 ∧ l.obj = false) ∧ VRs M z arr.toList) ∧ X.w.heap.size ≤ l.blk ∧ ∀ i b l', H[i]? = some (some b) → b.tells → M i = some l' → l'.blk ≠ l.blk
theorem Pend.keep {X : Cx} {M M' : Val} {H H' : Heap} {w w' : World} {l : Loc} {z : List AV} (h : Pend X M H w l z) (hle : M.le M') (hk : Kept ⟨w, M, H⟩ M' H' w') : Pend X M' H' w' l z := by
  obtain ⟨⟨arr, e, h1, h2, h3, h4⟩, h5, h6⟩ := h
  have hlt : l.blk < w.heap.size := (Array.getElem?_eq_some_iff.1 h1).1
  refine ⟨⟨arr, e, ?_, h2, h3, VRs.mono hle _ _ h4⟩, h5, fun i b l' hb ht hl => ?_⟩
  · rw [hk.block l.blk hlt ?_]
    · exact h1
    · rintro ⟨i, b, l', g1, g2, g3, g4⟩
      exact h6 i b l' g1 (.inr g2) g3 g4
  · rcases hk.loc i b l' hb ht hl with h7 | ⟨j, c, l2, g1, g2, g3, g4⟩
    · have h7' : w.heap.size ≤ l'.blk := h7
      omega
    · rw [← g4]
      exact h6 j c l2 g1 g2 g3
theorem HRel.name {X : Cx} {M : Val} {H : Heap} {w : World} (h : HRel M H w) {n : Nat} {l : Loc} {z : List AV} (hn : n < H.length) (hM : M n = some l) (hp : Pend X M H w l z) : HRel M (H.set n (some ⟨z, true⟩)) w := by
  obtain ⟨⟨arr, e, h1, h2, h3, h4⟩, h5, h6⟩ := hp
  have get : ∀ (k : Nat) (c : Blk), (H.set n (some ⟨z, true⟩))[k]? = some (some c) → (k = n ∧ c = ⟨z, true⟩) ∨ (k ≠ n ∧ H[k]? = some (some c)) := by
    intro k c hc
    by_cases hk : k = n
    · subst hk
      rw [List.getElem?_set_self hn] at hc
      exact .inl ⟨rfl, by simpa using hc.symm⟩
    · rw [List.getElem?_set_ne (by omega)] at hc
      exact .inr ⟨hk, hc⟩
  refine ⟨fun i hi => h.dom i (by simpa using hi), fun i b hb => ?_, fun i j b c l1 l2 hb ho hc hct hij hl1 hl2 => ?_⟩
  · rcases get i b hb with ⟨rfl, rfl⟩ | ⟨k1, k2⟩
    · refine ⟨l, hM, fun _ => .ofRow ⟨arr, e, (0, 0), h1, h2, fun j v hv => ?_, fun _ => .inl rfl⟩ h3.2⟩
      obtain ⟨x, hx, hvx⟩ := h4.get j v hv
      exact ⟨x, by rw [h3.1, Nat.zero_add]; simpa using hx, hvx⟩
    · exact h.row i b k2
  · rcases get i b hb with ⟨rfl, rfl⟩ | ⟨k1, k2⟩ <;> rcases get j c hc with ⟨rfl, rfl⟩ | ⟨j1, j2⟩
    · exact absurd rfl hij
    · rw [hM] at hl1
      cases hl1
      exact fun e => h6 j c l2 j2 hct hl2 e.symm
    · rw [hM] at hl2
      cases hl2
      exact h6 i b l1 k2 (.inr ho) hl1
    · exact h.sep i j b c l1 l2 k2 ho j2 hct hij hl1 hl2
theorem Kept.name {X : Cx} {M : Val} {H : Heap} {w : World} (hk : Kept X M H w) {n : Nat} {l : Loc} {z : List AV} (hn : n < H.length) (hM : M n = some l) (hp : Pend X M H w l z) : Kept X M (H.set n (some ⟨z, true⟩)) w := by
  have get : ∀ (k : Nat) (c : Blk), (H.set n (some ⟨z, true⟩))[k]? = some (some c) → (k = n ∧ c = ⟨z, true⟩) ∨ (k ≠ n ∧ H[k]? = some (some c)) := by
    intro k c hc
    by_cases hk : k = n
    · subst hk
      rw [List.getElem?_set_self hn] at hc
      exact .inl ⟨rfl, by simpa using hc.symm⟩
    · rw [List.getElem?_set_ne (by omega)] at hc
      exact .inr ⟨hk, hc⟩
  refine ⟨hk.os, hk.tape, hk.output, hk.size, hk.block, fun i b l' hb ho hl => ?_, hk.ext, by simpa using hk.len, fun i b l' hb ht hl => ?_⟩
  · rcases get i b hb with ⟨rfl, rfl⟩ | ⟨k1, k2⟩
    · rw [hM] at hl
      cases hl
      exact .inl hp.2.1
    · exact hk.own i b l' k2 ho hl
  · rcases get i b hb with ⟨rfl, rfl⟩ | ⟨k1, k2⟩
    · rw [hM] at hl
      cases hl
      exact .inl hp.2.1
    · exact hk.loc i b l' k2 ht hl
theorem Pend.named {X : Cx} {M : Val} {H : Heap} {w : World} {l l0 : Loc} {z z0 : List AV} {n : Nat} (h : Pend X M H w l z) (hn : n < H.length) (hM : M n = some l0) (hne : l0.blk ≠ l.blk) : Pend X M (H.set n (some ⟨z0, true⟩)) w l z := by
  refine ⟨h.1, h.2.1, fun i b l' hb ht hl => ?_⟩
  by_cases hi : i = n
  · subst hi
    rw [hM] at hl
    cases hl
    exact hne
  · rw [List.getElem?_set_ne (by omega)] at hb
    exact h.2.2 i b l' hb ht hl
theorem HRel.early {M : Val} {H : Heap} {w : World} (h : HRel M H w) {n : Nat} (hn : H[n]? = some none) (hM : M n = none) (o : Obj) (s : Nat) : HRel (M.put n ⟨w.heap.size, 0, s, false⟩) H (w.alloc o) := by
  have hle : M.le (M.put n ⟨w.heap.size, 0, s, false⟩) := Val.le_put hM
  have hlt : n < H.length := (List.getElem?_eq_some_iff.1 hn).1
  have ne : ∀ (i : Nat) (b : Blk), H[i]? = some (some b) → i ≠ n := by
    rintro i b hb rfl
    rw [hn] at hb
    cases hb
  have pt : ∀ i, i ≠ n → (M.put n ⟨w.heap.size, 0, s, false⟩) i = M i := fun i hi => by unfold Val.put; rw [if_neg hi]
  refine ⟨fun i hi => by rw [pt i (by omega)]; exact h.dom i hi, fun i b hb => ?_, fun i j b c l1 l2 hb ho hc hct hij hl1 hl2 => ?_⟩
  · obtain ⟨l, h1, h2⟩ := h.row i b hb
    exact ⟨l, hle _ _ h1, fun ht => ((h2 ht).of_block (alloc_was w _ _ (h2 ht).lt)).mono hle⟩
  · rw [pt i (ne i b hb)] at hl1
    rw [pt j (ne j c hc)] at hl2
    exact h.sep i j b c l1 l2 hb ho hc hct hij hl1 hl2
theorem Kept.early {X : Cx} {M : Val} {H : Heap} {w : World} (hk : Kept X M H w) {n : Nat} (hn : H[n]? = some none) (hx : X.H.length ≤ n) (o : Obj) (s : Nat) : Kept X (M.put n ⟨w.heap.size, 0, s, false⟩) H (w.alloc o) := by
  have ne : ∀ (i : Nat) (b : Blk), H[i]? = some (some b) → i ≠ n := by
    rintro i b hb rfl
    rw [hn] at hb
    cases hb
  have pt : ∀ i, i ≠ n → (M.put n ⟨w.heap.size, 0, s, false⟩) i = M i := fun i hi => by unfold Val.put; rw [if_neg hi]
  refine ⟨hk.os, hk.tape, hk.output, by have := hk.size; simp; omega, fun k h1 h2 => (alloc_was w _ _ (Nat.lt_of_lt_of_le h1 hk.size)).trans (hk.block k h1 h2), fun i b l hb ho hl => ?_, fun i hi => by rw [pt i (by omega)]; exact hk.ext i hi, hk.len, fun i b l hb ht hl => ?_⟩
  · rw [pt i (ne i b hb)] at hl
    exact hk.own i b l hb ho hl
  · rw [pt i (ne i b hb)] at hl
    exact hk.loc i b l hb ht hl
theorem HRel.keepNos {M : Val} {H : Heap} {w : World} (h : HRel M H w) (k : Nat) : HRel M (H ++ List.replicate k none) w := by
  have get : ∀ (i : Nat) (b : Blk), (H ++ List.replicate k (none : Option Blk))[i]? = some (some b) → H[i]? = some (some b) := by
    intro i b hb
    by_cases hi : i < H.length
    · rwa [List.getElem?_append_left hi] at hb
    · rw [List.getElem?_append_right (by omega), List.getElem?_replicate] at hb
      split at hb <;> simp at hb
  exact ⟨fun i hi => h.dom i (by simp at hi; omega), fun i b hb => h.row i b (get i b hb), fun i j b c l1 l2 hb ho hc => h.sep i j b c l1 l2 (get i b hb) ho (get j c hc)⟩
theorem Kept.keepNos {X : Cx} {M : Val} {H : Heap} {w : World} (hk : Kept X M H w) (k : Nat) : Kept X M (H ++ List.replicate k none) w := by
  have get : ∀ (i : Nat) (b : Blk), (H ++ List.replicate k (none : Option Blk))[i]? = some (some b) → H[i]? = some (some b) := by
    intro i b hb
    by_cases hi : i < H.length
    · rwa [List.getElem?_append_left hi] at hb
    · rw [List.getElem?_append_right (by omega), List.getElem?_replicate] at hb
      split at hb <;> simp at hb
  exact ⟨hk.os, hk.tape, hk.output, hk.size, hk.block, fun i b l hb => hk.own i b l (get i b hb), hk.ext, by have := hk.len; simp; omega, fun i b l hb => hk.loc i b l (get i b hb)⟩
end Go.Proofs.Ytaiboicipbhmhaa.Ah
namespace Go.Proofs.Ytaiboicipbhmhaa.Ah
open Go
set_option linter.unusedVariables false
def okPairF (d e : DOp) : Bool :=
  !(d.ix == e.ix) && (d.be e || ((if d.flt then (!e.mem || e.flt) else (e.flt || (!(d.heavy && e.heavy) && !(d.load && e.heavy && !e.ext) && !(d.heavy && e.load && !d.ext) && !(d.pur && e.heavy && !e.ext) && !(d.heavy && e.pur)))) && !wr d.o.dst e.reads && !wr e.o.dst d.reads)) &&
  !wr d.o.dst e.o.dst.toList
def pairsOkF : List DOp → Bool
  | [] => true
  | d :: r => r.all (okPairF d) && pairsOkF r
theorem pairsOkF_at : ∀ (ds : List DOp), pairsOkF ds = true → ∀ (p q : Nat) (d e : DOp), p < q → ds[p]? = some d → ds[q]? = some e → okPairF d e = true
  | [], _, p, q, d, e, _, h, _ => by simp at h
  | c :: r, h, p, q, d, e, hpq, hp, hq => by
    simp only [pairsOkF, Bool.and_eq_true, List.all_eq_true] at h
    cases q with
    | zero => omega
    | succ q =>
      cases p with
      | zero =>
        simp at hp hq
        subst hp
        exact h.1 e (List.mem_of_getElem? hq)
      | succ p => exact pairsOkF_at r h.2 p q d e (by omega) (by simpa using hp) (by simpa using hq)
structure Shape (ds : List DOp) (a c : Nat) : Prop where
  pair : ∀ (p q : Nat) (d e : DOp), p < q → ds[p]? = some d → ds[q]? = some e → okPairF d e = true
  fl : ∀ (p : Nat) (d : DOp), ds[p]? = some d → (d.flt = true ↔ a ≤ p ∧ p < c)
  ext : ∀ (p : Nat) (d : DOp), p < a → ds[p]? = some d → d.heavy = true → d.ext = true
  full : ∀ (p q : Nat) (d e : DOp), p < c → c ≤ q → ds[p]? = some d → ds[q]? = some e → d.mem = true → e.mem = true → d.be e = true
  ac : a ≤ c
  cl : c ≤ ds.length
theorem okPairF_ix {d e : DOp} (h : okPairF d e = true) : d.ix ≠ e.ix := by
  unfold okPairF at h
  simp only [Bool.and_eq_true, Bool.not_eq_true', beq_eq_false_iff_ne] at h
  exact h.1.1
theorem okPairF_dst {d e : DOp} (h : okPairF d e = true) {t : Nat} (h1 : d.o.dst = some t) : e.o.dst ≠ some t := by
  intro h2
  unfold okPairF at h
  simp only [Bool.and_eq_true, Bool.not_eq_true'] at h
  have := h.2
  rw [h1, h2] at this
  simp [wr] at this
theorem okPairF_wr {d e : DOp} (h : okPairF d e = true) (hb : d.be e = false) : wr d.o.dst e.reads = false ∧ wr e.o.dst d.reads = false := by
  unfold okPairF at h
  rw [hb] at h
  simp only [Bool.false_or, Bool.and_eq_true, Bool.not_eq_true'] at h
  exact ⟨h.1.2.1.2, h.1.2.2⟩
theorem okPairF_be {d e : DOp} (h : okPairF d e = true) (hb : d.be e = false) (hd : d.flt = false) (he : e.flt = false) : (d.heavy && e.heavy) = false ∧ (d.load && e.heavy && !e.ext) = false ∧ (d.heavy && e.load && !d.ext) = false ∧ (d.pur && e.heavy && !e.ext) = false ∧ (d.heavy && e.pur) = false := by
  unfold okPairF at h
  rw [hb, hd, he] at h
  simp only [Bool.false_or, Bool.and_eq_true, Bool.not_eq_true', Bool.false_eq_true, if_false] at h
  have h := h.1.2.1.1
  exact ⟨h.1.1.1.1, h.1.1.1.2, h.1.1.2, h.1.2, h.2⟩
structure TrF (P : Program) (ds : List DOp) (a c base : Nat) (Ts : Nat → Env) (Hs : Nat → Heap) (Vs : Nat → AV) : Prop where
  did : ∀ p d, ds[p]? = some d → d.flt = false → Did P d (Ts p) (Hs p) (Vs p) (Hs (p + 1))
  didF : ∀ p d, ds[p]? = some d → d.flt = true → Vs p = .ptr (base + (p - a)) 0 ∧ Hs (p + 1) = (Hs p).set (base + (p - a)) (some ⟨d.zero, true⟩)
  ext : ∀ p d, ds[p]? = some d → d.flt = false → d.ext = true → ∃ G, Hs (p + 1) = Hs p ++ G
  nxt : ∀ p d, ds[p]? = some d → ∀ t, (Ts (p + 1)).get t = (((Ts p).dels d.o.kill).put d.o.dst (Vs p)).get t
  res : ∀ p, p ≤ a → ∀ i, i < c - a → (Hs p)[base + i]? = some none
section
variable {P : Program} {X : Cx} {N : Nat} {ops : Array Oper} {ds : List DOp} {a c base : Nat} {Ts : Nat → Env} {Hs : Nat → Heap} {Vs : Nat → AV} {L : Array Bool} {m n : Nat} {act : Act} {w : World}
theorem TrF.src (h : TrF P ds a c base Ts Hs Vs) (t : Nat) : ∀ q, q ≤ ds.length →
    (Ts q).get t = .any ∨ (∃ p d, p < q ∧ ds[p]? = some d ∧ d.o.dst = some t ∧ (Ts q).get t = Vs p) ∨ ((∀ p d, p < q → ds[p]? = some d → d.o.dst ≠ some t) ∧ (Ts q).get t = (Ts 0).get t)
  | 0, _ => .inr (.inr ⟨fun p d hp => by omega, rfl⟩)
  | q + 1, hq => by
    obtain ⟨d, hd⟩ : ∃ d, ds[q]? = some d := ⟨ds[q], by simp⟩
    have hn := h.nxt q d hd t
    have hs : d.o.dst ≠ some t → (Ts (q + 1)).get t = .any ∨ (Ts (q + 1)).get t = (Ts q).get t := by
      intro hne
      rw [hn]
      have : (((Ts q).dels d.o.kill).put d.o.dst (Vs q)).get t = ((Ts q).dels d.o.kill).get t := by
        cases hdst : d.o.dst with
        | none => rfl
        | some i =>
          rw [Env.get_put_some, if_neg]
          intro e
          subst e
          exact hne hdst
      rw [this, Env.get_dels]
      split
      · exact .inl rfl
      · exact .inr rfl
    by_cases hd2 : d.o.dst = some t
    · refine .inr (.inl ⟨q, d, by omega, hd, hd2, ?_⟩)
      rw [hn, hd2, Env.get_put_some, if_pos rfl]
    · rcases hs hd2 with h1 | h1
      · exact .inl h1
      · rcases h.src t q (by omega) with h2 | ⟨p, e, h2, h3, h4, h5⟩ | ⟨h2, h3⟩
        · exact .inl (h1.trans h2)
        · exact .inr (.inl ⟨p, e, by omega, h3, h4, h1.trans h5⟩)
        · refine .inr (.inr ⟨fun p e hp he => ?_, h1.trans h3⟩)
          rcases Nat.lt_or_ge p q with hpq | hpq
          · exact h2 p e hpq he
          · have : p = q := by omega
            subst this
            rw [hd] at he
            cases he
            exact hd2
theorem TrF.flat (h : TrF P ds a c base Ts Hs Vs) : ∀ (k i : Nat), i + k ≤ ds.length → (∀ q d, i ≤ q → q < i + k → ds[q]? = some d → d.flt = false ∧ d.heavy = false) → Hs (i + k) = Hs i
  | 0, _, _, _ => rfl
  | k + 1, i, hl, hh => by
    obtain ⟨d, hd⟩ : ∃ d, ds[i + k]? = some d := ⟨ds[i + k], by simp⟩
    obtain ⟨h0, h1⟩ := hh (i + k) d (by omega) (by omega) hd
    have h2 := (h.did (i + k) d hd h0).still h1
    rw [show i + (k + 1) = i + k + 1 by omega, h2]
    exact h.flat k i (by omega) fun q d h3 h4 => hh q d h3 (by omega)
theorem TrF.flat' (h : TrF P ds a c base Ts Hs Vs) {i j : Nat} (hij : i ≤ j) (hj : j ≤ ds.length) (hh : ∀ q d, i ≤ q → q < j → ds[q]? = some d → d.flt = false ∧ d.heavy = false) : Hs j = Hs i := by
  obtain ⟨k, rfl⟩ : ∃ k, j = i + k := ⟨j - i, by omega⟩
  exact h.flat k i hj hh
theorem TrF.grow (h : TrF P ds a c base Ts Hs Vs) : ∀ (k i : Nat), i + k ≤ ds.length → (∀ q d, i ≤ q → q < i + k → ds[q]? = some d → d.flt = false ∧ (d.heavy = true → d.ext = true)) → ∃ G, Hs (i + k) = Hs i ++ G
  | 0, _, _, _ => ⟨[], by simp⟩
  | k + 1, i, hl, hh => by
    obtain ⟨d, hd⟩ : ∃ d, ds[i + k]? = some d := ⟨ds[i + k], by simp⟩
    obtain ⟨G, hG⟩ := h.grow k i (by omega) fun q d h3 h4 => hh q d h3 (by omega)
    obtain ⟨h0, h1⟩ := hh (i + k) d (by omega) (by omega) hd
    rw [show i + (k + 1) = i + k + 1 by omega]
    cases hhv : d.heavy with
    | false =>
      rw [(h.did (i + k) d hd h0).still hhv]
      exact ⟨G, hG⟩
    | true =>
      obtain ⟨G', hG'⟩ := h.ext (i + k) d hd h0 (h1 hhv)
      exact ⟨G ++ G', by rw [hG', hG, List.append_assoc]⟩
theorem TrF.grow' (h : TrF P ds a c base Ts Hs Vs) {i j : Nat} (hij : i ≤ j) (hj : j ≤ ds.length) (hh : ∀ q d, i ≤ q → q < j → ds[q]? = some d → d.flt = false ∧ (d.heavy = true → d.ext = true)) : ∃ G, Hs j = Hs i ++ G := by
  obtain ⟨k, rfl⟩ : ∃ k, j = i + k := ⟨j - i, by omega⟩
  exact h.grow k i hj hh
def Vals (ds : List DOp) (Ts : Nat → Env) (Vs : Nat → AV) (L : Array Bool) (M : Val) (act : Act) : Prop :=
  ∀ t, (∀ (p : Nat) (d : DOp), ds[p]? = some d → Lst L d.ix → d.o.dst = some t → VR M (Vs p) (act.tmps.getD t undef)) ∧ ((∀ (p : Nat) (d : DOp), ds[p]? = some d → Lst L d.ix → d.o.dst ≠ some t) → VR M ((Ts 0).get t) (act.tmps.getD t undef))
structure Ahead (X : Cx) (ds : List DOp) (a base : Nat) (L : Array Bool) (M : Val) (H : Heap) (w : World) : Prop where
  done : ∀ (p : Nat) (d : DOp), ds[p]? = some d → d.flt = true → Lst L d.ix → ∃ l, M (base + (p - a)) = some l ∧ Pend X M H w l d.zero
  not : ∀ (p : Nat) (d : DOp), ds[p]? = some d → d.flt = true → ¬ Lst L d.ix → M (base + (p - a)) = none
  apart : ∀ (p q : Nat) (d e : DOp) (l l' : Loc), ds[p]? = some d → ds[q]? = some e → d.flt = true → e.flt = true → p ≠ q → M (base + (p - a)) = some l → M (base + (q - a)) = some l' → l.blk ≠ l'.blk
structure SimF (X : Cx) (N : Nat) (n : Nat) (ds : List DOp) (a c base : Nat) (Ts : Nat → Env) (Hs : Nat → Heap) (Vs : Nat → AV) (L : Array Bool) (m : Nat) (act : Act) (w : World) : Prop where
  size : L.size = n
  cl : ∀ (p : Nat) (d : DOp), ds[p]? = some d → Lst L d.ix → ∀ j, d.anc.testBit j = true → Lst L j
  hv : ∀ (p : Nat) (d : DOp), ds[p]? = some d → d.heavy = true → d.flt = false → (Lst L d.ix ↔ p < m)
  le : m ≤ ds.length
  md : m ≤ a ∨ (c ≤ m ∧ ∀ (p : Nat) (d : DOp), ds[p]? = some d → p < c → d.mem = true → Lst L d.ix)
  defers : Marks X.w.heap.size w act.defers
  tsz : act.tmps.size = N
  st : ∃ M, HRel M (Hs m) w ∧ Kept X M (Hs m) w ∧ (m ≤ a → Ahead X ds a base L M (Hs m) w) ∧ Vals ds Ts Vs L M act
theorem SimF.up (sh : Shape ds a c) (ht : TrF P ds a c base Ts Hs Vs) (hs : SimF X N n ds a c base Ts Hs Vs L m act w) (hall : ∀ (p : Nat) (d : DOp), ds[p]? = some d → p < c → d.mem = true → Lst L d.ix) : ∃ m', c ≤ m' ∧ SimF X N n ds a c base Ts Hs Vs L m' act w := by
  have hac := sh.ac
  have hcl := sh.cl
  rcases Nat.lt_or_ge m c with hmc | hmc
  rotate_left
  · exact ⟨m, hmc, hs⟩
  have hma : m ≤ a := by
    rcases hs.md with h | ⟨h, _⟩
    · exact h
    · omega
  obtain ⟨M, hH, hK, hA, hV⟩ := hs.st
  have hA := hA hma
  have e0 : Hs a = Hs m := ht.flat' hma (by omega) fun q d h1 h2 h3 => by
    have hf : d.flt = false := by
      cases hf : d.flt with
      | false => rfl
      | true => have := (sh.fl q d h3).1 hf; omega
    refine ⟨hf, ?_⟩
    cases hh : d.heavy with
    | false => rfl
    | true =>
      have := (hs.hv q d h3 hh hf).1 (hall q d h3 (by omega) (DOp.heavy_mem hh))
      omega
  rw [← e0] at hH hK hA
  have key : ∀ i, i ≤ c - a → HRel M (Hs (a + i)) w ∧ Kept X M (Hs (a + i)) w ∧ ∀ (p : Nat) (d : DOp), ds[p]? = some d → d.flt = true → a + i ≤ p → ∃ l, M (base + (p - a)) = some l ∧ Pend X M (Hs (a + i)) w l d.zero := by
    intro i
    induction i with
    | zero => exact fun _ => ⟨hH, hK, fun p d hd hf _ => hA.done p d hd hf (hall p d hd ((sh.fl p d hd).1 hf).2 (DOp.flt_mem hf))⟩
    | succ i ih =>
      intro hi
      obtain ⟨g1, g2, g3⟩ := ih (by omega)
      obtain ⟨d, hd⟩ : ∃ d, ds[a + i]? = some d := ⟨ds[a + i], by simp⟩
      have hf := (sh.fl (a + i) d hd).2 ⟨by omega, by omega⟩
      obtain ⟨l, k1, k2⟩ := g3 (a + i) d hd hf (Nat.le_refl _)
      obtain ⟨_, k3⟩ := ht.didF (a + i) d hd hf
      rw [show a + i - a = i by omega] at k1 k3
      have hlt : base + i < (Hs (a + i)).length := by
        rcases Nat.lt_or_ge (base + i) (Hs (a + i)).length with h | h
        · exact h
        · rw [g1.dom _ h] at k1; cases k1
      rw [show a + (i + 1) = a + i + 1 by omega, k3]
      refine ⟨g1.name hlt k1 k2, g2.name hlt k1 k2, fun p e he hfe hp => ?_⟩
      obtain ⟨l', j1, j2⟩ := g3 p e he hfe (by omega)
      exact ⟨l', j1, j2.named hlt k1 (hA.apart (a + i) p d e l l' hd he hf hfe (by omega) (by rw [show a + i - a = i by omega]; exact k1) j1)⟩
  obtain ⟨g1, g2, _⟩ := key (c - a) (Nat.le_refl _)
  rw [show a + (c - a) = c by omega] at g1 g2
  refine ⟨c, Nat.le_refl _, hs.size, hs.cl, fun p d hd hh hf => ?_, hcl, .inr ⟨Nat.le_refl _, hall⟩, hs.defers, hs.tsz, M, g1, g2, fun hca => ?_, hV⟩
  · constructor
    · intro hl
      have := (hs.hv p d hd hh hf).1 hl
      omega
    · intro hp
      exact hall p d hd hp (DOp.heavy_mem hh)
  · have no : ∀ (p : Nat) (d : DOp), ds[p]? = some d → d.flt = true → False := fun p d hd hf => by have := (sh.fl p d hd).1 hf; omega
    exact ⟨fun p d hd hf => (no p d hd hf).elim, fun p d hd hf => (no p d hd hf).elim, fun p q d e l l' hd he hf => (no p d hd hf).elim⟩
theorem SimF.read (sh : Shape ds a c) (ht : TrF P ds a c base Ts Hs Vs) (hs : SimF X N n ds a c base Ts Hs Vs L m act w) {p : Nat} {d : DOp} (hd : Due ds L p d) {M : Val} (hM : Vals ds Ts Vs L M act) (t : Nat) (hr : t ∈ d.reads) : VR M ((Ts p).get t) (act.tmps.getD t undef) := by
  have hlen : p < ds.length := (List.getElem?_eq_some_iff.1 hd.at').1
  rcases ht.src t p (by omega) with h | ⟨q, e, h1, h2, h3, h4⟩ | ⟨h1, h2⟩
  · rw [h]; simp [VR]
  · rw [h4]
    have hpair := sh.pair q p e d h1 h2 hd.at'
    have hdone : Lst L e.ix := by
      cases hb : e.be d with
      | true => exact hd.yes _ hb
      | false => exact absurd hr (wr_mem (okPairF_wr hpair hb).1 h3)
    exact (hM t).1 q e h2 hdone h3
  · rw [h2]
    refine (hM t).2 fun q e hq hl he => ?_
    rcases Nat.lt_trichotomy q p with h3 | h3 | h3
    · exact h1 q e h3 hq he
    · subst h3
      rw [hd.at'] at hq
      cases hq
      exact hd.no hl
    · have hpair := sh.pair p q d e h3 hd.at' hq
      cases hb : d.be e with
      | true => exact hd.no (hs.cl q e hq hl _ hb)
      | false => exact absurd hr (wr_mem (okPairF_wr hpair hb).2 he)
theorem Vals.after (sh : Shape ds a c) (htsz : act.tmps.size = N) (hsz : L.size = n) {p : Nat} {d : DOp} (hd : Due ds L p d) (hix : d.ix < n) (hN : ∀ i, d.o.dst = some i → i < N) {M M' : Val} (hM : Vals ds Ts Vs L M act) (hle : M.le M') {x : Value} (hx : VR M' (Vs p) x) : Vals ds Ts Vs (L.setIfInBounds d.ix true) M' (act.put d.o.dst x) := by
  have hsz : d.ix < L.size := by omega
  have other : ∀ (q : Nat) (e : DOp), ds[q]? = some e → q ≠ p → e.ix ≠ d.ix := by
    intro q e hq hne
    rcases Nat.lt_or_ge q p with h | h
    · exact okPairF_ix (sh.pair q p e d h hq hd.at')
    · exact fun e' => okPairF_ix (sh.pair p q d e (by omega) hd.at' hq) e'.symm
  have otherD : ∀ (q : Nat) (e : DOp) (t : Nat), ds[q]? = some e → q ≠ p → e.o.dst = some t → d.o.dst ≠ some t := by
    intro q e t hq hne h1
    rcases Nat.lt_or_ge q p with h | h
    · exact okPairF_dst (sh.pair q p e d h hq hd.at') h1
    · exact fun h2 => okPairF_dst (sh.pair p q d e (by omega) hd.at' hq) h2 h1
  refine fun t => ⟨?_, ?_⟩
  · intro q e hq hl ht
    rw [Lst_set hsz] at hl
    by_cases hqp : q = p
    · subst hqp
      rw [hd.at'] at hq
      cases hq
      rw [ht]
      have : t < act.tmps.size := by rw [htsz]; exact hN t ht
      simpa [Act.put, this] using hx
    · rcases hl with hl | hl
      · have h1 := ((hM t).1 q e hq hl ht).mono hle
        have h2 := otherD q e t hq hqp ht
        cases hdd : d.o.dst with
        | none => exact h1
        | some i =>
          have : i ≠ t := fun e => by subst e; exact h2 hdd
          simp only [Act.put, Array.getD_eq_getD_getElem?] at h1 ⊢
          rw [Array.getElem?_setIfInBounds_ne this]
          exact h1
      · exact absurd hl (other q e hq hqp)
  · intro h
    have hne : d.o.dst ≠ some t := h p d hd.at' ((Lst_set hsz).2 (.inr rfl))
    have h1 := ((hM t).2 fun q e hq hl => h q e hq ((Lst_set hsz).2 (.inl hl))).mono hle
    cases hdd : d.o.dst with
    | none => exact h1
    | some i =>
      have : i ≠ t := fun e => by subst e; exact hne hdd
      simp only [Act.put, Array.getD_eq_getD_getElem?] at h1 ⊢
      rw [Array.getElem?_setIfInBounds_ne this]
      exact h1
theorem clAfter (sh : Shape ds a c) (hsz : L.size = n) (hcl : ∀ (p : Nat) (d : DOp), ds[p]? = some d → Lst L d.ix → ∀ j, d.anc.testBit j = true → Lst L j) {p : Nat} {d : DOp} (hd : Due ds L p d) (hix : d.ix < n) :
    ∀ (q : Nat) (e : DOp), ds[q]? = some e → Lst (L.setIfInBounds d.ix true) e.ix → ∀ j, e.anc.testBit j = true → Lst (L.setIfInBounds d.ix true) j := by
  have hsz : d.ix < L.size := by omega
  intro q e hq hl j hj
  rw [Lst_set hsz] at hl ⊢
  by_cases hqp : q = p
  · subst hqp
    rw [hd.at'] at hq
    cases hq
    exact .inl (hd.yes j hj)
  · rcases hl with hl | hl
    · exact .inl (hcl q e hq hl j hj)
    · exfalso
      rcases Nat.lt_or_ge q p with h | h
      · exact okPairF_ix (sh.pair q p e d h hq hd.at') hl
      · exact okPairF_ix (sh.pair p q d e (by omega) hd.at' hq) hl.symm
end
end Go.Proofs.Ytaiboicipbhmhaa.Ah
namespace Go.Proofs.Ytaiboicipbhmhaa.Ah
open Go
set_option linter.unusedVariables false
section
variable {P : Program} {rd : Option Nat} {X : Cx} {N : Nat} {ops : Array Oper} {ds : List DOp} {a c base : Nat} {Ts : Nat → Env} {Hs : Nat → Heap} {Vs : Nat → AV} {L : Array Bool} {m n : Nat} {act : Act} {w : World}
theorem op_carry {Q : Exit → Act → World → Prop} {K : Act → World → Prop} {d : DOp} {i : Nat} {o : Oper} (ho : ops[i]? = some o) (hok : okOper P N ops o d.o = true) {T : Env} {Hp Hp' Hm Hm' : Heap} {v : AV} {M : Val}
    (hdid : Did P d T Hp v Hp') (hH : HRel M Hm w) (htsz : act.tmps.size = N) (hread : ∀ t, t ∈ d.reads → VR M (T.get t) (act.tmps.getD t undef))
    (hso : (∀ b, aims b (T.evals d.o.args) → b < Hm.length) → (∀ K : AV → Heap → Prop, K v Hp' → (sor P d.o.op (T.evals d.o.args) Hp).sat P K) → (d.pur = true → Hp' = Hp ∧ Pur P d.o.op (T.evals d.o.args) Hp v) → (sor P d.o.op (T.evals d.o.args) Hm).sat P (fun v' H => v' = v ∧ H = Hm'))
    (hskip : Hp' = Hp → Hm' = Hm)
    (hk : ∀ x M' w', HRel M' Hm' w' → Kept ⟨w, M, Hm⟩ M' Hm' w' → VR M' v x → K (act.put d.o.dst x) w') : wpOpIn (Wd rd) 0 P ops Q i K act w := by
  simp only [okOper, Bool.and_eq_true] at hok
  obtain ⟨⟨⟨g1, g2⟩, g3⟩, g4⟩ := hok
  have hdst : o.dst = d.o.dst := by simpa using g2
  have hsub : ∀ t, t ∈ d.o.args.filterMap SO.reg? → t ∈ d.reads := fun t h => by unfold DOp.reads; exact List.mem_append_left _ h
  have hrel : TRel N M (d.reads.map fun t => (t, T.get t)) act.tmps := by
    refine ⟨htsz, fun t => ?_⟩
    rw [pick_get]
    split
    · rename_i h; exact hread t h
    · simp [VR]
  have hev : Env.evals (d.reads.map fun t => (t, T.get t)) d.o.args = T.evals d.o.args := by
    refine evals_congr _ fun t h => ?_
    rw [pick_get, if_pos (hsub t h)]
  have hgd : ∀ g want, d.o.guard = some (g, want) → ∃ j, o.guard = some (j, want) ∧ yielded ops act.tmps j = (match act.tmps.getD g undef with | .bool b => some b | _ => none) ∧ VR M (T.get g) (act.tmps.getD g undef) := by
    intro g want hg
    rw [hg] at g4
    cases hgo : o.guard with
    | none => rw [hgo] at g4; cases g4
    | some q =>
      obtain ⟨j, wt⟩ := q
      rw [hgo] at g4
      simp only [Bool.and_eq_true, beq_iff_eq, decide_eq_true_eq] at g4
      obtain ⟨⟨rfl, hj⟩, hgN⟩ := g4
      refine ⟨j, rfl, ?_, hread g (by unfold DOp.reads; rw [hg]; simp)⟩
      have hgs : act.tmps[g]? = some (act.tmps.getD g undef) := by
        have : g < act.tmps.size := by rw [htsz]; exact hgN
        simp [this]
      unfold yielded
      rw [hj]
      show (match act.tmps[g]? with | some (.bool b) => some b | _ => none) = _
      rw [hgs]
      generalize act.tmps.getD g undef = v
      cases v <;> rfl
  have hno : d.o.guard = none → o.guard = none := by
    intro h
    rw [h] at g4
    cases hgo : o.guard with
    | none => rfl
    | some q => rw [hgo] at g4; cases g4
  unfold wpOpIn
  rw [ho]
  simp only
  rcases hdid with ⟨hw, hsat, hpur⟩ | ⟨hv, hst, g, want, hg, hgv⟩
  · have hwant : Region.wanted o (yielded ops act.tmps) = true := by
      rcases hw with hw | ⟨g, want, hg, hgv⟩
      · simp [Region.wanted, hno hw]
      · obtain ⟨j, e1, e2, e3⟩ := hgd g want hg
        rw [hgv] at e3
        simp only [VR] at e3
        rw [e3] at e2
        simp [Region.wanted, e1, e2]
    rw [if_pos hwant]
    skip
    cases hop : okOp P o.op d.o.op with
    | none => rw [hop] at g1; cases g1
    | some l =>
      rw [hop] at g1
      simp only at g1
      have hargs := okArgs_sound hrel l d.o.args g1
      rw [hev] at hargs
      have hbs : ∀ b, aims b (T.evals d.o.args) → b < Hm.length := by
        intro b hb
        have key : ∀ l, M b = some l → b < Hm.length := by
          intro l hl
          rcases Nat.lt_or_ge b Hm.length with h5 | h5
          · exact h5
          · rw [hH.dom b h5] at hl; cases hl
        rcases hb with ⟨off, hb⟩ | ⟨off, sn, ss, sc, hb⟩
        · obtain ⟨i, hi⟩ := List.mem_iff_getElem?.1 hb
          obtain ⟨x, hx, hvx⟩ := hargs.get i _ hi
          simp only [VR] at hvx
          obtain ⟨lc, hl, _⟩ := hvx
          exact key lc (Val.at_out hl).1
        · obtain ⟨i, hi⟩ := List.mem_iff_getElem?.1 hb
          obtain ⟨x, hx, hvx⟩ := hargs.get i _ hi
          simp only [VR] at hvx
          obtain ⟨lc, hl, _⟩ := hvx
          exact key lc (Val.at_out hl).1
      obtain ⟨v', H', ⟨rfl, rfl⟩, hnd, hstep⟩ := sor_sound o d.o.op l hop _ Hm _ (hso hbs hsat hpur)
      refine hstep hnd M w act hH hargs rd K Q fun x M' w' e1 e2 e3 => ?_
      rw [hdst]
      exact hk x M' w' e1 e2 e3
  · obtain ⟨j, e1, e2, e3⟩ := hgd g want hg
    have hwant : ¬ Region.wanted o (yielded ops act.tmps) = true := by
      rcases hgv with hgv | hgv
      · rw [hgv] at e3
        simp only [VR] at e3
        rw [e3] at e2
        cases want <;> simp [Region.wanted, e1, e2]
      · rw [hgv] at e3
        simp only [VR, VRs] at e3
        obtain ⟨us, e4, e5⟩ := e3
        rw [e4, e5] at e2
        simp [Region.wanted, e1, e2]
    rw [if_neg hwant, hdst]
    refine ⟨fun _ _ => trivial, ?_⟩
    have hs := hskip hst
    subst hs
    refine hk undef M w hH (Kept.refl M _ w) ?_
    rw [hv]
    exact vr_undef M
theorem flt_carry {Q : Exit → Act → World → Prop} {K : Act → World → Prop} {d : DOp} {i : Nat} {o : Oper} (ho : ops[i]? = some o) (hok : okOper P N ops o d.o = true) (hf : d.flt = true)
    (hk : ∀ z : List Value, ∀ e, (∀ M, VRs M d.zero z) → K (act.put d.o.dst (.pointer (some ⟨w.heap.size, 0, none⟩))) (w.alloc (.cells z.toArray e))) : wpOpIn (Wd rd) 0 P ops Q i K act w := by
  obtain ⟨f1, f2, f3⟩ := DOp.flt_op hf
  simp only [okOper, Bool.and_eq_true] at hok
  obtain ⟨⟨⟨g1, g2⟩, g3⟩, g4⟩ := hok
  have hdst : o.dst = d.o.dst := by simpa using g2
  have hno : o.guard = none := by
    rw [f2] at g4
    cases hgo : o.guard with
    | none => rfl
    | some q => rw [hgo] at g4; cases g4
  unfold wpOpIn
  rw [ho]
  simp only
  rw [if_pos (by simp [Region.wanted, hno])]
  skip
  rw [f1] at g1
  cases hop : o.op with
  | alloc t =>
    rw [hop] at g1
    simp only [okOp] at g1
    by_cases hz : zOk P t d.zero = true
    · obtain ⟨zv, h1, h2⟩ := zOk_spec hz
      have hr : (execOp act.eval o).run P w = .ok (.value (.pointer (some ⟨w.heap.size, 0, none⟩))) (w.alloc (.cells zv.cells.toList.toArray t)) := by
        simp [execOp, hop, Instr.alloc, run_zero h1, newVar, newRow]
      refine ⟨fun _ _ => trivial, ?_⟩
      rw [Oper.semAt_eq _ _ _ (fun c hc => by rw [hop] at hc; cases hc), hr]
      show K (act.put o.dst _) _
      rw [hdst]
      exact hk _ _ h2
    · rw [if_neg hz] at g1
      cases g1
  | _ => rw [hop] at g1; simp [okOp] at g1
theorem Ahead.none (sh : Shape ds a c) (h : c ≤ a) {M : Val} {H : Heap} {w : World} {L : Array Bool} : Ahead X ds a base L M H w := by
  have no : ∀ (p : Nat) (d : DOp), ds[p]? = some d → d.flt = true → False := fun p d hd hf => by have := (sh.fl p d hd).1 hf; omega
  exact ⟨fun p d hd hf => (no p d hd hf).elim, fun p d hd hf => (no p d hd hf).elim, fun p q d e l l' hd he hf => (no p d hd hf).elim⟩
theorem Ahead.keep (sh : Shape ds a c) {M M' : Val} {H H' : Heap} {w w' : World} (hA : Ahead X ds a base L M H w) (hl : ∀ i, i < c - a → base + i < H.length) (hle : M.le M') (hk : Kept ⟨w, M, H⟩ M' H' w') {i : Nat} (hsz : i < L.size) (hi : ∀ (p : Nat) (d : DOp), ds[p]? = some d → d.flt = true → d.ix ≠ i) : Ahead X ds a base (L.setIfInBounds i true) M' H' w' := by
  have same : ∀ (p : Nat) (d : DOp), ds[p]? = some d → d.flt = true → M' (base + (p - a)) = M (base + (p - a)) := fun p d hd hf => by
    have h := (sh.fl p d hd).1 hf
    exact hk.ext _ (hl (p - a) (by omega))
  refine ⟨fun p d hd hf hL => ?_, fun p d hd hf hL => ?_, fun p q d e l l' hd he hfd hfe hpq h1 h2 => ?_⟩
  · rw [Lst_set hsz, or_iff_left (hi p d hd hf)] at hL
    obtain ⟨l, h1, h2⟩ := hA.done p d hd hf hL
    exact ⟨l, by rw [same p d hd hf]; exact h1, h2.keep hle hk⟩
  · rw [Lst_set hsz, or_iff_left (hi p d hd hf)] at hL
    rw [same p d hd hf]
    exact hA.not p d hd hf hL
  · rw [same p d hd hfd] at h1
    rw [same q e he hfe] at h2
    exact hA.apart p q d e l l' hd he hfd hfe hpq h1 h2
theorem SimF.stepFlt {Q : Exit → Act → World → Prop} {K : Act → World → Prop} (sh : Shape ds a c) (ht : TrF P ds a c base Ts Hs Vs) (hx : X.H.length ≤ base) (hs : SimF X N n ds a c base Ts Hs Vs L m act w) {p : Nat} {d : DOp} (hd : Due ds L p d) (hix : d.ix < n)
    {o : Oper} (ho : ops[d.ix]? = some o) (hok : okOper P N ops o d.o = true) (hf : d.flt = true)
    (hk : ∀ m' a' w', SimF X N n ds a c base Ts Hs Vs (L.setIfInBounds d.ix true) m' a' w' → K a' w') : wpOpIn (Wd rd) 0 P ops Q d.ix K act w := by
  have hpos := (sh.fl p d hd.at').1 hf
  have hma : m ≤ a := by
    rcases hs.md with h | ⟨_, h⟩
    · exact h
    · exact absurd (h p d hd.at' hpos.2 (DOp.flt_mem hf)) hd.no
  obtain ⟨M, hH, hK, hA, hV⟩ := hs.st
  have hA := hA hma
  have hsz : d.ix < L.size := by rw [hs.size]; exact hix
  have hdN : ∀ i, d.o.dst = some i → i < N := by
    intro i hi
    simp only [okOper, Bool.and_eq_true] at hok
    obtain ⟨⟨⟨g1, g2⟩, g3⟩, g4⟩ := hok
    have hdst : o.dst = d.o.dst := by simpa using g2
    rw [hdst, hi] at g3
    simpa [okDst] using g3
  have hres := ht.res m hma (p - a) (by omega)
  have hno := hA.not p d hd.at' hf hd.no
  have other : ∀ (q : Nat) (e : DOp), ds[q]? = some e → q ≠ p → e.ix ≠ d.ix := by
    intro q e hq hne
    rcases Nat.lt_or_ge q p with h | h
    · exact okPairF_ix (sh.pair q p e d h hq hd.at')
    · exact fun e' => okPairF_ix (sh.pair p q d e (by omega) hd.at' hq) e'.symm
  refine flt_carry ho hok hf fun z e hz => hk m _ _ ?_
  have hle : M.le (M.put (base + (p - a)) ⟨w.heap.size, 0, z.length, false⟩) := Val.le_put hno
  have pt : ∀ i, i ≠ base + (p - a) → (M.put (base + (p - a)) ⟨w.heap.size, 0, z.length, false⟩) i = M i := fun i hi => by unfold Val.put; rw [if_neg hi]
  have new : (M.put (base + (p - a)) ⟨w.heap.size, 0, z.length, false⟩) (base + (p - a)) = some ⟨w.heap.size, 0, z.length, false⟩ := by unfold Val.put; rw [if_pos rfl]
  have nb : ∀ (i : Nat) (b : Blk), (Hs m)[i]? = some (some b) → i ≠ base + (p - a) := by
    rintro i b hb rfl
    rw [hres] at hb
    cases hb
  have ne : ∀ (q : Nat) (e : DOp), ds[q]? = some e → e.flt = true → q ≠ p → base + (q - a) ≠ base + (p - a) := fun q e he hfe hq => by
    have := (sh.fl q e he).1 hfe
    omega
  have plt : ∀ (q : Nat) (e : DOp) (l : Loc), ds[q]? = some e → e.flt = true → M (base + (q - a)) = some l → l.blk < w.heap.size ∧ Pend X M (Hs m) w l e.zero := by
    intro q e l he hfe hl
    by_cases hL : Lst L e.ix
    · obtain ⟨l', h1, h2⟩ := hA.done q e he hfe hL
      rw [hl] at h1
      cases h1
      have h3 := h2
      obtain ⟨⟨arr, el, k1, _⟩, _⟩ := h3
      exact ⟨(Array.getElem?_eq_some_iff.1 k1).1, h2⟩
    · rw [hA.not q e he hfe hL] at hl
      cases hl
  refine ⟨by simp [hs.size], clAfter sh hs.size hs.cl hd hix, fun q e hq hh hfe => ?_, hs.le, .inl hma, by rw [put_defers]; exact hs.defers.alloc _, by cases d.o.dst <;> simp [Act.put, hs.tsz], _, hH.early hres hno _ z.length, hK.early hres (by omega) _ z.length, fun _ => ⟨fun q e' he hfe hL => ?_, fun q e' he hfe hL => ?_, fun q r e1 e2 l l' he1 he2 hf1 hf2 hqr hl hl' => ?_⟩, hV.after sh hs.tsz hs.size hd hix hdN hle ?_⟩
  · have hne : q ≠ p := by
      rintro rfl
      rw [hd.at'] at hq
      cases hq
      rw [hf] at hfe
      cases hfe
    rw [Lst_set hsz, or_iff_left (other q e hq hne)]
    exact hs.hv q e hq hh hfe
  · by_cases hqp : q = p
    · subst hqp
      rw [hd.at'] at he
      cases he
      refine ⟨_, new, ⟨z.toArray, e, alloc_is w _, by simp, ⟨rfl, rfl⟩, VRs.mono hle _ _ (by simpa using hz M)⟩, hK.size, fun i b l' hb ht' hl' => ?_⟩
      rw [pt i (nb i b hb)] at hl'
      obtain ⟨l2, k1, k2⟩ := hH.row i b hb
      rw [hl'] at k1
      cases k1
      have := (k2 ht').lt
      show l'.blk ≠ w.heap.size
      omega
    · rw [Lst_set hsz, or_iff_left (other q e' he hqp)] at hL
      obtain ⟨l, h1, ⟨arr, el, k1, k2, k3, k4⟩, k5, k6⟩ := hA.done q e' he hfe hL
      refine ⟨l, by rw [pt _ (ne q e' he hfe hqp)]; exact h1, ⟨arr, el, by rw [alloc_was w _ _ (Array.getElem?_eq_some_iff.1 k1).1]; exact k1, k2, k3, VRs.mono hle _ _ k4⟩, k5, fun i b l' hb ht' hl' => ?_⟩
      rw [pt i (nb i b hb)] at hl'
      exact k6 i b l' hb ht' hl'
  · by_cases hqp : q = p
    · subst hqp
      rw [hd.at'] at he
      cases he
      exact absurd ((Lst_set hsz).2 (.inr rfl)) hL
    · rw [Lst_set hsz, or_iff_left (other q e' he hqp)] at hL
      rw [pt _ (ne q e' he hfe hqp)]
      exact hA.not q e' he hfe hL
  · by_cases hqp : q = p
    · subst hqp
      rw [new] at hl
      cases hl
      rw [pt _ (ne r e2 he2 hf2 (fun e => hqr e.symm))] at hl'
      have := (plt r e2 l' he2 hf2 hl').1
      show w.heap.size ≠ l'.blk
      omega
    · rw [pt _ (ne q e1 he1 hf1 hqp)] at hl
      by_cases hrp : r = p
      · subst hrp
        rw [new] at hl'
        cases hl'
        have := (plt q e1 l he1 hf1 hl).1
        show l.blk ≠ w.heap.size
        omega
      · rw [pt _ (ne r e2 he2 hf2 hrp)] at hl'
        exact hA.apart q r e1 e2 l l' he1 he2 hf1 hf2 hqr hl hl'
  · rw [(ht.didF p d hd.at' hf).1]
    simp only [VR]
    exact ⟨_, Val.at_in new rfl, rfl⟩
end
end Go.Proofs.Ytaiboicipbhmhaa.Ah
namespace Go.Proofs.Ytaiboicipbhmhaa.Ah
open Go
set_option linter.unusedVariables false
section
variable {P : Program} {rd : Option Nat} {X : Cx} {N : Nat} {ops : Array Oper} {ds : List DOp} {a c base : Nat} {Ts : Nat → Env} {Hs : Nat → Heap} {Vs : Nat → AV} {L : Array Bool} {m n : Nat} {act : Act} {w : World}
def NoF (ds : List DOp) (m p : Nat) : Prop := ∀ (q : Nat) (e : DOp), ds[q]? = some e → (m ≤ q ∧ q < p) ∨ (p ≤ q ∧ q < m) → e.flt = false
theorem SimF.heavy (sh : Shape ds a c) (ht : TrF P ds a c base Ts Hs Vs) (hs : SimF X N n ds a c base Ts Hs Vs L m act w) {p : Nat} {d : DOp} (hd : Due ds L p d) (hh : d.heavy = true) (hf : d.flt = false) (hno : NoF ds m p) :
    Hs p = Hs m ∧ m ≤ p ∧ ∀ (q : Nat) (e : DOp), ds[q]? = some e → e.heavy = true → e.flt = false → q ≠ p → (Lst L e.ix ↔ q < p) := by
  have hlen : p < ds.length := (List.getElem?_eq_some_iff.1 hd.at').1
  have h1 : ∀ (q : Nat) (e : DOp), ds[q]? = some e → e.heavy = true → e.flt = false → q < p → Lst L e.ix := by
    intro q e hq he hfe hqp
    have hpair := sh.pair q p e d hqp hq hd.at'
    cases hb : e.be d with
    | true => exact hd.yes _ hb
    | false =>
      have := (okPairF_be hpair hb hfe hf).1
      rw [hh, he] at this
      cases this
  have h2 : ∀ (q : Nat) (e : DOp), ds[q]? = some e → e.heavy = true → e.flt = false → p < q → ¬ Lst L e.ix := by
    intro q e hq he hfe hqp hl
    have hpair := sh.pair p q d e hqp hd.at' hq
    cases hb : d.be e with
    | true => exact hd.no (hs.cl q e hq hl _ hb)
    | false =>
      have := (okPairF_be hpair hb hf hfe).1
      rw [hh, he] at this
      cases this
  have hm : m ≤ p := by
    have := hs.hv p d hd.at' hh hf
    have h3 : ¬ p < m := fun h => hd.no (this.2 h)
    omega
  refine ⟨ht.flat' hm (by omega) fun q e hq1 hq2 hq3 => ?_, hm, fun q e hq he hfe hne => ⟨fun h => ?_, fun h => h1 q e hq he hfe h⟩⟩
  · have hfe := hno q e hq3 (.inl ⟨hq1, hq2⟩)
    refine ⟨hfe, ?_⟩
    cases he : e.heavy with
    | false => rfl
    | true =>
      have := (hs.hv q e hq3 he hfe).1 (h1 q e hq3 he hfe hq2)
      omega
  · rcases Nat.lt_trichotomy q p with h3 | h3 | h3
    · exact h3
    · exact absurd h3 hne
    · exact absurd h (h2 q e hq he hfe h3)
theorem DOp.flt_heavy_cls {d : DOp} (h : d.flt = true) : d.o.op.cls = .heavy := by
  rw [(DOp.flt_op h).1]
  rfl
theorem SimF.along (sh : Shape ds a c) (ht : TrF P ds a c base Ts Hs Vs) (hs : SimF X N n ds a c base Ts Hs Vs L m act w) {p : Nat} {d : DOp} (hd : Due ds L p d) (hh : d.load = true) (hno : NoF ds m p) : Along (Hs p) (Hs m) := by
  have hlen : p < ds.length := (List.getElem?_eq_some_iff.1 hd.at').1
  have hcl : d.o.op.cls = .load := by
    unfold DOp.load at hh
    simpa using hh
  have nhv : d.heavy = false := by
    unfold DOp.heavy
    rw [hcl]
    rfl
  have hf : d.flt = false := by
    cases hf : d.flt with
    | false => rfl
    | true => rw [DOp.flt_heavy_cls hf] at hcl; cases hcl
  rcases Nat.lt_or_ge m p with h | h
  · refine .inr (ht.grow' (Nat.le_of_lt h) (by omega) fun q e h1 h2 h3 => ⟨hno q e h3 (.inl ⟨h1, h2⟩), fun h4 => ?_⟩)
    have hfe := hno q e h3 (.inl ⟨h1, h2⟩)
    have hpair := sh.pair q p e d h2 h3 hd.at'
    cases hb : e.be d with
    | true =>
      have := (hs.hv q e h3 h4 hfe).1 (hd.yes _ hb)
      omega
    | false =>
      have := (okPairF_be hpair hb hfe hf).2.2.1
      rw [h4, hh] at this
      simpa using this
  · refine .inl (ht.grow' h hs.le fun q e h1 h2 h3 => ⟨hno q e h3 (.inr ⟨h1, h2⟩), fun h4 => ?_⟩)
    have hfe := hno q e h3 (.inr ⟨h1, h2⟩)
    have hqp : p < q := by
      rcases Nat.lt_or_ge p q with h5 | h5
      · exact h5
      · have : q = p := by omega
        subst this
        rw [hd.at'] at h3
        cases h3
        rw [nhv] at h4
        cases h4
    have hpair := sh.pair p q d e hqp hd.at' h3
    cases hb : d.be e with
    | true => exact absurd (hs.cl q e h3 ((hs.hv q e h3 h4 hfe).2 h2) _ hb) hd.no
    | false =>
      have := (okPairF_be hpair hb hf hfe).2.1
      rw [h4, hh] at this
      simpa using this
theorem SimF.alongP (sh : Shape ds a c) (ht : TrF P ds a c base Ts Hs Vs) (hs : SimF X N n ds a c base Ts Hs Vs L m act w) {p : Nat} {d : DOp} (hd : Due ds L p d) (hh : d.pur = true) (hf : d.flt = false) (hno : NoF ds m p) : ∃ G, Hs m = Hs p ++ G := by
  have hlen : p < ds.length := (List.getElem?_eq_some_iff.1 hd.at').1
  have nhv : d.heavy = false := by simp [DOp.heavy, hh]
  rcases Nat.lt_or_ge m p with h | h
  · refine ⟨[], ?_⟩
    rw [List.append_nil]
    refine (ht.flat' (Nat.le_of_lt h) (by omega) fun q e h1 h2 h3 => ⟨hno q e h3 (.inl ⟨h1, h2⟩), ?_⟩).symm
    have hfe := hno q e h3 (.inl ⟨h1, h2⟩)
    cases h4 : e.heavy with
    | false => rfl
    | true =>
      have hpair := sh.pair q p e d h2 h3 hd.at'
      cases hb : e.be d with
      | true =>
        have := (hs.hv q e h3 h4 hfe).1 (hd.yes _ hb)
        omega
      | false =>
        have := (okPairF_be hpair hb hfe hf).2.2.2.2
        rw [h4, hh] at this
        simp at this
  · refine ht.grow' h hs.le fun q e h1 h2 h3 => ⟨hno q e h3 (.inr ⟨h1, h2⟩), fun h4 => ?_⟩
    have hfe := hno q e h3 (.inr ⟨h1, h2⟩)
    have hqp : p < q := by
      rcases Nat.lt_or_ge p q with h5 | h5
      · exact h5
      · have : q = p := by omega
        subst this
        rw [hd.at'] at h3
        cases h3
        rw [nhv] at h4
        cases h4
    have hpair := sh.pair p q d e hqp hd.at' h3
    cases hb : d.be e with
    | true => exact absurd (hs.cl q e h3 ((hs.hv q e h3 h4 hfe).2 h2) _ hb) hd.no
    | false =>
      have := (okPairF_be hpair hb hf hfe).2.2.2.1
      rw [h4, hh] at this
      simpa using this
theorem SimF.stepAt {Q : Exit → Act → World → Prop} {K : Act → World → Prop} (sh : Shape ds a c) (ht : TrF P ds a c base Ts Hs Vs) (hs : SimF X N n ds a c base Ts Hs Vs L m act w) {p : Nat} {d : DOp} (hd : Due ds L p d) (hix : d.ix < n)
    {o : Oper} (ho : ops[d.ix]? = some o) (hok : okOper P N ops o d.o = true) (hf : d.flt = false)
    (hpos : d.mem = false ∨ (NoF ds m p ∧ ((p < a ∧ m ≤ a) ∨ (c ≤ p ∧ c ≤ m ∧ ∀ (q : Nat) (e : DOp), ds[q]? = some e → q < c → e.mem = true → Lst L e.ix))))
    (hk : ∀ m' a' w', SimF X N n ds a c base Ts Hs Vs (L.setIfInBounds d.ix true) m' a' w' → K a' w') : wpOpIn (Wd rd) 0 P ops Q d.ix K act w := by
  have hlen : p < ds.length := (List.getElem?_eq_some_iff.1 hd.at').1
  have hsz : d.ix < L.size := by rw [hs.size]; exact hix
  have other : ∀ (q : Nat) (e : DOp), ds[q]? = some e → q ≠ p → e.ix ≠ d.ix := by
    intro q e hq hne
    rcases Nat.lt_or_ge q p with h | h
    · exact okPairF_ix (sh.pair q p e d h hq hd.at')
    · exact fun e' => okPairF_ix (sh.pair p q d e (by omega) hd.at' hq) e'.symm
  have hdN : ∀ i, d.o.dst = some i → i < N := by
    intro i hi
    simp only [okOper, Bool.and_eq_true] at hok
    obtain ⟨⟨⟨g1, g2⟩, g3⟩, g4⟩ := hok
    have hdst : o.dst = d.o.dst := by simpa using g2
    rw [hdst, hi] at g3
    simpa [okDst] using g3
  have hcase : ∃ m', m' ≤ ds.length ∧ (∀ (q : Nat) (e : DOp), ds[q]? = some e → e.heavy = true → e.flt = false → (Lst (L.setIfInBounds d.ix true) e.ix ↔ q < m')) ∧
      ((d.heavy = false ∧ m' = m) ∨ (d.heavy = true ∧ m' = p + 1 ∧ Hs p = Hs m)) ∧ (m' ≤ a → m ≤ a) ∧ (m' ≤ a ∨ c ≤ m' ∧ ∀ (q : Nat) (e : DOp), ds[q]? = some e → q < c → e.mem = true → Lst L e.ix) := by
    cases hh : d.heavy with
    | false =>
      refine ⟨m, hs.le, fun q e hq he hfe => ?_, .inl ⟨rfl, rfl⟩, id, ?_⟩
      · have hne : q ≠ p := by
          rintro rfl
          rw [hd.at'] at hq
          cases hq
          rw [hh] at he
          cases he
        rw [Lst_set hsz, or_iff_left (other q e hq hne)]
        exact hs.hv q e hq he hfe
      · rcases hs.md with h | ⟨h, h5⟩
        · exact .inl h
        · exact .inr ⟨h, h5⟩
    | true =>
      rcases hpos with h0 | ⟨h0, h3⟩
      · rw [DOp.heavy_mem hh] at h0; cases h0
      obtain ⟨h1, hmp, h2⟩ := hs.heavy sh ht hd hh hf h0
      refine ⟨p + 1, by omega, fun q e hq he hfe => ?_, .inr ⟨rfl, rfl, h1⟩, by omega, h3.elim (fun h => .inl (by omega)) (fun h => .inr ⟨by omega, h.2.2⟩)⟩
      rw [Lst_set hsz]
      by_cases hqp : q = p
      · subst hqp
        rw [hd.at'] at hq
        cases hq
        simp
      · rw [or_iff_left (other q e hq hqp), h2 q e hq he hfe hqp]
        omega
  obtain ⟨m', hm', hhv, hcase, hma, hmd⟩ := hcase
  obtain ⟨M, hH, hK, hA, hV⟩ := hs.st
  refine op_carry (Hm' := Hs m') ho hok (ht.did p d hd.at' hf) hH hs.tsz (fun t hr => hs.read sh ht hd hV t hr) (fun hbs hsat hpur => ?_) (fun hst => ?_) fun x M' w' e1 e2 e3 => ?_
  · rcases hcase with ⟨h1, rfl⟩ | ⟨h1, rfl, h2⟩
    · have hst := (ht.did p d hd.at' hf).still h1
      by_cases hc1 : d.o.op.cls = .pure
      · obtain ⟨v, h3, h4⟩ := sor_pure (P := P) d.o.op hc1 ((Ts p).evals d.o.args) (Hs p) (fun v H => v = Vs p) (hsat _ rfl)
        exact h4 (Hs m') _ ⟨h3, rfl⟩
      · have hmem : d.mem = true := by unfold DOp.mem; simpa using hc1
        rcases hpos with h0 | ⟨h0, h3⟩
        · rw [hmem] at h0; cases h0
        rcases cls_light h1 with hc2 | hc2 | hc2
        · exact absurd hc2 hc1
        · obtain ⟨v, h3, h4⟩ := sor_load (P := P) d.o.op hc2 ((Ts p).evals d.o.args) (H := Hs p) (H2 := Hs m') (K := fun v H => v = Vs p) (hsat _ rfl) ((hs.along sh ht hd (by simp [DOp.load, hc2]) h0).same hbs)
          exact h4 _ ⟨h3, rfl⟩
        · obtain ⟨G, hG⟩ := hs.alongP sh ht hd hc2 hf h0
          rw [hG]
          exact (hpur hc2).2 G _ ⟨rfl, rfl⟩
    · rw [← h2]
      exact hsat _ ⟨rfl, rfl⟩
  · rcases hcase with ⟨_, rfl⟩ | ⟨_, rfl, h2⟩
    · rfl
    · rw [hst, h2]
  · have hle : M.le M' := hH.le e2
    refine hk m' _ _ ⟨by simp [hs.size], clAfter sh hs.size hs.cl hd hix, hhv, hm', ?_, by rw [put_defers]; exact hs.defers.keep hH e2, by cases d.o.dst <;> simp [Act.put, hs.tsz], M', e1, hK.trans e2, fun h => ?_, hV.after sh hs.tsz hs.size hd hix hdN hle e3⟩
    · rcases hmd with h | ⟨h, h4⟩
      · exact .inl h
      · exact .inr ⟨h, fun q e hq hqc hmem => (Lst_set hsz).2 (.inl (h4 q e hq hqc hmem))⟩
    · by_cases hca : c ≤ a
      · exact Ahead.none sh hca
      · have hma := hma h
        refine (hA hma).keep sh (fun i hi => ?_) hle e2 hsz fun q e hq hfe => other q e hq ?_
        · exact (List.getElem?_eq_some_iff.1 (ht.res m hma i hi)).1
        · rintro rfl
          rw [hd.at'] at hq
          cases hq
          rw [hf] at hfe
          cases hfe
theorem SimF.step {Q : Exit → Act → World → Prop} {K : Act → World → Prop} (sh : Shape ds a c) (ht : TrF P ds a c base Ts Hs Vs) (hx : X.H.length ≤ base) (hs : SimF X N n ds a c base Ts Hs Vs L m act w) {p : Nat} {d : DOp} (hd : Due ds L p d) (hix : d.ix < n)
    {o : Oper} (ho : ops[d.ix]? = some o) (hok : okOper P N ops o d.o = true)
    (hk : ∀ m' a' w', SimF X N n ds a c base Ts Hs Vs (L.setIfInBounds d.ix true) m' a' w' → K a' w') : wpOpIn (Wd rd) 0 P ops Q d.ix K act w := by
  cases hf : d.flt with
  | true => exact hs.stepFlt sh ht hx hd hix ho hok hf hk
  | false =>
    cases hm : d.mem with
    | false => exact hs.stepAt sh ht hd hix ho hok hf (.inl hm) hk
    | true =>
      have hnf : ¬ (a ≤ p ∧ p < c) := fun h => by
        have := (sh.fl p d hd.at').2 h
        rw [hf] at this
        cases this
      rcases Nat.lt_or_ge p a with hp | hp
      · have hac := sh.ac
        have hma : m ≤ a := by
          rcases hs.md with h | ⟨_, h⟩
          · exact h
          · exact absurd (h p d hd.at' (by omega) hm) hd.no
        refine hs.stepAt sh ht hd hix ho hok hf (.inr ⟨fun q e hq h => ?_, .inl ⟨hp, hma⟩⟩) hk
        cases hfe : e.flt with
        | false => rfl
        | true =>
          have := (sh.fl q e hq).1 hfe
          omega
      · have hpc : c ≤ p := by omega
        have hall : ∀ (q : Nat) (e : DOp), ds[q]? = some e → q < c → e.mem = true → Lst L e.ix := fun q e hq hqc hme => hd.yes _ (sh.full q p e d hqc hpc hq hd.at' hme hm)
        obtain ⟨m1, h1, hs1⟩ := hs.up sh ht hall
        refine hs1.stepAt sh ht hd hix ho hok hf (.inr ⟨fun q e hq h => ?_, .inr ⟨hpc, h1, hall⟩⟩) hk
        cases hfe : e.flt with
        | false => rfl
        | true =>
          have := (sh.fl q e hq).1 hfe
          omega
end
end Go.Proofs.Ytaiboicipbhmhaa.Ah
namespace Go.Proofs.Ytaiboicipbhmhaa.Ah
open Go
set_option linter.unusedVariables false
section
variable {P : Program} {rd : Option Nat} {X : Cx} {N : Nat} {ops : Array Oper} {ds : List DOp} {b c base : Nat} {Ts : Nat → Env} {Hs : Nat → Heap} {Vs : Nat → AV}
theorem wpAny_simF {Q : Exit → Act → World → Prop} (sh : Shape ds b c) (heach : okEach P N ops ds 0 ds = true) (hall : ∀ i, i < ops.size → ∃ (p : Nat) (d : DOp), ds[p]? = some d ∧ d.ix = i) (ht : TrF P ds b c base Ts Hs Vs) (hx : X.H.length ≤ base)
    (hQ : ∀ a w, Rel X N (Ts ds.length) (Hs ds.length) a w → Q .normal a w) :
    ∀ (fuel : Nat) (L : Array Bool) (m : Nat) (a : Act) (w : World), left L ops.size ≤ fuel → SimF X N ops.size ds b c base Ts Hs Vs L m a w → wpAnyIn (Wd rd) 0 P .any ops Q fuel L a w := by
  -- all is done
  have fin : ∀ (L : Array Bool) (m : Nat) (a : Act) (w : World), SimF X N ops.size ds b c base Ts Hs Vs L m a w → (∀ (p : Nat) (d : DOp), ds[p]? = some d → Lst L d.ix) → Q .normal a w := by
    intro L m a w hs hl
    obtain ⟨m, hmc, hs⟩ := hs.up sh ht fun p d hd _ _ => hl p d hd
    obtain ⟨M, hH, hK, _, hM⟩ := hs.st
    have hflat : Hs ds.length = Hs m := ht.flat' hs.le (Nat.le_refl _) fun q d h1 h2 h3 => by
      have hf : d.flt = false := by
        cases hf : d.flt with
        | false => rfl
        | true => have := (sh.fl q d h3).1 hf; omega
      refine ⟨hf, ?_⟩
      cases h : d.heavy with
      | false => rfl
      | true =>
        have := (hs.hv q d h3 h hf).1 (hl q d h3)
        omega
    refine hQ a w ⟨M, by rw [hflat]; exact hH, by rw [hflat]; exact hK, ⟨hs.tsz, fun t => ?_⟩, hs.defers⟩
    rcases ht.src t ds.length (Nat.le_refl _) with h | ⟨p, d, h1, h2, h3, h4⟩ | ⟨h1, h2⟩
    · rw [h]; simp [VR]
    · rw [h4]; exact (hM t).1 p d h2 (hl p d h2) h3
    · rw [h2]
      exact (hM t).2 fun p d h3 _ => h1 p d (List.getElem?_eq_some_iff.1 h3).1 h3
  -- where nothing is ready all is done
  have nil : ∀ (L : Array Bool), L.size = ops.size → Region.ready .any ops L = [] → ∀ (p : Nat) (d : DOp), ds[p]? = some d → Lst L d.ix := by
    intro L hsz hr p
    induction p using Nat.strongRecOn with
    | _ p ih =>
      intro d hd
      obtain ⟨o, h1, h2, h3, h4⟩ := okEach_at ds 0 heach p d hd
      by_cases hc : Lst L d.ix
      · exact hc
      · exfalso
        have hix : d.ix < ops.size := (Array.getElem?_eq_some_iff.1 h1).1
        have : d.ix ∈ Region.ready .any ops L := by
          rw [mem_ready]
          refine ⟨?_, o, h1, fun e he hb => ?_⟩
          · have : d.ix < L.size := by omega
            unfold Lst at hc
            simp only [Array.getD_eq_getD_getElem?, Array.getElem?_eq_getElem this, Option.getD_some] at hc ⊢
            simpa using hc
          · rcases h4 e.on (by unfold prs; exact List.mem_map.2 ⟨e, List.mem_filter.2 ⟨by simpa using he, hb⟩, rfl⟩) with h5 | ⟨q, c, h5, h6, h7⟩
            · simp at h5
            · have := ih q h5 c h6
              rw [h7] at this
              exact this
        rw [hr] at this
        cases this
  intro fuel
  induction fuel with
  | zero =>
    intro L m a w hl hs
    have hz := left_zero ops.size (Nat.le_zero.1 hl)
    have hd : ∀ (p : Nat) (d : DOp), ds[p]? = some d → Lst L d.ix := by
      intro p d hd
      obtain ⟨o, h1, _⟩ := okEach_at ds 0 heach p d hd
      exact hz _ (Array.getElem?_eq_some_iff.1 h1).1
    refine ⟨?_, fin L m a w hs hd⟩
    cases hr : Region.ready .any ops L with
    | nil => rfl
    | cons i r =>
      have hi : i ∈ Region.ready .any ops L := by rw [hr]; simp
      rw [mem_ready] at hi
      obtain ⟨h2, o, h4, _⟩ := hi
      have h1 : i < ops.size := (Array.getElem?_eq_some_iff.1 h4).1
      have h3 := hz i h1
      have : i < L.size := by rw [hs.size]; exact h1
      unfold Lst at h3
      simp only [Array.getD_eq_getD_getElem?, Array.getElem?_eq_getElem this, Option.getD_some] at h2 h3
      rw [h3] at h2
      cases h2
  | succ fuel ih =>
    intro L m a w hl hs
    refine ⟨fun hr => fin L m a w hs (nil L hs.size hr), fun i hi => ?_⟩
    rw [mem_ready] at hi
    obtain ⟨h2, o, h3, h4⟩ := hi
    have h1 : i < ops.size := (Array.getElem?_eq_some_iff.1 h3).1
    obtain ⟨p, d, hd, rfl⟩ := hall i h1
    obtain ⟨o', e1, e2, e3, e4⟩ := okEach_at ds 0 heach p d hd
    rw [h3] at e1
    cases e1
    have hno : ¬ Lst L d.ix := by
      have : d.ix < L.size := by rw [hs.size]; exact h1
      unfold Lst
      simp only [Array.getD_eq_getD_getElem?, Array.getElem?_eq_getElem this, Option.getD_some] at h2 ⊢
      rw [h2]
      simp
    have hprs : ∀ k ∈ prs o, Lst L k := by
      intro k hk
      unfold prs at hk
      obtain ⟨e, he, rfl⟩ := List.mem_map.1 hk
      obtain ⟨he1, he2⟩ := List.mem_filter.1 he
      exact h4 e (by simpa using he1) he2
    refine hs.step sh ht hx ⟨hd, hno, fun j hj => ?_⟩ h1 h3 e2 fun m' a' w' hs' => ih _ m' a' w' ?_ hs'
    · obtain ⟨k, hk, hjk⟩ := e3 j hj
      rcases hjk with rfl | hjk
      · exact hprs _ hk
      · obtain ⟨q, c, f1, f2, f3⟩ := ancOf_mem hjk
        exact hs.cl q c f1 (by rw [f2]; exact hprs k hk) j f3
    · have := left_set (j := d.ix) (by rw [hs.size]; exact h1) hno ops.size
      rw [if_pos h1] at this
      omega
end
def okDF (P : Program) (N : Nat) (ops : Array Oper) (A B C : List DOp) : Bool :=
  P.follows .mixedOrders && pairsOkF (A ++ (B ++ C)) && okEach P N ops (A ++ (B ++ C)) 0 (A ++ (B ++ C)) && (List.range ops.size).all (fun i => (A ++ (B ++ C)).any fun d => d.ix == i) &&
  B.all DOp.flt && A.all (fun d => !d.flt && (!d.heavy || d.ext)) && C.all (fun d => !d.flt) && C.all (fun e => !e.mem || (A.all (fun d => !d.mem || d.be e) && B.all (fun d => !d.mem || d.be e)))
def anam : List DOp → Nat → Env → Heap → (Env → Heap → Prop) → Prop
  | [], _, T, H, K => K T H
  | d :: B, base, T, H, K => anam B (base + 1) ((T.dels d.o.kill).put d.o.dst (.ptr base 0)) (H.set base (some ⟨d.zero, true⟩)) K
def nones : List DOp → Heap
  | [] => []
  | _ :: r => none :: nones r
def adrawF (P : Program) (A B C : List DOp) (T : Env) (H : Heap) (K : Env → Heap → Prop) : Prop :=
  adraw P A T (H ++ nones B) fun T1 H1 => anam B H.length T1 H1 fun T2 H2 => adraw P C T2 H2 K
theorem nones_eq : ∀ B, nones B = List.replicate B.length none
  | [] => rfl
  | d :: B => by simp only [nones, nones_eq B, List.length_cons, List.replicate_succ]
def spl {α : Type} (a : Nat) (f g : Nat → α) (p : Nat) : α := if p < a then f p else g (p - a)
structure TrG (P : Program) (ds : List DOp) (no : Nat → Option Nat) (Ts : Nat → Env) (Hs : Nat → Heap) (Vs : Nat → AV) : Prop where
  one : ∀ p d, ds[p]? = some d → match no p with
    | none => Did P d (Ts p) (Hs p) (Vs p) (Hs (p + 1)) ∧ (d.ext = true → ∃ G, Hs (p + 1) = Hs p ++ G)
    | some k => Vs p = .ptr k 0 ∧ Hs (p + 1) = (Hs p).set k (some ⟨d.zero, true⟩)
  nxt : ∀ p d, ds[p]? = some d → ∀ t, (Ts (p + 1)).get t = (((Ts p).dels d.o.kill).put d.o.dst (Vs p)).get t
theorem Tr.toG {P : Program} {ds : List DOp} {Ts : Nat → Env} {Hs : Nat → Heap} {Vs : Nat → AV} (h : Tr P ds Ts Hs Vs) : TrG P ds (fun _ => none) Ts Hs Vs :=
  ⟨fun p d hd => ⟨h.did p d hd, h.ext p d hd⟩, h.nxt⟩
theorem TrG.append {P : Program} {A B : List DOp} {no1 no2 : Nat → Option Nat} {Ts1 Ts2 : Nat → Env} {Hs1 Hs2 : Nat → Heap} {Vs1 Vs2 : Nat → AV} (h1 : TrG P A no1 Ts1 Hs1 Vs1) (h2 : TrG P B no2 Ts2 Hs2 Vs2)
    (hT : ∀ t, (Ts2 0).get t = (Ts1 A.length).get t) (hH : Hs2 0 = Hs1 A.length) : TrG P (A ++ B) (spl A.length no1 no2) (spl A.length Ts1 Ts2) (spl A.length Hs1 Hs2) (spl A.length Vs1 Vs2) := by
  have hs : ∀ p, p < A.length → spl A.length Hs1 Hs2 (p + 1) = Hs1 (p + 1) := by
    intro p hp
    unfold spl
    by_cases h : p + 1 < A.length
    · rw [if_pos h]
    · have : p + 1 = A.length := by omega
      rw [if_neg h, this, Nat.sub_self, hH]
  have hg : ∀ p, p < A.length → ∀ t, (spl A.length Ts1 Ts2 (p + 1)).get t = (Ts1 (p + 1)).get t := by
    intro p hp t
    unfold spl
    by_cases h : p + 1 < A.length
    · rw [if_pos h]
    · have : p + 1 = A.length := by omega
      rw [if_neg h, this, Nat.sub_self, hT]
  have pos : ∀ {α : Type} (f g : Nat → α) (p : Nat), p < A.length → spl A.length f g p = f p := fun f g p hp => by unfold spl; rw [if_pos hp]
  have neg : ∀ {α : Type} (f g : Nat → α) (p : Nat), A.length ≤ p → spl A.length f g p = g (p - A.length) := fun f g p hp => by unfold spl; rw [if_neg (by omega)]
  refine ⟨fun p d hd => ?_, fun p d hd t => ?_⟩
  · rcases Nat.lt_or_ge p A.length with hp | hp
    · rw [List.getElem?_append_left hp] at hd
      rw [pos no1 no2 p hp, pos Ts1 Ts2 p hp, pos Hs1 Hs2 p hp, pos Vs1 Vs2 p hp, hs p hp]
      exact h1.one p d hd
    · rw [List.getElem?_append_right hp] at hd
      rw [neg no1 no2 p hp, neg Ts1 Ts2 p hp, neg Hs1 Hs2 p hp, neg Vs1 Vs2 p hp, neg Hs1 Hs2 (p + 1) (by omega), show p + 1 - A.length = p - A.length + 1 by omega]
      exact h2.one _ d hd
  · rcases Nat.lt_or_ge p A.length with hp | hp
    · rw [List.getElem?_append_left hp] at hd
      rw [hg p hp, pos Ts1 Ts2 p hp, pos Vs1 Vs2 p hp]
      exact h1.nxt p d hd t
    · rw [List.getElem?_append_right hp] at hd
      rw [neg Ts1 Ts2 p hp, neg Vs1 Vs2 p hp, neg Ts1 Ts2 (p + 1) (by omega), show p + 1 - A.length = p - A.length + 1 by omega]
      exact h2.nxt _ d hd t
theorem anam_trace {P : Program} {K : Env → Heap → Prop} : ∀ (B : List DOp) (base : Nat) (T : Env) (H : Heap), anam B base T H K →
    ∃ Ts Hs Vs, (∀ t, (Ts 0).get t = T.get t) ∧ Hs 0 = H ∧ TrG P B (fun p => some (base + p)) Ts Hs Vs ∧ ∃ Tf, (∀ t, Tf.get t = (Ts B.length).get t) ∧ K Tf (Hs B.length) ∧ ∀ K' : Env → Heap → Prop, K' Tf (Hs B.length) → anam B base T H K'
  | [], base, T, H, h => ⟨fun _ => T, fun _ => H, fun _ => .any, fun _ => rfl, rfl, ⟨fun p d h => by simp at h, fun p d h => by simp at h⟩, T, fun _ => rfl, h, fun _ hk => hk⟩
  | d :: B, base, T, H, h => by
    obtain ⟨Ts, Hs, Vs, h1, h2, h3, Tf, h4, h5, h6⟩ := anam_trace (P := P) B (base + 1) _ _ h
    have hd : TrG P [d] (fun _ => some base) (fun p => if p = 0 then T else (T.dels d.o.kill).put d.o.dst (.ptr base 0)) (fun p => if p = 0 then H else H.set base (some ⟨d.zero, true⟩)) (fun _ => .ptr base 0) := by
      refine ⟨fun p e he => ?_, fun p e he t => ?_⟩
      · have hp : p = 0 := by
          have := (List.getElem?_eq_some_iff.1 he).1
          simp at this
          exact this
        subst hp
        simp at he
        subst he
        exact ⟨rfl, rfl⟩
      · have hp : p = 0 := by
          have := (List.getElem?_eq_some_iff.1 he).1
          simp at this
          exact this
        subst hp
        simp at he
        subst he
        rfl
    have hj := hd.append h3 (fun t => by rw [h1]; rfl) (by rw [h2]; rfl)
    have e : spl [d].length (fun _ => some base) (fun p => some (base + 1 + p)) = fun p => some (base + p) := by
      funext p
      unfold spl
      by_cases hp : p < [d].length
      · rw [if_pos hp]
        simp at hp
        subst hp
        rfl
      · rw [if_neg hp]
        simp at hp
        simp only [List.length_singleton]
        congr 1
        omega
    rw [e] at hj
    have sg : ∀ {α : Type} (f g : Nat → α), spl [d].length f g (d :: B).length = g B.length := fun f g => by
      unfold spl
      rw [if_neg (by simp)]
      simp
    refine ⟨_, _, _, fun t => rfl, rfl, hj, Tf, fun t => by rw [sg]; exact h4 t, by rw [sg]; exact h5, fun K' hK => ?_⟩
    rw [sg] at hK
    exact h6 K' hK
end Go.Proofs.Ytaiboicipbhmhaa.Ah
namespace Go.Proofs.Ytaiboicipbhmhaa.Ah
open Go
set_option linter.unusedVariables false
section
variable {P : Program} {rd : Option Nat} {X : Cx} {N : Nat} {ops : Array Oper} {A B C : List DOp}
theorem okDF_parts (h : okDF P N ops A B C = true) : P.follows .mixedOrders = true ∧ Shape (A ++ (B ++ C)) A.length (A.length + B.length) ∧ okEach P N ops (A ++ (B ++ C)) 0 (A ++ (B ++ C)) = true ∧ (∀ i, i < ops.size → ∃ (p : Nat) (d : DOp), (A ++ (B ++ C))[p]? = some d ∧ d.ix = i) ∧ (∀ d ∈ A, d.heavy = true → d.ext = true) := by
  unfold okDF at h
  simp only [Bool.and_eq_true, List.all_eq_true, List.mem_range, List.any_eq_true, beq_iff_eq] at h
  obtain ⟨⟨⟨⟨⟨⟨⟨h1, h2⟩, h3⟩, h4⟩, h5⟩, h6⟩, h7⟩, h8⟩ := h
  have hA : ∀ d ∈ A, d.flt = false ∧ (d.heavy = true → d.ext = true) := by
    intro d hd
    have := h6 d hd
    simp only [Bool.not_eq_true', Bool.or_eq_true] at this
    refine ⟨this.1, fun h => ?_⟩
    rcases this.2 with h9 | h9
    · rw [h] at h9; cases h9
    · exact h9
  have at' : ∀ (p : Nat) (d : DOp), (A ++ (B ++ C))[p]? = some d → (p < A.length ∧ d ∈ A) ∨ (A.length ≤ p ∧ p < A.length + B.length ∧ d ∈ B) ∨ (A.length + B.length ≤ p ∧ d ∈ C) := by
    intro p d hd
    rcases Nat.lt_or_ge p A.length with hp | hp
    · rw [List.getElem?_append_left hp] at hd
      exact .inl ⟨hp, List.mem_of_getElem? hd⟩
    · rw [List.getElem?_append_right hp] at hd
      rcases Nat.lt_or_ge (p - A.length) B.length with hq | hq
      · rw [List.getElem?_append_left hq] at hd
        exact .inr (.inl ⟨hp, by omega, List.mem_of_getElem? hd⟩)
      · rw [List.getElem?_append_right hq] at hd
        exact .inr (.inr ⟨by omega, List.mem_of_getElem? hd⟩)
  refine ⟨h1, ⟨pairsOkF_at _ h2, fun p d hd => ?_, fun p d hp hd hh => ?_, fun p q d e hp hq hd he hm hme => ?_, Nat.le_add_right _ _, by simp⟩, h3, fun i hi => ?_, fun d hd => (hA d hd).2⟩
  · rcases at' p d hd with ⟨g1, g2⟩ | ⟨g1, g2, g3⟩ | ⟨g1, g2⟩
    · rw [(hA d g2).1]
      simp
      omega
    · rw [h5 d g3]
      simp
      omega
    · have := h7 d g2
      simp only [Bool.not_eq_true'] at this
      rw [this]
      simp
      omega
  · rcases at' p d hd with ⟨g1, g2⟩ | ⟨g1, g2, g3⟩ | ⟨g1, g2⟩
    · exact (hA d g2).2 hh
    · omega
    · omega
  · have heC : e ∈ C := by
      rcases at' q e he with ⟨g1, g2⟩ | ⟨g1, g2, g3⟩ | ⟨g1, g2⟩
      · omega
      · omega
      · exact g2
    have := h8 e heC
    simp only [Bool.or_eq_true, Bool.not_eq_true', Bool.and_eq_true, List.all_eq_true] at this
    rcases this with h9 | ⟨h9, h10⟩
    · rw [hme] at h9; cases h9
    · rcases at' p d hd with ⟨g1, g2⟩ | ⟨g1, g2, g3⟩ | ⟨g1, g2⟩
      · rcases h9 d g2 with h11 | h11
        · rw [hm] at h11; cases h11
        · exact h11
      · rcases h10 d g3 with h11 | h11
        · rw [hm] at h11; cases h11
        · exact h11
      · omega
  · obtain ⟨d, hd, he⟩ := h4 i hi
    obtain ⟨p, hp⟩ := List.mem_iff_getElem?.1 hd
    exact ⟨p, d, hp, he⟩
theorem adrawF_trace {K : Env → Heap → Prop} {T : Env} {H : Heap} (hok : okDF P N ops A B C = true) (h : adrawF P A B C T H K) :
    ∃ Ts Hs Vs, (∀ t, (Ts 0).get t = T.get t) ∧ Hs 0 = H ++ nones B ∧ TrF P (A ++ (B ++ C)) A.length (A.length + B.length) H.length Ts Hs Vs ∧
      ∃ Tf, (∀ t, Tf.get t = (Ts (A ++ (B ++ C)).length).get t) ∧ K Tf (Hs (A ++ (B ++ C)).length) ∧ ∀ K' : Env → Heap → Prop, K' Tf (Hs (A ++ (B ++ C)).length) → adrawF P A B C T H K' := by
  obtain ⟨_, sh, _, _, hext⟩ := okDF_parts hok
  obtain ⟨Ts1, Hs1, Vs1, a1, a2, a3, Tf1, a4, a5, a6⟩ := adraw_trace A _ _ h
  obtain ⟨Ts2, Hs2, Vs2, b1, b2, b3, Tf2, b4, b5, b6⟩ := anam_trace (P := P) B _ _ _ a5
  obtain ⟨Ts3, Hs3, Vs3, c1, c2, c3, Tf3, c4, c5, c6⟩ := adraw_trace C _ _ b5
  have h23 := b3.append c3.toG (fun t => by rw [c1, b4]) (by rw [c2])
  have len0 : ∀ {α : Type} (n k : Nat) (f g : Nat → α), k = n + 0 → (n = 0 → g 0 = f 0) → spl n f g 0 = f 0 := by
    intro α n k f g _ hn
    unfold spl
    split
    · rfl
    · rw [Nat.zero_sub]
      exact hn (by omega)
  have T2 : ∀ t, (spl B.length Ts2 Ts3 0).get t = (Ts2 0).get t := by
    intro t
    unfold spl
    split
    · rfl
    · rename_i hb
      have : B.length = 0 := by omega
      rw [Nat.zero_sub, c1, b4, this]
  have H2 : spl B.length Hs2 Hs3 0 = Hs2 0 := by
    unfold spl
    split
    · rfl
    · rename_i hb
      have : B.length = 0 := by omega
      rw [Nat.zero_sub, c2, this]
  have h13 := a3.toG.append h23 (fun t => by rw [T2, b1, a4]) (by rw [H2, b2])
  generalize hTs : spl A.length Ts1 (spl B.length Ts2 Ts3) = Ts at h13
  generalize hHs : spl A.length Hs1 (spl B.length Hs2 Hs3) = Hs at h13
  generalize hVs : spl A.length Vs1 (spl B.length Vs2 Vs3) = Vs at h13
  have T1 : ∀ t, (Ts 0).get t = T.get t := by
    intro t
    rw [← hTs]
    unfold spl
    split
    · exact a1 t
    · rename_i hb
      have e : A.length = 0 := by omega
      have := T2 t
      unfold spl at this
      rw [Nat.zero_sub, this, b1, a4, e]
      exact a1 t
  have H1 : Hs 0 = H ++ nones B := by
    rw [← hHs]
    unfold spl
    split
    · exact a2
    · rename_i hb
      have e : A.length = 0 := by omega
      have := H2
      unfold spl at this
      rw [Nat.zero_sub, this, b2, e]
      exact a2
  have fin : ∀ {α : Type} (f1 f2 f3 : Nat → α), spl A.length f1 (spl B.length f2 f3) (A ++ (B ++ C)).length = f3 C.length := by
    intro α f1 f2 f3
    unfold spl
    rw [if_neg (by simp), if_neg (by simp)]
    rw [show (A ++ (B ++ C)).length - A.length - B.length = C.length by simp]
  have no : ∀ p d, (A ++ (B ++ C))[p]? = some d → (d.flt = false → (spl A.length (fun _ => none) (spl B.length (fun p => some (H.length + p)) (fun _ => none)) p : Option Nat) = none) ∧ (d.flt = true → (spl A.length (fun _ => none) (spl B.length (fun p => some (H.length + p)) (fun _ => none)) p : Option Nat) = some (H.length + (p - A.length))) := by
    intro p d hd
    have hfl := sh.fl p d hd
    constructor
    · intro hf
      rw [hf] at hfl
      unfold spl
      split
      · rfl
      · split
        · exact absurd (hfl.2 ⟨by omega, by omega⟩) (by simp)
        · rfl
    · intro hf
      have := hfl.1 hf
      unfold spl
      rw [if_neg (by omega), if_pos (by omega)]
  have gr : ∀ p, p ≤ A.length → ∃ G, Hs p = Hs 0 ++ G := by
    intro p
    induction p with
    | zero => exact fun _ => ⟨[], by simp⟩
    | succ p ih =>
      intro hp
      obtain ⟨G, hG⟩ := ih (by omega)
      obtain ⟨d, hd⟩ : ∃ d, A[p]? = some d := ⟨A[p], by simp⟩
      have hd' : (A ++ (B ++ C))[p]? = some d := by rw [List.getElem?_append_left (by omega)]; exact hd
      have hf : d.flt = false := by
        cases hf : d.flt with
        | false => rfl
        | true => have := (sh.fl p d hd').1 hf; omega
      have h1 := h13.one p d hd'
      rw [(no p d hd').1 hf] at h1
      simp only at h1
      cases hh : d.heavy with
      | false => exact ⟨G, by rw [h1.1.still hh, hG]⟩
      | true =>
        obtain ⟨G', hG'⟩ := h1.2 (hext d (List.mem_of_getElem? hd) hh)
        exact ⟨G ++ G', by rw [hG', hG, List.append_assoc]⟩
  refine ⟨Ts, Hs, Vs, T1, H1, ⟨fun p d hd hf => ?_, fun p d hd hf => ?_, fun p d hd hf => ?_, h13.nxt, fun p hp i hi => ?_⟩, Tf3, fun t => ?_, ?_, fun K' hK => ?_⟩
  · have := h13.one p d hd
    rw [(no p d hd).1 hf] at this
    exact this.1
  · have := h13.one p d hd
    rw [(no p d hd).2 hf] at this
    exact this
  · have := h13.one p d hd
    rw [(no p d hd).1 hf] at this
    exact this.2
  · obtain ⟨G, hG⟩ := gr p hp
    rw [hG, H1, nones_eq, List.getElem?_append_left (by simp; omega), List.getElem?_append_right (by omega), List.getElem?_replicate, if_pos (by omega)]
  · rw [← hTs, fin, c4]
  · rw [← hHs, fin]
    exact c5
  · rw [← hHs, fin] at hK
    exact a6 _ (b6 _ (c6 _ hK))
theorem draw_soundF {Q : Exit → Act → World → Prop} {K : Env → Heap → Prop} {id : Nat} (hQ : ∀ T H a w, K T H → Rel X N T H a w → Q .normal a w) (hok : okDF P N ops A B C = true) (T : Env) (H : Heap) (a : Act) (w : World)
    (h : adrawF P A B C T H K) (hr : Rel X N T H a w) : (Code.region id ops true).wpIn (Wd rd) 0 P Q a w := by
  obtain ⟨Ts, Hs, Vs, h1, h2, h3, Tf, h4, h5, _⟩ := adrawF_trace hok h
  obtain ⟨M, hH, hK, hT, hd⟩ := hr
  obtain ⟨hmix, sh, heach, hall, _⟩ := okDF_parts hok
  have hlen : X.H.length ≤ H.length := hK.len
  have nol : ∀ k, ¬ Lst (Array.replicate ops.size false) k := by
    intro k hl
    unfold Lst at hl
    simp only [Array.getD_eq_getD_getElem?, Array.getElem?_replicate] at hl
    split at hl <;> simp at hl
  refine wpIn_region_any hmix (wpAny_simF (X := X) sh heach hall h3 hlen (fun a w hr => hQ Tf _ a w h5 ?_) ops.size _ 0 a _ ?_ ?_)
  · obtain ⟨M, g1, g2, g3, g4⟩ := hr
    exact ⟨M, g1, g2, ⟨g3.size, fun i => by rw [h4]; exact g3.val i⟩, g4⟩
  · have : ∀ n, left (Array.replicate ops.size false) n ≤ n := by
      intro n
      induction n with
      | zero => simp [left]
      | succ n ih => simp only [left]; split <;> omega
    exact this _
  · refine ⟨by simp, fun p d _ hl => absurd hl (nol _), fun p d _ _ _ => ⟨fun hl => absurd hl (nol _), fun hl => by omega⟩, Nat.zero_le _, .inl (Nat.zero_le _), hd, hT.size, M, ?_, ?_, fun _ => ⟨fun p d _ _ hl => absurd hl (nol _), fun p d _ _ _ => hH.dom _ (by omega), fun p q d e l l' _ _ _ _ _ hl => ?_⟩, fun t => ⟨fun p d _ hl => absurd hl (nol _), fun _ => ?_⟩⟩
    · rw [h2, nones_eq]
      have := hH.keepNos B.length
      exact ⟨this.dom, this.row, this.sep⟩
    · rw [h2, nones_eq]
      have := hK.keepNos B.length
      exact ⟨this.os, this.tape, this.output, this.size, this.block, this.own, this.ext, this.len, this.loc⟩
    · rw [hH.dom _ (by omega)] at hl
      cases hl
    · rw [h1]; exact hT.val t
end
end Go.Proofs.Ytaiboicipbhmhaa.Ah
namespace Go.Proofs.Ytaiboicipbhmhaa.Ah
open Go
set_option linter.unusedVariables false
inductive Ex where
  | normal | exit (id : Nat) | ret
inductive SC where
  | skip
  | reg (ops : List SOper)
  | dreg (ops : List DOp)
  | freg (a b c : List DOp)
  | seq (a b : SC)
  | cond (c : SO) (a b : SC)
  | block (id : Nat) (b : SC)
  | loop (b : SC)
  | exit (id : Nat)
  | ret
  | kl (l : List Nat) (b : SC)
  | rfun (g : SO) (n : Nat) (ps : List Nat) (a b : SC)
def SC.flat : SC → Bool
  | .seq a b => a.flat && b.flat
  | .cond _ a b => a.flat && b.flat
  | .block _ b => b.flat
  | .loop b => b.flat
  | .kl _ b => b.flat
  | .rfun .. => false
  | _ => true
abbrev Post := Ex → Env → Heap → Prop
def Post.seq (K : Env → Heap → Prop) (Q : Post) : Post := fun e T H => match e with | .normal => K T H | e => Q e T H
def Post.block (id : Nat) (Q : Post) : Post := fun e T H => match e with | .exit i => if i = id then Q .normal T H else Q (.exit i) T H | e => Q e T H
def rounds (f : Env → Heap → Post → Prop) (Q : Post) : Nat → Env → Heap → Prop
  | 0, _, _ => False
  | n + 1, T, H => f T H (Post.seq (rounds f Q n) Q)
def okC (P : Program) (N : Nat) : Code → SC → Bool
  | c, .kl _ s => okC P N c s
  | .skip, .skip => true
  | .region _ ops false, .reg ss => okOpers P N ops ops.toList ss
  | .region _ ops true, .dreg ds => okD P N ops ds
  | .region _ ops true, .freg a b c => okDF P N ops a b c
  | .seq a b, .seq c d => okC P N a c && okC P N b d
  | .cond c a b, .cond c' a' b' => okArg c c' && okC P N a a' && okC P N b b'
  | .block i b, .block j b' => i == j && okC P N b b'
  | .loop b, .loop b' => okC P N b b'
  | .exit i, .exit j => i == j
  | .ret, .ret => true
  | .rangeFunc g ps a b, .rfun g' n qs sa sb => okArg g g' && n == N && ps.toList == qs && qs.all (fun p => decide (p < N)) && sa.flat && sb.flat && okC P N a sa && okC P N b sb
  | _, _ => false
def loopB (P : Program) (N : Nat) (ps : List Nat) (sa sb : SC) (T : Env) (rdy : Bool := true) : AV :=
  .loopo rdy (fun params assign body => params.toList = ps ∧ okC P N assign sa = true ∧ okC P N body sb = true) ((List.range N).map T.get)
def rfunK (P : Program) (f : FuncId) (vs : List AV) (H : Heap) (L : AV) (K : Heap → Prop) : Prop :=
  ∃ v H', ACall P f vs (H ++ [some ⟨[L], true⟩]) v H' ∧ blkAt H' H.length = some ⟨[L], true⟩ ∧ K (H'.set H.length none)
def ac (P : Program) : SC → Env → Heap → Post → Prop
  | .skip, T, H, Q => Q .normal T H
  | .reg ops, T, H, Q => aops P ops T H (Q .normal)
  | .dreg ops, T, H, Q => adraw P ops T H (Q .normal)
  | .freg a b c, T, H, Q => adrawF P a b c T H (Q .normal)
  | .seq a b, T, H, Q => ac P a T H (Post.seq (fun T' H' => ac P b T' H' Q) Q)
  | .cond c a b, T, H, Q => isB (T.eval c) fun t => (t = true → ac P a T H Q) ∧ (t = false → ac P b T H Q)
  | .block id b, T, H, Q => ac P b T H (Post.block id Q)
  | .loop b, T, H, Q => ∃ n, rounds (ac P b) Q n T H
  | .exit id, T, H, Q => Q (.exit id) T H
  | .ret, T, H, Q => Q .ret T H
  | .kl l b, T, H, Q => ac P b (T.dels l) H Q
  | .rfun g n ps a b, T, H, Q => isF (T.eval g) (fun f xs ys => hasBody P f = true ∧ rfunK P f (xs ++ [.yld H.length] ++ ys) H (loopB P n ps a b T) fun H' => Q .normal T H') fun _ => False
def Outs (X : Cx) (N : Nat) (Q : Post) : Exit → Act → World → Prop
  | .normal, a, w => ∃ T H, Rel X N T H a w ∧ Q .normal T H
  | .exit id, a, w => ∃ T H, Rel X N T H a w ∧ Q (.exit id) T H
  | .ret, a, w => ∃ T H, Rel X N T H a w ∧ Q .ret T H
  | _, _, _ => False
theorem TRel.dense {N : Nat} {M : Val} {T : Env} {tmps : Array Value} (h : TRel N M T tmps) : VRs M ((List.range N).map T.get) tmps.toList := by
  refine VRs.mk (by simp [h.size]) fun j v hv => ?_
  have hj : j < N := by
    rcases Nat.lt_or_ge j N with hj | hj
    · exact hj
    · rw [List.getElem?_eq_none (by simpa using hj)] at hv; cases hv
  rw [List.getElem?_map, List.getElem?_range hj] at hv
  simp only [Option.map_some, Option.some.injEq] at hv
  subst hv
  have hlt : j < tmps.size := by rw [h.size]; exact hj
  refine ⟨tmps.getD j undef, ?_, h.val j⟩
  simp [hlt]
theorem HRel.allocX {M : Val} {H : Heap} {w : World} (h : HRel M H w) (o : Obj) : HRel M H (w.alloc o) :=
  ⟨h.dom, fun i b hb => let ⟨l, h1, h2⟩ := h.row i b hb; ⟨l, h1, fun ht => (h2 ht).of_block (alloc_was w _ _ (h2 ht).lt)⟩, h.sep⟩
theorem Kept.allocX {X : Cx} {M : Val} {H : Heap} {w : World} (hk : Kept X M H w) (o : Obj) : Kept X M H (w.alloc o) :=
  ⟨hk.os, hk.tape, hk.output, by have := hk.size; simp; omega, fun n hn hno => (alloc_was w _ _ (Nat.lt_of_lt_of_le hn hk.size)).trans (hk.block n hn hno), hk.own, hk.ext, hk.len, hk.loc⟩
theorem HRel.drop {M : Val} {H : Heap} {w w' : World} (h : HRel M H w) {i : Nat} {b : Blk} {l : Loc} (hb : H[i]? = some (some b)) (ho : b.own = true) (hl : M i = some l) (hw : ∀ k, k ≠ l.blk → w'.heap[k]? = w.heap[k]?) : HRel M (H.set i none) w' := by
  have get : ∀ (k : Nat) (c : Blk), (H.set i (none : Option Blk))[k]? = some (some c) → k ≠ i ∧ H[k]? = some (some c) := by
    intro k c hc
    by_cases hk : k = i
    · subst hk
      rw [List.getElem?_set] at hc
      simp at hc
    · rw [List.getElem?_set_ne (by omega)] at hc
      exact ⟨hk, hc⟩
  refine ⟨fun k hk => h.dom k (by simpa using hk), fun k c hc => ?_, fun i1 i2 b1 b2 l1 l2 h1 ho1 h2 => h.sep i1 i2 b1 b2 l1 l2 (get _ _ h1).2 ho1 (get _ _ h2).2⟩
  obtain ⟨k1, k2⟩ := get k c hc
  obtain ⟨l', g1, g2⟩ := h.row k c k2
  refine ⟨l', g1, fun ht => (g2 ht).of_block (hw _ fun e => ?_)⟩
  exact h.sep i k b c l l' hb ho k2 ht (fun e => k1 e.symm) hl g1 e.symm
theorem Kept.turn {X : Cx} {M : Val} {H : Heap} {w w' : World} (hk : Kept X M H w) {i : Nat} {b : Blk} {l : Loc} (hb : H[i]? = some (some b)) (ho : b.own = true) (hl : M i = some l) (hw : ∀ k, k ≠ l.blk → w'.heap[k]? = w.heap[k]?) (hs : w.heap.size ≤ w'.heap.size) (h1 : w'.os = w.os) (h2 : w'.tape = w.tape) (h3 : w'.output = w.output) : Kept X M H w' :=
  ⟨h1.trans hk.os, h2.trans hk.tape, h3.trans hk.output, Nat.le_trans hk.size hs, fun n hn hno => (hw n fun e => by
    subst e
    rcases hk.own i b l hb ho hl with h4 | h4
    · omega
    · exact hno h4).trans (hk.block n hn hno), hk.own, hk.ext, hk.len, hk.loc⟩
theorem Marks.push {base : Nat} {w : World} {ds : List Deferred} (h : Marks base w ds) (hb : base ≤ w.heap.size) : Marks base (w.alloc (.deferred (some []))) (markOf w.heap.size :: ds) := by
  obtain ⟨rs, rfl, h2, h3⟩ := h
  refine ⟨w.heap.size :: rs, rfl, List.nodup_cons.2 ⟨fun hm => ?_, h2⟩, fun r hr => ?_⟩
  · have := (Array.getElem?_eq_some_iff.1 (h3 _ hm).2).1
    omega
  · rcases List.mem_cons.1 hr with rfl | hr
    · exact ⟨hb, heap_alloc_new w _⟩
    · exact ⟨(h3 r hr).1, (alloc_was w _ _ (Array.getElem?_eq_some_iff.1 (h3 r hr).2).1).trans (h3 r hr).2⟩
set_option maxHeartbeats 1000000 in
theorem rfun_sound {P : Program} {X : Cx} {N : Nat} {g0 : Operand} {g : SO} {ps0 : Array Tmp} {ps : List Nat} {ca cb : Code} {sa sb : SC} (h1 : okArg g0 g = true) (hps : ps0.toList = ps) (h7 : okC P N ca sa = true) (h8 : okC P N cb sb = true)
    {T : Env} {H H' : Heap} {Q : Post} {a : Act} {w : World} {f : FuncId} {xs ys : List AV} {v : AV} (hg : T.eval g = .fn (.func f) xs ys) (hb : hasBody P f = true)
    (hA : ACall P f (xs ++ [.yld H.length] ++ ys) (H ++ [some ⟨[loopB P N ps sa sb T], true⟩]) v H') (hl : blkAt H' H.length = some ⟨[loopB P N ps sa sb T], true⟩) (hk : Q .normal T (H'.set H.length none)) (hr : Rel X N T H a w) :
    (Code.rangeFunc g0 ps0 ca cb).wpIn (Wd none) 0 P (Outs X N Q) a w := by
  obtain ⟨M, hH, hK, hT, hd⟩ := hr
  refine wpIn_rangeFunc fun fn _ => ?_
  have hv := okArg_sound hT h1
  rw [hg] at hv
  simp only [VR] at hv
  obtain ⟨us, zs, he, hu, hz⟩ := hv
  generalize hw1 : w.alloc (.deferred (some [])) = w1
  generalize hw2 : w1.alloc (.loop { state := .ready, pending := none, fn, tmps := a.tmps, params := ps0, assign := ca, body := cb, defers := w.heap.size }) = w2
  have hsz1 : w1.heap.size = w.heap.size + 1 := by rw [← hw1]; simp
  have hH1 : HRel M H w1 := by rw [← hw1]; exact hH.allocX _
  have hK1 : Kept X M H w1 := by rw [← hw1]; exact hK.allocX _
  have hd1 : Marks X.w.heap.size w1 (markOf w.heap.size :: a.defers) := by rw [← hw1]; exact hd.push hK.size
  have hle : M.le (M.put H.length ⟨w1.heap.size, 0, 0, true⟩) := Val.le_put (hH.dom _ (Nat.le_refl _))
  have hH2 : HRel (M.put H.length ⟨w1.heap.size, 0, 0, true⟩) (H ++ [some ⟨[loopB P N ps sa sb T], true⟩]) w2 := by
    rw [← hw2]
    refine hH1.allocO _ _ ?_
    unfold ObjR loopB
    exact ⟨_, _, a.tmps.toList, _, _, _, heap_alloc_new w1 _, ⟨hps, h7, h8⟩, VRs.mono hle _ _ hT.dense⟩
  have hK2 : Kept X (M.put H.length ⟨w1.heap.size, 0, 0, true⟩) (H ++ [some ⟨[loopB P N ps sa sb T], true⟩]) w2 := by
    rw [← hw2]
    exact hK1.alloc _ _ _ true
  have hd2 : Marks X.w.heap.size w2 (markOf w.heap.size :: a.defers) := by rw [← hw2]; exact hd1.alloc _
  have hob : (M.put H.length ⟨w1.heap.size, 0, 0, true⟩).ob H.length = some ⟨w1.heap.size, 0, 0, true⟩ := Val.ob_in (if_pos rfl) rfl
  have hargs : VRs (M.put H.length ⟨w1.heap.size, 0, 0, true⟩) (xs ++ [.yld H.length] ++ ys) (us ++ [.func (.yield (w.heap.size + 1)) #[] #[]] ++ zs) := by
    refine ((VRs.mono hle _ _ hu).append ?_).append (VRs.mono hle _ _ hz)
    simp only [VRs]
    refine ⟨_, [], rfl, ?_, rfl⟩
    simp only [VR]
    exact ⟨_, hob, by rw [hsz1]⟩
  have henter : (Instr.enterLoop fn a.tmps ps0 ca cb none).run P w = .ok (w.heap.size + 1, [{ target := .collected w.heap.size, args := #[] }]) w2 := by
    rw [run_enterLoop_outer, hw1, hw2]
  have hres : (resolve a.eval (rangeCall g0 (w.heap.size + 1)) 0).run P w2 = .ok { target := .fn (.func f) zs.toArray, args := us.toArray ++ #[Value.func (.yield (w.heap.size + 1)) #[] #[]] } w2 := by
    have hy : a.eval (.const (Value.func (.yield (w.heap.size + 1)) #[] #[])) = Value.func (.yield (w.heap.size + 1)) #[] #[] := rfl
    simp [resolve, he, hy, Deferred.ofValue]
  have harr : us.toArray ++ #[Value.func (.yield (w.heap.size + 1)) #[] #[]] ++ zs.toArray = (us ++ [Value.func (.yield (w.heap.size + 1)) #[] #[]] ++ zs).toArray := by simp
  have hinv : (invoke (.fn (.func f) zs.toArray) (us.toArray ++ #[Value.func (.yield (w.heap.size + 1)) #[] #[]])).run P w2 = .ok (.enter f (us ++ [Value.func (.yield (w.heap.size + 1)) #[] #[]] ++ zs).toArray) w2 := by
    rw [← harr]
    simp only [invoke]
    exact run_enter hb _ w2
  refine ⟨w.heap.size + 1, [markOf w.heap.size], w2, _, w2, f, (us ++ [Value.func (.yield (w.heap.size + 1)) #[] #[]] ++ zs).toArray, w2, henter, hres, fun _ _ => trivial, hinv, (fun e => by cases e), ?_⟩
  refine callsIn_wd ?_
  refine (hA _ w2 _ hH2 hargs).mono ?_
  rintro e w3 ⟨x, M3, rfl, g1, g2, g3⟩
  have hbl := blkAt_some hl
  have hM3 : M3 H.length = some ⟨w1.heap.size, 0, 0, true⟩ := by
    have := g2.ext H.length (by simp)
    rw [this]
    exact if_pos rfl
  have hobj := g1.obj hbl (.inr rfl) (Val.ob_in hM3 rfl)
  unfold ObjR loopB at hobj
  obtain ⟨d, fn', tmps, params, assign, body, k1, k2, k3⟩ := hobj
  have k1' : w3.heap[w.heap.size + 1]? = some (.loop { state := .ready, pending := none, fn := fn', tmps := List.toArray tmps, params := params, assign := assign, body := body, defers := d }) := by rw [← hsz1]; exact k1
  have hend := run_endLoop (P := P) k1' (by simp)
  refine ⟨none, _, hend, ?_⟩
  have hoth : ∀ k, k ≠ w1.heap.size → (w3.putObj (w.heap.size + 1) (.loop { state := .exhausted, pending := none, fn := fn', tmps := List.toArray tmps, params := params, assign := assign, body := body, defers := d })).heap[k]? = w3.heap[k]? := fun k hk => World.putObj_heap_other (by omega)
  refine ⟨T, _, ⟨M3, g1.drop hbl rfl hM3 hoth, (((hK2.trans g2).turn hbl rfl hM3 hoth (by simp) rfl rfl rfl).kill H.length), ?_, ?_⟩, hk⟩
  · exact (hT.mono hle).mono (hH2.le g2)
  · refine (hd2.keep hH2 g2).of_heap fun r hr => ?_
    rw [hoth r]
    · exact hr
    · rintro rfl
      rw [k1] at hr
      cases hr
theorem ac_sound {P : Program} {rd : Option Nat} {X : Cx} {N : Nat} : ∀ (c : Code) (s : SC), okC P N c s = true → (rd = none ∨ s.flat = true) → ∀ (T : Env) (H : Heap) (Q : Post) (a : Act) (w : World), ac P s T H Q → Rel X N T H a w → c.wpIn (Wd rd) 0 P (Outs X N Q) a w := by
  intro c s
  induction s generalizing c with
  | skip =>
    intro hok hrd T H Q a w h hr
    cases c <;> simp [okC] at hok
    exact wpIn_skip ⟨T, H, hr, h⟩
  | reg ops =>
    intro hok hrd T H Q a w h hr
    cases c <;> first | (simp [okC] at hok; done) | skip
    rename_i id os d
    cases d
    · simp only [okC] at hok
      exact wpIn_region_list (ops_sound (fun T H a w hk hr => ⟨T, H, hr, hk⟩) _ _ hok T H a w h hr)
    · simp [okC] at hok
  | dreg ops =>
    intro hok hrd T H Q a w h hr
    cases c <;> first | (simp [okC] at hok; done) | skip
    rename_i id os d
    cases d
    · simp [okC] at hok
    · simp only [okC] at hok
      exact draw_sound (fun T H a w hk hr => ⟨T, H, hr, hk⟩) hok T H a w h hr
  | freg A B C =>
    intro hok hrd T H Q a w h hr
    cases c <;> first | (simp [okC] at hok; done) | skip
    rename_i id os d
    cases d
    · simp [okC] at hok
    · simp only [okC] at hok
      exact draw_soundF (fun T H a w hk hr => ⟨T, H, hr, hk⟩) hok T H a w h hr
  | seq s1 s2 ih1 ih2 =>
    intro hok hrd T H Q a w h hr
    cases c <;> simp only [okC, Bool.false_eq_true, Bool.and_eq_true] at hok
    have hf1 : rd = none ∨ s1.flat = true := hrd.imp id fun h => by simp only [SC.flat, Bool.and_eq_true] at h; exact h.1
    have hf2 : rd = none ∨ s2.flat = true := hrd.imp id fun h => by simp only [SC.flat, Bool.and_eq_true] at h; exact h.2
    simp only [ac] at h
    refine wpIn_seq (wpIn_mono (ih1 _ hok.1 hf1 T H _ a w h hr) ?_)
    rintro e a' w' ho
    cases e <;> simp only [Outs, Post.seq] at ho <;> (try exact ho.elim)
    · obtain ⟨T', H', hr', hq⟩ := ho
      exact ih2 _ hok.2 hf2 T' H' Q a' w' hq hr'
    · exact ho
    · exact ho
  | cond x s1 s2 ih1 ih2 =>
    intro hok hrd T H Q a w h hr
    cases c <;> simp only [okC, Bool.false_eq_true, Bool.and_eq_true] at hok
    obtain ⟨⟨h1, h2⟩, h3⟩ := hok
    have hf1 : rd = none ∨ s1.flat = true := hrd.imp id fun h => by simp only [SC.flat, Bool.and_eq_true] at h; exact h.1
    have hf2 : rd = none ∨ s2.flat = true := hrd.imp id fun h => by simp only [SC.flat, Bool.and_eq_true] at h; exact h.2
    simp only [ac] at h
    obtain ⟨t, ht, h⟩ := isB_out h
    have hr' := hr
    obtain ⟨M, hH, hK, hT, hd⟩ := hr'
    have hv := okArg_sound hT h1
    rw [ht] at hv
    simp only [VR] at hv
    cases t
    · exact wpIn_cond_false hv (ih2 _ h3 hf2 T H Q a w (h.2 rfl) hr)
    · exact wpIn_cond_true hv (ih1 _ h2 hf1 T H Q a w (h.1 rfl) hr)
  | block id b ih =>
    intro hok hrd T H Q a w h hr
    cases c <;> simp only [okC, Bool.false_eq_true, Bool.and_eq_true, beq_iff_eq] at hok
    obtain ⟨rfl, h2⟩ := hok
    simp only [ac] at h
    refine wpIn_block (wpIn_mono (ih _ h2 (hrd.imp id fun h => by simpa only [SC.flat] using h) T H _ a w h hr) ?_)
    rintro e a' w' ho
    cases e <;> simp only [Outs, Post.block] at ho <;> (try exact ho.elim)
    · exact ho
    · rename_i id'
      obtain ⟨T', H', hr', hq⟩ := ho
      simp only [Exit.inBlock]
      split
      · rename_i he; subst he; rw [if_pos rfl] at hq; exact ⟨T', H', hr', hq⟩
      · rename_i he; rw [if_neg he] at hq; exact ⟨T', H', hr', hq⟩
    · exact ho
  | loop b ih =>
    intro hok hrd T H Q a w h hr
    cases c <;> simp only [okC, Bool.false_eq_true] at hok
    rename_i cb
    obtain ⟨n, h⟩ := h
    refine wpIn_loop_rounds n ?_
    induction n generalizing T H a w with
    | zero => exact h.elim
    | succ n ihn =>
      rw [roundsIn_succ]
      refine wpIn_mono (ih _ hok (hrd.imp id fun h => by simpa only [SC.flat] using h) T H _ a w h hr) ?_
      rintro e a' w' ho
      cases e <;> simp only [Outs, Post.seq] at ho <;> (try exact ho.elim)
      · obtain ⟨T', H', hr', hq⟩ := ho
        exact ihn T' H' a' w' hr' hq
      · exact ho
      · exact ho
  | exit id =>
    intro hok hrd T H Q a w h hr
    cases c <;> simp only [okC, Bool.false_eq_true, beq_iff_eq] at hok
    subst hok
    exact wpIn_exit ⟨T, H, hr, h⟩
  | ret =>
    intro hok hrd T H Q a w h hr
    cases c <;> simp only [okC, Bool.false_eq_true] at hok
    exact wpIn_ret ⟨T, H, hr, h⟩
  | kl l b ih =>
    intro hok hrd T H Q a w h hr
    have hok' : okC P N c b = true := by unfold okC at hok; cases c <;> exact hok
    simp only [ac] at h
    obtain ⟨M, hH, hK, hT, hd⟩ := hr
    exact ih c hok' (hrd.imp id fun h => by simpa only [SC.flat] using h) _ H Q a w h ⟨M, hH, hK, hT.dels l, hd⟩
  | rfun g n ps sa sb iha ihb =>
    intro hok hrd T H Q a w h hr
    rcases hrd with rfl | hrd
    · cases c <;> simp only [okC, Bool.false_eq_true, Bool.and_eq_true] at hok
      rename_i g0 ps0 ca cb
      obtain ⟨⟨⟨⟨⟨⟨⟨h1, h2⟩, h3⟩, h4⟩, h5⟩, h6⟩, h7⟩, h8⟩ := hok
      have hn : n = N := by simpa using h2
      subst hn
      have hps : ps0.toList = ps := by simpa using h3
      simp only [ac] at h
      rcases isF_out h with ⟨f, xs, ys, hg, hb, v, H', hA, hl, hk⟩ | ⟨_, _, h⟩
      · exact rfun_sound h1 hps h7 h8 hg hb hA hl hk hr
      · exact h.elim
    · simp [SC.flat] at hrd

mutual
def AV.ren (f : Nat → Nat) : AV → AV
  | .ptr b o => .ptr (f b) o
  | .sl b o n s c => .sl (f b) o n s c
  | .fn g xs ys => .fn g (AV.rens f xs) (AV.rens f ys)
  | .agg cs => .agg (AV.rens f cs)
  | .tup cs => .tup (AV.rens f cs)
  | .bool b => .bool b
  | .int k n => .int k n
  | .str s => .str s
  | .nilp => .nilp
  | .nils => .nils
  | .nilf => .nilf
  | .nilm => .nilm
  | .any => .any
  | .mapp b => .mapp (f b)
  | .yld b => .yld (f b)
  | .mapo ks vs => .mapo (AV.rens f ks) (AV.rens f vs)
  | .loopo rdy R vs => .loopo rdy R (AV.rens f vs)
def AV.rens (f : Nat → Nat) : List AV → List AV
  | [] => []
  | v :: vs => AV.ren f v :: AV.rens f vs
def AV.und (n : Nat) : AV → Prop
  | .ptr b _ => b < n
  | .sl b _ _ _ _ => b < n
  | .fn _ xs ys => AV.unds n xs ∧ AV.unds n ys
  | .agg cs => AV.unds n cs
  | .tup cs => AV.unds n cs
  | .mapp b => b < n
  | .yld b => b < n
  | .mapo ks vs => AV.unds n ks ∧ AV.unds n vs
  | .loopo _ _ vs => AV.unds n vs
  | _ => True
def AV.unds (n : Nat) : List AV → Prop
  | [] => True
  | v :: vs => AV.und n v ∧ AV.unds n vs
end
theorem Val.at_eq {M M' : Val} {i j : Nat} (h : M' i = M j) : M'.at i = M.at j := by unfold Val.at; rw [h]
theorem Val.ob_eq {M M' : Val} {i j : Nat} (h : M' i = M j) : M'.ob i = M.ob j := by unfold Val.ob; rw [h]
mutual
theorem VR.ren {M M' : Val} {f : Nat → Nat} {n : Nat} (h : ∀ i, i < n → M' i = M (f i)) : ∀ (v : AV) (x : Value), v.und n → VR M (v.ren f) x → VR M' v x
  | .ptr b o, x, hb, hv => by
    simp only [AV.und] at hb
    simp only [AV.ren, VR] at hv ⊢
    rw [Val.at_eq (h b hb)]
    exact hv
  | .sl b o m s c, x, hb, hv => by
    simp only [AV.und] at hb
    simp only [AV.ren, VR] at hv ⊢
    rw [Val.at_eq (h b hb)]
    exact hv
  | .fn g xs ys, x, hb, hv => by
    simp only [AV.und] at hb
    simp only [AV.ren, VR] at hv ⊢
    obtain ⟨us, vs, e, h1, h2⟩ := hv
    exact ⟨us, vs, e, VRs.ren h xs us hb.1 h1, VRs.ren h ys vs hb.2 h2⟩
  | .agg cs, x, hb, hv => by
    simp only [AV.und] at hb
    simp only [AV.ren, VR] at hv ⊢
    obtain ⟨us, e, h1⟩ := hv
    exact ⟨us, e, VRs.ren h cs us hb h1⟩
  | .tup cs, x, hb, hv => by
    simp only [AV.und] at hb
    simp only [AV.ren, VR] at hv ⊢
    obtain ⟨us, e, h1⟩ := hv
    exact ⟨us, e, VRs.ren h cs us hb h1⟩
  | .bool _, x, _, hv => by simpa [AV.ren, VR] using hv
  | .int _ _, x, _, hv => by simpa [AV.ren, VR] using hv
  | .str _, x, _, hv => by simpa [AV.ren, VR] using hv
  | .nilp, x, _, hv => by simpa [AV.ren, VR] using hv
  | .nils, x, _, hv => by simpa [AV.ren, VR] using hv
  | .nilf, x, _, hv => by simpa [AV.ren, VR] using hv
  | .nilm, x, _, hv => by simpa [AV.ren, VR] using hv
  | .any, x, _, hv => by simp [VR]
  | .mapp b, x, hb, hv => by
    simp only [AV.und] at hb
    simp only [AV.ren, VR] at hv ⊢
    rw [Val.ob_eq (h b hb)]
    exact hv
  | .yld b, x, hb, hv => by
    simp only [AV.und] at hb
    simp only [AV.ren, VR] at hv ⊢
    rw [Val.ob_eq (h b hb)]
    exact hv
  | .mapo _ _, x, _, hv => by simp [AV.ren, VR] at hv
  | .loopo _ _ _, x, _, hv => by simp [AV.ren, VR] at hv
theorem VRs.ren {M M' : Val} {f : Nat → Nat} {n : Nat} (h : ∀ i, i < n → M' i = M (f i)) : ∀ (vs : List AV) (xs : List Value), AV.unds n vs → VRs M (AV.rens f vs) xs → VRs M' vs xs
  | [], xs, _, hv => by simpa [AV.rens, VRs] using hv
  | v :: vs, xs, hb, hv => by
    simp only [AV.unds] at hb
    simp only [AV.rens, VRs] at hv ⊢
    obtain ⟨x, r, e, h1, h2⟩ := hv
    exact ⟨x, r, e, VR.ren h v x hb.1 h1, VRs.ren h vs r hb.2 h2⟩
end
theorem AV.rens_eq (f : Nat → Nat) (l : List AV) : AV.rens f l = l.map (AV.ren f) := by
  induction l with
  | nil => rfl
  | cons x r ih => simp [AV.rens, ih]
mutual
theorem VR.und {M : Val} {n : Nat} (h : ∀ i, n ≤ i → M i = none) : ∀ (v : AV) (x : Value), VR M v x → v.und n
  | .ptr b o, x, hv => by
    simp only [VR] at hv
    obtain ⟨l, e, _⟩ := hv
    have e := (Val.at_out e).1
    simp only [AV.und]
    rcases Nat.lt_or_ge b n with h1 | h1
    · exact h1
    · rw [h b h1] at e; cases e
  | .sl b o m s c, x, hv => by
    simp only [VR] at hv
    obtain ⟨l, e, _⟩ := hv
    have e := (Val.at_out e).1
    simp only [AV.und]
    rcases Nat.lt_or_ge b n with h1 | h1
    · exact h1
    · rw [h b h1] at e; cases e
  | .fn g xs ys, x, hv => by
    simp only [VR] at hv
    obtain ⟨us, vs, e, h1, h2⟩ := hv
    simp only [AV.und]
    exact ⟨VRs.und h xs us h1, VRs.und h ys vs h2⟩
  | .agg cs, x, hv => by
    simp only [VR] at hv
    obtain ⟨us, e, h1⟩ := hv
    simp only [AV.und]
    exact VRs.und h cs us h1
  | .tup cs, x, hv => by
    simp only [VR] at hv
    obtain ⟨us, e, h1⟩ := hv
    simp only [AV.und]
    exact VRs.und h cs us h1
  | .bool _, x, _ => by simp [AV.und]
  | .int _ _, x, _ => by simp [AV.und]
  | .str _, x, _ => by simp [AV.und]
  | .nilp, x, _ => by simp [AV.und]
  | .nils, x, _ => by simp [AV.und]
  | .nilf, x, _ => by simp [AV.und]
  | .nilm, x, _ => by simp [AV.und]
  | .any, x, _ => by simp [AV.und]
  | .mapp b, x, hv => by
    simp only [VR] at hv
    obtain ⟨l, e, _⟩ := hv
    have e := (Val.ob_out e).1
    simp only [AV.und]
    rcases Nat.lt_or_ge b n with h1 | h1
    · exact h1
    · rw [h b h1] at e; cases e
  | .yld b, x, hv => by
    simp only [VR] at hv
    obtain ⟨l, e, _⟩ := hv
    have e := (Val.ob_out e).1
    simp only [AV.und]
    rcases Nat.lt_or_ge b n with h1 | h1
    · exact h1
    · rw [h b h1] at e; cases e
  | .mapo _ _, x, hv => by simp [VR] at hv
  | .loopo _ _ _, x, hv => by simp [VR] at hv
theorem VRs.und {M : Val} {n : Nat} (h : ∀ i, n ≤ i → M i = none) : ∀ (vs : List AV) (xs : List Value), VRs M vs xs → AV.unds n vs
  | [], xs, _ => by simp [AV.unds]
  | v :: vs, xs, hv => by
    simp only [VRs] at hv
    obtain ⟨x, r, e, h1, h2⟩ := hv
    simp only [AV.unds]
    exact ⟨VR.und h v x h1, VRs.und h vs r h2⟩
end
mutual
theorem AV.und_mono {n m : Nat} (h : n ≤ m) : ∀ (v : AV), v.und n → v.und m
  | .ptr b o, hv => by simp only [AV.und] at hv ⊢; omega
  | .sl b o _ s c, hv => by simp only [AV.und] at hv ⊢; omega
  | .fn g xs ys, hv => by simp only [AV.und] at hv ⊢; exact ⟨AV.unds_mono h xs hv.1, AV.unds_mono h ys hv.2⟩
  | .agg cs, hv => by simp only [AV.und] at hv ⊢; exact AV.unds_mono h cs hv
  | .tup cs, hv => by simp only [AV.und] at hv ⊢; exact AV.unds_mono h cs hv
  | .bool _, _ => by simp [AV.und]
  | .int _ _, _ => by simp [AV.und]
  | .str _, _ => by simp [AV.und]
  | .nilp, _ => by simp [AV.und]
  | .nils, _ => by simp [AV.und]
  | .nilf, _ => by simp [AV.und]
  | .nilm, _ => by simp [AV.und]
  | .any, _ => by simp [AV.und]
  | .mapp b, hv => by simp only [AV.und] at hv ⊢; omega
  | .yld b, hv => by simp only [AV.und] at hv ⊢; omega
  | .mapo ks vs, hv => by simp only [AV.und] at hv ⊢; exact ⟨AV.unds_mono h ks hv.1, AV.unds_mono h vs hv.2⟩
  | .loopo _ _ vs, hv => by simp only [AV.und] at hv ⊢; exact AV.unds_mono h vs hv
theorem AV.unds_mono {n m : Nat} (h : n ≤ m) : ∀ (vs : List AV), AV.unds n vs → AV.unds m vs
  | [], _ => by simp [AV.unds]
  | v :: vs, hv => by simp only [AV.unds] at hv ⊢; exact ⟨AV.und_mono h v hv.1, AV.unds_mono h vs hv.2⟩
end
mutual
theorem AV.ren_id {n : Nat} {f : Nat → Nat} (h : ∀ i, i < n → f i = i) : ∀ (v : AV), v.und n → v.ren f = v
  | .ptr b o, hv => by simp only [AV.und] at hv; simp only [AV.ren, h b hv]
  | .sl b o _ s c, hv => by simp only [AV.und] at hv; simp only [AV.ren, h b hv]
  | .fn g xs ys, hv => by simp only [AV.und] at hv; simp only [AV.ren, AV.rens_id h xs hv.1, AV.rens_id h ys hv.2]
  | .agg cs, hv => by simp only [AV.und] at hv; simp only [AV.ren, AV.rens_id h cs hv]
  | .tup cs, hv => by simp only [AV.und] at hv; simp only [AV.ren, AV.rens_id h cs hv]
  | .bool _, _ => rfl
  | .int _ _, _ => rfl
  | .str _, _ => rfl
  | .nilp, _ => rfl
  | .nils, _ => rfl
  | .nilf, _ => rfl
  | .nilm, _ => rfl
  | .any, _ => rfl
  | .mapp b, hv => by simp only [AV.und] at hv; simp only [AV.ren, h b hv]
  | .yld b, hv => by simp only [AV.und] at hv; simp only [AV.ren, h b hv]
  | .mapo ks vs, hv => by simp only [AV.und] at hv; simp only [AV.ren, AV.rens_id h ks hv.1, AV.rens_id h vs hv.2]
  | .loopo _ _ vs, hv => by simp only [AV.und] at hv; simp only [AV.ren, AV.rens_id h vs hv]
theorem AV.rens_id {n : Nat} {f : Nat → Nat} (h : ∀ i, i < n → f i = i) : ∀ (vs : List AV), AV.unds n vs → AV.rens f vs = vs
  | [], _ => rfl
  | v :: vs, hv => by simp only [AV.unds] at hv; simp only [AV.rens, AV.ren_id h v hv.1, AV.rens_id h vs hv.2]
end
theorem AV.unds_of_get {n : Nat} : ∀ {l : List AV}, (∀ (j : Nat) (v : AV), l[j]? = some v → v.und n) → AV.unds n l
  | [], _ => by simp [AV.unds]
  | x :: r, h => by
    simp only [AV.unds]
    exact ⟨h 0 x (by simp), AV.unds_of_get fun j v hv => h (j + 1) v (by simpa using hv)⟩
theorem HRel.und {M : Val} {H : Heap} {w : World} (h : HRel M H w) {i : Nat} {b : Blk} (hb : H[i]? = some (some b)) : AV.unds H.length b.cells := by
  by_cases hc : b.cells = []
  · rw [hc]; simp [AV.unds]
  obtain ⟨l, hM, hB⟩ := h.row i b hb
  have hB := hB (.inl hc)
  by_cases ho : l.obj = true
  · have h0 := hB.ob ho
    unfold ObjR at h0
    split at h0
    · rename_i hcs
      obtain ⟨es, c, h1, h2, h3⟩ := h0
      rw [hcs]
      simp only [AV.unds, AV.und]
      exact ⟨⟨VRs.und h.dom _ _ h2, VRs.und h.dom _ _ h3⟩, trivial⟩
    · rename_i hcs
      obtain ⟨d, fn, tmps, params, assign, body, h1, h2, h3⟩ := h0
      rw [hcs]
      simp only [AV.unds, AV.und]
      exact ⟨VRs.und h.dom _ _ h3, trivial⟩
    · rename_i hcs
      exact absurd hcs hc
    · exact h0.elim
  obtain ⟨arr, elem, fr, h1, h2, h3, h4⟩ := hB.row (by simpa using ho)
  exact AV.unds_of_get fun j v hv => let ⟨x, _, hx⟩ := h3 j v hv; VR.und h.dom v x hx
structure GC (H : Heap) (Hf : Heap) (vf : AV) (H' : Heap) (v : AV) (f : Nat → Nat) : Prop where
  low : ∀ i, i < H.length → f i = i
  inj : ∀ i j, i < H'.length → j < H'.length → f i = f j → i = j
  le : H.length ≤ H'.length
  blks : ∀ (i : Nat) (b' : Blk), H'[i]? = some (some b') → (i < H.length ∧ H[i]? = some (some b') ∧ Hf[i]? = some (some b')) ∨ ∃ b : Blk, Hf[f i]? = some (some b) ∧ b.cells = AV.rens f b'.cells ∧ (b'.own = true → b.own = true) ∧ AV.unds H'.length b'.cells
  val : vf = v.ren f
  bel : v.und H'.length
theorem GC.blk {H Hf H' : Heap} {vf v : AV} {f : Nat → Nat} (h : GC H Hf vf H' v f) {M : Val} {w : World} (hH : HRel M H w) (i : Nat) (b' : Blk) (hi : H'[i]? = some (some b')) :
    ∃ b : Blk, Hf[f i]? = some (some b) ∧ b.cells = AV.rens f b'.cells ∧ (b'.own = true → b.own = true) ∧ AV.unds H'.length b'.cells := by
  rcases h.blks i b' hi with ⟨h1, h2, h3⟩ | h1
  · have hu := hH.und h2
    exact ⟨b', by rw [h.low i h1]; exact h3, (AV.rens_id h.low _ hu).symm, id, AV.unds_mono h.le _ hu⟩
  · exact h1
theorem AV.unds_get {n : Nat} : ∀ {l : List AV}, AV.unds n l → ∀ (j : Nat) (v : AV), l[j]? = some v → v.und n
  | [], _, j, v, h => by simp at h
  | x :: r, hb, 0, v, h => by simp only [AV.unds] at hb; simp at h; subst h; exact hb.1
  | x :: r, hb, j + 1, v, h => by simp only [AV.unds] at hb; exact AV.unds_get hb.2 j v (by simpa using h)
theorem Blk.tells_ren {f : Nat → Nat} {b b' : Blk} (h : b.cells = AV.rens f b'.cells) (ho : b'.own = true → b.own = true) (ht : b'.tells) : b.tells := by
  rcases ht with ht | ht
  · left
    intro e
    rw [h] at e
    cases hc : b'.cells with
    | nil => exact ht hc
    | cons v r => rw [hc] at e; simp [AV.rens] at e
  · exact .inr (ho ht)
theorem gc_sound {X : Cx} {M : Val} {Hf H' : Heap} {vf v : AV} {f : Nat → Nat} {w : World} {x : Value} (hX : HRel X.M X.H X.w) (hg : GC X.H Hf vf H' v f) (hH : HRel M Hf w) (hK : Kept X M Hf w) (hv : VR M vf x) :
    ∃ M', HRel M' H' w ∧ Kept X M' H' w ∧ VR M' v x := by
  refine ⟨fun i => if i < H'.length then M (f i) else none, ⟨fun i hi => by simp; omega, fun i b' hb' => ?_, fun i j b c l l' h1 ho h2 ht2 hij hl hl' => ?_⟩, ⟨hK.os, hK.tape, hK.output, hK.size, hK.block, fun i b l h1 ho hl => ?_, fun i hi => ?_, hg.le, fun i b l h1 ht hl => ?_⟩, ?_⟩
  · have hi : i < H'.length := by
      rcases Nat.lt_or_ge i H'.length with h | h
      · exact h
      · rw [List.getElem?_eq_none h] at hb'; cases hb'
    obtain ⟨b, h1, h2, h3, h4⟩ := hg.blk hX i b' hb'
    obtain ⟨l, hM, hB⟩ := hH.row _ b h1
    refine ⟨l, by simp [hi, hM], fun ht => ?_⟩
    have hB := hB (Blk.tells_ren h2 h3 ht)
    have hren : ∀ vs xs, AV.unds H'.length vs → VRs M (AV.rens f vs) xs → VRs (fun i => if i < H'.length then M (f i) else none) vs xs := fun vs xs => VRs.ren (M := M) (f := f) (n := H'.length) (fun k hk => by simp [hk]) vs xs
    by_cases ho : l.obj = true
    · refine BRel.ofOb ?_ ho
      have h0 := hB.ob ho
      unfold ObjR at h0 ⊢
      rw [h2] at h0
      generalize b'.cells = cs at h0 h4 ⊢
      match cs with
      | [] => simpa [AV.rens] using h0
      | [.mapo ks vs] =>
        simp only [AV.rens, AV.ren] at h0
        simp only [AV.unds, AV.und] at h4
        obtain ⟨es, c, k1, k2, k3⟩ := h0
        exact ⟨es, c, k1, hren _ _ h4.1.1 k2, hren _ _ h4.1.2 k3⟩
      | [.loopo rdy R vs] =>
        simp only [AV.rens, AV.ren] at h0
        simp only [AV.unds, AV.und] at h4
        obtain ⟨d, fn, tmps, params, assign, body, k1, k2, k3⟩ := h0
        exact ⟨d, fn, tmps, params, assign, body, k1, k2, hren _ _ h4.1 k3⟩
      | x :: y :: r => split at h0 <;> rename_i e <;> first | (simp [AV.rens] at e; done) | exact h0.elim
      | [.bool _] | [.int _ _] | [.str _] | [.nilp] | [.ptr _ _] | [.nils] | [.sl _ _ _ _ _] | [.nilf] | [.fn _ _ _] | [.nilm] | [.agg _] | [.tup _] | [.any] | [.mapp _] | [.yld _] => simp only [AV.rens, AV.ren] at h0
    refine .ofRow ?_ (by simpa using ho)
    obtain ⟨arr, elem, fr, e1, e2, e3, e4⟩ := hB.row (by simpa using ho)
    refine ⟨arr, elem, fr, e1, e2, fun j u hu => ?_, fun ho => e4 (h3 ho)⟩
    obtain ⟨y, hy, hvy⟩ := e3 j (u.ren f) (by rw [h2, AV.rens_eq]; simp [hu])
    refine ⟨y, hy, VR.ren (M := M) (f := f) (n := H'.length) (fun k hk => by simp [hk]) u y (AV.unds_get h4 j u hu) hvy⟩
  · have hi : ∀ (i : Nat) (b : Blk), H'[i]? = some (some b) → i < H'.length := by
      intro i b hb
      rcases Nat.lt_or_ge i H'.length with h | h
      · exact h
      · rw [List.getElem?_eq_none h] at hb; cases hb
    obtain ⟨b1, g1, _, g3, _⟩ := hg.blk hX i b h1
    obtain ⟨b2, k1, k2, k3, _⟩ := hg.blk hX j c h2
    rw [if_pos (hi i b h1)] at hl
    rw [if_pos (hi j c h2)] at hl'
    exact hH.sep _ _ b1 b2 l l' g1 (g3 ho) k1 (Blk.tells_ren k2 k3 ht2) (fun e => hij (hg.inj i j (hi i b h1) (hi j c h2) e)) hl hl'
  · have hi : i < H'.length := by
      rcases Nat.lt_or_ge i H'.length with h | h
      · exact h
      · rw [List.getElem?_eq_none h] at h1; cases h1
    obtain ⟨b1, g1, _, g3, _⟩ := hg.blk hX i b h1
    rw [if_pos hi] at hl
    exact hK.own _ b1 l g1 (g3 ho) hl
  · have := hg.le
    rw [if_pos (by omega), hg.low i hi]
    exact hK.ext i hi
  · have hi : i < H'.length := by
      rcases Nat.lt_or_ge i H'.length with h | h
      · exact h
      · rw [List.getElem?_eq_none h] at h1; cases h1
    obtain ⟨b1, g1, g2, g3, _⟩ := hg.blk hX i b h1
    rw [if_pos hi] at hl
    exact hK.loc _ b1 l g1 (Blk.tells_ren g2 g3 ht) hl
  · refine VR.ren (M := M) (f := f) (n := H'.length) (fun k hk => by simp [hk]) v x hg.bel ?_
    rw [← hg.val]
    exact hv
inductive SR where
  | tmp (t : Nat)
  | cell1 (t : Nat)
  | celln (t n : Nat)
def resOne (T : Env) (H : Heap) : SR → Option AV
  | .tmp t => some (T.get t)
  | .cell1 t => match T.get t with | .ptr b o => (blkAt H b).bind fun k => k.cells[o]? | _ => none
  | .celln t n => match T.get t with | .ptr b o => (rd H b o n).map .agg | _ => none
def resAll (T : Env) (H : Heap) : List SR → Option (List AV)
  | [] => some []
  | r :: rs => match resOne T H r, resAll T H rs with | some v, some vs => some (v :: vs) | _, _ => none
def resVal (T : Env) (H : Heap) (rs : List SR) : Option AV :=
  match resAll T H rs with
  | some [v] => some v
  | some vs => some (.tup vs)
  | none => none
def okR (P : Program) : List ResultVar → List SR → Bool
  | [], [] => true
  | .tmp t :: rs, .tmp u :: us => t == u && okR P rs us
  | .cell a t :: rs, .cell1 u :: us => a == u && decide (aggT P t = some false) && okR P rs us
  | .cell a t :: rs, .celln u n :: us => a == u && decide (aggT P t = some true) && decide (sizeC P t = some n) && okR P rs us
  | _, _ => false
theorem res_sound {P : Program} {N : Nat} {M : Val} {T : Env} {H : Heap} {a : Act} {w : World} (hH : HRel M H w) (hT : TRel N M T a.tmps) : ∀ (rs : List ResultVar) (us : List SR) (vs : List AV), okR P rs us = true → resAll T H us = some vs →
    ∃ xs, VRs M vs xs ∧ ∀ g : ResultVar → Sem Value, (∀ t, g (.tmp t) = pure (a.tmps.getD t undef)) → (∀ p t, g (.cell p t) = do loadVar t (← asAddr (a.tmps.getD p undef))) → (rs.mapM g).run P w = .ok xs w
  | [], [], vs, _, h => by
    simp [resAll] at h
    subst h
    exact ⟨[], by simp [VRs], fun _ _ _ => rfl⟩
  | [], _ :: _, _, hok, _ => by simp [okR] at hok
  | .tmp _ :: _, [], _, hok, _ => by simp [okR] at hok
  | .cell _ _ :: _, [], _, hok, _ => by simp [okR] at hok
  | r :: rs, u :: us, vs, hok, h => by
    simp only [resAll] at h
    split at h
    · rename_i v vs' h1 h2
      cases h
      have key : ∃ x, (∀ g : ResultVar → Sem Value, (∀ t, g (.tmp t) = pure (a.tmps.getD t undef)) → (∀ p t, g (.cell p t) = do loadVar t (← asAddr (a.tmps.getD p undef))) → (g r).run P w = .ok x w) ∧ VR M v x ∧ okR P rs us = true := by
        cases r with
        | tmp t =>
          cases u <;> simp only [okR, Bool.and_eq_true, beq_iff_eq, Bool.false_eq_true] at hok
          obtain ⟨rfl, hok⟩ := hok
          simp only [resOne, Option.some.injEq] at h1
          subst h1
          exact ⟨_, fun g g1 _ => by rw [g1]; rfl, hT.val t, hok⟩
        | cell p t =>
          cases u <;> simp only [okR, Bool.and_eq_true, beq_iff_eq, decide_eq_true_eq, Bool.false_eq_true] at hok
          · obtain ⟨⟨rfl, hag⟩, hok⟩ := hok
            obtain ⟨d, d1, d2⟩ := aggT_spec hag
            simp only [resOne] at h1
            split at h1
            · rename_i b o hb
              obtain ⟨k, hk, hv⟩ := Option.bind_eq_some_iff.1 h1
              have hp := hT.val p
              rw [hb] at hp
              simp only [VR] at hp
              obtain ⟨l, hM, hp⟩ := hp
              obtain ⟨l', x, hM', hc, hvx⟩ := run_ld hH hk hv (by rw [hM]; rfl)
              rw [hM] at hM'
              cases hM'
              refine ⟨x, fun g _ g2 => ?_, hvx, hok⟩
              rw [g2, hp]
              simp [asAddr, loadVar, run_isAgg d1, d2, hc]
            · cases h1
          · obtain ⟨⟨⟨rfl, hag⟩, hn⟩, hok⟩ := hok
            obtain ⟨d, d1, d2⟩ := aggT_spec hag
            simp only [resOne] at h1
            split at h1
            · rename_i b o hb
              obtain ⟨cs, hr, rfl⟩ := Option.map_eq_some_iff.1 h1
              have hp := hT.val p
              rw [hb] at hp
              simp only [VR] at hp
              obtain ⟨l, hM, hp⟩ := hp
              obtain ⟨l', xs, hM', hrun, hvx, _⟩ := run_rd (P := P) hH hr (by rw [hM]; rfl)
              rw [hM] at hM'
              cases hM'
              refine ⟨.agg xs.toArray, fun g _ g2 => ?_, by simp only [VR]; exact ⟨xs, rfl, hvx⟩, hok⟩
              rw [g2, hp]
              simp [asAddr, loadVar, run_isAgg d1, d2, run_size hn, hrun w rfl]
            · cases h1
      obtain ⟨x, e1, e2, e3⟩ := key
      obtain ⟨xs, g2, g1⟩ := res_sound hH hT rs us vs' e3 h2
      refine ⟨x :: xs, by simp only [VRs]; exact ⟨x, xs, rfl, e2, g2⟩, fun g k1 k2 => ?_⟩
      rw [List.mapM_cons]
      simp only [Sem.run_bind, e1 g k1 k2, Result.andThen_ok, g1 g k1 k2]
      rfl
    · cases h
theorem resVal_sound {P : Program} {N : Nat} {M : Val} {T : Env} {H : Heap} {a : Act} {w : World} (hH : HRel M H w) (hT : TRel N M T a.tmps) {fn : Func} {us : List SR} {v : AV} (hok : okR P fn.results.toList us = true) (h : resVal T H us = some v) :
    ∃ x, (results fn a.tmps).run P w = .ok x w ∧ VR M v x := by
  unfold resVal at h
  cases hr : resAll T H us with
  | none => rw [hr] at h; cases h
  | some vs =>
    rw [hr] at h
    obtain ⟨xs, h2, h1⟩ := res_sound hH hT _ us vs hok hr
    have hl := h2.length
    have hrun : (results fn a.tmps).run P w = .ok (if hs : xs.toArray.size = 1 then xs.toArray[0] else .tuple xs.toArray) w := by
      unfold results
      rw [Array.mapM_eq_mapM_toList]
      simp only [Sem.run_bind, Sem.run_map]
      rw [h1 _ (fun _ => rfl) (fun _ _ => rfl)]
      rfl
    refine ⟨_, hrun, ?_⟩
    match vs, xs, h2, hl, h with
    | [v1], [x1], h2, hl, h =>
      simp at h
      subst h
      obtain ⟨x, hx, hv⟩ := VRs.one h2
      cases hx
      simpa using hv
    | [], [], h2, hl, h =>
      simp at h
      subst h
      simp only [VR]
      exact ⟨[], by simp, h2⟩
    | v1 :: v2 :: vs, x1 :: x2 :: xs, h2, hl, h =>
      simp at h
      subst h
      simp only [VR]
      exact ⟨x1 :: x2 :: xs, by simp, h2⟩

def argEnv : Nat → List AV → Env
  | _, [] => []
  | i, v :: vs => (i, v) :: argEnv (i + 1) vs
theorem argEnv_get : ∀ (vs : List AV) (i j : Nat), (argEnv i vs).get j = if i ≤ j then vs.getD (j - i) .any else .any
  | [], i, j => by simp [argEnv, Env.get]
  | v :: vs, i, j => by
    simp only [argEnv, Env.get]
    by_cases h : i = j
    · subst h; simp
    · rw [if_neg h, argEnv_get vs (i + 1) j]
      by_cases h2 : i ≤ j
      · rw [if_pos (by omega), if_pos h2]
        obtain ⟨k, hk⟩ : ∃ k, j - i = k + 1 := ⟨j - i - 1, by omega⟩
        rw [hk, show j - (i + 1) = k by omega]
        rfl
      · rw [if_neg (by omega), if_neg h2]
def Fin (H : Heap) (rs : List SR) (v : AV) (H' : Heap) : Post := fun e T Hf => (e = .normal ∨ e = .ret) ∧ ∃ vf f, resVal T Hf rs = some vf ∧ GC H Hf vf H' v f
theorem leaves_marks {P : Program} {fn : Func} {tmps : Array Value} {R : Ending → World → Prop} {X : Cx} {M : Val} {H : Heap} {ds : List Deferred} {w : World} (hd : Marks X.w.heap.size w ds) (hH : HRel M H w) (hK : Kept X M H w)
    (h : ∀ w', HRel M H w' → Kept X M H w' → ∃ v, (results fn tmps).run P w' = .ok v w' ∧ R (.returned v) w') : LeavesInM Fence.wide 0 P fn tmps R ds .returning w := by
  obtain ⟨rs, rfl, hn, hr⟩ := hd
  induction rs generalizing w with
  | nil => exact h w hH hK
  | cons r rs ih =>
    obtain ⟨h1, h2⟩ := hr r (by simp)
    rw [List.map_cons]
    refine ⟨by simp, .inl ⟨r, _, rfl, run_takeDeferred h2, ?_⟩⟩
    have hoth : ∀ k, k ≠ r → (w.putObj r (.deferred none)).heap[k]? = w.heap[k]? := fun k hk => World.putObj_heap_other hk
    refine ih (hH.other ⟨_, h2, rfl⟩ hoth) (hK.other h1 hoth (by simp) rfl rfl rfl) (List.nodup_cons.1 hn).2 fun k hk => ?_
    obtain ⟨h3, h4⟩ := hr k (by simp [hk])
    refine ⟨h3, (hoth k ?_).trans h4⟩
    rintro rfl
    exact (List.nodup_cons.1 hn).1 hk
theorem acall {P : Program} {f : FuncId} {fn : Func} {c : Code} {s : SC} {rs : List SR} (hf : P.funcs[f]? = some fn) (hc : fn.body = some c) (hs : okC P fn.ntmps c s = true) (hr : okR P fn.results.toList rs = true)
    {args : List AV} (hn : args.length ≤ fn.ntmps) {H : Heap} {v : AV} {H' : Heap} (h : ac P s (argEnv 0 args) H (Fin H rs v H')) : ACall P f args H v H' := by
  intro M w xs hH hv
  refine (callsIn_wide (n := 0)).1 (callsIn_of_wp_marks hf hc trivial ?_)
  have hl := hv.length
  have hrel : Rel ⟨w, M, H⟩ fn.ntmps (argEnv 0 args) H { tmps := xs.toArray ++ Array.replicate (fn.ntmps - xs.toArray.size) undef, defers := [] } w := by
    refine ⟨M, hH, Kept.refl M H w, ⟨by simp; omega, fun i => ?_⟩, Marks.nil _ _⟩
    rw [argEnv_get]
    simp only [Nat.zero_le, if_true, Nat.sub_zero]
    rcases Nat.lt_or_ge i args.length with hi | hi
    · obtain ⟨x, hx, hvx⟩ := hv.get i args[i] (by simp [hi])
      have h1 : args.getD i .any = args[i] := by simp [hi]
      rw [h1]
      have h2 : (xs.toArray ++ Array.replicate (fn.ntmps - xs.toArray.size) undef).getD i undef = x := by
        have : i < xs.length := by omega
        simp [Array.getElem?_append, this]
        have := List.getElem?_eq_some_iff.1 hx
        exact this.2
      rw [h2]
      exact hvx
    · have h1 : args.getD i .any = .any := by simp [hi]
      rw [h1]
      simp [VR]
  refine wpIn_mono (ac_sound (rd := none) c s hs (.inl rfl) _ H _ _ w h hrel) ?_
  rintro e a' w' ho
  have fin : ∀ e T Hf, Rel ⟨w, M, H⟩ fn.ntmps T Hf a' w' → Fin H rs v H' e T Hf → LeavesInM Fence.wide 0 P fn a'.tmps (fun e w' => ∃ x' M', e = .returned x' ∧ HRel M' H' w' ∧ Kept ⟨w, M, H⟩ M' H' w' ∧ VR M' v x') a'.defers .returning w' := by
    rintro e T Hf ⟨M1, h1, h2, h3, h4⟩ ⟨_, vf, f, hres, hgc⟩
    refine leaves_marks h4 h1 h2 fun w' h1 h2 => ?_
    obtain ⟨x, hx, hvx⟩ := resVal_sound h1 h3 hr hres
    obtain ⟨M', g1, g2, g3⟩ := gc_sound (X := ⟨w, M, H⟩) hH hgc h1 h2 hvx
    exact ⟨x, hx, x, M', rfl, g1, g2, g3⟩
  cases e with
  | normal =>
    obtain ⟨T, Hf, h1, h2⟩ := ho
    exact fin _ T Hf h1 h2
  | ret =>
    obtain ⟨T, Hf, h1, h2⟩ := ho
    exact fin _ T Hf h1 h2
  | exit id =>
    obtain ⟨T, Hf, h1, ⟨h2, _⟩⟩ := ho
    rcases h2 with h2 | h2 <;> cases h2
  | _ => exact ho.elim
theorem fin_same {H : Heap} {rs : List SR} {v : AV} {e : Ex} {T : Env} {Hf : Heap} (he : e = .normal ∨ e = .ret) (G : Heap) (hG : Hf = H ++ G) (hr : resVal T Hf rs = some v) (hv : v.und H.length) : Fin H rs v H e T Hf := by
  subst hG
  refine ⟨he, v, id, hr, fun _ _ => rfl, fun _ _ _ _ h => h, Nat.le_refl _, fun i b' hb => ?_, (AV.ren_id (n := H.length) (fun _ _ => rfl) v hv).symm, hv⟩
  have hi : i < H.length := by
    rcases Nat.lt_or_ge i H.length with h | h
    · exact h
    · rw [List.getElem?_eq_none h] at hb; cases hb
  exact .inl ⟨hi, hb, by rw [List.getElem?_append_left hi]; exact hb⟩
theorem fin_ret {H : Heap} {rs : List SR} {v : AV} {T : Env} {Hf : Heap} (G : Heap) (hG : Hf = H ++ G) (hr : resVal T Hf rs = some v) (hv : v.und H.length) : Fin H rs v H .ret T Hf := fin_same (.inr rfl) G hG hr hv
end Go.Proofs.Ytaiboicipbhmhaa.Ah
namespace Go.Proofs.Ytaiboicipbhmhaa.Ah
open Go
set_option linter.unusedVariables false

theorem aops_det {P : Program} {K : Env → Heap → Prop} : ∀ (os : List SOper) (T : Env) (H : Heap), aops P os T H K → ∃ T' H', K T' H' ∧ ∀ K' : Env → Heap → Prop, K' T' H' → aops P os T H K'
  | [], T, H, h => ⟨T, H, h, fun _ h => h⟩
  | o :: os, T, H, h => by
    unfold aops at h
    cases hg : o.guard with
    | none =>
      rw [hg] at h
      simp only at h
      obtain ⟨v, H1, h1, h2⟩ := R.det _ h
      obtain ⟨T', H', h3, h4⟩ := aops_det os _ _ h1
      refine ⟨T', H', h3, fun K' hk => ?_⟩
      unfold aops
      rw [hg]
      exact h2 _ (h4 K' hk)
    | some p =>
      obtain ⟨g, want⟩ := p
      rw [hg] at h
      simp only at h
      split at h
      · rename_i b hb
        by_cases hbw : b = want
        · obtain ⟨v, H1, h1, h2⟩ := R.det _ (h.1 hbw)
          obtain ⟨T', H', h3, h4⟩ := aops_det os _ _ h1
          refine ⟨T', H', h3, fun K' hk => ?_⟩
          unfold aops
          rw [hg]
          simp only [hb]
          exact ⟨fun _ => h2 _ (h4 K' hk), fun e => by rw [hbw] at e; cases want <;> cases e⟩
        · have hb2 : b = !want := by cases b <;> cases want <;> simp_all
          obtain ⟨T', H', h3, h4⟩ := aops_det os _ _ (h.2 hb2)
          refine ⟨T', H', h3, fun K' hk => ?_⟩
          unfold aops
          rw [hg]
          simp only [hb]
          exact ⟨fun e => absurd e hbw, fun _ => h4 K' hk⟩
      · rename_i hb
        obtain ⟨T', H', h3, h4⟩ := aops_det os _ _ h
        refine ⟨T', H', h3, fun K' hk => ?_⟩
        unfold aops
        rw [hg]
        simp only [hb]
        exact h4 K' hk
      · exact h.elim
theorem adraw_det {P : Program} {K : Env → Heap → Prop} (os : List DOp) (T : Env) (H : Heap) (h : adraw P os T H K) : ∃ T' H', K T' H' ∧ ∀ K' : Env → Heap → Prop, K' T' H' → adraw P os T H K' := by
  obtain ⟨Ts, Hs, Vs, _, _, _, Tf, _, h5, h6⟩ := adraw_trace os T H h
  exact ⟨Tf, _, h5, h6⟩
theorem anam_det {K : Env → Heap → Prop} : ∀ (B : List DOp) (base : Nat) (T : Env) (H : Heap), anam B base T H K → ∃ T' H', K T' H' ∧ ∀ K' : Env → Heap → Prop, K' T' H' → anam B base T H K'
  | [], _, T, H, h => ⟨T, H, h, fun _ h => h⟩
  | d :: B, base, T, H, h => anam_det B (base + 1) _ _ h
theorem adrawF_det {P : Program} {K : Env → Heap → Prop} (A B C : List DOp) (T : Env) (H : Heap) (h : adrawF P A B C T H K) : ∃ T' H', K T' H' ∧ ∀ K' : Env → Heap → Prop, K' T' H' → adrawF P A B C T H K' := by
  obtain ⟨T1, H1, h1, h2⟩ := adraw_det A T _ h
  obtain ⟨T2, H2, h3, h4⟩ := anam_det B _ _ _ h1
  obtain ⟨T3, H3, h5, h6⟩ := adraw_det C _ _ h3
  exact ⟨T3, H3, h5, fun K' hk => h2 _ (h4 _ (h6 _ hk))⟩
theorem ac_det {P : Program} : ∀ (s : SC) (T : Env) (H : Heap) (Q : Post), ac P s T H Q → ∃ e T' H', Q e T' H' ∧ ∀ Q' : Post, Q' e T' H' → ac P s T H Q' := by
  intro s
  induction s with
  | skip => exact fun T H Q h => ⟨_, T, H, h, fun _ h => h⟩
  | reg ops => intro T H Q h; obtain ⟨T', H', h1, h2⟩ := aops_det ops T H h; exact ⟨_, T', H', h1, fun Q' hq => h2 _ hq⟩
  | dreg ops => intro T H Q h; obtain ⟨T', H', h1, h2⟩ := adraw_det ops T H h; exact ⟨_, T', H', h1, fun Q' hq => h2 _ hq⟩
  | freg A B C => intro T H Q h; obtain ⟨T', H', h1, h2⟩ := adrawF_det A B C T H h; exact ⟨_, T', H', h1, fun Q' hq => h2 _ hq⟩
  | seq a b iha ihb =>
    intro T H Q h
    simp only [ac] at h
    obtain ⟨e, T1, H1, h1, h2⟩ := iha T H _ h
    cases e with
    | normal =>
      obtain ⟨e', T2, H2, h3, h4⟩ := ihb T1 H1 Q h1
      exact ⟨e', T2, H2, h3, fun Q' hq => by simp only [ac]; exact h2 _ (h4 Q' hq)⟩
    | exit id => exact ⟨_, T1, H1, h1, fun Q' hq => by simp only [ac]; exact h2 _ hq⟩
    | ret => exact ⟨_, T1, H1, h1, fun Q' hq => by simp only [ac]; exact h2 _ hq⟩
  | cond c a b iha ihb =>
    intro T H Q h
    simp only [ac] at h
    obtain ⟨t, ht, h⟩ := isB_out h
    cases t
    · obtain ⟨e, T1, H1, h1, h2⟩ := ihb T H Q (h.2 rfl)
      exact ⟨e, T1, H1, h1, fun Q' hq => by simp only [ac, ht, isB]; exact ⟨(fun e => by cases e), fun _ => h2 Q' hq⟩⟩
    · obtain ⟨e, T1, H1, h1, h2⟩ := iha T H Q (h.1 rfl)
      exact ⟨e, T1, H1, h1, fun Q' hq => by simp only [ac, ht, isB]; exact ⟨fun _ => h2 Q' hq, (fun e => by cases e)⟩⟩
  | block id b ih =>
    intro T H Q h
    simp only [ac] at h
    obtain ⟨e, T1, H1, h1, h2⟩ := ih T H _ h
    cases e with
    | normal => exact ⟨_, T1, H1, h1, fun Q' hq => by simp only [ac]; exact h2 _ hq⟩
    | exit i =>
      simp only [Post.block] at h1
      by_cases hi : i = id
      · rw [if_pos hi] at h1
        exact ⟨_, T1, H1, h1, fun Q' hq => by simp only [ac]; refine h2 _ ?_; simp only [Post.block]; rw [if_pos hi]; exact hq⟩
      · rw [if_neg hi] at h1
        exact ⟨_, T1, H1, h1, fun Q' hq => by simp only [ac]; refine h2 _ ?_; simp only [Post.block]; rw [if_neg hi]; exact hq⟩
    | ret => exact ⟨_, T1, H1, h1, fun Q' hq => by simp only [ac]; exact h2 _ hq⟩
  | loop b ih =>
    intro T H Q h
    simp only [ac] at h
    obtain ⟨n, h⟩ := h
    have key : ∀ n T H, rounds (ac P b) Q n T H → ∃ e T' H', Q e T' H' ∧ ∀ Q' : Post, Q' e T' H' → rounds (ac P b) Q' n T H := by
      intro n
      induction n with
      | zero => intro T H h; exact h.elim
      | succ n ihn =>
        intro T H h
        obtain ⟨e, T1, H1, h1, h2⟩ := ih T H _ h
        cases e with
        | normal =>
          obtain ⟨e', T2, H2, h3, h4⟩ := ihn T1 H1 h1
          exact ⟨e', T2, H2, h3, fun Q' hq => h2 _ (h4 Q' hq)⟩
        | exit id => exact ⟨_, T1, H1, h1, fun Q' hq => h2 _ hq⟩
        | ret => exact ⟨_, T1, H1, h1, fun Q' hq => h2 _ hq⟩
    obtain ⟨e, T', H', h1, h2⟩ := key n T H h
    exact ⟨e, T', H', h1, fun Q' hq => ⟨n, h2 Q' hq⟩⟩
  | exit id => exact fun T H Q h => ⟨_, T, H, h, fun _ h => h⟩
  | ret => exact fun T H Q h => ⟨_, T, H, h, fun _ h => h⟩
  | kl l b ih => intro T H Q h; obtain ⟨e, T1, H1, h1, h2⟩ := ih _ H Q h; exact ⟨e, T1, H1, h1, fun Q' hq => h2 Q' hq⟩
  | rfun g n ps a b _ _ =>
    intro T H Q h
    simp only [ac] at h
    rcases isF_out h with ⟨f, xs, ys, hg, hb, v, H', hA, hl, hk⟩ | ⟨_, _, h⟩
    · exact ⟨.normal, T, H'.set H.length none, hk, fun Q' hq => by simp only [ac, hg, isF]; exact ⟨hb, v, H', hA, hl, hq⟩⟩
    · exact h.elim
theorem ac_mono {P : Program} {s : SC} {T : Env} {H : Heap} {Q Q' : Post} (h : ac P s T H Q) (hq : ∀ e T H, Q e T H → Q' e T H) : ac P s T H Q' := by
  obtain ⟨e, T', H', h1, h2⟩ := ac_det s T H Q h
  exact h2 Q' (hq _ _ _ h1)

inductive Fr where
  | code (s : SC)
  | blk (id : Nat)
  | lp (s : SC)
  | nam (base : Nat) (b c : List DOp)
mutual
def acs (P : Program) : List Fr → Env → Heap → Post → Prop
  | [], T, H, Q => Q .normal T H
  | .code s :: k, T, H, Q => ac P s T H (fun e T H => match e with
    | .normal => acs P k T H Q
    | .exit id => leave P id k T H Q
    | .ret => Q .ret T H)
  | .blk _ :: k, T, H, Q => acs P k T H Q
  | .lp s :: k, T, H, Q => ∃ n, rounds (ac P s) (fun e T H => match e with
    | .normal => False
    | .exit id => leave P id k T H Q
    | .ret => Q .ret T H) n T H
  | .nam base b c :: k, T, H, Q => anam b base T H fun T H => adraw P c T H fun T H => acs P k T H Q
def leave (P : Program) (id : Nat) : List Fr → Env → Heap → Post → Prop
  | [], T, H, Q => Q (.exit id) T H
  | .code _ :: k, T, H, Q => leave P id k T H Q
  | .blk i :: k, T, H, Q => if i = id then acs P k T H Q else leave P id k T H Q
  | .lp _ :: k, T, H, Q => leave P id k T H Q
  | .nam _ _ _ :: k, T, H, Q => leave P id k T H Q
end
def aopsK (P : Program) (os : List SOper) (k : List Fr) (T : Env) (H : Heap) (Q : Post) : Prop := aops P os T H fun T H => acs P k T H Q
def drawK (P : Program) (os : List DOp) (k : List Fr) (T : Env) (H : Heap) (Q : Post) : Prop := adraw P os T H fun T H => acs P k T H Q
def condK (P : Program) (v : AV) (a b : SC) (k : List Fr) (T : Env) (H : Heap) (Q : Post) : Prop := isB v fun t => (t = true → acs P (.code a :: k) T H Q) ∧ (t = false → acs P (.code b :: k) T H Q)
def bindR (P : Program) (r : R) (os : List SOper) (d : Option Nat) (k : List Fr) (T : Env) (Q : Post) : Prop := r.sat P fun v H => aopsK P os k (T.put d v) H Q
def callB (P : Program) (f : FuncId) (vs : List AV) (H : Heap) (os : List SOper) (d : Option Nat) (k : List Fr) (T : Env) (Q : Post) : Prop := callK P f vs H fun v H => aopsK P os k (T.put d v) H Q
def yldB (P : Program) (b : Nat) (vs : List AV) (H : Heap) (os : List SOper) (d : Option Nat) (k : List Fr) (T : Env) (Q : Post) : Prop := ycallK P b vs H fun v H => aopsK P os k (T.put d v) H Q
def yldD (P : Program) (b : Nat) (vs : List AV) (H : Heap) (os : List DOp) (d : Option Nat) (k : List Fr) (T : Env) (Q : Post) : Prop := ycallK P b vs H fun v H => drawK P os k (T.put d v) H Q
def rfunG (P : Program) (v : AV) (n : Nat) (ps : List Nat) (a b : SC) (k : List Fr) (T : Env) (H : Heap) (Q : Post) : Prop :=
  isF v (fun f xs ys => hasBody P f = true ∧ rfunK P f (xs ++ [.yld H.length] ++ ys) H (loopB P n ps a b T) fun H' => acs P k T H' Q) fun _ => False
def guardK (P : Program) (v : AV) (g : Nat) (want : Bool) (o : SOper) (os : List SOper) (k : List Fr) (T : Env) (H : Heap) (Q : Post) : Prop :=
  match v with
  | .bool b => (b = want → bindR P (sor P o.op ((T.put (some g) (.bool want)).evals o.args) H) os o.dst k ((T.put (some g) (.bool want)).dels o.kill) Q) ∧
      (b = !want → aopsK P os k (((T.put (some g) (.bool (!want))).dels o.kill).put o.dst (.tup [])) H Q)
  | .tup [] => aopsK P os k ((T.dels o.kill).put o.dst (.tup [])) H Q
  | _ => False
def bindD (P : Program) (r : R) (os : List DOp) (d : Option Nat) (k : List Fr) (T : Env) (Q : Post) : Prop := r.sat P fun v H => drawK P os k (T.put d v) H Q
def bindX (P : Program) (r : R) (H0 : Heap) (os : List DOp) (d : Option Nat) (k : List Fr) (T : Env) (Q : Post) : Prop := r.sat P fun v H => (∃ G, H = H0 ++ G) ∧ drawK P os k (T.put d v) H Q
def callD (P : Program) (f : FuncId) (vs : List AV) (H : Heap) (os : List DOp) (d : Option Nat) (k : List Fr) (T : Env) (Q : Post) : Prop := callK P f vs H fun v H => drawK P os k (T.put d v) H Q
def callX (P : Program) (f : FuncId) (vs : List AV) (H H0 : Heap) (os : List DOp) (d : Option Nat) (k : List Fr) (T : Env) (Q : Post) : Prop := callK P f vs H fun v H => (∃ G, H = H0 ++ G) ∧ drawK P os k (T.put d v) H Q
def guardD (P : Program) (v : AV) (g : Nat) (want : Bool) (e : DOp) (os : List DOp) (k : List Fr) (T : Env) (H : Heap) (Q : Post) : Prop :=
  match v with
  | .bool b => (b = want → drawK P (e :: os) k (T.put (some g) (.bool want)) H Q) ∧
      (b = !want → drawK P os k (((T.put (some g) (.bool (!want))).dels e.o.kill).put e.o.dst (.tup [])) H Q)
  | .tup [] => drawK P os k ((T.dels e.o.kill).put e.o.dst (.tup [])) H Q
  | _ => False
section
variable {P : Program} {k : List Fr} {T : Env} {H : Heap} {Q : Post}
theorem acs_nil : acs P [] T H Q = Q .normal T H := by unfold acs; rfl
theorem acs_blk (id : Nat) : acs P (.blk id :: k) T H Q = acs P k T H Q := by conv => lhs; unfold acs
theorem acs_skip : acs P (.code .skip :: k) T H Q = acs P k T H Q := by conv => lhs; unfold acs; unfold ac
theorem acs_reg (ops : List SOper) : acs P (.code (.reg ops) :: k) T H Q = aopsK P ops k T H Q := by rw [acs, ac]; rfl
theorem acs_dreg (ops : List DOp) : acs P (.code (.dreg ops) :: k) T H Q = drawK P ops k T H Q := by rw [acs, ac]; rfl
theorem acs_freg (a b c : List DOp) : acs P (.code (.freg a b c) :: k) T H Q = drawK P a (.nam H.length b c :: k) T (H ++ nones b) Q := by
  rw [acs, ac]
  unfold drawK adrawF
  congr 1
theorem acs_nam0 (base : Nat) (c : List DOp) : acs P (.nam base [] c :: k) T H Q = drawK P c k T H Q := by
  rw [acs, anam]
  rfl
theorem acs_nam (base : Nat) (i n : Nat) (x y : Bool) (w : List Nat) (d : Option Nat) (z : List AV) (args : List SO) (gd : Option (Nat × Bool)) (kill : List Nat) (b c : List DOp) : acs P (.nam base (⟨i, n, x, y, ⟨d, .alloc z, args, gd, kill⟩, w⟩ :: b) c :: k) T H Q = acs P (.nam (base + 1) b c :: k) ((T.dels kill).put d (.ptr base 0)) (H.set base (some ⟨z, true⟩)) Q := by
  rw [acs, acs, anam]
  rfl
theorem acs_seq (a b : SC) : acs P (.code (.seq a b) :: k) T H Q = acs P (.code a :: .code b :: k) T H Q := by
  rw [acs, acs, ac]
  congr 1
  funext e T' H'
  cases e with
  | normal => simp only [Post.seq]; rw [acs]
  | exit id => simp only [Post.seq]; rw [leave]
  | ret => rfl
theorem acs_cond (c : SO) (a b : SC) : acs P (.code (.cond c a b) :: k) T H Q = condK P (T.eval c) a b k T H Q := by
  rw [acs, ac]
  unfold condK
  rw [acs, acs]
theorem acs_block (id : Nat) (b : SC) : acs P (.code (.block id b) :: k) T H Q = acs P (.code b :: .blk id :: k) T H Q := by
  rw [acs, acs, ac]
  congr 1
  funext e T' H'
  cases e with
  | normal => simp only [Post.block]; rw [acs_blk]
  | exit i =>
    simp only [Post.block]
    rw [leave]
    by_cases h : i = id
    · subst h; simp
    · rw [if_neg h, if_neg (fun e => h e.symm)]
  | ret => rfl
theorem acs_exit (id : Nat) : acs P (.code (.exit id) :: k) T H Q = leave P id k T H Q := by rw [acs, ac]
theorem acs_ret : acs P (.code .ret :: k) T H Q = Q .ret T H := by rw [acs, ac]
theorem acs_kl (l : List Nat) (b : SC) : acs P (.code (.kl l b) :: k) T H Q = acs P (.code b :: k) (T.dels l) H Q := by rw [acs, ac, acs]
theorem acs_rfun (g : SO) (n : Nat) (ps : List Nat) (a b : SC) : acs P (.code (.rfun g n ps a b) :: k) T H Q = rfunG P (T.eval g) n ps a b k T H Q := by rw [acs, ac]; rfl
theorem rfunG_fn (f : FuncId) (xs ys : List AV) (n : Nat) (ps : List Nat) (a b : SC) : rfunG P (.fn (.func f) xs ys) n ps a b k T H Q = (hasBody P f = true ∧ rfunK P f (xs ++ [.yld H.length] ++ ys) H (loopB P n ps a b T) fun H' => acs P k T H' Q) := rfl
theorem leave_nil (id : Nat) : leave P id [] T H Q = Q (.exit id) T H := by rw [leave]
theorem leave_code (id : Nat) (s : SC) : leave P id (.code s :: k) T H Q = leave P id k T H Q := by rw [leave]
theorem leave_lp (id : Nat) (s : SC) : leave P id (.lp s :: k) T H Q = leave P id k T H Q := by rw [leave]
theorem leave_blk (id i : Nat) : leave P id (.blk i :: k) T H Q = if i = id then acs P k T H Q else leave P id k T H Q := by rw [leave]
theorem rounds_agree {f : Env → Heap → Post → Prop} {Q Q' : Post} (h : ∀ e T H, e ≠ .normal → Q e T H = Q' e T H) : ∀ n T H, rounds f Q n T H = rounds f Q' n T H
  | 0, _, _ => rfl
  | n + 1, T, H => by
    simp only [rounds]
    congr 1
    funext e T' H'
    cases e with
    | normal => simp only [Post.seq]; exact rounds_agree h n T' H'
    | exit id => simp only [Post.seq]; exact h _ _ _ (by simp)
    | ret => simp only [Post.seq]; exact h _ _ _ (by simp)
theorem acs_loop (b : SC) : acs P (.code (.loop b) :: k) T H Q = acs P (.lp b :: k) T H Q := by
  rw [acs, acs, ac]
  congr 1
  funext n
  exact rounds_agree (fun e T H he => by cases e <;> first | exact absurd rfl he | rfl) n T H
theorem acs_lp (b : SC) : acs P (.lp b :: k) T H Q = acs P (.code b :: .lp b :: k) T H Q := by
  apply propext
  rw [acs, acs]
  constructor
  · rintro ⟨n, h⟩
    cases n with
    | zero => exact h.elim
    | succ n =>
      refine ac_mono h ?_
      intro e T' H' h'
      cases e with
      | normal => simp only [Post.seq] at h'; simp only; rw [acs]; exact ⟨n, h'⟩
      | exit id => simp only [Post.seq] at h'; simp only; rw [leave]; exact h'
      | ret => exact h'
  · intro h
    obtain ⟨e, T', H', h1, h2⟩ := ac_det _ _ _ _ h
    cases e with
    | normal =>
      simp only at h1
      rw [acs] at h1
      obtain ⟨n, h1⟩ := h1
      exact ⟨n + 1, h2 _ h1⟩
    | exit id =>
      simp only at h1
      rw [leave] at h1
      exact ⟨1, h2 _ h1⟩
    | ret => exact ⟨1, h2 _ h1⟩
theorem aopsK_nil : aopsK P [] k T H Q = acs P k T H Q := by unfold aopsK; rw [aops]
theorem aopsK_cons (d : Option Nat) (op : SOp) (args : List SO) (kill : List Nat) (os : List SOper) : aopsK P (⟨d, op, args, none, kill⟩ :: os) k T H Q = bindR P (sor P op (T.evals args) H) os d k (T.dels kill) Q := by
  unfold aopsK bindR aopsK
  rw [aops]
theorem aopsK_guard (d : Option Nat) (op : SOp) (args : List SO) (g : Nat) (want : Bool) (kill : List Nat) (os : List SOper) : aopsK P (⟨d, op, args, some (g, want), kill⟩ :: os) k T H Q = guardK P (T.get g) g want ⟨d, op, args, none, kill⟩ os k T H Q := by
  unfold aopsK guardK bindR aopsK
  rw [aops]
  all_goals rfl
theorem bindR_val (v : AV) (os : List SOper) (d : Option Nat) : bindR P (.val v H) os d k T Q = aopsK P os k (T.put d v) H Q := by unfold bindR; rw [R.sat]
theorem bindR_need (p : Prop) (r : R) (os : List SOper) (d : Option Nat) : bindR P (.need p r) os d k T Q = (p ∧ bindR P r os d k T Q) := by unfold bindR; rw [R.sat]
theorem bindR_br (c : Bool) (x y : R) (os : List SOper) (d : Option Nat) : bindR P (.br c x y) os d k T Q = ((c = true → bindR P x os d k T Q) ∧ (c = false → bindR P y os d k T Q)) := by unfold bindR; rw [R.sat]
theorem bindR_call (f : FuncId) (vs : List AV) (os : List SOper) (d : Option Nat) : bindR P (.call f vs H) os d k T Q = callB P f vs H os d k T Q := by unfold bindR; rw [R.sat]; rfl
theorem bindR_ycall (b : Nat) (vs : List AV) (os : List SOper) (d : Option Nat) : bindR P (.ycall b vs H) os d k T Q = yldB P b vs H os d k T Q := by unfold bindR; rw [R.sat]; rfl
theorem bindR_bad (os : List SOper) (d : Option Nat) : bindR P .bad os d k T Q = False := by unfold bindR; rw [R.sat]
theorem condK_bool (t : Bool) (a b : SC) : condK P (.bool t) a b k T H Q = ((t = true → acs P (.code a :: k) T H Q) ∧ (t = false → acs P (.code b :: k) T H Q)) := by unfold condK; rw [isB]
theorem guardK_bool (t : Bool) (g : Nat) (want : Bool) (d : Option Nat) (op : SOp) (args : List SO) (gd : Option (Nat × Bool)) (kill : List Nat) (os : List SOper) : guardK P (.bool t) g want ⟨d, op, args, gd, kill⟩ os k T H Q =
    ((t = want → bindR P (sor P op ((T.put (some g) (.bool want)).evals args) H) os d k ((T.put (some g) (.bool want)).dels kill) Q) ∧ (t = !want → aopsK P os k (((T.put (some g) (.bool (!want))).dels kill).put d (.tup [])) H Q)) := by unfold guardK; rfl
theorem guardK_tup (g : Nat) (want : Bool) (d : Option Nat) (op : SOp) (args : List SO) (gd : Option (Nat × Bool)) (kill : List Nat) (os : List SOper) : guardK P (.tup []) g want ⟨d, op, args, gd, kill⟩ os k T H Q = aopsK P os k ((T.dels kill).put d (.tup [])) H Q := by unfold guardK; rfl
theorem drawK_nil : drawK P [] k T H Q = acs P k T H Q := by unfold drawK; rw [adraw]
theorem drawK_cons (i n : Nat) (d : Option Nat) (op : SOp) (args : List SO) (kill : List Nat) (os : List DOp) : drawK P (⟨i, n, false, false, ⟨d, op, args, none, kill⟩, []⟩ :: os) k T H Q = bindD P (sor P op (T.evals args) H) os d k (T.dels kill) Q := by
  unfold drawK bindD drawK
  rw [adraw]
  simp [WatL]
theorem drawK_ext (i n : Nat) (d : Option Nat) (op : SOp) (args : List SO) (kill : List Nat) (os : List DOp) : drawK P (⟨i, n, true, false, ⟨d, op, args, none, kill⟩, []⟩ :: os) k T H Q = bindX P (sor P op (T.evals args) H) H os d k (T.dels kill) Q := by
  unfold drawK bindX drawK
  rw [adraw]
  simp [WatL]
def bindW (P : Program) (r : R) (T0 : Env) (H0 : Heap) (ws : List Nat) (os : List DOp) (d : Option Nat) (k : List Fr) (T : Env) (Q : Post) : Prop := r.sat P fun v H => WatL T0 H0 H ws ∧ drawK P os k (T.put d v) H Q
theorem drawK_wat (i n : Nat) (d : Option Nat) (op : SOp) (args : List SO) (kill : List Nat) (w : Nat) (ws : List Nat) (os : List DOp) : drawK P (⟨i, n, false, false, ⟨d, op, args, none, kill⟩, w :: ws⟩ :: os) k T H Q = bindW P (sor P op (T.evals args) H) T H (w :: ws) os d k (T.dels kill) Q := by
  unfold drawK bindW drawK
  rw [adraw]
  simp
theorem bindW_val (v : AV) (T0 : Env) (H0 : Heap) (ws : List Nat) (os : List DOp) (d : Option Nat) : bindW P (.val v H) T0 H0 ws os d k T Q = (WatL T0 H0 H ws ∧ drawK P os k (T.put d v) H Q) := by unfold bindW; rw [R.sat]
theorem bindW_need (p : Prop) (r : R) (T0 : Env) (H0 : Heap) (ws : List Nat) (os : List DOp) (d : Option Nat) : bindW P (.need p r) T0 H0 ws os d k T Q = (p ∧ bindW P r T0 H0 ws os d k T Q) := by unfold bindW; rw [R.sat]
theorem bindW_br (c : Bool) (x y : R) (T0 : Env) (H0 : Heap) (ws : List Nat) (os : List DOp) (d : Option Nat) : bindW P (.br c x y) T0 H0 ws os d k T Q = ((c = true → bindW P x T0 H0 ws os d k T Q) ∧ (c = false → bindW P y T0 H0 ws os d k T Q)) := by unfold bindW; rw [R.sat]
theorem WatL_nil (T : Env) (H' : Heap) : WatL T H H' [] = True := rfl
theorem WatL_cons (T : Env) (H' : Heap) (t : Nat) (r : List Nat) : WatL T H H' (t :: r) = ((isP (T.get t) fun b _ => blkAt H' b = blkAt H b) ∧ WatL T H H' r) := rfl
theorem isP_ptr (b o : Nat) (K : Nat → Nat → Prop) : isP (.ptr b o) K = K b o := rfl
theorem drawK_guard (i n : Nat) (x y : Bool) (w : List Nat) (d : Option Nat) (op : SOp) (args : List SO) (g : Nat) (want : Bool) (kill : List Nat) (os : List DOp) : drawK P (⟨i, n, x, y, ⟨d, op, args, some (g, want), kill⟩, w⟩ :: os) k T H Q = guardD P (T.get g) g want ⟨i, n, x, y, ⟨d, op, args, none, kill⟩, w⟩ os k T H Q := by
  unfold drawK guardD drawK
  rw [adraw]
  simp only
  cases hv : T.get g
  case bool b => simp only; rw [adraw]
  case tup l => cases l <;> rfl
  all_goals rfl
theorem bindD_val (v : AV) (os : List DOp) (d : Option Nat) : bindD P (.val v H) os d k T Q = drawK P os k (T.put d v) H Q := by unfold bindD; rw [R.sat]
theorem bindD_need (p : Prop) (r : R) (os : List DOp) (d : Option Nat) : bindD P (.need p r) os d k T Q = (p ∧ bindD P r os d k T Q) := by unfold bindD; rw [R.sat]
theorem bindD_br (c : Bool) (x y : R) (os : List DOp) (d : Option Nat) : bindD P (.br c x y) os d k T Q = ((c = true → bindD P x os d k T Q) ∧ (c = false → bindD P y os d k T Q)) := by unfold bindD; rw [R.sat]
theorem bindD_call (f : FuncId) (vs : List AV) (os : List DOp) (d : Option Nat) : bindD P (.call f vs H) os d k T Q = callD P f vs H os d k T Q := by unfold bindD; rw [R.sat]; rfl
theorem bindD_ycall (b : Nat) (vs : List AV) (os : List DOp) (d : Option Nat) : bindD P (.ycall b vs H) os d k T Q = yldD P b vs H os d k T Q := by unfold bindD; rw [R.sat]; rfl
theorem bindD_bad (os : List DOp) (d : Option Nat) : bindD P .bad os d k T Q = False := by unfold bindD; rw [R.sat]
theorem bindX_val (v : AV) (H0 : Heap) (os : List DOp) (d : Option Nat) : bindX P (.val v H) H0 os d k T Q = ((∃ G, H = H0 ++ G) ∧ drawK P os k (T.put d v) H Q) := by unfold bindX; rw [R.sat]
theorem bindX_need (p : Prop) (r : R) (H0 : Heap) (os : List DOp) (d : Option Nat) : bindX P (.need p r) H0 os d k T Q = (p ∧ bindX P r H0 os d k T Q) := by unfold bindX; rw [R.sat]
theorem bindX_br (c : Bool) (x y : R) (H0 : Heap) (os : List DOp) (d : Option Nat) : bindX P (.br c x y) H0 os d k T Q = ((c = true → bindX P x H0 os d k T Q) ∧ (c = false → bindX P y H0 os d k T Q)) := by unfold bindX; rw [R.sat]
theorem bindX_call (f : FuncId) (vs : List AV) (H0 : Heap) (os : List DOp) (d : Option Nat) : bindX P (.call f vs H) H0 os d k T Q = callX P f vs H H0 os d k T Q := by unfold bindX; rw [R.sat]; rfl
theorem guardD_bool (t : Bool) (g : Nat) (want : Bool) (i n : Nat) (x y : Bool) (w : List Nat) (d : Option Nat) (op : SOp) (args : List SO) (gd : Option (Nat × Bool)) (kill : List Nat) (os : List DOp) : guardD P (.bool t) g want ⟨i, n, x, y, ⟨d, op, args, gd, kill⟩, w⟩ os k T H Q =
    ((t = want → drawK P (⟨i, n, x, y, ⟨d, op, args, gd, kill⟩, w⟩ :: os) k (T.put (some g) (.bool want)) H Q) ∧ (t = !want → drawK P os k (((T.put (some g) (.bool (!want))).dels kill).put d (.tup [])) H Q)) := by unfold guardD; rfl
theorem guardD_tup (g : Nat) (want : Bool) (i n : Nat) (x y : Bool) (w : List Nat) (d : Option Nat) (op : SOp) (args : List SO) (gd : Option (Nat × Bool)) (kill : List Nat) (os : List DOp) : guardD P (.tup []) g want ⟨i, n, x, y, ⟨d, op, args, gd, kill⟩, w⟩ os k T H Q = drawK P os k ((T.dels kill).put d (.tup [])) H Q := by unfold guardD; rfl
def callP (P : Program) (f : FuncId) (vs : List AV) (H : Heap) (os : List DOp) (d : Option Nat) (k : List Fr) (T : Env) (Q : Post) : Prop := ∃ v, (∀ G, ACall P f vs (H ++ G) v (H ++ G)) ∧ drawK P os k (T.put d v) H Q
theorem drawK_pur (i n : Nat) (x : Bool) (d : Option Nat) (f : Nat) (args : List SO) (kill : List Nat) (os : List DOp) : drawK P (⟨i, n, x, true, ⟨d, .call f, args, none, kill⟩, []⟩ :: os) k T H Q = callP P f (T.evals args) H os d k (T.dels kill) Q := by
  apply propext
  constructor
  · intro h
    unfold drawK at h
    rw [adraw] at h
    simp only [sor, call_sat] at h
    obtain ⟨v, H', hA, ⟨⟨_, hp⟩, _⟩, hk⟩ := h
    obtain ⟨rfl, hpur⟩ := hp trivial
    refine ⟨v, fun G => ?_, hk⟩
    have h2 := hpur G (fun v' H2 => v' = v ∧ H2 = H' ++ G) ⟨rfl, rfl⟩
    simp only [sor, call_sat] at h2
    obtain ⟨v', H2, hA2, rfl, rfl⟩ := h2
    exact hA2
  · rintro ⟨v, h1, h2⟩
    unfold drawK
    rw [adraw]
    simp only [sor, call_sat]
    refine ⟨v, H, by simpa using h1 [], ⟨⟨fun _ => ⟨[], by simp⟩, fun _ => ⟨rfl, fun G K hk => ?_⟩⟩, trivial⟩, h2⟩
    simp only [sor, call_sat]
    exact ⟨v, _, h1 G, hk⟩
theorem callP_intro {f : FuncId} {vs : List AV} {os : List DOp} {d : Option Nat} {v : AV} (h : ∀ G, ACall P f vs (H ++ G) v (H ++ G)) (hk : drawK P os k (T.put d v) H Q) : callP P f vs H os d k T Q := ⟨v, h, hk⟩
theorem grows (G : Heap) : (∃ G', H ++ G = H ++ G') = True := by simp
theorem grows0 : (∃ G', H = H ++ G') = True := by simp
theorem callD_intro {f : FuncId} {vs : List AV} {os : List DOp} {d : Option Nat} {v : AV} {H' : Heap} (h : ACall P f vs H v H') (hk : drawK P os k (T.put d v) H' Q) : callD P f vs H os d k T Q := ⟨v, H', h, hk⟩
theorem callX_intro {f : FuncId} {vs : List AV} {os : List DOp} {d : Option Nat} {v : AV} {G : Heap} (h : ACall P f vs H v (H ++ G)) (hk : drawK P os k (T.put d v) (H ++ G) Q) : callX P f vs H H os d k T Q := ⟨v, _, h, ⟨G, rfl⟩, hk⟩
theorem callX_pure {f : FuncId} {vs : List AV} {os : List DOp} {d : Option Nat} {v : AV} (h : ACall P f vs H v H) (hk : drawK P os k (T.put d v) H Q) : callX P f vs H H os d k T Q := ⟨v, _, h, ⟨[], by simp⟩, hk⟩
theorem callB_intro {f : FuncId} {vs : List AV} {os : List SOper} {d : Option Nat} {v : AV} {H' : Heap} (h : ACall P f vs H v H') (hk : aopsK P os k (T.put d v) H' Q) : callB P f vs H os d k T Q := ⟨v, H', h, hk⟩
theorem acs_start {s : SC} (h : acs P [.code s] T H Q) : ac P s T H Q := by
  rw [acs] at h
  refine ac_mono h ?_
  intro e T' H' h'
  cases e with
  | normal => simp only at h'; rw [acs] at h'; exact h'
  | exit id => simp only at h'; rw [leave] at h'; exact h'
  | ret => exact h'
end
end Go.Proofs.Ytaiboicipbhmhaa.Ah
namespace Go.Proofs.Ytaiboicipbhmhaa.Ah
open Go
theorem blkAt_app (H G : Heap) (k : Nat) : blkAt (H ++ G) (H.length + k) = blkAt G k := by
  unfold blkAt
  rw [List.getElem?_append_right (by omega)]
  congr 2
  omega
theorem blkAt_app0 (H G : Heap) : blkAt (H ++ G) H.length = blkAt G 0 := blkAt_app H G 0
theorem blkAt_zero (x : Option Blk) (G : Heap) : blkAt (x :: G) 0 = x := rfl
theorem blkAt_succ (x : Option Blk) (G : Heap) (k : Nat) : blkAt (x :: G) (k + 1) = blkAt G k := rfl
theorem blkAt_lo {H : Heap} {p : Nat} (G : Heap) (h : p < H.length) : blkAt (H ++ G) p = blkAt H p := by
  unfold blkAt
  rw [List.getElem?_append_left h]
theorem set_app (H G : Heap) (k : Nat) (x : Option Blk) : (H ++ G).set (H.length + k) x = H ++ G.set k x := by
  rw [List.set_append_right _ _ (by omega)]
  congr 2
  omega
theorem set_app0 (H G : Heap) (x : Option Blk) : (H ++ G).set H.length x = H ++ G.set 0 x := set_app H G 0 x
theorem i64_in (n : Int) (h : -9223372036854775808 ≤ n ∧ n ≤ 9223372036854775807) : IntKind.i64.wrap n = n := IntWalk.i64_in n h
theorem u32_in (n : Int) (h : 0 ≤ n ∧ n ≤ 4294967295) : IntKind.u32.wrap n = n := IntWalk.u32_in n h
theorem u8_in (n : Int) (h : 0 ≤ n ∧ n ≤ 255) : IntKind.u8.wrap n = n := IntWalk.u8_in n h
def imin (a b : Int) : Int := if b < a then b else a
def imax (a b : Int) : Int := if b > a then b else a
theorem imin_eq (a b : Int) : (if b < a then b else a) = imin a b := rfl
theorem imax_eq (a b : Int) : (if b > a then b else a) = imax a b := rfl
theorem cast0 : ((0 : Nat) : Int) = 0 := rfl
theorem cast1 : ((1 : Nat) : Int) = 1 := rfl
theorem cast2 : ((2 : Nat) : Int) = 2 := rfl
theorem cast3 : ((3 : Nat) : Int) = 3 := rfl
theorem fin_one {H : Heap} {rs : List SR} {v vf : AV} {e : Ex} {T : Env} {Hf : Heap} (G : Heap) (k : Nat) (c : List AV) (he : e = .normal ∨ e = .ret) (hG : Hf = H ++ G) (hk : G[k]? = some (some ⟨c, true⟩)) (hc : AV.unds H.length c) (hr : resVal T Hf rs = some vf)
    (hv : vf = v.ren (fun i => if i < H.length then i else H.length + k)) (hb : v.und (H.length + 1)) : Fin H rs v (H ++ [some ⟨c, true⟩]) e T Hf := by
  subst hG
  have hlow : ∀ i, i < H.length → (fun i => if i < H.length then i else H.length + k) i = i := fun i hi => by simp [hi]
  refine ⟨he, vf, (fun i => if i < H.length then i else H.length + k), hr, hlow, fun i j hi hj hij => ?_, by simp, fun i b' hi => ?_, hv, by simpa using hb⟩
  · simp only [List.length_append, List.length_cons, List.length_nil] at hi hj
    split at hij <;> split at hij <;> omega
  · rcases Nat.lt_or_ge i H.length with h | h
    · rw [List.getElem?_append_left h] at hi
      exact .inl ⟨h, hi, by rw [List.getElem?_append_left h]; exact hi⟩
    · rw [List.getElem?_append_right h] at hi
      have : i = H.length := by
        rcases Nat.eq_or_lt_of_le h with h2 | h2
        · exact h2.symm
        · rw [List.getElem?_eq_none (by simp; omega)] at hi; cases hi
      subst this
      simp at hi
      subst hi
      refine .inr ⟨⟨c, true⟩, ?_, (AV.rens_id hlow _ hc).symm, id, AV.unds_mono (by simp) _ hc⟩
      simp only [Nat.lt_irrefl, if_false]
      rw [List.getElem?_append_right (by omega)]
      rw [show H.length + k - H.length = k by omega]
      exact hk
theorem fin_b {H : Heap} {rs : List SR} {X Y : Bool} {e : Ex} {T : Env} {Hf : Heap} (G : Heap) (hG : Hf = H ++ G) (he : e = .normal ∨ e = .ret) (hr : resVal T Hf rs = some (.bool X)) (hx : X = Y) : Fin H rs (.bool Y) H e T Hf := by
  subst hx
  exact fin_same he G hG hr trivial
theorem fin_i {H : Heap} {rs : List SR} {k : IntKind} {X Y : Int} {e : Ex} {T : Env} {Hf : Heap} (G : Heap) (hG : Hf = H ++ G) (he : e = .normal ∨ e = .ret) (hr : resVal T Hf rs = some (.int k X)) (hx : X = Y) : Fin H rs (.int k Y) H e T Hf := by
  subst hx
  exact fin_same he G hG hr trivial
def vec (a b c : Int) : AV := .agg [.int .i64 a, .int .i64 b, .int .i64 c]
end Go.Proofs.Ytaiboicipbhmhaa.Ah
namespace Go.Proofs.Ytaiboicipbhmhaa.Ah
open Go Go.ChangeShapes Go.WideShapes Go.ChangeAt Go.RowKit
set_option linter.unusedVariables false
variable {H : Type} {enc : TypeId × Value → H} {P : Program}
theorem trodAll_stays (hl : laidOutB P = true) {W W' : World} (hb : Below W.heap.size W W') {sp : Nat → Bool} : ∀ {ts : List TypeId} {vs : List Value} {ds : List (DataW H)} {ps : List MemPlace},
    (∀ t ∈ ts, P.readableRec t = true ∧ t < P.types.size) → DataW.TrodAll enc P W 0 (fun _ => true) true ts vs ds ps → (∀ p ∈ ps, sp p.block = true) → DataW.TrodAll enc P W' 0 sp true ts vs ds ps
  | [], vs, ds, ps, _, h, _ => by
    obtain ⟨rfl, rfl, rfl⟩ := trodAll_nil h
    exact trodAll_mk0
  | t :: ts, vs, ds, ps, ht, h, hs => by
    have hlt := DataW.TrodAll.lt h
    obtain ⟨v, vs', d, ds', p, q, rfl, rfl, rfl, h1, h2⟩ := trodAll_cons h
    obtain ⟨h3, h4⟩ := ht t (by simp)
    exact trodAll_cons_mk (WideElems.Trod_stays hl h3 h4 h1 (fun x hx => hb.same (hlt x (by simp [hx]))) (fun x hx => hs x (by simp [hx]))) (trodAll_stays hl hb (fun t h => ht t (by simp [h])) h2 (fun x hx => hs x (by simp [hx])))
theorem post_true (hl : laidOutB P = true) {f : Func} {s : ChangeSpec} {fresh handsOn again : Bool} {W W' : World} {args : Array Value} {ds gs : List (DataW H)} {before : List MemPlace}
    (hW : DataW.Whole enc P f.params.toList s.vars false W args.toList ds gs before) (hvs : s.vars = []) (hb : Below W.heap.size W W')
    (hts : ∀ t ∈ f.params.toList, P.readableRec t = true ∧ t < P.types.size)
    (hs : s.fn H (ds ++ gs) = { results := [.lit (.bool true)], args := ds }) {t : TypeId} (hrt : f.resultTypes = #[t]) (ht : P.underlying t = some .bool) :
    s.post enc P f false fresh handsOn again W args (.bool true) W' := by
  have hA := hW
  obtain ⟨p, q, hA0, hV, rfl, hfz, hnd⟩ := hA
  rw [hvs] at hV
  obtain ⟨rfl, rfl⟩ := trodVars_none hV
  have hlt := hW.lt
  have hlt' : ∀ x ∈ p, x.block < W.heap.size := fun x hx => hlt x (by simp [hx])
  have hres : ∀ (b : Nat) (sp : Nat → Bool) (hd : Bool), DataW.TrodAll enc P W' b sp hd f.resultTypes.toList ((Value.bool true).resultList f.resultTypes.size) (s.fn H (ds ++ [])).results [] := by
    intro b sp hd
    rw [hs, hrt]
    exact trodAll_cons_mk (shut_bool ht _) trodAll_mk0
  have hargs : ∀ sp : Nat → Bool, (∀ x ∈ p, sp x.block = true) → DataW.TrodAll enc P W' 0 sp true f.params.toList args.toList (s.fn H (ds ++ [])).args p := by
    intro sp hsp
    rw [hs]
    exact trodAll_stays hl hb hts hA0 hsp
  have hvars : ∀ sp : Nat → Bool, DataW.TrodVars enc P W' sp s.vars (s.fn H (ds ++ [])).vars [] := by
    intro sp
    rw [hvs, hs]
    exact rfl
  refine ⟨ds, [], p ++ [], [], p, [], hW, hres _ _ _, hargs _ (fun x hx => by simpa using hlt' x hx), hvars _, World.keptBut_mono (fun x hx => ⟨hx, .inr (by simpa using hx)⟩) (hb.frame _), fun _ => ?_⟩
  refine ⟨ok_one hrt rfl (okWide_bool_mk ht _), _, _, ([] ++ p) ++ [], ⟨[] ++ p, [], trodAll_append (hargs _ (fun _ _ => rfl)) (hres _ _ _), hvars _, rfl, ?_, ?_⟩, ?_⟩
  · intro b off hp
    rw [hb.frozen (p := ⟨b, off, none⟩) (hlt (.cell b off) (by simpa using hp))]
    exact hfz b off (by simpa using hp)
  · intro ha
    cases ha
  · intro x hx _
    simpa using hx
end Go.Proofs.Ytaiboicipbhmhaa.Ah
namespace Go.Proofs.Ytaiboicipbhmhaa.Ah
open Go Go.ChangeShapes Go.WideShapes Go.ChangeAt Go.RowKit
set_option linter.unusedVariables false

inductive LV where
  | i (k : IntKind)
  | b
  | s
def LV.fit : LV → Value → Prop
  | .i k, v => ∃ n, v = .int k n ∧ (Lit.int k n).wf = true
  | .b, v => ∃ t, v = .bool t
  | .s, v => ∃ t, v = .string t
def Fits : List LV → List Value → Prop
  | [], [] => True
  | k :: ks, v :: vs => k.fit v ∧ Fits ks vs
  | _, _ => False
theorem Fits.append : ∀ {ks : List LV} {vs : List Value} {ks' : List LV} {vs' : List Value}, Fits ks vs → Fits ks' vs' → Fits (ks ++ ks') (vs ++ vs')
  | [], [], _, _, _, h => h
  | _ :: _, _ :: _, _, _, h, h' => ⟨h.1, Fits.append h.2 h'⟩
  | [], _ :: _, _, _, h, _ => h.elim
  | _ :: _, [], _, _, h, _ => h.elim
def rep (l : List LV) : Nat → List LV
  | 0 => []
  | m + 1 => l ++ rep l m
def leafFs (f : TypeId → Option (List LV)) : List Field → Option (List LV)
  | [] => some []
  | x :: r => match f x.type, leafFs f r with | some a, some b => some (a ++ b) | _, _ => none
def leaf (P : Program) : Nat → TypeId → Option (List LV)
  | 0, _ => none
  | n + 1, t => match P.underlying t with
    | some (.int k) => some [.i k]
    | some .bool => some [.b]
    | some .string => some [.s]
    | some (.array m e) => (leaf P n e).map fun l => rep l m
    | some (.struct fs) => leafFs (leaf P n) fs.toList
    | _ => none
variable {H : Type} {enc : TypeId × Value → H} {P : Program} {W : World} {b : Nat} {sp : Nat → Bool} {held : Bool}
theorem rep_fits {l : List LV} {c : Nat} : ∀ (m : Nat) (cs : List Value), cs.length = m * c → (∀ i, i < m → Fits l ((cs.drop (i * c)).take c)) → Fits (rep l m) cs
  | 0, cs, h, _ => by
    simp at h
    subst h
    exact trivial
  | m + 1, cs, h, hf => by
    have h0 := hf 0 (by omega)
    simp only [Nat.zero_mul, List.drop_zero] at h0
    have h1 := rep_fits (l := l) (c := c) m (cs.drop c) (by rw [List.length_drop, h, Nat.succ_mul]; omega) (fun i hi => by
      have := hf (i + 1) (by omega)
      rw [List.drop_drop]
      rwa [show c + i * c = (i + 1) * c by rw [Nat.succ_mul]; omega])
    have h2 := Fits.append h0 h1
    rwa [List.take_append_drop] at h2
theorem fs_fits {g : TypeId → Option (List LV)} {z : TypeId → Nat} : ∀ (fs : List Field) (ks : List LV) (cs : List Value), leafFs g fs = some ks → cs.length = (fs.map fun f => z f.type).sum →
    (∀ (j : Nat) f l, fs[j]? = some f → g f.type = some l → Fits l ((cs.drop ((fs.take j).map fun f => z f.type).sum).take (z f.type))) → Fits ks cs
  | [], ks, cs, h, hl, _ => by
    simp [leafFs] at h
    simp at hl
    subst h hl
    exact trivial
  | x :: r, ks, cs, h, hl, hf => by
    simp only [leafFs] at h
    split at h
    · rename_i a b' h1 h2
      cases h
      have h3 := hf 0 x a rfl h1
      simp only [List.take_zero, List.map_nil, List.sum_nil, List.drop_zero] at h3
      simp only [List.map_cons, List.sum_cons] at hl
      have h4 := fs_fits (g := g) (z := z) r b' (cs.drop (z x.type)) h2 (by rw [List.length_drop, hl]; omega) (fun j f l hj hg => by
        have := hf (j + 1) f l (by simpa using hj) hg
        simp only [List.take_succ_cons, List.map_cons, List.sum_cons] at this
        rwa [List.drop_drop])
      have h5 := Fits.append h3 h4
      rwa [List.take_append_drop] at h5
    · cases h
theorem leaf_fits (hl : laidOutB P = true) : ∀ (n : Nat) (t : TypeId) (ks : List LV) (cs : List Value) (fuel : Nat) (x : DataW H × List MemPlace), t < P.types.size → leaf P n t = some ks → DataW.trod enc P W b sp held fuel t cs = some x → Fits ks cs
  | 0, _, _, _, _, _, _, h, _ => by simp [leaf] at h
  | n + 1, t, ks, cs, fuel, x, ht, h, hx => by
    unfold leaf at h
    split at h
    · rename_i k hu
      cases h
      obtain ⟨m, rfl, _, hw⟩ := DataW.trod_int hu hx
      exact ⟨⟨m, rfl, hw⟩, trivial⟩
    · rename_i hu
      cases h
      obtain ⟨t', rfl, _⟩ := DataW.trod_bool hu hx
      exact ⟨⟨t', rfl⟩, trivial⟩
    · rename_i hu
      cases h
      obtain ⟨t', rfl, _⟩ := DataW.trod_string hu hx
      exact ⟨⟨t', rfl⟩, trivial⟩
    · rename_i m e hu
      cases hle : leaf P n e with
      | none => rw [hle] at h; cases h
      | some l =>
        rw [hle] at h
        cases h
        obtain ⟨h1, h2⟩ := kid_array hl ht hu
        obtain ⟨xs, q, _, _, h3, h4, h5⟩ := DataW.trod_array hu hx
        refine rep_fits m cs (by rw [h3, h2]) fun i hi => ?_
        have h6 := h5 i hi
        obtain ⟨y, hy⟩ : ∃ y, xs[i]? = some y := ⟨xs[i], by simp⟩
        rw [hy] at h6
        exact leaf_fits hl n e l _ q y h1 hle h6
    · rename_i fs hu
      obtain ⟨h1, h2, h3⟩ := kid_struct hl ht hu
      obtain ⟨xs, q, _, _, h4, h5, h6⟩ := DataW.trod_struct hu hx
      refine fs_fits (g := leaf P n) (z := P.cellsOf) fs.toList ks cs h (by rw [h4, h2]) fun j f l hj hg => ?_
      have hj' : fs[j]? = some f := by simpa using hj
      have h7 := h6 j f hj'
      have hlt : j < xs.length := by rw [h5]; exact (Array.getElem?_eq_some_iff.1 hj').1
      obtain ⟨y, hy⟩ : ∃ y, xs[j]? = some y := ⟨xs[j], by simp⟩
      rw [hy] at h7
      rw [← h3 j f hj]
      exact leaf_fits hl n f.type l _ q y (h1 f (List.mem_of_getElem? hj)) hg h7
    · cases h
theorem open_struct {r : Reach} {base : Nat} {t : TypeId} {fs : Array Field} {v : Value} {d : DataW H} {ps : List MemPlace} {n : Nat} {ks : List LV} (hl : laidOutB P = true) (ht : t < P.types.size) (hu : P.underlying t = some (.struct fs)) (hk : leaf P n t = some ks)
    (hv : Value.okWide P W r base t v) (h : DataW.Trod enc P W b sp held t v d ps) : ∃ cs : List Value, v = .agg cs.toArray ∧ Fits ks cs := by
  unfold Value.okWide at hv
  rw [hu] at hv
  obtain ⟨cs, rfl, _⟩ := hv
  obtain ⟨fuel, hf⟩ := h
  exact ⟨cs.toList, by simp, by simpa [Value.cells] using leaf_fits hl n t ks _ fuel _ ht hk hf⟩
theorem Fits.nil {cs : List Value} (h : Fits [] cs) : cs = [] := by cases cs with | nil => rfl | cons _ _ => exact h.elim
theorem Fits.int {k : IntKind} {ks : List LV} {cs : List Value} (h : Fits (.i k :: ks) cs) : ∃ n r, cs = .int k n :: r ∧ (Lit.int k n).wf = true ∧ Fits ks r := by
  cases cs with
  | nil => exact h.elim
  | cons v r => obtain ⟨⟨n, rfl, hw⟩, h2⟩ := h; exact ⟨n, r, rfl, hw, h2⟩
theorem Fits.bool {ks : List LV} {cs : List Value} (h : Fits (.b :: ks) cs) : ∃ t r, cs = .bool t :: r ∧ Fits ks r := by
  cases cs with
  | nil => exact h.elim
  | cons v r => obtain ⟨⟨n, rfl⟩, h2⟩ := h; exact ⟨n, r, rfl, h2⟩
end Go.Proofs.Ytaiboicipbhmhaa.Ah
namespace Go.Proofs.Ytaiboicipbhmhaa.Ah
open Go Go.ChangeShapes Go.WideShapes Go.ChangeAt Go.RowKit
set_option linter.unusedVariables false

def RowOk (W : World) (l : Loc) (avs : List AV) : Prop :=
  avs ≠ [] → l.obj = false ∧ ∃ arr elem fr, W.heap[l.blk]? = some (.cells arr elem fr) ∧ arr.size = l.size ∧ ∀ (j : Nat) (u : AV), avs[j]? = some u → ∃ x, arr[l.off + j]? = some x ∧ ∀ M, VR M u x
variable {H : Type} {enc : TypeId × Value → H} {P : Program} {W : World} {b : Nat} {sp : Nat → Bool} {held : Bool}
theorem open_slice {r : Reach} {base : Nat} {t e : TypeId} {v : Value} {d : DataW H} {ps : List MemPlace} {n sz : Nat} {ks : List LV} (hl : laidOutB P = true) (hu : P.underlying t = some (.slice e)) (he : e < P.types.size) (hk : leaf P n e = some ks) (hc : P.cellsOf e = sz) (hz : sz ≠ 0)
    (hv : Value.okWide P W r base t v) (h : DataW.Trod enc P W 0 (fun _ => true) held t v d ps) :
    ∃ (l : Loc) (rows : List (List Value)), (∀ r ∈ rows, Fits ks r) ∧ rows.length ≤ maxLen ∧ (∀ (M : Val) (i : Nat), M i = some l → VR M (.sl i 0 rows.length sz none) v) ∧
      (∀ avs : List AV, avs.length = rows.flatten.length → (∀ (j : Nat) u x, avs[j]? = some u → rows.flatten[j]? = some x → ∀ M, VR M u x) → RowOk W l avs) ∧ (rows.length = 0 ∨ ∃ el rest, d = .slice el rest ∧ el.length = rows.length) := by
  obtain ⟨fuel, hf⟩ := h
  rcases Deep.open_slice hu hf with ⟨h1, _⟩ | ⟨a, len, cap, m, n', D, Pl, hcs, _, hle, hmax, hm, hdx, hx⟩
  · have hv0 : v = .slice none 0 0 := by
      cases v <;> simp [Value.cells] at h1 <;> simp_all
      rename_i u
      unfold Value.okWide Cell.okWide at hv
      rw [hu] at hv
      simp [Cell.ok, hu] at hv
    subst hv0
    refine ⟨⟨0, 0, 0, false⟩, [], by simp, by simp, fun M i hM => ?_, fun avs ha _ h0 => ?_, .inl rfl⟩
    · simp only [VR]
      exact ⟨_, Val.at_in hM rfl, .inr (by simp)⟩
    · exact absurd (List.eq_nil_of_length_eq_zero (by simpa using ha)) h0
  · have hv0 : v = .slice (some a) len cap := by
      cases v <;> simp [Value.cells] at hcs <;> simp_all
      rename_i u
      unfold Value.okWide Cell.okWide at hv
      rw [hu] at hv
      simp [Cell.ok, hu] at hv
    subst hv0
    simp only [if_true] at hm
    subst hm
    have hok : a.spot = none := by
      unfold Value.okWide at hv
      rw [hu] at hv
      simp only [Cell.okWide, hu, Cell.ok] at hv
      exact hv.2.2.2.1
    have cell : ∀ i, i < m → ∃ cs', W.cells? 0 (a.add (i * sz)) sz = some cs' ∧ cs'.length = sz ∧ Fits ks cs' := by
      intro i hi
      obtain ⟨cs', h1, h2⟩ := hx i hi
      rw [hc] at h1
      exact ⟨cs', h1, (World.cells?_some h1).2.1, leaf_fits hl n e ks cs' _ _ he hk h2⟩
    obtain ⟨C, hC⟩ := Deep.choose_lt (α := List Value) (p := fun i cs' => W.cells? 0 (a.add (i * sz)) sz = some cs' ∧ cs'.length = sz ∧ Fits ks cs') cell
    have hcell : ∀ i, i < m → ∀ k, k < sz → W.cell? ⟨a.block, a.off + (i * sz + k), none⟩ = (C i)[k]? := by
      intro i hi k hk'
      have := (World.cells?_some (hC i hi).1).2.2 k hk'
      rw [Deep.add_add] at this
      rw [← this]
      congr 1
      obtain ⟨ab, ao, asp⟩ := a
      simp only at hok
      subst hok
      rw [plain_add]
    have hrow : 0 < m → ∃ arr elem fr, W.heap[a.block]? = some (.cells arr elem fr) ∧ ∀ j, j < m * sz → ∃ x, arr[a.off + j]? = some x ∧ (C (j / sz))[j % sz]? = some x := by
      intro h0
      have hz0 : 0 < sz := Nat.pos_of_ne_zero hz
      have get : ∀ j, j < m * sz → ∃ x, W.cell? ⟨a.block, a.off + j, none⟩ = some x ∧ (C (j / sz))[j % sz]? = some x := by
        intro j hj
        have hj1 : j / sz < m := (Nat.div_lt_iff_lt_mul hz0).2 hj
        have hj2 : j % sz < sz := Nat.mod_lt _ hz0
        have h5 := hcell (j / sz) hj1 (j % sz) hj2
        rw [show j / sz * sz + j % sz = j by rw [Nat.mul_comm]; exact Nat.div_add_mod j sz] at h5
        have hlen := (hC _ hj1).2.1
        exact ⟨(C (j / sz))[j % sz]'(by omega), by rw [h5]; simp [hlen, hj2], by simp [hlen, hj2]⟩
      obtain ⟨x0, hx0, _⟩ := get 0 (Nat.mul_pos h0 hz0)
      cases hh : W.heap[a.block]? with
      | none => simp [World.cell?, hh] at hx0
      | some o =>
        cases o with
        | cells arr elem fr =>
          refine ⟨arr, elem, fr, rfl, fun j hj => ?_⟩
          obtain ⟨x, h6, h7⟩ := get j hj
          rw [cell_of_row W _ _ arr elem fr hh] at h6
          exact ⟨x, h6, h7⟩
        | _ => simp [World.cell?, hh] at hx0
    have hsize : ∃ S, ∀ arr elem fr, W.heap[a.block]? = some (.cells arr elem fr) → arr.size = S := by
      cases hh : W.heap[a.block]? with
      | none => exact ⟨0, fun _ _ _ h => by cases h⟩
      | some o =>
        cases o with
        | cells arr elem fr => exact ⟨arr.size, fun _ _ _ h => by cases h; rfl⟩
        | _ => exact ⟨0, fun _ _ _ h => by cases h⟩
    obtain ⟨S, hS⟩ := hsize
    have hfl : ∀ k, ((List.range k).map C).flatten.length = k * sz → True := fun _ _ => trivial
    have flen : ∀ k, k ≤ m → ((List.range k).map C).flatten.length = k * sz := by
      intro k hk'
      induction k with
      | zero => simp
      | succ k ih =>
        rw [List.range_succ, List.map_append, List.flatten_append, List.length_append, ih (by omega)]
        simp [(hC k (by omega)).2.1, Nat.succ_mul]
    have fget : ∀ k, k ≤ m → ∀ j, j < k * sz → ((List.range k).map C).flatten[j]? = (C (j / sz))[j % sz]? := by
      intro k hk'
      induction k with
      | zero => intro j hj; omega
      | succ k ih =>
        intro j hj
        rw [List.range_succ, List.map_append, List.flatten_append]
        by_cases hjk : j < k * sz
        · rw [List.getElem?_append_left (by rw [flen k (by omega)]; exact hjk)]
          exact ih (by omega) j hjk
        · rw [List.getElem?_append_right (by rw [flen k (by omega)]; omega), flen k (by omega)]
          have h1 : j / sz = k := by
            rw [Nat.div_eq_of_lt_le (by omega) hj]
          have h2 : j % sz = j - k * sz := by
            have := Nat.div_add_mod j sz
            rw [h1, Nat.mul_comm] at this
            omega
          rw [h1, h2]
          simp
    refine ⟨⟨a.block, a.off, S, false⟩, (List.range len).map C, ?_, by simp; omega, fun M i hM => ?_, fun avs ha hav h0 => ?_, .inr ⟨_, _, congrArg Prod.fst hdx, by simp⟩⟩
    · intro r hr
      obtain ⟨i, hi, rfl⟩ := List.mem_map.1 hr
      exact (hC i (by have := List.mem_range.1 hi; omega)).2.2
    · simp only [VR, List.length_map, List.length_range]
      refine ⟨_, Val.at_in hM rfl, .inl ⟨a, m, rfl, hle, fun h0 => ⟨?_, ?_⟩, fun k hk => by cases hk⟩⟩
      · obtain ⟨ab, ao, asp⟩ := a
        simp only at hok
        subst hok
        rfl
      · obtain ⟨arr, elem, fr, h1, h2⟩ := hrow h0
        have h3 := hS _ _ _ h1
        have h4 : 0 < m * sz := Nat.mul_pos h0 (Nat.pos_of_ne_zero hz)
        obtain ⟨x, h5, _⟩ := h2 (m * sz - 1) (by omega)
        have := (Array.getElem?_eq_some_iff.1 h5).1
        simp only
        omega
    · have hlen0 : ((List.range len).map C).flatten.length = len * sz := flen len hle
      have hpos : 0 < len * sz := by
        rw [← hlen0, ← ha]
        exact List.length_pos_iff.2 h0
      have hm0 : 0 < m := by
        rcases Nat.eq_zero_or_pos len with h | h
        · subst h; simp at hpos
        · omega
      obtain ⟨arr, elem, fr, h1, h2⟩ := hrow hm0
      refine ⟨rfl, arr, elem, fr, h1, hS _ _ _ h1, fun j u hu => ?_⟩
      have hj : j < len * sz := by
        have := (List.getElem?_eq_some_iff.1 hu).1
        omega
      have hjm : j < m * sz := Nat.lt_of_lt_of_le hj (Nat.mul_le_mul_right _ hle)
      obtain ⟨x, h5, h6⟩ := h2 j hjm
      exact ⟨x, h5, hav j u x hu (by rw [fget len hle j hj]; exact h6)⟩
end Go.Proofs.Ytaiboicipbhmhaa.Ah
namespace Go.Proofs.Ytaiboicipbhmhaa.Ah
open Go
variable {P : Program}

def FinW (H : Heap) (rs : List SR) (v : AV) (H' : Heap) : Post := fun e T Hf => ∃ v', (∀ M x, VR M v' x → VR M v x) ∧ Fin H rs v' H' e T Hf
theorem acallW {P : Program} {f : FuncId} {args : List AV} {H H' : Heap} {v : AV} {s : SC} {T : Env} {rs : List SR} (mk : ∀ v', ac P s T H (Fin H rs v' H') → ACall P f args H v' H') (h : ac P s T H (FinW H rs v H')) : ACall P f args H v H' := by
  obtain ⟨e, T', H'', ⟨v', hw, hf⟩, up⟩ := ac_det s T H _ h
  intro M w xs hH hv
  refine (mk v' (up _ hf) M w xs hH hv).mono fun e w' ⟨x, M', h1, h2, h3, h4⟩ => ⟨x, M', h1, h2, h3, hw _ _ h4⟩
theorem ACall.weaken {P : Program} {f : FuncId} {args : List AV} {H H' : Heap} {v v' : AV} (h : ACall P f args H v H') (hw : ∀ M x, VR M v x → VR M v' x) : ACall P f args H v' H' := by
  intro M w xs hH hv
  exact (h M w xs hH hv).mono fun e w' ⟨x, M', h1, h2, h3, h4⟩ => ⟨x, M', h1, h2, h3, hw _ _ h4⟩
theorem sl_weak {b o n s : Nat} {c : Option Nat} (M : Val) (x : Value) (h : VR M (.sl b o n s c) x) : VR M (.sl b o n s none) x := by
  simp only [VR] at h ⊢
  obtain ⟨l, h1, ⟨a, cap, h2, h3, h4, _⟩ | ⟨h2, _, h3⟩⟩ := h
  · exact ⟨l, h1, .inl ⟨a, cap, h2, h3, h4, fun k hk => by cases hk⟩⟩
  · exact ⟨l, h1, .inr ⟨h2, trivial, h3⟩⟩
theorem call_empty {P : Program} {f : FuncId} {b o s : Nat} {v : AV} {H H' : Heap} (h0 : ACall P f [.nils] H v H') (h1 : ∀ k, ACall P f [.sl b o 0 s (some k)] H v H') : ACall P f [.sl b o 0 s none] H v H' := by
  intro M w xs hH hv
  simp only [VRs, VR] at hv
  obtain ⟨x, r, rfl, ⟨l, hM, ⟨a, cap, e1, e2, e3, _⟩ | ⟨_, _, e⟩⟩, rfl⟩ := hv
  · refine h1 cap M w _ hH ?_
    simp only [VRs, VR]
    exact ⟨x, [], rfl, ⟨l, hM, .inl ⟨a, cap, e1, e2, e3, fun k hk => by cases hk; rfl⟩⟩, rfl⟩
  · refine h0 M w _ hH ?_
    simp only [VRs, VR]
    exact ⟨x, [], rfl, e, rfl⟩
theorem getMapF {α : Type} {f : α → AV} {zs : List α} {j : Nat} {z : α} (h : zs[j]? = some z) : (zs.map f)[j]? = some (f z) := by simp [h]
theorem setMapF {α : Type} {f : α → AV} {zs : List α} {j : Nat} {z : α} (h : j < zs.length) : setCells (zs.map f) j [f z] = (zs.set j z).map f := by
  unfold setCells
  rw [List.set_eq_take_append_cons_drop, if_pos h]
  simp [List.map_take, List.map_drop]
theorem takeMapF {α : Type} {f : α → AV} (zs : List α) : (zs.map f).take zs.length = zs.map f := by rw [List.take_of_length_le (by simp)]
theorem undMapF {α : Type} {f : α → AV} {n : Nat} (hf : ∀ z, (f z).und n) : ∀ (zs : List α), AV.unds n (zs.map f)
  | [] => by simp [AV.unds]
  | z :: zs => by simp only [List.map_cons, AV.unds]; exact ⟨hf z, undMapF hf zs⟩
def Sl {α : Type} (f : α → AV) (H : Heap) (p off : Nat) (zs : List α) : Prop := ∃ cs o, blkAt H p = some ⟨cs, o⟩ ∧ off + zs.length ≤ cs.length ∧ (cs.drop off).take zs.length = zs.map f
theorem sl_get {α : Type} {f : α → AV} {cs : List AV} {off : Nat} {zs : List α} (h : (cs.drop off).take zs.length = zs.map f) {j : Nat} {z : α} (hz : zs[j]? = some z) : cs[off + j]? = some (f z) := by
  have h1 := congrArg (·[j]?) h
  have hj : j < zs.length := (List.getElem?_eq_some_iff.1 hz).1
  simp only [List.getElem?_take, List.getElem?_drop, List.getElem?_map, hz, Option.map_some, if_pos hj] at h1
  exact h1
theorem Sl.rd {α : Type} {f : α → AV} {H : Heap} {p off : Nat} {zs : List α} (h : Sl f H p off zs) : rd H p off zs.length = some (zs.map f) := by
  obtain ⟨cs, o, h1, h2, h3⟩ := h
  unfold Ah.rd
  rw [h1]
  simp only [h2, if_true, h3]
theorem Sl.whole {α : Type} {f : α → AV} {H : Heap} {p : Nat} {zs : List α} {o : Bool} (h : blkAt H p = some ⟨zs.map f, o⟩) : Sl f H p 0 zs := ⟨_, _, h, by simp, by simp [takeMapF]⟩
theorem Sl.lt {α : Type} {f : α → AV} {H : Heap} {p off : Nat} {zs : List α} (h : Sl f H p off zs) : p < H.length := by
  obtain ⟨cs, o, h1, _⟩ := h
  exact blkAt_lt h1
theorem Sl.app {α : Type} {f : α → AV} {H : Heap} {p off : Nat} {zs : List α} (h : Sl f H p off zs) (G : Heap) : Sl f (H ++ G) p off zs := by
  have hl := h.lt
  obtain ⟨cs, o, h1, h2⟩ := h
  exact ⟨cs, o, by rw [blkAt_lo G hl]; exact h1, h2⟩
theorem Sl.take {α : Type} {f : α → AV} {H : Heap} {p off : Nat} {zs : List α} (h : Sl f H p off zs) (n : Nat) : Sl f H p off (zs.take n) := by
  obtain ⟨cs, o, h1, h2, h3⟩ := h
  refine ⟨cs, o, h1, ?_, ?_⟩
  · simp; omega
  · rw [List.map_take, ← h3, List.take_take, List.length_take]
theorem Sl.drop {α : Type} {f : α → AV} {H : Heap} {p off : Nat} {zs : List α} (h : Sl f H p off zs) {n : Nat} (hn : n ≤ zs.length) : Sl f H p (off + n) (zs.drop n) := by
  obtain ⟨cs, o, h1, h2, h3⟩ := h
  refine ⟨cs, o, h1, ?_, ?_⟩
  · simp; omega
  · rw [List.map_drop, ← h3, List.length_drop, List.drop_take, List.drop_drop]
end Go.Proofs.Ytaiboicipbhmhaa.Ah
namespace Go.Proofs.Ytaiboicipbhmhaa.Ah
open Go

theorem HRel.dummy {M : Val} {H : Heap} {w : World} (h : HRel M H w) : HRel (M.put H.length ⟨0, 0, 0, false⟩) (H ++ [some ⟨[], false⟩]) w := by
  have hle : M.le (M.put H.length ⟨0, 0, 0, false⟩) := Val.le_put (h.dom _ (Nat.le_refl _))
  have back : ∀ (i : Nat) (l : Loc), i < H.length → (M.put H.length ⟨0, 0, 0, false⟩) i = some l → M i = some l := by
    intro i l hi e
    unfold Val.put at e
    rwa [if_neg (by omega)] at e
  refine ⟨fun i hi => ?_, fun i b hb => ?_, fun i j b c l l' hb ho hc hct hij hl hl' => ?_⟩
  · simp at hi
    unfold Val.put
    rw [if_neg (by omega)]
    exact h.dom i (by omega)
  · rcases get_snoc hb with ⟨h1, h2⟩ | ⟨rfl, h2⟩
    · obtain ⟨l, g1, g2⟩ := h.row i b h2
      exact ⟨l, hle _ _ g1, fun ht => (g2 ht).mono hle⟩
    · cases h2
      exact ⟨⟨0, 0, 0, false⟩, by simp [Val.put], fun ht => by rcases ht with ht | ht <;> simp at ht⟩
  · rcases get_snoc hb with ⟨h1, h2⟩ | ⟨rfl, h2⟩
    · rcases get_snoc hc with ⟨g1, g2⟩ | ⟨rfl, g2⟩
      · exact h.sep i j b c l l' h2 ho g2 hct hij (back i l h1 hl) (back j l' g1 hl')
      · cases g2
        rcases hct with ht | ht <;> simp at ht
    · cases h2
      cases ho
theorem Kept.dummy {X : Cx} {M : Val} {H : Heap} {w : World} (hk : Kept X M H w) : Kept X (M.put H.length ⟨0, 0, 0, false⟩) (H ++ [some ⟨[], false⟩]) w where
  os := hk.os
  tape := hk.tape
  output := hk.output
  size := hk.size
  block := hk.block
  own := fun i b l hb ho hl => by
    rcases get_snoc hb with ⟨h1, h2⟩ | ⟨rfl, h2⟩
    · refine hk.own i b l h2 ho ?_
      unfold Val.put at hl
      rwa [if_neg (by omega)] at hl
    · cases h2
      cases ho
  ext := fun i hi => by
    have := hk.len
    unfold Val.put
    rw [if_neg (by omega)]
    exact hk.ext i hi
  len := by have := hk.len; simp; omega
  loc := fun i b l hb ht hl => by
    rcases get_snoc hb with ⟨h1, h2⟩ | ⟨rfl, h2⟩
    · refine hk.loc i b l h2 ht ?_
      unfold Val.put at hl
      rwa [if_neg (by omega)] at hl
    · cases h2
      rcases ht with ht | ht <;> simp at ht
theorem call_nilres {P : Program} {f : FuncId} {args : List AV} {H : Heap} {sz : Nat} (h : ACall P f args H .nils H) : ACall P f args H (.sl H.length 0 0 sz none) (H ++ [some ⟨[], false⟩]) := by
  intro M w xs hH hv
  refine (h M w xs hH hv).mono fun e w' ⟨x, M', h1, h2, h3, h4⟩ => ⟨x, _, h1, h2.dummy, h3.dummy, ?_⟩
  simp only [VR] at h4 ⊢
  exact ⟨⟨0, 0, 0, false⟩, Val.at_in (by simp [Val.put]) rfl, .inr (by simp [h4])⟩
theorem call_nil {P : Program} {f : FuncId} {pre post : List AV} {H H' : Heap} {v : AV} {sz : Nat} (h : ACall P f (pre ++ .sl H.length 0 0 sz none :: post) (H ++ [some ⟨[], false⟩]) v H') : ACall P f (pre ++ .nils :: post) H v H' := by
  intro M w xs hH hv
  have hle : M.le (M.put H.length ⟨0, 0, 0, false⟩) := Val.le_put (hH.dom _ (Nat.le_refl _))
  have hv2 : VRs (M.put H.length ⟨0, 0, 0, false⟩) (pre ++ .sl H.length 0 0 sz none :: post) xs := by
    refine VRs.mk (by rw [hv.length]; simp) fun j u hu => ?_
    by_cases hj : j = pre.length
    · subst hj
      obtain ⟨x, hx, hr⟩ := hv.get pre.length .nils (by simp)
      simp at hu
      subst hu
      refine ⟨x, hx, ?_⟩
      simp only [VR] at hr ⊢
      exact ⟨⟨0, 0, 0, false⟩, Val.at_in (by simp [Val.put]) rfl, .inr (by simp [hr])⟩
    · have hu2 : (pre ++ .nils :: post)[j]? = some u := by
        rw [← hu]
        by_cases hlt : j < pre.length
        · rw [List.getElem?_append_left hlt, List.getElem?_append_left hlt]
        · rw [List.getElem?_append_right (by omega), List.getElem?_append_right (by omega)]
          obtain ⟨k, hk⟩ : ∃ k, j - pre.length = k + 1 := ⟨j - pre.length - 1, by omega⟩
          rw [hk]
          rfl
      obtain ⟨x, hx, hr⟩ := hv.get j u hu2
      exact ⟨x, hx, hr.mono hle⟩
  refine (h _ w xs hH.dummy hv2).mono fun e w' ⟨x, M', h1, h2, h3, h4⟩ => ⟨x, M', h1, h2, ?_, h4⟩
  have K0 := (Kept.refl M H w).dummy
  exact K0.trans h3
theorem fin_oneF {H : Heap} {rs : List SR} {v vf : AV} {e : Ex} {T : Env} {Hf : Heap} {o : Bool} (G : Heap) (k : Nat) (c : List AV) (he : e = .normal ∨ e = .ret) (hG : Hf = H ++ G) (hk : G[k]? = some (some ⟨c, o⟩)) (hc : AV.unds H.length c) (hr : resVal T Hf rs = some vf)
    (hv : vf = v.ren (fun i => if i < H.length then i else H.length + k)) (hb : v.und (H.length + 1)) : Fin H rs v (H ++ [some ⟨c, false⟩]) e T Hf := by
  subst hG
  have hlow : ∀ i, i < H.length → (fun i => if i < H.length then i else H.length + k) i = i := fun i hi => by simp [hi]
  refine ⟨he, vf, (fun i => if i < H.length then i else H.length + k), hr, hlow, fun i j hi hj hij => ?_, by simp, fun i b' hi => ?_, hv, by simpa using hb⟩
  · simp only [List.length_append, List.length_cons, List.length_nil] at hi hj
    split at hij <;> split at hij <;> omega
  · rcases Nat.lt_or_ge i H.length with h | h
    · rw [List.getElem?_append_left h] at hi
      exact .inl ⟨h, hi, by rw [List.getElem?_append_left h]; exact hi⟩
    · rw [List.getElem?_append_right h] at hi
      have : i = H.length := by
        rcases Nat.eq_or_lt_of_le h with h2 | h2
        · exact h2.symm
        · rw [List.getElem?_eq_none (by simp; omega)] at hi; cases hi
      subst this
      simp at hi
      subst hi
      refine .inr ⟨⟨c, o⟩, ?_, (AV.rens_id hlow _ hc).symm, (fun h => by cases h), AV.unds_mono (by simp) _ hc⟩
      simp only [Nat.lt_irrefl, if_false]
      rw [List.getElem?_append_right (by omega)]
      rw [show H.length + k - H.length = k by omega]
      exact hk
end Go.Proofs.Ytaiboicipbhmhaa.Ah
