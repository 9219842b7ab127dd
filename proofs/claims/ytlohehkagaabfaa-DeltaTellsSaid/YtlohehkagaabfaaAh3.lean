/- Ah3: a part of the proof: steps over abstract values, or contracts of functions. Conditions: none. -/
import Derived.Test.YtlohehkagaabfaaAh2j
namespace Go.Proofs.Ytlohehkagaabfaa.Ah
open Go

mutual
/-- A constant, as an abstract value. -/
def vc : Value → AV → Bool
  | .bool b, .bool c => b == c
  | .int k n, .int k' m => k == k' && n == m
  | .string s, .str t => decide (s = t)
  | .pointer none, .nilp => true
  | .slice none 0 0, .nils => true
  | .nilFunc, .nilf => true
  | .map none, .nilm => true
  | .agg cs, .agg as => vcs cs.toList as
  | .tuple cs, .tup as => vcs cs.toList as
  | _, _ => false
def vcs : List Value → List AV → Bool
  | [], [] => true
  | x :: xs, a :: as => vc x a && vcs xs as
  | _, _ => false
end

mutual
theorem vc_sound (M : Val) : ∀ (x : Value) (v : AV), vc x v = true → VR M v x := by
  intro x v h
  unfold vc at h
  split at h
  · simp at h; subst h; rfl
  · simp at h; obtain ⟨rfl, rfl⟩ := h; rfl
  · simp at h; subst h; rfl
  · rfl
  · rfl
  · rfl
  · rfl
  · simp only [VR]; exact ⟨_, by simp, vcs_sound M _ _ h⟩
  · simp only [VR]; exact ⟨_, by simp, vcs_sound M _ _ h⟩
  · cases h
theorem vcs_sound (M : Val) : ∀ (xs : List Value) (vs : List AV), vcs xs vs = true → VRs M vs xs := by
  intro xs vs h
  unfold vcs at h
  split at h
  · simp [VRs]
  · simp only [Bool.and_eq_true] at h
    simp only [VRs]
    exact ⟨_, _, rfl, vc_sound M _ _ h.1, vcs_sound M _ _ h.2⟩
  · cases h
end

def okArg : Operand → SO → Bool
  | .tmp t, .r i => t == i
  | .const x, .c v => vc x v
  | .func f, .c (.fn (.func g) [] []) => f == g
  | _, _ => false

/-- An operation in its plain form. -/
structure SOper where
  dst : Option Nat
  op : SOp
  args : List SO
  guard : Option (Nat × Bool) := none
  kill : List Nat := []

/-- What a type's zero value is. -/
def zeroC (P : Program) (t : TypeId) : Option (List Value) := ((P.info? t).bind (·.zero)).map (·.cells.toList)
def sizeC (P : Program) (t : TypeId) : Option Nat := (P.info? t).map (·.size)
def bytesC (P : Program) (t : TypeId) : Option Nat := (P.info? t).map (·.bytes)

def zOk (P : Program) (t : TypeId) (z : List AV) : Bool := match zeroC P t with | some l => vcs l z | none => false

def aggT (P : Program) (t : TypeId) : Option Bool := (P.underlying t).map fun d => aggB (some d)

/-- Does an operation stand for one of the machine's? Its operands, then. -/
def okOp (P : Program) (op : Op) (s : SOp) : Option (List Operand) :=
  match s with
  | .mv => match op with
    | .move x => some [x]
    | .assign x => some [x]
    | _ => none
  | .pick => match op with
    | .pick c a b => some [c, a, b]
    | _ => none
  | .alloc z => match op with
    | .alloc e => if zOk P e z then some [] else none
    | _ => none
  | .box => match op with
    | .box _ x => some [x]
    | _ => none
  | .build z pl => match op with
    | .build t ps => match P.underlying t with
      | some (.struct fs) => match placesOf P fs.toList with
        | some places => if zOk P t z && decide (ps.toList.map (fun p => places[p.1]?) = pl.map some) then some (ps.toList.map (·.2)) else none
        | none => none
      | some (.array _ e) => match sizeC P e with
        | some n => if zOk P t z && decide (ps.toList.map (fun p => (p.1 * n, n)) = pl) then some (ps.toList.map (·.2)) else none
        | none => none
      | _ => none
    | _ => none
  | .bslice sz n z pl => match op with
    | .buildSlice t m ps => match P.underlying t with
      | some (.slice e) => match zeroC P e with
        | some zz => if m = n ∧ sizeC P e = some sz ∧ zz.length = sz ∧ m * sz ≤ 16777216 ∧ vcs (List.replicate m zz).flatten z = true ∧ ps.toList.map (fun p => (p.1 * sz, sz)) = pl ∧ z.length = m * sz then some (ps.toList.map (·.2)) else none
        | none => none
      | _ => none
    | _ => none
  | .ld1 => match op with
    | .load t x => if aggT P t = some false then some [x] else none
    | _ => none
  | .ldn n => match op with
    | .load t x => if aggT P t = some true ∧ sizeC P t = some n then some [x] else none
    | _ => none
  | .st n => match op with
    | .store t x y => if sizeC P t = some n then some [x, y] else none
    | _ => none
  | .nilchk => match op with
    | .nilCheck x => some [x]
    | _ => none
  | .bin op' => match op with
    | .binOp op _ x y _ => if op = op' then some [x, y] else none
    | _ => none
  | .eqv neg ks => match op with
    | .binOp op t x y _ => if op = (if neg then .neq else .eql) ∧ leafsT P 9999 t = some ks ∧ P.eqGuardType P.depth t = false ∧ aggT P t = some true then some [x, y] else none
    | _ => none
  | .eqb neg => match op with
    | .binOp op t x y _ => match P.underlying t with
      | some .bool => if op = (if neg then .neq else .eql) then some [x, y] else none
      | _ => none
    | _ => none
  | .eqs neg => match op with
    | .binOp op _ x y _ => if op = (if neg then .neq else .eql) then some [x, y] else none
    | _ => none
  | .eqnil neg => match op with
    | .binOp op t x (.const (.slice none 0 0)) _ => match P.underlying t with
      | some (.slice _) => if op = (if neg then .neq else .eql) then some [x] else none
      | _ => none
    | _ => none
  | .un op' => match op with
    | .unOp op _ x => if op = op' then some [x] else none
    | _ => none
  | .conv k => match op with
    | .convert s d x => match P.underlying s, P.underlying d with
      | some (.int _), some (.int k') => if k = k' then some [x] else none
      | _, _ => none
    | _ => none
  | .mkfn g n => match op with
    | .makeFunc f xs ys => if f = g ∧ n = xs.size then some (xs.toList ++ ys.toList) else none
    | _ => none
  | .mksl sz bytes z => match op with
    | .makeSlice t x y => match P.underlying t with
      | some (.slice e) => if sizeC P e = some sz ∧ bytesC P e = some bytes ∧ zOk P e z = true ∧ z.length = sz ∧ bytes ≠ 0 then some [x, y] else none
      | _ => none
    | _ => none
  | .slice sz l h m => match op with
    | .slice t x lo hi mx => match P.underlying t with
      | some (.slice e) => if sizeC P e = some sz ∧ l = lo.isSome ∧ h = hi.isSome ∧ m = mx.isSome then some (x :: (lo.toList ++ hi.toList ++ mx.toList)) else none
      | _ => none
    | _ => none
  | .aslice sz n l h m => match op with
    | .slice t x lo hi mx => match P.underlying t with
      | some (.array n' e) => if n' = n ∧ sizeC P e = some sz ∧ sz ≠ 0 ∧ l = lo.isSome ∧ h = hi.isSome ∧ m = mx.isSome then some (x :: (lo.toList ++ hi.toList ++ mx.toList)) else none
      | _ => none
    | _ => none
  | .faddr off => match op with
    | .fieldAddr t x f => match P.underlying t with
      | some (.struct fs) => match fs[f]? with
        | some fd => match sizeC P fd.type with
          | some n => if n ≠ 0 ∧ fd.offset = off then some [x] else none
          | none => none
        | none => none
      | _ => none
    | _ => none
  | .fld off n agg => match op with
    | .field t x f => match P.underlying t with
      | some (.struct fs) => match fs[f]? with
        | some fd => if aggT P fd.type = some agg ∧ sizeC P fd.type = some n ∧ fd.offset = off then some [x] else none
        | none => none
      | _ => none
    | _ => none
  | .iaddrS sz => match op with
    | .indexAddr t x i => match P.underlying t with
      | some (.slice e) => if sizeC P e = some sz then some [x, i] else none
      | _ => none
    | _ => none
  | .iaddrA sz n => match op with
    | .indexAddr t x i => match P.underlying t with
      | some (.array n' e) => if sizeC P e = some sz ∧ n' = n then some [x, i] else none
      | _ => none
    | _ => none
  | .idxA sz n agg => match op with
    | .index t x i => match P.underlying t with
      | some (.array n' e) => if sizeC P e = some sz ∧ n' = n ∧ agg = false ∧ sz = 1 ∧ aggT P e = some false then some [x, i] else none
      | _ => none
    | _ => none
  | .ext j => match op with
    | .extract x i => if i = j then some [x] else none
    | _ => none
  | .len => match op with
    | .call { callee := .builtin .len, args := ⟨[x]⟩, argTypes := ⟨[t]⟩ } => match P.underlying t with
      | some (.slice _) => some [x]
      | _ => none
    | _ => none
  | .lenA n => match op with
    | .call { callee := .builtin .len, args := ⟨[x]⟩, argTypes := ⟨[t]⟩ } => match P.underlying t with
      | some (.array n' _) => if n' = n then some [x] else none
      | _ => none
    | _ => none
  | .cap => match op with
    | .call { callee := .builtin .cap, args := ⟨[x]⟩, argTypes := ⟨[t]⟩ } => match P.underlying t with
      | some (.slice _) => some [x]
      | _ => none
    | _ => none
  | .app sz bytes => match op with
    | .call { callee := .builtin .append, args := ⟨[x, y]⟩, argTypes := ⟨[t, u]⟩ } => match P.underlying t, P.underlying u with
      | some (.slice e), some (.slice _) => match zeroC P e with
        | some zz => if sizeC P e = some sz ∧ bytesC P e = some bytes ∧ zz.length = sz ∧ bytes ≠ 0 then some [x, y] else none
        | none => none
      | _, _ => none
    | _ => none
  | .appZ sz bytes z => match op with
    | .call { callee := .builtin .append, args := ⟨[x, y]⟩, argTypes := ⟨[t, u]⟩ } => match P.underlying t, P.underlying u with
      | some (.slice e), some (.int _) => if sizeC P e = some sz ∧ bytesC P e = some bytes ∧ zOk P e z = true ∧ z.length = sz ∧ bytes ≠ 0 ∧ sz ≠ 0 then some [x, y] else none
      | _, _ => none
    | _ => none
  | .copy sz => match op with
    | .call { callee := .builtin .copy, args := ⟨[x, y]⟩, argTypes := ⟨[t, _]⟩ } => match P.underlying t with
      | some (.slice e) => if sizeC P e = some sz then some [x, y] else none
      | _ => none
    | _ => none
  | .mn => match op with
    | .call { callee := .builtin .min, args := ⟨[x, y]⟩, argTypes := ⟨[_, _]⟩ } => some [x, y]
    | _ => none
  | .mx => match op with
    | .call { callee := .builtin .max, args := ⟨[x, y]⟩, argTypes := ⟨[_, _]⟩ } => some [x, y]
    | _ => none
  | .call g => match op with
    | .call { callee := .value (.func f), args, .. } => if f = g ∧ hasBody P f = true then some args.toList else none
    | _ => none
  | .callv => match op with
    | .call { callee := .value (.tmp t), args, .. } => some (.tmp t :: args.toList)
    | _ => none
  | .strOf => match op with
    | .convert s d x => match P.underlying s, P.underlying d with
      | some (.slice e), some .string => match P.underlying e with
        | some (.int .u8) => some [x]
        | _ => none
      | _, _ => none
    | _ => none
  | .bytesOf => match op with
    | .convert s d x => match P.underlying s with
      | some (.slice e) => match P.underlying e with
        | some (.int .u8) => if s = d then some [x] else none
        | _ => none
      | _ => none
    | _ => none
  | .dead => some []

end Go.Proofs.Ytlohehkagaabfaa.Ah
