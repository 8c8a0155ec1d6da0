/- What Go's operations that change nothing owned come to over abstract values. -/
import Derived.Test.YtidpcjblciompaaAb2
import Derived.Laws.Strings
set_option linter.unusedSimpArgs false
set_option linter.unusedVariables false
namespace Go.Ab
open Go

/-- What a type is. -/
inductive TK where
  | int (k : IntKind)
  | bool
  | str
  | slice (e : TypeId)
  | strct (fs : List (Nat × TypeId))
  | ptr (e : TypeId)
  | arr (n : Nat) (e : TypeId)
  | iface
  | cplx (k : FloatKind)
  | other

structure TI where
  k : TK
  sz : Nat
  bytes : Nat
  zero : AV

def TK.agg : TK → Bool
  | .strct _ | .arr _ _ => true
  | _ => false

/-- The program's types are as told. -/
structure AgreeT (P : Program) (U : TypeId → TI) (t : TypeId) : Prop where
  desc : match (U t).k with
    | .int k => P.underlying t = some (.int k)
    | .bool => P.underlying t = some .bool
    | .str => P.underlying t = some .string
    | .slice e => P.underlying t = some (.slice e)
    | .strct fs => ∃ fields : Array Field, P.underlying t = some (.struct fields) ∧ fields.toList.map (fun f => (f.offset, f.type)) = fs ∧ ∀ p ∈ fs, (U p.2).sz ≠ 0
    | .ptr e => P.underlying t = some (.pointer e)
    | .arr n e => P.underlying t = some (.array n e)
    | .iface => ∃ ms, P.underlying t = some (.interface ms)
    | .cplx k => P.underlying t = some (.complex k)
    | .other => True
  info : (U t).sz ≠ 0 → ∃ i, P.info? t = some i ∧ i.size = (U t).sz ∧ i.bytes = (U t).bytes ∧ ∃ z, i.zero = some z ∧ z.cells.size = (U t).sz ∧ ∀ c, Rep c (U t).zero z

def byteA (c : UInt8) : AV := .v (.int .u8 c.toNat)

/-- A constant's abstract value. -/
def ofV1 : Value → AV
  | .string b => if b.data.toList.length < lim then .s b.data.toList else .v (.string b)
  | .slice a l c => match a, l, c with
    | none, 0, 0 => .sl [] .full
    | a, l, c => .v (.slice a l c)
  | .func g a b => match g with
    | .func f => if a.size = 0 ∧ b.size = 0 then .fn f [] else .v (.func (.func f) a b)
    | g => .v (.func g a b)
  | x => .v x

def ofV : Value → AV
  | .agg cs => if cs.toList.all (fun x => x.oneCell') then .agg (cs.toList.map ofV1) else .v (.agg cs)
  | x => ofV1 x

theorem rep_ofV1 (c : Cx) (x : Value) : Rep c (ofV1 x) x := by
  cases x
  case string b =>
    simp only [ofV1]
    split
    · rename_i h; exact .s _ h
    · exact .v _
  case slice a l k =>
    simp only [ofV1]
    split
    · exact .sl [] .full none 0 0 (fun _ _ => undef) (Nat.le_refl _) (by decide) (fun _ => rfl) (fun q h _ => by cases h) (fun i h => by cases h) (fun q h => by cases h) (fun i h => by cases h) (fun i j h => by cases h) rfl
    · exact .v _
  case func g a b =>
    simp only [ofV1]
    split
    · split
      · rename_i h
        obtain ⟨h1, h2⟩ := h
        have e1 : a = #[] := Array.eq_empty_of_size_eq_zero h1
        have e2 : b = #[] := Array.eq_empty_of_size_eq_zero h2
        subst e1; subst e2
        exact .fn _ [] #[] rfl (fun i h => by cases h)
      · exact .v _
    · exact .v _
  all_goals exact .v _

theorem rep_ofV (c : Cx) (x : Value) : Rep c (ofV x) x := by
  unfold ofV
  split
  · rename_i cs
    split
    · rename_i h
      rw [List.all_eq_true] at h
      refine .agg _ _ (by simp) (fun i hi => ?_) (fun i hi => ?_)
      · have hi' : i < cs.size := by simpa using hi
        simp only [List.getElem_map, Array.getElem_toList]
        have e : cs.getD i undef = cs[i] := by simp [hi']
        rw [e]
        exact rep_ofV1 c _
      · have hi' : i < cs.size := by simpa using hi
        have e : cs.getD i undef = cs[i] := by simp [hi']
        rw [e]
        exact h _ (by simp)
    · exact .v _
  · exact rep_ofV1 c _

def ev (ρ : Env) : Operand → Option AV
  | .tmp t => lk ρ t
  | .const v => some (ofV v)
  | .global _ => none
  | .func f => some (.fn f [])

theorem ev_rep {c : Cx} {n : Nat} {ρ : Env} {a : Act} (h : EnvSat c n ρ a) {x : Operand} {y : AV} (hx : ev ρ x = some y) : Rep c y (a.eval x) := by
  cases x with
  | tmp t => exact h.rep t y hx
  | const v => simp only [ev, Option.some.injEq] at hx; subst hx; exact rep_ofV c v
  | global g => cases hx
  | func f => simp only [ev, Option.some.injEq] at hx; subst hx; exact .fn f [] #[] rfl (fun i h => by cases h)

def withv (ρ : Env) (x : Operand) (k : AV → Prop) : Prop :=
  match ev ρ x with
  | some y => k y
  | none => False

/-- The element at a place. -/
def Idx {α : Type} (xs : List α) (n : Int) (k : α → Prop) : Prop := 0 ≤ n ∧ ∃ x, xs[n.toNat]? = some x ∧ k x

def isAggA : AV → Bool
  | .agg _ => true
  | _ => false

/-- The part of cells at a place, of a type. -/
def partA (cs : List AV) (off : Nat) (i : TI) (k : AV → Prop) : Prop :=
  if i.k.agg then off + i.sz ≤ cs.length ∧ k (.agg ((cs.drop off).take i.sz)) else ∃ x, cs[off]? = some x ∧ k x

/-- What stands at a place that holds an abstract value for good. -/
def atA (y : AV) (off : Nat) (i : TI) (k : AV → Prop) : Prop :=
  if off = 0 ∧ y.cells.length = i.sz ∧ isAggA y = i.k.agg then k y else partA y.cells off i k

def binI (op : BinOp) (k : IntKind) (a b : Int) (K : AV → Prop) : Prop :=
  match op with
  | .add => K (.v (.int k (k.wrap (a + b))))
  | .sub => K (.v (.int k (k.wrap (a - b))))
  | .mul => K (.v (.int k (k.wrap (a * b))))
  | .quo => b ≠ 0 ∧ K (.v (.int k (k.wrap (a.tdiv b))))
  | .rem => b ≠ 0 ∧ K (.v (.int k (a.tmod b)))
  | .and => K (.v (.int k (k.wrap (BitVec.ofInt k.bits a &&& BitVec.ofInt k.bits b).toNat)))
  | .or => K (.v (.int k (k.wrap (BitVec.ofInt k.bits a ||| BitVec.ofInt k.bits b).toNat)))
  | .xor => K (.v (.int k (k.wrap (BitVec.ofInt k.bits a ^^^ BitVec.ofInt k.bits b).toNat)))
  | .andNot => K (.v (.int k (k.wrap (BitVec.ofInt k.bits a &&& ~~~ BitVec.ofInt k.bits b).toNat)))
  | .eql => K (.v (.bool (a == b)))
  | .neq => K (.v (.bool (a != b)))
  | .lss => K (.v (.bool (decide (a < b))))
  | .leq => K (.v (.bool (decide (a ≤ b))))
  | .gtr => K (.v (.bool (decide (b < a))))
  | .geq => K (.v (.bool (decide (b ≤ a))))
  | _ => False

def binSh (op : BinOp) (k : IntKind) (a b : Int) (K : AV → Prop) : Prop :=
  match op with
  | .shl => 0 ≤ b ∧ K (.v (.int k (k.wrap (a * 2 ^ (min b.toNat k.bits)))))
  | .shr => 0 ≤ b ∧ K (.v (.int k (a.fdiv (2 ^ (min b.toNat k.bits)))))
  | _ => False

def binS (op : BinOp) (a b : List UInt8) (K : AV → Prop) : Prop :=
  match op with
  | .add => a.length + b.length < lim ∧ K (.s (a ++ b))
  | .eql => K (.v (.bool (a == b)))
  | .neq => K (.v (.bool (!(a == b))))
  | .lss => K (.v (.bool (Op.bytesLess a b)))
  | .leq => K (.v (.bool (Op.bytesLess a b || a == b)))
  | .gtr => K (.v (.bool (!(Op.bytesLess a b || a == b))))
  | .geq => K (.v (.bool (!(Op.bytesLess a b))))
  | _ => False

/-- Is the value known to be nil, or known not to be? -/
def nilA : AV → Option Bool
  | .v (.pointer none) => some true
  | .ptr .. | .pe .. => some false
  | _ => none

def isShift : BinOp → Bool
  | .shl | .shr => true
  | _ => false

def binB (U : TypeId → TI) (op : BinOp) (ty : TypeId) (a b : Bool) (K : AV → Prop) : Prop :=
  match (U ty).k, op with
  | .bool, .eql => K (.v (.bool (a == b)))
  | .bool, .neq => K (.v (.bool (!(a == b))))
  | _, _ => False

def binN (U : TypeId → TI) (op : BinOp) (ty : TypeId) (x : AV) (K : AV → Prop) : Prop :=
  match (U ty).k, op, nilA x with
  | .ptr _, .eql, some n => K (.v (.bool n))
  | .ptr _, .neq, some n => K (.v (.bool (!n)))
  | _, _, _ => False

def binA (U : TypeId → TI) (op : BinOp) (ty : TypeId) (x y : AV) (K : AV → Prop) : Prop :=
  match y with
  | .v (.int k' b) => match x with
    | .v (.int k a) => if isShift op then binSh op k a b K else k = k' ∧ binI op k a b K
    | _ => False
  | .s b => match x with
    | .s a => binS op a b K
    | _ => False
  | .v (.bool b) => match x with
    | .v (.bool a) => binB U op ty a b K
    | _ => False
  | .v (.pointer none) => binN U op ty x K
  | _ => False

def minA : List AV → (AV → Prop) → Prop
  | [.v (.int k a), .v (.int k' b)], K => k = k' ∧ K (.v (.int k (if b < a then b else a)))
  | _, _ => False

def maxA : List AV → (AV → Prop) → Prop
  | [.v (.int k a), .v (.int k' b)], K => k = k' ∧ K (.v (.int k (if a < b then b else a)))
  | _, _ => False

def evs (ρ : Env) : List Operand → Option (List AV)
  | [] => some []
  | x :: r => match ev ρ x, evs ρ r with
    | some y, some ys => some (y :: ys)
    | _, _ => none

def withvs (ρ : Env) (xs : List Operand) (k : List AV → Prop) : Prop :=
  match evs ρ xs with
  | some ys => k ys
  | none => False

/-- A bound of a cut. -/
def optA (ρ : Env) (x : Option Operand) (dflt : Nat) (k : Int → Prop) : Prop :=
  match x with
  | none => k dflt
  | some o => withv ρ o fun | .v (.int _ n) => k n | _ => False

def cutL {α : Type} (xs : List α) (a b : Int) : Bool → Bool → List α
  | false, false => xs
  | true, false => xs.drop a.toNat
  | false, true => xs.take b.toNat
  | true, true => (xs.drop a.toNat).take (b.toNat - a.toNat)

def cutP (p : Perm) : Bool → Bool → Perm
  | false, false => p
  | true, false => match p with
    | .full => .full
    | _ => .no
  | _, _ => .no

/-- A cut. -/
def pvSlice (U : TypeId → TI) (ρ : Env) (ty : TypeId) (y : AV) (lo hi mx : Option Operand) (k : AV → Prop) : Prop :=
  match y with
  | .s l => (U ty).k = .str ∧ mx = none ∧ optA ρ lo 0 fun a => optA ρ hi l.length fun b => 0 ≤ a ∧ a ≤ b ∧ b ≤ l.length ∧ k (.s (cutL l a b lo.isSome hi.isSome))
  | .sl xs p => match (U ty).k with
    | .slice e => (U e).sz ≠ 0 ∧ (lo.isSome = true → ∀ z ∈ xs, z.cells.length = (U e).sz) ∧ match mx with
      | none => optA ρ lo 0 fun a => optA ρ hi xs.length fun b => 0 ≤ a ∧ a ≤ b ∧ b ≤ xs.length ∧ k (.sl (cutL xs a b lo.isSome hi.isSome) (cutP p lo.isSome hi.isSome))
      | some m => hi.isSome = true ∧ optA ρ lo 0 fun a => optA ρ hi xs.length fun b => optA ρ (some m) 0 fun c => 0 ≤ a ∧ a ≤ b ∧ b = c ∧ c ≤ xs.length ∧ k (.sl (cutL xs a b lo.isSome true) .full)
    | _ => False
  | .oa id off len => match (U ty).k with
    | .slice e => (U e).sz ≠ 0 ∧ (lo.isSome = true → (U e).sz = 1) ∧ mx = none ∧ optA ρ lo 0 fun a => optA ρ hi len fun b => 0 ≤ a ∧ a ≤ b ∧ b ≤ len ∧ k (.oa id (off + a.toNat * (U e).sz) (b.toNat - a.toNat))
    | _ => False
  | _ => False

/-- Builtin functions that change nothing owned. -/
def pvB (U : TypeId → TI) (ρ : Env) (b : Builtin) (args : List Operand) (ts : List TypeId) (k : AV → Prop) : Prop :=
  match b with
  | .len => match args, ts with
    | [x], [t] => withv ρ x fun y => match (U t).k, y with
      | .str, .s l => k (.v (.int .i64 l.length))
      | .slice _, .sl xs _ => k (.v (.int .i64 xs.length))
      | .slice _, .oa _ _ len => k (.v (.int .i64 len))
      | _, _ => False
    | _, _ => False
  | .cap => match args, ts with
    | [x], [t] => withv ρ x fun y => match (U t).k, y with
      | .slice _, .sl xs .full => k (.v (.int .i64 xs.length))
      | _, _ => False
    | _, _ => False
  | .min => withvs ρ args fun ys => minA ys k
  | .max => withvs ρ args fun ys => maxA ys k
  | _ => False

/-- Does an abstract value fill so many cells? -/
def fit (y : AV) (n : Nat) : Prop :=
  match y with
  | .agg cs => cs.length = n
  | .v x => x.oneCell' = true ∧ n = 1
  | .tup _ => False
  | _ => n = 1

def fits (n : Nat) : List AV → Prop
  | [] => True
  | y :: r => fit y n ∧ fits n r

/-- The parts of a struct laid over its zero value. -/
def withps (U : TypeId → TI) (ρ : Env) (fs : List (Nat × TypeId)) : List (Nat × Operand) → List AV → (List AV → Prop) → Prop
  | [], cs, k => k cs
  | (i, x) :: r, cs, k => match fs[i]? with
    | some (off, t) => (U t).sz ≠ 0 ∧ withv ρ x fun y => fit y (U t).sz ∧ off + (U t).sz ≤ cs.length ∧ withps U ρ fs r (over cs off y.cells) k
    | none => False

/-- The operations that change nothing owned. -/
def pv (U : TypeId → TI) (ρ : Env) (h : Heap) (op : Op) (k : AV → Prop) : Prop :=
  match op with
  | .move x | .assign x => withv ρ x k
  | .pick c a b => withv ρ c fun
    | .v (.bool true) => withv ρ a k
    | .v (.bool false) => withv ρ b k
    | _ => False
  | .nilCheck x => withv ρ x fun y => match y with
    | .ptr .. | .pe .. | .fn .. => k y
    | _ => False
  | .binOp op ty x y _ => withv ρ x fun a => withv ρ y fun b => binA U op ty a b k
  | .unOp op _ x => withv ρ x fun y => match op, y with
    | .not, .v (.bool b) => k (.v (.bool (!b)))
    | .neg, .v (.int kk n) => k (.v (.int kk (kk.wrap (0 - n))))
    | .xor, .v (.int kk n) => k (.v (.int kk (kk.wrap (BitVec.ofInt kk.bits (if kk.signed then -1 else kk.max) ^^^ BitVec.ofInt kk.bits n).toNat)))
    | _, _ => False
  | .convert src dst x => withv ρ x fun y => match (U src).k, (U dst).k, y with
    | .int _, .int kk, .v (.int _ n) => k (.v (.int kk (kk.wrap n)))
    | .str, .str, .s l => k (.s l)
    | .slice e, .str, .sl xs _ => match (U e).k with
      | .int .u8 => ∃ l : List UInt8, xs = l.map byteA ∧ k (.s l)
      | _ => False
    | .str, .slice e, .s l => match (U e).k with
      | .int .u8 => k (.sl (l.map byteA) .no)
      | _ => False
    | _, _, _ => False
  | .field ty x f => withv ρ x fun y => match (U ty).k, y with
    | .strct fs, .agg cs => match fs[f]? with
      | some (off, t) => (U t).sz ≠ 0 ∧ (U t).k ≠ .other ∧ partA cs off (U t) k
      | none => False
    | _, _ => False
  | .extract x i => withv ρ x fun y => match y with
    | .tup vs => ∃ z, vs[i]? = some z ∧ k z
    | _ => False
  | .index ty x i => withv ρ x fun y => withv ρ i fun z => match (U ty).k, y, z with
    | .str, .s l, .v (.int _ n) => Idx l n fun b => k (byteA b)
    | _, _, _ => False
  | .fieldAddr ty x f => withv ρ x fun y => match (U ty).k with
    | .strct fs => match fs[f]? with
      | some (off, t) => (U t).sz ≠ 0 ∧ match y with
        | .ptr id o => k (.ptr id (o + off))
        | .pe z o => k (.pe z (o + off))
        | _ => False
      | none => False
    | _ => False
  | .indexAddr ty x i => withv ρ x fun y => withv ρ i fun z => match (U ty).k, y, z with
    | .slice e, .sl xs _, .v (.int _ n) => (U e).sz ≠ 0 ∧ Idx xs n fun b => b.cells.length = (U e).sz ∧ k (.pe b 0)
    | .slice e, .oa id off len, .v (.int _ n) => (U e).sz ≠ 0 ∧ 0 ≤ n ∧ n < len ∧ k (.ptr id (off + n.toNat * (U e).sz))
    | .arr len e, .ptr id off, .v (.int _ n) => (U e).sz ≠ 0 ∧ 0 ≤ n ∧ n < len ∧ k (.ptr id (off + n.toNat * (U e).sz))
    | _, _, _ => False
  | .load ty x => (U ty).sz ≠ 0 ∧ (U ty).k ≠ .other ∧ withv ρ x fun y => match y with
    | .ptr id off => match h id with
      | some (.obj cs _) => partA cs off (U ty) k
      | _ => False
    | .pe z off => atA z off (U ty) k
    | _ => False
  | .slice ty x lo hi mx => withv ρ x fun y => pvSlice U ρ ty y lo hi mx k
  | .buildSlice ty len parts => match (U ty).k with
    | .slice e => (U e).sz ≠ 0 ∧ len * (U e).sz ≤ 2 ^ 24 ∧ parts.toList.map (·.1) = List.range len ∧
        withvs ρ (parts.toList.map (·.2)) fun xs => fits (U e).sz xs ∧ k (.sl xs .full)
    | _ => False
  | .build ty parts => match (U ty).k with
    | .strct fs => (U ty).sz ≠ 0 ∧ ∃ cs0, (U ty).zero = .agg cs0 ∧ withps U ρ fs parts.toList cs0 fun cs => k (.agg cs)
    | _ => False
  | .makeInterface ty x => (match (U ty).k with | .iface | .other => False | _ => True) ∧ withv ρ x fun y => k (.ifc ty y)
  | .makeFunc fn first cap => match fn, first.toList with
    | .func f, [] => withvs ρ cap.toList fun ys => k (.fn f ys)
    | _, _ => False
  | .call c => match c.callee with
    | .builtin b => pvB U ρ b c.args.toList c.argTypes.toList k
    | _ => False
  | _ => False

/-- A part of what is owned. -/
def Sub (h h' : Heap) : Prop := ∀ id k, h id = some k → h' id = some k

/-- An operation that comes to this value wherever, and changes nothing owned. -/
def PureOK (P : Program) (o : Oper) (ρ : Env) (h : Heap) (X : AV) : Prop :=
  ∀ c a n, Sub h c.h → Good c → EnvSat c n ρ a → ∃ u c', (execOp a.eval o).run P c.w = .ok (.value u) c'.w ∧ Good c' ∧ Ext c c' ∧ c'.h = c.h ∧ Rep c' X u

end Go.Ab
