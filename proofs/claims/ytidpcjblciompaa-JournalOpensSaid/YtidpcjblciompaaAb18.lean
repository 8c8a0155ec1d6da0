/- The rules by which simp carries out code over abstract values: the other operations. -/
import Derived.Test.YtidpcjblciompaaAb17
set_option linter.unusedSimpArgs false
set_option linter.unusedVariables false
namespace Go.Ab
open Go

attribute [go_sem] true_and and_true List.length_cons List.length_nil List.drop_succ_cons List.drop_zero List.drop_nil List.take_succ_cons List.take_zero List.take_nil List.append_nil List.cons_append List.nil_append List.map_cons List.map_nil
  ne_eq not_false_eq_true reduceCtorEq Nat.zero_add Nat.add_zero

section
variable {P : Program} {U : TypeId → TI} {n : Nat} {ρ : Env} {h : Heap}
variable {d : Option Tmp} {t : TypeId} {p : String} {a : Array Edge} {g : Option (Nat × Bool)} {Q : AV → Heap → Prop} {k : AV → Prop}

@[go_sem] theorem agg_int (x : IntKind) : TK.agg (.int x) = false := rfl
@[go_sem] theorem agg_bool : TK.agg .bool = false := rfl
@[go_sem] theorem agg_str : TK.agg .str = false := rfl
@[go_sem] theorem agg_slice (x : TypeId) : TK.agg (.slice x) = false := rfl
@[go_sem] theorem agg_strct (x : List (Nat × TypeId)) : TK.agg (.strct x) = true := rfl
@[go_sem] theorem agg_ptr (x : TypeId) : TK.agg (.ptr x) = false := rfl
@[go_sem] theorem agg_arr (m : Nat) (x : TypeId) : TK.agg (.arr m x) = true := rfl
@[go_sem] theorem agg_iface : TK.agg .iface = false := rfl
@[go_sem] theorem agg_cplx (x : FloatKind) : TK.agg (.cplx x) = false := rfl
@[go_sem] theorem cells_agg (cs : List AV) : AV.cells (.agg cs) = cs := rfl
@[go_sem] theorem cells_v (x : Value) : AV.cells (.v x) = [.v x] := rfl
@[go_sem] theorem cells_s (x : List UInt8) : AV.cells (.s x) = [.s x] := rfl
@[go_sem] theorem cells_sl (x : List AV) (q : Perm) : AV.cells (.sl x q) = [.sl x q] := rfl
@[go_sem] theorem cells_ptr (i o : Nat) : AV.cells (.ptr i o) = [.ptr i o] := rfl
@[go_sem] theorem cells_pe (x : AV) (o : Nat) : AV.cells (.pe x o) = [.pe x o] := rfl
@[go_sem] theorem cells_oa (i o l : Nat) : AV.cells (.oa i o l) = [.oa i o l] := rfl
@[go_sem] theorem cells_fn (f : FuncId) (c : List AV) : AV.cells (.fn f c) = [.fn f c] := rfl
@[go_sem] theorem cells_ifc (f : TypeId) (c : AV) : AV.cells (.ifc f c) = [.ifc f c] := rfl
@[go_sem] theorem isAgg_agg (cs : List AV) : isAggA (.agg cs) = true := rfl
@[go_sem] theorem isAgg_v (x : Value) : isAggA (.v x) = false := rfl
@[go_sem] theorem isAgg_s (x : List UInt8) : isAggA (.s x) = false := rfl
@[go_sem] theorem isAgg_sl (x : List AV) (q : Perm) : isAggA (.sl x q) = false := rfl
@[go_sem] theorem isAgg_ptr (i o : Nat) : isAggA (.ptr i o) = false := rfl
@[go_sem] theorem isAgg_oa (i o l : Nat) : isAggA (.oa i o l) = false := rfl
@[go_sem] theorem fit_agg (cs : List AV) (m : Nat) : fit (.agg cs) m = (cs.length = m) := rfl
@[go_sem] theorem fit_int (x : IntKind) (i : Int) (m : Nat) : fit (.v (.int x i)) m = (m = 1) := by simp [fit, Value.oneCell']
@[go_sem] theorem fit_bool (i : Bool) (m : Nat) : fit (.v (.bool i)) m = (m = 1) := by simp [fit, Value.oneCell']
@[go_sem] theorem fit_nil (i : Option Addr) (m : Nat) : fit (.v (.pointer i)) m = (m = 1) := by simp [fit, Value.oneCell']
@[go_sem] theorem fit_nili (m : Nat) : fit (.v .nilIface) m = (m = 1) := by simp [fit, Value.oneCell']
@[go_sem] theorem fit_cplx (x : FloatKind) (i j : Nat) (m : Nat) : fit (.v (.complex x i j)) m = (m = 1) := by simp [fit, Value.oneCell']
@[go_sem] theorem fit_s (l : List UInt8) (m : Nat) : fit (.s l) m = (m = 1) := rfl
@[go_sem] theorem fit_sl (l : List AV) (q : Perm) (m : Nat) : fit (.sl l q) m = (m = 1) := rfl
@[go_sem] theorem fit_ptr (i o : Nat) (m : Nat) : fit (.ptr i o) m = (m = 1) := rfl
@[go_sem] theorem fit_oa (i o l : Nat) (m : Nat) : fit (.oa i o l) m = (m = 1) := rfl
@[go_sem] theorem fit_fn (f : FuncId) (c : List AV) (m : Nat) : fit (.fn f c) m = (m = 1) := rfl
@[go_sem] theorem fits_nil (m : Nat) : fits m [] = True := rfl
@[go_sem] theorem fits_cons (m : Nat) (y : AV) (r : List AV) : fits m (y :: r) = (fit y m ∧ fits m r) := rfl

@[go_sem ↓] theorem partA_eq (cs : List AV) (off : Nat) (i : TI) : partA cs off i k = Br i.k.agg (off + i.sz ≤ cs.length ∧ k (.agg ((cs.drop off).take i.sz))) (bindO cs[off]? k) := by
  unfold partA
  cases i.k.agg with
  | true => simp [Br]
  | false =>
    simp only [Br]
    cases cs[off]? <;> simp [bindO]
@[go_sem ↓] theorem atA_eq (y : AV) (off : Nat) (i : TI) : atA y off i k = if off = 0 ∧ y.cells.length = i.sz ∧ isAggA y = i.k.agg then k y else partA y.cells off i k := rfl

def fieldK (U : TypeId → TI) (f : Nat) (y : AV) (k : AV → Prop) (tk : TK) : Prop := match tk, y with
  | .strct fs, .agg cs => bindO fs[f]? fun q => (U q.2).sz ≠ 0 ∧ (U q.2).k ≠ .other ∧ partA cs q.1 (U q.2) k
  | _, _ => False
@[go_sem ↓] theorem fieldK_eq (f : Nat) (cs : List AV) (fs : List (Nat × TypeId)) : fieldK U f (.agg cs) k (.strct fs) = bindO fs[f]? fun q => (U q.2).sz ≠ 0 ∧ (U q.2).k ≠ .other ∧ partA cs q.1 (U q.2) k := rfl
@[go_sem ↓] theorem o_field (ty : TypeId) (x : Operand) (f : Nat) : vcOp P U ρ h ⟨d, .field ty x f, t, p, a, g⟩ Q = bindO (ev ρ x) fun y => atK (U ty).k (fieldK U f y (atH Q h)) := by
  simp only [vcOp, pv, withv_eq, atK]
  congr 1
  funext y
  cases (U ty).k <;> cases y <;> simp only [fieldK]
  rename_i fs cs
  cases fs[f]? <;> rfl

def tupA (y : AV) (i : Nat) (k : AV → Prop) : Prop := match y with
  | .tup vs => bindO vs[i]? k
  | _ => False
@[congr] theorem tupA_congr {y y' : AV} {i : Nat} (e : y = y') : tupA y i k = tupA y' i k := by rw [e]
@[go_sem ↓] theorem tupA_eq (vs : List AV) (i : Nat) : tupA (.tup vs) i k = bindO vs[i]? k := rfl
@[go_sem ↓] theorem o_extract (x : Operand) (i : Nat) : vcOp P U ρ h ⟨d, .extract x i, t, p, a, g⟩ Q = bindO (ev ρ x) fun y => tupA y i (atH Q h) := by
  simp only [vcOp, pv, withv_eq]
  congr 1
  funext y
  cases y <;> simp only [tupA]
  rename_i vs
  cases vs[i]? <;> simp [bindO, atH]

def strIx (tk : TK) (y z : AV) (k : AV → Prop) : Prop := match tk, y, z with
  | .str, .s l, .v (.int _ n) => IdxB l n k
  | _, _, _ => False
@[congr] theorem strIx_congr {tk tk' : TK} {y y' z z' : AV} (e0 : tk = tk') (e1 : y = y') (e2 : z = z') : strIx tk y z k = strIx tk' y' z' k := by rw [e0, e1, e2]
@[go_sem ↓] theorem strIx_eq (l : List UInt8) (x : IntKind) (m : Int) : strIx .str (.s l) (.v (.int x m)) k = IdxB l m k := rfl
@[go_sem ↓] theorem o_index (ty : TypeId) (x i : Operand) : vcOp P U ρ h ⟨d, .index ty x i, t, p, a, g⟩ Q = bindO (ev ρ x) fun y => bindO (ev ρ i) fun z => strIx (U ty).k y z (atH Q h) := by
  simp only [vcOp, pv, withv_eq]
  congr 1

def faddrK (U : TypeId → TI) (f : Nat) (y : AV) (k : AV → Prop) (tk : TK) : Prop := match tk with
  | .strct fs => bindO fs[f]? fun q => (U q.2).sz ≠ 0 ∧ match y with
    | .ptr id o => k (.ptr id (o + q.1))
    | .pe z o => k (.pe z (o + q.1))
    | _ => False
  | _ => False
@[go_sem ↓] theorem faddrK_ptr (f id o : Nat) (fs : List (Nat × TypeId)) : faddrK U f (.ptr id o) k (.strct fs) = bindO fs[f]? fun q => (U q.2).sz ≠ 0 ∧ k (.ptr id (o + q.1)) := rfl
@[go_sem ↓] theorem faddrK_pe (f o : Nat) (z : AV) (fs : List (Nat × TypeId)) : faddrK U f (.pe z o) k (.strct fs) = bindO fs[f]? fun q => (U q.2).sz ≠ 0 ∧ k (.pe z (o + q.1)) := rfl
@[go_sem ↓] theorem o_fieldAddr (ty : TypeId) (x : Operand) (f : Nat) : vcOp P U ρ h ⟨d, .fieldAddr ty x f, t, p, a, g⟩ Q = bindO (ev ρ x) fun y => atK (U ty).k (faddrK U f y (atH Q h)) := by
  simp only [vcOp, pv, withv_eq, atK]
  congr 1
  funext y
  cases (U ty).k <;> simp only [faddrK]
  rename_i fs
  cases fs[f]? with
  | none => rfl
  | some q => cases y <;> rfl

def iaddrK (U : TypeId → TI) (y z : AV) (k : AV → Prop) (tk : TK) : Prop := match tk, y, z with
  | .slice e, .sl xs _, .v (.int _ n) => (U e).sz ≠ 0 ∧ IdxE xs n (U e).sz k
  | .slice e, .oa id off len, .v (.int _ n) => (U e).sz ≠ 0 ∧ 0 ≤ n ∧ n < len ∧ k (.ptr id (off + n.toNat * (U e).sz))
  | .arr len e, .ptr id off, .v (.int _ n) => (U e).sz ≠ 0 ∧ 0 ≤ n ∧ n < len ∧ k (.ptr id (off + n.toNat * (U e).sz))
  | _, _, _ => False
@[go_sem ↓] theorem iaddrK_sl (xs : List AV) (q : Perm) (x : IntKind) (m : Int) (e : TypeId) : iaddrK U (.sl xs q) (.v (.int x m)) k (.slice e) = ((U e).sz ≠ 0 ∧ IdxE xs m (U e).sz k) := rfl
@[go_sem ↓] theorem iaddrK_oa (id off len : Nat) (x : IntKind) (m : Int) (e : TypeId) : iaddrK U (.oa id off len) (.v (.int x m)) k (.slice e) = ((U e).sz ≠ 0 ∧ 0 ≤ m ∧ m < len ∧ k (.ptr id (off + m.toNat * (U e).sz))) := rfl
@[go_sem ↓] theorem iaddrK_arr (id off len : Nat) (x : IntKind) (m : Int) (e : TypeId) : iaddrK U (.ptr id off) (.v (.int x m)) k (.arr len e) = ((U e).sz ≠ 0 ∧ 0 ≤ m ∧ m < len ∧ k (.ptr id (off + m.toNat * (U e).sz))) := rfl
@[go_sem ↓] theorem o_indexAddr (ty : TypeId) (x i : Operand) : vcOp P U ρ h ⟨d, .indexAddr ty x i, t, p, a, g⟩ Q = bindO (ev ρ x) fun y => bindO (ev ρ i) fun z => atK (U ty).k (iaddrK U y z (atH Q h)) := by
  simp only [vcOp, pv, withv_eq, atK]
  congr 1

/-- What an owned thing holds. -/
def objL (b : Blk) (f : List AV → TypeId → Prop) : Prop := match b with
  | .obj cs t => f cs t
  | _ => False
@[congr] theorem objL_congr {b b' : Blk} {f : List AV → TypeId → Prop} (e : b = b') : objL b f = objL b' f := by rw [e]
@[go_sem ↓] theorem objL_eq (cs : List AV) (t : TypeId) (f : List AV → TypeId → Prop) : objL (.obj cs t) f = f cs t := rfl
def loadA (U : TypeId → TI) (h : Heap) (ty : TypeId) (y : AV) (k : AV → Prop) : Prop := match y with
  | .ptr id off => bindO (h id) fun b => objL b fun cs _ => partA cs off (U ty) k
  | .pe z off => atA z off (U ty) k
  | _ => False
@[congr] theorem loadA_congr {ty : TypeId} {y y' : AV} (e : y = y') : loadA U h ty y k = loadA U h ty y' k := by rw [e]
@[go_sem ↓] theorem loadA_ptr (ty : TypeId) (id off : Nat) : loadA U h ty (.ptr id off) k = bindO (h id) fun b => objL b fun cs _ => partA cs off (U ty) k := rfl
@[go_sem ↓] theorem loadA_pe (ty : TypeId) (z : AV) (off : Nat) : loadA U h ty (.pe z off) k = atA z off (U ty) k := rfl
@[go_sem ↓] theorem o_load (ty : TypeId) (x : Operand) : vcOp P U ρ h ⟨d, .load ty x, t, p, a, g⟩ Q = ((U ty).sz ≠ 0 ∧ (U ty).k ≠ .other ∧ bindO (ev ρ x) fun y => loadA U h ty y (atH Q h)) := by
  simp only [vcOp, pv, withv_eq]
  congr 1
  congr 1
  congr 1
  funext y
  cases y with
  | ptr id off =>
    simp only [loadA]
    cases h id with
    | none => rfl
    | some b => cases b <;> rfl
  | _ => rfl

def intA (y : AV) (f : Int → Prop) : Prop := match y with
  | .v (.int _ m) => f m
  | _ => False
@[congr] theorem intA_congr {y y' : AV} {f : Int → Prop} (e : y = y') : intA y f = intA y' f := by rw [e]
@[go_sem ↓] theorem intA_eq (x : IntKind) (m : Int) (f : Int → Prop) : intA (.v (.int x m)) f = f m := rfl
@[go_sem ↓] theorem optA_none (m : Nat) (f : Int → Prop) : optA ρ none m f = f m := rfl
@[go_sem ↓] theorem optA_some (x : Operand) (m : Nat) (f : Int → Prop) : optA ρ (some x) m f = bindO (ev ρ x) fun y => intA y f := by
  simp only [optA, withv_eq]
  congr 1
def sliceK (U : TypeId → TI) (ρ : Env) (y : AV) (lo hi mx : Option Operand) (k : AV → Prop) (tk : TK) : Prop := match y with
  | .s l => tk = .str ∧ mx = none ∧ optA ρ lo 0 fun a => optA ρ hi l.length fun b => 0 ≤ a ∧ a ≤ b ∧ b ≤ l.length ∧ k (.s (cutL l a b lo.isSome hi.isSome))
  | .sl xs p => match tk with
    | .slice e => (U e).sz ≠ 0 ∧ (lo.isSome = true → ∀ z ∈ xs, z.cells.length = (U e).sz) ∧ match mx with
      | none => optA ρ lo 0 fun a => optA ρ hi xs.length fun b => 0 ≤ a ∧ a ≤ b ∧ b ≤ xs.length ∧ k (.sl (cutL xs a b lo.isSome hi.isSome) (cutP p lo.isSome hi.isSome))
      | some m => hi.isSome = true ∧ optA ρ lo 0 fun a => optA ρ hi xs.length fun b => optA ρ (some m) 0 fun c => 0 ≤ a ∧ a ≤ b ∧ b = c ∧ c ≤ xs.length ∧ k (.sl (cutL xs a b lo.isSome true) .full)
    | _ => False
  | .oa id off len => match tk with
    | .slice e => (U e).sz ≠ 0 ∧ (lo.isSome = true → (U e).sz = 1) ∧ mx = none ∧ optA ρ lo 0 fun a => optA ρ hi len fun b => 0 ≤ a ∧ a ≤ b ∧ b ≤ len ∧ k (.oa id (off + a.toNat * (U e).sz) (b.toNat - a.toNat))
    | _ => False
  | _ => False
@[go_sem ↓] theorem sliceK_s (l : List UInt8) (lo hi : Option Operand) : sliceK U ρ (.s l) lo hi none k .str = optA ρ lo 0 fun a => optA ρ hi l.length fun b => 0 ≤ a ∧ a ≤ b ∧ b ≤ l.length ∧ k (.s (cutL l a b lo.isSome hi.isSome)) := by simp [sliceK]
@[go_sem ↓] theorem sliceK_none (xs : List AV) (q : Perm) (hi : Option Operand) (e : TypeId) : sliceK U ρ (.sl xs q) none hi none k (.slice e) = ((U e).sz ≠ 0 ∧ optA ρ hi xs.length fun b => 0 ≤ b ∧ b ≤ xs.length ∧ k (.sl (cutL xs 0 b false hi.isSome) (cutP q false hi.isSome))) := by
  simp [sliceK, optA]
@[go_sem ↓] theorem sliceK_some (xs : List AV) (q : Perm) (lo : Operand) (hi : Option Operand) (e : TypeId) : sliceK U ρ (.sl xs q) (some lo) hi none k (.slice e) = ((U e).sz ≠ 0 ∧ Sized (U e).sz xs ∧ optA ρ (some lo) 0 fun a => optA ρ hi xs.length fun b => 0 ≤ a ∧ a ≤ b ∧ b ≤ xs.length ∧ k (.sl (cutL xs a b true hi.isSome) (cutP q true hi.isSome))) := by
  simp [sliceK, Sized]
@[go_sem ↓] theorem sliceK_mx (xs : List AV) (q : Perm) (hi mx : Operand) (e : TypeId) : sliceK U ρ (.sl xs q) none (some hi) (some mx) k (.slice e) = ((U e).sz ≠ 0 ∧ optA ρ (some hi) 0 fun b => optA ρ (some mx) 0 fun c => 0 ≤ b ∧ b = c ∧ c ≤ xs.length ∧ k (.sl (cutL xs 0 b false true) .full)) := by
  simp [sliceK, optA]
@[go_sem ↓] theorem sliceK_oa (id off len : Nat) (lo hi : Option Operand) (e : TypeId) : sliceK U ρ (.oa id off len) lo hi none k (.slice e) = ((U e).sz ≠ 0 ∧ (lo.isSome = true → (U e).sz = 1) ∧ optA ρ lo 0 fun a => optA ρ hi len fun b => 0 ≤ a ∧ a ≤ b ∧ b ≤ len ∧ k (.oa id (off + a.toNat * (U e).sz) (b.toNat - a.toNat))) := by
  simp [sliceK]
@[go_sem] theorem cutL_ff {α : Type} (xs : List α) (a b : Int) : cutL xs a b false false = xs := rfl
@[go_sem] theorem cutL_tf {α : Type} (xs : List α) (a b : Int) : cutL xs a b true false = xs.drop a.toNat := rfl
@[go_sem] theorem cutL_ft {α : Type} (xs : List α) (a b : Int) : cutL xs a b false true = xs.take b.toNat := rfl
@[go_sem] theorem cutL_tt {α : Type} (xs : List α) (a b : Int) : cutL xs a b true true = (xs.drop a.toNat).take (b.toNat - a.toNat) := rfl
@[go_sem] theorem cutP_ff (q : Perm) : cutP q false false = q := rfl
@[go_sem] theorem cutP_ft (q : Perm) : cutP q false true = .no := rfl
@[go_sem] theorem cutP_tt (q : Perm) : cutP q true true = .no := rfl
@[go_sem] theorem cutP_tf_full : cutP .full true false = .full := rfl
@[go_sem] theorem cutP_tf_no : cutP .no true false = .no := rfl
@[go_sem] theorem cutP_tf_own (i : Nat) : cutP (.own i) true false = .no := rfl
@[go_sem ↓] theorem o_slice (ty : TypeId) (x : Operand) (lo hi mx : Option Operand) : vcOp P U ρ h ⟨d, .slice ty x lo hi mx, t, p, a, g⟩ Q = bindO (ev ρ x) fun y => atK (U ty).k (sliceK U ρ y lo hi mx (atH Q h)) := by
  simp only [vcOp, pv, withv_eq, atK]
  congr 1

end
end Go.Ab
