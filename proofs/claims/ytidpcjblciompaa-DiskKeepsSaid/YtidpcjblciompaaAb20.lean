/- The rules by which simp carries out code over abstract values: regions that draw their order, copy. -/
import Derived.Test.YtidpcjblciompaaAb19
set_option linter.unusedSimpArgs false
set_option linter.unusedVariables false
namespace Go.Ab
open Go

section
variable {P : Program} {U : TypeId → TI} {n : Nat} {ρ : Env} {h : Heap}
variable {d : Option Tmp} {t : TypeId} {p : String} {a : Array Edge} {g : Option (Nat × Bool)} {Q : AV → Heap → Prop} {k : AV → Prop}

/-- The slots that a row writes. -/
def dsts (n : Nat) : List Oper → Bool
  | [] => true
  | o :: os => dstOK n o.dst && dsts n os
theorem dsts_eq (l : List Oper) : dsts n l = l.all fun o => dstOK n o.dst := by induction l with
  | nil => rfl
  | cons o os ih => simp [dsts, ih]
@[go_sem] theorem dsts_nil : (dsts n [] = true) = True := by simp [dsts]
@[go_sem] theorem dsts_cons (o : Oper) (os : List Oper) : (dsts n (o :: os) = true) = (dstOK n o.dst = true ∧ dsts n os = true) := by simp [dsts]
/-- May the region's order be left open? -/
def LexOK (ops : Array Oper) : Prop := lexOK ops = true
theorem LexOK.of {ops : Array Oper} (h : lexOK ops = true) : LexOK ops := h
def constK (k : AV → Prop) (x : AV) (_ : Heap) : Prop := k x
@[go_sem ↓] theorem constK_eq (x : AV) : constK k x h = k x := rfl

/-- What comes behind an operation of a region that draws. -/
def KDr (P : Program) (U : TypeId → TI) (n : Nat) (all os : List Oper) (h : Heap) (K : Env → Prop) (ρ : Env) (d : Option Tmp) (x : AV) : Prop := vcDr P U n all os (put ρ d x) h K
@[go_sem ↓] theorem KDr_eq (all os : List Oper) (K : Env → Prop) (x : AV) : KDr P U n all os h K ρ d x = vcDr P U n all os (put ρ d x) h K := rfl
def atN (K : Exit → Env → Heap → Prop) (h : Heap) (ρ : Env) : Prop := K .normal ρ h
@[go_sem ↓] theorem atN_eq (K : Exit → Env → Heap → Prop) : atN K h ρ = K .normal ρ h := rfl
/-- May the order of all but the last be left open? -/
def LexS (ops : Array Oper) : Prop := lexS ops = true
theorem LexS.of {ops : Array Oper} (h : lexS ops = true) : LexS ops := h
attribute [go_sem] isStore Option.isNone_none Option.isNone_some Bool.and_true Bool.true_and Bool.and_false Bool.false_and List.dropLast_singleton
@[go_sem] theorem lastS_one (o : Oper) : lastS [o] = (isStore o.op && o.guard.isNone) := rfl
@[go_sem] theorem lastS_cons (o o' : Oper) (r : List Oper) : lastS (o :: o' :: r) = lastS (o' :: r) := rfl
@[go_sem] theorem dropLast_cons (o o' : Oper) (r : List Oper) : (o :: o' :: r).dropLast = o :: (o' :: r).dropLast := rfl
@[go_sem ↓] theorem lastK_one (o : Oper) (K : Env → Heap → Prop) : lastK P U [o] h K ρ = vcOp P U ρ h o (fun X h' => K (put ρ o.dst X) h') := rfl
@[go_sem ↓] theorem lastK_cons (o o' : Oper) (r : List Oper) (K : Env → Heap → Prop) : lastK P U (o :: o' :: r) h K ρ = lastK P U (o' :: r) h K ρ := rfl
def withL (l : List Oper) (k : List Oper → Prop) : Prop := k l
@[congr] theorem withL_congr {l l' : List Oper} {k : List Oper → Prop} (e : l = l') : withL l k = withL l' k := by rw [e]
@[go_sem] theorem withL_nil (k : List Oper → Prop) : withL [] k = k [] := rfl
@[go_sem] theorem withL_cons (o : Oper) (r : List Oper) (k : List Oper → Prop) : withL (o :: r) k = k (o :: r) := rfl
/-- A region that draws: which kind is it? -/
def DrawC (P : Program) (U : TypeId → TI) (n : Nat) (l : List Oper) (ρ : Env) (h : Heap) (K : Exit → Env → Heap → Prop) (b : Bool) : Prop := match b with
  | true => LexS l.toArray ∧ dsts n l = true ∧ vcDr P U n l l.dropLast ρ h (lastK P U l h (K .normal))
  | false => LexOK l.toArray ∧ dsts n l = true ∧ vcDr P U n l l ρ h (atN K h)
@[congr] theorem DrawC_congr {l : List Oper} {K : Exit → Env → Heap → Prop} {b b' : Bool} (e : b = b') : DrawC P U n l ρ h K b = DrawC P U n l ρ h K b' := by rw [e]
@[go_sem ↓] theorem DrawC_true (l : List Oper) (K : Exit → Env → Heap → Prop) : DrawC P U n l ρ h K true = (LexS l.toArray ∧ dsts n l = true ∧ withL l.dropLast fun l' => vcDr P U n l l' ρ h (lastK P U l h (K .normal))) := rfl
@[go_sem ↓] theorem DrawC_false (l : List Oper) (K : Exit → Env → Heap → Prop) : DrawC P U n l ρ h K false = (LexOK l.toArray ∧ dsts n l = true ∧ vcDr P U n l l ρ h (atN K h)) := rfl
@[go_sem ↓] theorem r_draw (id : Nat) (l : List Oper) (K : Exit → Env → Heap → Prop) : vcCode P U n (.region id l.toArray true) ρ h K = DrawC P U n l ρ h K (lastS l) := by
  simp only [vcCode, if_true]
  cases lastS l with
  | true => simp only [if_true, Bool.and_eq_true, DrawC, LexS, dsts_eq, and_assoc]
  | false =>
    simp only [Bool.false_eq_true, if_false, Bool.and_eq_true, DrawC, LexOK, dsts_eq, and_assoc]
    rfl
@[go_sem ↓] theorem d_nil (all : List Oper) (K : Env → Prop) : vcDr P U n all [] ρ h K = K ρ := rfl
@[go_sem ↓] theorem d_cons (all : List Oper) (op : Op) (os : List Oper) (K : Env → Prop) :
    vcDr P U n all (⟨d, op, t, p, a, none⟩ :: os) ρ h K = (dstOK n d = true ∧ vcD1 P U ρ h ⟨d, op, t, p, a, none⟩ (KDr P U n all os h K ρ d)) := rfl
/-- A guard within a region that draws. -/
def GuardD (P : Program) (U : TypeId → TI) (n : Nat) (all os : List Oper) (ρ : Env) (h : Heap) (K : Env → Prop) (w : Bool) (d : Option Tmp) (op : Op) (t : TypeId) (p : String) (a : Array Edge) (g : Option (Nat × Bool)) (s : Nat) (x : AV) : Prop :=
  gB s w ρ (fun ρ => vcD1 P U ρ h ⟨d, op, t, p, a, g⟩ (KDr P U n all os h K ρ d)) (fun ρ => vcDr P U n all os (put ρ d (.v undef)) h K) x
section
variable {all os : List Oper} {K : Env → Prop} {op : Op} {s : Nat}
@[go_sem ↓] theorem GuardD_tt : GuardD P U n all os ρ h K true d op t p a g s (.v (.bool true)) = vcD1 P U ((s, .v (.bool true)) :: ρ) h ⟨d, op, t, p, a, g⟩ (KDr P U n all os h K ((s, .v (.bool true)) :: ρ) d) := by simp [GuardD, gB, Br]
@[go_sem ↓] theorem GuardD_tf : GuardD P U n all os ρ h K true d op t p a g s (.v (.bool false)) = vcDr P U n all os (put ((s, .v (.bool false)) :: ρ) d (.v undef)) h K := by simp [GuardD, gB, Br]
@[go_sem ↓] theorem GuardD_ft : GuardD P U n all os ρ h K false d op t p a g s (.v (.bool true)) = vcDr P U n all os (put ((s, .v (.bool true)) :: ρ) d (.v undef)) h K := by simp [GuardD, gB, Br]
@[go_sem ↓] theorem GuardD_ff : GuardD P U n all os ρ h K false d op t p a g s (.v (.bool false)) = vcD1 P U ((s, .v (.bool false)) :: ρ) h ⟨d, op, t, p, a, g⟩ (KDr P U n all os h K ((s, .v (.bool false)) :: ρ) d) := by simp [GuardD, gB, Br]
@[go_sem ↓] theorem GuardD_undef (w : Bool) : GuardD P U n all os ρ h K w d op t p a g s (.v undef) = vcDr P U n all os (put ρ d (.v undef)) h K := rfl
theorem GuardD.intro {w b : Bool} (h1 : b = true → GuardD P U n all os ρ h K w d op t p a g s (.v (.bool true))) (h2 : b = false → GuardD P U n all os ρ h K w d op t p a g s (.v (.bool false))) : GuardD P U n all os ρ h K w d op t p a g s (.v (.bool b)) := by
  cases b
  · exact h2 rfl
  · exact h1 rfl
end
@[go_sem ↓] theorem d_guard (all : List Oper) (op : Op) (gi : Nat) (w : Bool) (os : List Oper) (K : Env → Prop) :
    vcDr P U n all (⟨d, op, t, p, a, some (gi, w)⟩ :: os) ρ h K = (dstOK n d = true ∧ bindO (dstAt all gi) fun s => bindO (lk ρ s) (GuardD P U n all os ρ h K w d op t p a (some (gi, w)) s)) := by
  have := guardA_eq (ρ := ρ) all gi w (fun ρ => vcD1 P U ρ h ⟨d, op, t, p, a, some (gi, w)⟩ (KDr P U n all os h K ρ d)) (fun ρ => vcDr P U n all os (put ρ d (.v undef)) h K)
  show (dstOK n d = true ∧ guardA all ρ (some (gi, w)) _ _) = _
  rw [show (fun s => bindO (lk ρ s) (GuardD P U n all os ρ h K w d op t p a (some (gi, w)) s)) = fun d_1 => bindO (lk ρ d_1) fun x => gB d_1 w ρ (fun ρ => vcD1 P U ρ h ⟨d, op, t, p, a, some (gi, w)⟩ (KDr P U n all os h K ρ d)) (fun ρ => vcDr P U n all os (put ρ d (.v undef)) h K) x from rfl, ← this]
  rfl

/-- A call of a function that changes nothing owned and comes to a value that hangs on nothing but its arguments. -/
def FnD (P : Program) (f : FuncId) (args : List AV) (h : Heap) (k : AV → Prop) : Prop := ∃ X, FnOK P f args h (fun x h' => x = X ∧ h' = h) ∧ k X
@[congr] theorem FnD_congr {f f' : FuncId} {a a' : List AV} {h h' : Heap} (h0 : f = f') (h1 : a = a') (h2 : h = h') : FnD P f a h k = FnD P f' a' h' k := by rw [h0, h1, h2]
@[go_sem ↓] theorem d1_call (q : Operand) (args : List Operand) (ts : Array TypeId) : vcD1 P U ρ h ⟨d, .call ⟨.value q, args.toArray, ts⟩, t, p, a, g⟩ k = bindO (ev ρ q) fun y => fnA y fun f cap => bindO (evs ρ args) fun ys => FnD P f (ys ++ cap) h k := by
  simp only [vcD1, withv_eq, withvs_eq]
  congr 1
/-- All else reads as it does elsewhere. -/
def opD (P : Program) (U : TypeId → TI) (ρ : Env) (h : Heap) (d : Option Tmp) (op : Op) (t : TypeId) (p : String) (a : Array Edge) (g : Option (Nat × Bool)) (k : AV → Prop) : Prop := vcOp P U ρ h ⟨d, op, t, p, a, g⟩ (constK k)
@[go_sem ↓] theorem opD_eq (op : Op) : opD P U ρ h d op t p a g k = vcOp P U ρ h ⟨d, op, t, p, a, g⟩ (constK k) := rfl
section
@[go_sem ↓] theorem d1_move (x : Operand) : vcD1 P U ρ h ⟨d, .move x, t, p, a, g⟩ k = opD P U ρ h d (.move x) t p a g k := rfl
@[go_sem ↓] theorem d1_assign (x : Operand) : vcD1 P U ρ h ⟨d, .assign x, t, p, a, g⟩ k = opD P U ρ h d (.assign x) t p a g k := rfl
@[go_sem ↓] theorem d1_pick (x y z : Operand) : vcD1 P U ρ h ⟨d, .pick x y z, t, p, a, g⟩ k = opD P U ρ h d (.pick x y z) t p a g k := rfl
@[go_sem ↓] theorem d1_nilCheck (x : Operand) : vcD1 P U ρ h ⟨d, .nilCheck x, t, p, a, g⟩ k = opD P U ρ h d (.nilCheck x) t p a g k := rfl
theorem d1_bin0 (op : BinOp) (ty ty' : TypeId) (x y : Operand) (hy : nilS y = false) : vcD1 P U ρ h ⟨d, .binOp op ty x y ty', t, p, a, g⟩ k = opD P U ρ h d (.binOp op ty x y ty') t p a g k := by
  simp only [vcD1, opD, vcOp, hy]
  rfl
@[go_sem ↓] theorem d1_binOp (op : BinOp) (ty ty' : TypeId) (x : Operand) (y : Tmp) : vcD1 P U ρ h ⟨d, .binOp op ty x (.tmp y) ty', t, p, a, g⟩ k = opD P U ρ h d (.binOp op ty x (.tmp y) ty') t p a g k := d1_bin0 _ _ _ _ _ rfl
@[go_sem ↓] theorem d1_binOp_i (op : BinOp) (ty ty' : TypeId) (x : Operand) (ik : IntKind) (im : Int) : vcD1 P U ρ h ⟨d, .binOp op ty x (.const (.int ik im)) ty', t, p, a, g⟩ k = opD P U ρ h d (.binOp op ty x (.const (.int ik im)) ty') t p a g k := d1_bin0 _ _ _ _ _ rfl
@[go_sem ↓] theorem d1_binOp_b (op : BinOp) (ty ty' : TypeId) (x : Operand) (b : Bool) : vcD1 P U ρ h ⟨d, .binOp op ty x (.const (.bool b)) ty', t, p, a, g⟩ k = opD P U ρ h d (.binOp op ty x (.const (.bool b)) ty') t p a g k := d1_bin0 _ _ _ _ _ rfl
@[go_sem ↓] theorem d1_binOp_s (op : BinOp) (ty ty' : TypeId) (x : Operand) (b : ByteArray) : vcD1 P U ρ h ⟨d, .binOp op ty x (.const (.string b)) ty', t, p, a, g⟩ k = opD P U ρ h d (.binOp op ty x (.const (.string b)) ty') t p a g k := d1_bin0 _ _ _ _ _ rfl
@[go_sem ↓] theorem d1_binOp_p (op : BinOp) (ty ty' : TypeId) (x : Operand) (b : Option Addr) : vcD1 P U ρ h ⟨d, .binOp op ty x (.const (.pointer b)) ty', t, p, a, g⟩ k = opD P U ρ h d (.binOp op ty x (.const (.pointer b)) ty') t p a g k := d1_bin0 _ _ _ _ _ rfl
@[go_sem ↓] theorem d1_unOp (op : UnOp) (ty : TypeId) (x : Operand) : vcD1 P U ρ h ⟨d, .unOp op ty x, t, p, a, g⟩ k = opD P U ρ h d (.unOp op ty x) t p a g k := rfl
@[go_sem ↓] theorem d1_convert (s e : TypeId) (x : Operand) : vcD1 P U ρ h ⟨d, .convert s e x, t, p, a, g⟩ k = opD P U ρ h d (.convert s e x) t p a g k := rfl
@[go_sem ↓] theorem d1_field (ty : TypeId) (x : Operand) (f : Nat) : vcD1 P U ρ h ⟨d, .field ty x f, t, p, a, g⟩ k = opD P U ρ h d (.field ty x f) t p a g k := rfl
@[go_sem ↓] theorem d1_extract (x : Operand) (i : Nat) : vcD1 P U ρ h ⟨d, .extract x i, t, p, a, g⟩ k = opD P U ρ h d (.extract x i) t p a g k := rfl
@[go_sem ↓] theorem d1_index (ty : TypeId) (x i : Operand) : vcD1 P U ρ h ⟨d, .index ty x i, t, p, a, g⟩ k = opD P U ρ h d (.index ty x i) t p a g k := rfl
@[go_sem ↓] theorem d1_fieldAddr (ty : TypeId) (x : Operand) (f : Nat) : vcD1 P U ρ h ⟨d, .fieldAddr ty x f, t, p, a, g⟩ k = opD P U ρ h d (.fieldAddr ty x f) t p a g k := rfl
@[go_sem ↓] theorem d1_indexAddr (ty : TypeId) (x i : Operand) : vcD1 P U ρ h ⟨d, .indexAddr ty x i, t, p, a, g⟩ k = opD P U ρ h d (.indexAddr ty x i) t p a g k := rfl
@[go_sem ↓] theorem d1_load (ty : TypeId) (x : Operand) : vcD1 P U ρ h ⟨d, .load ty x, t, p, a, g⟩ k = opD P U ρ h d (.load ty x) t p a g k := rfl
@[go_sem ↓] theorem d1_slice (ty : TypeId) (x : Operand) (lo hi mx : Option Operand) : vcD1 P U ρ h ⟨d, .slice ty x lo hi mx, t, p, a, g⟩ k = opD P U ρ h d (.slice ty x lo hi mx) t p a g k := rfl
@[go_sem ↓] theorem d1_buildSlice (ty : TypeId) (len : Nat) (parts : Array (Nat × Operand)) : vcD1 P U ρ h ⟨d, .buildSlice ty len parts, t, p, a, g⟩ k = opD P U ρ h d (.buildSlice ty len parts) t p a g k := rfl
@[go_sem ↓] theorem d1_build (ty : TypeId) (parts : Array (Nat × Operand)) : vcD1 P U ρ h ⟨d, .build ty parts, t, p, a, g⟩ k = opD P U ρ h d (.build ty parts) t p a g k := rfl
@[go_sem ↓] theorem d1_makeInterface (ty : TypeId) (x : Operand) : vcD1 P U ρ h ⟨d, .makeInterface ty x, t, p, a, g⟩ k = opD P U ρ h d (.makeInterface ty x) t p a g k := rfl
@[go_sem ↓] theorem d1_len (x : Operand) (ty : TypeId) : vcD1 P U ρ h ⟨d, .call ⟨.builtin .len, #[x], #[ty]⟩, t, p, a, g⟩ k = opD P U ρ h d (.call ⟨.builtin .len, #[x], #[ty]⟩) t p a g k := rfl
@[go_sem ↓] theorem d1_cap (x : Operand) (ty : TypeId) : vcD1 P U ρ h ⟨d, .call ⟨.builtin .cap, #[x], #[ty]⟩, t, p, a, g⟩ k = opD P U ρ h d (.call ⟨.builtin .cap, #[x], #[ty]⟩) t p a g k := rfl
@[go_sem ↓] theorem d1_min (args : Array Operand) (ts : Array TypeId) : vcD1 P U ρ h ⟨d, .call ⟨.builtin .min, args, ts⟩, t, p, a, g⟩ k = opD P U ρ h d (.call ⟨.builtin .min, args, ts⟩) t p a g k := rfl
@[go_sem ↓] theorem d1_max (args : Array Operand) (ts : Array TypeId) : vcD1 P U ρ h ⟨d, .call ⟨.builtin .max, args, ts⟩, t, p, a, g⟩ k = opD P U ρ h d (.call ⟨.builtin .max, args, ts⟩) t p a g k := rfl
end

/-! ### copy -/
@[go_sem ↓] theorem srcA_oa (e : TypeId) (id off len : Nat) (f : List AV → Prop) : srcA U e h (.oa id off len) f = ((U e).sz = 1 ∧ bindO (h id) fun b => objL b fun cs _ => off + len ≤ cs.length ∧ (∀ x ∈ (cs.drop off).take len, x.cells.length = 1) ∧ (∀ x ∈ (cs.drop off).take len, isAggA x = false) ∧ f ((cs.drop off).take len)) := by
  simp only [srcA]
  congr 1
  cases h id with
  | none => rfl
  | some b => cases b <;> rfl
def cpK (U : TypeId → TI) (h : Heap) (x y : AV) (Q : AV → Heap → Prop) (tk : TK) : Prop := match tk, x with
  | .slice e, .oa id off len => (U e).sz = 1 ∧ srcA U e h y fun ys => Sized 1 ys ∧ (∀ z ∈ ys, isAggA z = false) ∧ bindO (h id) fun b => objL b fun cs t =>
      ys.length ≤ len ∧ off + len ≤ cs.length ∧ Q (.v (.int .i64 ys.length)) (upd h id (some (.obj (over cs off ys) t)))
  | _, _ => False
@[go_sem ↓] theorem cpK_oa (id off len : Nat) (y : AV) (e : TypeId) : cpK U h (.oa id off len) y Q (.slice e) = ((U e).sz = 1 ∧ srcA U e h y fun ys => Sized 1 ys ∧ (∀ z ∈ ys, isAggA z = false) ∧ bindO (h id) fun b => objL b fun cs t =>
      ys.length ≤ len ∧ off + len ≤ cs.length ∧ Q (.v (.int .i64 ys.length)) (upd h id (some (.obj (over cs off ys) t)))) := rfl
@[go_sem ↓] theorem o_copy (x y : Operand) (t1 t2 : TypeId) : vcOp P U ρ h ⟨d, .call ⟨.builtin .copy, #[x, y], #[t1, t2]⟩, t, p, a, g⟩ Q = bindO (ev ρ x) fun u => bindO (ev ρ y) fun v => atK (U t1).k (cpK U h u v Q) := by
  simp only [vcOp, withv_eq, vcCopy, atK]
  congr 1
  funext u
  congr 1
  funext v
  cases (U t1).k with
  | slice e =>
    cases u with
    | oa id off len =>
      refine congrArg (fun f => (U e).sz = 1 ∧ srcA U e h v f) (funext fun ys => ?_)
      refine congrArg (fun q => Sized 1 ys ∧ (∀ z ∈ ys, isAggA z = false) ∧ q) ?_
      cases h id with
      | none => rfl
      | some b => cases b <;> rfl
    | _ => simp [cpK]
  | _ => simp [cpK]
end
end Go.Ab
