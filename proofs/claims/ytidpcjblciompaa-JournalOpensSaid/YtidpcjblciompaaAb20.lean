/- The rules by which simp carries out code over abstract values: regions that draw their order, copy. -/
import Derived.Test.YtidpcjblciompaaAb19
set_option linter.unusedSimpArgs false
set_option linter.unusedVariables false
namespace Go.Ab
open Go

section
variable {P : Program} {U : TypeId → TI} {n : Nat} {ρ : Env} {h : Heap}
variable {d : Option Tmp} {t : TypeId} {p : String} {a : Array Edge} {g : Option (Nat × Bool)} {Q : AV → Heap → Prop} {k : AV → Prop}

/-- The slots that a row writes. -/
def dsts (n : Nat) : List Oper → Bool
  | [] => true
  | o :: os => dstOK n o.dst && dsts n os
theorem dsts_eq (l : List Oper) : dsts n l = l.all fun o => dstOK n o.dst := by induction l with
  | nil => rfl
  | cons o os ih => simp [dsts, ih]
@[go_sem] theorem dsts_nil : (dsts n [] = true) = True := by simp [dsts]
@[go_sem] theorem dsts_cons (o : Oper) (os : List Oper) : (dsts n (o :: os) = true) = (dstOK n o.dst = true ∧ dsts n os = true) := by simp [dsts]
/-- May the region's order be left open? -/
def LexOK (ops : Array Oper) : Prop := lexOK ops = true
theorem LexOK.of {ops : Array Oper} (h : lexOK ops = true) : LexOK ops := h
def constK (k : AV → Prop) (x : AV) (_ : Heap) : Prop := k x
@[go_sem ↓] theorem constK_eq (x : AV) : constK k x h = k x := rfl

/-- What comes behind an operation of a region that draws. -/
def KDr (P : Program) (U : TypeId → TI) (n : Nat) (all os : List Oper) (h : Heap) (K : Env → Prop) (ρ : Env) (d : Option Tmp) (x : AV) : Prop := vcDr P U n all os (put ρ d x) h K
@[go_sem ↓] theorem KDr_eq (all os : List Oper) (K : Env → Prop) (x : AV) : KDr P U n all os h K ρ d x = vcDr P U n all os (put ρ d x) h K := rfl
def atN (K : Exit → Env → Heap → Prop) (h : Heap) (ρ : Env) : Prop := K .normal ρ h
@[go_sem ↓] theorem atN_eq (K : Exit → Env → Heap → Prop) : atN K h ρ = K .normal ρ h := rfl
/-- May the order of all but the last be left open? -/
def LexS (ops : Array Oper) : Prop := lexS ops = true
theorem LexS.of {ops : Array Oper} (h : lexS ops = true) : LexS ops := h
attribute [go_sem] Bool.not_false Bool.not_true isStore Option.isNone_none Option.isNone_some Bool.and_true Bool.true_and Bool.and_false Bool.false_and List.dropLast_singleton
@[go_sem] theorem lastS_one (o : Oper) : lastS [o] = (isStore o.op && o.guard.isNone) := rfl
@[go_sem] theorem lastS_cons (o o' : Oper) (r : List Oper) : lastS (o :: o' :: r) = lastS (o' :: r) := rfl
@[go_sem] theorem dropLast_cons (o o' : Oper) (r : List Oper) : (o :: o' :: r).dropLast = o :: (o' :: r).dropLast := rfl
@[go_sem ↓] theorem lastK_one (o : Oper) (K : Env → Heap → Prop) : lastK P U [o] h K ρ = vcOp P U ρ h o (fun X h' => K (put ρ o.dst X) h') := rfl
@[go_sem ↓] theorem lastK_cons (o o' : Oper) (r : List Oper) (K : Env → Heap → Prop) : lastK P U (o :: o' :: r) h K ρ = lastK P U (o' :: r) h K ρ := rfl
def withL (l : List Oper) (k : List Oper → Prop) : Prop := k l
@[congr] theorem withL_congr {l l' : List Oper} {k : List Oper → Prop} (e : l = l') : withL l k = withL l' k := by rw [e]
@[go_sem] theorem withL_nil (k : List Oper → Prop) : withL [] k = k [] := rfl
@[go_sem] theorem withL_cons (o : Oper) (r : List Oper) (k : List Oper → Prop) : withL (o :: r) k = k (o :: r) := rfl
section
variable (l : List Oper)
@[go_sem] theorem stillL_nil : stillL [] = true := rfl
@[go_sem] theorem stillL_cons (o : Oper) : stillL (o :: l) = (!effB o.op && stillL l) := rfl
end
section
variable (x y z : Operand) (ty ty' : TypeId)
@[go_sem] theorem effB_move : effB (.move x) = false := rfl
@[go_sem] theorem effB_assign : effB (.assign x) = false := rfl
@[go_sem] theorem effB_pick : effB (.pick x y z) = false := rfl
@[go_sem] theorem effB_nilCheck : effB (.nilCheck x) = false := rfl
@[go_sem] theorem effB_binOp (op : BinOp) : effB (.binOp op ty x y ty') = false := rfl
@[go_sem] theorem effB_unOp (op : UnOp) : effB (.unOp op ty x) = false := rfl
@[go_sem] theorem effB_convert : effB (.convert ty ty' x) = false := rfl
@[go_sem] theorem effB_field (f : Nat) : effB (.field ty x f) = false := rfl
@[go_sem] theorem effB_extract (f : Nat) : effB (.extract x f) = false := rfl
@[go_sem] theorem effB_index : effB (.index ty x y) = false := rfl
@[go_sem] theorem effB_fieldAddr (f : Nat) : effB (.fieldAddr ty x f) = false := rfl
@[go_sem] theorem effB_indexAddr : effB (.indexAddr ty x y) = false := rfl
@[go_sem] theorem effB_load : effB (.load ty x) = false := rfl
@[go_sem] theorem effB_slice (lo hi mx : Option Operand) : effB (.slice ty x lo hi mx) = false := rfl
@[go_sem] theorem effB_buildSlice (m : Nat) (ps : Array (Nat × Operand)) : effB (.buildSlice ty m ps) = false := rfl
@[go_sem] theorem effB_build (ps : Array (Nat × Operand)) : effB (.build ty ps) = false := rfl
@[go_sem] theorem effB_makeInterface : effB (.makeInterface ty x) = false := rfl
@[go_sem] theorem effB_len (as : Array Operand) (ts : Array TypeId) : effB (.call ⟨.builtin .len, as, ts⟩) = false := rfl
@[go_sem] theorem effB_cap (as : Array Operand) (ts : Array TypeId) : effB (.call ⟨.builtin .cap, as, ts⟩) = false := rfl
@[go_sem] theorem effB_min (as : Array Operand) (ts : Array TypeId) : effB (.call ⟨.builtin .min, as, ts⟩) = false := rfl
@[go_sem] theorem effB_max (as : Array Operand) (ts : Array TypeId) : effB (.call ⟨.builtin .max, as, ts⟩) = false := rfl
@[go_sem] theorem effB_call (as : Array Operand) (ts : Array TypeId) : effB (.call ⟨.value x, as, ts⟩) = true := rfl
@[go_sem] theorem effB_append (as : Array Operand) (ts : Array TypeId) : effB (.call ⟨.builtin .append, as, ts⟩) = true := rfl
@[go_sem] theorem effB_copy (as : Array Operand) (ts : Array TypeId) : effB (.call ⟨.builtin .copy, as, ts⟩) = true := rfl
@[go_sem] theorem effB_alloc : effB (.alloc ty) = true := rfl
@[go_sem] theorem effB_box : effB (.box ty x) = true := rfl
@[go_sem] theorem effB_store : effB (.store ty x y) = true := rfl
@[go_sem] theorem effB_makeSlice : effB (.makeSlice ty x y) = true := rfl
@[go_sem] theorem effB_makeFunc (f : FuncId) (as bs : Array Operand) : effB (.makeFunc (.func f) as bs) = false := rfl
end
/-- A region that draws and holds operations that may change memory. -/
def DrawE (P : Program) (U : TypeId → TI) (n : Nat) (l : List Oper) (ρ : Env) (h : Heap) (K : Exit → Env → Heap → Prop) : Prop := vcDrE P U n l.toArray ρ h (K .normal)
/-- .. whose calls change nothing. -/
theorem DrawE.quiet {l : List Oper} {K : Exit → Env → Heap → Prop} (hB : lexOK l.toArray = true) (hk : dsts n l = true ∧ vcDr P U n l l ρ h (atN K h)) : DrawE P U n l ρ h K :=
  ⟨by rw [dsts_eq] at hk; exact hk.1, .inl ⟨hB, hk.2⟩⟩
/-- .. one at a time; beside them only 'hm' is read. -/
theorem DrawE.calls {l : List Oper} {K : Exit → Env → Heap → Prop} (hm : Heap) (os : List Nat) (hs : Sub hm h) (hB : orderOK .any l.toArray os (Array.replicate l.toArray.size false) = true) (hl : os.length = l.toArray.size)
    (hk : dsts n l = true ∧ vcDrH P U n l hm os ρ h (K .normal)) : DrawE P U n l ρ h K :=
  ⟨by rw [dsts_eq] at hk; exact hk.1, .inr (.inl ⟨hm, os, hs, hB, hl, hk.2⟩)⟩
/-- What comes behind all but the last. -/
def LastH (P : Program) (U : TypeId → TI) (l : List Oper) (K : Exit → Env → Heap → Prop) (ρ : Env) (h : Heap) : Prop := lastK P U l h (K .normal) ρ
@[go_sem ↓] theorem LastH_one (o : Oper) (K : Exit → Env → Heap → Prop) : LastH P U [o] K ρ h = vcOp P U ρ h o (fun X h' => K .normal (put ρ o.dst X) h') := rfl
@[go_sem ↓] theorem LastH_cons (o o' : Oper) (r : List Oper) (K : Exit → Env → Heap → Prop) : LastH P U (o :: o' :: r) K ρ h = LastH P U (o' :: r) K ρ h := rfl
/-- .. and the last of which waits for all the others. -/
theorem DrawE.last {l : List Oper} {K : Exit → Env → Heap → Prop} (hm : Heap) (os : List Nat) (hs : Sub hm h) (hz : zOKt .any l.toArray os.length = true) (hg : (l.getLast?.map fun o => o.guard.isNone) = some true) (hB : orderE .any l.toArray os.length os (Array.replicate l.toArray.size false) = true) (hl : os.length + 1 = l.toArray.size)
    (hk : dsts n l = true ∧ vcDrH P U n l hm os ρ h (LastH P U l K)) : DrawE P U n l ρ h K :=
  ⟨by rw [dsts_eq] at hk; exact hk.1, .inr (.inr ⟨hm, os, hs, hz, hg, hB, hl, hk.2⟩)⟩
/-- A region that draws: which kind is it? -/
def DrawC (P : Program) (U : TypeId → TI) (n : Nat) (l : List Oper) (ρ : Env) (h : Heap) (K : Exit → Env → Heap → Prop) (b : Bool) (e : Bool) : Prop := match b, e with
  | true, _ => LexS l.toArray ∧ dsts n l = true ∧ vcDr P U n l l.dropLast ρ h (lastK P U l h (K .normal))
  | false, true => LexOK l.toArray ∧ dsts n l = true ∧ vcDr P U n l l ρ h (atN K h)
  | false, false => DrawE P U n l ρ h K
@[congr] theorem DrawC_congr {l : List Oper} {K : Exit → Env → Heap → Prop} {b b' e e' : Bool} (h1 : b = b') (h2 : e = e') : DrawC P U n l ρ h K b e = DrawC P U n l ρ h K b' e' := by rw [h1, h2]
@[go_sem ↓] theorem DrawC_true (l : List Oper) (K : Exit → Env → Heap → Prop) (e : Bool) : DrawC P U n l ρ h K true e = (LexS l.toArray ∧ dsts n l = true ∧ withL l.dropLast fun l' => vcDr P U n l l' ρ h (lastK P U l h (K .normal))) := by cases e <;> rfl
@[go_sem ↓] theorem DrawC_false (l : List Oper) (K : Exit → Env → Heap → Prop) : DrawC P U n l ρ h K false true = (LexOK l.toArray ∧ dsts n l = true ∧ vcDr P U n l l ρ h (atN K h)) := rfl
@[go_sem ↓] theorem DrawC_eff (l : List Oper) (K : Exit → Env → Heap → Prop) : DrawC P U n l ρ h K false false = DrawE P U n l ρ h K := rfl
def stillD (l : List Oper) : Bool := lastS l && stillL l.dropLast
@[go_sem] theorem stillD_one (o : Oper) : stillD [o] = (isStore o.op && o.guard.isNone) := by simp [stillD, lastS, stillL]
@[go_sem] theorem stillD_cons (o o' : Oper) (r : List Oper) : stillD (o :: o' :: r) = (!effB o.op && stillD (o' :: r)) := by
  simp only [stillD, lastS_cons, dropLast_cons, stillL_cons]
  cases effB o.op <;> simp
@[go_sem ↓] theorem r_draw (id : Nat) (l : List Oper) (K : Exit → Env → Heap → Prop) : vcCode P U n (.region id l.toArray true) ρ h K = DrawC P U n l ρ h K (stillD l) (stillL l) := by
  simp only [vcCode, if_true, stillD]
  cases hb : (lastS l && stillL l.dropLast) with
  | true =>
    simp only [if_true, Bool.and_eq_true, DrawC, LexS, dsts_eq, and_assoc]
  | false =>
    cases he : stillL l with
    | true =>
      simp only [Bool.false_eq_true, if_false, Bool.and_eq_true, DrawC, LexOK, dsts_eq, and_assoc, Bool.true_eq_false]
      rfl
    | false =>
      simp only [Bool.false_eq_true, if_false, DrawC, if_true]
      rfl
/-- The walk of a region in an order of ours. -/
def KDrH (P : Program) (U : TypeId → TI) (n : Nat) (all : List Oper) (hm : Heap) (is : List Nat) (K : Env → Heap → Prop) (ρ : Env) (d : Option Tmp) (X : AV) (h : Heap) : Prop := vcDrH P U n all hm is (put ρ d X) h K
@[go_sem ↓] theorem KDrH_eq (all : List Oper) (hm : Heap) (is : List Nat) (K : Env → Heap → Prop) (d : Option Tmp) (X : AV) : KDrH P U n all hm is K ρ d X h = vcDrH P U n all hm is (put ρ d X) h K := rfl
def KDrS (P : Program) (U : TypeId → TI) (n : Nat) (all : List Oper) (hm : Heap) (is : List Nat) (K : Env → Heap → Prop) (ρ : Env) (d : Option Tmp) (X : AV) (h : Heap) : Prop := Sub hm h ∧ vcDrH P U n all hm is (put ρ d X) h K
@[go_sem ↓] theorem KDrS_eq (all : List Oper) (hm : Heap) (is : List Nat) (K : Env → Heap → Prop) (d : Option Tmp) (X : AV) : KDrS P U n all hm is K ρ d X h = (Sub hm h ∧ vcDrH P U n all hm is (put ρ d X) h K) := rfl
@[go_sem] theorem Sub_none : Sub (fun _ => none) h = True := eq_true fun _ _ e => by cases e
@[go_sem ↓] theorem h_nil (all : List Oper) (hm : Heap) (K : Env → Heap → Prop) : vcDrH P U n all hm [] ρ h K = K ρ h := rfl
/-- An operation, by whether it may change memory. -/
def OneH (P : Program) (U : TypeId → TI) (n : Nat) (all : List Oper) (hm : Heap) (is : List Nat) (K : Env → Heap → Prop) (ρ : Env) (h : Heap) (o : Oper) (e : Bool) : Prop := match e with
  | true => vcOp P U ρ h o (KDrS P U n all hm is K ρ o.dst)
  | false => pv U ρ hm o.op fun X => vcDrH P U n all hm is (put ρ o.dst X) h K
@[congr] theorem OneH_congr {all : List Oper} {hm : Heap} {is : List Nat} {K : Env → Heap → Prop} {o : Oper} {e e' : Bool} (he : e = e') : OneH P U n all hm is K ρ h o e = OneH P U n all hm is K ρ h o e' := by rw [he]
/-- All else reads as it does elsewhere, in the memory that stays. -/
def constH (k : AV → Heap → Prop) (h : Heap) (x : AV) (_ : Heap) : Prop := k x h
@[go_sem ↓] theorem constH_eq (k : AV → Heap → Prop) (h h' : Heap) (x : AV) : constH k h x h' = k x h := rfl
@[go_sem ↓] theorem OneH_true (all : List Oper) (hm : Heap) (is : List Nat) (K : Env → Heap → Prop) (op : Op) : OneH P U n all hm is K ρ h ⟨d, op, t, p, a, g⟩ true = vcOp P U ρ h ⟨d, op, t, p, a, g⟩ (KDrS P U n all hm is K ρ d) := rfl
def notNil : Op → Bool
  | .binOp _ _ _ y _ => !nilS y
  | _ => true
theorem pv_vcOp {hm : Heap} {op : Op} {k : AV → Heap → Prop} (h1 : effB op = false) (h2 : notNil op = true) : vcOp P U ρ hm ⟨d, op, t, p, a, g⟩ (constH k h) = pv U ρ hm op fun X => k X h := by
  cases op with
  | call c =>
    obtain ⟨cal, args, ts⟩ := c
    cases cal with
    | value q => simp [effB] at h1
    | builtin b => cases b <;> first | rfl | simp [effB] at h1
    | _ => rfl
  | binOp op ty x y ty' =>
    simp only [notNil, Bool.not_eq_true'] at h2
    simp only [vcOp, h2]
    rfl
  | alloc => simp [effB] at h1
  | box => simp [effB] at h1
  | store => simp [effB] at h1
  | makeSlice => simp [effB] at h1
  | _ => rfl
theorem OneH_false {all : List Oper} {hm : Heap} {is : List Nat} {K : Env → Heap → Prop} {op : Op} (h1 : effB op = false) (h2 : notNil op = true) :
    OneH P U n all hm is K ρ h ⟨d, op, t, p, a, g⟩ false = vcOp P U ρ hm ⟨d, op, t, p, a, g⟩ (constH (KDrH P U n all hm is K ρ d) h) := by
  rw [pv_vcOp h1 h2]; rfl
section
variable (all : List Oper) (hm : Heap) (is : List Nat) (K : Env → Heap → Prop) (x y z : Operand) (ty ty' : TypeId)
@[go_sem ↓] theorem OneH_move : OneH P U n all hm is K ρ h ⟨d, .move x, t, p, a, g⟩ false = vcOp P U ρ hm ⟨d, .move x, t, p, a, g⟩ (constH (KDrH P U n all hm is K ρ d) h) := OneH_false rfl rfl
@[go_sem ↓] theorem OneH_assign : OneH P U n all hm is K ρ h ⟨d, .assign x, t, p, a, g⟩ false = vcOp P U ρ hm ⟨d, .assign x, t, p, a, g⟩ (constH (KDrH P U n all hm is K ρ d) h) := OneH_false rfl rfl
@[go_sem ↓] theorem OneH_pick : OneH P U n all hm is K ρ h ⟨d, .pick x y z, t, p, a, g⟩ false = vcOp P U ρ hm ⟨d, .pick x y z, t, p, a, g⟩ (constH (KDrH P U n all hm is K ρ d) h) := OneH_false rfl rfl
@[go_sem ↓] theorem OneH_nilCheck : OneH P U n all hm is K ρ h ⟨d, .nilCheck x, t, p, a, g⟩ false = vcOp P U ρ hm ⟨d, .nilCheck x, t, p, a, g⟩ (constH (KDrH P U n all hm is K ρ d) h) := OneH_false rfl rfl
@[go_sem ↓] theorem OneH_unOp (op : UnOp) : OneH P U n all hm is K ρ h ⟨d, .unOp op ty x, t, p, a, g⟩ false = vcOp P U ρ hm ⟨d, .unOp op ty x, t, p, a, g⟩ (constH (KDrH P U n all hm is K ρ d) h) := OneH_false rfl rfl
@[go_sem ↓] theorem OneH_convert : OneH P U n all hm is K ρ h ⟨d, .convert ty ty' x, t, p, a, g⟩ false = vcOp P U ρ hm ⟨d, .convert ty ty' x, t, p, a, g⟩ (constH (KDrH P U n all hm is K ρ d) h) := OneH_false rfl rfl
@[go_sem ↓] theorem OneH_field (f : Nat) : OneH P U n all hm is K ρ h ⟨d, .field ty x f, t, p, a, g⟩ false = vcOp P U ρ hm ⟨d, .field ty x f, t, p, a, g⟩ (constH (KDrH P U n all hm is K ρ d) h) := OneH_false rfl rfl
@[go_sem ↓] theorem OneH_extract (f : Nat) : OneH P U n all hm is K ρ h ⟨d, .extract x f, t, p, a, g⟩ false = vcOp P U ρ hm ⟨d, .extract x f, t, p, a, g⟩ (constH (KDrH P U n all hm is K ρ d) h) := OneH_false rfl rfl
@[go_sem ↓] theorem OneH_index : OneH P U n all hm is K ρ h ⟨d, .index ty x y, t, p, a, g⟩ false = vcOp P U ρ hm ⟨d, .index ty x y, t, p, a, g⟩ (constH (KDrH P U n all hm is K ρ d) h) := OneH_false rfl rfl
@[go_sem ↓] theorem OneH_fieldAddr (f : Nat) : OneH P U n all hm is K ρ h ⟨d, .fieldAddr ty x f, t, p, a, g⟩ false = vcOp P U ρ hm ⟨d, .fieldAddr ty x f, t, p, a, g⟩ (constH (KDrH P U n all hm is K ρ d) h) := OneH_false rfl rfl
@[go_sem ↓] theorem OneH_indexAddr : OneH P U n all hm is K ρ h ⟨d, .indexAddr ty x y, t, p, a, g⟩ false = vcOp P U ρ hm ⟨d, .indexAddr ty x y, t, p, a, g⟩ (constH (KDrH P U n all hm is K ρ d) h) := OneH_false rfl rfl
@[go_sem ↓] theorem OneH_load : OneH P U n all hm is K ρ h ⟨d, .load ty x, t, p, a, g⟩ false = vcOp P U ρ hm ⟨d, .load ty x, t, p, a, g⟩ (constH (KDrH P U n all hm is K ρ d) h) := OneH_false rfl rfl
@[go_sem ↓] theorem OneH_slice (lo hi mx : Option Operand) : OneH P U n all hm is K ρ h ⟨d, .slice ty x lo hi mx, t, p, a, g⟩ false = vcOp P U ρ hm ⟨d, .slice ty x lo hi mx, t, p, a, g⟩ (constH (KDrH P U n all hm is K ρ d) h) := OneH_false rfl rfl
@[go_sem ↓] theorem OneH_buildSlice (m : Nat) (ps : Array (Nat × Operand)) : OneH P U n all hm is K ρ h ⟨d, .buildSlice ty m ps, t, p, a, g⟩ false = vcOp P U ρ hm ⟨d, .buildSlice ty m ps, t, p, a, g⟩ (constH (KDrH P U n all hm is K ρ d) h) := OneH_false rfl rfl
@[go_sem ↓] theorem OneH_build (ps : Array (Nat × Operand)) : OneH P U n all hm is K ρ h ⟨d, .build ty ps, t, p, a, g⟩ false = vcOp P U ρ hm ⟨d, .build ty ps, t, p, a, g⟩ (constH (KDrH P U n all hm is K ρ d) h) := OneH_false rfl rfl
@[go_sem ↓] theorem OneH_makeInterface : OneH P U n all hm is K ρ h ⟨d, .makeInterface ty x, t, p, a, g⟩ false = vcOp P U ρ hm ⟨d, .makeInterface ty x, t, p, a, g⟩ (constH (KDrH P U n all hm is K ρ d) h) := OneH_false rfl rfl
@[go_sem ↓] theorem OneH_len (as : Array Operand) (ts : Array TypeId) : OneH P U n all hm is K ρ h ⟨d, .call ⟨.builtin .len, as, ts⟩, t, p, a, g⟩ false = vcOp P U ρ hm ⟨d, .call ⟨.builtin .len, as, ts⟩, t, p, a, g⟩ (constH (KDrH P U n all hm is K ρ d) h) := OneH_false rfl rfl
@[go_sem ↓] theorem OneH_cap (as : Array Operand) (ts : Array TypeId) : OneH P U n all hm is K ρ h ⟨d, .call ⟨.builtin .cap, as, ts⟩, t, p, a, g⟩ false = vcOp P U ρ hm ⟨d, .call ⟨.builtin .cap, as, ts⟩, t, p, a, g⟩ (constH (KDrH P U n all hm is K ρ d) h) := OneH_false rfl rfl
@[go_sem ↓] theorem OneH_min (as : Array Operand) (ts : Array TypeId) : OneH P U n all hm is K ρ h ⟨d, .call ⟨.builtin .min, as, ts⟩, t, p, a, g⟩ false = vcOp P U ρ hm ⟨d, .call ⟨.builtin .min, as, ts⟩, t, p, a, g⟩ (constH (KDrH P U n all hm is K ρ d) h) := OneH_false rfl rfl
@[go_sem ↓] theorem OneH_max (as : Array Operand) (ts : Array TypeId) : OneH P U n all hm is K ρ h ⟨d, .call ⟨.builtin .max, as, ts⟩, t, p, a, g⟩ false = vcOp P U ρ hm ⟨d, .call ⟨.builtin .max, as, ts⟩, t, p, a, g⟩ (constH (KDrH P U n all hm is K ρ d) h) := OneH_false rfl rfl
@[go_sem ↓] theorem OneH_binOp (op : BinOp) (w : Tmp) : OneH P U n all hm is K ρ h ⟨d, .binOp op ty x (.tmp w) ty', t, p, a, g⟩ false = vcOp P U ρ hm ⟨d, .binOp op ty x (.tmp w) ty', t, p, a, g⟩ (constH (KDrH P U n all hm is K ρ d) h) := OneH_false rfl rfl
@[go_sem ↓] theorem OneH_binOp_i (op : BinOp) (ik : IntKind) (im : Int) : OneH P U n all hm is K ρ h ⟨d, .binOp op ty x (.const (.int ik im)) ty', t, p, a, g⟩ false = vcOp P U ρ hm ⟨d, .binOp op ty x (.const (.int ik im)) ty', t, p, a, g⟩ (constH (KDrH P U n all hm is K ρ d) h) := OneH_false rfl rfl
@[go_sem ↓] theorem OneH_binOp_b (op : BinOp) (w : Bool) : OneH P U n all hm is K ρ h ⟨d, .binOp op ty x (.const (.bool w)) ty', t, p, a, g⟩ false = vcOp P U ρ hm ⟨d, .binOp op ty x (.const (.bool w)) ty', t, p, a, g⟩ (constH (KDrH P U n all hm is K ρ d) h) := OneH_false rfl rfl
@[go_sem ↓] theorem OneH_binOp_s (op : BinOp) (w : ByteArray) : OneH P U n all hm is K ρ h ⟨d, .binOp op ty x (.const (.string w)) ty', t, p, a, g⟩ false = vcOp P U ρ hm ⟨d, .binOp op ty x (.const (.string w)) ty', t, p, a, g⟩ (constH (KDrH P U n all hm is K ρ d) h) := OneH_false rfl rfl
@[go_sem ↓] theorem OneH_binOp_p (op : BinOp) (w : Option Addr) : OneH P U n all hm is K ρ h ⟨d, .binOp op ty x (.const (.pointer w)) ty', t, p, a, g⟩ false = vcOp P U ρ hm ⟨d, .binOp op ty x (.const (.pointer w)) ty', t, p, a, g⟩ (constH (KDrH P U n all hm is K ρ d) h) := OneH_false rfl rfl
@[go_sem ↓] theorem OneH_makeFunc (f : FuncId) (as : List Operand) : OneH P U n all hm is K ρ h ⟨d, .makeFunc (.func f) #[] as.toArray, t, p, a, g⟩ false = vcOp P U ρ hm ⟨d, .makeFunc (.func f) #[] as.toArray, t, p, a, g⟩ (constH (KDrH P U n all hm is K ρ d) h) := OneH_false rfl rfl
end
/-- .. under a guard. -/
def GuardH (P : Program) (U : TypeId → TI) (n : Nat) (all : List Oper) (hm : Heap) (is : List Nat) (ρ : Env) (h : Heap) (K : Env → Heap → Prop) (w : Bool) (o : Oper) (s : Nat) (x : AV) : Prop :=
  gB s w ρ (fun ρ => OneH P U n all hm is K ρ h o (effB o.op)) (fun ρ => vcDrH P U n all hm is (put ρ o.dst (.v undef)) h K) x
section
variable {all : List Oper} {hm : Heap} {is : List Nat} {K : Env → Heap → Prop} {o : Oper} {s : Nat}
@[go_sem ↓] theorem GuardH_tt : GuardH P U n all hm is ρ h K true o s (.v (.bool true)) = OneH P U n all hm is K ((s, .v (.bool true)) :: ρ) h o (effB o.op) := by simp [GuardH, gB, Br]
@[go_sem ↓] theorem GuardH_tf : GuardH P U n all hm is ρ h K true o s (.v (.bool false)) = vcDrH P U n all hm is (put ((s, .v (.bool false)) :: ρ) o.dst (.v undef)) h K := by simp [GuardH, gB, Br]
@[go_sem ↓] theorem GuardH_ft : GuardH P U n all hm is ρ h K false o s (.v (.bool true)) = vcDrH P U n all hm is (put ((s, .v (.bool true)) :: ρ) o.dst (.v undef)) h K := by simp [GuardH, gB, Br]
@[go_sem ↓] theorem GuardH_ff : GuardH P U n all hm is ρ h K false o s (.v (.bool false)) = OneH P U n all hm is K ((s, .v (.bool false)) :: ρ) h o (effB o.op) := by simp [GuardH, gB, Br]
@[go_sem ↓] theorem GuardH_undef (w : Bool) : GuardH P U n all hm is ρ h K w o s (.v undef) = vcDrH P U n all hm is (put ρ o.dst (.v undef)) h K := rfl
theorem GuardH.intro {w b : Bool} (h1 : b = true → GuardH P U n all hm is ρ h K w o s (.v (.bool true))) (h2 : b = false → GuardH P U n all hm is ρ h K w o s (.v (.bool false))) : GuardH P U n all hm is ρ h K w o s (.v (.bool b)) := by
  cases b
  · exact h2 rfl
  · exact h1 rfl
end
/-- The operation at a place. -/
def stepH (P : Program) (U : TypeId → TI) (n : Nat) (all : List Oper) (hm : Heap) (is : List Nat) (ρ : Env) (h : Heap) (K : Env → Heap → Prop) (o : Oper) : Prop := match o.guard with
  | none => OneH P U n all hm is K ρ h o (effB o.op)
  | some (gi, w) => bindO (dstAt all gi) fun s => bindO (lk ρ s) (GuardH P U n all hm is ρ h K w o s)
@[go_sem ↓] theorem stepH_none (all : List Oper) (hm : Heap) (is : List Nat) (K : Env → Heap → Prop) (op : Op) : stepH P U n all hm is ρ h K ⟨d, op, t, p, a, none⟩ = OneH P U n all hm is K ρ h ⟨d, op, t, p, a, none⟩ (effB op) := rfl
@[go_sem ↓] theorem stepH_some (all : List Oper) (hm : Heap) (is : List Nat) (K : Env → Heap → Prop) (op : Op) (gi : Nat) (w : Bool) : stepH P U n all hm is ρ h K ⟨d, op, t, p, a, some (gi, w)⟩ = bindO (dstAt all gi) fun s => bindO (lk ρ s) (GuardH P U n all hm is ρ h K w ⟨d, op, t, p, a, some (gi, w)⟩ s) := rfl
@[go_sem ↓] theorem h_cons (all : List Oper) (hm : Heap) (i : Nat) (is : List Nat) (K : Env → Heap → Prop) : vcDrH P U n all hm (i :: is) ρ h K = bindO all[i]? (stepH P U n all hm is ρ h K) := by
  simp only [vcDrH]
  cases all[i]? with
  | none => rfl
  | some o =>
    simp only [bindO_some, stepH]
    have e : ∀ ρ', vcOne P U hm o ρ' h (fun X h' => vcDrH P U n all hm is (put ρ' o.dst X) h' K) = OneH P U n all hm is K ρ' h o (effB o.op) := fun ρ' => by
      unfold vcOne OneH vcE
      cases effB o.op <;> rfl
    cases hg : o.guard with
    | none => simp only [guardA]; exact e ρ
    | some gg =>
      obtain ⟨gi, w⟩ := gg
      simp only
      rw [guardA_eq]
      simp only [e]
      rfl
@[go_sem ↓] theorem d_nil (all : List Oper) (K : Env → Prop) : vcDr P U n all [] ρ h K = K ρ := rfl
@[go_sem ↓] theorem d_cons (all : List Oper) (op : Op) (os : List Oper) (K : Env → Prop) :
    vcDr P U n all (⟨d, op, t, p, a, none⟩ :: os) ρ h K = (dstOK n d = true ∧ vcD1 P U ρ h ⟨d, op, t, p, a, none⟩ (KDr P U n all os h K ρ d)) := rfl
/-- A guard within a region that draws. -/
def GuardD (P : Program) (U : TypeId → TI) (n : Nat) (all os : List Oper) (ρ : Env) (h : Heap) (K : Env → Prop) (w : Bool) (d : Option Tmp) (op : Op) (t : TypeId) (p : String) (a : Array Edge) (g : Option (Nat × Bool)) (s : Nat) (x : AV) : Prop :=
  gB s w ρ (fun ρ => vcD1 P U ρ h ⟨d, op, t, p, a, g⟩ (KDr P U n all os h K ρ d)) (fun ρ => vcDr P U n all os (put ρ d (.v undef)) h K) x
section
variable {all os : List Oper} {K : Env → Prop} {op : Op} {s : Nat}
@[go_sem ↓] theorem GuardD_tt : GuardD P U n all os ρ h K true d op t p a g s (.v (.bool true)) = vcD1 P U ((s, .v (.bool true)) :: ρ) h ⟨d, op, t, p, a, g⟩ (KDr P U n all os h K ((s, .v (.bool true)) :: ρ) d) := by simp [GuardD, gB, Br]
@[go_sem ↓] theorem GuardD_tf : GuardD P U n all os ρ h K true d op t p a g s (.v (.bool false)) = vcDr P U n all os (put ((s, .v (.bool false)) :: ρ) d (.v undef)) h K := by simp [GuardD, gB, Br]
@[go_sem ↓] theorem GuardD_ft : GuardD P U n all os ρ h K false d op t p a g s (.v (.bool true)) = vcDr P U n all os (put ((s, .v (.bool true)) :: ρ) d (.v undef)) h K := by simp [GuardD, gB, Br]
@[go_sem ↓] theorem GuardD_ff : GuardD P U n all os ρ h K false d op t p a g s (.v (.bool false)) = vcD1 P U ((s, .v (.bool false)) :: ρ) h ⟨d, op, t, p, a, g⟩ (KDr P U n all os h K ((s, .v (.bool false)) :: ρ) d) := by simp [GuardD, gB, Br]
@[go_sem ↓] theorem GuardD_undef (w : Bool) : GuardD P U n all os ρ h K w d op t p a g s (.v undef) = vcDr P U n all os (put ρ d (.v undef)) h K := rfl
theorem GuardD.intro {w b : Bool} (h1 : b = true → GuardD P U n all os ρ h K w d op t p a g s (.v (.bool true))) (h2 : b = false → GuardD P U n all os ρ h K w d op t p a g s (.v (.bool false))) : GuardD P U n all os ρ h K w d op t p a g s (.v (.bool b)) := by
  cases b
  · exact h2 rfl
  · exact h1 rfl
end
@[go_sem ↓] theorem d_guard (all : List Oper) (op : Op) (gi : Nat) (w : Bool) (os : List Oper) (K : Env → Prop) :
    vcDr P U n all (⟨d, op, t, p, a, some (gi, w)⟩ :: os) ρ h K = (dstOK n d = true ∧ bindO (dstAt all gi) fun s => bindO (lk ρ s) (GuardD P U n all os ρ h K w d op t p a (some (gi, w)) s)) := by
  have := guardA_eq (ρ := ρ) all gi w (fun ρ => vcD1 P U ρ h ⟨d, op, t, p, a, some (gi, w)⟩ (KDr P U n all os h K ρ d)) (fun ρ => vcDr P U n all os (put ρ d (.v undef)) h K)
  show (dstOK n d = true ∧ guardA all ρ (some (gi, w)) _ _) = _
  rw [show (fun s => bindO (lk ρ s) (GuardD P U n all os ρ h K w d op t p a (some (gi, w)) s)) = fun d_1 => bindO (lk ρ d_1) fun x => gB d_1 w ρ (fun ρ => vcD1 P U ρ h ⟨d, op, t, p, a, some (gi, w)⟩ (KDr P U n all os h K ρ d)) (fun ρ => vcDr P U n all os (put ρ d (.v undef)) h K) x from rfl, ← this]
  rfl

/-- A call of a function that changes nothing owned and comes to a value that hangs on nothing but its arguments. -/
def FnD (P : Program) (f : FuncId) (args : List AV) (h : Heap) (k : AV → Prop) : Prop := ∃ X, FnOK P f args h (fun x h' => x = X ∧ h' = h) ∧ k X
@[congr] theorem FnD_congr {f f' : FuncId} {a a' : List AV} {h h' : Heap} (h0 : f = f') (h1 : a = a') (h2 : h = h') : FnD P f a h k = FnD P f' a' h' k := by rw [h0, h1, h2]
@[go_sem ↓] theorem d1_call (q : Operand) (args : List Operand) (ts : Array TypeId) : vcD1 P U ρ h ⟨d, .call ⟨.value q, args.toArray, ts⟩, t, p, a, g⟩ k = bindO (ev ρ q) fun y => fnA y fun f cap => bindO (evs ρ args) fun ys => FnD P f (ys ++ cap) h k := by
  simp only [vcD1, withv_eq, withvs_eq]
  congr 1
/-- All else reads as it does elsewhere. -/
def opD (P : Program) (U : TypeId → TI) (ρ : Env) (h : Heap) (d : Option Tmp) (op : Op) (t : TypeId) (p : String) (a : Array Edge) (g : Option (Nat × Bool)) (k : AV → Prop) : Prop := vcOp P U ρ h ⟨d, op, t, p, a, g⟩ (constK k)
@[go_sem ↓] theorem opD_eq (op : Op) : opD P U ρ h d op t p a g k = vcOp P U ρ h ⟨d, op, t, p, a, g⟩ (constK k) := rfl
section
@[go_sem ↓] theorem d1_move (x : Operand) : vcD1 P U ρ h ⟨d, .move x, t, p, a, g⟩ k = opD P U ρ h d (.move x) t p a g k := rfl
@[go_sem ↓] theorem d1_assign (x : Operand) : vcD1 P U ρ h ⟨d, .assign x, t, p, a, g⟩ k = opD P U ρ h d (.assign x) t p a g k := rfl
@[go_sem ↓] theorem d1_pick (x y z : Operand) : vcD1 P U ρ h ⟨d, .pick x y z, t, p, a, g⟩ k = opD P U ρ h d (.pick x y z) t p a g k := rfl
@[go_sem ↓] theorem d1_nilCheck (x : Operand) : vcD1 P U ρ h ⟨d, .nilCheck x, t, p, a, g⟩ k = opD P U ρ h d (.nilCheck x) t p a g k := rfl
theorem d1_bin0 (op : BinOp) (ty ty' : TypeId) (x y : Operand) (hy : nilS y = false) : vcD1 P U ρ h ⟨d, .binOp op ty x y ty', t, p, a, g⟩ k = opD P U ρ h d (.binOp op ty x y ty') t p a g k := by
  simp only [vcD1, opD, vcOp, hy]
  rfl
@[go_sem ↓] theorem d1_binOp (op : BinOp) (ty ty' : TypeId) (x : Operand) (y : Tmp) : vcD1 P U ρ h ⟨d, .binOp op ty x (.tmp y) ty', t, p, a, g⟩ k = opD P U ρ h d (.binOp op ty x (.tmp y) ty') t p a g k := d1_bin0 _ _ _ _ _ rfl
@[go_sem ↓] theorem d1_binOp_i (op : BinOp) (ty ty' : TypeId) (x : Operand) (ik : IntKind) (im : Int) : vcD1 P U ρ h ⟨d, .binOp op ty x (.const (.int ik im)) ty', t, p, a, g⟩ k = opD P U ρ h d (.binOp op ty x (.const (.int ik im)) ty') t p a g k := d1_bin0 _ _ _ _ _ rfl
@[go_sem ↓] theorem d1_binOp_b (op : BinOp) (ty ty' : TypeId) (x : Operand) (b : Bool) : vcD1 P U ρ h ⟨d, .binOp op ty x (.const (.bool b)) ty', t, p, a, g⟩ k = opD P U ρ h d (.binOp op ty x (.const (.bool b)) ty') t p a g k := d1_bin0 _ _ _ _ _ rfl
@[go_sem ↓] theorem d1_binOp_s (op : BinOp) (ty ty' : TypeId) (x : Operand) (b : ByteArray) : vcD1 P U ρ h ⟨d, .binOp op ty x (.const (.string b)) ty', t, p, a, g⟩ k = opD P U ρ h d (.binOp op ty x (.const (.string b)) ty') t p a g k := d1_bin0 _ _ _ _ _ rfl
@[go_sem ↓] theorem d1_binOp_p (op : BinOp) (ty ty' : TypeId) (x : Operand) (b : Option Addr) : vcD1 P U ρ h ⟨d, .binOp op ty x (.const (.pointer b)) ty', t, p, a, g⟩ k = opD P U ρ h d (.binOp op ty x (.const (.pointer b)) ty') t p a g k := d1_bin0 _ _ _ _ _ rfl
@[go_sem ↓] theorem d1_unOp (op : UnOp) (ty : TypeId) (x : Operand) : vcD1 P U ρ h ⟨d, .unOp op ty x, t, p, a, g⟩ k = opD P U ρ h d (.unOp op ty x) t p a g k := rfl
@[go_sem ↓] theorem d1_convert (s e : TypeId) (x : Operand) : vcD1 P U ρ h ⟨d, .convert s e x, t, p, a, g⟩ k = opD P U ρ h d (.convert s e x) t p a g k := rfl
@[go_sem ↓] theorem d1_field (ty : TypeId) (x : Operand) (f : Nat) : vcD1 P U ρ h ⟨d, .field ty x f, t, p, a, g⟩ k = opD P U ρ h d (.field ty x f) t p a g k := rfl
@[go_sem ↓] theorem d1_extract (x : Operand) (i : Nat) : vcD1 P U ρ h ⟨d, .extract x i, t, p, a, g⟩ k = opD P U ρ h d (.extract x i) t p a g k := rfl
@[go_sem ↓] theorem d1_index (ty : TypeId) (x i : Operand) : vcD1 P U ρ h ⟨d, .index ty x i, t, p, a, g⟩ k = opD P U ρ h d (.index ty x i) t p a g k := rfl
@[go_sem ↓] theorem d1_fieldAddr (ty : TypeId) (x : Operand) (f : Nat) : vcD1 P U ρ h ⟨d, .fieldAddr ty x f, t, p, a, g⟩ k = opD P U ρ h d (.fieldAddr ty x f) t p a g k := rfl
@[go_sem ↓] theorem d1_indexAddr (ty : TypeId) (x i : Operand) : vcD1 P U ρ h ⟨d, .indexAddr ty x i, t, p, a, g⟩ k = opD P U ρ h d (.indexAddr ty x i) t p a g k := rfl
@[go_sem ↓] theorem d1_load (ty : TypeId) (x : Operand) : vcD1 P U ρ h ⟨d, .load ty x, t, p, a, g⟩ k = opD P U ρ h d (.load ty x) t p a g k := rfl
@[go_sem ↓] theorem d1_slice (ty : TypeId) (x : Operand) (lo hi mx : Option Operand) : vcD1 P U ρ h ⟨d, .slice ty x lo hi mx, t, p, a, g⟩ k = opD P U ρ h d (.slice ty x lo hi mx) t p a g k := rfl
@[go_sem ↓] theorem d1_buildSlice (ty : TypeId) (len : Nat) (parts : Array (Nat × Operand)) : vcD1 P U ρ h ⟨d, .buildSlice ty len parts, t, p, a, g⟩ k = opD P U ρ h d (.buildSlice ty len parts) t p a g k := rfl
@[go_sem ↓] theorem d1_build (ty : TypeId) (parts : Array (Nat × Operand)) : vcD1 P U ρ h ⟨d, .build ty parts, t, p, a, g⟩ k = opD P U ρ h d (.build ty parts) t p a g k := rfl
@[go_sem ↓] theorem d1_makeInterface (ty : TypeId) (x : Operand) : vcD1 P U ρ h ⟨d, .makeInterface ty x, t, p, a, g⟩ k = opD P U ρ h d (.makeInterface ty x) t p a g k := rfl
@[go_sem ↓] theorem d1_len (x : Operand) (ty : TypeId) : vcD1 P U ρ h ⟨d, .call ⟨.builtin .len, #[x], #[ty]⟩, t, p, a, g⟩ k = opD P U ρ h d (.call ⟨.builtin .len, #[x], #[ty]⟩) t p a g k := rfl
@[go_sem ↓] theorem d1_cap (x : Operand) (ty : TypeId) : vcD1 P U ρ h ⟨d, .call ⟨.builtin .cap, #[x], #[ty]⟩, t, p, a, g⟩ k = opD P U ρ h d (.call ⟨.builtin .cap, #[x], #[ty]⟩) t p a g k := rfl
@[go_sem ↓] theorem d1_min (args : Array Operand) (ts : Array TypeId) : vcD1 P U ρ h ⟨d, .call ⟨.builtin .min, args, ts⟩, t, p, a, g⟩ k = opD P U ρ h d (.call ⟨.builtin .min, args, ts⟩) t p a g k := rfl
@[go_sem ↓] theorem d1_max (args : Array Operand) (ts : Array TypeId) : vcD1 P U ρ h ⟨d, .call ⟨.builtin .max, args, ts⟩, t, p, a, g⟩ k = opD P U ρ h d (.call ⟨.builtin .max, args, ts⟩) t p a g k := rfl
end

/-! ### copy -/
@[go_sem ↓] theorem srcA_oa (e : TypeId) (id off len : Nat) (f : List AV → Prop) : srcA U e h (.oa id off len) f = ((U e).sz = 1 ∧ bindO (h id) fun b => objL b fun cs _ => off + len ≤ cs.length ∧ (∀ x ∈ (cs.drop off).take len, x.cells.length = 1) ∧ (∀ x ∈ (cs.drop off).take len, isAggA x = false) ∧ f ((cs.drop off).take len)) := by
  simp only [srcA]
  congr 1
  cases h id with
  | none => rfl
  | some b => cases b <;> rfl
def cpK (U : TypeId → TI) (h : Heap) (x y : AV) (Q : AV → Heap → Prop) (tk : TK) : Prop := match tk, x with
  | .slice e, .oa id off len => (U e).sz = 1 ∧ srcA U e h y fun ys => Sized 1 ys ∧ (∀ z ∈ ys, isAggA z = false) ∧ bindO (h id) fun b => objL b fun cs t =>
      ys.length ≤ len ∧ off + len ≤ cs.length ∧ Q (.v (.int .i64 ys.length)) (upd h id (some (.obj (over cs off ys) t)))
  | _, _ => False
@[go_sem ↓] theorem cpK_oa (id off len : Nat) (y : AV) (e : TypeId) : cpK U h (.oa id off len) y Q (.slice e) = ((U e).sz = 1 ∧ srcA U e h y fun ys => Sized 1 ys ∧ (∀ z ∈ ys, isAggA z = false) ∧ bindO (h id) fun b => objL b fun cs t =>
      ys.length ≤ len ∧ off + len ≤ cs.length ∧ Q (.v (.int .i64 ys.length)) (upd h id (some (.obj (over cs off ys) t)))) := rfl
@[go_sem ↓] theorem o_copy (x y : Operand) (t1 t2 : TypeId) : vcOp P U ρ h ⟨d, .call ⟨.builtin .copy, #[x, y], #[t1, t2]⟩, t, p, a, g⟩ Q = bindO (ev ρ x) fun u => bindO (ev ρ y) fun v => atK (U t1).k (cpK U h u v Q) := by
  simp only [vcOp, withv_eq, vcCopy, atK]
  congr 1
  funext u
  congr 1
  funext v
  cases (U t1).k with
  | slice e =>
    cases u with
    | oa id off len =>
      refine congrArg (fun f => (U e).sz = 1 ∧ srcA U e h v f) (funext fun ys => ?_)
      refine congrArg (fun q => Sized 1 ys ∧ (∀ z ∈ ys, isAggA z = false) ∧ q) ?_
      cases h id with
      | none => rfl
      | some b => cases b <;> rfl
    | _ => simp [cpK]
  | _ => simp [cpK]
end
end Go.Ab
