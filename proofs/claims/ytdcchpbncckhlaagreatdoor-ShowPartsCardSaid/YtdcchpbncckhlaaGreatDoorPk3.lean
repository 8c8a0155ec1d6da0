/- The law ShowParts: pack 3 of its texts. -/
import Derived.Below
import Derived.OpenShut
import Derived.Lib.ItoaLen
import Derived.Lib.Join
import Derived.Lib.Small
import Derived.Lib.AtoiAll
import Derived.Lib.ItoaMem
import Derived.Test.YtdcchpbncckhlaaGreatDoorPk1
import Derived.Test.YtdcchpbncckhlaaGreatDoorPk2
set_option linter.unusedSimpArgs false
set_option linter.unusedVariables false
namespace Go.Ab
open Go
section
variable {P : Program} {U : TypeId → TI} {n : Nat} {ρ : Env} {h : Heap}
variable {d : Option Tmp} {t : TypeId} {p : String} {a : Array Edge} {g : Option (Nat × Bool)} {Q : AV → Heap → Prop} {k : AV → Prop}
def dsts (n : Nat) : List Oper → Bool
  | [] => true
  | o :: os => dstOK n o.dst && dsts n os
theorem dsts_eq (l : List Oper) : dsts n l = l.all fun o => dstOK n o.dst := by induction l with
  | nil => rfl
  | cons o os ih => simp [dsts, ih]
@[go_sem] theorem dsts_nil : (dsts n [] = true) = True := by simp [dsts]
@[go_sem] theorem dsts_cons (o : Oper) (os : List Oper) : (dsts n (o :: os) = true) = (dstOK n o.dst = true ∧ dsts n os = true) := by simp [dsts]
def LexOK (ops : Array Oper) : Prop := lexOK ops = true
theorem LexOK.of {ops : Array Oper} (h : lexOK ops = true) : LexOK ops := h
def constK (k : AV → Prop) (x : AV) (_ : Heap) : Prop := k x
@[go_sem ↓] theorem constK_eq (x : AV) : constK k x h = k x := rfl
def KDr (P : Program) (U : TypeId → TI) (n : Nat) (all os : List Oper) (h : Heap) (K : Env → Prop) (ρ : Env) (d : Option Tmp) (x : AV) : Prop := vcDr P U n all os (put ρ d x) h K
@[go_sem ↓] theorem KDr_eq (all os : List Oper) (K : Env → Prop) (x : AV) : KDr P U n all os h K ρ d x = vcDr P U n all os (put ρ d x) h K := rfl
def atN (K : Exit → Env → Heap → Prop) (h : Heap) (ρ : Env) : Prop := K .normal ρ h
@[go_sem ↓] theorem atN_eq (K : Exit → Env → Heap → Prop) : atN K h ρ = K .normal ρ h := rfl
def LexS (ops : Array Oper) : Prop := lexS ops = true
theorem LexS.of {ops : Array Oper} (h : lexS ops = true) : LexS ops := h
attribute [go_sem] Bool.not_false Bool.not_true isStore Option.isNone_none Option.isNone_some Bool.and_true Bool.true_and Bool.and_false Bool.false_and List.dropLast_singleton
@[go_sem] theorem lastS_one (o : Oper) : lastS [o] = (isStore o.op && o.guard.isNone) := rfl
@[go_sem] theorem lastS_cons (o o' : Oper) (r : List Oper) : lastS (o :: o' :: r) = lastS (o' :: r) := rfl
@[go_sem] theorem dropLast_cons (o o' : Oper) (r : List Oper) : (o :: o' :: r).dropLast = o :: (o' :: r).dropLast := rfl
@[go_sem ↓] theorem lastK_one (o : Oper) (K : Env → Heap → Prop) : lastK P U [o] h K ρ = vcOp P U ρ h o (fun X h' => K (put ρ o.dst X) h') := rfl
@[go_sem ↓] theorem lastK_cons (o o' : Oper) (r : List Oper) (K : Env → Heap → Prop) : lastK P U (o :: o' :: r) h K ρ = lastK P U (o' :: r) h K ρ := rfl
def withL (l : List Oper) (k : List Oper → Prop) : Prop := k l
@[congr] theorem withL_congr {l l' : List Oper} {k : List Oper → Prop} (e : l = l') : withL l k = withL l' k := by rw [e]
@[go_sem] theorem withL_nil (k : List Oper → Prop) : withL [] k = k [] := rfl
@[go_sem] theorem withL_cons (o : Oper) (r : List Oper) (k : List Oper → Prop) : withL (o :: r) k = k (o :: r) := rfl
section
variable (l : List Oper)
@[go_sem] theorem stillL_nil : stillL [] = true := rfl
@[go_sem] theorem stillL_cons (o : Oper) : stillL (o :: l) = (!effB o.op && stillL l) := rfl
end
section
variable (x y z : Operand) (ty ty' : TypeId)
@[go_sem] theorem effB_move : effB (.move x) = false := rfl
@[go_sem] theorem effB_assign : effB (.assign x) = false := rfl
@[go_sem] theorem effB_pick : effB (.pick x y z) = false := rfl
@[go_sem] theorem effB_nilCheck : effB (.nilCheck x) = false := rfl
@[go_sem] theorem effB_binOp (op : BinOp) : effB (.binOp op ty x y ty') = false := rfl
@[go_sem] theorem effB_unOp (op : UnOp) : effB (.unOp op ty x) = false := rfl
@[go_sem] theorem effB_convert : effB (.convert ty ty' x) = false := rfl
@[go_sem] theorem effB_field (f : Nat) : effB (.field ty x f) = false := rfl
@[go_sem] theorem effB_extract (f : Nat) : effB (.extract x f) = false := rfl
@[go_sem] theorem effB_index : effB (.index ty x y) = false := rfl
@[go_sem] theorem effB_fieldAddr (f : Nat) : effB (.fieldAddr ty x f) = false := rfl
@[go_sem] theorem effB_indexAddr : effB (.indexAddr ty x y) = false := rfl
@[go_sem] theorem effB_load : effB (.load ty x) = false := rfl
@[go_sem] theorem effB_slice (lo hi mx : Option Operand) : effB (.slice ty x lo hi mx) = false := rfl
@[go_sem] theorem effB_buildSlice (m : Nat) (ps : Array (Nat × Operand)) : effB (.buildSlice ty m ps) = false := rfl
@[go_sem] theorem effB_build (ps : Array (Nat × Operand)) : effB (.build ty ps) = false := rfl
@[go_sem] theorem effB_makeInterface : effB (.makeInterface ty x) = false := rfl
@[go_sem] theorem effB_len (aa : Array Operand) (ts : Array TypeId) : effB (.call ⟨.builtin .len, aa, ts⟩) = false := rfl
@[go_sem] theorem effB_cap (aa : Array Operand) (ts : Array TypeId) : effB (.call ⟨.builtin .cap, aa, ts⟩) = false := rfl
@[go_sem] theorem effB_min (aa : Array Operand) (ts : Array TypeId) : effB (.call ⟨.builtin .min, aa, ts⟩) = false := rfl
@[go_sem] theorem effB_max (aa : Array Operand) (ts : Array TypeId) : effB (.call ⟨.builtin .max, aa, ts⟩) = false := rfl
@[go_sem] theorem effB_call (aa : Array Operand) (ts : Array TypeId) : effB (.call ⟨.value x, aa, ts⟩) = true := rfl
@[go_sem] theorem effB_append (aa : Array Operand) (ts : Array TypeId) : effB (.call ⟨.builtin .append, aa, ts⟩) = true := rfl
@[go_sem] theorem effB_copy (aa : Array Operand) (ts : Array TypeId) : effB (.call ⟨.builtin .copy, aa, ts⟩) = true := rfl
@[go_sem] theorem effB_alloc : effB (.alloc ty) = true := rfl
@[go_sem] theorem effB_box : effB (.box ty x) = true := rfl
@[go_sem] theorem effB_store : effB (.store ty x y) = true := rfl
@[go_sem] theorem effB_makeSlice : effB (.makeSlice ty x y) = true := rfl
@[go_sem] theorem effB_makeFunc (f : FuncId) (aa bs : Array Operand) : effB (.makeFunc (.func f) aa bs) = false := rfl
end
def DrawE (P : Program) (U : TypeId → TI) (n : Nat) (l : List Oper) (ρ : Env) (h : Heap) (K : Exit → Env → Heap → Prop) : Prop := vcDrE P U n l.toArray ρ h (K .normal)
theorem DrawE.quiet {l : List Oper} {K : Exit → Env → Heap → Prop} (hB : lexOK l.toArray = true) (hk : dsts n l = true ∧ vcDr P U n l l ρ h (atN K h)) : DrawE P U n l ρ h K :=
  ⟨by rw [dsts_eq] at hk; exact hk.1, .inl ⟨hB, hk.2⟩⟩
theorem DrawE.calls {l : List Oper} {K : Exit → Env → Heap → Prop} (hm : Heap) (os : List Nat) (hs : Sub hm h) (hB : orderOK .any l.toArray os (Array.replicate l.toArray.size false) = true) (hl : os.length = l.toArray.size)
    (hk : dsts n l = true ∧ vcDrH P U n l hm os ρ h (K .normal)) : DrawE P U n l ρ h K :=
  ⟨by rw [dsts_eq] at hk; exact hk.1, .inr (.inl ⟨hm, .seq os, _, hs, hB, hl, hk.2, fun _ _ h => h⟩)⟩
theorem DrawE.fork {l : List Oper} {K : Exit → Env → Heap → Prop} (hm : Heap) (t : Ord) (Post : Env → Heap → Prop) (hs : Sub hm h) (hB : ordOK .any l.toArray t (Array.replicate l.toArray.size false) = true) (hl : t.len = l.toArray.size)
    (hd : dsts n l = true) (hk : vcDrT P U n l hm t ρ h Post) (hp : ∀ ρ h, Post ρ h → K .normal ρ h) : DrawE P U n l ρ h K :=
  ⟨by rw [dsts_eq] at hd; exact hd, .inr (.inl ⟨hm, t, Post, hs, hB, hl, hk, hp⟩)⟩
def LastH (P : Program) (U : TypeId → TI) (l : List Oper) (K : Exit → Env → Heap → Prop) (ρ : Env) (h : Heap) : Prop := lastK P U l h (K .normal) ρ
@[go_sem ↓] theorem LastH_one (o : Oper) (K : Exit → Env → Heap → Prop) : LastH P U [o] K ρ h = vcOp P U ρ h o (fun X h' => K .normal (put ρ o.dst X) h') := rfl
@[go_sem ↓] theorem LastH_cons (o o' : Oper) (r : List Oper) (K : Exit → Env → Heap → Prop) : LastH P U (o :: o' :: r) K ρ h = LastH P U (o' :: r) K ρ h := rfl
def DrawC (P : Program) (U : TypeId → TI) (n : Nat) (l : List Oper) (ρ : Env) (h : Heap) (K : Exit → Env → Heap → Prop) (b : Bool) (e : Bool) : Prop := match b, e with
  | true, _ => LexS l.toArray ∧ dsts n l = true ∧ vcDr P U n l l.dropLast ρ h (lastK P U l h (K .normal))
  | false, true => LexOK l.toArray ∧ dsts n l = true ∧ vcDr P U n l l ρ h (atN K h)
  | false, false => DrawE P U n l ρ h K
@[go_sem ↓] theorem DrawC_true (l : List Oper) (K : Exit → Env → Heap → Prop) (e : Bool) : DrawC P U n l ρ h K true e = (LexS l.toArray ∧ dsts n l = true ∧ withL l.dropLast fun l' => vcDr P U n l l' ρ h (lastK P U l h (K .normal))) := by cases e <;> rfl
@[go_sem ↓] theorem DrawC_false (l : List Oper) (K : Exit → Env → Heap → Prop) : DrawC P U n l ρ h K false true = (LexOK l.toArray ∧ dsts n l = true ∧ vcDr P U n l l ρ h (atN K h)) := rfl
@[go_sem ↓] theorem DrawC_eff (l : List Oper) (K : Exit → Env → Heap → Prop) : DrawC P U n l ρ h K false false = DrawE P U n l ρ h K := rfl
def stillD (l : List Oper) : Bool := lastS l && stillL l.dropLast
@[go_sem] theorem stillD_one (o : Oper) : stillD [o] = (isStore o.op && o.guard.isNone) := by simp [stillD, lastS, stillL]
@[go_sem] theorem stillD_cons (o o' : Oper) (r : List Oper) : stillD (o :: o' :: r) = (!effB o.op && stillD (o' :: r)) := by
  simp only [stillD, lastS_cons, dropLast_cons, stillL_cons]
  cases effB o.op <;> simp
@[go_sem ↓] theorem r_draw (id : Nat) (l : List Oper) (K : Exit → Env → Heap → Prop) : vcCode P U n (.region id l.toArray true) ρ h K = DrawC P U n l ρ h K (stillD l) (stillL l) := by
  simp only [vcCode, if_true, stillD]
  cases hb : (lastS l && stillL l.dropLast) with
  | true =>
    simp only [if_true, Bool.and_eq_true, DrawC, LexS, dsts_eq, and_assoc]
  | false =>
    cases he : stillL l with
    | true =>
      simp only [Bool.false_eq_true, if_false, Bool.and_eq_true, DrawC, LexOK, dsts_eq, and_assoc, Bool.true_eq_false]
      rfl
    | false =>
      simp only [Bool.false_eq_true, if_false, DrawC, if_true]
      rfl
def KDrH (P : Program) (U : TypeId → TI) (n : Nat) (all : List Oper) (hm : Heap) (is : List Nat) (K : Env → Heap → Prop) (ρ : Env) (d : Option Tmp) (X : AV) (h : Heap) : Prop := vcDrH P U n all hm is (put ρ d X) h K
@[go_sem ↓] theorem KDrH_eq (all : List Oper) (hm : Heap) (is : List Nat) (K : Env → Heap → Prop) (d : Option Tmp) (X : AV) : KDrH P U n all hm is K ρ d X h = vcDrH P U n all hm is (put ρ d X) h K := rfl
def KDrS (P : Program) (U : TypeId → TI) (n : Nat) (all : List Oper) (hm : Heap) (is : List Nat) (K : Env → Heap → Prop) (ρ : Env) (d : Option Tmp) (X : AV) (h : Heap) : Prop := Sub hm h ∧ vcDrH P U n all hm is (put ρ d X) h K
@[go_sem ↓] theorem KDrS_eq (all : List Oper) (hm : Heap) (is : List Nat) (K : Env → Heap → Prop) (d : Option Tmp) (X : AV) : KDrS P U n all hm is K ρ d X h = (Sub hm h ∧ vcDrH P U n all hm is (put ρ d X) h K) := rfl
@[go_sem] theorem Sub_none : Sub (fun _ => none) h = True := eq_true fun _ _ e => by cases e
@[go_sem ↓] theorem h_nil (all : List Oper) (hm : Heap) (K : Env → Heap → Prop) : vcDrH P U n all hm [] ρ h K = K ρ h := rfl
def OneH (P : Program) (U : TypeId → TI) (n : Nat) (all : List Oper) (hm : Heap) (is : List Nat) (K : Env → Heap → Prop) (ρ : Env) (h : Heap) (o : Oper) (e : Bool) : Prop := match e with
  | true => vcOp P U ρ h o (KDrS P U n all hm is K ρ o.dst)
  | false => pv U ρ hm o.op fun X => vcDrH P U n all hm is (put ρ o.dst X) h K
def constH (k : AV → Heap → Prop) (h : Heap) (x : AV) (_ : Heap) : Prop := k x h
@[go_sem ↓] theorem constH_eq (k : AV → Heap → Prop) (h h' : Heap) (x : AV) : constH k h x h' = k x h := rfl
@[go_sem ↓] theorem OneH_true (all : List Oper) (hm : Heap) (is : List Nat) (K : Env → Heap → Prop) (op : Op) : OneH P U n all hm is K ρ h ⟨d, op, t, p, a, g⟩ true = vcOp P U ρ h ⟨d, op, t, p, a, g⟩ (KDrS P U n all hm is K ρ d) := rfl
def notNil : Op → Bool
  | .binOp _ _ _ y _ => !nilS y
  | _ => true
theorem pv_vcOp {hm : Heap} {op : Op} {k : AV → Heap → Prop} (h1 : effB op = false) (h2 : notNil op = true) : vcOp P U ρ hm ⟨d, op, t, p, a, g⟩ (constH k h) = pv U ρ hm op fun X => k X h := by
  cases op with
  | call c =>
    obtain ⟨cal, args, ts⟩ := c
    cases cal with
    | value q => simp [effB] at h1
    | builtin b => cases b <;> first | rfl | simp [effB] at h1
    | _ => rfl
  | binOp op ty x y ty' =>
    simp only [notNil, Bool.not_eq_true'] at h2
    simp only [vcOp, h2]
    rfl
  | alloc => simp [effB] at h1
  | box => simp [effB] at h1
  | store => simp [effB] at h1
  | makeSlice => simp [effB] at h1
  | makeMap => simp [effB] at h1
  | mapUpdate => simp [effB] at h1
  | _ => rfl
theorem OneH_false {all : List Oper} {hm : Heap} {is : List Nat} {K : Env → Heap → Prop} {op : Op} (h1 : effB op = false) (h2 : notNil op = true) :
    OneH P U n all hm is K ρ h ⟨d, op, t, p, a, g⟩ false = vcOp P U ρ hm ⟨d, op, t, p, a, g⟩ (constH (KDrH P U n all hm is K ρ d) h) := by
  rw [pv_vcOp h1 h2]; rfl
section
variable (all : List Oper) (hm : Heap) (is : List Nat) (K : Env → Heap → Prop) (x y z : Operand) (ty ty' : TypeId)
@[go_sem ↓] theorem OneH_move : OneH P U n all hm is K ρ h ⟨d, .move x, t, p, a, g⟩ false = vcOp P U ρ hm ⟨d, .move x, t, p, a, g⟩ (constH (KDrH P U n all hm is K ρ d) h) := OneH_false rfl rfl
@[go_sem ↓] theorem OneH_assign : OneH P U n all hm is K ρ h ⟨d, .assign x, t, p, a, g⟩ false = vcOp P U ρ hm ⟨d, .assign x, t, p, a, g⟩ (constH (KDrH P U n all hm is K ρ d) h) := OneH_false rfl rfl
@[go_sem ↓] theorem OneH_pick : OneH P U n all hm is K ρ h ⟨d, .pick x y z, t, p, a, g⟩ false = vcOp P U ρ hm ⟨d, .pick x y z, t, p, a, g⟩ (constH (KDrH P U n all hm is K ρ d) h) := OneH_false rfl rfl
@[go_sem ↓] theorem OneH_nilCheck : OneH P U n all hm is K ρ h ⟨d, .nilCheck x, t, p, a, g⟩ false = vcOp P U ρ hm ⟨d, .nilCheck x, t, p, a, g⟩ (constH (KDrH P U n all hm is K ρ d) h) := OneH_false rfl rfl
@[go_sem ↓] theorem OneH_unOp (op : UnOp) : OneH P U n all hm is K ρ h ⟨d, .unOp op ty x, t, p, a, g⟩ false = vcOp P U ρ hm ⟨d, .unOp op ty x, t, p, a, g⟩ (constH (KDrH P U n all hm is K ρ d) h) := OneH_false rfl rfl
@[go_sem ↓] theorem OneH_convert : OneH P U n all hm is K ρ h ⟨d, .convert ty ty' x, t, p, a, g⟩ false = vcOp P U ρ hm ⟨d, .convert ty ty' x, t, p, a, g⟩ (constH (KDrH P U n all hm is K ρ d) h) := OneH_false rfl rfl
@[go_sem ↓] theorem OneH_field (f : Nat) : OneH P U n all hm is K ρ h ⟨d, .field ty x f, t, p, a, g⟩ false = vcOp P U ρ hm ⟨d, .field ty x f, t, p, a, g⟩ (constH (KDrH P U n all hm is K ρ d) h) := OneH_false rfl rfl
@[go_sem ↓] theorem OneH_extract (f : Nat) : OneH P U n all hm is K ρ h ⟨d, .extract x f, t, p, a, g⟩ false = vcOp P U ρ hm ⟨d, .extract x f, t, p, a, g⟩ (constH (KDrH P U n all hm is K ρ d) h) := OneH_false rfl rfl
@[go_sem ↓] theorem OneH_index : OneH P U n all hm is K ρ h ⟨d, .index ty x y, t, p, a, g⟩ false = vcOp P U ρ hm ⟨d, .index ty x y, t, p, a, g⟩ (constH (KDrH P U n all hm is K ρ d) h) := OneH_false rfl rfl
@[go_sem ↓] theorem OneH_fieldAddr (f : Nat) : OneH P U n all hm is K ρ h ⟨d, .fieldAddr ty x f, t, p, a, g⟩ false = vcOp P U ρ hm ⟨d, .fieldAddr ty x f, t, p, a, g⟩ (constH (KDrH P U n all hm is K ρ d) h) := OneH_false rfl rfl
@[go_sem ↓] theorem OneH_indexAddr : OneH P U n all hm is K ρ h ⟨d, .indexAddr ty x y, t, p, a, g⟩ false = vcOp P U ρ hm ⟨d, .indexAddr ty x y, t, p, a, g⟩ (constH (KDrH P U n all hm is K ρ d) h) := OneH_false rfl rfl
@[go_sem ↓] theorem OneH_load : OneH P U n all hm is K ρ h ⟨d, .load ty x, t, p, a, g⟩ false = vcOp P U ρ hm ⟨d, .load ty x, t, p, a, g⟩ (constH (KDrH P U n all hm is K ρ d) h) := OneH_false rfl rfl
@[go_sem ↓] theorem OneH_slice (lo hi mx : Option Operand) : OneH P U n all hm is K ρ h ⟨d, .slice ty x lo hi mx, t, p, a, g⟩ false = vcOp P U ρ hm ⟨d, .slice ty x lo hi mx, t, p, a, g⟩ (constH (KDrH P U n all hm is K ρ d) h) := OneH_false rfl rfl
@[go_sem ↓] theorem OneH_buildSlice (m : Nat) (ps : Array (Nat × Operand)) : OneH P U n all hm is K ρ h ⟨d, .buildSlice ty m ps, t, p, a, g⟩ false = vcOp P U ρ hm ⟨d, .buildSlice ty m ps, t, p, a, g⟩ (constH (KDrH P U n all hm is K ρ d) h) := OneH_false rfl rfl
@[go_sem ↓] theorem OneH_build (ps : Array (Nat × Operand)) : OneH P U n all hm is K ρ h ⟨d, .build ty ps, t, p, a, g⟩ false = vcOp P U ρ hm ⟨d, .build ty ps, t, p, a, g⟩ (constH (KDrH P U n all hm is K ρ d) h) := OneH_false rfl rfl
@[go_sem ↓] theorem OneH_makeInterface : OneH P U n all hm is K ρ h ⟨d, .makeInterface ty x, t, p, a, g⟩ false = vcOp P U ρ hm ⟨d, .makeInterface ty x, t, p, a, g⟩ (constH (KDrH P U n all hm is K ρ d) h) := OneH_false rfl rfl
@[go_sem ↓] theorem OneH_len (aa : Array Operand) (ts : Array TypeId) : OneH P U n all hm is K ρ h ⟨d, .call ⟨.builtin .len, aa, ts⟩, t, p, a, g⟩ false = vcOp P U ρ hm ⟨d, .call ⟨.builtin .len, aa, ts⟩, t, p, a, g⟩ (constH (KDrH P U n all hm is K ρ d) h) := OneH_false rfl rfl
@[go_sem ↓] theorem OneH_cap (aa : Array Operand) (ts : Array TypeId) : OneH P U n all hm is K ρ h ⟨d, .call ⟨.builtin .cap, aa, ts⟩, t, p, a, g⟩ false = vcOp P U ρ hm ⟨d, .call ⟨.builtin .cap, aa, ts⟩, t, p, a, g⟩ (constH (KDrH P U n all hm is K ρ d) h) := OneH_false rfl rfl
@[go_sem ↓] theorem OneH_min (aa : Array Operand) (ts : Array TypeId) : OneH P U n all hm is K ρ h ⟨d, .call ⟨.builtin .min, aa, ts⟩, t, p, a, g⟩ false = vcOp P U ρ hm ⟨d, .call ⟨.builtin .min, aa, ts⟩, t, p, a, g⟩ (constH (KDrH P U n all hm is K ρ d) h) := OneH_false rfl rfl
@[go_sem ↓] theorem OneH_max (aa : Array Operand) (ts : Array TypeId) : OneH P U n all hm is K ρ h ⟨d, .call ⟨.builtin .max, aa, ts⟩, t, p, a, g⟩ false = vcOp P U ρ hm ⟨d, .call ⟨.builtin .max, aa, ts⟩, t, p, a, g⟩ (constH (KDrH P U n all hm is K ρ d) h) := OneH_false rfl rfl
@[go_sem ↓] theorem OneH_binOp (op : BinOp) (w : Tmp) : OneH P U n all hm is K ρ h ⟨d, .binOp op ty x (.tmp w) ty', t, p, a, g⟩ false = vcOp P U ρ hm ⟨d, .binOp op ty x (.tmp w) ty', t, p, a, g⟩ (constH (KDrH P U n all hm is K ρ d) h) := OneH_false rfl rfl
@[go_sem ↓] theorem OneH_binOp_i (op : BinOp) (ik : IntKind) (im : Int) : OneH P U n all hm is K ρ h ⟨d, .binOp op ty x (.const (.int ik im)) ty', t, p, a, g⟩ false = vcOp P U ρ hm ⟨d, .binOp op ty x (.const (.int ik im)) ty', t, p, a, g⟩ (constH (KDrH P U n all hm is K ρ d) h) := OneH_false rfl rfl
@[go_sem ↓] theorem OneH_binOp_b (op : BinOp) (w : Bool) : OneH P U n all hm is K ρ h ⟨d, .binOp op ty x (.const (.bool w)) ty', t, p, a, g⟩ false = vcOp P U ρ hm ⟨d, .binOp op ty x (.const (.bool w)) ty', t, p, a, g⟩ (constH (KDrH P U n all hm is K ρ d) h) := OneH_false rfl rfl
@[go_sem ↓] theorem OneH_binOp_s (op : BinOp) (w : ByteArray) : OneH P U n all hm is K ρ h ⟨d, .binOp op ty x (.const (.string w)) ty', t, p, a, g⟩ false = vcOp P U ρ hm ⟨d, .binOp op ty x (.const (.string w)) ty', t, p, a, g⟩ (constH (KDrH P U n all hm is K ρ d) h) := OneH_false rfl rfl
@[go_sem ↓] theorem OneH_binOp_p (op : BinOp) (w : Option Addr) : OneH P U n all hm is K ρ h ⟨d, .binOp op ty x (.const (.pointer w)) ty', t, p, a, g⟩ false = vcOp P U ρ hm ⟨d, .binOp op ty x (.const (.pointer w)) ty', t, p, a, g⟩ (constH (KDrH P U n all hm is K ρ d) h) := OneH_false rfl rfl
@[go_sem ↓] theorem OneH_makeFunc (f : FuncId) (aa : List Operand) : OneH P U n all hm is K ρ h ⟨d, .makeFunc (.func f) #[] aa.toArray, t, p, a, g⟩ false = vcOp P U ρ hm ⟨d, .makeFunc (.func f) #[] aa.toArray, t, p, a, g⟩ (constH (KDrH P U n all hm is K ρ d) h) := OneH_false rfl rfl
end
def GuardH (P : Program) (U : TypeId → TI) (n : Nat) (all : List Oper) (hm : Heap) (is : List Nat) (ρ : Env) (h : Heap) (K : Env → Heap → Prop) (w : Bool) (o : Oper) (s : Nat) (x : AV) : Prop :=
  gB s w ρ (fun ρ => OneH P U n all hm is K ρ h o (effB o.op)) (fun ρ => vcDrH P U n all hm is (put ρ o.dst (.v undef)) h K) x
section
variable {all : List Oper} {hm : Heap} {is : List Nat} {K : Env → Heap → Prop} {o : Oper} {s : Nat}
@[go_sem ↓] theorem GuardH_tt : GuardH P U n all hm is ρ h K true o s (.v (.bool true)) = OneH P U n all hm is K ((s, .v (.bool true)) :: ρ) h o (effB o.op) := by simp [GuardH, gB, Br]
@[go_sem ↓] theorem GuardH_tf : GuardH P U n all hm is ρ h K true o s (.v (.bool false)) = vcDrH P U n all hm is (put ((s, .v (.bool false)) :: ρ) o.dst (.v undef)) h K := by simp [GuardH, gB, Br]
@[go_sem ↓] theorem GuardH_ft : GuardH P U n all hm is ρ h K false o s (.v (.bool true)) = vcDrH P U n all hm is (put ((s, .v (.bool true)) :: ρ) o.dst (.v undef)) h K := by simp [GuardH, gB, Br]
@[go_sem ↓] theorem GuardH_ff : GuardH P U n all hm is ρ h K false o s (.v (.bool false)) = OneH P U n all hm is K ((s, .v (.bool false)) :: ρ) h o (effB o.op) := by simp [GuardH, gB, Br]
@[go_sem ↓] theorem GuardH_undef (w : Bool) : GuardH P U n all hm is ρ h K w o s (.v undef) = vcDrH P U n all hm is (put ρ o.dst (.v undef)) h K := rfl
theorem GuardH.intro {w b : Bool} (h1 : b = true → GuardH P U n all hm is ρ h K w o s (.v (.bool true))) (h2 : b = false → GuardH P U n all hm is ρ h K w o s (.v (.bool false))) : GuardH P U n all hm is ρ h K w o s (.v (.bool b)) := by
  cases b
  · exact h2 rfl
  · exact h1 rfl
end
def stepH (P : Program) (U : TypeId → TI) (n : Nat) (all : List Oper) (hm : Heap) (is : List Nat) (ρ : Env) (h : Heap) (K : Env → Heap → Prop) (o : Oper) : Prop := match o.guard with
  | none => OneH P U n all hm is K ρ h o (effB o.op)
  | some (gi, w) => bindO (dstAt all gi) fun s => bindO (lk ρ s) (GuardH P U n all hm is ρ h K w o s)
@[go_sem ↓] theorem stepH_none (all : List Oper) (hm : Heap) (is : List Nat) (K : Env → Heap → Prop) (op : Op) : stepH P U n all hm is ρ h K ⟨d, op, t, p, a, none⟩ = OneH P U n all hm is K ρ h ⟨d, op, t, p, a, none⟩ (effB op) := rfl
@[go_sem ↓] theorem stepH_some (all : List Oper) (hm : Heap) (is : List Nat) (K : Env → Heap → Prop) (op : Op) (gi : Nat) (w : Bool) : stepH P U n all hm is ρ h K ⟨d, op, t, p, a, some (gi, w)⟩ = bindO (dstAt all gi) fun s => bindO (lk ρ s) (GuardH P U n all hm is ρ h K w ⟨d, op, t, p, a, some (gi, w)⟩ s) := rfl
@[go_sem ↓] theorem h_cons (all : List Oper) (hm : Heap) (i : Nat) (is : List Nat) (K : Env → Heap → Prop) : vcDrH P U n all hm (i :: is) ρ h K = bindO all[i]? (stepH P U n all hm is ρ h K) := by
  simp only [vcDrH]
  cases all[i]? with
  | none => rfl
  | some o =>
    simp only [bindO_some, stepH]
    have e : ∀ ρ', vcOne P U hm o ρ' h (fun X h' => vcDrH P U n all hm is (put ρ' o.dst X) h' K) = OneH P U n all hm is K ρ' h o (effB o.op) := fun ρ' => by
      unfold vcOne OneH vcE
      cases effB o.op <;> rfl
    cases hg : o.guard with
    | none => simp only [guardA]; exact e ρ
    | some gg =>
      obtain ⟨gi, w⟩ := gg
      simp only
      rw [guardA_eq]
      simp only [e]
      rfl
@[go_sem ↓] theorem d_nil (all : List Oper) (K : Env → Prop) : vcDr P U n all [] ρ h K = K ρ := rfl
@[go_sem ↓] theorem d_cons (all : List Oper) (op : Op) (os : List Oper) (K : Env → Prop) :
    vcDr P U n all (⟨d, op, t, p, a, none⟩ :: os) ρ h K = (dstOK n d = true ∧ vcD1 P U ρ h ⟨d, op, t, p, a, none⟩ (KDr P U n all os h K ρ d)) := rfl
def GuardD (P : Program) (U : TypeId → TI) (n : Nat) (all os : List Oper) (ρ : Env) (h : Heap) (K : Env → Prop) (w : Bool) (d : Option Tmp) (op : Op) (t : TypeId) (p : String) (a : Array Edge) (g : Option (Nat × Bool)) (s : Nat) (x : AV) : Prop :=
  gB s w ρ (fun ρ => vcD1 P U ρ h ⟨d, op, t, p, a, g⟩ (KDr P U n all os h K ρ d)) (fun ρ => vcDr P U n all os (put ρ d (.v undef)) h K) x
section
variable {all os : List Oper} {K : Env → Prop} {op : Op} {s : Nat}
@[go_sem ↓] theorem GuardD_tt : GuardD P U n all os ρ h K true d op t p a g s (.v (.bool true)) = vcD1 P U ((s, .v (.bool true)) :: ρ) h ⟨d, op, t, p, a, g⟩ (KDr P U n all os h K ((s, .v (.bool true)) :: ρ) d) := by simp [GuardD, gB, Br]
@[go_sem ↓] theorem GuardD_tf : GuardD P U n all os ρ h K true d op t p a g s (.v (.bool false)) = vcDr P U n all os (put ((s, .v (.bool false)) :: ρ) d (.v undef)) h K := by simp [GuardD, gB, Br]
@[go_sem ↓] theorem GuardD_ft : GuardD P U n all os ρ h K false d op t p a g s (.v (.bool true)) = vcDr P U n all os (put ((s, .v (.bool true)) :: ρ) d (.v undef)) h K := by simp [GuardD, gB, Br]
@[go_sem ↓] theorem GuardD_ff : GuardD P U n all os ρ h K false d op t p a g s (.v (.bool false)) = vcD1 P U ((s, .v (.bool false)) :: ρ) h ⟨d, op, t, p, a, g⟩ (KDr P U n all os h K ((s, .v (.bool false)) :: ρ) d) := by simp [GuardD, gB, Br]
@[go_sem ↓] theorem GuardD_undef (w : Bool) : GuardD P U n all os ρ h K w d op t p a g s (.v undef) = vcDr P U n all os (put ρ d (.v undef)) h K := rfl
theorem GuardD.intro {w b : Bool} (h1 : b = true → GuardD P U n all os ρ h K w d op t p a g s (.v (.bool true))) (h2 : b = false → GuardD P U n all os ρ h K w d op t p a g s (.v (.bool false))) : GuardD P U n all os ρ h K w d op t p a g s (.v (.bool b)) := by
  cases b
  · exact h2 rfl
  · exact h1 rfl
end
@[go_sem ↓] theorem d_guard (all : List Oper) (op : Op) (gi : Nat) (w : Bool) (os : List Oper) (K : Env → Prop) :
    vcDr P U n all (⟨d, op, t, p, a, some (gi, w)⟩ :: os) ρ h K = (dstOK n d = true ∧ bindO (dstAt all gi) fun s => bindO (lk ρ s) (GuardD P U n all os ρ h K w d op t p a (some (gi, w)) s)) := by
  have := guardA_eq (ρ := ρ) all gi w (fun ρ => vcD1 P U ρ h ⟨d, op, t, p, a, some (gi, w)⟩ (KDr P U n all os h K ρ d)) (fun ρ => vcDr P U n all os (put ρ d (.v undef)) h K)
  show (dstOK n d = true ∧ guardA all ρ (some (gi, w)) _ _) = _
  rw [show (fun s => bindO (lk ρ s) (GuardD P U n all os ρ h K w d op t p a (some (gi, w)) s)) = fun d_1 => bindO (lk ρ d_1) fun x => gB d_1 w ρ (fun ρ => vcD1 P U ρ h ⟨d, op, t, p, a, some (gi, w)⟩ (KDr P U n all os h K ρ d)) (fun ρ => vcDr P U n all os (put ρ d (.v undef)) h K) x from rfl, ← this]
  rfl
def FnD (P : Program) (f : FuncId) (args : List AV) (h : Heap) (k : AV → Prop) : Prop := ∃ X, FnOK P f args h (fun x h' => x = X ∧ h' = h) ∧ k X
@[go_sem ↓] theorem d1_call (q : Operand) (args : List Operand) (ts : Array TypeId) : vcD1 P U ρ h ⟨d, .call ⟨.value q, args.toArray, ts⟩, t, p, a, g⟩ k = bindO (ev ρ q) fun y => fnA y fun f cap => bindO (evs ρ args) fun ys => FnD P f (ys ++ cap) h k := by
  simp only [vcD1, withv_eq, withvs_eq]
  congr 1
def opD (P : Program) (U : TypeId → TI) (ρ : Env) (h : Heap) (d : Option Tmp) (op : Op) (t : TypeId) (p : String) (a : Array Edge) (g : Option (Nat × Bool)) (k : AV → Prop) : Prop := vcOp P U ρ h ⟨d, op, t, p, a, g⟩ (constK k)
@[go_sem ↓] theorem opD_eq (op : Op) : opD P U ρ h d op t p a g k = vcOp P U ρ h ⟨d, op, t, p, a, g⟩ (constK k) := rfl
section
@[go_sem ↓] theorem d1_move (x : Operand) : vcD1 P U ρ h ⟨d, .move x, t, p, a, g⟩ k = opD P U ρ h d (.move x) t p a g k := rfl
@[go_sem ↓] theorem d1_assign (x : Operand) : vcD1 P U ρ h ⟨d, .assign x, t, p, a, g⟩ k = opD P U ρ h d (.assign x) t p a g k := rfl
@[go_sem ↓] theorem d1_pick (x y z : Operand) : vcD1 P U ρ h ⟨d, .pick x y z, t, p, a, g⟩ k = opD P U ρ h d (.pick x y z) t p a g k := rfl
@[go_sem ↓] theorem d1_nilCheck (x : Operand) : vcD1 P U ρ h ⟨d, .nilCheck x, t, p, a, g⟩ k = opD P U ρ h d (.nilCheck x) t p a g k := rfl
theorem d1_bin0 (op : BinOp) (ty ty' : TypeId) (x y : Operand) (hy : nilS y = false) : vcD1 P U ρ h ⟨d, .binOp op ty x y ty', t, p, a, g⟩ k = opD P U ρ h d (.binOp op ty x y ty') t p a g k := by
  simp only [vcD1, opD, vcOp, hy]
  rfl
@[go_sem ↓] theorem d1_binOp (op : BinOp) (ty ty' : TypeId) (x : Operand) (y : Tmp) : vcD1 P U ρ h ⟨d, .binOp op ty x (.tmp y) ty', t, p, a, g⟩ k = opD P U ρ h d (.binOp op ty x (.tmp y) ty') t p a g k := d1_bin0 _ _ _ _ _ rfl
@[go_sem ↓] theorem d1_binOp_i (op : BinOp) (ty ty' : TypeId) (x : Operand) (ik : IntKind) (im : Int) : vcD1 P U ρ h ⟨d, .binOp op ty x (.const (.int ik im)) ty', t, p, a, g⟩ k = opD P U ρ h d (.binOp op ty x (.const (.int ik im)) ty') t p a g k := d1_bin0 _ _ _ _ _ rfl
@[go_sem ↓] theorem d1_binOp_b (op : BinOp) (ty ty' : TypeId) (x : Operand) (b : Bool) : vcD1 P U ρ h ⟨d, .binOp op ty x (.const (.bool b)) ty', t, p, a, g⟩ k = opD P U ρ h d (.binOp op ty x (.const (.bool b)) ty') t p a g k := d1_bin0 _ _ _ _ _ rfl
@[go_sem ↓] theorem d1_binOp_s (op : BinOp) (ty ty' : TypeId) (x : Operand) (b : ByteArray) : vcD1 P U ρ h ⟨d, .binOp op ty x (.const (.string b)) ty', t, p, a, g⟩ k = opD P U ρ h d (.binOp op ty x (.const (.string b)) ty') t p a g k := d1_bin0 _ _ _ _ _ rfl
@[go_sem ↓] theorem d1_binOp_p (op : BinOp) (ty ty' : TypeId) (x : Operand) (b : Option Addr) : vcD1 P U ρ h ⟨d, .binOp op ty x (.const (.pointer b)) ty', t, p, a, g⟩ k = opD P U ρ h d (.binOp op ty x (.const (.pointer b)) ty') t p a g k := d1_bin0 _ _ _ _ _ rfl
@[go_sem ↓] theorem d1_unOp (op : UnOp) (ty : TypeId) (x : Operand) : vcD1 P U ρ h ⟨d, .unOp op ty x, t, p, a, g⟩ k = opD P U ρ h d (.unOp op ty x) t p a g k := rfl
@[go_sem ↓] theorem d1_convert (s e : TypeId) (x : Operand) : vcD1 P U ρ h ⟨d, .convert s e x, t, p, a, g⟩ k = opD P U ρ h d (.convert s e x) t p a g k := rfl
@[go_sem ↓] theorem d1_field (ty : TypeId) (x : Operand) (f : Nat) : vcD1 P U ρ h ⟨d, .field ty x f, t, p, a, g⟩ k = opD P U ρ h d (.field ty x f) t p a g k := rfl
@[go_sem ↓] theorem d1_extract (x : Operand) (i : Nat) : vcD1 P U ρ h ⟨d, .extract x i, t, p, a, g⟩ k = opD P U ρ h d (.extract x i) t p a g k := rfl
@[go_sem ↓] theorem d1_index (ty : TypeId) (x i : Operand) : vcD1 P U ρ h ⟨d, .index ty x i, t, p, a, g⟩ k = opD P U ρ h d (.index ty x i) t p a g k := rfl
@[go_sem ↓] theorem d1_fieldAddr (ty : TypeId) (x : Operand) (f : Nat) : vcD1 P U ρ h ⟨d, .fieldAddr ty x f, t, p, a, g⟩ k = opD P U ρ h d (.fieldAddr ty x f) t p a g k := rfl
@[go_sem ↓] theorem d1_indexAddr (ty : TypeId) (x i : Operand) : vcD1 P U ρ h ⟨d, .indexAddr ty x i, t, p, a, g⟩ k = opD P U ρ h d (.indexAddr ty x i) t p a g k := rfl
@[go_sem ↓] theorem d1_load (ty : TypeId) (x : Operand) : vcD1 P U ρ h ⟨d, .load ty x, t, p, a, g⟩ k = opD P U ρ h d (.load ty x) t p a g k := rfl
@[go_sem ↓] theorem d1_slice (ty : TypeId) (x : Operand) (lo hi mx : Option Operand) : vcD1 P U ρ h ⟨d, .slice ty x lo hi mx, t, p, a, g⟩ k = opD P U ρ h d (.slice ty x lo hi mx) t p a g k := rfl
@[go_sem ↓] theorem d1_buildSlice (ty : TypeId) (len : Nat) (parts : Array (Nat × Operand)) : vcD1 P U ρ h ⟨d, .buildSlice ty len parts, t, p, a, g⟩ k = opD P U ρ h d (.buildSlice ty len parts) t p a g k := rfl
@[go_sem ↓] theorem d1_build (ty : TypeId) (parts : Array (Nat × Operand)) : vcD1 P U ρ h ⟨d, .build ty parts, t, p, a, g⟩ k = opD P U ρ h d (.build ty parts) t p a g k := rfl
@[go_sem ↓] theorem d1_makeInterface (ty : TypeId) (x : Operand) : vcD1 P U ρ h ⟨d, .makeInterface ty x, t, p, a, g⟩ k = opD P U ρ h d (.makeInterface ty x) t p a g k := rfl
@[go_sem ↓] theorem d1_len (x : Operand) (ty : TypeId) : vcD1 P U ρ h ⟨d, .call ⟨.builtin .len, #[x], #[ty]⟩, t, p, a, g⟩ k = opD P U ρ h d (.call ⟨.builtin .len, #[x], #[ty]⟩) t p a g k := rfl
@[go_sem ↓] theorem d1_cap (x : Operand) (ty : TypeId) : vcD1 P U ρ h ⟨d, .call ⟨.builtin .cap, #[x], #[ty]⟩, t, p, a, g⟩ k = opD P U ρ h d (.call ⟨.builtin .cap, #[x], #[ty]⟩) t p a g k := rfl
@[go_sem ↓] theorem d1_min (args : Array Operand) (ts : Array TypeId) : vcD1 P U ρ h ⟨d, .call ⟨.builtin .min, args, ts⟩, t, p, a, g⟩ k = opD P U ρ h d (.call ⟨.builtin .min, args, ts⟩) t p a g k := rfl
@[go_sem ↓] theorem d1_max (args : Array Operand) (ts : Array TypeId) : vcD1 P U ρ h ⟨d, .call ⟨.builtin .max, args, ts⟩, t, p, a, g⟩ k = opD P U ρ h d (.call ⟨.builtin .max, args, ts⟩) t p a g k := rfl
end
@[go_sem ↓] theorem srcA_oa (e : TypeId) (id off len : Nat) (f : List AV → Prop) : srcA U e h (.oa id off len) f = ((U e).sz = 1 ∧ bindO (h id) fun b => objL b fun cs _ => off + len ≤ cs.length ∧ (∀ x ∈ (cs.drop off).take len, x.cells.length = 1) ∧ (∀ x ∈ (cs.drop off).take len, isAggA x = false) ∧ f ((cs.drop off).take len)) := by
  simp only [srcA]
  congr 1
  cases h id with
  | none => rfl
  | some b => cases b <;> rfl
@[go_sem ↓] theorem srcA_ob (e : TypeId) (id off len cap sz : Nat) (f : List AV → Prop) : srcA U e h (.ob id off len cap sz) f = (sz = (U e).sz ∧ bindO (h id) fun b => objL b fun cs _ => ∃ ys : List AV, ys.length = len ∧ off + len * sz ≤ cs.length ∧ flatA ys = (cs.drop off).take (len * sz) ∧ f ys) := by
  simp only [srcA]
  congr 1
  cases h id with
  | none => rfl
  | some b => cases b <;> rfl
@[go_sem] theorem cutA_sl (xs : List AV) (q : Perm) (n : Nat) : cutA (.sl xs q) n = .sl xs q := rfl
@[go_sem] theorem cutA_s (l : List UInt8) (n : Nat) : cutA (.s l) n = .s l := rfl
@[go_sem] theorem cutA_oa (i o l n : Nat) : cutA (.oa i o l) n = .oa i o l := rfl
@[go_sem] theorem cutA_ob (i o l c s n : Nat) : cutA (.ob i o l c s) n = .ob i o (min l n) c s := rfl
def cpK (U : TypeId → TI) (h : Heap) (x y : AV) (Q : AV → Heap → Prop) (tk : TK) : Prop := match tk, x with
  | .slice e, .oa id off len => (U e).sz = 1 ∧ srcA U e h y fun ys => Sized 1 ys ∧ (∀ z ∈ ys, isAggA z = false) ∧ bindO (h id) fun b => objL b fun cs t =>
      ys.length ≤ len ∧ off + len ≤ cs.length ∧ Q (.v (.int .i64 ys.length)) (upd h id (some (.obj (over cs off ys) t)))
  | .slice e, .ob id off len _ sz => (U e).sz ≠ 0 ∧ sz = (U e).sz ∧ srcA U e h (cutA y len) fun ys => Sized (U e).sz ys ∧ bindO (h id) fun b => objL b fun cs t =>
      ys.length ≤ len ∧ off + len * (U e).sz ≤ cs.length ∧ Q (.v (.int .i64 ys.length)) (upd h id (some (.obj (over cs off (flatA ys)) t)))
  | _, _ => False
@[go_sem ↓] theorem cpK_ob (id off len cap sz : Nat) (y : AV) (e : TypeId) : cpK U h (.ob id off len cap sz) y Q (.slice e) = ((U e).sz ≠ 0 ∧ sz = (U e).sz ∧ srcA U e h (cutA y len) fun ys => Sized (U e).sz ys ∧ bindO (h id) fun b => objL b fun cs t =>
      ys.length ≤ len ∧ off + len * (U e).sz ≤ cs.length ∧ Q (.v (.int .i64 ys.length)) (upd h id (some (.obj (over cs off (flatA ys)) t)))) := rfl
@[go_sem ↓] theorem cpK_oa (id off len : Nat) (y : AV) (e : TypeId) : cpK U h (.oa id off len) y Q (.slice e) = ((U e).sz = 1 ∧ srcA U e h y fun ys => Sized 1 ys ∧ (∀ z ∈ ys, isAggA z = false) ∧ bindO (h id) fun b => objL b fun cs t =>
      ys.length ≤ len ∧ off + len ≤ cs.length ∧ Q (.v (.int .i64 ys.length)) (upd h id (some (.obj (over cs off ys) t)))) := rfl
@[go_sem ↓] theorem o_copy (x y : Operand) (t1 t2 : TypeId) : vcOp P U ρ h ⟨d, .call ⟨.builtin .copy, #[x, y], #[t1, t2]⟩, t, p, a, g⟩ Q = bindO (ev ρ x) fun u => bindO (ev ρ y) fun v => atK (U t1).k (cpK U h u v Q) := by
  simp only [vcOp, withv_eq, vcCopy, atK]
  congr 1
  funext u
  congr 1
  funext v
  cases (U t1).k with
  | slice e =>
    cases u with
    | oa id off len =>
      refine congrArg (fun f => (U e).sz = 1 ∧ srcA U e h v f) (funext fun ys => ?_)
      refine congrArg (fun q => Sized 1 ys ∧ (∀ z ∈ ys, isAggA z = false) ∧ q) ?_
      cases h id with
      | none => rfl
      | some b => cases b <;> rfl
    | ob id off len cap sz =>
      refine congrArg (fun f => (U e).sz ≠ 0 ∧ sz = (U e).sz ∧ srcA U e h (cutA v len) f) (funext fun ys => ?_)
      refine congrArg (fun q => Sized (U e).sz ys ∧ q) ?_
      cases h id with
      | none => rfl
      | some b => cases b <;> rfl
    | _ => simp [cpK]
  | _ => simp [cpK]
end
end Go.Ab

set_option linter.unusedSimpArgs false
set_option linter.unusedVariables false
namespace Go.Ab
open Go
section
variable {P : Program} {U : TypeId → TI} {n : Nat} {ρ : Env} {h h' : Heap} {tb : TypeId} {y : AV} {l : List UInt8}
@[go_sem] theorem byteA_eq (c : UInt8) : byteA c = .v (.int .u8 c.toNat) := rfl
@[go_sem] theorem Sized_bytes (l : List UInt8) : Sized 1 (l.map byteA) = True := by
  apply eq_true
  intro z hz
  obtain ⟨c, _, rfl⟩ := List.mem_map.1 hz
  rfl
@[go_sem] theorem Sized_nil (m : Nat) : Sized m [] = True := by simp [Sized]
@[go_sem] theorem Sized_cons (m : Nat) (x : AV) (r : List AV) : Sized m (x :: r) = (x.cells.length = m ∧ Sized m r) := by simp [Sized]
theorem noAgg_bytes (l : List UInt8) : ∀ z ∈ l.map byteA, isAggA z = false := by
  intro z hz
  obtain ⟨c, _, rfl⟩ := List.mem_map.1 hz
  rfl
@[go_sem] theorem noAgg_bytes' (l : List UInt8) : (∀ z ∈ l.map byteA, isAggA z = false) = True := eq_true (noAgg_bytes l)
@[go_sem] theorem length_bytes (l : List UInt8) : (l.map byteA).length = l.length := List.length_map ..
theorem Sub.upd_new {id : Nat} {k : Option Blk} (hid : h id = Option.none) : Sub h (Ab.upd h id k) := (Sub.refl h).new hid k
def Keep (id : Nat) (h h' : Heap) : Prop := ∀ j k, j ≠ id → h j = some k → h' j = some k
theorem Keep.refl (id : Nat) (h : Heap) : Keep id h h := fun _ _ _ e => e
theorem Keep.trans {a b c : Heap} {id : Nat} (x : Keep id a b) (y : Keep id b c) : Keep id a c := fun j k e hj => y j k e (x j k e hj)
theorem Sub.keep (hs : Sub h h') (id : Nat) : Keep id h h' := fun _ _ _ e => hs _ _ e
theorem Keep.upd (id : Nat) (k : Option Blk) : Keep id h (Ab.upd h id k) := fun _ _ e hj => by rw [upd_other _ _ e]; exact hj
def Bytes (tb : TypeId) (h : Heap) (y : AV) (l : List UInt8) : Prop :=
  (∃ q, y = .sl (l.map byteA) q) ∨ ∃ id off cs, y = .oa id off l.length ∧ h id = some (.obj cs tb) ∧ off + l.length ≤ cs.length ∧ (cs.drop off).take l.length = l.map byteA
theorem Bytes.sl (l : List UInt8) (q : Perm) : Bytes tb h (.sl (l.map byteA) q) l := .inl ⟨q, rfl⟩
theorem Bytes.nil (q : Perm) : Bytes tb h (.sl [] q) [] := .inl ⟨q, rfl⟩
theorem Bytes.oa {id off : Nat} {cs : List AV} (h1 : h id = some (.obj cs tb)) (h2 : off + l.length ≤ cs.length) (h3 : (cs.drop off).take l.length = l.map byteA) : Bytes tb h (.oa id off l.length) l := .inr ⟨id, off, cs, rfl, h1, h2, h3⟩
theorem Bytes.sub (hb : Bytes tb h y l) (hs : Sub h h') : Bytes tb h' y l := by
  rcases hb with hb | ⟨id, off, cs, rfl, h1, h2, h3⟩
  · exact .inl hb
  · exact .oa (hs _ _ h1) h2 h3
theorem Bytes.keep (hb : Bytes tb h y l) {id : Nat} (hs : Keep id h h') {cs : List AV} {t : TypeId} (hid : h id = some (.obj cs t)) (ht : t ≠ tb) : Bytes tb h' y l := by
  rcases hb with hb | ⟨i, off, cs', rfl, h1, h2, h3⟩
  · exact .inl hb
  · refine .oa (hs _ _ (fun e => ?_) h1) h2 h3
    subst e
    rw [hid] at h1
    cases h1
    exact ht rfl
theorem Bytes.new (hb : Bytes tb h y l) {id : Nat} {k : Option Blk} (hid : h id = none) : Bytes tb (Ab.upd h id k) y l := hb.sub (Sub.upd_new hid)
theorem Bytes.cells (hb : Bytes tb h y l) : y.cells = [y] := by
  rcases hb with ⟨q, rfl⟩ | ⟨id, off, cs, rfl, _⟩ <;> rfl
theorem Bytes.fit (hb : Bytes tb h y l) (m : Nat) : Ab.fit y m = (m = 1) := by
  rcases hb with ⟨q, rfl⟩ | ⟨id, off, cs, rfl, _⟩ <;> rfl
theorem Bytes.len (hb : Bytes tb h y l) (e : TypeId) (k : AV → Prop) : lenK y k (.slice e) = k (.v (.int .i64 l.length)) := by
  rcases hb with ⟨q, rfl⟩ | ⟨id, off, cs, rfl, _⟩
  · simp only [lenK, List.length_map]
  · rfl
theorem Bytes.src (hb : Bytes tb h y l) {e : TypeId} (he : (U e).sz = 1) (k : List AV → Prop) : srcA U e h y k = k (l.map byteA) := by
  rcases hb with ⟨q, rfl⟩ | ⟨id, off, cs, rfl, h1, h2, h3⟩
  · rfl
  · rw [srcA_oa, h1, he]
    simp only [bindO_some, objL_eq, h3, h2, true_and]
    apply propext
    constructor
    · rintro ⟨_, _, hk⟩; exact hk
    · intro hk
      exact ⟨fun x hx => by obtain ⟨c, _, rfl⟩ := List.mem_map.1 hx; rfl, noAgg_bytes l, hk⟩
def ByteP (U : TypeId → TI) (tb : TypeId) (h : Heap) (p : AV) (c : UInt8) : Prop := ∀ k : AV → Prop, loadA U h tb p k = k (byteA c)
theorem Bytes.idx (hb : Bytes tb h y l) {m : Int} {x : IntKind} {K : AV → Prop} (j : Nat) (hm : m = j) (hj : j < l.length) (hz : (U tb).sz = 1) (ha : (U tb).k.agg = false)
    (hk : ∀ p, ByteP U tb h p l[j] → K p) : iaddrK U y (.v (.int x m)) K (.slice tb) := by
  subst hm
  rcases hb with ⟨q, rfl⟩ | ⟨id, off, cs, rfl, h1, h2, h3⟩
  · refine (iaddrK_sl ..).mpr ⟨by rw [hz]; decide, ?_⟩
    refine IdxE.at j (by simpa using hj) (by rw [List.getElem_map, hz]; rfl) ?_
    simp only [List.getElem_map]
    refine hk _ fun k => ?_
    simp only [loadA, atA_eq, ha, hz, byteA, AV.cells, isAggA, List.length_cons, List.length_nil, Nat.zero_add, and_self, if_true]
  · refine (iaddrK_oa ..).mpr ⟨by rw [hz]; decide, by omega, by omega, ?_⟩
    refine hk _ fun k => ?_
    have hlt : off + j < cs.length := by omega
    have e1 : cs[off + j]? = some (byteA l[j]) := by
      have := congrArg (fun q => q[j]?) h3
      simp only [List.getElem?_take, hj, if_true, List.getElem?_drop, List.getElem?_map, List.getElem?_eq_getElem hj, Option.map_some] at this
      exact this
    simp only [loadA, h1, bindO_some, objL_eq, hz, Nat.mul_one, Int.toNat_natCast, partA_eq, ha, Br, e1]
    simp
theorem Bytes.take (hb : Bytes tb h y l) {hi : Operand} {m : Int} {x : IntKind} {K : AV → Prop} (j : Nat) (hm : ev ρ hi = some (.v (.int x m))) (hj : m = j) (hl : j ≤ l.length) (hz : (U tb).sz = 1) (hk : ∀ z, Bytes tb h z (l.take j) → K z) :
    sliceK U ρ y none (some hi) none K (.slice tb) := by
  subst hj
  rcases hb with ⟨q, rfl⟩ | ⟨id, off, cs, rfl, h1, h2, h3⟩
  · rw [sliceK_none, optA_some, hm]
    refine ⟨by rw [hz]; decide, ?_⟩
    simp only [bindO_some, intA_eq, Option.isSome_some, cutL_ft, Int.toNat_natCast]
    refine ⟨by omega, by simpa using hl, ?_⟩
    rw [← List.map_take]
    exact hk _ (.sl _ _)
  · rw [sliceK_oa]
    refine ⟨by rw [hz]; decide, fun _ => hz, ?_⟩
    simp only [optA_none, optA_some, hm, bindO_some, intA_eq]
    refine ⟨by omega, by omega, by omega, ?_⟩
    simp only [Int.toNat_natCast, hz, Nat.mul_one]
    have e : (l.take j).length = j := by simp; omega
    have := hk (.oa id off (l.take j).length) (.oa h1 (by omega) (by
      rw [e, List.map_take, ← h3, List.take_take, Nat.min_eq_left hl]))
    rw [e] at this
    simpa using this
end
end Go.Ab

set_option linter.unusedSimpArgs false
set_option linter.unusedVariables false
namespace Go.Ab
open Go
section
variable {P : Program} {U : TypeId → TI} {n : Nat} {ρ : Env} {h h' h2 : Heap} {e tb : TypeId} {y v : AV} {xs zs : List AV} {l : List UInt8} {Q : AV → Heap → Prop}
def KeepObj (h h' : Heap) : Prop := ∀ j cs t, h j = some (.obj cs t) → h' j = some (.obj cs t)
theorem KeepObj.refl (h : Heap) : KeepObj h h := fun _ _ _ e => e
theorem KeepObj.trans {a b c : Heap} (x : KeepObj a b) (y : KeepObj b c) : KeepObj a c := fun j cs t e => y j cs t (x j cs t e)
theorem Sub.keepObj (hs : Sub h h') : KeepObj h h' := fun _ _ _ e => hs _ _ e
theorem Bytes.keepObj (hb : Bytes tb h y l) (hs : KeepObj h h') : Bytes tb h' y l := by
  rcases hb with hb | ⟨id, off, cs, rfl, h1, h2, h3⟩
  · exact .inl hb
  · exact .oa (hs _ _ _ h1) h2 h3
def Acc (U : TypeId → TI) (e : TypeId) (h h' : Heap) (y : AV) (xs : List AV) : Prop :=
  Sub h h' ∧ (y = .sl xs .full ∨ ∃ id, h id = none ∧ y = .sl xs (.own id) ∧ h' id = some (.spare xs.length (U e).sz))
theorem Acc.full (hs : Sub h h') : Acc U e h h' (.sl xs .full) xs := ⟨hs, .inl rfl⟩
theorem Acc.sub (ha : Acc U e h h' y xs) (hs : Sub h' h2) : Acc U e h h2 y xs := by
  obtain ⟨h1, rfl | ⟨id, i1, rfl, i2⟩⟩ := ha
  · exact ⟨h1.trans hs, .inl rfl⟩
  · exact ⟨h1.trans hs, .inr ⟨id, i1, rfl, hs _ _ i2⟩⟩
theorem Acc.row (ha : Acc U e h h' y xs) : ∃ q, y = .sl xs q := by
  obtain ⟨h1, rfl | ⟨id, i1, rfl, i2⟩⟩ := ha <;> exact ⟨_, rfl⟩
theorem Acc.weak (ha : Acc U e h h' y xs) : Weak y (.sl xs .no) := by
  obtain ⟨q, rfl⟩ := ha.row; exact .sl _ _
theorem Acc.fit (ha : Acc U e h h' y xs) (m : Nat) : Ab.fit y m = (m = 1) := by
  obtain ⟨q, rfl⟩ := ha.row; rfl
theorem Acc.len (ha : Acc U e h h' y xs) (t : TypeId) (k : AV → Prop) : lenK y k (.slice t) = k (.v (.int .i64 xs.length)) := by
  obtain ⟨q, rfl⟩ := ha.row; rfl
theorem Acc.app (ha : Acc U e h h' y xs) (hz : (U e).sz ≠ 0) (hb : (U e).bytes ≠ 0) (hsrc : ∀ k : List AV → Prop, k zs → srcA U e h' v k) (s1 : Sized (U e).sz xs) (s2 : Sized (U e).sz zs)
    (hlen : (xs.length + zs.length) * (U e).bytes ≤ 140737488355328) (hk : ∀ y' h'', Acc U e h h'' y' (xs ++ zs) → KeepObj h' h'' → Q y' h'') : apK U h' y v Q (.slice e) := by
  have keep : ∀ id, (h' id = none ∨ ∃ m, h' id = some (.spare m (U e).sz)) → ∀ k, KeepObj h' (upd h' id k) := fun id hid k j cs t hj => by
    rw [upd_other _ _ fun e => ?_]
    · exact hj
    · subst e
      rcases hid with hid | ⟨m, hid⟩ <;> rw [hid] at hj <;> cases hj
  obtain ⟨h1, rfl | ⟨id, i1, rfl, i2⟩⟩ := ha
  · refine (apK_full ..).mpr ⟨hz, hb, hsrc _ ⟨s1, s2, hlen, fun hn => ?_, fun hn => .own fun id hid => ?_⟩⟩
    · subst hn
      have := hk (.sl xs .full) h' (by rw [List.append_nil]; exact .full h1) (.refl _)
      exact this
    · exact hk _ _ ⟨h1.new hid _, .inr ⟨id, h1.none hid, rfl, by rw [upd_same, List.length_append]⟩⟩ (keep id (.inl hid) _)
  · refine (apK_own ..).mpr ⟨hz, hb, hsrc _ ⟨s1, s2, hlen, i2, ?_⟩⟩
    have hs2 : Sub h (upd h' id (some (.spare (xs.length + zs.length) (U e).sz))) := by
      intro j k hj
      rw [upd_other _ _ fun e => ?_]
      · exact h1 _ _ hj
      · subst e; rw [i1] at hj; cases hj
    exact hk _ _ ⟨hs2, .inr ⟨id, i1, rfl, by rw [upd_same, List.length_append]⟩⟩ (keep id (.inr ⟨_, i2⟩) _)
theorem Bytes.noAgg (hb : Bytes tb h y l) : isAggA y = false := by
  rcases hb with ⟨q, rfl⟩ | ⟨id, off, cs, rfl, _⟩ <;> rfl
theorem Bytes.load (hb : Bytes tb h y l) {t : TypeId} (hz : (U t).sz = 1) (ha : (U t).k.agg = false) (k : AV → Prop) : loadA U h' t (.pe y 0) k = k y := by
  simp only [loadA, atA_eq, hz, ha, hb.cells, hb.noAgg, List.length_cons, List.length_nil, Nat.zero_add, and_self, if_true]
theorem Bytes.wf (hb : Bytes tb h y l) (hw : wfA y) : l.length < lim ∨ ∃ id off m, y = .oa id off m := by
  rcases hb with ⟨q, rfl⟩ | ⟨id, off, cs, rfl, _⟩
  · exact .inl (by simpa [wfA, wf1] using hw)
  · exact .inr ⟨_, _, _, rfl⟩
def Rows (tb : TypeId) (h : Heap) (ys : List AV) (ls : List (List UInt8)) : Prop := ys.length = ls.length ∧ ∀ i (h1 : i < ys.length) (h2 : i < ls.length), Bytes tb h ys[i] ls[i]
theorem Rows.keepObj {ys : List AV} {ls : List (List UInt8)} (hr : Rows tb h ys ls) (hs : KeepObj h h') : Rows tb h' ys ls := ⟨hr.1, fun i h1 h2 => (hr.2 i h1 h2).keepObj hs⟩
theorem Rows.sized {ys : List AV} {ls : List (List UInt8)} (hr : Rows tb h ys ls) : Sized 1 ys := fun z hz => by
  obtain ⟨i, hi, rfl⟩ := List.mem_iff_getElem.1 hz
  rw [(hr.2 i hi (by rw [← hr.1]; exact hi)).cells]; rfl
theorem Rows.nil : Rows tb h [] [] := ⟨rfl, fun i h1 => by cases h1⟩
theorem Rows.cons {ys : List AV} {ls : List (List UInt8)} (hb : Bytes tb h y l) (hr : Rows tb h ys ls) : Rows tb h (y :: ys) (l :: ls) := ⟨by simp [hr.1], fun i h1 h2 => by
  cases i with
  | zero => exact hb
  | succ i => exact hr.2 i (by simpa using h1) (by simpa using h2)⟩
end
end Go.Ab

set_option linter.unusedSimpArgs false
set_option linter.unusedVariables false
namespace Go.Ab
open Go
section
variable {P : Program}
def noHeap : Heap := fun _ => none
def cx0 (w : World) : Cx := ⟨w, fun _ => ⟨0, 0, none⟩, noHeap⟩
theorem good0 (w : World) : Good (cx0 w) where
  fin := ⟨0, fun _ _ => rfl⟩
  inj := fun i j k l h => by cases h
  obj := fun id cs t h => by cases h
  spare := fun id n sz h => by cases h
  mp := fun id m h => by cases h
  keys := fun id m h => by cases h
  ro := fun id b vs h => by cases h
theorem owned0 (w : World) (b o : Nat) : ¬ owned (cx0 w) b o := fun ⟨id, k, h, _⟩ => by cases h
theorem FnOK.calls {f : FuncId} {args : List AV} {b : Value} {vs : Array Value} {w : World} (hf : FnOK P f args noHeap fun r _ => r = .v b) (hv : vs.size = args.length) (hr : ∀ i (hi : i < args.length), Rep (cx0 w) args[i] (vs.getD i undef)) :
    Calls P f vs w fun e w' => e = .returned b ∧ Go.RowKit.Below w.heap.size w w' := by
  refine (hf.2 (cx0 w) vs (fun _ _ h => by cases h) (good0 w) hv hr).mono ?_
  rintro e w' ⟨u, rfl, c', x, h', rfl, g', hE, hx, hs, rfl⟩
  rw [hx.v_inv]
  exact ⟨rfl, hE.os, hE.tape, hE.output, hE.size, fun k hk => hE.block k hk fun o => owned0 w k o⟩
end
end Go.Ab

set_option linter.unusedSimpArgs false
set_option linter.unusedVariables false
namespace Go.Ab
open Go
section
variable {P : Program} {f : FuncId} {args : List AV} {h : Heap} {Q : AV → Heap → Prop} {X : AV}
theorem FnOK.pthen (hf : FnOK P f args h fun r h' => r = X ∧ h' = h) (k : Q X h) : FnOK P f args h Q :=
  hf.mono fun r h' ⟨e1, e2⟩ => by subst e1; subst e2; exact k
def KV (K : AV → Prop) (x : AV) : Prop := K x
@[congr] theorem KV_congr {K : AV → Prop} {x x' : AV} (e : x = x') : KV K x = KV K x' := by rw [e]
@[go_sem] theorem KV_eq (K : AV → Prop) (x : AV) : KV K x = K x := rfl
section
variable {U : TypeId → TI} {ρ : Env} {K : AV → Prop}
@[go_sem ↓ high] theorem sliceK_to (xs : List AV) (q : Perm) (hi : Operand) (e : TypeId) : sliceK U ρ (.sl xs q) none (some hi) none K (.slice e) = ((U e).sz ≠ 0 ∧ bindO (ev ρ hi) fun y => intA y fun b => 0 ≤ b ∧ b ≤ xs.length ∧ KV K (.sl (xs.take b.toNat) (cutQ xs q false true))) := by
  rw [sliceK_none, optA_some]; rfl
@[go_sem ↓ high] theorem sliceK_all (xs : List AV) (q : Perm) (e : TypeId) : sliceK U ρ (.sl xs q) none none none K (.slice e) = ((U e).sz ≠ 0 ∧ K (.sl xs q)) := by
  rw [sliceK_none, optA_none]
  simp [cutL, cutQ_ff']
@[go_sem ↓ high] theorem sliceK_from (xs : List AV) (q : Perm) (lo : Operand) (e : TypeId) : sliceK U ρ (.sl xs q) (some lo) none none K (.slice e) = ((U e).sz ≠ 0 ∧ Sized (U e).sz xs ∧ bindO (ev ρ lo) fun y => intA y fun a => 0 ≤ a ∧ a ≤ xs.length ∧ KV K (.sl (xs.drop a.toNat) (cutQ xs q true false))) := by
  rw [sliceK_some, optA_some]
  simp only [optA_none, Option.isSome_none, cutL_tf, KV]
  congr 2
  congr 1
  funext y
  congr 1
  funext a
  simp
@[go_sem ↓ high] theorem sliceK_ft (xs : List AV) (q : Perm) (lo hi : Operand) (e : TypeId) : sliceK U ρ (.sl xs q) (some lo) (some hi) none K (.slice e) = ((U e).sz ≠ 0 ∧ Sized (U e).sz xs ∧ bindO (ev ρ lo) fun y => intA y fun a => bindO (ev ρ hi) fun z => intA z fun b => 0 ≤ a ∧ a ≤ b ∧ b ≤ xs.length ∧ KV K (.sl ((xs.drop a.toNat).take (b.toNat - a.toNat)) (cutQ xs q true true))) := by
  rw [sliceK_some, optA_some]
  simp only [optA_some, Option.isSome_some, cutL_tt, KV]
end
attribute [go_sem] Int.toNat_natCast Int.toNat_zero
@[go_sem] theorem take_bytes (l : List UInt8) (n : Nat) : (l.map byteA).take n = (l.take n).map byteA := (List.map_take ..).symm
@[go_sem] theorem drop_bytes (l : List UInt8) (n : Nat) : (l.map byteA).drop n = (l.drop n).map byteA := (List.map_drop ..).symm
theorem choose_map {α β : Type} {f : β → α} {p : β → Prop} : ∀ (xs : List α), (∀ x ∈ xs, ∃ b, x = f b ∧ p b) → ∃ bs : List β, xs = bs.map f ∧ ∀ b ∈ bs, p b
  | [], _ => ⟨[], rfl, fun b h => by cases h⟩
  | x :: xs, h => by
    obtain ⟨b, rfl, hb⟩ := h x (by simp)
    obtain ⟨bs, rfl, hbs⟩ := choose_map xs fun y hy => h y (by simp [hy])
    exact ⟨b :: bs, rfl, fun c hc => by
      rcases List.mem_cons.1 hc with h1 | h1
      · rw [h1]; exact hb
      · exact hbs c h1⟩
def iA (n : Int) : AV := .v (.int .i64 n)
@[go_sem] theorem iA_eq (n : Int) : iA n = .v (.int .i64 n) := rfl
theorem wr64 (n : Int) (h : -9223372036854775808 ≤ n ∧ n ≤ 9223372036854775807) : IntKind.i64.wrap n = n := IntWalk.i64_in _ (by omega)
end
end Go.Ab

set_option linter.unusedSimpArgs false
set_option linter.unusedVariables false
namespace Go.Ab
open Go
section
variable {P : Program} {U : TypeId → TI}
inductive Dat (U : TypeId → TI) : TypeId → AV → Prop
  | bool {t : TypeId} (b : Bool) (h : (U t).k = .bool) : Dat U t (.v (.bool b))
  | int {t : TypeId} {k : IntKind} (n : Int) (h : (U t).k = .int k) (hw : (Lit.int k n).wf = true) : Dat U t (.v (.int k n))
  | str {t : TypeId} (l : List UInt8) (h : (U t).k = .str) (hl : l.length ≤ maxLen) : Dat U t (.s l)
  | slice {t e : TypeId} (xs : List AV) (h : (U t).k = .slice e) (hx : ∀ x ∈ xs, Dat U e x) (hl : xs.length ≤ maxLen) : Dat U t (.sl xs .no)
  | strct {t : TypeId} {fs : List (Nat × TypeId)} (ys : List AV) (h : (U t).k = .strct fs) (hn : ys.length = fs.length) (hx : ∀ i (h1 : i < fs.length) (h2 : i < ys.length), Dat U fs[i].2 ys[i]) : Dat U t (.agg (ys.map AV.cells).flatten)
theorem Dat.bool_inv {t : TypeId} {x : AV} (h : Dat U t x) (hk : (U t).k = .bool) : ∃ b, x = .v (.bool b) := by
  cases h with
  | bool b h => exact ⟨b, rfl⟩
  | _ => simp_all
theorem Dat.int_inv {t : TypeId} {x : AV} {k : IntKind} (h : Dat U t x) (hk : (U t).k = .int k) : ∃ n, x = .v (.int k n) ∧ (Lit.int k n).wf = true := by
  cases h with
  | int n h hw => rw [hk] at h; cases h; exact ⟨n, rfl, hw⟩
  | _ => simp_all
theorem Dat.str_inv {t : TypeId} {x : AV} (h : Dat U t x) (hk : (U t).k = .str) : ∃ l, x = .s l ∧ l.length ≤ maxLen := by
  cases h with
  | str l h hl => exact ⟨l, rfl, hl⟩
  | _ => simp_all
theorem Dat.slice_inv {t e : TypeId} {x : AV} (h : Dat U t x) (hk : (U t).k = .slice e) : ∃ xs, x = .sl xs .no ∧ xs.length ≤ maxLen ∧ ∀ y ∈ xs, Dat U e y := by
  cases h with
  | slice xs h hx hl => rw [hk] at h; cases h; exact ⟨xs, rfl, hl, hx⟩
  | _ => simp_all
def DatAll (U : TypeId → TI) : List TypeId → List AV → Prop
  | [], ys => ys = []
  | t :: ts, ys => ∃ y r, ys = y :: r ∧ Dat U t y ∧ DatAll U ts r
theorem datAll_of : ∀ (fs : List (Nat × TypeId)) (ys : List AV), ys.length = fs.length → (∀ i (h1 : i < fs.length) (h2 : i < ys.length), Dat U fs[i].2 ys[i]) → DatAll U (fs.map (·.2)) ys
  | [], ys, h, _ => List.length_eq_zero_iff.1 h
  | f :: fs, [], h, _ => by cases h
  | f :: fs, y :: ys, h, hx => ⟨y, ys, rfl, hx 0 (by simp) (by simp), datAll_of fs ys (by simpa using h) fun i h1 h2 => hx (i + 1) (by simpa using h1) (by simpa using h2)⟩
theorem Dat.strct_inv {t : TypeId} {x : AV} {fs : List (Nat × TypeId)} (h : Dat U t x) (hk : (U t).k = .strct fs) : ∃ ys, x = .agg (ys.map AV.cells).flatten ∧ DatAll U (fs.map (·.2)) ys := by
  cases h with
  | strct ys h hn hx => rw [hk] at h; cases h; exact ⟨ys, rfl, datAll_of _ _ hn hx⟩
  | _ => simp_all
theorem wf64 {n : Int} (h : (Lit.int .i64 n).wf = true) : -9223372036854775808 ≤ n ∧ n ≤ 9223372036854775807 := by
  simpa [Lit.wf, IntKind.min, IntKind.max, IntKind.signed, IntKind.bits] using h
theorem wf8 {n : Int} (h : (Lit.int .u8 n).wf = true) : ∃ c : UInt8, n = c.toNat := by
  have hr : 0 ≤ n ∧ n ≤ 255 := by simpa [Lit.wf, IntKind.min, IntKind.max, IntKind.signed, IntKind.bits] using h
  refine ⟨UInt8.ofNat n.toNat, ?_⟩
  rw [UInt8.toNat_ofNat']
  omega
theorem Dat.i64 {t : TypeId} {x : AV} (h : Dat U t x) (hk : (U t).k = .int .i64) : ∃ n, x = iA n ∧ -9223372036854775808 ≤ n ∧ n ≤ 9223372036854775807 := by
  obtain ⟨n, rfl, hw⟩ := h.int_inv hk
  exact ⟨n, rfl, wf64 hw⟩
theorem Dat.u8 {t : TypeId} {x : AV} (h : Dat U t x) (hk : (U t).k = .int .u8) : ∃ c : UInt8, x = byteA c := by
  obtain ⟨n, rfl, hw⟩ := h.int_inv hk
  obtain ⟨c, rfl⟩ := wf8 hw
  exact ⟨c, rfl⟩
theorem Dat.list {t e : TypeId} {x : AV} {β : Type} {f : β → AV} {p : β → Prop} (h : Dat U t x) (hk : (U t).k = .slice e) (he : ∀ y, Dat U e y → ∃ b, y = f b ∧ p b) : ∃ bs : List β, x = .sl (bs.map f) .no ∧ bs.length ≤ maxLen ∧ ∀ b ∈ bs, p b := by
  obtain ⟨xs, rfl, hl, hx⟩ := h.slice_inv hk
  obtain ⟨bs, rfl, hb⟩ := choose_map xs fun y hy => he y (hx y hy)
  exact ⟨bs, rfl, by simpa using hl, hb⟩
theorem Dat.bytes {t e : TypeId} {x : AV} (h : Dat U t x) (hk : (U t).k = .slice e) (he : (U e).k = .int .u8) : ∃ l : List UInt8, x = .sl (l.map byteA) .no ∧ l.length ≤ maxLen := by
  obtain ⟨l, h1, h2, _⟩ := h.list (f := byteA) (p := fun _ => True) hk fun y hy => by obtain ⟨c, hc⟩ := hy.u8 he; exact ⟨c, hc, trivial⟩
  exact ⟨l, h1, h2⟩
def RL (c : Cx) : List AV → List Value → Prop
  | [], vs => vs = []
  | x :: xs, [] => False
  | x :: xs, v :: vs => (Rep c x v ∧ v.oneCell' = true) ∧ RL c xs vs
theorem RL.len {c : Cx} : ∀ {xs : List AV} {vs : List Value}, RL c xs vs → xs.length = vs.length
  | [], vs, h => by rw [h]; rfl
  | x :: xs, [], h => h.elim
  | x :: xs, v :: vs, h => by simp [RL.len h.2]
theorem RL.get {c : Cx} : ∀ {xs : List AV} {vs : List Value}, RL c xs vs → ∀ i (h : i < xs.length), Rep c xs[i] (vs.getD i undef) ∧ (vs.getD i undef).oneCell' = true
  | [], vs, h, i, hi => by cases hi
  | x :: xs, [], h, i, hi => h.elim
  | x :: xs, v :: vs, h, 0, hi => h.1
  | x :: xs, v :: vs, h, i + 1, hi => by simpa using RL.get h.2 i (by simpa using hi)
theorem RL.append {c : Cx} : ∀ {xs ys : List AV} {vs us : List Value}, RL c xs vs → RL c ys us → RL c (xs ++ ys) (vs ++ us)
  | [], ys, vs, us, h, k => by rw [h]; exact k
  | x :: xs, ys, [], us, h, k => h.elim
  | x :: xs, ys, v :: vs, us, h, k => ⟨h.1, RL.append h.2 k⟩
theorem RL.one {c : Cx} {x : AV} {v : Value} (h : Rep c x v) (h1 : v.oneCell' = true) : RL c [x] [v] := ⟨⟨h, h1⟩, rfl⟩
def tileB (U : TypeId → TI) (n : Nat) : List (Nat × TypeId) → Nat → Bool
  | [], o => o == n
  | f :: fs, o => f.1 == o && tileB U n fs (o + (U f.2).sz)
def plainB (U : TypeId → TI) (L : List TypeId) : Bool := L.all fun t => (U t).sz != 0 && match (U t).k with
  | .bool | .int _ | .str => (U t).sz == 1
  | .slice e => (U t).sz == 1 && L.contains e
  | .strct fs => fs.all (fun f => L.contains f.2) && tileB U (U t).sz fs 0
  | _ => false
theorem cellsOf_of (hU : ∀ t, AgreeT P U t) {t : TypeId} (hz : (U t).sz ≠ 0) : P.cellsOf t = (U t).sz := by
  obtain ⟨i, h1, h2, _⟩ := (hU t).info hz
  simp [Program.cellsOf, h1, h2]
variable {H : Type} {enc : TypeId × Value → H} {w : World}
theorem parts_of (hU : ∀ t, AgreeT P U t) {L : List TypeId} {m : Nat} {sp : Nat → Bool} {held : Bool} (n : Nat) (cs : List Value) (hn : cs.length = n)
    (ih : ∀ (t : TypeId) (cs : List Value) r, t ∈ L → DataW.trod enc P w 0 sp held m t cs = some r → ∃ x, Dat U t x ∧ RL (cx0 w) x.cells cs) (hz : ∀ t ∈ L, (U t).sz ≠ 0) :
    ∀ (fs : List (Nat × TypeId)) (gs : List Field) (o : Nat), gs.map (fun f => (f.offset, f.type)) = fs → (∀ f ∈ fs, f.2 ∈ L) → tileB U n fs o = true →
      (∀ f ∈ gs, ∃ r, DataW.trod enc P w 0 sp held m f.type ((cs.drop f.offset).take (P.cellsOf f.type)) = some r) →
      ∃ ys : List AV, ys.length = fs.length ∧ (∀ i (h1 : i < fs.length) (h2 : i < ys.length), Dat U fs[i].2 ys[i]) ∧ RL (cx0 w) (ys.map AV.cells).flatten (cs.drop o) := by
  intro fs
  induction fs with
  | nil =>
    intro gs o hg hL ht hr
    refine ⟨[], rfl, fun i h1 => (by cases h1), ?_⟩
    have : o = n := by simpa [tileB] using ht
    show cs.drop o = []
    rw [this, ← hn]; simp
  | cons f fs ihf =>
    intro gs o hg hL ht hr
    cases gs with
    | nil => cases hg
    | cons g gs =>
      simp only [List.map_cons, List.cons.injEq] at hg
      obtain ⟨hg1, hg2⟩ := hg
      simp only [tileB, Bool.and_eq_true, beq_iff_eq] at ht
      obtain ⟨ht1, ht2⟩ := ht
      have hfL := hL f (by simp)
      obtain ⟨ys, y1, y2, y3⟩ := ihf gs (o + (U f.2).sz) hg2 (fun f' hf' => hL f' (by simp [hf'])) ht2 (fun g' hg' => hr g' (by simp [hg']))
      obtain ⟨r, hr0⟩ := hr g (by simp)
      have e1 : g.type = f.2 := by rw [← hg1]
      have e2 : g.offset = o := by rw [← ht1, ← hg1]
      rw [e1, e2, cellsOf_of hU (hz _ hfL)] at hr0
      obtain ⟨x, x1, x2⟩ := ih _ _ _ hfL hr0
      refine ⟨x :: ys, by simp [y1], fun i h1 h2 => ?_, ?_⟩
      · cases i with
        | zero => exact x1
        | succ i => exact y2 i (by simpa using h1) (by simpa using h2)
      · have : cs.drop o = (cs.drop o).take (U f.2).sz ++ cs.drop (o + (U f.2).sz) := by
          rw [← List.drop_drop, List.take_append_drop]
        rw [this]
        exact x2.append y3
theorem dat_of_trod (hU : ∀ t, AgreeT P U t) (L : List TypeId) (hL : plainB U L = true) {sp : Nat → Bool} {held : Bool} (hsp : ∀ b, sp b = true) :
    ∀ (fuel : Nat) (t : TypeId) (cs : List Value) (r : DataW H × List MemPlace), t ∈ L → DataW.trod enc P w 0 sp held fuel t cs = some r → ∃ x, Dat U t x ∧ RL (cx0 w) x.cells cs := by
  have hall : ∀ t ∈ L, (U t).sz ≠ 0 := fun t ht => by
    have := List.all_eq_true.1 hL t ht
    simp only [Bool.and_eq_true, bne_iff_ne] at this
    exact this.1
  intro fuel
  induction fuel with
  | zero => intro t cs r _ h; simp [DataW.trod] at h
  | succ m ih =>
    intro t cs r ht h
    have hp := List.all_eq_true.1 hL t ht
    simp only [Bool.and_eq_true, bne_iff_ne] at hp
    obtain ⟨hz, hp⟩ := hp
    have hd := (hU t).desc
    unfold DataW.trod at h
    cases hk : (U t).k with
    | bool =>
      rw [hk] at hd
      simp only at hd
      rw [hd] at h
      split at h <;> simp_all
      rename_i b
      exact ⟨_, .bool b hk, .one (.v _) rfl⟩
    | int k =>
      rw [hk] at hd
      simp only at hd
      rw [hd] at h
      split at h <;> simp_all
      obtain ⟨⟨rfl, hw⟩, _⟩ := h
      exact ⟨_, .int _ hk hw, .one (.v _) rfl⟩
    | str =>
      rw [hk] at hd
      simp only at hd
      rw [hd] at h
      split at h <;> simp_all
      rename_i s
      refine ⟨_, .str s.data.toList hk (by simpa using h.1), .one ?_ rfl⟩
      have := Rep.s (c := cx0 w) s.data.toList (by have := h.1; unfold maxLen at this; simp only [lim]; simp; omega)
      simpa using this
    | slice e =>
      rw [hk] at hd hp
      simp only at hd
      simp only [Bool.and_eq_true] at hp
      have he : e ∈ L := by simpa using hp.2
      have hez := hall e he
      rw [hd] at h
      split at h <;> try (simp_all; done)
      · rename_i e' heq
        refine ⟨_, .slice [] hk (fun x hx => by cases hx) (by simp), .one ?_ rfl⟩
        exact .sl [] .no none 0 0 (fun _ _ => undef) (Nat.le_refl _) (by decide) (fun _ => rfl) (fun q h _ => by cases h) (fun i h => by cases h) (fun q h => by cases h) (fun i h => by cases h) (fun i j h => by cases h) trivial
      · rename_i e' a len cap heq
        obtain rfl : e = e' := by simpa using heq
        split at h
        · rename_i hc
          obtain ⟨hc1, hc2, hc3⟩ := hc
          simp only [hsp, if_true] at h
          obtain ⟨els, hels, h⟩ := Option.bind_eq_some_iff.1 h
          obtain ⟨⟨rst, hrst, _⟩⟩ : Nonempty { rst // (List.range (cap - len)).mapM (fun j => ((w.cells? 0 (a.add ((len + j) * P.cellsOf e)) (P.cellsOf e)).bind (DataW.trod enc P w 0 sp held m e))) = some rst ∧ True } := by
            cases hq : (List.range (cap - len)).mapM (fun j => ((w.cells? 0 (a.add ((len + j) * P.cellsOf e)) (P.cellsOf e)).bind (DataW.trod enc P w 0 sp held m e))) with
            | none => rw [hq] at h; simp at h
            | some rst => exact ⟨⟨rst, rfl, trivial⟩⟩
          rw [cellsOf_of hU hez] at hels hrst
          have cell : ∀ j, j < (U e).sz → ∀ (b : Addr) vs, w.cells? 0 b (U e).sz = some vs → w.cell? (b.add j) = vs[j]? ∧ vs.length = (U e).sz := fun j hj b vs hb => by
            simp only [World.cells?, Nat.zero_le, if_true] at hb
            have := mapM_some_get hb j j (by simp [hj])
            exact ⟨this, by simpa using mapM_some_length hb⟩
          have el : ∀ i, i < len → ∃ vs x, w.cells? 0 (a.add (i * (U e).sz)) (U e).sz = some vs ∧ Dat U e x ∧ RL (cx0 w) x.cells vs := fun i hi => by
            have := mapM_some_get hels i i (by simp [hi])
            have hi2 : i < els.length := by have := mapM_some_length hels; simp at this; omega
            rw [List.getElem?_eq_getElem hi2] at this
            obtain ⟨vs, v1, v2⟩ := Option.bind_eq_some_iff.1 this
            obtain ⟨x, x1, x2⟩ := ih _ _ _ he v2
            exact ⟨vs, x, v1, x1, x2⟩
          have hspot : 0 < cap → a.spot = none ∧ a.block < w.heap.size := fun hcap => by
            have : ∃ b vs, w.cells? 0 b (U e).sz = some vs ∧ b.spot = a.spot ∧ b.block = a.block := by
              by_cases hl : 0 < len
              · obtain ⟨vs, x, v1, _⟩ := el 0 hl
                have a0 : a.add (0 * (U e).sz) = a := by simp [Addr.add]
                exact ⟨_, vs, v1, by rw [a0], by rw [a0]⟩
              · have := mapM_some_get hrst 0 0 (by rw [List.getElem?_eq_getElem (by simp; omega)]; simp)
                have hi2 : 0 < rst.length := by have := mapM_some_length hrst; simp at this; omega
                rw [List.getElem?_eq_getElem hi2] at this
                obtain ⟨vs, v1, v2⟩ := Option.bind_eq_some_iff.1 this
                have a0 : a.add ((len + 0) * (U e).sz) = a := by
                  obtain rfl : len = 0 := by omega
                  simp [Addr.add]
                exact ⟨_, vs, v1, by rw [a0], by rw [a0]⟩
            obtain ⟨b, vs, b1, b2, b3⟩ := this
            obtain ⟨c1, c2⟩ := cell 0 (by omega) b vs b1
            rw [List.getElem?_eq_getElem (by omega)] at c1
            rw [← b2, ← b3]
            unfold World.cell? at c1
            split at c1
            · rename_i hh
              split at c1
              · cases c1
              · rename_i hs
                refine ⟨?_, ?_⟩
                · have : (b.add 0).spot = b.spot := by simp [Addr.add]
                  rw [this] at hs
                  cases hb : b.spot with
                  | none => rfl
                  | some z => rw [hb] at hs; simp at hs
                · exact (Array.getElem?_eq_some_iff.1 hh).1
            · cases c1
          have : ∀ n, n ≤ len → ∃ xs : List AV, xs.length = n ∧ ∀ i (hi : i < xs.length), Dat U e xs[i] ∧ ∃ vs, w.cells? 0 (a.add (i * (U e).sz)) (U e).sz = some vs ∧ RL (cx0 w) xs[i].cells vs := by
            intro n
            induction n with
            | zero => exact fun _ => ⟨[], rfl, fun i hi => by cases hi⟩
            | succ n ihn =>
              intro hn
              obtain ⟨xs, e1, e2⟩ := ihn (by omega)
              obtain ⟨vs, x, v1, v2, v3⟩ := el n (by omega)
              refine ⟨xs ++ [x], by simp [e1], fun i hi => ?_⟩
              by_cases hi' : i < xs.length
              · rw [List.getElem_append_left hi']
                exact e2 i hi'
              · have : i = n := by simp at hi; omega
                subst this
                rw [List.getElem_append_right (by omega)]
                simp only [e1, Nat.sub_self, List.getElem_singleton]
                exact ⟨v2, vs, v1, v3⟩
          obtain ⟨xs, e1, e2⟩ := this len (Nat.le_refl _)
          subst e1
          refine ⟨.sl xs .no, .slice xs hk (fun x hx => ?_) (by omega), .one ?_ rfl⟩
          · obtain ⟨i, hi, rfl⟩ := List.mem_iff_getElem.1 hx
            exact (e2 i hi).1
          · refine .sl xs .no (some a) cap (U e).sz (fun i j => ((w.cells? 0 (a.add (i * (U e).sz)) (U e).sz).getD []).getD j undef) hc2 (by unfold maxLen at hc3; simp only [lim]; omega) (fun hh => by cases hh) (fun q hq hcap => by cases hq; exact hspot hcap)
              (fun i hi => ?_) (fun q hq i j hi hj => ?_) (fun i hi j hj => ?_) (fun i j hi hj => ?_) trivial
            · obtain ⟨_, vs, v1, v2⟩ := e2 i hi
              rw [v2.len]; exact (cell 0 (by omega) _ _ v1).2
            · cases hq
              obtain ⟨_, vs, v1, v2⟩ := e2 i hi
              refine ⟨?_, owned0 w _ _⟩
              obtain ⟨c1, c2⟩ := cell j hj _ _ v1
              rw [v1]
              obtain ⟨hs1, _⟩ := hspot (by omega)
              obtain ⟨ab, ao, az⟩ := a
              simp only at hs1; subst hs1
              rw [add_addr, add_addr] at c1
              simp only [Option.getD_some]
              have hj2 : j < vs.length := by omega
              rw [show vs.getD j undef = vs[j] by simp [hj2]]
              rw [List.getElem?_eq_getElem hj2, Nat.add_assoc] at c1
              exact c1
            · obtain ⟨_, vs, v1, v2⟩ := e2 i hi
              rw [v1]
              exact (v2.get j hj).1
            · obtain ⟨_, vs, v1, v2⟩ := e2 i hi
              rw [v1]
              have := (cell 0 (by omega) _ _ v1).2
              exact (v2.get j (by rw [v2.len]; omega)).2
        · cases h
    | strct fs =>
      rw [hk] at hd hp
      simp only at hd
      simp only [Bool.and_eq_true] at hp
      obtain ⟨gs, hd, hg, _⟩ := hd
      rw [hd] at h
      have hq : cs.length = P.cellsOf t ∧ ∃ xs, (gs.toList.mapM fun f => DataW.trod enc P w 0 sp held m f.type ((cs.drop f.offset).take (P.cellsOf f.type))) = some xs := by
        split at h <;> try (simp_all; done)
        rename_i fs' heq
        obtain rfl : gs = fs' := by simpa using heq
        split at h
        · rename_i hl
          obtain ⟨xs, h1, _⟩ := Option.map_eq_some_iff.1 h
          exact ⟨hl, xs, h1⟩
        · cases h
      obtain ⟨hl, xs, hxs⟩ := hq
      rw [cellsOf_of hU hz] at hl
      obtain ⟨ys, y1, y2, y3⟩ := parts_of hU (U t).sz cs hl ih hall fs gs.toList 0 hg (fun f hf => by have := List.all_eq_true.1 hp.1 f hf; simpa using this) hp.2 (fun f hf => by
        obtain ⟨i, hi, rfl⟩ := List.mem_iff_getElem.1 hf
        have hi2 : i < xs.length := by have := mapM_some_length hxs; omega
        have := mapM_some_get hxs i _ (List.getElem?_eq_getElem hi)
        rw [List.getElem?_eq_getElem hi2] at this
        exact ⟨_, this⟩)
      exact ⟨_, .strct ys hk y1 y2, y3⟩
    | _ => rw [hk] at hp; simp at hp
theorem dat_of_arg (hU : ∀ t, AgreeT P U t) (L : List TypeId) (hL : plainB U L = true) {sp : Nat → Bool} {held : Bool} (hsp : ∀ b, sp b = true) {t : TypeId} {v : Value} {d : DataW H} {p : List MemPlace} (ht : t ∈ L) {base : Nat} {rc : Reach}
    (hv : Value.okWide P w rc base t v) (h : DataW.Trod enc P w 0 sp held t v d p) : ∃ x, Dat U t x ∧ Rep (cx0 w) x v := by
  obtain ⟨fuel, h⟩ := h
  obtain ⟨x, x1, x2⟩ := dat_of_trod hU L hL hsp fuel t _ _ ht h
  refine ⟨x, x1, ?_⟩
  have hd := (hU t).desc
  cases x1 with
  | strct ys hk hn hx =>
    rw [hk] at hd
    obtain ⟨gs, hd, _⟩ := hd
    unfold Value.okWide at hv
    rw [hd] at hv
    obtain ⟨cs, rfl, _⟩ := hv
    have hl := x2.len
    simp only [AV.cells, Value.cells] at hl x2
    refine .agg _ _ (by simpa using hl.symm) (fun i hi => ?_) (fun i hi => ?_)
    · have := (x2.get i hi).1
      simpa using this
    · have := (x2.get i hi).2
      simpa using this
  | bool b hk =>
    cases v <;> first | exact x2.1.1 | skip
    rename_i cs
    rw [hk] at hd
    unfold Value.okWide at hv
    rw [hd] at hv
    simp [Cell.okWide, Cell.ok, hd] at hv
  | int n hk hw =>
    cases v <;> first | exact x2.1.1 | skip
    rename_i cs
    rw [hk] at hd
    unfold Value.okWide at hv
    rw [hd] at hv
    simp [Cell.okWide, Cell.ok, hd] at hv
  | str l hk hl =>
    cases v <;> first | exact x2.1.1 | skip
    rename_i cs
    rw [hk] at hd
    unfold Value.okWide at hv
    rw [hd] at hv
    simp [Cell.okWide, Cell.ok, hd] at hv
  | slice xs hk hx hl =>
    cases v <;> first | exact x2.1.1 | skip
    rename_i cs
    rw [hk] at hd
    unfold Value.okWide at hv
    rw [hd] at hv
    simp [Cell.okWide, Cell.ok, hd] at hv
end
end Go.Ab

set_option linter.unusedSimpArgs false
set_option linter.unusedVariables false
namespace Go.Ab
open Go
section
variable {P : Program} {U : TypeId → TI} {n : Nat} {ρ : Env} {h h' h2 : Heap} {e tb : TypeId} {y v : AV} {xs zs : List AV} {l : List UInt8} {Q : AV → Heap → Prop}
def hm1 (id : Nat) (k : Blk) : Heap := upd (fun _ => none) id (some k)
@[go_sem] theorem hm1_same (id : Nat) (k : Blk) : hm1 id k id = some k := upd_same ..
theorem Sub.hm1 {id : Nat} {k : Blk} (h1 : h id = some k) : Sub (hm1 id k) h := fun j b hj => by
  unfold Ab.hm1 at hj
  by_cases e : j = id
  · subst e; rw [upd_same] at hj; rw [h1, hj]
  · rw [upd_other _ _ e] at hj; cases hj
theorem KeepObj.new {id : Nat} {k : Option Blk} (hid : h id = none) : KeepObj h (upd h id k) := ((Sub.refl h).new hid k).keepObj
theorem ApNew.acc (hk : ∀ y' h'', Acc U e h h'' y' (xs ++ zs) → KeepObj h h'' → Q y' h'') : ApNew U h xs zs e Q :=
  .own fun id hid => hk _ _ ⟨(Sub.refl h).new hid _, .inr ⟨id, hid, rfl, by rw [upd_same, List.length_append]⟩⟩ (.new hid)
theorem ApFull.acc (hk : ∀ y' h'', Acc U e h h'' y' (xs ++ zs) → KeepObj h h'' → Q y' h'') : ApFull U h xs zs e Q :=
  ⟨fun hn => by subst hn; exact hk _ _ (by rw [List.append_nil]; exact .full (.refl h)) (.refl h), fun _ => .acc hk⟩
theorem Acc.bytes (ha : Acc U e h h' y (l.map byteA)) : Bytes tb h2 y l := by
  obtain ⟨q, rfl⟩ := ha.row
  exact .sl _ _
end
end Go.Ab

set_option linter.unusedSimpArgs false
set_option linter.unusedVariables false
namespace Go.Ab
open Go
section
variable {P : Program} {U : TypeId → TI} {n : Nat} {ρ : Env} {h h' : Heap} {tb : TypeId} {y : AV} {l : List UInt8}
theorem Bytes.from (hb : Bytes tb h y l) {lo : Operand} {m : Int} {x : IntKind} {K : AV → Prop} (j : Nat) (hm : ev ρ lo = some (.v (.int x m))) (hj : m = j) (hl : j ≤ l.length) (hz : (U tb).sz = 1) (hk : ∀ z, Bytes tb h z (l.drop j) → K z) :
    sliceK U ρ y (some lo) none none K (.slice tb) := by
  subst hj
  rcases hb with ⟨q, rfl⟩ | ⟨id, off, cs, rfl, h1, h2, h3⟩
  · rw [sliceK_from, hm]
    refine ⟨by rw [hz]; decide, by rw [hz, Sized_bytes]; trivial, ?_⟩
    simp only [bindO_some, intA_eq, Int.toNat_natCast, KV_eq]
    refine ⟨by omega, by simpa using hl, ?_⟩
    rw [← List.map_drop]
    exact hk _ (.sl _ _)
  · rw [sliceK_oa]
    refine ⟨by rw [hz]; decide, fun _ => hz, ?_⟩
    simp only [optA_none, optA_some, hm, bindO_some, intA_eq]
    refine ⟨by omega, by omega, by omega, ?_⟩
    simp only [Int.toNat_natCast, hz, Nat.mul_one]
    have e : (l.drop j).length = l.length - j := by simp
    have := hk (.oa id (off + j) (l.drop j).length) (.oa h1 (by omega) (by
      rw [e, List.map_drop, ← h3, ← List.drop_drop, List.drop_take]))
    rwa [e] at this
theorem Bytes.cut (hb : Bytes tb h y l) {lo hi : Operand} {m m2 : Int} {x x2 : IntKind} {K : AV → Prop} (j k : Nat) (hm : ev ρ lo = some (.v (.int x m))) (hj : m = j) (hm2 : ev ρ hi = some (.v (.int x2 m2))) (hk2 : m2 = k) (hjk : j ≤ k) (hl : k ≤ l.length) (hz : (U tb).sz = 1)
    (hk : ∀ z, Bytes tb h z ((l.drop j).take (k - j)) → K z) : sliceK U ρ y (some lo) (some hi) none K (.slice tb) := by
  subst hj; subst hk2
  rcases hb with ⟨q, rfl⟩ | ⟨id, off, cs, rfl, h1, h2, h3⟩
  · rw [sliceK_ft, hm]
    refine ⟨by rw [hz]; decide, by rw [hz, Sized_bytes]; trivial, ?_⟩
    simp only [bindO_some, intA_eq, hm2, Int.toNat_natCast, KV_eq]
    refine ⟨by omega, by omega, by simpa using hl, ?_⟩
    rw [← List.map_drop, ← List.map_take]
    exact hk _ (.sl _ _)
  · rw [sliceK_oa]
    refine ⟨by rw [hz]; decide, fun _ => hz, ?_⟩
    simp only [optA_some, hm, bindO_some, intA_eq, hm2]
    refine ⟨by omega, by omega, by omega, ?_⟩
    simp only [Int.toNat_natCast, hz, Nat.mul_one]
    have e : ((l.drop j).take (k - j)).length = k - j := by simp; omega
    have := hk (.oa id (off + j) ((l.drop j).take (k - j)).length) (.oa h1 (by omega) (by
      rw [e, List.map_take, List.map_drop, ← h3, ← List.drop_drop, List.drop_take, List.take_take]
      congr 1; omega))
    rwa [e] at this
end
theorem wrapU (k : IntKind) (n : Nat) (hk : k.signed = false) (hn : n < 2 ^ k.bits) : k.wrap (n : Int) = n := by
  cases k <;> simp [IntKind.signed] at hk <;> simp [IntKind.wrap, IntKind.signed, IntKind.bits] at hn ⊢ <;> omega
theorem w32 (n : Nat) (hn : n < 4294967296) : IntKind.u32.wrap (n : Int) = n := wrapU .u32 n rfl (by simpa [IntKind.bits] using hn)
theorem w8 (n : Nat) : IntKind.u8.wrap (n : Int) = (UInt8.ofNat n).toNat := by
  rw [UInt8.toNat_ofNat']
  simp [IntKind.wrap, IntKind.signed, IntKind.bits]
theorem ofInt_nat (w n : Nat) : BitVec.ofInt w (n : Int) = BitVec.ofNat w n := BitVec.ofInt_natCast ..
theorem xor32 (x y : BitVec 32) : IntKind.u32.wrap (((BitVec.ofInt IntKind.u32.bits (x.toNat : Int) ^^^ BitVec.ofInt IntKind.u32.bits (y.toNat : Int)).toNat : Nat) : Int) = ((x ^^^ y).toNat : Int) := by
  have e : ∀ z : BitVec 32, BitVec.ofInt IntKind.u32.bits (z.toNat : Int) = z := fun z => by
    show BitVec.ofInt 32 (z.toNat : Int) = z
    rw [ofInt_nat]; simp
  rw [e, e]
  exact w32 _ (x ^^^ y).isLt
theorem xor32T (x : BitVec 32) : IntKind.u32.wrap (((BitVec.ofInt IntKind.u32.bits (x.toNat : Int) ^^^ BitVec.ofInt IntKind.u32.bits (3988292384 : Int)).toNat : Nat) : Int) = ((x ^^^ 0xedb88320#32).toNat : Int) := xor32 x 0xedb88320#32
theorem not32 (x : BitVec 32) : IntKind.u32.wrap (((BitVec.ofInt IntKind.u32.bits (if IntKind.u32.signed = true then -1 else IntKind.u32.max) ^^^ BitVec.ofInt IntKind.u32.bits (x.toNat : Int)).toNat : Nat) : Int) = ((~~~ x).toNat : Int) := by
  have := xor32 (BitVec.allOnes 32) x
  have e : (BitVec.allOnes 32 ^^^ x) = ~~~ x := by
    apply BitVec.eq_of_getLsbD_eq
    intro i hi
    rw [BitVec.getLsbD_xor, BitVec.getLsbD_allOnes, BitVec.getLsbD_not]
    simp [hi]
  rw [e] at this
  exact this
theorem and32 (x : BitVec 32) : IntKind.u32.wrap (((BitVec.ofInt IntKind.u32.bits (x.toNat : Int) &&& BitVec.ofInt IntKind.u32.bits (1 : Int)).toNat : Nat) : Int) = ((x &&& 1#32).toNat : Int) := by
  have e : BitVec.ofInt IntKind.u32.bits (x.toNat : Int) = x := by
    show BitVec.ofInt 32 (x.toNat : Int) = x
    rw [ofInt_nat]; simp
  rw [e]
  exact w32 _ (x &&& 1#32).isLt
theorem shr32 (x : BitVec 32) : (x.toNat : Int).fdiv (2 ^ (min (1 : Int).toNat IntKind.u32.bits)) = ((x >>> 1).toNat : Int) := by
  show (x.toNat : Int).fdiv (2 ^ 1) = _
  rw [Int.fdiv_eq_ediv_of_nonneg _ (by decide)]
  simp [Nat.shiftRight_eq_div_pow]
section
variable {U : TypeId → TI} {ty : TypeId} {K : AV → Prop}
@[go_sem high] theorem bx32 (x y : BitVec 32) : binA U .xor ty (.v (.int .u32 (x.toNat : Int))) (.v (.int .u32 (y.toNat : Int))) K = K (.v (.int .u32 ((x ^^^ y).toNat : Int))) := by rw [b_xor, xor32]
@[go_sem high] theorem bx32T (x : BitVec 32) : binA U .xor ty (.v (.int .u32 (x.toNat : Int))) (.v (.int .u32 3988292384)) K = K (.v (.int .u32 ((x ^^^ 0xedb88320#32).toNat : Int))) := by rw [b_xor, xor32T]
@[go_sem high] theorem band32 (x : BitVec 32) : binA U .and ty (.v (.int .u32 (x.toNat : Int))) (.v (.int .u32 1)) K = K (.v (.int .u32 ((x &&& 1#32).toNat : Int))) := by rw [b_and, and32]
@[go_sem high] theorem bshr32 (x : BitVec 32) (kk : IntKind) : binA U .shr ty (.v (.int .u32 (x.toNat : Int))) (.v (.int kk 1)) K = K (.v (.int .u32 ((x >>> 1).toNat : Int))) := by rw [b_shr, shr32]; simp
@[go_sem high] theorem unot32 (x : BitVec 32) : unA .xor (.v (.int .u32 (x.toNat : Int))) K = K (.v (.int .u32 ((~~~ x).toNat : Int))) := by rw [unA_xor, not32]
end
end Go.Ab

set_option linter.unusedSimpArgs false
set_option linter.unusedVariables false
namespace Go.Ab
open Go
section
variable {P : Program} {U : TypeId → TI} {n : Nat} {ρ : Env} {h0 h h' : Heap} {tb : TypeId} {y v : AV} {l m : List UInt8} {Q : AV → Heap → Prop}
def Wr (tb : TypeId) (h0 h : Heap) (y : AV) (l : List UInt8) : Prop :=
  Sub h0 h ∧ ((l = [] ∧ y = .sl [] .full) ∨ ∃ id cs, h0 id = none ∧ y = .oa id 0 l.length ∧ h id = some (.obj cs tb) ∧ l.length ≤ cs.length ∧ cs.take l.length = l.map byteA)
theorem Wr.bytes (hw : Wr tb h0 h y l) : Bytes tb h y l := by
  obtain ⟨_, ⟨rfl, rfl⟩ | ⟨id, cs, _, rfl, h1, h2, h3⟩⟩ := hw
  · exact .nil _
  · exact .oa h1 (by omega) (by simpa using h3)
theorem Wr.nil (hs : Sub h0 h) : Wr tb h0 h (.sl [] .full) [] := ⟨hs, .inl ⟨rfl, rfl⟩⟩
theorem Wr.sub (hw : Wr tb h0 h y l) (hs : Sub h h') : Wr tb h0 h' y l := by
  obtain ⟨h1, hw | ⟨id, cs, a, e, b, c, d⟩⟩ := hw
  · exact ⟨h1.trans hs, .inl hw⟩
  · exact ⟨h1.trans hs, .inr ⟨id, cs, a, e, hs _ _ b, c, d⟩⟩
theorem Wr.app (hw : Wr tb h0 h y l) (hz : (U tb).sz = 1) (hb : (U tb).bytes = 1) (hf : (U tb).zero = byteA 0) (hsrc : ∀ k : List AV → Prop, k (m.map byteA) → srcA U tb h v k)
    (hlen : l.length + m.length ≤ 140737488355328) (hk : ∀ y' h', Wr tb h0 h' y' (l ++ m) → Q y' h') : apK U h y v Q (.slice tb) := by
  have hs := hw.1
  have one : Sized (U tb).sz (m.map byteA) := by rw [hz, Sized_bytes]; trivial
  obtain ⟨_, ⟨rfl, rfl⟩ | ⟨id, cs, h1, rfl, h2, h3, h4⟩⟩ := hw
  · refine (apK_full ..).mpr ⟨by rw [hz]; decide, by rw [hb]; decide, hsrc _ ⟨by simp [Sized], one, by rw [hb]; simpa using hlen, fun hn => ?_, fun hn => ?_⟩⟩
    · have : m = [] := by simpa using hn
      subst this
      exact hk _ _ (.nil hs)
    · refine .oa hz (by rw [hf]; simp [fit, byteA, Value.oneCell']) (by rw [hf]; rfl) (noAgg_bytes m) fun id k hid => ?_
      refine hk _ _ ⟨hs.new hid _, .inr ⟨id, _, hs.none hid, ?_, upd_same .., ?_, ?_⟩⟩
      · simp
      · simp
      · simp [List.take_append_of_le_length]
  · refine ⟨by rw [hz]; decide, by rw [hb]; decide, hz, hsrc _ ⟨by rw [← hz]; exact one, noAgg_bytes m, by rw [hb]; simpa using hlen, ?_⟩⟩
    rw [h2]
    refine ⟨by omega, ?_, by rw [hf]; simp [fit, byteA, Value.oneCell'], by rw [hf]; rfl, fun hle => ?_, fun id' k hid => ?_⟩
    · rw [List.drop_zero, h4]; exact noAgg_bytes l
    · rw [List.length_map] at hle ⊢
      have hsub : Sub h0 (upd h id (some (.obj (over cs (0 + l.length) (m.map byteA)) tb))) := fun j b hj => by
        by_cases e : j = id
        · subst e; rw [h1] at hj; cases hj
        · rw [upd_other _ _ e]; exact hs _ _ hj
      have ho : (over cs (0 + l.length) (m.map byteA)).length = cs.length := over_length (by simpa using hle)
      refine hk _ _ ⟨hsub, .inr ⟨id, _, h1, by rw [List.length_append], upd_same .., by rw [ho, List.length_append]; omega, ?_⟩⟩
      rw [over, Nat.zero_add, h4, List.map_append, List.length_append, List.take_append_of_le_length (by simp), ← List.map_append]
      exact List.take_of_length_le (by simp)
    · rw [List.length_map]
      refine hk _ _ ⟨hs.new hid _, .inr ⟨id', _, hs.none hid, by rw [List.length_append], upd_same .., ?_, ?_⟩⟩
      · rw [List.drop_zero, h4]; simp
      · rw [List.drop_zero, h4, ← List.map_append, List.take_append_of_le_length (by simp)]
        exact List.take_of_length_le (by simp)
theorem Wr.put (hw : Wr tb h0 h y l) (hz : (U tb).sz = 1) (j : Nat) (hj : j < l.length) {K : AV → Prop} {x : IntKind} (hk : ∀ id cs, y = .oa id 0 l.length → h0 id = none → h id = some (.obj cs tb) → l.length ≤ cs.length → cs.take l.length = l.map byteA → K (.ptr id j)) : iaddrK U y (.v (.int x (j : Nat))) K (.slice tb) := by
  obtain ⟨hs, ⟨rfl, rfl⟩ | ⟨id, cs, h1, rfl, h2, h3, h4⟩⟩ := hw
  · cases hj
  · refine (iaddrK_oa ..).mpr ⟨by rw [hz]; decide, by omega, by omega, ?_⟩
    rw [hz, Nat.zero_add, Nat.mul_one]
    exact hk id cs rfl h1 h2 h3 h4
end
end Go.Ab

set_option linter.unusedSimpArgs false
set_option linter.unusedVariables false
namespace Go.Ab
open Go
section
variable {U : TypeId → TI} {ty : TypeId} {K : AV → Prop}
end
end Go.Ab

set_option linter.unusedSimpArgs false
set_option linter.unusedVariables false
namespace Go.Ab
open Go
section
variable {P : Program} {U : TypeId → TI} {n : Nat} {ρ : Env} {h : Heap}
def litC (U : TypeId → TI) (n : Nat) (ρ : Env) (o o' : Oper) (K : Env → Prop) : Prop := match o.dst, o.op, o'.op with
  | some d, .buildSlice ty len parts, .convert s s' (.tmp t) => o.guard = none ∧ o'.guard = none ∧ s = ty ∧ s' = ty ∧ t = d ∧ d < n ∧ dstOK n o'.dst = true ∧ match (U ty).k with
    | .slice e => (U e).k = .int .u8 ∧ (U e).sz = 1 ∧ 0 < len ∧ len ≤ 4096 ∧ parts.toList.map (·.1) = List.range len ∧ withvs ρ (parts.toList.map (·.2)) fun xs => fits 1 xs ∧ K (put (put ρ (some d) (.sl xs .full)) o'.dst (.sl xs .full))
    | _ => False
  | _, _, _ => False
def vcOpsC (P : Program) (U : TypeId → TI) (n : Nat) (all : List Oper) : List Bool → List Oper → Env → Heap → (Env → Heap → Prop) → Prop
  | true :: bs, o :: o' :: r, ρ, h, K => litC U n ρ o o' fun ρ => vcOpsC P U n all bs r ρ h K
  | false :: bs, o :: r, ρ, h, K => dstOK n o.dst = true ∧ o.guard = none ∧ vcOp P U ρ h o (KOp (fun ρ h => vcOpsC P U n all bs r ρ h K) ρ o.dst)
  | [], l, ρ, h, K => vcOps P U n all l ρ h K
  | _, _, _, _, _ => False
section
variable (all : List Oper) (bs : List Bool) (r : List Oper) (K : Env → Heap → Prop)
@[go_sem ↓] theorem c_pair (o o' : Oper) : vcOpsC P U n all (true :: bs) (o :: o' :: r) ρ h K = litC U n ρ o o' fun ρ => vcOpsC P U n all bs r ρ h K := rfl
def KOpC (P : Program) (U : TypeId → TI) (n : Nat) (all : List Oper) (bs : List Bool) (r : List Oper) (K : Env → Heap → Prop) (ρ : Env) (d : Option Tmp) (x : AV) (h : Heap) : Prop := vcOpsC P U n all bs r (put ρ d x) h K
@[go_sem ↓] theorem KOpC_eq (d : Option Tmp) (x : AV) : KOpC P U n all bs r K ρ d x h = vcOpsC P U n all bs r (put ρ d x) h K := rfl
@[go_sem ↓] theorem c_one (d : Option Tmp) (op : Op) (t : TypeId) (p : String) (a : Array Edge) : vcOpsC P U n all (false :: bs) (⟨d, op, t, p, a, none⟩ :: r) ρ h K = (dstOK n d = true ∧ vcOp P U ρ h ⟨d, op, t, p, a, none⟩ (KOpC P U n all bs r K ρ d)) := by
  simp only [vcOpsC, true_and]
  rfl
@[go_sem ↓] theorem c_rest (l : List Oper) : vcOpsC P U n all [] l ρ h K = vcOps P U n all l ρ h K := by cases l <;> rfl
@[go_sem ↓] theorem c_lit (d : Nat) (d' : Option Tmp) (ty : TypeId) (len : Nat) (parts : List (Nat × Operand)) (t t' : TypeId) (p p' : String) (a a' : Array Edge) (k : Env → Prop) : litC U n ρ ⟨some d, .buildSlice ty len parts.toArray, t, p, a, none⟩ ⟨d', .convert ty ty (.tmp d), t', p', a', none⟩ k =
    (d < n ∧ dstOK n d' = true ∧ match (U ty).k with
    | .slice e => (U e).k = .int .u8 ∧ (U e).sz = 1 ∧ 0 < len ∧ len ≤ 4096 ∧ parts.map (·.1) = List.range len ∧ withvs ρ (parts.map (·.2)) fun xs => fits 1 xs ∧ k (put (put ρ (some d) (.sl xs .full)) d' (.sl xs .full))
    | _ => False) := by
  simp only [litC, true_and]
end
theorem FnOK.of_wp {f : FuncId} {fn : Func} {c : Code} {args : List AV} {Q : AV → Heap → Prop} (hU : ∀ t, AgreeT P U t) (hf : P.funcs[f]? = some fn) (hb : fn.body = some c)
    (hn : (fn.name == "runtime.NumGoroutine") = false) (m : Nat) (hm' : fn.ntmps = m) (rs : List ResultVar) (hr : fn.results.toList = rs) (hl : args.length ≤ m)
    (hk : WP P m c (envOf args) h (bodyK U rs Q)) : FnOK P f args h Q := by
  subst hm'; subst hr
  exact FnOK.of_wp0 hU hf hb hn hl fun _ => hk
end
end Go.Ab

set_option linter.unusedSimpArgs false
set_option linter.unusedVariables false
namespace Go.Ab
open Go
section
variable {P : Program} {U : TypeId → TI} {n : Nat} {ρ : Env} {h : Heap}
def KCut (I : Env → Heap → Prop) (K : Exit → Env → Heap → Prop) : Exit → Env → Heap → Prop := KSeq I K
@[go_sem ↓] theorem KCut_ret (I : Env → Heap → Prop) (K : Exit → Env → Heap → Prop) : KCut I K .ret ρ h = K .ret ρ h := rfl
@[go_sem ↓] theorem KCut_exit (I : Env → Heap → Prop) (K : Exit → Env → Heap → Prop) (i : Nat) : KCut I K (.exit i) ρ h = K (.exit i) ρ h := rfl
@[go_sem ↓] theorem KCut_goto (I : Env → Heap → Prop) (K : Exit → Env → Heap → Prop) (i : Nat) : KCut I K (.goto i) ρ h = K (.goto i) ρ h := rfl
theorem KCut.at {I : Env → Heap → Prop} {K : Exit → Env → Heap → Prop} (hi : I ρ h) : KCut I K .normal ρ h := hi
theorem WP.cut {c d : Code} {K : Exit → Env → Heap → Prop} (I : Env → Heap → Prop) (hc : WP P n c ρ h (KCut I K)) (hd : ∀ ρ h, I ρ h → WP P n d ρ h K) : WP P n (.seq c d) ρ h K :=
  WP.seq (hc.weaken fun e ρ h hk => by
    cases e with
    | normal => exact hd ρ h hk
    | _ => exact hk)
theorem WP.vc (hU : ∀ t, AgreeT P U t) (hm : P.follows .mixedOrders = true) {c : Code} {K : Exit → Env → Heap → Prop} (hk : vcCode P U n c ρ h K) : WP P n c ρ h K := vcCode_sound hU hm c ρ h K hk
def KNext (P : Program) (n : Nat) (d : Code) (K : Exit → Env → Heap → Prop) : Exit → Env → Heap → Prop := KSeq (WP P n d · · K) K
@[go_sem ↓] theorem KNext_normal (d : Code) (K : Exit → Env → Heap → Prop) : KNext P n d K .normal ρ h = WP P n d ρ h K := rfl
@[go_sem ↓] theorem KNext_ret (d : Code) (K : Exit → Env → Heap → Prop) : KNext P n d K .ret ρ h = K .ret ρ h := rfl
@[go_sem ↓] theorem KNext_exit (d : Code) (K : Exit → Env → Heap → Prop) (i : Nat) : KNext P n d K (.exit i) ρ h = K (.exit i) ρ h := rfl
@[go_sem ↓] theorem KNext_goto (d : Code) (K : Exit → Env → Heap → Prop) (i : Nat) : KNext P n d K (.goto i) ρ h = K (.goto i) ρ h := rfl
theorem WP.one (hU : ∀ t, AgreeT P U t) (hm : P.follows .mixedOrders = true) {c d : Code} {K : Exit → Env → Heap → Prop} (hk : vcCode P U n c ρ h (KNext P n d K)) : WP P n (.seq c d) ρ h K := WP.seq (vcCode_sound hU hm c ρ h _ hk)
theorem ApFull.wr {h0 : Heap} {tb : TypeId} {m : List UInt8} {Q : AV → Heap → Prop} (hs : Sub h0 h) (hz : (U tb).sz = 1) (hf : (U tb).zero = byteA 0) (hk : ∀ y' h', Wr tb h0 h' y' m → Q y' h') : ApFull U h [] (m.map byteA) tb Q := by
  refine ⟨fun hn => ?_, fun hn => .oa hz (by rw [hf]; simp [fit, byteA, Value.oneCell']) (by rw [hf]; rfl) (noAgg_bytes m) fun id k hid => ?_⟩
  · have : m = [] := by simpa using hn
    subst this
    exact hk _ _ (.nil hs)
  · refine hk _ _ ⟨hs.new hid _, .inr ⟨id, _, hs.none hid, by simp, upd_same .., by simp, ?_⟩⟩
    simp [List.take_append_of_le_length]
@[go_sem high] theorem bx8 (x y : UInt8) (ty : TypeId) (K : AV → Prop) : binA U .xor ty (.v (.int .u8 (x.toNat : Int))) (.v (.int .u8 (y.toNat : Int))) K = K (.v (.int .u8 ((x ^^^ y).toNat : Int))) := by
  rw [b_xor]
  congr 3
  have e : ∀ z : UInt8, BitVec.ofInt IntKind.u8.bits (z.toNat : Int) = z.toBitVec := fun z => by
    show BitVec.ofInt 8 (z.toNat : Int) = z.toBitVec
    rw [ofInt_nat]
    apply BitVec.eq_of_toNat_eq
    have := z.toNat_lt
    simp
  rw [e, e]
  show IntKind.u8.wrap (((x.toBitVec ^^^ y.toBitVec).toNat : Nat) : Int) = _
  rw [w8]
  simp
end
end Go.Ab

set_option linter.unusedSimpArgs false
set_option linter.unusedVariables false
namespace Go.Ab
open Go
section
variable {P : Program} {U : TypeId → TI} {n : Nat} {ρ : Env} {h : Heap}
variable {d : Option Tmp} {t : TypeId} {p : String} {a : Array Edge} {g : Option (Nat × Bool)} {Q : AV → Heap → Prop} {k : AV → Prop}
@[go_sem] theorem atK_map (x y : TypeId) (k : TK → Prop) : atK (.map x y) k = k (.map x y) := rfl
@[go_sem] theorem cells_mp (i : Nat) : AV.cells (.mp i) = [.mp i] := rfl
@[go_sem] theorem isAgg_mp (i : Nat) : isAggA (.mp i) = false := rfl
@[go_sem] theorem fit_mp (i m : Nat) : fit (.mp i) m = (m = 1) := rfl
@[go_sem] theorem keyOK_s (l : List UInt8) : keyOK .str (.s l) = (l.length ≤ maxLen) := rfl
@[go_sem] theorem keyOK_i (q q' : IntKind) (m : Int) : keyOK (.int q) (.v (.int q' m)) = (q' = q ∧ (Lit.int q m).wf = true) := rfl
def mpL (b : Blk) (f : List (AV × AV) → Prop) : Prop := match b with
  | .mp m => f m
  | _ => False
@[go_sem ↓] theorem mpL_eq (m : List (AV × AV)) (f : List (AV × AV) → Prop) : mpL (.mp m) f = f m := rfl
def KeysA (tk : TK) (m : List (AV × AV)) : Prop := ∀ p ∈ m, keyOK tk p.1
def UnitOr (ti : TI) : Prop := ti.sz ≠ 0 ∨ ti.k = .strct []
def lookK (U : TypeId → TI) (h : Heap) (u v : AV) (ok : Bool) (k : AV → Prop) (tk : TK) : Prop := match tk, u with
  | .map kt e, .mp id => keyOK (U kt).k v ∧ UnitOr (U e) ∧ bindO (h id) fun b => mpL b fun m => KeysA (U kt).k m ∧ k (lookM U e m v ok)
  | _, _ => False
@[go_sem ↓] theorem lookK_mp (kt e : TypeId) (id : Nat) (v : AV) (ok : Bool) : lookK U h (.mp id) v ok k (.map kt e) = (keyOK (U kt).k v ∧ UnitOr (U e) ∧ bindO (h id) fun b => mpL b fun m => KeysA (U kt).k m ∧ k (lookM U e m v ok)) := rfl
@[go_sem ↓] theorem o_lookup (mt : TypeId) (x y : Operand) (ok : Bool) : vcOp P U ρ h ⟨d, .lookup mt x y ok, t, p, a, g⟩ Q = bindO (ev ρ x) fun u => bindO (ev ρ y) fun v => atK (U mt).k (lookK U h u v ok (atH Q h)) := by
  simp only [vcOp, pv, withv_eq, atK]
  congr 1
  funext u
  congr 1
  funext v
  cases (U mt).k with
  | map kt e =>
    cases u with
    | mp id =>
      simp only [lookK]
      congr 2
      cases h id with
      | none => rfl
      | some b => cases b <;> rfl
    | _ => rfl
  | _ => rfl
def putK (U : TypeId → TI) (h : Heap) (u v w : AV) (Q : AV → Heap → Prop) (tk : TK) : Prop := match tk, u with
  | .map kt e, .mp id => keyOK (U kt).k v ∧ bindO (h id) fun b => mpL b fun m => KeysA (U kt).k m ∧ Q (.v undef) (upd h id (some (.mp (setM m v w))))
  | _, _ => False
@[go_sem ↓] theorem putK_mp (kt e : TypeId) (id : Nat) (v w : AV) : putK U h (.mp id) v w Q (.map kt e) = (keyOK (U kt).k v ∧ bindO (h id) fun b => mpL b fun m => KeysA (U kt).k m ∧ Q (.v undef) (upd h id (some (.mp (setM m v w))))) := rfl
@[go_sem ↓] theorem o_mapUpdate (mt : TypeId) (x y z : Operand) : vcOp P U ρ h ⟨d, .mapUpdate mt x y z, t, p, a, g⟩ Q = bindO (ev ρ x) fun u => bindO (ev ρ y) fun v => bindO (ev ρ z) fun w => atK (U mt).k (putK U h u v w Q) := by
  simp only [vcOp, withv_eq, atK]
  congr 1
  funext u
  congr 1
  funext v
  congr 1
  funext w
  cases (U mt).k with
  | map kt e =>
    cases u with
    | mp id =>
      simp only [putK]
      congr 1
      cases h id with
      | none => rfl
      | some b => cases b <;> rfl
    | _ => rfl
  | _ => rfl
def NewMp (h : Heap) (Q : AV → Heap → Prop) : Prop := ∀ id, h id = none → Q (.mp id) (upd h id (some (.mp [])))
@[go_sem ↓] theorem o_makeMap (mt : TypeId) : vcOp P U ρ h ⟨d, .makeMap mt none, t, p, a, g⟩ Q = NewMp h Q := by
  simp only [vcOp, roomM, true_and]; rfl
@[go_sem ↓] theorem o_makeMap_i (mt : TypeId) (q : IntKind) (m : Int) : vcOp P U ρ h ⟨d, .makeMap mt (some (.const (.int q m))), t, p, a, g⟩ Q = ((∃ kt e, (U mt).k = .map kt e) ∧ NewMp h Q) := by
  simp only [vcOp, roomM, withv_eq]
  have : bindO (ev ρ (.const (.int q m))) (fun a => ∃ kk n, a = AV.v (.int kk n)) = True := by
    simp [ev, ofV, ofV1, bindO]
  rw [this, and_true]; rfl
@[go_sem] theorem effB_lookup (mt : TypeId) (x y : Operand) (ok : Bool) : effB (.lookup mt x y ok) = false := rfl
@[go_sem] theorem effB_makeMap (mt : TypeId) (r : Option Operand) : effB (.makeMap mt r) = true := rfl
@[go_sem] theorem effB_mapUpdate (mt : TypeId) (x y z : Operand) : effB (.mapUpdate mt x y z) = true := rfl
@[go_sem ↓] theorem OneH_lookup (all : List Oper) (hm : Heap) (is : List Nat) (K : Env → Heap → Prop) (mt : TypeId) (x y : Operand) (ok : Bool) : OneH P U n all hm is K ρ h ⟨d, .lookup mt x y ok, t, p, a, g⟩ false = vcOp P U ρ hm ⟨d, .lookup mt x y ok, t, p, a, g⟩ (constH (KDrH P U n all hm is K ρ d) h) := OneH_false rfl rfl
end
def setA (ls : List (List UInt8)) : List (AV × AV) := ls.map fun l => (.s l, .agg [])
theorem getM_set (ls : List (List UInt8)) (l : List UInt8) : getM (setA ls) (.s l) = if l ∈ ls then some (.agg []) else none := by
  induction ls with
  | nil => rfl
  | cons x ls ih =>
    simp only [getM, setA, List.map_cons, List.find?_cons, keyE] at ih ⊢
    by_cases e : x = l
    · subst e; simp
    · have : (x == l) = false := by simpa using e
      rw [this]
      simp only
      rw [ih]
      simp [Ne.symm e]
theorem setM_new {ls : List (List UInt8)} {l : List UInt8} (hn : l ∉ ls) : setM (setA ls) (.s l) (.agg []) = setA (ls ++ [l]) := by
  unfold setM
  rw [getM_set, if_neg hn]
  simp [setA]
theorem lookM_set (U : TypeId → TI) (e : TypeId) (he : (U e).sz = 0) (ls : List (List UInt8)) (l : List UInt8) : lookM U e (setA ls) (.s l) true = .tup [.agg [], .v (.bool (decide (l ∈ ls)))] := by
  simp only [lookM, getM_set, zeroE, he, if_true]
  by_cases h : l ∈ ls
  · simp [h]
  · simp [h]
theorem keysA_set {ls : List (List UInt8)} (h : ∀ l ∈ ls, l.length ≤ maxLen) : KeysA .str (setA ls) := fun p hp => by
  obtain ⟨l, hl, rfl⟩ := List.mem_map.1 hp
  exact h l hl
end Go.Ab

set_option linter.unusedSimpArgs false
set_option linter.unusedVariables false
namespace Go.Ab
open Go
section
variable {P : Program} {f : FuncId} {args : List AV} {h h' : Heap} {Q : AV → Heap → Prop}
theorem Ext.below {c : Cx} {w' : World} (hb : Go.RowKit.Below c.w.heap.size c.w w') : Ext c { c with w := w' } where
  os := hb.os
  tape := hb.tape
  output := hb.output
  size := hb.size
  block := fun b h _ => hb.block b h
  cell := fun b o h _ => by
    show w'.cell? _ = _
    simp only [World.cell?, hb.block b h]
  shape := fun b cs t fr h => ⟨cs, fr, (hb.block b (lt_of_get h)).trans h, rfl⟩
  steal := fun _ _ _ h => h
  obj := fun _ cs _ h => ⟨rfl, cs, h, rfl⟩
  spare := fun _ n _ h => ⟨n, h, .inl ⟨rfl, rfl⟩⟩
  mp := fun _ m h => ⟨rfl, m, h⟩
  ro := fun _ _ _ h => ⟨rfl, h⟩
theorem Good.below {c : Cx} (g : Good c) {w' : World} (hb : Go.RowKit.Below c.w.heap.size c.w w') : Good { c with w := w' } where
  fin := g.fin
  inj := g.inj
  obj := fun id cs t h => by
    obtain ⟨vs, a1, a2, a3⟩ := g.obj id cs t h
    exact ⟨vs, (hb.block _ (lt_of_get a1)).trans a1, a2, fun j hj => ⟨(a3 j hj).1.mono (.below hb), (a3 j hj).2⟩⟩
  spare := fun id n sz h => by
    obtain ⟨a0, vs, t, fr, a1, a2⟩ := g.spare id n sz h
    exact ⟨a0, vs, t, fr, (hb.block _ (lt_of_get a1)).trans a1, a2⟩
  mp := fun id m h => by
    obtain ⟨es, cl, a1, a2, a3⟩ := g.mp id m h
    exact ⟨es, cl, (hb.block _ (lt_of_get a1)).trans a1, a2, fun i hi hi' => ⟨(a3 i hi hi').1, (a3 i hi hi').2.mono (.below hb)⟩⟩
  keys := g.keys
  ro := fun id b vs h => g.ro_mono (.below hb) h
theorem FnOK.lib {X : AV} (hc : callable P f) (hf : ∀ c (vs : Array Value), Sub h c.h → Good c → vs.size = args.length → (∀ i (hi : i < args.length), Rep c args[i] (vs.getD i undef)) →
    Calls P f vs c.w fun e w' => (∃ u, e = .returned u ∧ ∀ c', Ext c c' → Rep c' X u) ∧ Go.RowKit.Below c.w.heap.size c.w w') : FnOK P f args h fun r h' => r = X ∧ h' = h := by
  refine ⟨hc, fun c vs hs g h1 h2 => (hf c vs hs g h1 h2).mono ?_⟩
  rintro e w' ⟨⟨u, rfl, hu⟩, hb⟩
  exact ⟨u, rfl, { c with w := w' }, X, h, rfl, g.below hb, .below hb, hu _ (.below hb), hs, rfl, rfl⟩
def Tab (h : Heap) (b : Nat) (vs : List Value) : Prop := ∃ id, h id = some (.ro b vs)
theorem Tab.sub {b : Nat} {vs : List Value} (ht : Tab h b vs) (hs : Sub h h') : Tab h' b vs := let ⟨id, hi⟩ := ht; ⟨id, hs _ _ hi⟩
theorem Tab.keep {b : Nat} {vs : List Value} {id : Nat} (ht : Tab h b vs) (hs : Keep id h h') (hn : ∀ vs, h id ≠ some (.ro b vs)) : Tab h' b vs := by
  obtain ⟨j, hj⟩ := ht
  exact ⟨j, hs j _ (fun e => by subst e; exact hn _ hj) hj⟩
theorem Tab.var {b : Nat} {vs : List Value} {name : String} (ht : Tab h b vs) (hn : P.globalNamed name = some b) {c : Cx} (hs : Sub h c.h) (g : Good c) : c.w.var? P name = some vs.toArray := by
  obtain ⟨id, hi⟩ := ht
  obtain ⟨_, t, fr, h2⟩ := g.ro id b vs (hs _ _ hi)
  simp [World.var?, hn, h2]
end
def tabH (ts : List (Nat × List Value)) : Heap := fun i => (ts[i]?).map fun p => .ro p.1 p.2
def cxT (w : World) (ts : List (Nat × List Value)) : Cx := ⟨w, fun i => ⟨((ts[i]?).map (·.1)).getD 0, 0, none⟩, tabH ts⟩
theorem ownedT (w : World) (ts : List (Nat × List Value)) (b o : Nat) : ¬ owned (cxT w ts) b o := by
  rintro ⟨id, k, h, _, h3⟩
  simp only [cxT, tabH, Option.map_eq_some_iff] at h
  obtain ⟨p, _, rfl⟩ := h
  exact h3
theorem goodT (w : World) (ts : List (Nat × List Value)) (hd : ts.Pairwise fun p q => p.1 ≠ q.1) (ht : ∀ p ∈ ts, ∃ (t : TypeId) (fr : Nat × Nat), w.heap[p.1]? = some (.cells p.2.toArray t fr)) : Good (cxT w ts) where
  fin := ⟨ts.length, fun id h => by simp [cxT, tabH, List.getElem?_eq_none h]⟩
  inj := fun i j k l h1 h2 hne => by
    simp only [cxT, tabH, Option.map_eq_some_iff] at h1 h2
    obtain ⟨p, hp, rfl⟩ := h1
    obtain ⟨q, hq, rfl⟩ := h2
    simp only [cxT, hp, hq, Option.map_some, Option.getD_some]
    obtain ⟨hi, rfl⟩ := List.getElem?_eq_some_iff.1 hp
    obtain ⟨hj, rfl⟩ := List.getElem?_eq_some_iff.1 hq
    rw [List.pairwise_iff_getElem] at hd
    rcases Nat.lt_or_gt_of_ne hne with h | h
    · exact hd i j hi hj h
    · exact fun e => hd j i hj hi h e.symm
  obj := fun id cs t h => by
    simp only [cxT, tabH, Option.map_eq_some_iff] at h
    obtain ⟨p, _, h⟩ := h; cases h
  spare := fun id n sz h => by
    simp only [cxT, tabH, Option.map_eq_some_iff] at h
    obtain ⟨p, _, h⟩ := h; cases h
  mp := fun id m h => by
    simp only [cxT, tabH, Option.map_eq_some_iff] at h
    obtain ⟨p, _, h⟩ := h; cases h
  keys := fun id m h => by
    simp only [cxT, tabH, Option.map_eq_some_iff] at h
    obtain ⟨p, _, h⟩ := h; cases h
  ro := fun id b vs h => by
    simp only [cxT, tabH, Option.map_eq_some_iff] at h
    obtain ⟨p, hp, h⟩ := h
    cases h
    refine ⟨by simp [cxT, hp], ht p (List.mem_of_getElem? hp)⟩
theorem FnOK.callsT {P : Program} {f : FuncId} {args : List AV} {b : Value} {vs : Array Value} {w : World} {ts : List (Nat × List Value)} (hf : FnOK P f args (tabH ts) fun r _ => r = .v b) (hd : ts.Pairwise fun p q => p.1 ≠ q.1)
    (ht : ∀ p ∈ ts, ∃ (t : TypeId) (fr : Nat × Nat), w.heap[p.1]? = some (.cells p.2.toArray t fr)) (hv : vs.size = args.length) (hr : ∀ i (hi : i < args.length), Rep (cx0 w) args[i] (vs.getD i undef)) :
    Calls P f vs w fun e w' => e = .returned b ∧ Go.RowKit.Below w.heap.size w w' := by
  have hE : Ext (cx0 w) (cxT w ts) := ⟨rfl, rfl, rfl, Nat.le_refl _, fun _ _ _ => rfl, fun _ _ _ _ => rfl, fun _ cs _ fr h => ⟨cs, fr, h, rfl⟩, fun b o _ h => (ownedT w ts b o h).elim,
    fun _ _ _ h => (by cases h), fun _ _ _ h => (by cases h), fun _ _ h => (by cases h), fun _ _ _ h => (by cases h)⟩
  refine (hf.2 (cxT w ts) vs (fun _ _ h => h) (goodT w ts hd ht) hv fun i hi => (hr i hi).mono hE).mono ?_
  rintro e w' ⟨u, rfl, c', x, h', rfl, g', hE, hx, hs, rfl⟩
  rw [hx.v_inv]
  exact ⟨rfl, hE.os, hE.tape, hE.output, hE.size, fun k hk => hE.block k hk fun o => ownedT w ts k o⟩
end Go.Ab

set_option linter.unusedSimpArgs false
set_option linter.unusedVariables false
namespace Go.Ab
open Go
mutual
def strip : AV → AV
  | .sl xs _ => .sl (stripL xs) .no
  | .agg xs => .agg (stripL xs)
  | .tup xs => .tup (stripL xs)
  | .v x => .v x
  | .s l => .s l
  | .pe x o => .pe x o
  | .ptr i o => .ptr i o
  | .oa i o l => .oa i o l
  | .ifc t x => .ifc t x
  | .fn f c => .fn f c
  | .mp i => .mp i
  | .ob i o l c s => .ob i o l c s
def stripL : List AV → List AV
  | [] => []
  | x :: r => strip x :: stripL r
end
theorem stripL_length : ∀ xs : List AV, (stripL xs).length = xs.length
  | [] => rfl
  | x :: r => by simp [stripL, stripL_length r]
theorem stripL_get : ∀ (xs : List AV) (i : Nat) (h1 : i < xs.length) (h2 : i < (stripL xs).length), (stripL xs)[i] = strip xs[i]
  | x :: r, 0, h1, h2 => by simp [stripL]
  | x :: r, i + 1, h1, h2 => by simpa [stripL] using stripL_get r i (by simpa using h1) (by simpa [stripL] using h2)
theorem strip_cells (x : AV) : (strip x).cells = match x with | .agg xs => stripL xs | _ => [strip x] := by
  cases x <;> simp [strip, AV.cells]
mutual
theorem weak_strip : ∀ x : AV, Weak x (strip x)
  | .sl xs p => .deep _ _ p (stripL_length xs).symm (fun i h1 h2 => by
        rw [stripL_get xs i h1 h2, strip_cells]
        have := weak_stripC xs i h1
        cases hx : xs[i] <;> simp [AV.cells, stripL_length])
      (fun i h1 h2 j h3 h4 => by
        have hw := weak_stripC xs i h1
        have e := stripL_get xs i h1 h2
        exact hw (stripL xs)[i] e j h3 h4)
  | .agg xs => .agg _ _ (stripL_length xs).symm fun i h1 h2 => by rw [stripL_get xs i h1 h2]; exact weak_stripL xs i h1
  | .tup xs => .tup _ _ (stripL_length xs).symm fun i h1 h2 => by rw [stripL_get xs i h1 h2]; exact weak_stripL xs i h1
  | .v x => .refl _
  | .s l => .refl _
  | .pe x o => .refl _
  | .ptr i o => .refl _
  | .oa i o l => .refl _
  | .ifc t x => .refl _
  | .fn f c => .refl _
  | .mp i => .refl _
  | .ob i o l c s => .refl _
theorem weak_stripL : ∀ (xs : List AV) (i : Nat) (h : i < xs.length), Weak xs[i] (strip xs[i])
  | x :: r, 0, h => weak_strip x
  | x :: r, i + 1, h => weak_stripL r i (by simpa using h)
theorem weak_stripC : ∀ (xs : List AV) (i : Nat) (h : i < xs.length) (y : AV), y = strip xs[i] → ∀ (j : Nat) (h3 : j < xs[i].cells.length) (h4 : j < y.cells.length), Weak xs[i].cells[j] y.cells[j]
  | x :: r, 0, h, y, e, j, h3, h4 => weak_cells x y e j h3 h4
  | x :: r, i + 1, h, y, e, j, h3, h4 => weak_stripC r i (by simpa using h) y e j h3 h4
theorem weak_cells : ∀ (x y : AV), y = strip x → ∀ (j : Nat) (h3 : j < x.cells.length) (h4 : j < y.cells.length), Weak x.cells[j] y.cells[j]
  | .agg xs, y, e, j, h3, h4 => by
    subst e
    simp only [strip, AV.cells] at h4 ⊢
    rw [stripL_get xs j h3 h4]
    exact weak_stripL xs j h3
  | .sl xs p, y, e, j, h3, h4 => by
    subst e
    simp only [strip, AV.cells, List.length_singleton] at h3 h4 ⊢
    obtain rfl : j = 0 := by omega
    exact .deep _ _ p (stripL_length xs).symm (fun i h1 h2 => by
        rw [stripL_get xs i h1 h2, strip_cells]
        cases hx : xs[i] <;> simp [AV.cells, stripL_length])
      (fun i h1 h2 j h3 h4 => weak_stripC xs i h1 _ (stripL_get xs i h1 h2) j h3 h4)
  | .tup xs, y, e, j, h3, h4 => by
    subst e
    simp only [strip, AV.cells, List.length_singleton] at h3 h4 ⊢
    obtain rfl : j = 0 := by omega
    exact .tup _ _ (stripL_length xs).symm fun i h1 h2 => by rw [stripL_get xs i h1 h2]; exact weak_stripL xs i h1
  | .v x, y, e, j, h3, h4 => by subst e; exact .refl _
  | .s l, y, e, j, h3, h4 => by subst e; exact .refl _
  | .pe x o, y, e, j, h3, h4 => by subst e; exact .refl _
  | .ptr i o, y, e, j, h3, h4 => by subst e; exact .refl _
  | .oa i o l, y, e, j, h3, h4 => by subst e; exact .refl _
  | .ifc t x, y, e, j, h3, h4 => by subst e; exact .refl _
  | .fn f c, y, e, j, h3, h4 => by subst e; exact .refl _
  | .mp i, y, e, j, h3, h4 => by subst e; exact .refl _
  | .ob i o l c s, y, e, j, h3, h4 => by subst e; exact .refl _
end
section
variable {P : Program} {U : TypeId → TI} {n : Nat} {ρ : Env} {h0 h h' : Heap} {tb : TypeId} {y v : AV} {xs zs : List AV} {Q : AV → Heap → Prop} {f : FuncId} {args : List AV}
theorem FnOK.strip (hf : FnOK P f (stripL args) h Q) : FnOK P f args h Q := hf.weak (stripL_length args).symm fun i h1 h2 => by rw [stripL_get args i h1 h2]; exact weak_strip _
def One (xs : List AV) : Prop := ∀ x ∈ xs, isAggA x = false
theorem cells_one {x : AV} (h : isAggA x = false) : x.cells = [x] := by cases x <;> first | rfl | (cases h)
theorem One.sized (h : One xs) : Sized 1 xs := fun z hz => by rw [cells_one (h z hz)]; rfl
theorem One.app (h1 : One xs) (h2 : One zs) : One (xs ++ zs) := fun x hx => by
  rcases List.mem_append.1 hx with h | h
  · exact h1 x h
  · exact h2 x h
theorem One.take (h1 : One xs) (n : Nat) : One (xs.take n) := fun x hx => h1 x (List.mem_of_mem_take hx)
theorem One.drop (h1 : One xs) (n : Nat) : One (xs.drop n) := fun x hx => h1 x (List.mem_of_mem_drop hx)
theorem One.map {α : Type} {g : α → AV} (hg : ∀ a, isAggA (g a) = false) (l : List α) : One (l.map g) := fun x hx => by
  obtain ⟨a, _, rfl⟩ := List.mem_map.1 hx
  exact hg a
def SeqA (tb : TypeId) (h : Heap) (y : AV) (xs : List AV) : Prop :=
  (∃ q, y = .sl xs q) ∨ ∃ id off cs, y = .oa id off xs.length ∧ h id = some (.obj cs tb) ∧ off + xs.length ≤ cs.length ∧ (cs.drop off).take xs.length = xs
theorem SeqA.sl (xs : List AV) (q : Perm) : SeqA tb h (.sl xs q) xs := .inl ⟨q, rfl⟩
theorem SeqA.sub (hb : SeqA tb h y xs) (hs : Sub h h') : SeqA tb h' y xs := by
  rcases hb with hb | ⟨id, off, cs, rfl, h1, h2⟩
  · exact .inl hb
  · exact .inr ⟨id, off, cs, rfl, hs _ _ h1, h2⟩
theorem SeqA.len (hb : SeqA tb h y xs) (e : TypeId) (k : AV → Prop) : lenK y k (.slice e) = k (.v (.int .i64 xs.length)) := by
  rcases hb with ⟨q, rfl⟩ | ⟨id, off, cs, rfl, _⟩ <;> rfl
theorem SeqA.cells (hb : SeqA tb h y xs) : y.cells = [y] := by
  rcases hb with ⟨q, rfl⟩ | ⟨id, off, cs, rfl, _⟩ <;> rfl
def AtP (U : TypeId → TI) (tb : TypeId) (h : Heap) (p x : AV) : Prop := ∀ k : AV → Prop, loadA U h tb p k = k x
theorem SeqA.idx (hb : SeqA tb h y xs) (ho : One xs) {m : Int} {x : IntKind} {K : AV → Prop} (j : Nat) (hm : m = j) (hj : j < xs.length) (hz : (U tb).sz = 1) (ha : (U tb).k.agg = false)
    (hk : ∀ p, AtP U tb h p xs[j] → K p) : iaddrK U y (.v (.int x m)) K (.slice tb) := by
  subst hm
  have h1 := ho xs[j] (List.getElem_mem hj)
  rcases hb with ⟨q, rfl⟩ | ⟨id, off, cs, rfl, g1, g2, g3⟩
  · refine (iaddrK_sl ..).mpr ⟨by rw [hz]; decide, ?_⟩
    refine IdxE.at j hj (by rw [hz, cells_one h1]; rfl) ?_
    refine hk _ fun k => ?_
    simp only [loadA, atA_eq, ha, hz, cells_one h1, h1, List.length_cons, List.length_nil, Nat.zero_add, and_self, if_true]
  · refine (iaddrK_oa ..).mpr ⟨by rw [hz]; decide, by omega, by omega, ?_⟩
    refine hk _ fun k => ?_
    have e1 : cs[off + j]? = some xs[j] := by
      have := congrArg (fun q => q[j]?) g3
      simp only [List.getElem?_take, hj, if_true, List.getElem?_drop, List.getElem?_eq_getElem hj] at this
      exact this
    simp only [loadA, g1, bindO_some, objL_eq, hz, Nat.mul_one, Int.toNat_natCast, partA_eq, ha, Br, e1]
    simp
def WrA (tb : TypeId) (h0 h : Heap) (y : AV) (xs : List AV) : Prop :=
  Sub h0 h ∧ ((xs = [] ∧ y = .sl [] .full) ∨ ∃ id cs, h0 id = none ∧ y = .oa id 0 xs.length ∧ h id = some (.obj cs tb) ∧ xs.length ≤ cs.length ∧ cs.take xs.length = xs)
theorem WrA.nil (hs : Sub h0 h) : WrA tb h0 h (.sl [] .full) [] := ⟨hs, .inl ⟨rfl, rfl⟩⟩
theorem WrA.seq (hw : WrA tb h0 h y xs) : SeqA tb h y xs := by
  obtain ⟨_, ⟨rfl, rfl⟩ | ⟨id, cs, _, rfl, h1, h2, h3⟩⟩ := hw
  · exact .sl _ _
  · exact .inr ⟨id, 0, cs, rfl, h1, by omega, by simpa using h3⟩
theorem WrA.sub (hw : WrA tb h0 h y xs) (hs : Sub h h') : WrA tb h0 h' y xs := by
  obtain ⟨h1, hw | ⟨id, cs, a, e, b, c, d⟩⟩ := hw
  · exact ⟨h1.trans hs, .inl hw⟩
  · exact ⟨h1.trans hs, .inr ⟨id, cs, a, e, hs _ _ b, c, d⟩⟩
theorem WrA.base (hw : WrA tb h0 h y xs) {id : Nat} (hid : h id = none) (b : Option Blk) : WrA tb (upd h0 id b) (upd h id b) y xs := by
  obtain ⟨h1, hw⟩ := hw
  have h2 : Sub (upd h0 id b) (upd h id b) := fun j k hj => by
    by_cases e : j = id
    · subst e; rw [upd_same] at hj ⊢; exact hj
    · rw [upd_other _ _ e] at hj ⊢; exact h1 _ _ hj
  rcases hw with hw | ⟨i, cs, a, e, c, d⟩
  · exact ⟨h2, .inl hw⟩
  · have hne : i ≠ id := fun hh => by subst hh; rw [hid] at c; cases c
    exact ⟨h2, .inr ⟨i, cs, by rw [upd_other _ _ hne]; exact a, e, by rw [upd_other _ _ hne]; exact c, d⟩⟩
theorem WrA.less (hw : WrA tb h' h y xs) (hs : Sub h0 h') : WrA tb h0 h y xs := by
  obtain ⟨h1, hw | ⟨i, cs, a, e, c, d⟩⟩ := hw
  · exact ⟨hs.trans h1, .inl hw⟩
  · exact ⟨hs.trans h1, .inr ⟨i, cs, hs.none a, e, c, d⟩⟩
theorem WrA.len (hw : WrA tb h0 h y xs) (e : TypeId) (k : AV → Prop) : lenK y k (.slice e) = k (.v (.int .i64 xs.length)) := hw.seq.len e k
theorem WrA.idx (hb : WrA tb h0 h y xs) (ho : One xs) {m : Int} {x : IntKind} {K : AV → Prop} (j : Nat) (hm : m = j) (hj : j < xs.length) (hz : (U tb).sz = 1) (ha : (U tb).k.agg = false)
    (hk : ∀ p, AtP U tb h p xs[j] → K p) : iaddrK U y (.v (.int x m)) K (.slice tb) := hb.seq.idx ho j hm hj hz ha hk
theorem WrA.cut (hw : WrA tb h0 h y xs) {hi : Operand} {m : Int} {x : IntKind} {K : AV → Prop} (j : Nat) (hm : ev ρ hi = some (.v (.int x m))) (hj : m = j) (hl : j ≤ xs.length) (hz : (U tb).sz = 1)
    (hk : ∀ z, WrA tb h0 h z (xs.take j) → K z) : sliceK U ρ y none (some hi) none K (.slice tb) := by
  subst hj
  have hs := hw.1
  obtain ⟨_, ⟨rfl, rfl⟩ | ⟨id, cs, h1, rfl, h2, h3, h4⟩⟩ := hw
  · rw [sliceK_none, optA_some, hm]
    refine ⟨by rw [hz]; decide, ?_⟩
    simp only [bindO_some, intA_eq, Option.isSome_some, cutL_ft, Int.toNat_natCast]
    have : j = 0 := by simpa using hl
    subst this
    refine ⟨by omega, by simp, ?_⟩
    exact hk _ (.nil hs)
  · rw [sliceK_oa]
    refine ⟨by rw [hz]; decide, fun _ => hz, ?_⟩
    simp only [optA_none, optA_some, hm, bindO_some, intA_eq]
    refine ⟨by omega, by omega, by omega, ?_⟩
    simp only [Int.toNat_natCast, hz, Nat.mul_one]
    have e : (xs.take j).length = j := by simp; omega
    have := hk (.oa id 0 (xs.take j).length) ⟨hs, .inr ⟨id, cs, h1, rfl, h2, by omega, by rw [e, ← h4, List.take_take, Nat.min_eq_left hl]⟩⟩
    rw [e] at this
    simpa using this
theorem WrA.from (hw : WrA tb h0 h y xs) (ho : One xs) {lo : Operand} {m : Int} {x : IntKind} {K : AV → Prop} (j : Nat) (hm : ev ρ lo = some (.v (.int x m))) (hj : m = j) (hl : j ≤ xs.length) (hz : (U tb).sz = 1)
    (hk : ∀ z, SeqA tb h z (xs.drop j) → K z) : sliceK U ρ y (some lo) none none K (.slice tb) := by
  subst hj
  obtain ⟨_, ⟨rfl, rfl⟩ | ⟨id, cs, h1, rfl, h2, h3, h4⟩⟩ := hw
  · have : j = 0 := by simpa using hl
    subst this
    rw [sliceK_from, hm]
    refine ⟨by rw [hz]; decide, by simp [Sized], ?_⟩
    simp only [bindO_some, intA_eq, KV_eq]
    exact ⟨by omega, by simp, hk _ (.sl _ _)⟩
  · rw [sliceK_oa]
    refine ⟨by rw [hz]; decide, fun _ => hz, ?_⟩
    simp only [optA_none, optA_some, hm, bindO_some, intA_eq]
    refine ⟨by omega, by omega, by omega, ?_⟩
    simp only [Int.toNat_natCast, hz, Nat.mul_one, Nat.zero_add]
    have e : (xs.drop j).length = xs.length - j := by simp
    have := hk (.oa id j (xs.drop j).length) (.inr ⟨id, j, cs, rfl, h2, by omega, by rw [e, ← List.drop_take, h4]⟩)
    rw [e] at this
    simpa using this
theorem WrA.app (hw : WrA tb h0 h y xs) (ho : One xs) (hoz : One zs) (hz : (U tb).sz = 1) (hb : (U tb).bytes ≠ 0) (hf : fit (U tb).zero 1) (hn : isAggA (U tb).zero = false) (hsrc : ∀ k : List AV → Prop, k zs → srcA U tb h v k)
    (hlen : (xs.length + zs.length) * (U tb).bytes ≤ 140737488355328) (hk : ∀ y' h', WrA tb h0 h' y' (xs ++ zs) → Q y' h') : apK U h y v Q (.slice tb) := by
  have hs := hw.1
  have one : Sized (U tb).sz zs := by rw [hz]; exact hoz.sized
  obtain ⟨_, ⟨rfl, rfl⟩ | ⟨id, cs, h1, rfl, h2, h3, h4⟩⟩ := hw
  · refine (apK_full ..).mpr ⟨by rw [hz]; decide, hb, hsrc _ ⟨by simp [Sized], one, by simpa using hlen, fun hn' => ?_, fun hn' => ?_⟩⟩
    · subst hn'
      exact hk _ _ (.nil hs)
    · refine .oa hz hf hn hoz fun id k hid => ?_
      refine hk _ _ ⟨hs.new hid _, .inr ⟨id, _, hs.none hid, ?_, upd_same .., ?_, ?_⟩⟩
      · simp
      · simp
      · simp [List.take_append_of_le_length]
  · refine ⟨by rw [hz]; decide, hb, hz, hsrc _ ⟨by rw [← hz]; exact one, hoz, by simpa using hlen, ?_⟩⟩
    rw [h2]
    refine ⟨by omega, ?_, hf, hn, fun hle => ?_, fun id' k hid => ?_⟩
    · rw [List.drop_zero, h4]; exact ho
    · have hsub : Sub h0 (upd h id (some (.obj (over cs (0 + xs.length) zs) tb))) := fun j b hj => by
        by_cases e : j = id
        · subst e; rw [h1] at hj; cases hj
        · rw [upd_other _ _ e]; exact hs _ _ hj
      have ho' : (over cs (0 + xs.length) zs).length = cs.length := over_length (by omega)
      refine hk _ _ ⟨hsub, .inr ⟨id, _, h1, by rw [List.length_append], upd_same .., by rw [ho', List.length_append]; omega, ?_⟩⟩
      rw [over, Nat.zero_add, h4, List.length_append, List.take_append_of_le_length (by simp)]
      exact List.take_of_length_le (by simp)
    · refine hk _ _ ⟨hs.new hid _, .inr ⟨id', _, hs.none hid, by rw [List.length_append], upd_same .., ?_, ?_⟩⟩
      · rw [List.drop_zero, h4]; simp
      · rw [List.drop_zero, h4, List.take_append_of_le_length (by simp)]
        exact List.take_of_length_le (by simp)
theorem WrA.put (hw : WrA tb h0 h y xs) (hz : (U tb).sz = 1) (j : Nat) (hj : j < xs.length) {K : AV → Prop} {x : IntKind} (hk : ∀ id cs, y = .oa id 0 xs.length → h0 id = none → h id = some (.obj cs tb) → xs.length ≤ cs.length → cs.take xs.length = xs → K (.ptr id j)) : iaddrK U y (.v (.int x (j : Nat))) K (.slice tb) := by
  obtain ⟨hs, ⟨rfl, rfl⟩ | ⟨id, cs, h1, rfl, h2, h3, h4⟩⟩ := hw
  · cases hj
  · refine (iaddrK_oa ..).mpr ⟨by rw [hz]; decide, by omega, by omega, ?_⟩
    rw [hz, Nat.zero_add, Nat.mul_one]
    exact hk id cs rfl h1 h2 h3 h4
end
end Go.Ab

set_option linter.unusedVariables false
namespace Go.Bf
open Go Go.Ab
abbrev Txt := List UInt8
structure AttrD where
  cat : Int
  name : Txt
  must : Bool
structure ValD where
  kind : Int
  n : Int
  s : Txt
structure MatchD where
  attr : AttrD
  op : Int
  val : ValD
structure NodeD where
  op : Int
  val : ValD
  attr : AttrD
structure OblD where
  on : Int
  kind : Int
  arg : Txt
abbrev TgtD := List (List (List MatchD))
structure RuleD where
  id : Txt
  deny : Bool
  tgt : TgtD
  cond : List NodeD
  obls : List OblD
inductive PolD where
  | mk (id : Txt) (set : Bool) (alg : Int) (tgt : TgtD) (rules : List RuleD) (kids : List PolD) (obls : List OblD)
def attrA (a : AttrD) : AV := .agg [.v (.int .i64 a.cat), .s a.name, .v (.bool a.must)]
def valA (v : ValD) : AV := .agg [.v (.int .i64 v.kind), .v (.int .i64 v.n), .s v.s]
def matchA (m : MatchD) : AV := .agg [.v (.int .i64 m.attr.cat), .s m.attr.name, .v (.bool m.attr.must), .v (.int .i64 m.op), .v (.int .i64 m.val.kind), .v (.int .i64 m.val.n), .s m.val.s]
def nodeA (m : NodeD) : AV := .agg [.v (.int .i64 m.op), .v (.int .i64 m.val.kind), .v (.int .i64 m.val.n), .s m.val.s, .v (.int .i64 m.attr.cat), .s m.attr.name, .v (.bool m.attr.must)]
def boolA (b : Bool) : AV := .v (.bool b)
def oblA (o : OblD) : AV := .agg [.v (.int .i64 o.on), .v (.int .i64 o.kind), .s o.arg]
def allA (l : List MatchD) : AV := .sl (l.map matchA) .no
def anyA (l : List (List MatchD)) : AV := .sl (l.map allA) .no
def tgtA (t : TgtD) : AV := .sl (t.map anyA) .no
def condA (l : List NodeD) : AV := .sl (l.map nodeA) .no
def oblsA (l : List OblD) : AV := .sl (l.map oblA) .no
def ruleA (r : RuleD) : AV := .agg [.s r.id, .v (.bool r.deny), tgtA r.tgt, condA r.cond, oblsA r.obls]
mutual
def polA : PolD → AV
  | .mk id set alg tgt rules kids obls => .agg [.s id, .v (.bool set), .v (.int .i64 alg), tgtA tgt, .sl (rules.map ruleA) .no, .sl (kidsA kids) .no, oblsA obls]
def kidsA : List PolD → List AV
  | [] => []
  | k :: r => polA k :: kidsA r
end
theorem kidsA_eq : ∀ l : List PolD, kidsA l = l.map polA
  | [] => rfl
  | k :: r => by simp [kidsA, kidsA_eq r]
def ltr (c : UInt8) : Bool := decide (97 ≤ (c.toNat : Int)) && decide ((c.toNat : Int) ≤ 122)
def dgt (c : UInt8) : Bool := decide (48 ≤ (c.toNat : Int)) && decide ((c.toNat : Int) ≤ 57)
def chOK (c : UInt8) (i : Nat) : Bool := ltr c || (decide (i ≠ 0) && (dgt c || (c.toNat : Int) == 95))
def chsOK (l : Txt) : Bool := l.zipIdx.all fun p => chOK p.1 p.2
def nameOK (l : Txt) : Bool := chsOK l && decide (1 ≤ l.length) && decide (l.length ≤ 16)
def attrOK (a : AttrD) : Bool := decide (1 ≤ a.cat) && decide (a.cat ≤ 4) && nameOK a.name
def valOK (v : ValD) : Bool :=
  if v.kind = 1 then (v.n == 0 || v.n == 1) && v.s == []
  else if v.kind = 2 then v.s == []
  else if v.kind = 3 then v.n == 0 && decide (v.s.length ≤ 64)
  else if v.kind = 4 then decide (0 ≤ v.n) && decide (v.n ≤ 1099511627776) && v.s == []
  else if v.kind = 5 then v.n == 0 && nameOK v.s
  else false
def matchOK (m : MatchD) : Bool := attrOK m.attr && decide (1 ≤ m.op) && decide (m.op ≤ 3) && valOK m.val
def manyE (n : Nat) : Int := if n = 0 then 1 else if n > 8 then 6 else 0
def firstE {α : Type} (f : α → Int) : List α → Int
  | [] => 0
  | x :: r => if f x = 0 then firstE f r else f x
def allE (l : List MatchD) : Int := if manyE l.length = 0 then (if l.all matchOK then 0 else 1) else manyE l.length
def anyE (l : List (List MatchD)) : Int := if manyE l.length = 0 then firstE allE l else manyE l.length
def tgtE (t : TgtD) : Int := if t.length > 8 then 6 else firstE anyE t
def wantsD (op : Int) : Option (List Bool) :=
  if op = 1 ∨ op = 2 then some []
  else if op = 3 ∨ op = 4 then some [true]
  else if op = 5 then some [true, false]
  else if op = 11 then some [false]
  else if 6 ≤ op ∧ op ≤ 13 then some [false, false]
  else none
def zeroV (v : ValD) : Bool := v.kind == 0 && (v.n == 0 && v.s == [])
def zeroAt (a : AttrD) : Bool := a.cat == 0 && (a.name == [] && a.must == false)
def fieldsOK (n : NodeD) : Bool :=
  if n.op = 1 then valOK n.val && zeroAt n.attr
  else if n.op = 2 then attrOK n.attr && zeroV n.val
  else zeroV n.val && zeroAt n.attr
def stepD (st : List Bool) (n : NodeD) : Option (List Bool) := match wantsD n.op with
  | none => none
  | some w => if fieldsOK n = true ∧ w.length ≤ st.length ∧ st.drop (st.length - w.length) = w then some (st.take (st.length - w.length) ++ [n.op == 2]) else none
def stepsD (st : List Bool) : List NodeD → Option (List Bool)
  | [] => some st
  | n :: r => match stepD st n with
    | none => none
    | some st' => stepsD st' r
def exprE (l : List NodeD) : Int := if l.length > 32 then 6 else match stepsD [] l with
  | none => 1
  | some st => if l = [] ∨ st = [false] then 0 else 1
def oblOK (o : OblD) : Bool := decide (1 ≤ o.on) && decide (o.on ≤ 2) && decide (1 ≤ o.kind) && decide (o.kind ≤ 4) && nameOK o.arg
def oblsE (l : List OblD) : Int := if l.length > 8 then 6 else if l.all oblOK then 0 else 1
structure MetD where
  met : List Txt
  rules : Nat
inductive Went where
  | bad (e : Int)
  | ok (m : MetD)
def meetD (m : MetD) (s : Txt) : Option MetD := if s ∉ m.met ∧ nameOK s = true then some ⟨m.met ++ [s], m.rules⟩ else none
def Went.err : Went → Int
  | .bad e => e
  | .ok _ => 0
def need (e : Int) (w : Went) : Went := if e = 0 then w else .bad e
def ruleW (m : MetD) (r : RuleD) : Went := match meetD m r.id with
  | none => .bad 1
  | some m => if m.rules + 1 > 64 then .bad 6 else need (tgtE r.tgt) (need (exprE r.cond) (need (oblsE r.obls) (.ok ⟨m.met, m.rules + 1⟩)))
def rulesW (m : MetD) : List RuleD → Went
  | [] => .ok m
  | r :: l => match ruleW m r with
    | .bad e => .bad e
    | .ok m => rulesW m l
def headW (m : MetD) (id : Txt) (set : Bool) (alg : Int) (tgt : TgtD) (nr nk : Nat) (obls : List OblD) : Went := match meetD m id with
  | none => .bad 1
  | some m => if alg < 1 ∨ alg > 6 then .bad 1
    else if set = true ∧ nr > 0 ∨ set = false ∧ (nk > 0 ∨ alg = 4) then .bad 1
    else need (tgtE tgt) (need (oblsE obls) (if nr > 16 ∨ nk > 16 then .bad 6 else .ok m))
mutual
def polW (m : MetD) (d : Nat) : PolD → Went
  | .mk id set alg tgt rules kids obls =>
    if d > 4 then .bad 6 else match headW m id set alg tgt rules.length kids.length obls with
    | .bad e => .bad e
    | .ok m => match rulesW m rules with
      | .bad e => .bad e
      | .ok m => kidsW m (d + 1) kids
def kidsW (m : MetD) (d : Nat) : List PolD → Went
  | [] => .ok m
  | k :: r => match polW m d k with
    | .bad e => .bad e
    | .ok m => kidsW m d r
end
def rightE (p : PolD) : Int := (polW ⟨[], 0⟩ 1 p).err
def catW (n : Int) : Txt := if n = 1 then [115, 117, 98, 106, 101, 99, 116] else if n = 2 then [97, 99, 116, 105, 111, 110] else if n = 3 then [99, 97, 115, 101] else [101, 110, 118]
def attrT (a : AttrD) : Txt := catW a.cat ++ [46] ++ a.name ++ (if a.must then [33] else [])
def hexD (n : Nat) : UInt8 := if n < 10 then UInt8.ofNat (48 + n) else UInt8.ofNat (87 + n)
def oddB (c : UInt8) : Bool := decide ((c.toNat : Int) < 32) || decide (126 < (c.toNat : Int)) || (c.toNat : Int) == 34 || (c.toNat : Int) == 92
def quoteB (c : UInt8) : Txt := if oddB c then [92, hexD (c.toNat / 16), hexD (c.toNat % 16)] else [c]
def quoteT (l : Txt) : Txt := [34] ++ (l.map quoteB).flatten ++ [34]
def valT (v : ValD) : Txt :=
  if v.kind = 1 then Lib.formatBool (v.n == 1) else if v.kind = 4 then [64] ++ Lib.itoa v.n else if v.kind = 5 then [35] ++ v.s else if v.kind = 3 then quoteT v.s else Lib.itoa v.n
def opW (n : Int) : Txt := if n = 1 then [61] else if n = 2 then [60] else [62]
def matchT (m : MatchD) : Txt := attrT m.attr ++ [32] ++ opW m.op ++ [32] ++ valT m.val
def allT (l : List MatchD) : Txt := Lib.join (l.map matchT) [44, 32]
def anyT (l : List (List MatchD)) : Txt := [40] ++ Lib.join (l.map allT) [32, 111, 114, 32] ++ [41]
def tgtT (t : TgtD) : Txt := if t = [] then [] else [32, 119, 104, 101, 110, 32] ++ Lib.join (t.map anyT) [32, 97, 110, 100, 32]
def fnW (n : Int) : Txt :=
  if n = 3 then [111, 110, 101] else if n = 4 then [115, 105, 122, 101] else if n = 5 then [104, 97, 115] else if n = 6 then [101, 113] else if n = 7 then [108, 101, 115, 115]
  else if n = 8 then [97, 100, 100] else if n = 9 then [115, 117, 98] else if n = 10 then [109, 117, 108] else if n = 11 then [110, 111, 116] else if n = 12 then [97, 110, 100] else [111, 114]
def arity (n : Int) : Nat := if n = 3 ∨ n = 4 ∨ n = 11 then 1 else 2
def stepT (st : List Txt) (n : NodeD) : List Txt :=
  if n.op = 1 then st ++ [valT n.val] else if n.op = 2 then st ++ [attrT n.attr]
  else st.take (st.length - arity n.op) ++ [[40] ++ fnW n.op ++ [32] ++ Lib.join (st.drop (st.length - arity n.op)) [32] ++ [41]]
def exprT (l : List NodeD) : Txt := (l.foldl stepT []).headD []
def onW (n : Int) : Txt := if n = 1 then [112, 101, 114, 109, 105, 116] else [100, 101, 110, 121]
def dutyW (n : Int) : Txt := if n = 1 then [108, 111, 103] else if n = 2 then [114, 101, 100, 97, 99, 116] else if n = 3 then [114, 101, 118, 105, 101, 119] else [110, 111, 116, 105, 102, 121]
def oblT (o : OblD) : Txt := [32, 111, 110, 32] ++ onW o.on ++ [32] ++ dutyW o.kind ++ [32] ++ o.arg
def oblsT (l : List OblD) : Txt := (l.map oblT).flatten
def ruleT (r : RuleD) : Txt := (if r.deny then [32, 100, 101, 110, 121, 32] else [32, 112, 101, 114, 109, 105, 116, 32]) ++ (r.id ++ tgtT r.tgt) ++ (if r.cond = [] then [] else [32, 105, 102, 32] ++ exprT r.cond) ++ oblsT r.obls ++ [59]
def algW (n : Int) : Txt :=
  if n = 1 then [100, 101, 110, 121, 111, 118, 101, 114] else if n = 2 then [112, 101, 114, 109, 105, 116, 111, 118, 101, 114] else if n = 3 then [102, 105, 114, 115, 116] else if n = 4 then [111, 110, 108, 121]
  else if n = 5 then [100, 101, 110, 121, 117, 110, 108, 101, 115, 115] else [112, 101, 114, 109, 105, 116, 117, 110, 108, 101, 115, 115]
mutual
def polT : PolD → Txt
  | .mk id set alg tgt rules kids obls => (if set then [115, 101, 116, 32] else [112, 111, 108, 105, 99, 121, 32]) ++ (id ++ [32] ++ algW alg ++ tgtT tgt ++ [32, 123]) ++ (rules.map ruleT).flatten ++ kidsT kids ++ [32, 125] ++ oblsT obls
def kidsT : List PolD → Txt
  | [] => []
  | k :: r => [32] ++ polT k ++ kidsT r
end
def showP (p : PolD) : Txt := if rightE p = 0 then polT p else []
end Go.Bf

set_option linter.unusedSimpArgs false
set_option linter.unusedVariables false
namespace Go.Bf
open Go Go.Ab
theorem zipIdx_take_succ {α : Type} (l : List α) (i : Nat) (h : i < l.length) : (l.take (i + 1)).zipIdx = (l.take i).zipIdx ++ [(l[i], i)] := by
  rw [List.take_succ_eq_append_getElem h, List.zipIdx_append]
  simp [Nat.min_eq_left (Nat.le_of_lt h)]
theorem chsOK_succ (l : Txt) (i : Nat) (h : i < l.length) : chsOK (l.take (i + 1)) = (chsOK (l.take i) && chOK l[i] i) := by
  simp [chsOK, zipIdx_take_succ l i h]
theorem chsOK_bad (l : Txt) (i : Nat) (h : i < l.length) (hb : chOK l[i] i = false) : chsOK l = false := by
  rw [chsOK, List.all_eq_false]
  exact ⟨(l[i], i), by rw [List.mk_mem_zipIdx_iff_getElem?]; exact List.getElem?_eq_getElem h, by simp [hb]⟩
theorem chCases (c : UInt8) :
    (decide (97 ≤ (c.toNat : Int)) = true ∧ decide ((c.toNat : Int) ≤ 122) = true ∧ decide (48 ≤ (c.toNat : Int)) = true ∧ decide ((c.toNat : Int) ≤ 57) = false ∧ ((c.toNat : Int) == 95) = false) ∨
    (decide (97 ≤ (c.toNat : Int)) = false ∧ decide ((c.toNat : Int) ≤ 122) = true ∧ decide (48 ≤ (c.toNat : Int)) = true ∧ decide ((c.toNat : Int) ≤ 57) = true ∧ ((c.toNat : Int) == 95) = false) ∨
    (decide (97 ≤ (c.toNat : Int)) = false ∧ decide ((c.toNat : Int) ≤ 122) = true ∧ decide (48 ≤ (c.toNat : Int)) = true ∧ decide ((c.toNat : Int) ≤ 57) = false ∧ ((c.toNat : Int) == 95) = true) ∨
    (decide (97 ≤ (c.toNat : Int)) = false ∧ decide ((c.toNat : Int) ≤ 122) = true ∧ decide (48 ≤ (c.toNat : Int)) = false ∧ decide ((c.toNat : Int) ≤ 57) = true ∧ ((c.toNat : Int) == 95) = false) ∨
    (decide (97 ≤ (c.toNat : Int)) = false ∧ decide ((c.toNat : Int) ≤ 122) = true ∧ decide (48 ≤ (c.toNat : Int)) = true ∧ decide ((c.toNat : Int) ≤ 57) = false ∧ ((c.toNat : Int) == 95) = false) ∨
    (decide (97 ≤ (c.toNat : Int)) = true ∧ decide ((c.toNat : Int) ≤ 122) = false ∧ decide (48 ≤ (c.toNat : Int)) = true ∧ decide ((c.toNat : Int) ≤ 57) = false ∧ ((c.toNat : Int) == 95) = false) := by
  simp only [decide_eq_true_eq, decide_eq_false_iff_not, beq_iff_eq, beq_eq_false_iff_ne, ne_eq]
  omega
theorem firstE_take {α : Type} {f : α → Int} {l : List α} {i : Nat} (h : i < l.length) (h0 : firstE f (l.take i) = 0) (h1 : f l[i] = 0) : firstE f (l.take (i + 1)) = 0 := by
  rw [List.take_succ_eq_append_getElem h]
  generalize l.take i = a at h0
  induction a with
  | nil => simp [firstE, h1]
  | cons x r ih =>
    simp only [firstE] at h0
    split at h0
    · rename_i hx
      simp only [List.cons_append, firstE, hx, if_true]
      exact ih h0
    · rename_i hx; exact (hx h0).elim
theorem firstE_at {α : Type} {f : α → Int} {l : List α} {i : Nat} (h : i < l.length) (h0 : firstE f (l.take i) = 0) (h1 : f l[i] ≠ 0) : firstE f l = f l[i] := by
  induction l generalizing i with
  | nil => cases h
  | cons x r ih =>
    cases i with
    | zero => simp only [List.getElem_cons_zero] at h1 ⊢; simp [firstE, h1]
    | succ i =>
      simp only [List.take_succ_cons, firstE] at h0
      split at h0
      · rename_i hx
        simp only [firstE, hx, if_true, List.getElem_cons_succ]
        exact ih (by simpa using h) h0 (by simpa using h1)
      · rename_i hx; exact (hx h0).elim
theorem need_bad {e x : Int} {w : Went} (h : need e w = .bad x) (hw : w = .bad x → x ≠ 0) : x ≠ 0 := by
  unfold need at h
  split at h
  · exact hw h
  · cases h; assumption
theorem ruleW_bad {m : MetD} {r : RuleD} {e : Int} (h : ruleW m r = .bad e) : e ≠ 0 := by
  unfold ruleW at h
  split at h
  · cases h; decide
  · split at h
    · cases h; decide
    · exact need_bad h fun h => need_bad h fun h => need_bad h fun h => by cases h
theorem headW_bad {m : MetD} {id : Txt} {set : Bool} {alg : Int} {tgt : TgtD} {nr nk : Nat} {obls : List OblD} {e : Int} (h : headW m id set alg tgt nr nk obls = .bad e) : e ≠ 0 := by
  unfold headW at h
  split at h
  · cases h; decide
  · split at h
    · cases h; decide
    · split at h
      · cases h; decide
      · exact need_bad h fun h => need_bad h fun h => by
          split at h
          · cases h; decide
          · cases h
theorem rulesW_split (m : MetD) : ∀ (l : List RuleD) (i : Nat), rulesW m l = (match rulesW m (l.take i) with
    | .bad e => .bad e
    | .ok m1 => rulesW m1 (l.drop i))
  | [], i => by simp [rulesW]
  | r :: l, 0 => by simp [rulesW]
  | r :: l, i + 1 => by
    simp only [List.take_succ_cons, List.drop_succ_cons, rulesW]
    cases ruleW m r with
    | bad e => rfl
    | ok m1 => simp only; exact rulesW_split m1 l i
theorem rulesW_next {m m1 : MetD} {l : List RuleD} {i : Nat} (hi : i < l.length) (h : rulesW m (l.take i) = .ok m1) : rulesW m (l.take (i + 1)) = ruleW m1 l[i] := by
  rw [rulesW_split m _ i, List.take_take, Nat.min_eq_left (by omega), h, List.take_succ_eq_append_getElem hi, List.drop_append_of_le_length (by simp; omega), List.drop_of_length_le (by simp; omega)]
  simp only [List.nil_append, rulesW]
  cases ruleW m1 l[i] <;> rfl
theorem rulesW_stop {m m1 : MetD} {l : List RuleD} {i : Nat} {e : Int} (hi : i < l.length) (h : rulesW m (l.take i) = .ok m1) (hr : ruleW m1 l[i] = .bad e) : rulesW m l = .bad e := by
  rw [rulesW_split m l (i + 1), rulesW_next hi h, hr]
theorem kidsW_split (m : MetD) (d : Nat) : ∀ (l : List PolD) (i : Nat), kidsW m d l = (match kidsW m d (l.take i) with
    | .bad e => .bad e
    | .ok m1 => kidsW m1 d (l.drop i))
  | [], i => by simp [kidsW]
  | r :: l, 0 => by simp [kidsW]
  | r :: l, i + 1 => by
    simp only [List.take_succ_cons, List.drop_succ_cons, kidsW]
    cases polW m d r with
    | bad e => rfl
    | ok m1 => simp only; exact kidsW_split m1 d l i
theorem kidsW_next {m m1 : MetD} {d : Nat} {l : List PolD} {i : Nat} (hi : i < l.length) (h : kidsW m d (l.take i) = .ok m1) : kidsW m d (l.take (i + 1)) = polW m1 d l[i] := by
  rw [kidsW_split m d _ i, List.take_take, Nat.min_eq_left (by omega), h, List.take_succ_eq_append_getElem hi, List.drop_append_of_le_length (by simp; omega), List.drop_of_length_le (by simp; omega)]
  simp only [List.nil_append, kidsW]
  cases polW m1 d l[i] <;> rfl
theorem kidsW_stop {m m1 : MetD} {d : Nat} {l : List PolD} {i : Nat} {e : Int} (hi : i < l.length) (h : kidsW m d (l.take i) = .ok m1) (hr : polW m1 d l[i] = .bad e) : kidsW m d l = .bad e := by
  rw [kidsW_split m d l (i + 1), kidsW_next hi h, hr]
end Go.Bf

set_option linter.unusedVariables false
namespace Go.Bf
open Go Go.Ab
structure TokD where
  kind : Int
  pos : Int
  n : Int
  s : Txt
def tokA (t : TokD) : AV := .agg [.v (.int .i64 t.kind), .v (.int .i64 t.pos), .v (.int .i64 t.n), .s t.s]
def wrd (c : UInt8) : Bool := ltr c || dgt c || (c.toNat : Int) == 95
def decV (l : Txt) : Nat := l.foldl (fun n c => n * 10 + (c.toNat - 48)) 0
def numD (neg : Bool) (s : Txt) : Int × Nat :=
  let d := s.takeWhile dgt
  if d = [] ∨ (1 < d.length ∧ s.head? = some 48) then (0, 0) else
  let v : Int := if neg then -(decV d : Int) else (decV d : Int)
  if -9223372036854775808 ≤ v ∧ v ≤ 9223372036854775807 then (v, d.length) else (0, 0)
def wordD (s : Txt) : Txt := if nameOK (s.takeWhile wrd) then s.takeWhile wrd else []
def hexI (c : UInt8) : Int := if dgt c then (c.toNat : Int) - 48 else if 97 ≤ (c.toNat : Int) ∧ (c.toNat : Int) ≤ 102 then (c.toNat : Int) - 87 else -1
def oddD : Txt → Option UInt8
  | b :: x :: y :: _ => if b = 92 ∧ 0 ≤ hexI x ∧ 0 ≤ hexI y ∧ oddB (UInt8.ofNat (16 * hexI x + hexI y).toNat) = true then some (UInt8.ofNat (16 * hexI x + hexI y).toNat) else none
  | _ => none
def textF : Nat → Txt → Nat → Txt → Txt × Nat
  | 0, _, _, _ => ([], 0)
  | _ + 1, [], _, _ => ([], 0)
  | f + 1, c :: r, at_, out =>
    if c = 34 then (if 64 < out.length then ([], 0) else (out, at_ + 1))
    else if oddB c = false then textF f r (at_ + 1) (out ++ [c])
    else match oddD (c :: r) with
      | some b => textF f (r.drop 2) (at_ + 3) (out ++ [b])
      | none => ([], 0)
def textD (s : Txt) : Txt × Nat := textF s.length (s.drop 1) 1 []
def markB (c : UInt8) : Bool := c ∈ ([123, 125, 40, 41, 46, 44, 59, 61, 60, 62, 33] : Txt)
def beginsD (s : Txt) : TokD × Nat :=
  let c := s.headD 0
  if ltr c then (⟨1, 0, 0, wordD s⟩, (wordD s).length)
  else if dgt c then (⟨2, 0, (numD false s).1, []⟩, (numD false s).2)
  else if c = 45 then (⟨2, 0, (numD true (s.drop 1)).1, []⟩, if (numD true (s.drop 1)).1 = 0 then 0 else (numD true (s.drop 1)).2 + 1)
  else if c = 64 then (⟨3, 0, (numD false (s.drop 1)).1, []⟩, if (numD false (s.drop 1)).2 = 0 ∨ (numD false (s.drop 1)).1 > 1099511627776 then 0 else (numD false (s.drop 1)).2 + 1)
  else if c = 35 then (⟨4, 0, 0, wordD (s.drop 1)⟩, if wordD (s.drop 1) = [] then 0 else (wordD (s.drop 1)).length + 1)
  else if c = 34 then (⟨5, 0, 0, (textD s).1⟩, (textD s).2)
  else if markB c then (⟨6, 0, 0, [c]⟩, 1)
  else (⟨0, 0, 0, []⟩, 0)
inductive Lexed where
  | bad (e : Int) (at_ : Int)
  | ok (l : List TokD)
def blankB (c : UInt8) : Bool := (c.toNat : Int) == 32 || (c.toNat : Int) == 10
def lexF : Nat → Txt → Nat → List TokD → Lexed
  | 0, _, at_, _ => .bad 5 at_
  | _ + 1, [], at_, out => .ok (out ++ [⟨7, at_, 0, []⟩])
  | f + 1, c :: r, at_, out =>
    if blankB c then lexF f r (at_ + 1) out
    else if (beginsD (c :: r)).2 = 0 then .bad 5 at_
    else lexF f ((c :: r).drop (beginsD (c :: r)).2) (at_ + (beginsD (c :: r)).2) (out ++ [{ (beginsD (c :: r)).1 with pos := at_ }])
def lexD (s : Txt) : Lexed := if s.length > 4096 then .bad 6 4096 else lexF (s.length + 1) s 0 []
theorem takeWhile_le (p : UInt8 → Bool) (s : Txt) : (s.takeWhile p).length ≤ s.length := (List.takeWhile_prefix p).length_le
theorem takeWhile_take (p : UInt8 → Bool) (s : Txt) : s.take (s.takeWhile p).length = s.takeWhile p := by
  obtain ⟨t, ht⟩ := List.takeWhile_prefix (l := s) p
  have : s.take (s.takeWhile p).length = (s.takeWhile p ++ t).take (s.takeWhile p).length := by rw [ht]
  rw [this, List.take_left]
theorem numD_le (neg : Bool) (s : Txt) : (numD neg s).2 ≤ s.length := by
  have := takeWhile_le dgt s
  unfold numD
  simp only
  split
  · exact Nat.zero_le _
  · generalize (if neg = true then -(decV (s.takeWhile dgt) : Int) else (decV (s.takeWhile dgt) : Int)) = v
    split
    · exact this
    · exact Nat.zero_le _
theorem wordD_le (s : Txt) : (wordD s).length ≤ s.length := by
  have := takeWhile_le wrd s
  unfold wordD
  split
  · exact this
  · simp
theorem oddD_len {s : Txt} {b : UInt8} (h : oddD s = some b) : 3 ≤ s.length := by
  match s, h with
  | _ :: _ :: _ :: _, _ => simp
theorem textF_le : ∀ (f : Nat) (r : Txt) (at_ : Nat) (out : Txt), (textF f r at_ out).2 ≤ at_ + r.length
  | 0, _, _, _ => by simp [textF]
  | _ + 1, [], _, _ => by simp [textF]
  | f + 1, c :: r, at_, out => by
    simp only [textF]
    split
    · split <;> simp
    · split
      · have := textF_le f r (at_ + 1) (out ++ [c]); simp only [List.length_cons]; omega
      · split
        · rename_i b hb
          have h3 := oddD_len hb
          have := textF_le f (r.drop 2) (at_ + 3) (out ++ [b])
          simp only [List.length_cons, List.length_drop] at this h3 ⊢
          omega
        · simp
theorem beginsD_le (s : Txt) (hs : s ≠ []) : (beginsD s).2 ≤ s.length := by
  have h1 : 1 ≤ s.length := List.length_pos_iff.2 hs
  have hd : (s.drop 1).length = s.length - 1 := by simp
  have k1 := wordD_le s
  have k2 := wordD_le (s.drop 1)
  have k3 := numD_le false s
  have k4 := numD_le false (s.drop 1)
  have k5 := numD_le true (s.drop 1)
  have k6 := textF_le s.length (s.drop 1) 1 []
  unfold beginsD
  simp only
  split
  · exact k1
  split
  · exact k3
  split
  · simp only; split <;> omega
  split
  · simp only; split <;> omega
  split
  · simp only; split <;> omega
  split
  · simp only [textD]; omega
  split
  · simp only; omega
  · simp
end Go.Bf

set_option linter.unusedVariables false
namespace Go.Bf
open Go Go.Ab
structure PS where
  ts : List TokD
  pos : Nat
  rules : Nat
  bad : Int
  place : Int
def hereD (st : PS) : TokD := st.ts.getD st.pos ⟨7, 0, 0, []⟩
def wrongD (st : PS) (e p : Int) : PS := if st.bad = 0 then { st with bad := e, place := p } else st
def stuckD (st : PS) : PS := wrongD st 5 (hereD st).pos
def limitD (st : PS) (more : Bool) : PS := if more then wrongD st 6 (hereD st).pos else st
def isD (st : PS) (s : Txt) : Bool := st.bad == 0 && ((hereD st).s == s && ((hereD st).kind == 1 || (hereD st).kind == 6))
def nextD (st : PS) : PS := { st with pos := st.pos + 1 }
def takeD (st : PS) (s : Txt) : Bool × PS := if isD st s = true then (true, nextD st) else (false, st)
def mustD (st : PS) (s : Txt) : PS := if isD st s = true then nextD st else stuckD st
def nameP (st : PS) : Txt × PS :=
  if (hereD st).kind = 1 ∧ st.bad = 0 then ((hereD st).s, nextD st) else ([], if (hereD st).kind = 1 then st else stuckD st)
def idxT (s : Txt) : List Txt → Option Nat
  | [] => none
  | w :: r => if w = s then some 0 else (idxT s r).map (· + 1)
def amongD (st : PS) (ws : List Txt) : Int × PS := match idxT (hereD st).s ws with
  | some i => if (hereD st).kind = 1 ∧ st.bad = 0 then ((i : Int) + 1, nextD st) else (0, stuckD st)
  | none => (0, stuckD st)
def WfP (st : PS) : Prop := st.pos < st.ts.length ∧ (∀ i (h : i < st.ts.length), st.ts[i].kind ≠ 7 → i + 1 < st.ts.length) ∧ st.ts.length ≤ 5000
theorem hereD_eq {st : PS} (h : st.pos < st.ts.length) : hereD st = st.ts[st.pos] := by
  unfold hereD; rw [List.getD_eq_getElem?_getD, List.getElem?_eq_getElem h]; rfl
theorem wfP_wrong {st : PS} (e p : Int) (h : WfP st) : WfP (wrongD st e p) := by
  unfold wrongD; split <;> exact h
theorem wfP_next {st : PS} (h : WfP st) (hk : (hereD st).kind ≠ 7) : WfP (nextD st) := by
  rw [hereD_eq h.1] at hk
  exact ⟨h.2.1 _ h.1 hk, h.2⟩
theorem isD_kind {st : PS} {s : Txt} (h : isD st s = true) : (hereD st).kind ≠ 7 := by
  simp only [isD, Bool.and_eq_true, Bool.or_eq_true, beq_iff_eq] at h
  obtain ⟨_, _, h | h⟩ := h <;> rw [h] <;> decide
end Go.Bf

set_option linter.unusedVariables false
namespace Go.Bf
open Go Go.Ab
def Ah (st st' : PS) : Prop := WfP st' ∧ st'.ts = st.ts ∧ st.pos ≤ st'.pos
theorem Ah.refl {st : PS} (h : WfP st) : Ah st st := ⟨h, rfl, Nat.le_refl _⟩
theorem Ah.trans {a b c : PS} (x : Ah a b) (y : Ah b c) : Ah a c := ⟨y.1, y.2.1.trans x.2.1, Nat.le_trans x.2.2 y.2.2⟩
theorem ah_wrong {st : PS} (e p : Int) (h : WfP st) : Ah st (wrongD st e p) := ⟨wfP_wrong e p h, by unfold wrongD; split <;> rfl, by unfold wrongD; split <;> exact Nat.le_refl _⟩
theorem ah_next {st : PS} (h : WfP st) (hk : (hereD st).kind ≠ 7) : Ah st (nextD st) := ⟨wfP_next h hk, rfl, Nat.le_succ _⟩
theorem ah_stuck {st : PS} (h : WfP st) : Ah st (stuckD st) := ah_wrong _ _ h
theorem ah_limit {st : PS} (b : Bool) (h : WfP st) : Ah st (limitD st b) := by
  unfold limitD; split
  · exact ah_wrong _ _ h
  · exact .refl h
theorem ah_take {st : PS} (s : Txt) (h : WfP st) : Ah st (takeD st s).2 := by
  unfold takeD; split
  · rename_i hi; exact ah_next h (isD_kind hi)
  · exact .refl h
theorem ah_must {st : PS} (s : Txt) (h : WfP st) : Ah st (mustD st s) := by
  unfold mustD; split
  · rename_i hi; exact ah_next h (isD_kind hi)
  · exact ah_stuck h
theorem ah_name {st : PS} (h : WfP st) : Ah st (nameP st).2 := by
  unfold nameP; split
  · rename_i hi; exact ah_next h (by rw [hi.1]; decide)
  · simp only; split
    · exact .refl h
    · exact ah_stuck h
theorem ah_among {st : PS} (ws : List Txt) (h : WfP st) : Ah st (amongD st ws).2 := by
  unfold amongD; split
  · split
    · rename_i hi; exact ah_next h (by rw [hi.1]; decide)
    · exact ah_stuck h
  · exact ah_stuck h
def catWs : List Txt := [[115, 117, 98, 106, 101, 99, 116], [97, 99, 116, 105, 111, 110], [99, 97, 115, 101], [101, 110, 118]]
def attrP (st : PS) : AttrD × PS :=
  (⟨(amongD st catWs).1, (nameP (mustD (amongD st catWs).2 [46])).1, (takeD (nameP (mustD (amongD st catWs).2 [46])).2 [33]).1⟩, (takeD (nameP (mustD (amongD st catWs).2 [46])).2 [33]).2)
theorem ah_attr {st : PS} (h : WfP st) : Ah st (attrP st).2 := by
  have h1 := ah_among catWs h
  have h2 := ah_must [46] h1.1
  have h3 := ah_name h2.1
  exact ((h1.trans h2).trans h3).trans (ah_take [33] h3.1)
def trueT : Txt := [116, 114, 117, 101]
def falseT : Txt := [102, 97, 108, 115, 101]
def valueV (st : PS) : ValD × PS :=
  if (hereD st).kind = 2 then (⟨2, (hereD st).n, (hereD st).s⟩, st)
  else if (hereD st).kind = 3 then (⟨4, (hereD st).n, (hereD st).s⟩, st)
  else if (hereD st).kind = 4 then (⟨5, (hereD st).n, (hereD st).s⟩, st)
  else if (hereD st).kind = 5 then (⟨3, (hereD st).n, (hereD st).s⟩, st)
  else if isD st trueT then (⟨1, 1, []⟩, st)
  else if isD st falseT then (⟨1, 0, []⟩, st)
  else (⟨0, (hereD st).n, (hereD st).s⟩, stuckD st)
def valueP (st : PS) : ValD × PS := if (valueV st).2.bad = 0 then ((valueV st).1, nextD (valueV st).2) else (⟨0, 0, []⟩, (valueV st).2)
theorem stuck_bad (st : PS) : (stuckD st).bad ≠ 0 := by
  unfold stuckD wrongD; split
  · show (5 : Int) ≠ 0; decide
  · assumption
theorem valueV_cases (st : PS) : (valueV st).2 = st ∧ (hereD st).kind ≠ 7 ∨ (valueV st).2 = stuckD st := by
  unfold valueV
  split
  · rename_i h; exact .inl ⟨rfl, by rw [h]; decide⟩
  split
  · rename_i h; exact .inl ⟨rfl, by rw [h]; decide⟩
  split
  · rename_i h; exact .inl ⟨rfl, by rw [h]; decide⟩
  split
  · rename_i h; exact .inl ⟨rfl, by rw [h]; decide⟩
  split
  · rename_i h; exact .inl ⟨rfl, isD_kind h⟩
  split
  · rename_i h; exact .inl ⟨rfl, isD_kind h⟩
  · exact .inr rfl
theorem ah_value {st : PS} (h : WfP st) : Ah st (valueP st).2 := by
  unfold valueP
  rcases valueV_cases st with ⟨e, hk⟩ | e
  · rw [e]; split
    · exact ah_next h hk
    · exact .refl h
  · rw [e, if_neg (stuck_bad st)]; exact ah_stuck h
def opP (st : PS) : Int × PS :=
  if isD st [61] then (1, nextD st) else if isD st [60] then (2, nextD st) else if isD st [62] then (3, nextD st) else (0, stuckD st)
theorem ah_op {st : PS} (h : WfP st) : Ah st (opP st).2 := by
  unfold opP
  split
  · rename_i hi; exact ah_next h (isD_kind hi)
  split
  · rename_i hi; exact ah_next h (isD_kind hi)
  split
  · rename_i hi; exact ah_next h (isD_kind hi)
  · exact ah_stuck h
def matchP (st : PS) : MatchD × PS := (⟨(attrP st).1, (opP (attrP st).2).1, (valueP (opP (attrP st).2).2).1⟩, (valueP (opP (attrP st).2).2).2)
theorem ah_match {st : PS} (h : WfP st) : Ah st (matchP st).2 := by
  have h1 := ah_attr h
  have h2 := ah_op h1.1
  exact (h1.trans h2).trans (ah_value h2.1)
def manyF {α : Type} (one : PS → α × PS) (w : Txt) (most : Nat) : Nat → PS → List α → List α × PS
  | 0, st, l => (l, st)
  | f + 1, st, l => if isD st w = true then manyF one w most f (limitD (one (nextD st)).2 (decide (most < l.length + 1))) (l ++ [(one (nextD st)).1]) else (l, st)
theorem ah_many {α : Type} {one : PS → α × PS} (ho : ∀ st, WfP st → Ah st (one st).2) (w : Txt) (most : Nat) : ∀ (f : Nat) (st : PS) (l : List α), WfP st → Ah st (manyF one w most f st l).2
  | 0, st, l, h => .refl h
  | f + 1, st, l, h => by
    unfold manyF; split
    · rename_i hi
      have h1 := ah_next h (isD_kind hi)
      have h2 := ho _ h1.1
      have h3 := ah_limit (decide (most < l.length + 1)) h2.1
      exact ((h1.trans h2).trans h3).trans (ah_many ho w most f _ _ h3.1)
    · exact .refl h
def orT : Txt := [111, 114]
def andT : Txt := [97, 110, 100]
def whenT : Txt := [119, 104, 101, 110]
def allP (st : PS) : List MatchD × PS := manyF matchP [44] 8 st.ts.length (matchP st).2 [(matchP st).1]
theorem ah_all {st : PS} (h : WfP st) : Ah st (allP st).2 := (ah_match h).trans (ah_many (fun _ h => ah_match h) _ _ _ _ _ (ah_match h).1)
def anyP (st : PS) : List (List MatchD) × PS :=
  let a := allP (mustD st [40])
  let m := manyF allP orT 8 st.ts.length a.2 [a.1]
  (m.1, mustD m.2 [41])
theorem ah_any {st : PS} (h : WfP st) : Ah st (anyP st).2 := by
  have h0 := ah_must [40] h
  have h1 := ah_all h0.1
  have h2 := ah_many (fun _ h => ah_all h) orT 8 st.ts.length _ [(allP (mustD st [40])).1] h1.1
  exact ((h0.trans h1).trans h2).trans (ah_must [41] h2.1)
def tgtP (st : PS) : TgtD × PS := if isD st whenT = true then manyF anyP andT 8 st.ts.length (anyP (nextD st)).2 [(anyP (nextD st)).1] else ([], st)
theorem ah_tgt {st : PS} (h : WfP st) : Ah st (tgtP st).2 := by
  unfold tgtP; split
  · rename_i hi
    have h0 := ah_next h (isD_kind hi)
    have h1 := ah_any h0.1
    exact (h0.trans h1).trans (ah_many (fun _ h => ah_any h) _ _ _ _ _ h1.1)
  · exact .refl h
end Go.Bf

set_option linter.unusedVariables false
namespace Go.Bf
open Go Go.Ab
def fnWs : List Txt := [[111, 110, 101], [115, 105, 122, 101], [104, 97, 115], [101, 113], [108, 101, 115, 115], [97, 100, 100], [115, 117, 98], [109, 117, 108], [110, 111, 116], [97, 110, 100], [111, 114]]
def opers (op : Int) : List Bool := if op = 3 ∨ op = 4 then [true] else if op = 5 then [true, false] else if op = 11 then [false] else [false, false]
abbrev ExF := PS → List NodeD → (List NodeD × Bool) × PS
def operG (ex : ExF) (st : PS) (l : List NodeD) (must : Bool) : List NodeD × PS :=
  ((ex st l).1.1, if (ex st l).1.2 = must then (ex st l).2 else wrongD (ex st l).2 5 (hereD st).pos)
def opersG (ex : ExF) : List Bool → PS → List NodeD → List NodeD × PS
  | [], st, l => (l, st)
  | b :: bs, st, l => if st.bad = 0 then opersG ex bs (operG ex st l b).2 (operG ex st l b).1 else (l, st)
def funcG (ex : ExF) (st : PS) (l : List NodeD) : (List NodeD × NodeD) × PS :=
  (((opersG ex (opers (2 + (amongD st fnWs).1)) (amongD st fnWs).2 l).1, ⟨2 + (amongD st fnWs).1, ⟨0, 0, []⟩, ⟨0, [], false⟩⟩), mustD (opersG ex (opers (2 + (amongD st fnWs).1)) (amongD st fnWs).2 l).2 [41])
def headG (ex : ExF) (st : PS) (l : List NodeD) : (List NodeD × NodeD) × PS :=
  if isD st [40] = true then funcG ex (nextD st) l
  else if (hereD st).kind = 1 ∧ (hereD st).s ≠ trueT ∧ (hereD st).s ≠ falseT then ((l, ⟨2, ⟨0, 0, []⟩, (attrP st).1⟩), (attrP st).2)
  else ((l, ⟨1, (valueP st).1, ⟨0, [], false⟩⟩), (valueP st).2)
def exprF : Nat → ExF
  | 0, st, l => ((l, false), st)
  | f + 1, st, l => (((headG (exprF f) st l).1.1 ++ [(headG (exprF f) st l).1.2], (headG (exprF f) st l).1.2.op == 2), limitD (headG (exprF f) st l).2 (decide (32 < (headG (exprF f) st l).1.1.length + 1)))
def ExOK (ex : ExF) : Prop := ∀ st l, WfP st → Ah st (ex st l).2 ∧ (ex st l).1.1.length + 2 * st.pos ≤ l.length + 2 * (ex st l).2.pos + 1
theorem operG_ok {ex : ExF} (he : ExOK ex) (st : PS) (l : List NodeD) (b : Bool) (h : WfP st) : Ah st (operG ex st l b).2 ∧ (operG ex st l b).1.length + 2 * st.pos ≤ l.length + 2 * (operG ex st l b).2.pos + 1 := by
  obtain ⟨h1, h2⟩ := he st l h
  unfold operG
  simp only
  split
  · exact ⟨h1, h2⟩
  · refine ⟨h1.trans (ah_wrong _ _ h1.1), ?_⟩
    have : (wrongD (ex st l).2 5 (hereD st).pos).pos = (ex st l).2.pos := by unfold wrongD; split <;> rfl
    rw [this]; exact h2
theorem opersG_ok {ex : ExF} (he : ExOK ex) : ∀ (bs : List Bool) (st : PS) (l : List NodeD), WfP st → Ah st (opersG ex bs st l).2 ∧ (opersG ex bs st l).1.length + 2 * st.pos ≤ l.length + 2 * (opersG ex bs st l).2.pos + bs.length
  | [], st, l, h => ⟨.refl h, by simp [opersG]⟩
  | b :: bs, st, l, h => by
    unfold opersG; split
    · obtain ⟨h1, h2⟩ := operG_ok he st l b h
      obtain ⟨h3, h4⟩ := opersG_ok he bs (operG ex st l b).2 (operG ex st l b).1 h1.1
      exact ⟨h1.trans h3, by simp only [List.length_cons]; omega⟩
    · exact ⟨.refl h, by simp only [List.length_cons]; omega⟩
theorem opers_le (op : Int) : (opers op).length ≤ 2 := by
  unfold opers; repeat' split
  all_goals simp
theorem funcG_ok {ex : ExF} (he : ExOK ex) (st : PS) (l : List NodeD) (h : WfP st) : Ah st (funcG ex st l).2 ∧ (funcG ex st l).1.1.length + 2 * st.pos ≤ l.length + 2 * (funcG ex st l).2.pos + 2 := by
  have h1 := ah_among fnWs h
  obtain ⟨h2, h3⟩ := opersG_ok he (opers (2 + (amongD st fnWs).1)) _ l h1.1
  have h4 := ah_must [41] h2.1
  have := opers_le (2 + (amongD st fnWs).1)
  have p1 := h1.2.2
  have p4 := h4.2.2
  unfold funcG
  exact ⟨(h1.trans h2).trans h4, by simp only; omega⟩
theorem headG_ok {ex : ExF} (he : ExOK ex) (st : PS) (l : List NodeD) (h : WfP st) : Ah st (headG ex st l).2 ∧ (headG ex st l).1.1.length + 2 * st.pos ≤ l.length + 2 * (headG ex st l).2.pos := by
  unfold headG; split
  · rename_i hi
    have h1 := ah_next h (isD_kind hi)
    obtain ⟨h2, h3⟩ := funcG_ok he _ l h1.1
    have : (nextD st).pos = st.pos + 1 := rfl
    exact ⟨h1.trans h2, by omega⟩
  · split
    · have h1 := ah_attr h
      have := h1.2.2
      exact ⟨h1, by simp only; omega⟩
    · have h1 := ah_value h
      have := h1.2.2
      exact ⟨h1, by simp only; omega⟩
theorem exprF_ok : ∀ f, ExOK (exprF f)
  | 0 => fun st l h => ⟨.refl h, by simp [exprF]⟩
  | f + 1 => fun st l h => by
    obtain ⟨h1, h2⟩ := headG_ok (exprF_ok f) st l h
    have h3 := ah_limit (decide (32 < (headG (exprF f) st l).1.1.length + 1)) h1.1
    have := h3.2.2
    refine ⟨h1.trans h3, ?_⟩
    simp only [exprF, List.length_append, List.length_singleton]
    omega
def onWs : List Txt := [[112, 101, 114, 109, 105, 116], [100, 101, 110, 121]]
def dutyWs : List Txt := [[108, 111, 103], [114, 101, 100, 97, 99, 116], [114, 101, 118, 105, 101, 119], [110, 111, 116, 105, 102, 121]]
def onceT : Txt := [111, 110]
def oblP (st : PS) : OblD × PS :=
  (⟨(amongD st onWs).1, (amongD (amongD st onWs).2 dutyWs).1, (nameP (amongD (amongD st onWs).2 dutyWs).2).1⟩, (nameP (amongD (amongD st onWs).2 dutyWs).2).2)
theorem ah_obl {st : PS} (h : WfP st) : Ah st (oblP st).2 := by
  have h1 := ah_among onWs h
  have h2 := ah_among dutyWs h1.1
  exact (h1.trans h2).trans (ah_name h2.1)
def oblsP (st : PS) : List OblD × PS := manyF oblP onceT 8 st.ts.length st []
theorem ah_obls {st : PS} (h : WfP st) : Ah st (oblsP st).2 := ah_many (fun _ h => ah_obl h) _ _ _ _ _ h
end Go.Bf

set_option linter.unusedVariables false
namespace Go.Bf
open Go Go.Ab
inductive Rch (a : PS) : PS → Prop where
  | refl : Rch a a
  | wrong {b : PS} (e p : Int) : Rch a b → (e = 5 ∨ e = 6) → (∃ i, i ≤ b.pos ∧ p = (b.ts.getD i ⟨7, 0, 0, []⟩).pos) → Rch a (wrongD b e p)
  | next {b : PS} : Rch a b → b.bad = 0 → (hereD b).kind ≠ 7 → Rch a (nextD b)
theorem Rch.trans {a b c : PS} (x : Rch a b) (y : Rch b c) : Rch a c := by
  induction y with
  | refl => exact x
  | wrong e p _ h1 h2 ih => exact .wrong e p ih h1 h2
  | next _ h1 h2 ih => exact .next ih h1 h2
theorem rch_stuck (st : PS) : Rch st (stuckD st) := .wrong _ _ .refl (.inl rfl) ⟨st.pos, Nat.le_refl _, rfl⟩
theorem rch_limit (st : PS) (b : Bool) : Rch st (limitD st b) := by
  unfold limitD; split
  · exact .wrong _ _ .refl (.inr rfl) ⟨st.pos, Nat.le_refl _, rfl⟩
  · exact .refl
theorem isD_bad {st : PS} {s : Txt} (h : isD st s = true) : st.bad = 0 := by
  simp only [isD, Bool.and_eq_true, beq_iff_eq] at h; exact h.1
theorem rch_is {st : PS} {s : Txt} (h : isD st s = true) : Rch st (nextD st) := .next .refl (isD_bad h) (isD_kind h)
theorem rch_take (st : PS) (s : Txt) : Rch st (takeD st s).2 := by
  unfold takeD; split
  · rename_i h; exact rch_is h
  · exact .refl
theorem rch_must (st : PS) (s : Txt) : Rch st (mustD st s) := by
  unfold mustD; split
  · rename_i h; exact rch_is h
  · exact rch_stuck _
theorem rch_name (st : PS) : Rch st (nameP st).2 := by
  unfold nameP; split
  · rename_i h; exact .next .refl h.2 (by rw [h.1]; decide)
  · simp only; split
    · exact .refl
    · exact rch_stuck _
theorem rch_among (st : PS) (ws : List Txt) : Rch st (amongD st ws).2 := by
  unfold amongD; split
  · split
    · rename_i h; exact .next .refl h.2 (by rw [h.1]; decide)
    · exact rch_stuck _
  · exact rch_stuck _
theorem rch_attr (st : PS) : Rch st (attrP st).2 := (((rch_among st catWs).trans (rch_must _ [46])).trans (rch_name _)).trans (rch_take _ [33])
theorem rch_value (st : PS) : Rch st (valueP st).2 := by
  unfold valueP
  rcases valueV_cases st with ⟨e, hk⟩ | e
  · rw [e]; split
    · rename_i h; exact .next .refl h hk
    · exact .refl
  · rw [e, if_neg (stuck_bad st)]; exact rch_stuck st
theorem rch_op (st : PS) : Rch st (opP st).2 := by
  unfold opP
  split
  · rename_i h; exact rch_is h
  split
  · rename_i h; exact rch_is h
  split
  · rename_i h; exact rch_is h
  · exact rch_stuck _
theorem rch_match (st : PS) : Rch st (matchP st).2 := ((rch_attr st).trans (rch_op _)).trans (rch_value _)
theorem rch_many {α : Type} {one : PS → α × PS} (ho : ∀ st, Rch st (one st).2) (w : Txt) (most : Nat) : ∀ (f : Nat) (st : PS) (l : List α), Rch st (manyF one w most f st l).2
  | 0, st, l => .refl
  | f + 1, st, l => by
    unfold manyF; split
    · rename_i h
      exact (((rch_is h).trans (ho _)).trans (rch_limit _ _)).trans (rch_many ho w most f _ _)
    · exact .refl
theorem rch_all (st : PS) : Rch st (allP st).2 := (rch_match st).trans (rch_many rch_match _ _ _ _ _)
theorem rch_any (st : PS) : Rch st (anyP st).2 := (((rch_must st [40]).trans (rch_all _)).trans (rch_many rch_all orT 8 st.ts.length _ [(allP (mustD st [40])).1])).trans (rch_must _ [41])
theorem rch_tgt (st : PS) : Rch st (tgtP st).2 := by
  unfold tgtP; split
  · rename_i h; exact ((rch_is h).trans (rch_any _)).trans (rch_many rch_any _ _ _ _ _)
  · exact .refl
theorem rch_obl (st : PS) : Rch st (oblP st).2 := ((rch_among st onWs).trans (rch_among _ dutyWs)).trans (rch_name _)
theorem rch_obls (st : PS) : Rch st (oblsP st).2 := rch_many rch_obl _ _ _ _ _
theorem rch_pos {a b : PS} (h : Rch a b) : b.ts = a.ts ∧ a.pos ≤ b.pos ∧ b.rules = a.rules := by
  induction h with
  | refl => exact ⟨rfl, Nat.le_refl _, rfl⟩
  | wrong e p _ _ _ ih =>
    unfold wrongD; split
    · exact ih
    · exact ih
  | next _ _ _ ih => exact ⟨ih.1, Nat.le_succ_of_le ih.2.1, ih.2.2⟩
theorem rch_oper {ex : ExF} (he : ∀ st l, Rch st (ex st l).2) (st : PS) (l : List NodeD) (b : Bool) : Rch st (operG ex st l b).2 := by
  unfold operG; simp only; split
  · exact he st l
  · have := rch_pos (he st l)
    exact .wrong _ _ (he st l) (.inl rfl) ⟨st.pos, this.2.1, by rw [this.1]; rfl⟩
theorem rch_opers {ex : ExF} (he : ∀ st l, Rch st (ex st l).2) : ∀ (bs : List Bool) (st : PS) (l : List NodeD), Rch st (opersG ex bs st l).2
  | [], st, l => .refl
  | b :: bs, st, l => by
    unfold opersG; split
    · exact (rch_oper he st l b).trans (rch_opers he bs _ _)
    · exact .refl
theorem rch_expr : ∀ (f : Nat) (st : PS) (l : List NodeD), Rch st (exprF f st l).2
  | 0, st, l => .refl
  | f + 1, st, l => by
    refine Rch.trans ?_ (rch_limit _ _)
    unfold headG; split
    · rename_i h
      exact (rch_is h).trans (((rch_among _ fnWs).trans (rch_opers (rch_expr f) _ _ _)).trans (rch_must _ [41]))
    · split
      · exact rch_attr st
      · exact rch_value st
def ifT : Txt := [105, 102]
def permitT : Txt := [112, 101, 114, 109, 105, 116]
def denyT : Txt := [100, 101, 110, 121]
def policyT : Txt := [112, 111, 108, 105, 99, 121]
def setT : Txt := [115, 101, 116]
def kindWs : List Txt := [policyT, setT]
def algWs : List Txt := [[100, 101, 110, 121, 111, 118, 101, 114], [112, 101, 114, 109, 105, 116, 111, 118, 101, 114], [102, 105, 114, 115, 116], [111, 110, 108, 121], [100, 101, 110, 121, 117, 110, 108, 101, 115, 115], [112, 101, 114, 109, 105, 116, 117, 110, 108, 101, 115, 115]]
def condP (st : PS) : List NodeD × PS := if isD st ifT = true then operG (exprF st.ts.length) (nextD st) [] false else ([], st)
theorem rch_cond (st : PS) : Rch st (condP st).2 := by
  unfold condP; split
  · rename_i h; exact (rch_is h).trans (rch_oper (rch_expr _) _ _ _)
  · exact .refl
theorem ah_cond {st : PS} (h : WfP st) : Ah st (condP st).2 := by
  unfold condP; split
  · rename_i hi
    have h1 := ah_next h (isD_kind hi)
    exact h1.trans (operG_ok (exprF_ok _) _ _ _ h1.1).1
  · exact .refl h
def ruleP (deny : Bool) (st : PS) : RuleD × PS :=
  (⟨(nameP st).1, deny, (tgtP (nameP st).2).1, (condP (tgtP (nameP st).2).2).1, (oblsP (condP (tgtP (nameP st).2).2).2).1⟩, mustD (oblsP (condP (tgtP (nameP st).2).2).2).2 [59])
theorem rch_rule (deny : Bool) (st : PS) : Rch st (ruleP deny st).2 := ((((rch_name st).trans (rch_tgt _)).trans (rch_cond _)).trans (rch_obls _)).trans (rch_must _ [59])
theorem ah_rule (deny : Bool) {st : PS} (h : WfP st) : Ah st (ruleP deny st).2 := by
  have h1 := ah_name h
  have h2 := ah_tgt h1.1
  have h3 := ah_cond h2.1
  have h4 := ah_obls h3.1
  exact (((h1.trans h2).trans h3).trans h4).trans (ah_must [59] h4.1)
inductive RchR (a : PS) : PS → Prop where
  | refl : RchR a a
  | small {b c : PS} : RchR a b → Rch b c → RchR a c
  | rule {b : PS} : RchR a b → b.bad = 0 → b.rules ≠ 64 → (hereD b).kind ≠ 7 → RchR a { nextD b with rules := b.rules + 1 }
theorem RchR.trans {a b c : PS} (x : RchR a b) (y : RchR b c) : RchR a c := by
  induction y with
  | refl => exact x
  | small _ h1 ih => exact .small ih h1
  | rule _ h1 h2 h3 ih => exact .rule ih h1 h2 h3
theorem Rch.big {a b : PS} (h : Rch a b) : RchR a b := .small .refl h
def someF : Nat → PS → List RuleD → List RuleD × PS
  | 0, st, l => (l, st)
  | f + 1, st, l => if isD st permitT = true ∨ isD st denyT = true then
      if l.length = 16 ∨ st.rules = 64 then (l, limitD st true)
      else someF f (ruleP (isD st denyT) { nextD st with rules := st.rules + 1 }).2 (l ++ [(ruleP (isD st denyT) { nextD st with rules := st.rules + 1 }).1])
    else (l, st)
abbrev PoF := PS → PolD × PS
def kidsF (pol : PoF) (deep : Bool) : Nat → PS → List PolD → List PolD × PS
  | 0, st, l => (l, st)
  | f + 1, st, l => if isD st policyT = true ∨ isD st setT = true then
      if l.length = 16 ∨ deep = true then (l, limitD st true)
      else kidsF pol deep f (pol st).2 (l ++ [(pol st).1])
    else (l, st)
def headP (st : PS) : (Bool × Txt × Int × TgtD) × PS :=
  (((amongD st kindWs).1 == 2, (nameP (amongD st kindWs).2).1, (amongD (nameP (amongD st kindWs).2).2 algWs).1, (tgtP (amongD (nameP (amongD st kindWs).2).2 algWs).2).1), mustD (tgtP (amongD (nameP (amongD st kindWs).2).2 algWs).2).2 [123])
theorem rch_head (st : PS) : Rch st (headP st).2 := ((((rch_among st kindWs).trans (rch_name _)).trans (rch_among _ algWs)).trans (rch_tgt _)).trans (rch_must _ [123])
theorem ah_head {st : PS} (h : WfP st) : Ah st (headP st).2 := by
  have h1 := ah_among kindWs h
  have h2 := ah_name h1.1
  have h3 := ah_among algWs h2.1
  have h4 := ah_tgt h3.1
  exact (((h1.trans h2).trans h3).trans h4).trans (ah_must [123] h4.1)
def bodyP (pol : PoF) (deep : Bool) (set : Bool) (st : PS) : (List RuleD × List PolD) × PS :=
  if set = true then (([], (kidsF pol deep 17 st []).1), (kidsF pol deep 17 st []).2) else (((someF 17 st []).1, []), (someF 17 st []).2)
def polF : Nat → PoF
  | 0, st => (.mk [] false 0 [] [] [] [], st)
  | r + 1, st => (.mk (headP st).1.2.1 (headP st).1.1 (headP st).1.2.2.1 (headP st).1.2.2.2 (bodyP (polF r) (r == 0) (headP st).1.1 (headP st).2).1.1 (bodyP (polF r) (r == 0) (headP st).1.1 (headP st).2).1.2
      (oblsP (mustD (bodyP (polF r) (r == 0) (headP st).1.1 (headP st).2).2 [125])).1, (oblsP (mustD (bodyP (polF r) (r == 0) (headP st).1.1 (headP st).2).2 [125])).2)
theorem isD_or {st : PS} {a b : Txt} (h : isD st a = true ∨ isD st b = true) : st.bad = 0 ∧ (hereD st).kind ≠ 7 := by
  rcases h with h | h
  · exact ⟨isD_bad h, isD_kind h⟩
  · exact ⟨isD_bad h, isD_kind h⟩
theorem ah_rules {st : PS} (h : WfP st) (hk : (hereD st).kind ≠ 7) : Ah st { nextD st with rules := st.rules + 1 } := ah_next h hk
theorem ah_some : ∀ (f : Nat) (st : PS) (l : List RuleD), WfP st → Ah st (someF f st l).2
  | 0, st, l, h => .refl h
  | f + 1, st, l, h => by
    unfold someF; split
    · rename_i hi
      split
      · exact ah_limit true h
      · have h1 := ah_rules h (isD_or hi).2
        have h2 := ah_rule (isD st denyT) h1.1
        exact (h1.trans h2).trans (ah_some f _ _ h2.1)
    · exact .refl h
theorem rch_some : ∀ (f : Nat) (st : PS) (l : List RuleD), RchR st (someF f st l).2
  | 0, st, l => .refl
  | f + 1, st, l => by
    unfold someF; split
    · rename_i hi
      split
      · exact (rch_limit st true).big
      · rename_i hn
        have h1 : RchR st { nextD st with rules := st.rules + 1 } := .rule .refl (isD_or hi).1 (fun e => hn (.inr e)) (isD_or hi).2
        exact (h1.trans (rch_rule (isD st denyT) _).big).trans (rch_some f _ _)
    · exact .refl
theorem ah_kids {pol : PoF} (hp : ∀ st, WfP st → Ah st (pol st).2) (deep : Bool) : ∀ (f : Nat) (st : PS) (l : List PolD), WfP st → Ah st (kidsF pol deep f st l).2
  | 0, st, l, h => .refl h
  | f + 1, st, l, h => by
    unfold kidsF; split
    · split
      · exact ah_limit true h
      · have h1 := hp st h
        exact h1.trans (ah_kids hp deep f _ _ h1.1)
    · exact .refl h
theorem rch_kids {pol : PoF} (hp : ∀ st, RchR st (pol st).2) (deep : Bool) : ∀ (f : Nat) (st : PS) (l : List PolD), RchR st (kidsF pol deep f st l).2
  | 0, st, l => .refl
  | f + 1, st, l => by
    unfold kidsF; split
    · split
      · exact (rch_limit st true).big
      · exact (hp st).trans (rch_kids hp deep f _ _)
    · exact .refl
theorem ah_body {pol : PoF} (hp : ∀ st, WfP st → Ah st (pol st).2) (deep set : Bool) {st : PS} (h : WfP st) : Ah st (bodyP pol deep set st).2 := by
  unfold bodyP; split
  · exact ah_kids hp deep _ _ _ h
  · exact ah_some _ _ _ h
theorem rch_body {pol : PoF} (hp : ∀ st, RchR st (pol st).2) (deep set : Bool) (st : PS) : RchR st (bodyP pol deep set st).2 := by
  unfold bodyP; split
  · exact rch_kids hp deep _ _ _
  · exact rch_some _ _ _
theorem ah_pol : ∀ (r : Nat) (st : PS), WfP st → Ah st (polF r st).2
  | 0, st, h => .refl h
  | r + 1, st, h => by
    have h1 := ah_head h
    have h2 := ah_body (ah_pol r) (r == 0) (headP st).1.1 h1.1
    have h3 := ah_must [125] h2.1
    exact ((h1.trans h2).trans h3).trans (ah_obls h3.1)
theorem rch_pol : ∀ (r : Nat) (st : PS), RchR st (polF r st).2
  | 0, st => .refl
  | r + 1, st => (((rch_head st).big.trans (rch_body (rch_pol r) _ _ _)).trans (rch_must _ [125]).big).trans (rch_obls _).big
theorem rules_pol {a b : PS} (h : RchR a b) (h0 : a.rules ≤ 64) : b.rules ≤ 64 := by
  induction h with
  | refl => exact h0
  | small _ h1 ih => rw [(rch_pos h1).2.2]; exact ih
  | rule _ _ h2 _ ih => show _ + 1 ≤ 64; omega
end Go.Bf

set_option linter.unusedVariables false
namespace Go.Bf
open Go Go.Ab
theorem lexF_form : ∀ (f : Nat) (s : Txt) (a : Nat) (out l : List TokD), lexF f s a out = .ok l → ∃ pre, l = out ++ pre ++ [⟨7, (a + s.length : Nat), 0, []⟩] ∧ pre.length ≤ s.length ∧ ∀ t ∈ pre, (a : Int) ≤ t.pos ∧ t.pos < ((a + s.length : Nat) : Int)
  | 0, _, _, _, _, h => by simp [lexF] at h
  | f + 1, [], a, out, l, h => by
    simp only [lexF, Lexed.ok.injEq] at h
    exact ⟨[], by simp [← h], by simp, by simp⟩
  | f + 1, c :: r, a, out, l, h => by
    simp only [lexF] at h
    split at h
    · obtain ⟨pre, e1, e2, e3⟩ := lexF_form f r (a + 1) out l h
      have ee : ((a + 1 + r.length : Nat) : Int) = ((a + (c :: r).length : Nat) : Int) := by simp only [List.length_cons]; omega
      refine ⟨pre, by rw [e1, ee], by simp only [List.length_cons]; omega, fun t ht => ?_⟩
      have := e3 t ht
      rw [ee] at this
      exact ⟨by omega, this.2⟩
    · split at h
      · cases h
      · rename_i hn
        have hle := beginsD_le (c :: r) (by simp)
        obtain ⟨pre, e1, e2, e3⟩ := lexF_form f _ _ _ l h
        have ee : ((a + (beginsD (c :: r)).2 + ((c :: r).drop (beginsD (c :: r)).2).length : Nat) : Int) = ((a + (c :: r).length : Nat) : Int) := by rw [List.length_drop]; omega
        refine ⟨{ (beginsD (c :: r)).1 with pos := a } :: pre, by rw [e1, ee]; simp, by rw [List.length_drop] at e2; simp only [List.length_cons] at e2 hle ⊢; omega, fun t ht => ?_⟩
        rcases List.mem_cons.1 ht with rfl | ht
        · refine ⟨Int.le_refl _, ?_⟩
          show (a : Int) < _
          simp only [List.length_cons]; omega
        · have := e3 t ht
          rw [ee] at this
          exact ⟨by omega, this.2⟩
theorem lexD_form {s : Txt} {ts : List TokD} (h : lexD s = .ok ts) : ∃ pre, ts = pre ++ [⟨7, s.length, 0, []⟩] ∧ pre.length ≤ s.length ∧ (∀ t ∈ pre, 0 ≤ t.pos ∧ t.pos < (s.length : Int)) ∧ s.length ≤ 4096 := by
  unfold lexD at h
  split at h
  · cases h
  · rename_i hl
    obtain ⟨pre, e1, e2, e3⟩ := lexF_form _ _ _ _ _ h
    exact ⟨pre, by simpa using e1, e2, by simpa using e3, by omega⟩
theorem wfP_start {s : Txt} {ts : List TokD} (h : lexD s = .ok ts) (x : Nat) (e p : Int) : WfP ⟨ts, 0, x, e, p⟩ := by
  obtain ⟨pre, rfl, h2, _, h3⟩ := lexD_form h
  refine ⟨by simp, fun i hi hk => ?_, by simp; omega⟩
  by_cases hl : i < pre.length
  · simp; omega
  · exfalso
    simp only [List.length_append, List.length_singleton] at hi
    have : i = pre.length := by omega
    subst this
    apply hk
    simp
theorem lexF_bad : ∀ (f : Nat) (s : Txt) (a : Nat) (out : List TokD) (e p : Int), lexF f s a out = .bad e p → e = 5 ∧ 0 ≤ p ∧ (s.length < f → p ≤ ((a + s.length : Nat) : Int))
  | 0, s, a, out, e, p, h => by
    simp only [lexF, Lexed.bad.injEq] at h
    obtain ⟨rfl, rfl⟩ := h
    exact ⟨rfl, by omega, by omega⟩
  | f + 1, [], a, out, e, p, h => by simp [lexF] at h
  | f + 1, c :: r, a, out, e, p, h => by
    simp only [lexF] at h
    split at h
    · obtain ⟨h1, h2, h3⟩ := lexF_bad f r (a + 1) out e p h
      refine ⟨h1, h2, fun hl => ?_⟩
      simp only [List.length_cons] at hl ⊢
      have := h3 (by omega)
      omega
    · split at h
      · simp only [Lexed.bad.injEq] at h
        obtain ⟨rfl, rfl⟩ := h
        exact ⟨rfl, by omega, fun _ => by omega⟩
      · obtain ⟨h1, h2, h3⟩ := lexF_bad f _ _ _ e p h
        refine ⟨h1, h2, fun hl => ?_⟩
        have hle := beginsD_le (c :: r) (by simp)
        rw [List.length_drop] at h3
        have := h3 (by omega)
        omega
theorem lexD_bad {s : Txt} {e a : Int} (h : lexD s = .bad e a) : (e = 5 ∨ e = 6) ∧ 0 ≤ a ∧ a ≤ s.length := by
  unfold lexD at h
  split at h
  · simp only [Lexed.bad.injEq] at h
    obtain ⟨rfl, rfl⟩ := h
    exact ⟨.inr rfl, by omega, by omega⟩
  · obtain ⟨h1, h2, h3⟩ := lexF_bad _ _ _ _ _ _ h
    have := h3 (by omega)
    exact ⟨.inl h1, h2, by omega⟩
def zeroP : PolD := .mk [] false 0 [] [] [] []
def endP (s : Txt) (x : PolD × PS) : PS :=
  if (if (hereD x.2).kind = 7 then x.2 else stuckD x.2).bad = 0 ∧ rightE x.1 ≠ 0 then wrongD (if (hereD x.2).kind = 7 then x.2 else stuckD x.2) 5 s.length else (if (hereD x.2).kind = 7 then x.2 else stuckD x.2)
def parseT (s : Txt) (ts : List TokD) : PolD × Int × Int :=
  if (endP s (polF 4 ⟨ts, 0, 0, 0, 0⟩)).bad = 0 then ((polF 4 ⟨ts, 0, 0, 0, 0⟩).1, 0, 0) else (zeroP, (endP s (polF 4 ⟨ts, 0, 0, 0, 0⟩)).bad, (endP s (polF 4 ⟨ts, 0, 0, 0, 0⟩)).place)
def parseD (s : Txt) : PolD × Int × Int := match lexD s with
  | .bad e a => (zeroP, e, a)
  | .ok ts => parseT s ts
end Go.Bf

set_option linter.unusedSimpArgs false
set_option linter.unusedVariables false
namespace Go.Bf
open Go Go.Ab
theorem lens_le (xs : List Txt) (B : Nat) (h : ∀ x ∈ xs, x.length ≤ B) : Lib.lens xs ≤ xs.length * B := by
  induction xs with
  | nil => simp [Lib.lens]
  | cons x r ih =>
    have h1 := h x (by simp)
    have h2 := ih fun y hy => h y (by simp [hy])
    simp only [Lib.lens, List.map_cons, List.sum_cons, List.length_cons, Nat.add_mul, Nat.one_mul] at h2 ⊢
    omega
theorem join_length (xs : List Txt) (sep : Txt) : (Lib.join xs sep).length ≤ Lib.lens xs + xs.length * sep.length := by
  cases xs with
  | nil => simp [Lib.join_nil]
  | cons x r =>
    rw [Lib.join_cons, List.length_append, Lib.joinTail_length]
    simp only [Lib.lens, List.map_cons, List.sum_cons, List.length_cons, Nat.add_mul, Nat.one_mul, Nat.mul_comm sep.length]
    omega
theorem join_le (xs : List Txt) (sep : Txt) (n B : Nat) (hn : xs.length ≤ n) (h : ∀ x ∈ xs, x.length ≤ B) : (Lib.join xs sep).length ≤ n * (B + sep.length) := by
  have h1 := join_length xs sep
  have h2 := lens_le xs B h
  have h3 : xs.length * (B + sep.length) ≤ n * (B + sep.length) := Nat.mul_le_mul_right _ hn
  rw [Nat.mul_add] at h3
  omega
theorem flatten_le (xs : List Txt) (n B : Nat) (hn : xs.length ≤ n) (h : ∀ x ∈ xs, x.length ≤ B) : xs.flatten.length ≤ n * B := by
  have h2 := lens_le xs B h
  have h3 : xs.length * B ≤ n * B := Nat.mul_le_mul_right _ hn
  have h4 : xs.flatten.length = Lib.lens xs := by rw [List.length_flatten]; rfl
  omega
theorem nameOK_le {s : Txt} (h : nameOK s = true) : s.length ≤ 16 := by
  simp [nameOK] at h; exact h.2
theorem catW_le (n : Int) : (catW n).length ≤ 7 := by
  unfold catW; repeat' split
  all_goals decide
theorem opW_le (n : Int) : (opW n).length = 1 := by
  unfold opW; repeat' split
  all_goals rfl
theorem fnW_le (n : Int) : (fnW n).length ≤ 4 := by
  unfold fnW; repeat' split
  all_goals decide
theorem onW_le (n : Int) : (onW n).length ≤ 6 := by
  unfold onW; split <;> decide
theorem dutyW_le (n : Int) : (dutyW n).length ≤ 6 := by
  unfold dutyW; repeat' split
  all_goals decide
theorem algW_le (n : Int) : (algW n).length ≤ 12 := by
  unfold algW; repeat' split
  all_goals decide
theorem attrT_le {a : AttrD} (h : attrOK a = true) : (attrT a).length ≤ 25 := by
  simp only [attrOK, Bool.and_eq_true] at h
  have h1 := nameOK_le h.2
  have h2 := catW_le a.cat
  unfold attrT
  simp only [List.length_append, List.length_cons, List.length_nil]
  split <;> simp <;> omega
theorem quoteT_le (l : Txt) (h : l.length ≤ 64) : (quoteT l).length ≤ 194 := by
  have := flatten_le (l.map quoteB) 64 3 (by simpa using h) fun x hx => by
    obtain ⟨c, _, rfl⟩ := List.mem_map.1 hx
    unfold quoteB; split <;> simp
  unfold quoteT
  simp only [List.length_append, List.length_cons, List.length_nil]
  omega
theorem valT_le {v : ValD} (h : valOK v = true) (h1 : -9223372036854775808 ≤ v.n) (h2 : v.n ≤ 9223372036854775807) : (valT v).length ≤ 194 := by
  have hi := Lib.itoa_length_le v.n h1 h2
  unfold valT
  unfold valOK at h
  split
  · cases (v.n == 1) <;> decide
  split
  · simp only [List.length_append, List.length_cons, List.length_nil]; omega
  split
  · rename_i k5
    simp only [k5] at h
    simp at h
    have := nameOK_le h.2
    simp only [List.length_append, List.length_cons, List.length_nil]; omega
  split
  · rename_i k3
    simp only [k3] at h
    simp at h
    exact quoteT_le _ h.2
  · omega
theorem matchT_le {m : MatchD} (h : attrOK m.attr = true) (hv : (valT m.val).length ≤ 194) : (matchT m).length ≤ 222 := by
  have h1 := attrT_le h
  have h2 := opW_le m.op
  unfold matchT
  simp only [List.length_append, List.length_cons, List.length_nil]
  omega
theorem oblT_le {o : OblD} (h : oblOK o = true) : (oblT o).length ≤ 34 := by
  simp only [oblOK, Bool.and_eq_true] at h
  have h1 := nameOK_le h.2
  have h2 := onW_le o.on
  have h3 := dutyW_le o.kind
  unfold oblT
  simp only [List.length_append, List.length_cons, List.length_nil]
  omega
theorem oblsE_zero {l : List OblD} (h : oblsE l = 0) : l.length ≤ 8 ∧ ∀ o ∈ l, oblOK o = true := by
  unfold oblsE at h
  split at h
  · cases h
  · rename_i h8
    split at h
    · rename_i ha; exact ⟨by omega, fun o ho => List.all_eq_true.1 ha o ho⟩
    · cases h
theorem oblsT_le {l : List OblD} (h : oblsE l = 0) : (oblsT l).length ≤ 272 := by
  obtain ⟨h1, h2⟩ := oblsE_zero h
  exact flatten_le (l.map oblT) 8 34 (by simpa using h1) fun x hx => by
    obtain ⟨o, ho, rfl⟩ := List.mem_map.1 hx
    exact oblT_le (h2 o ho)
theorem manyE_zero {n : Nat} (h : manyE n = 0) : 0 < n ∧ n ≤ 8 := by
  unfold manyE at h
  split at h
  · cases h
  · split at h
    · cases h
    · omega
theorem firstE_zero {α : Type} {f : α → Int} {l : List α} (h : firstE f l = 0) : ∀ x ∈ l, f x = 0 := by
  induction l with
  | nil => intro x hx; cases hx
  | cons y r ih =>
    simp only [firstE] at h
    split at h
    · rename_i hy
      intro x hx
      rcases List.mem_cons.1 hx with rfl | hx
      · exact hy
      · exact ih h x hx
    · rename_i hy; exact (hy h).elim
theorem allE_zero {l : List MatchD} (h : allE l = 0) : 0 < l.length ∧ l.length ≤ 8 ∧ ∀ m ∈ l, matchOK m = true := by
  unfold allE at h
  split at h
  · rename_i hm
    have := manyE_zero hm
    split at h
    · rename_i ha; exact ⟨this.1, this.2, fun o ho => List.all_eq_true.1 ha o ho⟩
    · cases h
  · rename_i hm; exact (hm h).elim
theorem anyE_zero {l : List (List MatchD)} (h : anyE l = 0) : 0 < l.length ∧ l.length ≤ 8 ∧ ∀ m ∈ l, allE m = 0 := by
  unfold anyE at h
  split at h
  · rename_i hm
    have := manyE_zero hm
    exact ⟨this.1, this.2, firstE_zero h⟩
  · rename_i hm; exact (hm h).elim
theorem tgtE_zero {l : TgtD} (h : tgtE l = 0) : l.length ≤ 8 ∧ ∀ m ∈ l, anyE m = 0 := by
  unfold tgtE at h
  split at h
  · cases h
  · exact ⟨by omega, firstE_zero h⟩
theorem matchOK_cases {m : MatchD} (h : matchOK m = true) : attrOK m.attr = true ∧ 1 ≤ m.op ∧ m.op ≤ 3 ∧ valOK m.val = true := by
  simp only [matchOK, Bool.and_eq_true, decide_eq_true_eq] at h
  exact ⟨h.1.1.1, h.1.1.2, h.1.2, h.2⟩
def tot (st : List Txt) : Nat := Lib.lens st + st.length
theorem tot_append (a b : List Txt) : tot (a ++ b) = tot a + tot b := by
  simp [tot, Lib.lens]; omega
theorem tot_one (s : Txt) : tot [s] = s.length + 1 := by simp [tot, Lib.lens]
theorem mem_tot {st : List Txt} {s : Txt} (h : s ∈ st) : s.length ≤ tot st := by
  induction st with
  | nil => cases h
  | cons x r ih =>
    have : tot (x :: r) = tot [x] + tot r := tot_append [x] r
    rw [this, tot_one]
    rcases List.mem_cons.1 h with rfl | h
    · omega
    · have := ih h; omega
theorem fn_tot (st : List Txt) (k : Nat) (w : Txt) (hw : w.length ≤ 4) : tot (st.take k ++ [[40] ++ w ++ [32] ++ Lib.join (st.drop k) [32] ++ [41]]) ≤ tot st + 9 := by
  have e : tot st = tot (st.take k) + tot (st.drop k) := by rw [← tot_append, List.take_append_drop]
  have hj := join_length (st.drop k) [32]
  rw [tot_append, tot_one, e]
  simp only [List.length_append, List.length_cons, List.length_nil, tot] at hj ⊢
  omega
theorem stepD_some {bs bs' : List Bool} {n : NodeD} (h : stepD bs n = some bs') :
    (n.op = 1 ∧ valOK n.val = true ∧ bs' = bs ++ [false]) ∨ (n.op = 2 ∧ attrOK n.attr = true ∧ bs' = bs ++ [true]) ∨
    (3 ≤ n.op ∧ n.op ≤ 13 ∧ arity n.op ≤ bs.length ∧ bs'.length = bs.length - arity n.op + 1) := by
  unfold stepD at h
  split at h
  · cases h
  rename_i w hw
  split at h
  case isFalse => cases h
  rename_i hc
  obtain ⟨hf, hl, hd⟩ := hc
  cases h
  unfold wantsD at hw
  unfold fieldsOK at hf
  split at hw
  · rename_i h12
    cases hw
    rcases h12 with h1 | h2
    · rw [if_pos h1, Bool.and_eq_true] at hf
      exact .inl ⟨h1, hf.1, by simp [h1]⟩
    · rw [if_neg (by omega), if_pos h2, Bool.and_eq_true] at hf
      exact .inr (.inl ⟨h2, hf.1, by simp [h2]⟩)
  · rename_i h12
    have ha : 3 ≤ n.op ∧ n.op ≤ 13 ∧ w.length = arity n.op := by
      unfold arity
      split at hw
      · rename_i h3; cases hw; rw [if_pos (by omega)]; exact ⟨by omega, by omega, rfl⟩
      split at hw
      · rename_i h3; cases hw; rw [if_neg (by omega)]; exact ⟨by omega, by omega, rfl⟩
      split at hw
      · rename_i h3; cases hw; rw [if_pos (by omega)]; exact ⟨by omega, by omega, rfl⟩
      split at hw
      · rename_i h3; cases hw; rw [if_neg (by omega)]; exact ⟨by omega, by omega, rfl⟩
      · cases hw
    refine .inr (.inr ⟨ha.1, ha.2.1, by omega, ?_⟩)
    rw [List.length_append, List.length_take, ha.2.2]
    simp only [List.length_singleton]
    omega
theorem stepT_length {bs bs' : List Bool} {st : List Txt} {n : NodeD} (h : stepD bs n = some bs') (hl : st.length = bs.length) : (stepT st n).length = bs'.length := by
  unfold stepT
  rcases stepD_some h with ⟨h1, _, rfl⟩ | ⟨h1, _, rfl⟩ | ⟨h1, h2, h3, h4⟩
  · rw [if_pos h1]; simp [hl]
  · rw [if_neg (by omega), if_pos h1]; simp [hl]
  · rw [if_neg (by omega), if_neg (by omega), h4]; simp [hl]
end Go.Bf

set_option linter.unusedSimpArgs false
set_option linter.unusedVariables false
namespace Go.Bf
open Go Go.Ab
def inV (v : ValD) : Prop := -9223372036854775808 ≤ v.n ∧ v.n ≤ 9223372036854775807
def inA (l : List MatchD) : Prop := ∀ m ∈ l, inV m.val
def inY (l : List (List MatchD)) : Prop := ∀ a ∈ l, inA a
def inT (t : TgtD) : Prop := ∀ a ∈ t, inY a
def inL (l : List NodeD) : Prop := ∀ n ∈ l, inV n.val
def inR (r : RuleD) : Prop := inT r.tgt ∧ inL r.cond
mutual
def inP : PolD → Prop
  | .mk id set alg tgt rules kids obls => inT tgt ∧ (∀ r ∈ rules, inR r) ∧ inK kids
def inK : List PolD → Prop
  | [] => True
  | k :: r => inP k ∧ inK r
end
theorem inK_eq : ∀ l : List PolD, inK l ↔ ∀ k ∈ l, inP k
  | [] => by simp [inK]
  | k :: r => by simp [inK, inK_eq r]
theorem allT_le {l : List MatchD} (h : allE l = 0) (hi : inA l) : (allT l).length ≤ 1792 := by
  obtain ⟨_, h1, h2⟩ := allE_zero h
  exact join_le (l.map matchT) [44, 32] 8 222 (by simpa using h1) fun x hx => by
    obtain ⟨m, hm, rfl⟩ := List.mem_map.1 hx
    have := matchOK_cases (h2 m hm)
    exact matchT_le this.1 (valT_le this.2.2.2 (hi m hm).1 (hi m hm).2)
theorem anyT_le {l : List (List MatchD)} (h : anyE l = 0) (hi : inY l) : (anyT l).length ≤ 14370 := by
  obtain ⟨_, h1, h2⟩ := anyE_zero h
  have := join_le (l.map allT) [32, 111, 114, 32] 8 1792 (by simpa using h1) fun x hx => by
    obtain ⟨m, hm, rfl⟩ := List.mem_map.1 hx
    exact allT_le (h2 m hm) (hi m hm)
  unfold anyT
  simp only [List.length_append, List.length_cons, List.length_nil] at this ⊢
  omega
theorem tgtT_le {t : TgtD} (h : tgtE t = 0) (hi : inT t) : (tgtT t).length ≤ 115006 := by
  obtain ⟨h1, h2⟩ := tgtE_zero h
  have := join_le (t.map anyT) [32, 97, 110, 100, 32] 8 14370 (by simpa using h1) fun x hx => by
    obtain ⟨m, hm, rfl⟩ := List.mem_map.1 hx
    exact anyT_le (h2 m hm) (hi m hm)
  unfold tgtT
  split
  · simp
  · simp only [List.length_append, List.length_cons, List.length_nil] at this ⊢
    omega
theorem stepT_tot {bs bs' : List Bool} {st : List Txt} {n : NodeD} (h : stepD bs n = some bs') (hi : inV n.val) : tot (stepT st n) ≤ tot st + 195 := by
  unfold stepT
  rcases stepD_some h with ⟨h1, h2, rfl⟩ | ⟨h1, h2, rfl⟩ | ⟨h1, h2, h3, h4⟩
  · have := valT_le h2 hi.1 hi.2
    rw [if_pos h1, tot_append, tot_one]; omega
  · have := attrT_le h2
    rw [if_neg (by omega), if_pos h1, tot_append, tot_one]; omega
  · have := fn_tot st (st.length - arity n.op) (fnW n.op) (fnW_le _)
    rw [if_neg (by omega), if_neg (by omega)]; omega
theorem stepsT_tot : ∀ (l : List NodeD) (bs bs' : List Bool) (st : List Txt), stepsD bs l = some bs' → inL l → st.length = bs.length → (l.foldl stepT st).length = bs'.length ∧ tot (l.foldl stepT st) ≤ tot st + 195 * l.length
  | [], bs, bs', st, h, hi, hl => by
    simp only [stepsD, Option.some.injEq] at h; subst h
    simp [hl]
  | n :: r, bs, bs', st, h, hi, hl => by
    simp only [stepsD] at h
    cases hs : stepD bs n with
    | none => rw [hs] at h; cases h
    | some b2 =>
      rw [hs] at h
      have h1 := stepT_tot (st := st) hs (hi n (by simp))
      have h2 := stepsT_tot r b2 bs' (stepT st n) h (fun x hx => hi x (by simp [hx])) (stepT_length hs hl)
      simp only [List.foldl_cons, List.length_cons]
      omega
theorem exprE_zero {l : List NodeD} (h : exprE l = 0) (hn : l ≠ []) : l.length ≤ 32 ∧ stepsD [] l = some [false] := by
  unfold exprE at h
  split at h
  · cases h
  · split at h
    · cases h
    · rename_i st hst
      split at h
      · rename_i hx
        rcases hx with hx | hx
        · exact (hn hx).elim
        · subst hx; exact ⟨by omega, hst⟩
      · cases h
theorem exprE_take {l : List NodeD} (h : exprE l = 0) (i : Nat) : ∃ bs, stepsD [] (l.take i) = some bs := by
  by_cases hn : l = []
  · subst hn; exact ⟨[], by simp [stepsD]⟩
  · have h2 := (exprE_zero h hn).2
    have : ∀ (l : List NodeD) (bs : List Bool) (b : List Bool) (i : Nat), stepsD bs l = some b → ∃ bs', stepsD bs (l.take i) = some bs' := by
      intro l
      induction l with
      | nil => intro bs b i _; exact ⟨bs, by simp [stepsD]⟩
      | cons n r ih =>
        intro bs b i hh
        cases i with
        | zero => exact ⟨bs, by simp [stepsD]⟩
        | succ i =>
          simp only [List.take_succ_cons, stepsD] at hh ⊢
          cases hs : stepD bs n with
          | none => rw [hs] at hh; cases hh
          | some b2 => rw [hs] at hh; exact ih b2 b i hh
    exact this l [] _ i h2
theorem exprT_le {l : List NodeD} (h : exprE l = 0) (hi : inL l) : (exprT l).length ≤ 6240 := by
  by_cases hn : l = []
  · subst hn; simp [exprT]
  obtain ⟨h1, h2⟩ := exprE_zero h hn
  obtain ⟨h3, h4⟩ := stepsT_tot l [] [false] [] h2 hi rfl
  unfold exprT
  cases hx : l.foldl stepT [] with
  | nil => simp
  | cons s r =>
    have := mem_tot (st := l.foldl stepT []) (s := s) (by rw [hx]; simp)
    simp only [tot, Lib.lens] at h4
    simp only [List.headD_cons]
    simp only [tot, Lib.lens] at this
    simp at h4
    omega
def ruleE (r : RuleD) : Prop := nameOK r.id = true ∧ tgtE r.tgt = 0 ∧ exprE r.cond = 0 ∧ oblsE r.obls = 0
theorem ruleT_le {r : RuleD} (h : ruleE r) (hi : inR r) : (ruleT r).length ≤ 122000 := by
  have h1 := nameOK_le h.1
  have h2 := tgtT_le h.2.1 hi.1
  have h3 := exprT_le h.2.2.1 hi.2
  have h4 := oblsT_le h.2.2.2
  unfold ruleT
  cases r.deny <;> simp only [List.length_append, List.length_cons, List.length_nil, if_true, Bool.false_eq_true, if_false] <;> split <;> simp <;> omega
mutual
def polE (d : Nat) : PolD → Prop
  | .mk id set alg tgt rules kids obls => d ≤ 4 ∧ nameOK id = true ∧ 1 ≤ alg ∧ alg ≤ 6 ∧ (set = true → rules = []) ∧ (set = false → kids = [] ∧ alg ≠ 4) ∧ tgtE tgt = 0 ∧ oblsE obls = 0 ∧ rules.length ≤ 16 ∧ kids.length ≤ 16 ∧ (∀ r ∈ rules, ruleE r) ∧ kidsE (d + 1) kids
def kidsE (d : Nat) : List PolD → Prop
  | [] => True
  | k :: r => polE d k ∧ kidsE d r
end
theorem kidsE_eq (d : Nat) : ∀ l : List PolD, kidsE d l ↔ ∀ k ∈ l, polE d k
  | [] => by simp [kidsE]
  | k :: r => by simp [kidsE, kidsE_eq d r]
theorem kidsT_eq : ∀ l : List PolD, kidsT l = (l.map fun k => [32] ++ polT k).flatten
  | [] => by simp [kidsT]
  | k :: r => by simp [kidsT, kidsT_eq r]
def polB : Nat → Nat
  | 0 => 0
  | n + 1 => 3000000 + 16 * (1 + polB n)
theorem polT_le : ∀ (n d : Nat) (p : PolD), d + n = 5 → polE d p → inP p → (polT p).length ≤ polB n
  | 0, d, .mk id set alg tgt rules kids obls, hd, h, hi => by simp only [polE] at h; omega
  | n + 1, d, .mk id set alg tgt rules kids obls, hd, h, hi => by
    simp only [polE] at h
    simp only [inP] at hi
    obtain ⟨_, g1, _, _, _, _, g2, g3, g4, g5, g6, g7⟩ := h
    obtain ⟨i1, i2, i3⟩ := hi
    have h1 := nameOK_le g1
    have h2 := tgtT_le g2 i1
    have h4 := oblsT_le g3
    have h5 := algW_le alg
    have h6 := flatten_le (rules.map ruleT) 16 122000 (by simpa using g4) fun x hx => by
      obtain ⟨r, hr, rfl⟩ := List.mem_map.1 hx
      exact ruleT_le (g6 r hr) (i2 r hr)
    have h7 := flatten_le (kids.map fun k => [32] ++ polT k) 16 (1 + polB n) (by simpa using g5) fun x hx => by
      obtain ⟨k, hk, rfl⟩ := List.mem_map.1 hx
      have := polT_le n (d + 1) k (by omega) ((kidsE_eq _ _).1 g7 k hk) ((inK_eq _).1 i3 k hk)
      simp only [List.length_append, List.length_cons, List.length_nil]; omega
    simp only [polT, polB, kidsT_eq]
    cases set <;> simp only [List.length_append, List.length_cons, List.length_nil, if_true, Bool.false_eq_true, if_false] <;> omega
theorem polB_le : polB 4 ≤ 1000000000000 := by decide
theorem meetD_name {m m' : MetD} {s : Txt} (h : meetD m s = some m') : nameOK s = true := by
  unfold meetD at h
  split at h
  · rename_i hc; exact hc.2
  · cases h
theorem need_ok' {e : Int} {w : Went} {m : MetD} (h : need e w = .ok m) : e = 0 ∧ w = .ok m := by
  unfold need at h
  split at h
  · exact ⟨by assumption, h⟩
  · cases h
theorem ruleW_ok {m m' : MetD} {r : RuleD} (h : ruleW m r = .ok m') : ruleE r := by
  unfold ruleW at h
  split at h
  · cases h
  · rename_i m1 hm
    split at h
    · cases h
    · obtain ⟨h1, h⟩ := need_ok' h
      obtain ⟨h2, h⟩ := need_ok' h
      obtain ⟨h3, h⟩ := need_ok' h
      exact ⟨meetD_name hm, h1, h2, h3⟩
theorem rulesW_ok : ∀ (l : List RuleD) (m m' : MetD), rulesW m l = .ok m' → ∀ r ∈ l, ruleE r
  | [], _, _, _, r, hr => by cases hr
  | x :: l, m, m', h, r, hr => by
    simp only [rulesW] at h
    cases hx : ruleW m x with
    | bad e => rw [hx] at h; cases h
    | ok m1 =>
      rw [hx] at h
      rcases List.mem_cons.1 hr with rfl | hr
      · exact ruleW_ok hx
      · exact rulesW_ok l m1 m' h r hr
theorem headW_ok' {m m1 : MetD} {id : Txt} {set : Bool} {alg : Int} {tgt : TgtD} {nr nk : Nat} {obls : List OblD} (h : headW m id set alg tgt nr nk obls = .ok m1) :
    meetD m id = some m1 ∧ 1 ≤ alg ∧ alg ≤ 6 ∧ (set = true → nr = 0) ∧ (set = false → nk = 0 ∧ alg ≠ 4) ∧ tgtE tgt = 0 ∧ oblsE obls = 0 ∧ nr ≤ 16 ∧ nk ≤ 16 := by
  unfold headW at h
  split at h
  · cases h
  rename_i m2 hm
  split at h
  · cases h
  split at h
  · cases h
  rename_i h1 h2
  obtain ⟨h3, h⟩ := need_ok' h
  obtain ⟨h4, h⟩ := need_ok' h
  split at h
  · cases h
  cases h
  have h5 : (set = true → nr = 0) ∧ (set = false → nk = 0 ∧ alg ≠ 4) := by
    cases set <;> simp at h2 ⊢ <;> omega
  exact ⟨hm, by omega, by omega, h5.1, h5.2, h3, h4, by omega, by omega⟩
mutual
theorem polW_ok : ∀ (p : PolD) (d : Nat) (m m' : MetD), polW m d p = .ok m' → polE d p
  | .mk id set alg tgt rules kids obls, d, m, m', h => by
    simp only [polW] at h
    split at h
    · cases h
    rename_i hd
    split at h
    · cases h
    rename_i m1 h1
    split at h
    · cases h
    rename_i m2 h2
    obtain ⟨g1, g2, g3, g4, g5, g6, g7, g8, g9⟩ := headW_ok' h1
    simp only [polE]
    exact ⟨by omega, meetD_name g1, g2, g3, fun e => List.length_eq_zero_iff.1 (g4 e), fun e => ⟨List.length_eq_zero_iff.1 (g5 e).1, (g5 e).2⟩, g6, g7, g8, g9, rulesW_ok _ _ _ h2, kidsW_ok kids (d + 1) m2 m' h⟩
theorem kidsW_ok : ∀ (l : List PolD) (d : Nat) (m m' : MetD), kidsW m d l = .ok m' → kidsE d l
  | [], _, _, _, _ => by simp [kidsE]
  | k :: r, d, m, m', h => by
    simp only [kidsW] at h
    split at h
    · cases h
    rename_i m1 h1
    simp only [kidsE]
    exact ⟨polW_ok k d m m1 h1, kidsW_ok r d m1 m' h⟩
end
end Go.Bf

set_option linter.unusedSimpArgs false
set_option linter.unusedVariables false
namespace Go.Bf
open Go Go.Ab
def er (t : TokD) : TokD := ⟨t.kind, 0, t.n, t.s⟩
def wdK (s : Txt) : TokD := ⟨1, 0, 0, s⟩
def mkK (c : UInt8) : TokD := ⟨6, 0, 0, [c]⟩
def endK : TokD := ⟨7, 0, 0, []⟩
def Sep (r : Txt) : Prop := ∀ c l, r = c :: l → wrd c = false
def StN (s : Txt) : Prop := ∃ c l, s = c :: l ∧ wrd c = false
theorem Sep.nil : Sep [] := fun _ _ h => by cases h
theorem StN.sep {s : Txt} (h : StN s) (r : Txt) : Sep (s ++ r) := by
  obtain ⟨c, l, rfl, hc⟩ := h
  intro c' l' e
  cases e
  exact hc
def Lx (b : Bool) (s : Txt) (ks : List TokD) : Prop := ∀ (rest : Txt) (f a : Nat) (out : List TokD), (b = true → Sep rest) → (s ++ rest).length < f →
  ∃ f' new, rest.length < f' ∧ new.map er = ks ∧ lexF f (s ++ rest) a out = lexF f' rest (a + s.length) (out ++ new)
theorem Lx.weaken {b : Bool} {s : Txt} {ks : List TokD} (h : Lx b s ks) : Lx true s ks := fun rest f a out hr hf => h rest f a out (fun _ => hr rfl) hf
theorem Lx.nil (b : Bool) : Lx b [] [] := fun rest f a out _ hf => ⟨f, [], by simpa using hf, rfl, by simp⟩
theorem Lx.app {b1 b2 : Bool} {s1 s2 : Txt} {k1 k2 : List TokD} (h1 : Lx b1 s1 k1) (h2 : Lx b2 s2 k2) (hs : b1 = true → ∀ rest, (b2 = true → Sep rest) → Sep (s2 ++ rest)) : Lx b2 (s1 ++ s2) (k1 ++ k2) := fun rest f a out hr hf => by
  rw [List.append_assoc] at hf ⊢
  obtain ⟨f1, n1, g1, g2, g3⟩ := h1 (s2 ++ rest) f a out (fun hb => hs hb rest hr) hf
  obtain ⟨f2, n2, g4, g5, g6⟩ := h2 rest f1 (a + s1.length) (out ++ n1) hr g1
  refine ⟨f2, n1 ++ n2, g4, by rw [List.map_append, g2, g5], ?_⟩
  rw [g3, g6, List.append_assoc, List.length_append, Nat.add_assoc]
theorem Lx.appM {b2 : Bool} {s1 s2 : Txt} {k1 k2 : List TokD} (h1 : Lx false s1 k1) (h2 : Lx b2 s2 k2) : Lx b2 (s1 ++ s2) (k1 ++ k2) := h1.app h2 fun h => by cases h
theorem Lx.appN {b1 b2 : Bool} {s1 s2 : Txt} {k1 k2 : List TokD} (h1 : Lx b1 s1 k1) (hn : StN s2) (h2 : Lx b2 s2 k2) : Lx b2 (s1 ++ s2) (k1 ++ k2) := h1.app h2 fun _ rest _ => hn.sep rest
theorem Lx.appO {b1 : Bool} {s1 s2 : Txt} {k1 k2 : List TokD} (h1 : Lx b1 s1 k1) (hn : s2 = [] ∨ StN s2) (h2 : Lx true s2 k2) : Lx true (s1 ++ s2) (k1 ++ k2) := h1.app h2 fun _ rest hr => by
  rcases hn with rfl | hn
  · exact hr rfl
  · exact hn.sep rest
theorem lx_blank : Lx false [32] [] := fun rest f a out _ hf => by
  obtain ⟨g, rfl⟩ : ∃ g, f = g + 1 := ⟨f - 1, by omega⟩
  exact ⟨g, [], by simpa using hf, rfl, by simp [lexF, blankB]⟩
theorem lx_tok {b : Bool} {s : Txt} {k : TokD} (hs : s ≠ []) (hh : ∀ c l, s = c :: l → blankB c = false) (h : ∀ rest, (b = true → Sep rest) → er (beginsD (s ++ rest)).1 = k ∧ (beginsD (s ++ rest)).2 = s.length) : Lx b s [k] := fun rest f a out hr hf => by
  obtain ⟨g, rfl⟩ : ∃ g, f = g + 1 := ⟨f - 1, by omega⟩
  obtain ⟨h1, h2⟩ := h rest hr
  obtain ⟨c, l, rfl⟩ : ∃ c l, s = c :: l := by
    cases s with
    | nil => exact absurd rfl hs
    | cons c l => exact ⟨c, l, rfl⟩
  have hc := hh c l rfl
  refine ⟨g, [{ (beginsD (c :: l ++ rest)).1 with pos := a }], ?_, ?_, ?_⟩
  · simp only [List.length_append, List.length_cons] at hf; omega
  · rw [← h1]; rfl
  · rw [List.cons_append] at h2 ⊢
    simp only [lexF, hc, h2]
    rw [if_neg (by simp), if_neg (by simp)]
    rw [show ((c :: (l ++ rest)).drop (c :: l).length) = rest by rw [← List.cons_append, List.drop_left]]
theorem takeWhile_all {p : UInt8 → Bool} {s rest : Txt} (h1 : ∀ c ∈ s, p c = true) (h2 : ∀ c l, rest = c :: l → p c = false) : (s ++ rest).takeWhile p = s := by
  rw [List.takeWhile_append_of_pos h1]
  cases rest with
  | nil => simp
  | cons c l => rw [List.takeWhile_cons, h2 c l rfl]; simp
theorem ltr_wrd {c : UInt8} (h : wrd c = false) : ltr c = false ∧ dgt c = false := by
  simp only [wrd, Bool.or_eq_false_iff] at h; exact ⟨h.1.1, h.1.2⟩
theorem chOK_wrd {c : UInt8} {i : Nat} (h : chOK c i = true) : wrd c = true := by
  simp only [chOK, wrd, Bool.or_eq_true, Bool.and_eq_true] at h ⊢
  rcases h with h | ⟨_, h | h⟩
  · exact .inl (.inl h)
  · exact .inl (.inr h)
  · exact .inr h
theorem nameOK_form {s : Txt} (h : nameOK s = true) : ∃ c l, s = c :: l ∧ ltr c = true ∧ ∀ x ∈ s, wrd x = true := by
  simp only [nameOK, Bool.and_eq_true, decide_eq_true_eq] at h
  obtain ⟨⟨h1, h2⟩, _⟩ := h
  cases s with
  | nil => simp at h2
  | cons c l =>
    refine ⟨c, l, rfl, ?_, fun x hx => ?_⟩
    · simp only [chsOK, List.zipIdx_cons, List.all_cons, Bool.and_eq_true] at h1
      simpa [chOK] using h1.1
    · obtain ⟨i, hi, rfl⟩ := List.getElem_of_mem hx
      have := List.all_eq_true.1 h1 ((c :: l)[i], i) (by rw [List.mk_mem_zipIdx_iff_getElem?]; exact List.getElem?_eq_getElem hi)
      exact chOK_wrd this
theorem wordD_name {s rest : Txt} (h : nameOK s = true) (hr : Sep rest) : wordD (s ++ rest) = s := by
  obtain ⟨c, l, _, _, hw⟩ := nameOK_form h
  unfold wordD
  rw [takeWhile_all hw hr, if_pos h]
theorem ltr_blank {c : UInt8} (h : ltr c = true) : blankB c = false := by
  simp only [ltr, Bool.and_eq_true, decide_eq_true_eq] at h
  simp only [blankB, Bool.or_eq_false_iff, beq_eq_false_iff_ne, ne_eq]
  omega
theorem lx_name {s : Txt} (h : nameOK s = true) : Lx true s [wdK s] := by
  obtain ⟨c, l, rfl, hc, hw⟩ := nameOK_form h
  refine lx_tok (by simp) (fun c' l' e => by cases e; exact ltr_blank hc) fun rest hr => ?_
  have := wordD_name h (hr rfl)
  rw [List.cons_append] at this ⊢
  simp only [beginsD, List.headD_cons, hc, if_true, this]
  exact ⟨rfl, trivial⟩
theorem lx_mark {c : UInt8} (hc : markB c = true) (h1 : ltr c = false) (h2 : dgt c = false) (h3 : c ≠ 45 ∧ c ≠ 64 ∧ c ≠ 35 ∧ c ≠ 34) (h4 : blankB c = false) : Lx false [c] [mkK c] := by
  refine lx_tok (by simp) (fun c' l' e => by cases e; exact h4) fun rest hr => ?_
  simp only [List.cons_append, List.nil_append, beginsD, List.headD_cons, h1, h2, h3, hc, if_true, if_false, Bool.false_eq_true, List.length_singleton]
  exact ⟨rfl, trivial⟩
theorem lx_id {s : Txt} (h : nameOK s = true) : Lx true (35 :: s) [⟨4, 0, 0, s⟩] := by
  refine lx_tok (by simp) (fun c' l' e => by cases e; decide) fun rest hr => ?_
  have := wordD_name h (hr rfl)
  obtain ⟨c, l, e, _, _⟩ := nameOK_form h
  have hs : s ≠ [] := by rw [e]; simp
  have d1 : ltr 35 = false := by decide
  have d2 : dgt 35 = false := by decide
  simp only [List.cons_append, beginsD, List.headD_cons, d1, d2, if_false, Bool.false_eq_true, List.drop_succ_cons, List.drop_zero, this, hs, if_true, List.length_cons]
  exact ⟨rfl, rfl⟩
end Go.Bf

set_option linter.unusedSimpArgs false
set_option linter.unusedVariables false
namespace Go.Bf
open Go Go.Ab
theorem decV_snoc (l : Txt) (c : UInt8) : decV (l ++ [c]) = decV l * 10 + (c.toNat - 48) := by simp [decV]
theorem dig_toNat (n : Nat) (h : n < 10) : (UInt8.ofNat (48 + n)).toNat = 48 + n := by
  rw [UInt8.toNat_ofNat']; omega
theorem dgt_dig (n : Nat) (h : n < 10) : dgt (UInt8.ofNat (48 + n)) = true := by
  simp only [dgt, dig_toNat n h, Bool.and_eq_true, decide_eq_true_eq]; omega
theorem decDigits_form : ∀ (n u : Nat), u < n → (∀ c ∈ Lib.decDigits u, dgt c = true) ∧ decV (Lib.decDigits u) = u ∧ (∃ c l, Lib.decDigits u = c :: l ∧ (1 ≤ u → c ≠ 48)) ∧ (u < 10 → (Lib.decDigits u).length = 1)
  | 0, u, h => absurd h (by omega)
  | n + 1, u, h => by
    by_cases h10 : u < 10
    · have e : Lib.decDigits u = [UInt8.ofNat (48 + u)] := by rw [Lib.decDigits, dif_pos h10]
      rw [e]
      refine ⟨?_, ?_, ⟨_, _, rfl, fun h1 hc => ?_⟩, fun _ => rfl⟩
      · intro c hc
        rw [List.mem_singleton.1 hc]; exact dgt_dig u h10
      · simp only [decV, List.foldl_cons, List.foldl_nil, dig_toNat u h10]; omega
      · have := congrArg UInt8.toNat hc
        rw [dig_toNat u h10] at this
        have h48 : (48 : UInt8).toNat = 48 := rfl
        omega
    · have e : Lib.decDigits u = Lib.decDigits (u / 10) ++ [UInt8.ofNat (48 + u % 10)] := by rw [Lib.decDigits, dif_neg h10]
      obtain ⟨h1, h2, ⟨c, l, h3, h4⟩, _⟩ := decDigits_form n (u / 10) (by omega)
      have hm : u % 10 < 10 := Nat.mod_lt _ (by decide)
      refine ⟨?_, ?_, ⟨c, l ++ [UInt8.ofNat (48 + u % 10)], by rw [e, h3]; rfl, fun _ => h4 (by omega)⟩, fun h => absurd h h10⟩
      · intro x hx
        rw [e, List.mem_append] at hx
        rcases hx with hx | hx
        · exact h1 x hx
        · rw [List.mem_singleton.1 hx]; exact dgt_dig _ hm
      · rw [e, decV_snoc, h2, dig_toNat _ hm]; omega
theorem sep_dgt {rest : Txt} (h : Sep rest) : ∀ c l, rest = c :: l → dgt c = false := fun c l e => (ltr_wrd (h c l e)).2
theorem numD_dig (neg : Bool) (u : Nat) {rest : Txt} (hr : Sep rest) (h : -9223372036854775808 ≤ (if neg then -(u : Int) else (u : Int)) ∧ (if neg then -(u : Int) else (u : Int)) ≤ 9223372036854775807) :
    numD neg (Lib.decDigits u ++ rest) = (if neg then -(u : Int) else (u : Int), (Lib.decDigits u).length) := by
  obtain ⟨h1, h2, ⟨c, l, h3, h4⟩, h5⟩ := decDigits_form (u + 1) u (by omega)
  have ht : (Lib.decDigits u ++ rest).takeWhile dgt = Lib.decDigits u := takeWhile_all h1 (sep_dgt hr)
  unfold numD
  simp only [ht, h2]
  rw [if_neg (by
    rintro (h | ⟨h, hh⟩)
    · rw [h3] at h; cases h
    · rw [h3] at hh
      simp only [List.cons_append, List.head?_cons, Option.some.injEq] at hh
      by_cases hu : 1 ≤ u
      · exact h4 hu hh
      · have := h5 (by omega); omega), if_pos h]
theorem lx_int {n : Int} (h : -9223372036854775808 ≤ n ∧ n ≤ 9223372036854775807) : Lx true (Lib.itoa n) [⟨2, 0, n, []⟩] := by
  by_cases hn : n < 0
  · obtain ⟨u, hu1, hu⟩ : ∃ u : Nat, 1 ≤ u ∧ n = -(u : Int) := ⟨n.natAbs, by omega, by omega⟩
    subst hu
    rw [Lib.itoa_neg u hu1]
    refine lx_tok (by simp) (fun c' l' e => by cases e; decide) fun rest hr => ?_
    have hd := numD_dig true u (hr rfl) (by simpa using h)
    have d1 : ltr 45 = false := by decide
    have d2 : dgt 45 = false := by decide
    simp only [if_true] at hd
    have h0 : -(u : Int) ≠ 0 := by omega
    simp only [List.cons_append, beginsD, List.headD_cons, d1, d2, if_false, Bool.false_eq_true, List.drop_succ_cons, List.drop_zero, hd, if_true, List.length_cons, h0]
    exact ⟨rfl, trivial⟩
  · obtain ⟨u, hu⟩ : ∃ u : Nat, n = (u : Int) := ⟨n.toNat, by omega⟩
    subst hu
    rw [Lib.itoa_nonneg u]
    obtain ⟨h1, h2, ⟨c, l, h3, h4⟩, h5⟩ := decDigits_form (u + 1) u (by omega)
    have hc : dgt c = true := h1 c (by rw [h3]; simp)
    have hcr := hc
    simp only [dgt, Bool.and_eq_true, decide_eq_true_eq] at hcr
    refine lx_tok (by rw [h3]; simp) (fun c' l' e => ?_) fun rest hr => ?_
    · rw [h3] at e; cases e
      simp only [blankB, Bool.or_eq_false_iff, beq_eq_false_iff_ne, ne_eq]; omega
    · have hd := numD_dig false u (hr rfl) (by simpa using h)
      have d1 : ltr c = false := by
        simp only [ltr, Bool.and_eq_false_iff, decide_eq_false_iff_not]; left; omega
      simp only [Bool.false_eq_true, if_false] at hd
      have hh : (Lib.decDigits u ++ rest).headD 0 = c := by rw [h3]; rfl
      simp only [beginsD, hh, d1, hc, hd, if_true, if_false, Bool.false_eq_true]
      exact ⟨rfl, trivial⟩
theorem lx_tick {n : Int} (h0 : 0 ≤ n) (h1 : n ≤ 1099511627776) : Lx true ([64] ++ Lib.itoa n) [⟨3, 0, n, []⟩] := by
  obtain ⟨u, hu⟩ : ∃ u : Nat, n = (u : Int) := ⟨n.toNat, by omega⟩
  subst hu
  rw [Lib.itoa_nonneg u]
  obtain ⟨_, _, ⟨c, l, h3, _⟩, _⟩ := decDigits_form (u + 1) u (by omega)
  refine lx_tok (by simp) (fun c' l' e => by cases e; decide) fun rest hr => ?_
  have hd := numD_dig false u (hr rfl) (by simp only [Bool.false_eq_true, if_false]; omega)
  have d1 : ltr 64 = false := by decide
  have d2 : dgt 64 = false := by decide
  have d3 : ¬ (64 : UInt8) = 45 := by decide
  simp only [Bool.false_eq_true, if_false] at hd
  have hl : (Lib.decDigits u).length ≠ 0 := by rw [h3]; simp
  have hc : ¬ ((Lib.decDigits u).length = 0 ∨ (u : Int) > 1099511627776) := fun h => h.elim hl (by omega)
  simp only [List.cons_append, List.nil_append, beginsD, List.headD_cons, d1, d2, d3, if_false, Bool.false_eq_true, List.drop_succ_cons, List.drop_zero, hd, if_true, List.length_cons, hc]
  exact ⟨rfl, trivial⟩
theorem hexI_hexD : ∀ n : Fin 16, hexI (hexD n.val) = n.val := by decide
theorem textF_quote : ∀ (l : Txt) (f at_ : Nat) (rest out : Txt), (l.map quoteB).flatten.length < f → (out ++ l).length ≤ 64 → textF f ((l.map quoteB).flatten ++ 34 :: rest) at_ out = (out ++ l, at_ + (l.map quoteB).flatten.length + 1)
  | [], f, at_, rest, out, hf, hl => by
    obtain ⟨g, rfl⟩ : ∃ g, f = g + 1 := ⟨f - 1, by omega⟩
    have h : ¬ 64 < out.length := by simp at hl; omega
    simp [textF, h]
  | c :: r, f, at_, rest, out, hf, hl => by
    obtain ⟨g, rfl⟩ : ∃ g, f = g + 1 := ⟨f - 1, by omega⟩
    have hl2 : ((out ++ [c]) ++ r).length ≤ 64 := by simpa using hl
    cases ho : oddB c
    · have e : quoteB c = [c] := by simp [quoteB, ho]
      have h34 : c ≠ 34 := fun h => by rw [h] at ho; revert ho; decide
      simp only [List.map_cons, e, List.flatten_cons, List.cons_append, List.nil_append, List.length_cons] at hf ⊢
      rw [textF, if_neg h34, if_pos ho, textF_quote r g (at_ + 1) rest (out ++ [c]) (by omega) hl2]
      simp; omega
    · have e : quoteB c = [92, hexD (c.toNat / 16), hexD (c.toNat % 16)] := by simp [quoteB, ho]
      have hc := c.toNat_lt
      have h1 := hexI_hexD ⟨c.toNat / 16, by omega⟩
      have h2 := hexI_hexD ⟨c.toNat % 16, by omega⟩
      simp only at h1 h2
      have hv : UInt8.ofNat (16 * hexI (hexD (c.toNat / 16)) + hexI (hexD (c.toNat % 16))).toNat = c := by
        rw [h1, h2]
        have : (16 * ((c.toNat / 16 : Nat) : Int) + ((c.toNat % 16 : Nat) : Int)).toNat = c.toNat := by omega
        rw [this, UInt8.ofNat_toNat]
      have hod : ∀ x, oddD (92 :: hexD (c.toNat / 16) :: hexD (c.toNat % 16) :: x) = some c := fun x => by
        simp only [oddD, hv]
        rw [if_pos ⟨trivial, by rw [h1]; omega, by rw [h2]; omega, ho⟩]
      simp only [List.map_cons, e, List.flatten_cons, List.cons_append, List.nil_append, List.length_cons] at hf ⊢
      rw [textF, if_neg (by decide), if_neg (by decide), hod]
      simp only [List.drop_succ_cons, List.drop_zero]
      rw [textF_quote r g (at_ + 3) rest (out ++ [c]) (by omega) hl2]
      simp; omega
theorem lx_text {l : Txt} (h : l.length ≤ 64) : Lx false (quoteT l) [⟨5, 0, 0, l⟩] := by
  refine lx_tok (by simp [quoteT]) (fun c' l' e => by simp only [quoteT, List.cons_append, List.nil_append] at e; cases e; decide) fun rest hr => ?_
  have d1 : ltr 34 = false := by decide
  have d2 : dgt 34 = false := by decide
  have d3 : ¬ (34 : UInt8) = 45 := by decide
  have d4 : ¬ (34 : UInt8) = 64 := by decide
  have d5 : ¬ (34 : UInt8) = 35 := by decide
  have e : quoteT l ++ rest = 34 :: ((l.map quoteB).flatten ++ 34 :: rest) := by simp [quoteT]
  have ht : textD (34 :: ((l.map quoteB).flatten ++ 34 :: rest)) = (l, (quoteT l).length) := by
    unfold textD
    simp only [List.drop_succ_cons, List.drop_zero]
    rw [textF_quote l _ 1 rest [] (by simp only [List.length_cons, List.length_append]; omega) (by simpa using h)]
    simp [quoteT]; omega
  rw [e]
  simp only [beginsD, List.headD_cons, d1, d2, d3, d4, d5, if_false, Bool.false_eq_true, if_true, ht]
  exact ⟨rfl, trivial⟩
def valK (v : ValD) : TokD :=
  if v.kind = 1 then wdK (Lib.formatBool (v.n == 1)) else if v.kind = 4 then ⟨3, 0, v.n, []⟩ else if v.kind = 5 then ⟨4, 0, 0, v.s⟩ else if v.kind = 3 then ⟨5, 0, 0, v.s⟩ else ⟨2, 0, v.n, []⟩
theorem lx_val {v : ValD} (h : valOK v = true) (hi : inV v) : Lx true (valT v) [valK v] := by
  unfold valOK at h
  unfold valT valK
  by_cases h1 : v.kind = 1
  · simp only [h1, if_true]
    cases v.n == 1 <;> exact lx_name (by decide)
  by_cases h4 : v.kind = 4
  · simp only [h4, if_true, show ¬ (4 : Int) = 1 by decide, show ¬ (4 : Int) = 2 by decide, show ¬ (4 : Int) = 3 by decide, if_false, Bool.and_eq_true, decide_eq_true_eq] at h ⊢
    exact lx_tick h.1.1 h.1.2
  by_cases h5 : v.kind = 5
  · simp only [h5, if_true, show ¬ (5 : Int) = 1 by decide, show ¬ (5 : Int) = 2 by decide, show ¬ (5 : Int) = 3 by decide, show ¬ (5 : Int) = 4 by decide, if_false, Bool.and_eq_true] at h ⊢
    exact lx_id h.2
  by_cases h3 : v.kind = 3
  · simp only [h3, if_true, show ¬ (3 : Int) = 1 by decide, show ¬ (3 : Int) = 2 by decide, show ¬ (3 : Int) = 4 by decide, show ¬ (3 : Int) = 5 by decide, if_false, Bool.and_eq_true, decide_eq_true_eq] at h ⊢
    exact (lx_text h.2).weaken
  · simp only [h1, h4, h5, h3, if_false]
    exact lx_int hi
end Go.Bf

set_option linter.unusedSimpArgs false
set_option linter.unusedVariables false
namespace Go.Bf
open Go Go.Ab
def sepK (w : TokD) : List (List TokD) → List TokD
  | [] => []
  | x :: r => x ++ (r.map (w :: ·)).flatten
theorem stN_cons {c : UInt8} {l : Txt} (h : wrd c = false) : StN (c :: l) := ⟨c, l, rfl, h⟩
theorem stN_app {s r : Txt} (h : StN s) : StN (s ++ r) := by
  obtain ⟨c, l, rfl, h⟩ := h; exact ⟨c, l ++ r, rfl, h⟩
theorem stN_flat {α : Type} {l : List α} {f : α → Txt} (h : ∀ x ∈ l, StN (f x)) : (l.map f).flatten = [] ∨ StN (l.map f).flatten := by
  cases l with
  | nil => exact .inl rfl
  | cons x r => exact .inr (by simpa using stN_app (h x (by simp)))
theorem lx_flat {α : Type} {f : α → Txt} {g : α → List TokD} : ∀ (l : List α), (∀ x ∈ l, StN (f x) ∧ Lx true (f x) (g x)) → Lx true (l.map f).flatten (l.map g).flatten
  | [], _ => Lx.nil true
  | x :: r, h => by
    simp only [List.map_cons, List.flatten_cons]
    exact (h x (by simp)).2.appO (stN_flat fun y hy => (h y (by simp [hy])).1) (lx_flat r fun y hy => h y (by simp [hy]))
theorem lx_flatM {α : Type} {f : α → Txt} {g : α → List TokD} : ∀ (l : List α), (∀ x ∈ l, Lx false (f x) (g x)) → Lx false (l.map f).flatten (l.map g).flatten
  | [], _ => Lx.nil false
  | x :: r, h => by
    simp only [List.map_cons, List.flatten_cons]
    exact (h x (by simp)).appM (lx_flatM r fun y hy => h y (by simp [hy]))
theorem lx_join {α : Type} {f : α → Txt} {g : α → List TokD} {sep : Txt} {w : TokD} (hs : StN sep) (hw : Lx false sep [w]) (l : List α) (h : ∀ x ∈ l, Lx true (f x) (g x)) : Lx true (Lib.join (l.map f) sep) (sepK w (l.map g)) := by
  cases l with
  | nil => exact Lx.nil true
  | cons x r =>
    simp only [List.map_cons, Lib.join_cons, Lib.joinTail, sepK, List.map_map]
    refine (h x (by simp)).appO (stN_flat fun y hy => stN_app hs) (lx_flat r fun y hy => ⟨stN_app hs, ?_⟩)
    exact hw.appM (h y (by simp [hy]))
theorem lx_joinM {α : Type} {f : α → Txt} {g : α → List TokD} {sep : Txt} {w : TokD} (hs : StN sep) (hw : Lx false sep [w]) (l : List α) (h : ∀ x ∈ l, Lx false (f x) (g x)) : Lx false (Lib.join (l.map f) sep) (sepK w (l.map g)) := by
  cases l with
  | nil => exact Lx.nil false
  | cons x r =>
    simp only [List.map_cons, Lib.join_cons, Lib.joinTail, sepK, List.map_map]
    exact (h x (by simp)).appM (lx_flatM r fun y hy => hw.appM (h y (by simp [hy])))
theorem lx_mk (c : UInt8) (h : (markB c && (!ltr c && (!dgt c && (c != 45 && (c != 64 && (c != 35 && (c != 34 && !blankB c))))))) = true) : Lx false [c] [mkK c] := by
  simp only [Bool.and_eq_true, Bool.not_eq_true', bne_iff_ne, ne_eq] at h
  exact lx_mark h.1 h.2.1 h.2.2.1 ⟨h.2.2.2.1, h.2.2.2.2.1, h.2.2.2.2.2.1, h.2.2.2.2.2.2.1⟩ h.2.2.2.2.2.2.2
theorem lx_word {w : Txt} (h : nameOK w = true) : Lx false ([32] ++ w ++ [32]) [wdK w] := (lx_blank.appM (lx_name h)).appN (stN_cons (by decide)) lx_blank
def attrK (a : AttrD) : List TokD := [wdK (catW a.cat), mkK 46, wdK a.name] ++ (if a.must then [mkK 33] else [])
def matchK (m : MatchD) : List TokD := attrK m.attr ++ (match opW m.op with | [c] => [mkK c] | _ => []) ++ [valK m.val]
def allK (l : List MatchD) : List TokD := sepK (mkK 44) (l.map matchK)
def anyK (l : List (List MatchD)) : List TokD := [mkK 40] ++ sepK (wdK [111, 114]) (l.map allK) ++ [mkK 41]
def tgtK (t : TgtD) : List TokD := if t = [] then [] else [wdK [119, 104, 101, 110]] ++ sepK (wdK [97, 110, 100]) (t.map anyK)
theorem nameOK_cat (n : Int) : nameOK (catW n) = true := by
  unfold catW; repeat' split
  all_goals decide
theorem lx_attr {a : AttrD} (h : attrOK a = true) : Lx true (attrT a) (attrK a) := by
  simp only [attrOK, Bool.and_eq_true] at h
  have h1 : Lx true (catW a.cat ++ [46] ++ a.name) ([wdK (catW a.cat)] ++ [mkK 46] ++ [wdK a.name]) :=
    ((lx_name (nameOK_cat _)).appN (stN_cons (by decide)) (lx_mk 46 (by decide))).appM (lx_name h.2)
  unfold attrT attrK
  cases a.must
  · simpa using h1
  · exact (h1.appN (stN_cons (by decide)) (lx_mk 33 (by decide))).weaken
theorem opW_cases (n : Int) : opW n = [61] ∨ opW n = [60] ∨ opW n = [62] := by
  unfold opW; split
  · exact .inl rfl
  · split
    · exact .inr (.inl rfl)
    · exact .inr (.inr rfl)
theorem lx_match {m : MatchD} (h : matchOK m = true) (hi : inV m.val) : Lx true (matchT m) (matchK m) := by
  simp only [matchOK, Bool.and_eq_true] at h
  have h1 := lx_attr h.1.1.1
  have h2 := lx_val h.2 hi
  have go : ∀ c, Lx false [c] [mkK c] → Lx true (attrT m.attr ++ [32] ++ [c] ++ [32] ++ valT m.val) (attrK m.attr ++ [mkK c] ++ [valK m.val]) := fun c hc => by
    have := (((h1.appN (stN_cons (by decide)) lx_blank).appM hc).appM lx_blank).appM h2
    simpa using this
  unfold matchT matchK
  rcases opW_cases m.op with e | e | e <;> rw [e]
  · exact go 61 (lx_mk 61 (by decide))
  · exact go 60 (lx_mk 60 (by decide))
  · exact go 62 (lx_mk 62 (by decide))
theorem allE_ok {l : List MatchD} (h : allE l = 0) : 1 ≤ l.length ∧ l.length ≤ 8 ∧ ∀ m ∈ l, matchOK m = true := by
  unfold allE manyE at h
  by_cases h0 : l.length = 0
  · simp [h0] at h
  by_cases h8 : l.length > 8
  · simp [h0, h8] at h
  · simp only [h0, h8, if_false, if_true] at h
    split at h
    · rename_i hm; exact ⟨by omega, by omega, List.all_eq_true.1 hm⟩
    · cases h
theorem firstE_ok {α : Type} {f : α → Int} : ∀ {l : List α}, firstE f l = 0 → ∀ x ∈ l, f x = 0
  | [], _, x, hx => by cases hx
  | y :: r, h, x, hx => by
    simp only [firstE] at h
    split at h
    · rename_i hy
      rcases List.mem_cons.1 hx with rfl | hx
      · exact hy
      · exact firstE_ok h x hx
    · rename_i hy; exact absurd h hy
theorem anyE_ok {l : List (List MatchD)} (h : anyE l = 0) : 1 ≤ l.length ∧ l.length ≤ 8 ∧ ∀ m ∈ l, allE m = 0 := by
  unfold anyE manyE at h
  by_cases h0 : l.length = 0
  · simp [h0] at h
  by_cases h8 : l.length > 8
  · simp [h0, h8] at h
  · simp only [h0, h8, if_false, if_true] at h
    exact ⟨by omega, by omega, firstE_ok h⟩
theorem tgtE_ok {t : TgtD} (h : tgtE t = 0) : t.length ≤ 8 ∧ ∀ m ∈ t, anyE m = 0 := by
  unfold tgtE at h
  split at h
  · cases h
  · exact ⟨by omega, firstE_ok h⟩
theorem lx_all {l : List MatchD} (h : allE l = 0) (hi : inA l) : Lx true (allT l) (allK l) :=
  lx_join (sep := [44, 32]) (stN_cons (by decide)) (by simpa using (lx_mk 44 (by decide)).appM lx_blank) l fun m hm => lx_match ((allE_ok h).2.2 m hm) (hi m hm)
theorem lx_any {l : List (List MatchD)} (h : anyE l = 0) (hi : inY l) : Lx false (anyT l) (anyK l) := by
  have h1 : Lx true (Lib.join (l.map allT) [32, 111, 114, 32]) (sepK (wdK [111, 114]) (l.map allK)) :=
    lx_join (stN_cons (by decide)) (lx_word (w := [111, 114]) (by decide)) l fun m hm => lx_all ((anyE_ok h).2.2 m hm) (hi m hm)
  exact ((lx_mk 40 (by decide)).appM h1).appN (stN_cons (by decide)) (lx_mk 41 (by decide))
theorem lx_tgt {t : TgtD} (h : tgtE t = 0) (hi : inT t) : Lx false (tgtT t) (tgtK t) := by
  unfold tgtT tgtK
  by_cases h0 : t = []
  · rw [if_pos h0, if_pos h0]; exact Lx.nil false
  · rw [if_neg h0, if_neg h0]
    have h1 : Lx false (Lib.join (t.map anyT) [32, 97, 110, 100, 32]) (sepK (wdK [97, 110, 100]) (t.map anyK)) :=
      lx_joinM (stN_cons (by decide)) (lx_word (w := [97, 110, 100]) (by decide)) t fun m hm => lx_any ((tgtE_ok h).2 m hm) (hi m hm)
    exact (lx_word (w := [119, 104, 101, 110]) (by decide)).appM h1
theorem stN_tgt (t : TgtD) : tgtT t = [] ∨ StN (tgtT t) := by
  unfold tgtT; split
  · exact .inl rfl
  · exact .inr (stN_cons (by decide))
end Go.Bf

set_option linter.unusedSimpArgs false
set_option linter.unusedVariables false
namespace Go.Bf
open Go Go.Ab
def zV : ValD := ⟨0, 0, []⟩
def zA : AttrD := ⟨0, [], false⟩
inductive Tree : List NodeD → Bool → Txt → List TokD → Prop
  | lit (v : ValD) (h : valOK v = true) (hi : inV v) : Tree [⟨1, v, zA⟩] false (valT v) [valK v]
  | attr (a : AttrD) (h : attrOK a = true) : Tree [⟨2, zV, a⟩] true (attrT a) (attrK a)
  | one {op : Int} {w : Bool} {l : List NodeD} {t : Txt} {k : List TokD} (ho : op = 3 ∧ w = true ∨ op = 4 ∧ w = true ∨ op = 11 ∧ w = false) (h : Tree l w t k) :
      Tree (l ++ [⟨op, zV, zA⟩]) false ([40] ++ fnW op ++ [32] ++ t ++ [41]) ([mkK 40, wdK (fnW op)] ++ k ++ [mkK 41])
  | two {op : Int} {w1 w2 : Bool} {l1 l2 : List NodeD} {t1 t2 : Txt} {k1 k2 : List TokD} (ho : op = 5 ∧ w1 = true ∧ w2 = false ∨ 6 ≤ op ∧ op ≤ 13 ∧ op ≠ 11 ∧ w1 = false ∧ w2 = false) (h1 : Tree l1 w1 t1 k1) (h2 : Tree l2 w2 t2 k2) :
      Tree (l1 ++ l2 ++ [⟨op, zV, zA⟩]) false ([40] ++ fnW op ++ [32] ++ (t1 ++ [32] ++ t2) ++ [41]) ([mkK 40, wdK (fnW op)] ++ (k1 ++ k2) ++ [mkK 41])
theorem nameOK_fn (n : Int) : nameOK (fnW n) = true := by
  unfold fnW; repeat' split
  all_goals decide
theorem lx_tree {l : List NodeD} {b : Bool} {t : Txt} {k : List TokD} (h : Tree l b t k) : Lx true t k := by
  induction h with
  | lit v h hi => exact lx_val h hi
  | attr a h => exact lx_attr h
  | @one op w l t k ho h ih =>
    have h1 := ((lx_mk 40 (by decide)).appM (lx_name (nameOK_fn op))).appN (stN_cons (by decide)) lx_blank
    have := (h1.appM ih).appN (stN_cons (by decide)) (lx_mk 41 (by decide))
    exact (by simpa using this : Lx false _ _).weaken
  | @two op w1 w2 l1 l2 t1 t2 k1 k2 ho h1 h2 ih1 ih2 =>
    have g1 := ((lx_mk 40 (by decide)).appM (lx_name (nameOK_fn op))).appN (stN_cons (by decide)) lx_blank
    have g2 := (ih1.appN (stN_cons (by decide)) lx_blank).appM ih2
    have := (g1.appM g2).appN (stN_cons (by decide)) (lx_mk 41 (by decide))
    exact (by simpa using this : Lx false _ _).weaken
def stepK (st : List (List TokD)) (n : NodeD) : List (List TokD) :=
  if n.op = 1 then st ++ [[valK n.val]] else if n.op = 2 then st ++ [attrK n.attr]
  else st.take (st.length - arity n.op) ++ [[mkK 40, wdK (fnW n.op)] ++ (st.drop (st.length - arity n.op)).flatten ++ [mkK 41]]
def exprK (l : List NodeD) : List TokD := (l.foldl stepK []).headD []
abbrev Quad := List NodeD × Bool × Txt × List TokD
def QOK (q : Quad) : Prop := Tree q.1 q.2.1 q.2.2.1 q.2.2.2
theorem zeroV_eq {v : ValD} (h : zeroV v = true) : v = zV := by
  obtain ⟨a, b, c⟩ := v
  simp only [zeroV, Bool.and_eq_true, beq_iff_eq] at h
  obtain ⟨rfl, rfl, rfl⟩ := h; rfl
theorem zeroAt_eq {v : AttrD} (h : zeroAt v = true) : v = zA := by
  obtain ⟨a, b, c⟩ := v
  simp only [zeroAt, Bool.and_eq_true, beq_iff_eq] at h
  obtain ⟨rfl, rfl, rfl⟩ := h; rfl
theorem step_quad {bs bs' : List Bool} {n : NodeD} (h : stepD bs n = some bs') (hi : inV n.val) (qs : List Quad) (hq : ∀ q ∈ qs, QOK q) (hb : qs.map (·.2.1) = bs) :
    ∃ qs' : List Quad, (∀ q ∈ qs', QOK q) ∧ qs'.map (·.2.1) = bs' ∧ qs'.map (·.2.2.1) = stepT (qs.map (·.2.2.1)) n ∧ qs'.map (·.2.2.2) = stepK (qs.map (·.2.2.2)) n ∧ (qs'.map (·.1)).flatten = (qs.map (·.1)).flatten ++ [n] := by
  unfold stepD at h
  cases hw : wantsD n.op with
  | none => rw [hw] at h; cases h
  | some w =>
    rw [hw] at h
    simp only at h
    split at h
    · rename_i hc
      obtain ⟨hf, hlen, hdr⟩ := hc
      cases h
      obtain ⟨op, v, a⟩ := n
      simp only at hw hf hi ⊢
      have hl : qs.length = bs.length := by rw [← hb, List.length_map]
      by_cases h1 : op = 1
      · subst h1
        have : w = [] := by simp [wantsD] at hw; exact hw
        subst this
        simp only [fieldsOK, if_true, Bool.and_eq_true] at hf
        rw [zeroAt_eq hf.2]
        refine ⟨qs ++ [([⟨1, v, zA⟩], false, valT v, [valK v])], fun q hq' => ?_, ?_, ?_, ?_, ?_⟩
        · rcases List.mem_append.1 hq' with h | h
          · exact hq q h
          · rw [List.mem_singleton.1 h]; exact .lit v hf.1 hi
        · simp [hb]
        · simp [stepT]
        · simp [stepK]
        · simp
      by_cases h2 : op = 2
      · subst h2
        have : w = [] := by simp [wantsD] at hw; exact hw
        subst this
        simp only [fieldsOK, show ¬ (2 : Int) = 1 by decide, if_false, if_true, Bool.and_eq_true] at hf
        rw [zeroV_eq hf.2]
        refine ⟨qs ++ [([⟨2, zV, a⟩], true, attrT a, attrK a)], fun q hq' => ?_, ?_, ?_, ?_, ?_⟩
        · rcases List.mem_append.1 hq' with h | h
          · exact hq q h
          · rw [List.mem_singleton.1 h]; exact .attr a hf.1
        · simp [hb]
        · simp [stepT]
        · simp [stepK]
        · simp
      simp only [fieldsOK, h1, h2, if_false, Bool.and_eq_true] at hf
      rw [zeroV_eq hf.1, zeroAt_eq hf.2]
      have hsplit : qs = qs.take (qs.length - w.length) ++ qs.drop (qs.length - w.length) := (List.take_append_drop ..).symm
      have hdb : (qs.drop (qs.length - w.length)).map (·.2.1) = w := by rw [List.map_drop, hb, hl]; exact hdr
      have htb : (qs.take (qs.length - w.length)).map (·.2.1) = bs.take (bs.length - w.length) := by rw [List.map_take, hb, hl]
      have hdl : (qs.drop (qs.length - w.length)).length = w.length := by rw [← List.length_map (f := fun q : Quad => q.2.1), hdb]
      generalize qs.take (qs.length - w.length) = ta at hsplit htb
      generalize qs.drop (qs.length - w.length) = dr at hsplit hdb hdl
      subst hsplit
      have hopb : ((op : Int) == 2) = false := by simpa using h2
      have hta : ∀ q ∈ ta, QOK q := fun q h => hq q (List.mem_append.2 (.inl h))
      have hdq : ∀ q ∈ dr, QOK q := fun q h => hq q (List.mem_append.2 (.inr h))
      have one : ∀ b, w = [b] → arity op = 1 → (op = 3 ∧ b = true ∨ op = 4 ∧ b = true ∨ op = 11 ∧ b = false) → ∃ qs' : List Quad, (∀ q ∈ qs', QOK q) ∧ qs'.map (·.2.1) = bs.take (bs.length - w.length) ++ [op == 2] ∧ qs'.map (·.2.2.1) = stepT ((ta ++ dr).map (·.2.2.1)) ⟨op, zV, zA⟩ ∧ qs'.map (·.2.2.2) = stepK ((ta ++ dr).map (·.2.2.2)) ⟨op, zV, zA⟩ ∧ (qs'.map (·.1)).flatten = ((ta ++ dr).map (·.1)).flatten ++ [⟨op, zV, zA⟩] := by
        rintro b rfl ha ho
        obtain ⟨q, rfl⟩ : ∃ q, dr = [q] := List.length_eq_one_iff.1 hdl
        have hqb : q.2.1 = b := by simpa using hdb
        have hq1 : Tree q.1 b q.2.2.1 q.2.2.2 := by rw [← hqb]; exact hdq q (by simp)
        refine ⟨ta ++ [(q.1 ++ [⟨op, zV, zA⟩], false, [40] ++ fnW op ++ [32] ++ q.2.2.1 ++ [41], [mkK 40, wdK (fnW op)] ++ q.2.2.2 ++ [mkK 41])], fun p hp => ?_, ?_, ?_, ?_, ?_⟩
        · rcases List.mem_append.1 hp with h | h
          · exact hta p h
          · rw [List.mem_singleton.1 h]; exact .one ho hq1
        · rw [List.map_append, htb, hopb]; rfl
        · simp [stepT, h1, h2, ha, Lib.join_one]
        · simp [stepK, h1, h2, ha]
        · simp
      have two : ∀ b1 b2, w = [b1, b2] → arity op = 2 → (op = 5 ∧ b1 = true ∧ b2 = false ∨ 6 ≤ op ∧ op ≤ 13 ∧ op ≠ 11 ∧ b1 = false ∧ b2 = false) → ∃ qs' : List Quad, (∀ q ∈ qs', QOK q) ∧ qs'.map (·.2.1) = bs.take (bs.length - w.length) ++ [op == 2] ∧ qs'.map (·.2.2.1) = stepT ((ta ++ dr).map (·.2.2.1)) ⟨op, zV, zA⟩ ∧ qs'.map (·.2.2.2) = stepK ((ta ++ dr).map (·.2.2.2)) ⟨op, zV, zA⟩ ∧ (qs'.map (·.1)).flatten = ((ta ++ dr).map (·.1)).flatten ++ [⟨op, zV, zA⟩] := by
        rintro b1 b2 rfl ha ho
        obtain ⟨q, q2, rfl⟩ : ∃ q q2, dr = [q, q2] := by
          match dr, hdl with
          | [q, q2], _ => exact ⟨q, q2, rfl⟩
        have hqb : q.2.1 = b1 ∧ q2.2.1 = b2 := by simpa using hdb
        have hq1 : Tree q.1 b1 q.2.2.1 q.2.2.2 := by rw [← hqb.1]; exact hdq q (by simp)
        have hq2 : Tree q2.1 b2 q2.2.2.1 q2.2.2.2 := by rw [← hqb.2]; exact hdq q2 (by simp)
        refine ⟨ta ++ [(q.1 ++ q2.1 ++ [⟨op, zV, zA⟩], false, [40] ++ fnW op ++ [32] ++ (q.2.2.1 ++ [32] ++ q2.2.2.1) ++ [41], [mkK 40, wdK (fnW op)] ++ (q.2.2.2 ++ q2.2.2.2) ++ [mkK 41])], fun p hp => ?_, ?_, ?_, ?_, ?_⟩
        · rcases List.mem_append.1 hp with h | h
          · exact hta p h
          · rw [List.mem_singleton.1 h]; exact .two ho hq1 hq2
        · rw [List.map_append, htb, hopb]; rfl
        · simp [stepT, h1, h2, ha, Lib.join_cons, Lib.joinTail]
        · simp [stepK, h1, h2, ha]
        · simp
      unfold wantsD at hw
      rw [if_neg (fun h => h.elim h1 h2)] at hw
      split at hw
      · rename_i h34
        cases hw
        refine one true rfl (by unfold arity; rw [if_pos]; omega) ?_
        rcases h34 with h | h
        · exact .inl ⟨h, rfl⟩
        · exact .inr (.inl ⟨h, rfl⟩)
      · split at hw
        · rename_i h5
          cases hw
          exact two true false rfl (by unfold arity; rw [if_neg]; omega) (.inl ⟨h5, rfl, rfl⟩)
        · split at hw
          · rename_i h11
            cases hw
            exact one false rfl (by unfold arity; rw [if_pos]; omega) (.inr (.inr ⟨h11, rfl⟩))
          · split at hw
            · rename_i h34 h5 h11 h613
              cases hw
              exact two false false rfl (by unfold arity; rw [if_neg]; omega) (.inr ⟨h613.1, h613.2, h11, rfl, rfl⟩)
            · cases hw
    · cases h
theorem steps_quad : ∀ (l : List NodeD) (bs bs' : List Bool) (qs : List Quad), stepsD bs l = some bs' → inL l → (∀ q ∈ qs, QOK q) → qs.map (·.2.1) = bs →
    ∃ qs' : List Quad, (∀ q ∈ qs', QOK q) ∧ qs'.map (·.2.1) = bs' ∧ qs'.map (·.2.2.1) = l.foldl stepT (qs.map (·.2.2.1)) ∧ qs'.map (·.2.2.2) = l.foldl stepK (qs.map (·.2.2.2)) ∧ (qs'.map (·.1)).flatten = (qs.map (·.1)).flatten ++ l
  | [], bs, bs', qs, h, _, hq, hb => by
    simp only [stepsD, Option.some.injEq] at h
    subst h
    exact ⟨qs, hq, hb, rfl, rfl, by simp⟩
  | n :: r, bs, bs', qs, h, hi, hq, hb => by
    simp only [stepsD] at h
    cases hs : stepD bs n with
    | none => rw [hs] at h; cases h
    | some b1 =>
      rw [hs] at h
      obtain ⟨q1, a1, a2, a3, a4, a5⟩ := step_quad hs (hi n (by simp)) qs hq hb
      obtain ⟨q2, c1, c2, c3, c4, c5⟩ := steps_quad r b1 bs' q1 h (fun m hm => hi m (by simp [hm])) a1 a2
      exact ⟨q2, c1, c2, by rw [c3, a3]; rfl, by rw [c4, a4]; rfl, by rw [c5, a5]; simp⟩
theorem expr_tree {l : List NodeD} (h : exprE l = 0) (hn : l ≠ []) (hi : inL l) : Tree l false (exprT l) (exprK l) := by
  obtain ⟨_, hs⟩ := exprE_zero h hn
  obtain ⟨qs, h1, h2, h3, h4, h5⟩ := steps_quad l [] [false] [] hs hi (fun q hq => by cases hq) rfl
  obtain ⟨q, rfl⟩ : ∃ q, qs = [q] := List.length_eq_one_iff.1 (by rw [← List.length_map (f := fun q : Quad => q.2.1), h2]; rfl)
  have hq := h1 q (by simp)
  have e1 : q.2.1 = false := by simpa using h2
  have e3 : exprT l = q.2.2.1 := by unfold exprT; rw [show l.foldl stepT [] = [q.2.2.1] from h3.symm]; rfl
  have e4 : exprK l = q.2.2.2 := by unfold exprK; rw [show l.foldl stepK [] = [q.2.2.2] from h4.symm]; rfl
  have e5 : q.1 = l := by simpa using h5
  unfold QOK at hq
  rw [e1, e5] at hq
  rw [e3, e4]; exact hq
end Go.Bf

set_option linter.unusedSimpArgs false
set_option linter.unusedVariables false
namespace Go.Bf
open Go Go.Ab
def oblK (o : OblD) : List TokD := [wdK [111, 110], wdK (onW o.on), wdK (dutyW o.kind), wdK o.arg]
def oblsK (l : List OblD) : List TokD := (l.map oblK).flatten
def condK (l : List NodeD) : List TokD := if l = [] then [] else [wdK [105, 102]] ++ exprK l
def effW (deny : Bool) : Txt := if deny then [100, 101, 110, 121] else [112, 101, 114, 109, 105, 116]
def ruleK (r : RuleD) : List TokD := [wdK (effW r.deny), wdK r.id] ++ tgtK r.tgt ++ condK r.cond ++ oblsK r.obls ++ [mkK 59]
def kindW (set : Bool) : Txt := if set then [115, 101, 116] else [112, 111, 108, 105, 99, 121]
mutual
def polK : PolD → List TokD
  | .mk id set alg tgt rules kids obls => [wdK (kindW set), wdK id, wdK (algW alg)] ++ tgtK tgt ++ [mkK 123] ++ (rules.map ruleK).flatten ++ kidsTK kids ++ [mkK 125] ++ oblsK obls
def kidsTK : List PolD → List TokD
  | [] => []
  | k :: r => polK k ++ kidsTK r
end
theorem nameOK_on (n : Int) : nameOK (onW n) = true := by unfold onW; split <;> decide
theorem nameOK_duty (n : Int) : nameOK (dutyW n) = true := by
  unfold dutyW; repeat' split
  all_goals decide
theorem nameOK_alg (n : Int) : nameOK (algW n) = true := by
  unfold algW; repeat' split
  all_goals decide
theorem oblsE_ok {l : List OblD} (h : oblsE l = 0) : l.length ≤ 8 ∧ ∀ o ∈ l, oblOK o = true := by
  unfold oblsE at h
  split at h
  · cases h
  · split at h
    · rename_i hm; exact ⟨by omega, List.all_eq_true.1 hm⟩
    · cases h
theorem lx_obl {o : OblD} (h : oblOK o = true) : Lx true (oblT o) (oblK o) := by
  simp only [oblOK, Bool.and_eq_true] at h
  have h1 := lx_word (w := [111, 110]) (by decide)
  have h2 := (h1.appM (lx_name (nameOK_on o.on))).appN (stN_cons (by decide)) lx_blank
  have h3 := (h2.appM (lx_name (nameOK_duty o.kind))).appN (stN_cons (by decide)) lx_blank
  have h4 := h3.appM (lx_name h.2)
  simpa [oblT, oblK] using h4
theorem stN_obl (o : OblD) : StN (oblT o) := by unfold oblT; exact stN_cons (by decide)
theorem lx_obls {l : List OblD} (h : oblsE l = 0) : Lx true (oblsT l) (oblsK l) := lx_flat l fun o ho => ⟨stN_obl o, lx_obl ((oblsE_ok h).2 o ho)⟩
theorem stN_obls (l : List OblD) : oblsT l = [] ∨ StN (oblsT l) := stN_flat fun o _ => stN_obl o
theorem stN_or {a b : Txt} (h : a = [] ∨ StN a) (hb : StN b) : StN (a ++ b) := by
  rcases h with rfl | h
  · exact hb
  · exact stN_app h
theorem lx_cond {l : List NodeD} (h : exprE l = 0) (hi : inL l) : Lx true (if l = [] then [] else [32, 105, 102, 32] ++ exprT l) (condK l) := by
  unfold condK
  by_cases h0 : l = []
  · rw [if_pos h0, if_pos h0]; exact Lx.nil true
  · rw [if_neg h0, if_neg h0]
    exact (lx_word (w := [105, 102]) (by decide)).appM (lx_tree (expr_tree h h0 hi))
theorem stN_cond (l : List NodeD) : (if l = [] then [] else [32, 105, 102, 32] ++ exprT l) = [] ∨ StN (if l = [] then [] else [32, 105, 102, 32] ++ exprT l) := by
  by_cases h0 : l = []
  · rw [if_pos h0]; exact .inl rfl
  · rw [if_neg h0]; exact .inr (stN_cons (by decide))
theorem lx_rule {r : RuleD} (h : ruleE r) (hi : inR r) : Lx false (ruleT r) (ruleK r) := by
  have he : Lx false (if r.deny then [32, 100, 101, 110, 121, 32] else [32, 112, 101, 114, 109, 105, 116, 32]) [wdK (effW r.deny)] := by
    cases r.deny
    · exact lx_word (w := [112, 101, 114, 109, 105, 116]) (by decide)
    · exact lx_word (w := [100, 101, 110, 121]) (by decide)
  have g1 := lx_tgt h.2.1 hi.1
  have g2 := lx_cond h.2.2.1 hi.2
  have g3 := lx_obls h.2.2.2
  have a0 : Lx true (oblsT r.obls ++ [59]) (oblsK r.obls ++ [mkK 59]) := (g3.appN (stN_cons (by decide)) (lx_mk 59 (by decide))).weaken
  have a1 : Lx false (oblsT r.obls ++ [59]) (oblsK r.obls ++ [mkK 59]) := g3.appN (stN_cons (by decide)) (lx_mk 59 (by decide))
  have a2 : Lx false ((if r.cond = [] then [] else [32, 105, 102, 32] ++ exprT r.cond) ++ (oblsT r.obls ++ [59])) (condK r.cond ++ (oblsK r.obls ++ [mkK 59])) := g2.appN (stN_or (stN_obls _) (stN_cons (by decide))) a1
  have a3 := g1.appM a2
  have a4 := he.appM ((lx_name h.1).appN (by
    rcases stN_tgt r.tgt with e | e
    · rw [e, List.nil_append]; exact stN_or (stN_cond _) (stN_or (stN_obls _) (stN_cons (by decide)))
    · exact stN_app e) a3)
  unfold ruleT ruleK
  simpa using a4
mutual
theorem lx_pol : ∀ (p : PolD) (d : Nat), polE d p → inP p → Lx true (polT p) (polK p)
  | .mk id set alg tgt rules kids obls, d, h, hi => by
    simp only [polE] at h
    obtain ⟨_, hid, _, _, _, _, htg, hob, _, _, hru, hki⟩ := h
    simp only [inP] at hi
    have hk : Lx false (if set then [115, 101, 116, 32] else [112, 111, 108, 105, 99, 121, 32]) [wdK (kindW set)] := by
      cases set
      · exact (lx_name (s := [112, 111, 108, 105, 99, 121]) (by decide)).appN (stN_cons (by decide)) lx_blank
      · exact (lx_name (s := [115, 101, 116]) (by decide)).appN (stN_cons (by decide)) lx_blank
    have g1 := lx_tgt htg hi.1
    have b1 : Lx false ([32] ++ [123]) ([] ++ [mkK 123]) := lx_blank.appM (lx_mk 123 (by decide))
    have b2 := g1.appM b1
    have b3 := (((lx_name hid).appN (stN_cons (by decide)) lx_blank).appM (lx_name (nameOK_alg alg))).appN (by
      rcases stN_tgt tgt with e | e
      · rw [e]; exact stN_cons (by decide)
      · exact stN_app e) b2
    have r1 : Lx false (rules.map ruleT).flatten (rules.map ruleK).flatten := lx_flatM rules fun r hr => lx_rule (hru r hr) (hi.2.1 r hr)
    have k1 := lx_kids kids (d + 1) hki hi.2.2
    have c1 : Lx false ([32] ++ [125]) ([] ++ [mkK 125]) := lx_blank.appM (lx_mk 125 (by decide))
    have c2 := (k1.appN (stN_cons (by decide)) c1).appM (lx_obls hob)
    have := ((hk.appM b3).appM r1).appM c2
    simp only [polT, polK]
    simpa using this
theorem lx_kids : ∀ (l : List PolD) (d : Nat), kidsE d l → inK l → Lx true (kidsT l) (kidsTK l)
  | [], d, _, _ => Lx.nil true
  | k :: r, d, h, hi => by
    simp only [kidsE] at h
    simp only [inK] at hi
    simp only [kidsT, kidsTK]
    have h1 := lx_blank.appM (lx_pol k d h.1 hi.1)
    have h2 := lx_kids r d h.2 hi.2
    refine h1.appO ?_ h2
    cases r with
    | nil => exact .inl rfl
    | cons _ _ => simp only [kidsT]; exact .inr (stN_cons (by decide))
end
theorem lex_pol {p : PolD} (h : polE 1 p) (hi : inP p) {f : Nat} (hf : (polT p).length < f) : ∃ ts, lexF f (polT p) 0 [] = .ok ts ∧ ts.map er = polK p ++ [endK] := by
  have hx := lx_pol p 1 h hi [] f 0 [] (fun _ => Sep.nil) (by simpa using hf)
  obtain ⟨f', new, h1, h2, h3⟩ := hx
  rw [List.append_nil] at h3
  obtain ⟨g, rfl⟩ : ∃ g, f' = g + 1 := ⟨f' - 1, by simp at h1; omega⟩
  refine ⟨new ++ [⟨7, ((0 + (polT p).length : Nat) : Int), 0, []⟩], by rw [h3]; simp [lexF], ?_⟩
  rw [List.map_append, h2]; rfl
end Go.Bf

set_option linter.unusedSimpArgs false
set_option linter.unusedVariables false
namespace Go.Bf
open Go Go.Ab
def At (st : PS) (ks : List TokD) : Prop := st.bad = 0 ∧ (st.ts.drop st.pos).map er = ks
def St (a b : PS) : Prop := b.rules = a.rules ∧ b.ts = a.ts
theorem St.refl (a : PS) : St a a := ⟨rfl, rfl⟩
theorem St.trans {a b c : PS} (x : St a b) (y : St b c) : St a c := ⟨y.1.trans x.1, y.2.trans x.2⟩
def isK (k : TokD) (w : Txt) : Bool := k.s == w && (k.kind == 1 || k.kind == 6)
def Reads {α : Type} (r : α × PS) (st : PS) (x : α) (ks : List TokD) : Prop := ∃ st', r = (x, st') ∧ At st' ks ∧ St st st'
theorem at_drop {st : PS} {k : TokD} {ks : List TokD} (h : At st (k :: ks)) : ∃ t r, st.ts.drop st.pos = t :: r ∧ er t = k ∧ r.map er = ks ∧ st.ts.drop (st.pos + 1) = r ∧ hereD st = t := by
  obtain ⟨_, h⟩ := h
  cases hd : st.ts.drop st.pos with
  | nil => rw [hd] at h; cases h
  | cons t r =>
    rw [hd] at h
    simp only [List.map_cons, List.cons.injEq] at h
    refine ⟨t, r, rfl, h.1, h.2, ?_, ?_⟩
    · rw [← List.drop_drop, hd]; rfl
    · have hlt : st.pos < st.ts.length := by
        rcases Nat.lt_or_ge st.pos st.ts.length with h | h
        · exact h
        · rw [List.drop_eq_nil_of_le h] at hd; cases hd
      rw [hereD_eq hlt]
      rw [List.drop_eq_getElem_cons hlt] at hd
      exact (List.cons.inj hd).1
theorem at_here {st : PS} {k : TokD} {ks : List TokD} (h : At st (k :: ks)) : (hereD st).kind = k.kind ∧ (hereD st).n = k.n ∧ (hereD st).s = k.s := by
  obtain ⟨t, r, _, h1, _, _, h2⟩ := at_drop h
  rw [h2, ← h1]
  exact ⟨rfl, rfl, rfl⟩
theorem at_next {st : PS} {k : TokD} {ks : List TokD} (h : At st (k :: ks)) : At (nextD st) ks ∧ St st (nextD st) := by
  obtain ⟨t, r, _, _, h1, h2, _⟩ := at_drop h
  exact ⟨⟨h.1, by show (st.ts.drop (st.pos + 1)).map er = ks; rw [h2]; exact h1⟩, rfl, rfl⟩
theorem at_is {st : PS} {k : TokD} {ks : List TokD} (h : At st (k :: ks)) (w : Txt) : isD st w = isK k w := by
  obtain ⟨h1, _, h3⟩ := at_here h
  simp only [isD, isK, h.1, h1, h3, beq_self_eq_true, Bool.true_and]
theorem at_len {st : PS} {ks : List TokD} (h : At st ks) : ks.length ≤ st.ts.length := by
  rw [← h.2, List.length_map, List.length_drop]; omega
theorem rd_must {st : PS} {k : TokD} {ks : List TokD} {w : Txt} (h : At st (k :: ks)) (hk : isK k w = true) : At (mustD st w) ks ∧ St st (mustD st w) := by
  unfold mustD; rw [at_is h, if_pos hk]; exact at_next h
theorem rd_name {st : PS} {s : Txt} {ks : List TokD} (h : At st (wdK s :: ks)) : Reads (nameP st) st s ks := by
  obtain ⟨h1, _, h3⟩ := at_here h
  have h1' : (hereD st).kind = 1 := h1
  unfold nameP
  rw [if_pos ⟨h1', h.1⟩, show (hereD st).s = s from h3]
  exact ⟨_, rfl, at_next h⟩
theorem rd_among {st : PS} {s : Txt} {ks : List TokD} {ws : List Txt} {i : Nat} (h : At st (wdK s :: ks)) (hi : idxT s ws = some i) : Reads (amongD st ws) st ((i : Int) + 1) ks := by
  obtain ⟨h1, _, h3⟩ := at_here h
  have h1' : (hereD st).kind = 1 := h1
  have h3' : (hereD st).s = s := h3
  unfold amongD
  rw [h3', hi]
  simp only
  rw [if_pos ⟨h1', h.1⟩]
  exact ⟨_, rfl, at_next h⟩
theorem rd_take {st : PS} {k : TokD} {ks : List TokD} {w : Txt} (h : At st (k :: ks)) : Reads (takeD st w) st (isK k w) (if isK k w = true then ks else k :: ks) := by
  unfold takeD; rw [at_is h]
  cases hk : isK k w
  · exact ⟨st, rfl, h, .refl _⟩
  · exact ⟨_, rfl, at_next h⟩
theorem idx_cat {n : Int} (h1 : 1 ≤ n) (h4 : n ≤ 4) : ∃ i, idxT (catW n) catWs = some i ∧ (i : Int) + 1 = n := by
  have : n = 1 ∨ n = 2 ∨ n = 3 ∨ n = 4 := by omega
  rcases this with rfl | rfl | rfl | rfl
  · exact ⟨0, rfl, rfl⟩
  · exact ⟨1, rfl, rfl⟩
  · exact ⟨2, rfl, rfl⟩
  · exact ⟨3, rfl, rfl⟩
theorem rd_attr {st : PS} {a : AttrD} {k : TokD} {ks : List TokD} (ha : attrOK a = true) (h : At st (attrK a ++ k :: ks)) (hk : isK k [33] = false) : Reads (attrP st) st a (k :: ks) := by
  obtain ⟨cat, nm, must⟩ := a
  simp only [attrOK, Bool.and_eq_true, decide_eq_true_eq] at ha
  obtain ⟨i, hi, hic⟩ := idx_cat ha.1.1 ha.1.2
  simp only [attrK, List.cons_append, List.nil_append] at h
  obtain ⟨s1, e1, a1, t1⟩ := rd_among h hi
  obtain ⟨a2, t2⟩ := rd_must (w := [46]) a1 rfl
  obtain ⟨s3, e3, a3, t3⟩ := rd_name a2
  unfold attrP
  rw [e1]
  simp only
  rw [e3]
  simp only
  cases must
  · simp only [Bool.false_eq_true, if_false, List.nil_append] at a3
    obtain ⟨s4, e4, a4, t4⟩ := rd_take (w := [33]) a3
    rw [hk] at e4 a4
    rw [e4]
    exact ⟨s4, by simp only [hic], by simpa using a4, ((t1.trans t2).trans t3).trans t4⟩
  · simp only [if_true, List.cons_append, List.nil_append] at a3
    obtain ⟨s4, e4, a4, t4⟩ := rd_take (w := [33]) a3
    rw [show isK (mkK 33) [33] = true from rfl] at e4 a4
    rw [e4]
    exact ⟨s4, by simp only [hic], by simpa using a4, ((t1.trans t2).trans t3).trans t4⟩
theorem rd_value {st : PS} {v : ValD} {ks : List TokD} (hv : valOK v = true) (h : At st (valK v :: ks)) : Reads (valueP st) st v ks := by
  obtain ⟨h1, h2, h3⟩ := at_here h
  have hn := at_next h
  have go : ∀ x, valueV st = (x, st) → x = v → Reads (valueP st) st v ks := fun x e ex => by
    unfold valueP; rw [e]; simp only [h.1, if_true]; rw [ex]; exact ⟨_, rfl, hn⟩
  obtain ⟨kind, n, s⟩ := v
  unfold valOK at hv
  simp only at hv
  by_cases k1 : kind = 1
  · subst k1
    simp only [if_true, Bool.and_eq_true, Bool.or_eq_true, beq_iff_eq] at hv
    obtain ⟨hn0, rfl⟩ := hv
    have b1 := at_is h trueT
    have b2 := at_is h falseT
    rcases hn0 with rfl | rfl
    · refine go ⟨1, 0, []⟩ ?_ rfl
      have h1' : (hereD st).kind = 1 := h1
      rw [show isK (valK ⟨1, 0, []⟩) trueT = false from by decide] at b1
      rw [show isK (valK ⟨1, 0, []⟩) falseT = true from by decide] at b2
      simp [valueV, h1', b1, b2]
    · refine go ⟨1, 1, []⟩ ?_ rfl
      have h1' : (hereD st).kind = 1 := h1
      rw [show isK (valK ⟨1, 1, []⟩) trueT = true from by decide] at b1
      simp [valueV, h1', b1]
  by_cases k4 : kind = 4
  · subst k4
    simp only [show ¬ (4 : Int) = 1 by decide, show ¬ (4 : Int) = 2 by decide, show ¬ (4 : Int) = 3 by decide, if_false, if_true, Bool.and_eq_true, beq_iff_eq] at hv
    obtain ⟨_, rfl⟩ := hv
    have h1' : (hereD st).kind = 3 := h1
    have h2' : (hereD st).n = n := h2
    have h3' : (hereD st).s = [] := h3
    refine go ⟨4, n, []⟩ ?_ rfl
    simp [valueV, h1', h2', h3']
  by_cases k5 : kind = 5
  · subst k5
    simp only [show ¬ (5 : Int) = 1 by decide, show ¬ (5 : Int) = 2 by decide, show ¬ (5 : Int) = 3 by decide, show ¬ (5 : Int) = 4 by decide, if_false, if_true, Bool.and_eq_true, beq_iff_eq] at hv
    obtain ⟨rfl, _⟩ := hv
    have h1' : (hereD st).kind = 4 := h1
    have h2' : (hereD st).n = 0 := h2
    have h3' : (hereD st).s = s := h3
    refine go ⟨5, 0, s⟩ ?_ rfl
    simp [valueV, h1', h2', h3']
  by_cases k3 : kind = 3
  · subst k3
    simp only [show ¬ (3 : Int) = 1 by decide, show ¬ (3 : Int) = 2 by decide, if_false, if_true, Bool.and_eq_true, beq_iff_eq] at hv
    obtain ⟨rfl, _⟩ := hv
    have h1' : (hereD st).kind = 5 := h1
    have h2' : (hereD st).n = 0 := h2
    have h3' : (hereD st).s = s := h3
    refine go ⟨3, 0, s⟩ ?_ rfl
    simp [valueV, h1', h2', h3']
  by_cases k2 : kind = 2
  · subst k2
    simp only [show ¬ (2 : Int) = 1 by decide, if_false, if_true, beq_iff_eq] at hv
    subst hv
    have h1' : (hereD st).kind = 2 := h1
    have h2' : (hereD st).n = n := h2
    have h3' : (hereD st).s = [] := h3
    refine go ⟨2, n, []⟩ ?_ rfl
    simp [valueV, h1', h2', h3']
  · simp [k1, k2, k3, k4, k5] at hv
theorem rd_match {st : PS} {m : MatchD} {ks : List TokD} (hm : matchOK m = true) (h : At st (matchK m ++ ks)) : Reads (matchP st) st m ks := by
  obtain ⟨a, op, v⟩ := m
  simp only [matchOK, Bool.and_eq_true, decide_eq_true_eq] at hm
  obtain ⟨⟨⟨ha, o1⟩, o3⟩, hv⟩ := hm
  have go : ∀ c, opW op = [c] → isK (mkK c) [33] = false → (∀ s, At s (mkK c :: (valK v :: ks)) → Reads (opP s) s op (valK v :: ks)) → Reads (matchP st) st ⟨a, op, v⟩ ks := fun c hc h33 hop => by
    simp only [matchK, hc, List.append_assoc, List.cons_append, List.nil_append] at h
    obtain ⟨s1, e1, a1, t1⟩ := rd_attr ha h h33
    obtain ⟨s2, e2, a2, t2⟩ := hop s1 a1
    obtain ⟨s3, e3, a3, t3⟩ := rd_value hv a2
    unfold matchP
    rw [e1]; simp only
    rw [e2]; simp only
    rw [e3]
    exact ⟨s3, rfl, a3, (t1.trans t2).trans t3⟩
  have : op = 1 ∨ op = 2 ∨ op = 3 := by omega
  rcases this with rfl | rfl | rfl
  · refine go 61 rfl (by decide) fun s hs => ?_
    have b := at_is hs [61]
    rw [show isK (mkK 61) [61] = true from rfl] at b
    unfold opP; rw [if_pos b]; exact ⟨_, rfl, at_next hs⟩
  · refine go 60 rfl (by decide) fun s hs => ?_
    have b := at_is hs [61]
    have b2 := at_is hs [60]
    rw [show isK (mkK 60) [61] = false from by decide] at b
    rw [show isK (mkK 60) [60] = true from rfl] at b2
    unfold opP; rw [if_neg (by rw [b]; decide), if_pos b2]; exact ⟨_, rfl, at_next hs⟩
  · refine go 62 rfl (by decide) fun s hs => ?_
    have b := at_is hs [61]
    have b2 := at_is hs [60]
    have b3 := at_is hs [62]
    rw [show isK (mkK 62) [61] = false from by decide] at b
    rw [show isK (mkK 62) [60] = false from by decide] at b2
    rw [show isK (mkK 62) [62] = true from rfl] at b3
    unfold opP; rw [if_neg (by rw [b]; decide), if_neg (by rw [b2]; decide), if_pos b3]; exact ⟨_, rfl, at_next hs⟩
theorem limit_no {st : PS} {b : Bool} (h : b = false) : limitD st b = st := by subst h; rfl
theorem rd_many {α : Type} {one : PS → α × PS} {w : Txt} {wK : TokD} {most : Nat} {tk : α → List TokD} (hw : isK wK w = true) : ∀ (xs : List α) (f : Nat) (st : PS) (l : List α) (k : TokD) (ks : List TokD),
    (∀ x ∈ xs, ∀ st k' ks', k' = wK ∨ k' = k → At st (tk x ++ k' :: ks') → Reads (one st) st x (k' :: ks')) →
    At st ((xs.map fun x => wK :: tk x).flatten ++ k :: ks) → isK k w = false → xs.length ≤ f → l.length + xs.length ≤ most → Reads (manyF one w most f st l) st (l ++ xs) (k :: ks)
  | [], f, st, l, k, ks, _, h, hk, _, _ => by
    simp only [List.map_nil, List.flatten_nil, List.nil_append] at h
    have b := at_is h w
    rw [hk] at b
    refine ⟨st, ?_, h, .refl _⟩
    cases f <;> simp [manyF, b]
  | x :: r, f, st, l, k, ks, ho, h, hk, hf, hl => by
    obtain ⟨g, rfl⟩ : ∃ g, f = g + 1 := ⟨f - 1, by simp at hf; omega⟩
    simp only [List.map_cons, List.flatten_cons, List.cons_append, List.append_assoc] at h
    have b := at_is h w
    rw [hw] at b
    obtain ⟨a1, t1⟩ := at_next h
    simp only [List.length_cons] at hf hl
    have hone : Reads (one (nextD st)) (nextD st) x ((r.map fun x => wK :: tk x).flatten ++ k :: ks) := by
      cases r with
      | nil => exact ho x (by simp) _ k ks (.inr rfl) a1
      | cons y r => exact ho x (by simp) _ wK _ (.inl rfl) a1
    obtain ⟨s2, e2, a2, t2⟩ := hone
    obtain ⟨s3, e3, a3, t3⟩ := rd_many (most := most) hw r g s2 (l ++ [x]) k ks (fun y hy => ho y (by simp [hy])) a2 hk (by omega) (by simp; omega)
    refine ⟨s3, ?_, a3, (t1.trans t2).trans t3⟩
    unfold manyF
    rw [if_pos b, e2]
    simp only
    have hd : decide (most < l.length + 1) = false := decide_eq_false (by omega)
    rw [hd, limit_no rfl, e3, List.append_assoc]
    rfl
theorem sepK_cons {α : Type} (w : TokD) (f : α → List TokD) (x : α) (r : List α) : sepK w ((x :: r).map f) = f x ++ (r.map fun y => w :: f y).flatten := by
  simp only [List.map_cons, sepK, List.map_map]; rfl
end Go.Bf
