/- The rules by which simp carries out code over abstract values. No continuation is looked into ahead of what it waits for. -/
import Derived.Test.YtidpcjblciompaaAb16
set_option linter.unusedSimpArgs false
set_option linter.unusedVariables false
namespace Go.Ab
open Go

section
variable {P : Program} {U : TypeId → TI} {n : Nat} {ρ : Env} {h : Heap}

/-! ### What waits -/
def bindO {α : Type} (o : Option α) (k : α → Prop) : Prop := match o with
  | some y => k y
  | none => False
@[congr] theorem bindO_congr {α : Type} {o o' : Option α} {k : α → Prop} (e : o = o') : bindO o k = bindO o' k := by rw [e]
@[go_sem] theorem bindO_some {α : Type} (y : α) (k : α → Prop) : bindO (some y) k = k y := rfl
@[go_sem] theorem bindO_none {α : Type} (k : α → Prop) : bindO none k = False := rfl

/-- A test. -/
def Br (t : Bool) (A B : Prop) : Prop := (t = true → A) ∧ (t = false → B)
@[congr] theorem Br_congr {t t' : Bool} {A B : Prop} (e : t = t') : Br t A B = Br t' A B := by rw [e]
@[go_sem] theorem Br_true (A B : Prop) : Br true A B = A := by simp [Br]
@[go_sem] theorem Br_false (A B : Prop) : Br false A B = B := by simp [Br]
theorem Br.intro {t : Bool} {A B : Prop} (h1 : t = true → A) (h2 : t = false → B) : Br t A B := ⟨h1, h2⟩

/-- What comes behind, in a memory. -/
def atH (Q : AV → Heap → Prop) (h : Heap) (r : AV) : Prop := Q r h
@[go_sem ↓] theorem atH_eq (Q : AV → Heap → Prop) (h : Heap) (r : AV) : atH Q h r = Q r h := rfl

/-- By what a type is. -/
def atK (t : TK) (k : TK → Prop) : Prop := k t
@[congr] theorem atK_congr {t t' : TK} {k : TK → Prop} (e : t = t') : atK t k = atK t' k := by rw [e]
@[go_sem] theorem atK_int (x : IntKind) (k : TK → Prop) : atK (.int x) k = k (.int x) := rfl
@[go_sem] theorem atK_bool (k : TK → Prop) : atK .bool k = k .bool := rfl
@[go_sem] theorem atK_str (k : TK → Prop) : atK .str k = k .str := rfl
@[go_sem] theorem atK_slice (x : TypeId) (k : TK → Prop) : atK (.slice x) k = k (.slice x) := rfl
@[go_sem] theorem atK_strct (x : List (Nat × TypeId)) (k : TK → Prop) : atK (.strct x) k = k (.strct x) := rfl
@[go_sem] theorem atK_ptr (x : TypeId) (k : TK → Prop) : atK (.ptr x) k = k (.ptr x) := rfl
@[go_sem] theorem atK_arr (m : Nat) (x : TypeId) (k : TK → Prop) : atK (.arr m x) k = k (.arr m x) := rfl
@[go_sem] theorem atK_iface (k : TK → Prop) : atK .iface k = k .iface := rfl
@[go_sem] theorem atK_cplx (x : FloatKind) (k : TK → Prop) : atK (.cplx x) k = k (.cplx x) := rfl
@[go_sem] theorem atK_other (k : TK → Prop) : atK .other k = k .other := rfl

/-- An element's address. -/
def IdxE (xs : List AV) (m : Int) (sz : Nat) (k : AV → Prop) : Prop := Idx xs m fun b => b.cells.length = sz ∧ k (.pe b 0)
theorem IdxE.at {xs : List AV} {sz : Nat} {k : AV → Prop} (j : Nat) (hj : j < xs.length) (hz : xs[j].cells.length = sz) (hk : k (.pe xs[j] 0)) : IdxE xs (j : Int) sz k := ⟨by omega, xs[j], by simp [hj], hz, hk⟩
theorem IdxE.of {xs : List AV} {m : Int} {sz : Nat} {k : AV → Prop} (j : Nat) (hm : m = j) (hj : j < xs.length) (hz : xs[j].cells.length = sz) (hk : k (.pe xs[j] 0)) : IdxE xs m sz k := by subst hm; exact IdxE.at j hj hz hk
/-- A byte of a string. -/
def IdxB (l : List UInt8) (m : Int) (k : AV → Prop) : Prop := Idx l m fun b => k (byteA b)
theorem IdxB.at {l : List UInt8} {k : AV → Prop} (j : Nat) (hj : j < l.length) (hk : k (byteA l[j])) : IdxB l (j : Int) k := ⟨by omega, l[j], by simp [hj], hk⟩
theorem IdxB.of {l : List UInt8} {m : Int} {k : AV → Prop} (j : Nat) (hm : m = j) (hj : j < l.length) (hk : k (byteA l[j])) : IdxB l m k := by subst hm; exact IdxB.at j hj hk
@[congr] theorem FnOK_congr {f f' : FuncId} {a a' : List AV} {h h' : Heap} {Q : AV → Heap → Prop} (h0 : f = f') (h1 : a = a') (h2 : h = h') : FnOK P f a h Q = FnOK P f' a' h' Q := by rw [h0, h1, h2]

/-! ### Slots and operands -/
@[go_sem ↓] theorem lk_nil (t : Nat) : lk [] t = none := rfl
@[go_sem ↓] theorem lk_cons (k : Nat) (x : AV) (r : Env) (t : Nat) : lk ((k, x) :: r) t = if k = t then some x else lk r t := rfl
@[go_sem ↓] theorem lk_put_some (d : Nat) (x : AV) (r : Env) (t : Nat) : lk (put r (some d) x) t = if d = t then some x else lk r t := rfl
@[go_sem ↓] theorem lk_put_none (x : AV) (r : Env) (t : Nat) : lk (put r none x) t = lk r t := rfl
@[go_sem ↓] theorem lk_env0 (t : Nat) : lk (envOf []) t = none := rfl
@[go_sem ↓] theorem lk_env (args : List AV) (t : Nat) : lk (envOf args) t = args[t]? := by
  have := lk_envOf args 0 t
  simp only [Nat.zero_le, if_true, Nat.sub_zero] at this
  exact this
@[go_sem] theorem get_zero {α : Type} (x : α) (r : List α) : (x :: r)[0]? = some x := rfl
@[go_sem] theorem get_succ {α : Type} (x : α) (r : List α) (i : Nat) : (x :: r)[i + 1]? = r[i]? := by simp
@[go_sem ↓] theorem ev_tmp (t : Nat) : ev ρ (.tmp t) = lk ρ t := rfl
@[go_sem ↓] theorem ev_int (k : IntKind) (m : Int) : ev ρ (.const (.int k m)) = some (.v (.int k m)) := rfl
@[go_sem ↓] theorem ev_bool (b : Bool) : ev ρ (.const (.bool b)) = some (.v (.bool b)) := rfl
@[go_sem ↓] theorem ev_ptr (a : Option Addr) : ev ρ (.const (.pointer a)) = some (.v (.pointer a)) := rfl
@[go_sem ↓] theorem ev_nilIface : ev ρ (.const .nilIface) = some (.v .nilIface) := rfl
@[go_sem ↓] theorem ev_cplx (k : FloatKind) (a b : Nat) : ev ρ (.const (.complex k a b)) = some (.v (.complex k a b)) := rfl
@[go_sem ↓] theorem ev_nilSlice : ev ρ (.const (.slice none 0 0)) = some (.sl [] .full) := rfl
theorem ev_str_lt {l : List UInt8} (hl : l.length < 4096) : ev ρ (.const (.string ⟨l.toArray⟩)) = some (.s l) := by
  have : l.length < lim := by simp only [lim]; omega
  simp [ev, ofV, ofV1, this]
@[go_sem] theorem ev_str (l : List UInt8) (hl : decide (l.length < 4096) = true) : ev ρ (.const (.string ⟨l.toArray⟩)) = some (.s l) := ev_str_lt (of_decide_eq_true hl)
@[go_sem ↓] theorem ev_func (f : FuncId) : ev ρ (.func f) = some (.fn f []) := rfl
theorem ev_agg (l : List Value) : ev ρ (.const (.agg l.toArray)) = some (ofV (.agg l.toArray)) := rfl

def consO (x : Option AV) (r : Option (List AV)) : Option (List AV) := match x, r with
  | some y, some ys => some (y :: ys)
  | _, _ => none
@[go_sem] theorem consO_some (y : AV) (ys : List AV) : consO (some y) (some ys) = some (y :: ys) := rfl
@[go_sem ↓] theorem evs_nil : evs ρ [] = some [] := rfl
@[go_sem ↓] theorem evs_cons (x : Operand) (r : List Operand) : evs ρ (x :: r) = consO (ev ρ x) (evs ρ r) := rfl
@[go_sem ↓] theorem withv_eq (x : Operand) (k : AV → Prop) : withv ρ x k = bindO (ev ρ x) k := by unfold withv bindO; cases ev ρ x <;> rfl
@[go_sem ↓] theorem withvs_eq (xs : List Operand) (k : List AV → Prop) : withvs ρ xs k = bindO (evs ρ xs) k := by unfold withvs bindO; cases evs ρ xs <;> rfl

/-! ### Code -/
@[go_sem ↓] theorem r_skip (K : Exit → Env → Heap → Prop) : vcCode P U n .skip ρ h K = K .normal ρ h := rfl
@[go_sem ↓] theorem r_region (id : Nat) (l : List Oper) (K : Exit → Env → Heap → Prop) : vcCode P U n (.region id l.toArray false) ρ h K = vcOps P U n l l ρ h (K .normal) := rfl
/-- What comes behind the first of two pieces. -/
def KSeqC (P : Program) (U : TypeId → TI) (n : Nat) (b : Code) (K : Exit → Env → Heap → Prop) : Exit → Env → Heap → Prop := KSeq (fun ρ h => vcCode P U n b ρ h K) K
@[go_sem ↓] theorem r_seq (a b : Code) (K : Exit → Env → Heap → Prop) : vcCode P U n (.seq a b) ρ h K = vcCode P U n a ρ h (KSeqC P U n b K) := rfl
@[go_sem ↓] theorem KSeqC_normal (b : Code) (K : Exit → Env → Heap → Prop) : KSeqC P U n b K .normal ρ h = vcCode P U n b ρ h K := rfl
@[go_sem ↓] theorem KSeqC_ret (b : Code) (K : Exit → Env → Heap → Prop) : KSeqC P U n b K .ret ρ h = K .ret ρ h := rfl
@[go_sem ↓] theorem KSeqC_exit (b : Code) (K : Exit → Env → Heap → Prop) (i : Nat) : KSeqC P U n b K (.exit i) ρ h = K (.exit i) ρ h := rfl
@[go_sem ↓] theorem KSeqC_goto (b : Code) (K : Exit → Env → Heap → Prop) (i : Nat) : KSeqC P U n b K (.goto i) ρ h = K (.goto i) ρ h := rfl
/-- A test and both ways. -/
def CondC (P : Program) (U : TypeId → TI) (n : Nat) (a b : Code) (ρ : Env) (h : Heap) (K : Exit → Env → Heap → Prop) (y : AV) : Prop := match y with
  | .v (.bool t) => (t = true → vcCode P U n a ρ h K) ∧ (t = false → vcCode P U n b ρ h K)
  | _ => False
@[go_sem ↓] theorem CondC_true (a b : Code) (K : Exit → Env → Heap → Prop) : CondC P U n a b ρ h K (.v (.bool true)) = vcCode P U n a ρ h K := by simp [CondC]
@[go_sem ↓] theorem CondC_false (a b : Code) (K : Exit → Env → Heap → Prop) : CondC P U n a b ρ h K (.v (.bool false)) = vcCode P U n b ρ h K := by simp [CondC]
theorem CondC.intro {a b : Code} {K : Exit → Env → Heap → Prop} {t : Bool} (h1 : t = true → vcCode P U n a ρ h K) (h2 : t = false → vcCode P U n b ρ h K) : CondC P U n a b ρ h K (.v (.bool t)) := ⟨h1, h2⟩
theorem CondC.yes {a b : Code} {K : Exit → Env → Heap → Prop} {t : Bool} (e : t = true) (h1 : vcCode P U n a ρ h K) : CondC P U n a b ρ h K (.v (.bool t)) := ⟨fun _ => h1, fun h => absurd (e.symm.trans h) (by simp)⟩
theorem CondC.no {a b : Code} {K : Exit → Env → Heap → Prop} {t : Bool} (e : t = false) (h1 : vcCode P U n b ρ h K) : CondC P U n a b ρ h K (.v (.bool t)) := ⟨fun h => absurd (e.symm.trans h) (by simp), fun _ => h1⟩
@[go_sem ↓] theorem r_cond (c : Operand) (a b : Code) (K : Exit → Env → Heap → Prop) : vcCode P U n (.cond c a b) ρ h K = bindO (ev ρ c) (CondC P U n a b ρ h K) := by
  simp only [vcCode, withv]
  cases ev ρ c with
  | none => rfl
  | some y => cases y with
    | v x => cases x <;> rfl
    | _ => rfl
@[go_sem ↓] theorem r_block (id : Nat) (c : Code) (K : Exit → Env → Heap → Prop) : vcCode P U n (.block id c) ρ h K = vcCode P U n c ρ h (KBlock id K) := rfl
/-- A loop. -/
def LoopC (P : Program) (U : TypeId → TI) (n : Nat) (c : Code) (ρ : Env) (h : Heap) (K : Exit → Env → Heap → Prop) : Prop := LoopVC (fun ρ h K => vcCode P U n c ρ h K) ρ h K
/-- What a round must come to. -/
def KRound (I : Nat → Env → Heap → Prop) (m : Nat) (K : Exit → Env → Heap → Prop) : Exit → Env → Heap → Prop := KSeq (fun ρ' h' => ∃ m', m' < m ∧ I m' ρ' h') K
theorem KRound_normal {I : Nat → Env → Heap → Prop} {m : Nat} {K : Exit → Env → Heap → Prop} : KRound I m K .normal ρ h = ∃ m', m' < m ∧ I m' ρ h := rfl
@[go_sem ↓] theorem KRound_ret {I : Nat → Env → Heap → Prop} {m : Nat} {K : Exit → Env → Heap → Prop} : KRound I m K .ret ρ h = K .ret ρ h := rfl
@[go_sem ↓] theorem KRound_exit {I : Nat → Env → Heap → Prop} {m : Nat} {K : Exit → Env → Heap → Prop} (i : Nat) : KRound I m K (.exit i) ρ h = K (.exit i) ρ h := rfl
theorem LoopC.intro {c : Code} {K : Exit → Env → Heap → Prop} (I : Nat → Env → Heap → Prop) (m : Nat) (h0 : I m ρ h) (hr : ∀ m ρ h, I m ρ h → vcCode P U n c ρ h (KRound I m K)) : LoopC P U n c ρ h K := fun _ => ⟨I, m, h0, hr⟩
theorem LoopC.wf {c : Code} {K : Exit → Env → Heap → Prop} (hk : Wf ρ → LoopC P U n c ρ h K) : LoopC P U n c ρ h K := fun hw => hk hw hw
@[go_sem ↓] theorem r_loop (c : Code) (K : Exit → Env → Heap → Prop) : vcCode P U n (.loop c) ρ h K = LoopC P U n c ρ h K := rfl
@[go_sem ↓] theorem r_exit (id : Nat) (K : Exit → Env → Heap → Prop) : vcCode P U n (.exit id) ρ h K = K (.exit id) ρ h := rfl
@[go_sem ↓] theorem r_ret (K : Exit → Env → Heap → Prop) : vcCode P U n .ret ρ h K = K .ret ρ h := rfl
@[go_sem ↓] theorem r_label (l : Nat) (K : Exit → Env → Heap → Prop) : vcCode P U n (.label l) ρ h K = K .normal ρ h := rfl
@[go_sem ↓] theorem r_goto (l : Nat) (K : Exit → Env → Heap → Prop) : vcCode P U n (.goto l) ρ h K = K (.goto l) ρ h := rfl
@[go_sem ↓] theorem KBlock_normal (id : Nat) (K : Exit → Env → Heap → Prop) : KBlock id K .normal ρ h = K .normal ρ h := rfl
@[go_sem ↓] theorem KBlock_ret (id : Nat) (K : Exit → Env → Heap → Prop) : KBlock id K .ret ρ h = K .ret ρ h := rfl
@[go_sem ↓] theorem KBlock_goto (id : Nat) (K : Exit → Env → Heap → Prop) (i : Nat) : KBlock id K (.goto i) ρ h = K (.goto i) ρ h := rfl
@[go_sem ↓] theorem KBlock_exit (id : Nat) (K : Exit → Env → Heap → Prop) (j : Nat) : KBlock id K (.exit j) ρ h = if j = id then K .normal ρ h else K (.exit j) ρ h := rfl

/-! ### Rows of operations -/
@[go_sem ↓] theorem r_nil (all : List Oper) (K : Env → Heap → Prop) : vcOps P U n all [] ρ h K = K ρ h := rfl
/-- What comes behind an operation. -/
def KOps (P : Program) (U : TypeId → TI) (n : Nat) (all os : List Oper) (K : Env → Heap → Prop) (ρ : Env) (d : Option Tmp) (x : AV) (h : Heap) : Prop := vcOps P U n all os (put ρ d x) h K
@[go_sem ↓] theorem KOps_eq (all os : List Oper) (K : Env → Heap → Prop) (d : Option Tmp) (x : AV) : KOps P U n all os K ρ d x h = vcOps P U n all os (put ρ d x) h K := rfl
@[go_sem ↓] theorem r_cons (all : List Oper) (d : Option Tmp) (op : Op) (t : TypeId) (p : String) (a : Array Edge) (os : List Oper) (K : Env → Heap → Prop) :
    vcOps P U n all (⟨d, op, t, p, a, none⟩ :: os) ρ h K = (dstOK n d = true ∧ vcOp P U ρ h ⟨d, op, t, p, a, none⟩ (KOps P U n all os K ρ d)) := rfl
@[go_sem] theorem dstOK_some (d : Nat) : (dstOK n (some d) = true) = (d < n) := by simp [dstOK]
@[go_sem] theorem dstOK_none : (dstOK n none = true) = True := by simp [dstOK]
/-- The value on which a guard hangs. -/
def gB (d : Nat) (w : Bool) (ρ : Env) (yes no : Env → Prop) (x : AV) : Prop := match x with
  | .v (.bool t) => if w then Br t (yes ((d, .v (.bool true)) :: ρ)) (no ((d, .v (.bool false)) :: ρ)) else Br t (no ((d, .v (.bool true)) :: ρ)) (yes ((d, .v (.bool false)) :: ρ))
  | .v (.tuple _) => no ρ
  | _ => False
@[go_sem ↓] theorem dstAt_zero (d : Option Tmp) (op : Op) (t : TypeId) (p : String) (a : Array Edge) (g : Option (Nat × Bool)) (os : List Oper) : dstAt (⟨d, op, t, p, a, g⟩ :: os) 0 = d := rfl
@[go_sem ↓] theorem dstAt_succ (o : Oper) (os : List Oper) (i : Nat) : dstAt (o :: os) (i + 1) = dstAt os i := by simp [dstAt]
theorem guardA_eq (all : List Oper) (g : Nat) (w : Bool) (yes no : Env → Prop) : guardA all ρ (some (g, w)) yes no = bindO (dstAt all g) fun d => bindO (lk ρ d) fun x => gB d w ρ yes no x := by
  simp only [guardA]
  cases dstAt all g with
  | none => rfl
  | some d =>
    simp only [bindO_some]
    cases lk ρ d with
    | none => rfl
    | some x => cases x with
      | v u => cases u <;> first | rfl | (rename_i t; cases w <;> cases t <;> simp [bindO, gB, Br])
      | _ => rfl
/-- An operation under a guard, by the value on which it hangs. -/
def GuardC (P : Program) (U : TypeId → TI) (n : Nat) (all os : List Oper) (ρ : Env) (h : Heap) (K : Env → Heap → Prop) (w : Bool) (d : Option Tmp) (op : Op) (t : TypeId) (p : String) (a : Array Edge) (s : Nat) (x : AV) : Prop :=
  gB s w ρ (fun ρ => vcOp P U ρ h ⟨d, op, t, p, a, none⟩ (KOps P U n all os K ρ d)) (fun ρ => vcOps P U n all os (put ρ d (.v undef)) h K) x
section
variable {all os : List Oper} {K : Env → Heap → Prop} {d : Option Tmp} {op : Op} {t : TypeId} {p : String} {a : Array Edge} {s : Nat}
@[go_sem ↓] theorem GuardC_tt : GuardC P U n all os ρ h K true d op t p a s (.v (.bool true)) = vcOp P U ((s, .v (.bool true)) :: ρ) h ⟨d, op, t, p, a, none⟩ (KOps P U n all os K ((s, .v (.bool true)) :: ρ) d) := by simp [GuardC, gB, Br]
@[go_sem ↓] theorem GuardC_tf : GuardC P U n all os ρ h K true d op t p a s (.v (.bool false)) = vcOps P U n all os (put ((s, .v (.bool false)) :: ρ) d (.v undef)) h K := by simp [GuardC, gB, Br]
@[go_sem ↓] theorem GuardC_ft : GuardC P U n all os ρ h K false d op t p a s (.v (.bool true)) = vcOps P U n all os (put ((s, .v (.bool true)) :: ρ) d (.v undef)) h K := by simp [GuardC, gB, Br]
@[go_sem ↓] theorem GuardC_ff : GuardC P U n all os ρ h K false d op t p a s (.v (.bool false)) = vcOp P U ((s, .v (.bool false)) :: ρ) h ⟨d, op, t, p, a, none⟩ (KOps P U n all os K ((s, .v (.bool false)) :: ρ) d) := by simp [GuardC, gB, Br]
@[go_sem ↓] theorem GuardC_undef (w : Bool) : GuardC P U n all os ρ h K w d op t p a s (.v undef) = vcOps P U n all os (put ρ d (.v undef)) h K := rfl
theorem GuardC.intro {w b : Bool} (h1 : b = true → GuardC P U n all os ρ h K w d op t p a s (.v (.bool true))) (h2 : b = false → GuardC P U n all os ρ h K w d op t p a s (.v (.bool false))) : GuardC P U n all os ρ h K w d op t p a s (.v (.bool b)) := by
  cases b
  · exact h2 rfl
  · exact h1 rfl
end
@[go_sem ↓] theorem r_guard (all : List Oper) (d : Option Tmp) (op : Op) (t : TypeId) (p : String) (a : Array Edge) (g : Nat) (w : Bool) (os : List Oper) (K : Env → Heap → Prop) :
    vcOps P U n all (⟨d, op, t, p, a, some (g, w)⟩ :: os) ρ h K = (dstOK n d = true ∧ bindO (dstAt all g) fun s => bindO (lk ρ s) (GuardC P U n all os ρ h K w d op t p a s)) := by
  have := guardA_eq (ρ := ρ) all g w (fun ρ => vcOp P U ρ h ⟨d, op, t, p, a, none⟩ (KOps P U n all os K ρ d)) (fun ρ => vcOps P U n all os (put ρ d (.v undef)) h K)
  show (dstOK n d = true ∧ guardA all ρ (some (g, w)) _ _) = _
  rw [show (fun s => bindO (lk ρ s) (GuardC P U n all os ρ h K w d op t p a s)) = fun d_1 => bindO (lk ρ d_1) fun x => gB d_1 w ρ (fun ρ => vcOp P U ρ h ⟨d, op, t, p, a, none⟩ (KOps P U n all os K ρ d)) (fun ρ => vcOps P U n all os (put ρ d (.v undef)) h K) x from rfl, ← this]
  rfl

/-! ### Operations -/
variable {d : Option Tmp} {t : TypeId} {p : String} {a : Array Edge} {g : Option (Nat × Bool)} {Q : AV → Heap → Prop}

@[go_sem ↓] theorem o_move (x : Operand) : vcOp P U ρ h ⟨d, .move x, t, p, a, g⟩ Q = bindO (ev ρ x) (atH Q h) := (withv_eq x _)
@[go_sem ↓] theorem o_assign (x : Operand) : vcOp P U ρ h ⟨d, .assign x, t, p, a, g⟩ Q = bindO (ev ρ x) (atH Q h) := (withv_eq x _)

def pickA (ρ : Env) (x z : Operand) (k : AV → Prop) (y : AV) : Prop := match y with
  | .v (.bool true) => bindO (ev ρ x) k
  | .v (.bool false) => bindO (ev ρ z) k
  | _ => False
@[go_sem ↓] theorem pickA_true (x z : Operand) (k : AV → Prop) : pickA ρ x z k (.v (.bool true)) = bindO (ev ρ x) k := rfl
@[go_sem ↓] theorem pickA_false (x z : Operand) (k : AV → Prop) : pickA ρ x z k (.v (.bool false)) = bindO (ev ρ z) k := rfl
@[go_sem ↓] theorem o_pick (x y z : Operand) : vcOp P U ρ h ⟨d, .pick x y z, t, p, a, g⟩ Q = bindO (ev ρ x) (pickA ρ y z (atH Q h)) := by
  simp only [vcOp, pv, withv_eq]
  congr 1

def nilCk (k : AV → Prop) (y : AV) : Prop := match y with
  | .ptr .. | .pe .. | .fn .. => k y
  | _ => False
@[go_sem ↓] theorem nilCk_ptr (i o : Nat) (k : AV → Prop) : nilCk k (.ptr i o) = k (.ptr i o) := rfl
@[go_sem ↓] theorem nilCk_pe (x : AV) (o : Nat) (k : AV → Prop) : nilCk k (.pe x o) = k (.pe x o) := rfl
@[go_sem ↓] theorem nilCk_fn (f : FuncId) (c : List AV) (k : AV → Prop) : nilCk k (.fn f c) = k (.fn f c) := rfl
@[go_sem ↓] theorem o_nilCheck (x : Operand) : vcOp P U ρ h ⟨d, .nilCheck x, t, p, a, g⟩ Q = bindO (ev ρ x) (nilCk (atH Q h)) := by
  simp only [vcOp, pv, withv_eq]
  congr 1

@[congr] theorem binA_congr {op : BinOp} {ty : TypeId} {x x' y y' : AV} {K : AV → Prop} (e1 : x = x') (e2 : y = y') : binA U op ty x y K = binA U op ty x' y' K := by rw [e1, e2]
theorem o_bin0 (op : BinOp) (ty ty' : TypeId) (x y : Operand) (hy : nilS y = false) : vcOp P U ρ h ⟨d, .binOp op ty x y ty', t, p, a, g⟩ Q = bindO (ev ρ x) fun u => bindO (ev ρ y) fun v => binA U op ty u v (atH Q h) := by
  simp only [vcOp, pv, withv_eq, hy]
  rfl
@[go_sem ↓] theorem o_binOp (op : BinOp) (ty ty' : TypeId) (x : Operand) (y : Tmp) : vcOp P U ρ h ⟨d, .binOp op ty x (.tmp y) ty', t, p, a, g⟩ Q = bindO (ev ρ x) fun u => bindO (ev ρ (.tmp y)) fun v => binA U op ty u v (atH Q h) := o_bin0 _ _ _ _ _ rfl
@[go_sem ↓] theorem o_binOp_i (op : BinOp) (ty ty' : TypeId) (x : Operand) (ik : IntKind) (im : Int) : vcOp P U ρ h ⟨d, .binOp op ty x (.const (.int ik im)) ty', t, p, a, g⟩ Q = bindO (ev ρ x) fun u => binA U op ty u (.v (.int ik im)) (atH Q h) := o_bin0 _ _ _ _ _ rfl
@[go_sem ↓] theorem o_binOp_b (op : BinOp) (ty ty' : TypeId) (x : Operand) (b : Bool) : vcOp P U ρ h ⟨d, .binOp op ty x (.const (.bool b)) ty', t, p, a, g⟩ Q = bindO (ev ρ x) fun u => binA U op ty u (.v (.bool b)) (atH Q h) := o_bin0 _ _ _ _ _ rfl
@[go_sem ↓] theorem o_binOp_s (op : BinOp) (ty ty' : TypeId) (x : Operand) (b : ByteArray) : vcOp P U ρ h ⟨d, .binOp op ty x (.const (.string b)) ty', t, p, a, g⟩ Q = bindO (ev ρ x) fun u => bindO (ev ρ (.const (.string b))) fun v => binA U op ty u v (atH Q h) := o_bin0 _ _ _ _ _ rfl
@[go_sem ↓] theorem o_binOp_p (op : BinOp) (ty ty' : TypeId) (x : Operand) (b : Option Addr) : vcOp P U ρ h ⟨d, .binOp op ty x (.const (.pointer b)) ty', t, p, a, g⟩ Q = bindO (ev ρ x) fun u => binA U op ty u (.v (.pointer b)) (atH Q h) := o_bin0 _ _ _ _ _ rfl
def nilK (h : Heap) (op : BinOp) (x : AV) (Q : AV → Heap → Prop) (tk : TK) : Prop := match tk, op, x with
  | .slice _, .eql, .sl xs _ => ∀ b : Bool, (xs ≠ [] → b = false) → Q (.v (.bool b)) h
  | .slice _, .neq, .sl xs _ => ∀ b : Bool, (xs ≠ [] → b = true) → Q (.v (.bool b)) h
  | .slice _, .eql, .oa .. => Q (.v (.bool false)) h
  | .slice _, .neq, .oa .. => Q (.v (.bool true)) h
  | _, _, _ => False
/-- A slice against nil. -/
def NilE (xs : List AV) (w : Bool) (Q : Bool → Prop) : Prop := ∀ b : Bool, (xs ≠ [] → b = w) → Q b
@[go_sem ↓] theorem nilK_e (xs : List AV) (q : Perm) (e : TypeId) : nilK h .eql (.sl xs q) Q (.slice e) = NilE xs false fun b => Q (.v (.bool b)) h := rfl
@[go_sem ↓] theorem nilK_n (xs : List AV) (q : Perm) (e : TypeId) : nilK h .neq (.sl xs q) Q (.slice e) = NilE xs true fun b => Q (.v (.bool b)) h := rfl
@[go_sem ↓] theorem nilK_oe (i o l : Nat) (e : TypeId) : nilK h .eql (.oa i o l) Q (.slice e) = Q (.v (.bool false)) h := rfl
@[go_sem ↓] theorem nilK_on (i o l : Nat) (e : TypeId) : nilK h .neq (.oa i o l) Q (.slice e) = Q (.v (.bool true)) h := rfl
@[go_sem ↓] theorem o_binOp_n (op : BinOp) (ty ty' : TypeId) (x : Operand) (l k : Nat) : vcOp P U ρ h ⟨d, .binOp op ty x (.const (.slice none l k)) ty', t, p, a, g⟩ Q = bindO (ev ρ x) fun u => atK (U ty).k (nilK h op u Q) := by
  simp only [vcOp, nilS, withv_eq, atK, if_true]
  rfl
section
variable {ty : TypeId} {K : AV → Prop}
@[go_sem] theorem b_add (k : IntKind) (x y : Int) : binA U .add ty (.v (.int k x)) (.v (.int k y)) K = K (.v (.int k (k.wrap (x + y)))) := by simp [binA, isShift, binI]
@[go_sem] theorem b_sub (k : IntKind) (x y : Int) : binA U .sub ty (.v (.int k x)) (.v (.int k y)) K = K (.v (.int k (k.wrap (x - y)))) := by simp [binA, isShift, binI]
@[go_sem] theorem b_mul (k : IntKind) (x y : Int) : binA U .mul ty (.v (.int k x)) (.v (.int k y)) K = K (.v (.int k (k.wrap (x * y)))) := by simp [binA, isShift, binI]
@[go_sem] theorem b_quo (k : IntKind) (x y : Int) : binA U .quo ty (.v (.int k x)) (.v (.int k y)) K = (y ≠ 0 ∧ K (.v (.int k (k.wrap (x.tdiv y))))) := by simp [binA, isShift, binI]
@[go_sem] theorem b_rem (k : IntKind) (x y : Int) : binA U .rem ty (.v (.int k x)) (.v (.int k y)) K = (y ≠ 0 ∧ K (.v (.int k (x.tmod y)))) := by simp [binA, isShift, binI]
@[go_sem] theorem b_and (k : IntKind) (x y : Int) : binA U .and ty (.v (.int k x)) (.v (.int k y)) K = K (.v (.int k (k.wrap (BitVec.ofInt k.bits x &&& BitVec.ofInt k.bits y).toNat))) := by simp [binA, isShift, binI]
@[go_sem] theorem b_or (k : IntKind) (x y : Int) : binA U .or ty (.v (.int k x)) (.v (.int k y)) K = K (.v (.int k (k.wrap (BitVec.ofInt k.bits x ||| BitVec.ofInt k.bits y).toNat))) := by simp [binA, isShift, binI]
@[go_sem] theorem b_xor (k : IntKind) (x y : Int) : binA U .xor ty (.v (.int k x)) (.v (.int k y)) K = K (.v (.int k (k.wrap (BitVec.ofInt k.bits x ^^^ BitVec.ofInt k.bits y).toNat))) := by simp [binA, isShift, binI]
@[go_sem] theorem b_eql (k : IntKind) (x y : Int) : binA U .eql ty (.v (.int k x)) (.v (.int k y)) K = K (.v (.bool (x == y))) := by simp [binA, isShift, binI]
@[go_sem] theorem b_neq (k : IntKind) (x y : Int) : binA U .neq ty (.v (.int k x)) (.v (.int k y)) K = K (.v (.bool (x != y))) := by simp [binA, isShift, binI]
@[go_sem] theorem b_lss (k : IntKind) (x y : Int) : binA U .lss ty (.v (.int k x)) (.v (.int k y)) K = K (.v (.bool (decide (x < y)))) := by simp [binA, isShift, binI]
@[go_sem] theorem b_leq (k : IntKind) (x y : Int) : binA U .leq ty (.v (.int k x)) (.v (.int k y)) K = K (.v (.bool (decide (x ≤ y)))) := by simp [binA, isShift, binI]
@[go_sem] theorem b_gtr (k : IntKind) (x y : Int) : binA U .gtr ty (.v (.int k x)) (.v (.int k y)) K = K (.v (.bool (decide (y < x)))) := by simp [binA, isShift, binI]
@[go_sem] theorem b_geq (k : IntKind) (x y : Int) : binA U .geq ty (.v (.int k x)) (.v (.int k y)) K = K (.v (.bool (decide (y ≤ x)))) := by simp [binA, isShift, binI]
@[go_sem] theorem b_shl (k k' : IntKind) (x y : Int) : binA U .shl ty (.v (.int k x)) (.v (.int k' y)) K = (0 ≤ y ∧ K (.v (.int k (k.wrap (x * 2 ^ (min y.toNat k.bits)))))) := by simp [binA, isShift, binSh]
@[go_sem] theorem b_shr (k k' : IntKind) (x y : Int) : binA U .shr ty (.v (.int k x)) (.v (.int k' y)) K = (0 ≤ y ∧ K (.v (.int k (x.fdiv (2 ^ (min y.toNat k.bits)))))) := by simp [binA, isShift, binSh]
@[go_sem] theorem b_sadd (x y : List UInt8) : binA U .add ty (.s x) (.s y) K = (x.length + y.length < lim ∧ K (.s (x ++ y))) := rfl
@[go_sem] theorem b_seql (x y : List UInt8) : binA U .eql ty (.s x) (.s y) K = K (.v (.bool (x == y))) := rfl
@[go_sem] theorem b_sneq (x y : List UInt8) : binA U .neq ty (.s x) (.s y) K = K (.v (.bool (!(x == y)))) := rfl
@[go_sem] theorem b_slss (x y : List UInt8) : binA U .lss ty (.s x) (.s y) K = K (.v (.bool (Op.bytesLess x y))) := rfl
@[go_sem] theorem b_sleq (x y : List UInt8) : binA U .leq ty (.s x) (.s y) K = K (.v (.bool (Op.bytesLess x y || x == y))) := rfl
@[go_sem] theorem b_sgtr (x y : List UInt8) : binA U .gtr ty (.s x) (.s y) K = K (.v (.bool (!(Op.bytesLess x y || x == y)))) := rfl
@[go_sem] theorem b_sgeq (x y : List UInt8) : binA U .geq ty (.s x) (.s y) K = K (.v (.bool (!(Op.bytesLess x y)))) := rfl
def tkB (k : TK) (A : Prop) : Prop := k = .bool ∧ A
def tkP (k : TK) (A : Prop) : Prop := (∃ e, k = .ptr e) ∧ A
@[congr] theorem tkB_congr {k k' : TK} {A : Prop} (e : k = k') : tkB k A = tkB k' A := by rw [e]
@[congr] theorem tkP_congr {k k' : TK} {A : Prop} (e : k = k') : tkP k A = tkP k' A := by rw [e]
@[go_sem] theorem tkB_bool (A : Prop) : tkB .bool A = A := by simp [tkB]
@[go_sem] theorem tkP_ptr (e : TypeId) (A : Prop) : tkP (.ptr e) A = A := by simp [tkP]
@[go_sem] theorem b_beql (x y : Bool) : binA U .eql ty (.v (.bool x)) (.v (.bool y)) K = tkB (U ty).k (K (.v (.bool (x == y)))) := by
  simp only [binA, binB, tkB]; cases (U ty).k <;> simp
@[go_sem] theorem b_bneq (x y : Bool) : binA U .neq ty (.v (.bool x)) (.v (.bool y)) K = tkB (U ty).k (K (.v (.bool (!(x == y))))) := by
  simp only [binA, binB, tkB]; cases (U ty).k <;> simp
@[go_sem] theorem b_peql (i o : Nat) : binA U .eql ty (.ptr i o) (.v (.pointer none)) K = tkP (U ty).k (K (.v (.bool false))) := by
  simp only [binA, binN, nilA, tkP]; cases (U ty).k <;> simp
@[go_sem] theorem b_pneq (i o : Nat) : binA U .neq ty (.ptr i o) (.v (.pointer none)) K = tkP (U ty).k (K (.v (.bool true))) := by
  simp only [binA, binN, nilA, tkP]; cases (U ty).k <;> simp
@[go_sem] theorem b_neql : binA U .eql ty (.v (.pointer none)) (.v (.pointer none)) K = tkP (U ty).k (K (.v (.bool true))) := by
  simp only [binA, binN, nilA, tkP]; cases (U ty).k <;> simp
@[go_sem] theorem b_nneq : binA U .neq ty (.v (.pointer none)) (.v (.pointer none)) K = tkP (U ty).k (K (.v (.bool false))) := by
  simp only [binA, binN, nilA, tkP]; cases (U ty).k <;> simp
end

/-- What an operation of one operand comes to, by its operand. -/
def unA (op : UnOp) (y : AV) (k : AV → Prop) : Prop := match op, y with
  | .not, .v (.bool b) => k (.v (.bool (!b)))
  | .neg, .v (.int kk n) => k (.v (.int kk (kk.wrap (0 - n))))
  | .xor, .v (.int kk n) => k (.v (.int kk (kk.wrap (BitVec.ofInt kk.bits (if kk.signed then -1 else kk.max) ^^^ BitVec.ofInt kk.bits n).toNat)))
  | _, _ => False
@[congr] theorem unA_congr {op : UnOp} {y y' : AV} {k : AV → Prop} (e : y = y') : unA op y k = unA op y' k := by rw [e]
@[go_sem] theorem unA_not (b : Bool) (k : AV → Prop) : unA .not (.v (.bool b)) k = k (.v (.bool (!b))) := rfl
@[go_sem] theorem unA_neg (kk : IntKind) (m : Int) (k : AV → Prop) : unA .neg (.v (.int kk m)) k = k (.v (.int kk (kk.wrap (0 - m)))) := rfl
@[go_sem] theorem unA_xor (kk : IntKind) (m : Int) (k : AV → Prop) : unA .xor (.v (.int kk m)) k = k (.v (.int kk (kk.wrap (BitVec.ofInt kk.bits (if kk.signed then -1 else kk.max) ^^^ BitVec.ofInt kk.bits m).toNat))) := rfl
@[go_sem ↓] theorem o_unOp (op : UnOp) (ty : TypeId) (x : Operand) : vcOp P U ρ h ⟨d, .unOp op ty x, t, p, a, g⟩ Q = bindO (ev ρ x) fun y => unA op y (atH Q h) := by
  simp only [vcOp, pv, withv_eq]
  congr 1

/-- A conversion, by the types and the operand. -/
def cvA (U : TypeId → TI) (s d : TK) (y : AV) (k : AV → Prop) : Prop := match s, d, y with
  | .int _, .int kk, .v (.int _ n) => k (.v (.int kk (kk.wrap n)))
  | .str, .str, .s l => k (.s l)
  | .slice e, .str, .sl xs _ => (U e).k = .int .u8 ∧ ∃ l : List UInt8, xs = l.map byteA ∧ k (.s l)
  | .str, .slice e, .s l => (U e).k = .int .u8 ∧ k (.sl (l.map byteA) .no)
  | _, _, _ => False
@[congr] theorem cvA_congr {s s' d d' : TK} {y y' : AV} {k : AV → Prop} (e1 : s = s') (e2 : d = d') (e : y = y') : cvA U s d y k = cvA U s' d' y' k := by rw [e, e1, e2]
@[go_sem] theorem cv_int (k0 kk k1 : IntKind) (m : Int) (k : AV → Prop) : cvA U (.int k0) (.int kk) (.v (.int k1 m)) k = k (.v (.int kk (kk.wrap m))) := rfl
@[go_sem] theorem cv_str (l : List UInt8) (k : AV → Prop) : cvA U .str .str (.s l) k = k (.s l) := rfl
@[go_sem] theorem cv_sb (e : TypeId) (l : List UInt8) (pm : Perm) (k : AV → Prop) : cvA U (.slice e) .str (.sl (l.map byteA) pm) k = ((U e).k = .int .u8 ∧ k (.s l)) := by
  simp only [cvA]
  congr 1
  apply propext
  constructor
  · rintro ⟨l', e1, hk⟩
    have : l = l' := by
      have inj : ∀ (x y : List UInt8), x.map byteA = y.map byteA → x = y := by
        intro x
        induction x with
        | nil => intro y e; cases y <;> simp at e ⊢
        | cons b r ih =>
          intro y e
          cases y with
          | nil => simp at e
          | cons b' r' =>
            simp only [List.map_cons, List.cons.injEq, byteA, AV.v.injEq, Value.int.injEq, true_and, Int.natCast_inj] at e
            rw [UInt8.toNat_inj.1 e.1, ih r' e.2]
      exact inj _ _ e1
    rw [this]; exact hk
  · exact fun hk => ⟨l, rfl, hk⟩
@[go_sem] theorem cv_bs (e : TypeId) (l : List UInt8) (k : AV → Prop) : cvA U .str (.slice e) (.s l) k = ((U e).k = .int .u8 ∧ k (.sl (l.map byteA) .no)) := rfl
theorem u8m (k : TK) (X : Prop) : (match k with | .int .u8 => X | _ => False) = (k = .int .u8 ∧ X) := by
  cases k with
  | int kk => cases kk <;> simp
  | _ => simp
@[go_sem ↓] theorem o_convert (s e : TypeId) (x : Operand) : vcOp P U ρ h ⟨d, .convert s e x, t, p, a, g⟩ Q = bindO (ev ρ x) fun y => cvA U (U s).k (U e).k y (atH Q h) := by
  simp only [vcOp, pv, withv_eq]
  congr 1
  funext y
  generalize (U s).k = ks
  generalize (U e).k = ke
  cases ks <;> cases ke <;> cases y <;> (first | rfl | (rename_i u; cases u <;> rfl) | skip)
  · simp only [cvA]
    exact u8m _ _
  · simp only [cvA]
    exact u8m _ _

end
end Go.Ab
