/- The rules by which simp carries out code over abstract values: literals, calls, memory; the end of a function. -/
import Derived.Test.YtidpcjblciompaaAb18
set_option linter.unusedSimpArgs false
set_option linter.unusedVariables false
namespace Go.Ab
open Go

section
variable {P : Program} {U : TypeId → TI} {n : Nat} {ρ : Env} {h : Heap}
variable {d : Option Tmp} {t : TypeId} {p : String} {a : Array Edge} {g : Option (Nat × Bool)} {Q : AV → Heap → Prop} {k : AV → Prop}

/-- A new object; an array; a row of elements. -/
def NewP (h : Heap) (b : Blk) (Q : AV → Heap → Prop) : Prop := ∀ id, h id = none → Q (.ptr id 0) (upd h id (some b))
def NewM (h : Heap) (m : Nat) (b : Blk) (Q : AV → Heap → Prop) : Prop := ∀ id, h id = none → Q (.oa id 0 m) (upd h id (some b))
def NewS (h : Heap) (xs : List AV) (b : Blk) (Q : AV → Heap → Prop) : Prop := ∀ id, h id = none → Q (.sl xs (.own id)) (upd h id (some b))
/-- An append of something where there is no room: a row of elements, or an array that is owned. -/
def ApNew (U : TypeId → TI) (h : Heap) (xs ys : List AV) (e : TypeId) (Q : AV → Heap → Prop) : Prop :=
  (∀ id, h id = none → Q (.sl (xs ++ ys) (.own id)) (upd h id (some (.spare (xs.length + ys.length) (U e).sz)))) ∨
    ((U e).sz = 1 ∧ fit (U e).zero 1 ∧ isAggA (U e).zero = false ∧ (∀ z ∈ xs ++ ys, isAggA z = false) ∧ ∀ id m, h id = none → Q (.oa id 0 (xs.length + ys.length)) (upd h id (some (.obj (xs ++ ys ++ List.replicate m (U e).zero) e))))
@[congr] theorem ApNew_congr {h h' : Heap} {xs xs' ys ys' : List AV} {e : TypeId} (e0 : h = h') (e1 : xs = xs') (e2 : ys = ys') : ApNew U h xs ys e Q = ApNew U h' xs' ys' e Q := by rw [e0, e1, e2]
theorem ApNew.own {xs ys : List AV} {e : TypeId} (hk : NewS h (xs ++ ys) (.spare (xs.length + ys.length) (U e).sz) Q) : ApNew U h xs ys e Q := .inl hk
theorem ApNew.oa {xs ys : List AV} {e : TypeId} (h1 : (U e).sz = 1) (h2 : fit (U e).zero 1) (h3 : isAggA (U e).zero = false) (h4 : ∀ z ∈ xs ++ ys, isAggA z = false)
    (hk : ∀ id m, h id = none → Q (.oa id 0 (xs.length + ys.length)) (upd h id (some (.obj (xs ++ ys ++ List.replicate m (U e).zero) e)))) : ApNew U h xs ys e Q := .inr ⟨h1, h2, h3, h4, hk⟩
/-- An append where there is no room. -/
def ApFull (U : TypeId → TI) (h : Heap) (xs ys : List AV) (e : TypeId) (Q : AV → Heap → Prop) : Prop := (ys = [] → Q (.sl xs .full) h) ∧ (ys ≠ [] → ApNew U h xs ys e Q)
@[congr] theorem ApFull_congr {h h' : Heap} {xs xs' ys ys' : List AV} {e : TypeId} (e0 : h = h') (e1 : xs = xs') (e2 : ys = ys') : ApFull U h xs ys e Q = ApFull U h' xs' ys' e Q := by rw [e0, e1, e2]
@[go_sem ↓] theorem ApFull_nil (xs : List AV) (e : TypeId) : ApFull U h xs [] e Q = Q (.sl xs .full) h := by simp [ApFull]
@[go_sem ↓] theorem ApFull_cons (xs : List AV) (y : AV) (r : List AV) (e : TypeId) : ApFull U h xs (y :: r) e Q = ApNew U h xs (y :: r) e Q := by simp [ApFull]

@[go_sem] theorem upd_same' {α : Type} (f : Nat → α) (i : Nat) (x : α) : upd f i x i = x := upd_same f i x
@[go_sem] theorem upd_ne {α : Type} (f : Nat → α) (i j : Nat) (x : α) (e : ¬ j = i) : upd f i x j = f j := upd_other f x e
@[go_sem] theorem upd_upd {α : Type} (f : Nat → α) (i : Nat) (x y : α) : upd (upd f i x) i y = upd f i y := by
  funext j; simp only [upd]; split <;> rfl

def idxOK : List (Nat × Operand) → Nat → Bool
  | [], _ => true
  | (i, _) :: r, k => i == k && idxOK r (k + 1)
theorem idxOK_iff : ∀ (l : List (Nat × Operand)) (k : Nat), idxOK l k = true ↔ l.map (·.1) = List.range' k l.length
  | [], k => by simp [idxOK]
  | (i, x) :: r, k => by simp [idxOK, idxOK_iff r (k + 1), List.range'_succ]
@[go_sem] theorem idxOK_nil (k : Nat) : idxOK [] k = true := rfl
@[go_sem] theorem idxOK_cons (i : Nat) (x : Operand) (r : List (Nat × Operand)) (k : Nat) : (idxOK ((i, x) :: r) k = true) = (i = k ∧ idxOK r (k + 1) = true) := by simp [idxOK]
theorem idx_range (l : List (Nat × Operand)) (m : Nat) : (l.map (·.1) = List.range m) = (idxOK l 0 = true ∧ l.length = m) := by
  apply propext
  rw [idxOK_iff, List.range_eq_range']
  constructor
  · intro e
    have := congrArg List.length e
    simp at this
    exact ⟨by rw [this]; exact e, this⟩
  · rintro ⟨e, rfl⟩; exact e

def bsK (U : TypeId → TI) (ρ : Env) (len : Nat) (parts : List (Nat × Operand)) (k : AV → Prop) (tk : TK) : Prop := match tk with
  | .slice e => (U e).sz ≠ 0 ∧ len * (U e).sz ≤ 16777216 ∧ (idxOK parts 0 = true ∧ parts.length = len) ∧ bindO (evs ρ (parts.map (·.2))) fun xs => fits (U e).sz xs ∧ k (.sl xs .full)
  | _ => False
@[go_sem ↓] theorem bsK_eq (len : Nat) (parts : List (Nat × Operand)) (e : TypeId) : bsK U ρ len parts k (.slice e) = ((U e).sz ≠ 0 ∧ len * (U e).sz ≤ 16777216 ∧ (idxOK parts 0 = true ∧ parts.length = len) ∧ bindO (evs ρ (parts.map (·.2))) fun xs => fits (U e).sz xs ∧ k (.sl xs .full)) := rfl
@[go_sem ↓] theorem o_buildSlice (ty : TypeId) (len : Nat) (parts : List (Nat × Operand)) : vcOp P U ρ h ⟨d, .buildSlice ty len parts.toArray, t, p, a, g⟩ Q = atK (U ty).k (bsK U ρ len parts (atH Q h)) := by
  simp only [vcOp, pv, atK]
  cases (U ty).k <;> simp only [bsK, withvs_eq, idx_range]
  rfl

def aggK (k : AV → Prop) (cs : List AV) : Prop := k (.agg cs)
@[go_sem ↓] theorem aggK_eq (cs : List AV) : aggK k cs = k (.agg cs) := rfl
def aggOf (z : AV) : Option (List AV) := match z with
  | .agg cs => some cs
  | _ => none
@[go_sem] theorem aggOf_agg (cs : List AV) : aggOf (.agg cs) = some cs := rfl
def bK (U : TypeId → TI) (ρ : Env) (ty : TypeId) (parts : List (Nat × Operand)) (k : AV → Prop) (tk : TK) : Prop := match tk with
  | .strct fs => (U ty).sz ≠ 0 ∧ bindO (aggOf (U ty).zero) fun cs0 => withps U ρ fs parts cs0 (aggK k)
  | _ => False
@[go_sem ↓] theorem bK_eq (ty : TypeId) (parts : List (Nat × Operand)) (fs : List (Nat × TypeId)) : bK U ρ ty parts k (.strct fs) = ((U ty).sz ≠ 0 ∧ bindO (aggOf (U ty).zero) fun cs0 => withps U ρ fs parts cs0 (aggK k)) := rfl
@[go_sem ↓] theorem o_build (ty : TypeId) (parts : List (Nat × Operand)) : vcOp P U ρ h ⟨d, .build ty parts.toArray, t, p, a, g⟩ Q = atK (U ty).k (bK U ρ ty parts (atH Q h)) := by
  simp only [vcOp, pv, atK]
  cases (U ty).k <;> simp only [bK]
  congr 1
  cases hz : (U ty).zero <;> simp [aggOf, bindO]
  exact Iff.rfl
@[congr] theorem withps_congr' {fs : List (Nat × TypeId)} {ps : List (Nat × Operand)} {cs cs' : List AV} {k : List AV → Prop} (e : cs = cs') : withps U ρ fs ps cs k = withps U ρ fs ps cs' k := by rw [e]
@[go_sem] theorem withps_nil (fs : List (Nat × TypeId)) (cs : List AV) (k : List AV → Prop) : withps U ρ fs [] cs k = k cs := rfl
@[go_sem] theorem withps_cons (fs : List (Nat × TypeId)) (i : Nat) (x : Operand) (r : List (Nat × Operand)) (cs : List AV) (k : List AV → Prop) :
    withps U ρ fs ((i, x) :: r) cs k = bindO fs[i]? fun q => (U q.2).sz ≠ 0 ∧ bindO (ev ρ x) fun y => fit y (U q.2).sz ∧ q.1 + (U q.2).sz ≤ cs.length ∧ withps U ρ fs r (over cs q.1 y.cells) k := by
  simp only [withps, withv_eq]
  cases fs[i]? <;> rfl
@[go_sem] theorem over_eq (cs : List AV) (o : Nat) (xs : List AV) : over cs o xs = cs.take o ++ xs ++ cs.drop (o + xs.length) := rfl

def ifcK (ty : TypeId) (k : AV → Prop) (y : AV) (tk : TK) : Prop := match tk with
  | .iface | .other => False
  | _ => k (.ifc ty y)
section
variable {ty : TypeId} {y : AV}
@[go_sem ↓] theorem ifcK_int (x : IntKind) : ifcK ty k y (.int x) = k (.ifc ty y) := rfl
@[go_sem ↓] theorem ifcK_str : ifcK ty k y .str = k (.ifc ty y) := rfl
@[go_sem ↓] theorem ifcK_strct (x : List (Nat × TypeId)) : ifcK ty k y (.strct x) = k (.ifc ty y) := rfl
@[go_sem ↓] theorem ifcK_ptr (x : TypeId) : ifcK ty k y (.ptr x) = k (.ifc ty y) := rfl
end
@[go_sem ↓] theorem o_makeInterface (ty : TypeId) (x : Operand) : vcOp P U ρ h ⟨d, .makeInterface ty x, t, p, a, g⟩ Q = bindO (ev ρ x) fun y => atK (U ty).k (ifcK ty (atH Q h) y) := by
  simp only [vcOp, pv, atK, withv_eq]
  cases ev ρ x with
  | none => cases (U ty).k <;> simp [bindO]
  | some y => cases (U ty).k <;> simp [ifcK, bindO, atH]
/-- A function's value. -/
def mkFn (f : FuncId) (k : AV → Prop) (ys : List AV) : Prop := k (.fn f ys)
@[go_sem ↓] theorem mkFn_eq (f : FuncId) (ys : List AV) : mkFn f k ys = k (.fn f ys) := rfl
@[go_sem ↓] theorem o_makeFunc (f : FuncId) (cap : List Operand) : vcOp P U ρ h ⟨d, .makeFunc (.func f) #[] cap.toArray, t, p, a, g⟩ Q = bindO (evs ρ cap) (mkFn f (atH Q h)) := by
  simp only [vcOp, pv, withvs_eq]
  rfl

/-! ### Calls -/
def fnA (y : AV) (f : FuncId → List AV → Prop) : Prop := match y with
  | .fn g cap => f g cap
  | _ => False
@[congr] theorem fnA_congr {y y' : AV} {f : FuncId → List AV → Prop} (e : y = y') : fnA y f = fnA y' f := by rw [e]
@[go_sem ↓] theorem fnA_eq (g : FuncId) (cap : List AV) (f : FuncId → List AV → Prop) : fnA (.fn g cap) f = f g cap := rfl
@[go_sem ↓] theorem o_call (q : Operand) (args : List Operand) (ts : Array TypeId) : vcOp P U ρ h ⟨d, .call ⟨.value q, args.toArray, ts⟩, t, p, a, g⟩ Q = bindO (ev ρ q) fun y => fnA y fun f cap => bindO (evs ρ args) fun ys => FnOK P f (ys ++ cap) h Q := by
  simp only [vcOp, withv_eq, withvs_eq]
  congr 1
def lenK (y : AV) (k : AV → Prop) (tk : TK) : Prop := match tk, y with
  | .str, .s l => k (.v (.int .i64 l.length))
  | .slice _, .sl xs _ => k (.v (.int .i64 xs.length))
  | .slice _, .oa _ _ len => k (.v (.int .i64 len))
  | _, _ => False
@[go_sem ↓] theorem lenK_s (l : List UInt8) : lenK (.s l) k .str = k (.v (.int .i64 l.length)) := rfl
@[go_sem ↓] theorem lenK_sl (xs : List AV) (q : Perm) (e : TypeId) : lenK (.sl xs q) k (.slice e) = k (.v (.int .i64 xs.length)) := rfl
@[go_sem ↓] theorem lenK_oa (i o l : Nat) (e : TypeId) : lenK (.oa i o l) k (.slice e) = k (.v (.int .i64 l)) := rfl
@[go_sem ↓] theorem o_len (x : Operand) (ty : TypeId) : vcOp P U ρ h ⟨d, .call ⟨.builtin .len, #[x], #[ty]⟩, t, p, a, g⟩ Q = bindO (ev ρ x) fun y => atK (U ty).k (lenK y (atH Q h)) := by
  simp only [vcOp, pv, pvB, withv_eq, atK]
  congr 1
def capK (y : AV) (k : AV → Prop) (tk : TK) : Prop := match tk, y with
  | .slice _, .sl xs .full => k (.v (.int .i64 xs.length))
  | _, _ => False
@[go_sem ↓] theorem capK_sl (xs : List AV) (e : TypeId) : capK (.sl xs .full) k (.slice e) = k (.v (.int .i64 xs.length)) := rfl
@[go_sem ↓] theorem o_cap (x : Operand) (ty : TypeId) : vcOp P U ρ h ⟨d, .call ⟨.builtin .cap, #[x], #[ty]⟩, t, p, a, g⟩ Q = bindO (ev ρ x) fun y => atK (U ty).k (capK y (atH Q h)) := by
  simp only [vcOp, pv, pvB, withv_eq, atK]
  congr 1
@[congr] theorem minA_congr {ys ys' : List AV} (e : ys = ys') : minA ys k = minA ys' k := by rw [e]
@[congr] theorem maxA_congr {ys ys' : List AV} (e : ys = ys') : maxA ys k = maxA ys' k := by rw [e]
@[go_sem] theorem minA_int (x : IntKind) (i j : Int) : minA [.v (.int x i), .v (.int x j)] k = k (.v (.int x (if j < i then j else i))) := by simp [minA]
@[go_sem] theorem maxA_int (x : IntKind) (i j : Int) : maxA [.v (.int x i), .v (.int x j)] k = k (.v (.int x (if i < j then j else i))) := by simp [maxA]
@[go_sem ↓] theorem o_min (args : List Operand) (ts : Array TypeId) : vcOp P U ρ h ⟨d, .call ⟨.builtin .min, args.toArray, ts⟩, t, p, a, g⟩ Q = bindO (evs ρ args) fun ys => minA ys (atH Q h) := by
  simp only [vcOp, pv, pvB, withvs_eq]
  rfl
@[go_sem ↓] theorem o_max (args : List Operand) (ts : Array TypeId) : vcOp P U ρ h ⟨d, .call ⟨.builtin .max, args.toArray, ts⟩, t, p, a, g⟩ Q = bindO (evs ρ args) fun ys => maxA ys (atH Q h) := by
  simp only [vcOp, pv, pvB, withvs_eq]
  rfl

@[congr] theorem srcA_congr {e : TypeId} {y y' : AV} {f : List AV → Prop} (h1 : y = y') : srcA U e h y f = srcA U e h y' f := by rw [h1]
@[go_sem ↓] theorem srcA_sl (e : TypeId) (ys : List AV) (q : Perm) (f : List AV → Prop) : srcA U e h (.sl ys q) f = f ys := rfl
@[go_sem ↓] theorem srcA_s (e : TypeId) (l : List UInt8) (f : List AV → Prop) : srcA U e h (.s l) f = ((U e).k = .int .u8 ∧ (U e).sz = 1 ∧ f (l.map byteA)) := rfl
def apK (U : TypeId → TI) (h : Heap) (x y : AV) (Q : AV → Heap → Prop) (tk : TK) : Prop := match tk, x with
  | .slice e, .sl xs .full => (U e).sz ≠ 0 ∧ (U e).bytes ≠ 0 ∧ srcA U e h y fun ys => Sized (U e).sz xs ∧ Sized (U e).sz ys ∧ (xs.length + ys.length) * (U e).bytes ≤ 140737488355328 ∧
      ApFull U h xs ys e Q
  | .slice e, .sl xs (.own id) => (U e).sz ≠ 0 ∧ (U e).bytes ≠ 0 ∧ srcA U e h y fun ys => Sized (U e).sz xs ∧ Sized (U e).sz ys ∧ (xs.length + ys.length) * (U e).bytes ≤ 140737488355328 ∧
      h id = some (.spare xs.length (U e).sz) ∧ Q (.sl (xs ++ ys) (.own id)) (upd h id (some (.spare (xs.length + ys.length) (U e).sz)))
  | .slice e, .oa id off len => (U e).sz ≠ 0 ∧ (U e).bytes ≠ 0 ∧ (U e).sz = 1 ∧ srcA U e h y fun ys => Sized 1 ys ∧ (∀ z ∈ ys, isAggA z = false) ∧ (len + ys.length) * (U e).bytes ≤ 140737488355328 ∧ bindO (h id) fun b => objL b fun cs t =>
      off + len ≤ cs.length ∧ (∀ z ∈ (cs.drop off).take len, isAggA z = false) ∧ fit (U e).zero 1 ∧ isAggA (U e).zero = false ∧
          (off + (len + ys.length) ≤ cs.length → Q (.oa id off (len + ys.length)) (upd h id (some (.obj (over cs (off + len) ys) t)))) ∧
          (∀ id' m, h id' = none → Q (.oa id' 0 (len + ys.length)) (upd h id' (some (.obj ((cs.drop off).take len ++ ys ++ List.replicate m (U e).zero) e))))
  | _, _ => False
@[go_sem ↓] theorem apK_full (xs : List AV) (y : AV) (e : TypeId) : apK U h (.sl xs .full) y Q (.slice e) = ((U e).sz ≠ 0 ∧ (U e).bytes ≠ 0 ∧ srcA U e h y fun ys => Sized (U e).sz xs ∧ Sized (U e).sz ys ∧ (xs.length + ys.length) * (U e).bytes ≤ 140737488355328 ∧
      ApFull U h xs ys e Q) := rfl
@[go_sem ↓] theorem apK_own (xs : List AV) (y : AV) (id : Nat) (e : TypeId) : apK U h (.sl xs (.own id)) y Q (.slice e) = ((U e).sz ≠ 0 ∧ (U e).bytes ≠ 0 ∧ srcA U e h y fun ys => Sized (U e).sz xs ∧ Sized (U e).sz ys ∧ (xs.length + ys.length) * (U e).bytes ≤ 140737488355328 ∧
      h id = some (.spare xs.length (U e).sz) ∧ Q (.sl (xs ++ ys) (.own id)) (upd h id (some (.spare (xs.length + ys.length) (U e).sz)))) := rfl
@[go_sem] theorem isEmpty_cons' {α : Type} (x : α) (r : List α) : (x :: r).isEmpty = true ↔ False := by simp
theorem vcAppend_eq (ts : TypeId) (x y : AV) : vcAppend U h ts x y Q = atK (U ts).k (apK U h x y Q) := by
  unfold vcAppend atK
  cases (U ts).k with
  | slice e =>
    simp only
    cases x with
    | sl xs q =>
      cases q with
      | no =>
        simp only [apK]
        apply propext
        constructor
        · rintro ⟨_, _, hk⟩
          obtain ⟨ys, hh, _⟩ : ∃ ys : List AV, (Sized (U e).sz xs ∧ Sized (U e).sz ys ∧ (xs.length + ys.length) * (U e).bytes ≤ 140737488355328 ∧ False) ∧ True := by
            unfold srcA at hk
            split at hk
            · exact ⟨_, hk, trivial⟩
            · exact ⟨_, hk.2.2, trivial⟩
            · obtain ⟨_, hk⟩ := hk
              split at hk
              · exact ⟨_, hk.2.2.2, trivial⟩
              · exact hk.elim
            · exact hk.elim
          exact hh.2.2.2
        · exact False.elim
      | full =>
        rfl
      | own id => rfl
    | oa id off len =>
      refine congrArg (fun q => (U e).sz ≠ 0 ∧ (U e).bytes ≠ 0 ∧ (U e).sz = 1 ∧ q) (congrArg (fun f => srcA U e h y f) (funext fun ys => ?_))
      refine congrArg (fun q => Sized 1 ys ∧ (∀ z ∈ ys, isAggA z = false) ∧ (len + ys.length) * (U e).bytes ≤ 140737488355328 ∧ q) ?_
      cases h id with
      | none => rfl
      | some b => cases b <;> rfl
    | _ => simp [apK]
  | _ => rfl
def niA (A : Prop) (tk : TK) : Prop := notInt tk = true ∧ A
@[go_sem ↓] theorem niA_slice (e : TypeId) (A : Prop) : niA A (.slice e) = A := by simp [niA, notInt]
@[go_sem ↓] theorem niA_str (A : Prop) : niA A .str = A := by simp [niA, notInt]
@[go_sem ↓] theorem o_append (x y : Operand) (t1 t2 : TypeId) : vcOp P U ρ h ⟨d, .call ⟨.builtin .append, #[x, y], #[t1, t2]⟩, t, p, a, g⟩ Q = bindO (ev ρ x) fun u => bindO (ev ρ y) fun v => atK (U t2).k (niA (atK (U t1).k (apK U h u v Q))) := by
  simp only [vcOp, withv_eq, vcAppend_eq, atK, niA]

/-! ### Memory -/
@[go_sem ↓] theorem o_alloc (ty : TypeId) : vcOp P U ρ h ⟨d, .alloc ty, t, p, a, g⟩ Q = ((U ty).sz ≠ 0 ∧ fit (U ty).zero (U ty).sz ∧ NewP h (.obj (U ty).zero.cells ty) Q) := rfl
@[go_sem ↓] theorem o_box (ty : TypeId) (x : Operand) : vcOp P U ρ h ⟨d, .box ty x, t, p, a, g⟩ Q = ((U ty).sz ≠ 0 ∧ bindO (ev ρ x) fun y => fit y (U ty).sz ∧ NewP h (.obj y.cells ty) Q) := by
  simp only [vcOp, withv_eq]
  rfl
def stA (U : TypeId → TI) (h : Heap) (ty : TypeId) (q y : AV) (Q : AV → Heap → Prop) : Prop := match q with
  | .ptr id off => bindO (h id) fun b => objL b fun cs t' => fit y (U ty).sz ∧ off + (U ty).sz ≤ cs.length ∧ Q (.v undef) (upd h id (some (.obj (over cs off y.cells) t')))
  | _ => False
@[congr] theorem stA_congr {ty : TypeId} {q q' y y' : AV} (e1 : q = q') (e2 : y = y') : stA U h ty q y Q = stA U h ty q' y' Q := by rw [e1, e2]
@[go_sem ↓] theorem stA_ptr (ty : TypeId) (id off : Nat) (y : AV) : stA U h ty (.ptr id off) y Q = bindO (h id) fun b => objL b fun cs t' => fit y (U ty).sz ∧ off + (U ty).sz ≤ cs.length ∧ Q (.v undef) (upd h id (some (.obj (over cs off y.cells) t'))) := rfl
@[go_sem ↓] theorem o_store (ty : TypeId) (q x : Operand) : vcOp P U ρ h ⟨d, .store ty q x, t, p, a, g⟩ Q = ((U ty).sz ≠ 0 ∧ bindO (ev ρ q) fun u => bindO (ev ρ x) fun y => stA U h ty u y Q) := by
  simp only [vcOp, withv_eq]
  congr 1
  congr 1
  funext u
  congr 1
  funext y
  cases u <;> simp only [stA]
  rename_i id off
  cases h id with
  | none => rfl
  | some b => cases b <;> rfl
def mkK (U : TypeId → TI) (h : Heap) (x y : AV) (Q : AV → Heap → Prop) (tk : TK) : Prop := match tk, x, y with
  | .slice e, .v (.int _ n), .v (.int _ n') => n = n' ∧ 0 ≤ n ∧ n < lim ∧ n * (U e).bytes ≤ 281474976710656 ∧ (U e).sz ≠ 0 ∧ fit (U e).zero (U e).sz ∧
      NewM h n.toNat (.obj (zerosA (U e).zero n.toNat (U e).sz) e) Q
  | _, _, _ => False
@[go_sem ↓] theorem mkK_eq (x y : IntKind) (m m' : Int) (e : TypeId) : mkK U h (.v (.int x m)) (.v (.int y m')) Q (.slice e) = (m = m' ∧ 0 ≤ m ∧ m < lim ∧ m * (U e).bytes ≤ 281474976710656 ∧ (U e).sz ≠ 0 ∧ fit (U e).zero (U e).sz ∧
      NewM h m.toNat (.obj (zerosA (U e).zero m.toNat (U e).sz) e) Q) := rfl
@[go_sem ↓] theorem o_makeSlice (ty : TypeId) (x y : Operand) : vcOp P U ρ h ⟨d, .makeSlice ty x y, t, p, a, g⟩ Q = bindO (ev ρ x) fun u => bindO (ev ρ y) fun v => atK (U ty).k (mkK U h u v Q) := by
  simp only [vcOp, withv_eq, atK]
  congr 1

/-! ### The end -/
/-- What a function hands back is as it should be. -/
def RetOK (xs : List AV) (h : Heap) (Q : AV → Heap → Prop) : Prop := ∃ y h', Weak (oneOr xs) y ∧ Sub h' h ∧ Q y h'
@[congr] theorem RetOK_congr {xs xs' : List AV} {h h' : Heap} {Q : AV → Heap → Prop} (e1 : xs = xs') (e2 : h = h') : RetOK xs h Q = RetOK xs' h' Q := by rw [e1, e2]
@[go_sem ↓] theorem bodyK_ret (rs : List ResultVar) : bodyK U rs Q .ret ρ h = resA ρ h U rs fun xs => RetOK xs h Q := by simp [bodyK, RetOK]
@[go_sem ↓] theorem bodyK_normal (rs : List ResultVar) : bodyK U rs Q .normal ρ h = resA ρ h U rs fun xs => RetOK xs h Q := by simp [bodyK, RetOK]
@[go_sem ↓] theorem resA_nil (f : List AV → Prop) : resA ρ h U [] f = f [] := rfl
@[go_sem ↓] theorem resA_tmp (i : Tmp) (r : List ResultVar) (f : List AV → Prop) : resA ρ h U (.tmp i :: r) f = bindO (lk ρ i) fun x => resA ρ h U r fun xs => f (x :: xs) := by
  simp only [resA]
  cases lk ρ i <;> rfl
def cellA (U : TypeId → TI) (h : Heap) (ty : TypeId) (y : AV) (k : AV → Prop) : Prop := match y with
  | .ptr id off => bindO (h id) fun b => objL b fun cs _ => (U ty).sz ≠ 0 ∧ (U ty).k ≠ .other ∧ partA cs off (U ty) k
  | _ => False
@[congr] theorem cellA_congr {ty : TypeId} {y y' : AV} (e : y = y') : cellA U h ty y k = cellA U h ty y' k := by rw [e]
@[go_sem ↓] theorem cellA_ptr (ty : TypeId) (id off : Nat) : cellA U h ty (.ptr id off) k = bindO (h id) fun b => objL b fun cs _ => (U ty).sz ≠ 0 ∧ (U ty).k ≠ .other ∧ partA cs off (U ty) k := rfl
@[go_sem ↓] theorem resA_cell (i : Tmp) (ty : TypeId) (r : List ResultVar) (f : List AV → Prop) : resA ρ h U (.cell i ty :: r) f = bindO (lk ρ i) fun y => cellA U h ty y fun x => resA ρ h U r fun xs => f (x :: xs) := by
  simp only [resA]
  cases lk ρ i with
  | none => rfl
  | some y =>
    cases y <;> simp only [bindO_some, cellA]
    rename_i id off
    cases h id with
    | none => rfl
    | some b => cases b <;> rfl

theorem RetOK.mk {xs : List AV} {h h' : Heap} {Q : AV → Heap → Prop} (y : AV) (hw : Weak (oneOr xs) y) (hs : Sub h' h) (hq : Q y h') : RetOK xs h Q := ⟨y, h', hw, hs, hq⟩
theorem RetOK.same {xs : List AV} {h h' : Heap} {Q : AV → Heap → Prop} (hs : Sub h' h) (hq : Q (oneOr xs) h') : RetOK xs h Q := ⟨_, h', .refl _, hs, hq⟩
theorem Sub.refl (h : Heap) : Sub h h := fun _ _ e => e
theorem Sub.trans {a b c : Heap} (h1 : Sub a b) (h2 : Sub b c) : Sub a c := fun i k e => h2 i k (h1 i k e)
theorem Sub.new {a b : Heap} (hs : Sub a b) {id : Nat} (hid : b id = none) (k : Option Blk) : Sub a (Ab.upd b id k) := fun j l e => by
  by_cases ej : j = id
  · subst ej; rw [hs _ _ e] at hid; cases hid
  · rw [upd_other _ _ ej]; exact hs _ _ e
theorem Sub.none {a b : Heap} (hs : Sub a b) {id : Nat} (hid : b id = none) : a id = none := by
  cases hh : a id with
  | none => rfl
  | some k => rw [hs _ _ hh] at hid; cases hid

/-- A contract out of the body, the numbers told. -/
theorem FnOK.body (hU : ∀ t, AgreeT P U t) (hm : P.follows .mixedOrders = true) {f : FuncId} {fn : Func} {c : Code} {args : List AV} {h : Heap} {Q : AV → Heap → Prop} (hf : P.funcs[f]? = some fn) (hb : fn.body = some c)
    (hn : (fn.name == "runtime.NumGoroutine") = false) (m : Nat) (hm' : fn.ntmps = m) (rs : List ResultVar) (hr : fn.results.toList = rs) (hl : args.length ≤ m)
    (hk : (∀ x ∈ args, wfA x) → vcCode P U m c (envOf args) h (bodyK U rs Q)) : FnOK P f args h Q := by
  subst hm'; subst hr
  exact FnOK.of_vc hU hm hf hb hn hl hk

end
end Go.Ab
