/- The law CasesRight: pack 3 of its texts. -/
import Derived.Below
import Derived.OpenShut
import Derived.Lib.ItoaLen
import Derived.Lib.Join
import Derived.Lib.Small
import Derived.Laws.Externs
import Derived.Lib.Overlaps
import Derived.Test.YtnhelgnmadbpgaaGreatDoorProg
import Derived.KernelRfl
import Derived.Test.YtnhelgnmadbpgaaGreatDoorPk1
import Derived.Test.YtnhelgnmadbpgaaGreatDoorPk2
set_option linter.unusedSimpArgs false
set_option linter.unusedVariables false
namespace Go.Ab
open Go
section
variable {P : Program} {U : TypeId → TI} {n : Nat} {ρ : Env} {h : Heap}
variable {d : Option Tmp} {t : TypeId} {p : String} {a : Array Edge} {g : Option (Nat × Bool)} {Q : AV → Heap → Prop} {k : AV → Prop}
def NewP (h : Heap) (b : Blk) (Q : AV → Heap → Prop) : Prop := ∀ id, h id = none → Q (.ptr id 0) (upd h id (some b))
def NewS (h : Heap) (xs : List AV) (b : Blk) (Q : AV → Heap → Prop) : Prop := ∀ id, h id = none → Q (.sl xs (.own id)) (upd h id (some b))
def ApNew (U : TypeId → TI) (h : Heap) (xs ys : List AV) (e : TypeId) (Q : AV → Heap → Prop) : Prop :=
  (∀ id, h id = none → Q (.sl (xs ++ ys) (.own id)) (upd h id (some (.spare (xs.length + ys.length) (U e).sz)))) ∨
    ((U e).sz = 1 ∧ fit (U e).zero 1 ∧ isAggA (U e).zero = false ∧ (∀ z ∈ xs ++ ys, isAggA z = false) ∧ ∀ id m, h id = none → Q (.oa id 0 (xs.length + ys.length)) (upd h id (some (.obj (xs ++ ys ++ List.replicate m (U e).zero) e)))) ∨
    (fit (U e).zero (U e).sz ∧ newOb h (flatA xs ++ flatA ys) (xs.length + ys.length) (U e).sz e Q)
@[congr] theorem ApNew_congr {h h' : Heap} {xs xs' ys ys' : List AV} {e : TypeId} (e0 : h = h') (e1 : xs = xs') (e2 : ys = ys') : ApNew U h xs ys e Q = ApNew U h' xs' ys' e Q := by rw [e0, e1, e2]
theorem ApNew.own {xs ys : List AV} {e : TypeId} (hk : NewS h (xs ++ ys) (.spare (xs.length + ys.length) (U e).sz) Q) : ApNew U h xs ys e Q := .inl hk
theorem ApNew.oa {xs ys : List AV} {e : TypeId} (h1 : (U e).sz = 1) (h2 : fit (U e).zero 1) (h3 : isAggA (U e).zero = false) (h4 : ∀ z ∈ xs ++ ys, isAggA z = false)
    (hk : ∀ id m, h id = none → Q (.oa id 0 (xs.length + ys.length)) (upd h id (some (.obj (xs ++ ys ++ List.replicate m (U e).zero) e)))) : ApNew U h xs ys e Q := .inr (.inl ⟨h1, h2, h3, h4, hk⟩)
theorem ApNew.ob {xs ys : List AV} {e : TypeId} (h1 : fit (U e).zero (U e).sz) (hk : newOb h (flatA xs ++ flatA ys) (xs.length + ys.length) (U e).sz e Q) : ApNew U h xs ys e Q := .inr (.inr ⟨h1, hk⟩)
def ApFull (U : TypeId → TI) (h : Heap) (xs ys : List AV) (e : TypeId) (Q : AV → Heap → Prop) : Prop := (ys = [] → Q (.sl xs .full) h) ∧ (ys ≠ [] → ApNew U h xs ys e Q)
@[congr] theorem ApFull_congr {h h' : Heap} {xs xs' ys ys' : List AV} {e : TypeId} (e0 : h = h') (e1 : xs = xs') (e2 : ys = ys') : ApFull U h xs ys e Q = ApFull U h' xs' ys' e Q := by rw [e0, e1, e2]
@[go_sem ↓] theorem ApFull_cons (xs : List AV) (y : AV) (r : List AV) (e : TypeId) : ApFull U h xs (y :: r) e Q = ApNew U h xs (y :: r) e Q := by simp [ApFull]
@[go_sem] theorem upd_same' {α : Type} (f : Nat → α) (i : Nat) (x : α) : upd f i x i = x := upd_same f i x
@[go_sem] theorem upd_ne {α : Type} (f : Nat → α) (i j : Nat) (x : α) (e : ¬ j = i) : upd f i x j = f j := upd_other f x e
@[go_sem] theorem upd_upd {α : Type} (f : Nat → α) (i : Nat) (x y : α) : upd (upd f i x) i y = upd f i y := by
  funext j; simp only [upd]; split <;> rfl
def idxOK : List (Nat × Operand) → Nat → Bool
  | [], _ => true
  | (i, _) :: r, k => i == k && idxOK r (k + 1)
theorem idxOK_iff : ∀ (l : List (Nat × Operand)) (k : Nat), idxOK l k = true ↔ l.map (·.1) = List.range' k l.length
  | [], k => by simp [idxOK]
  | (i, x) :: r, k => by simp [idxOK, idxOK_iff r (k + 1), List.range'_succ]
@[go_sem] theorem idxOK_nil (k : Nat) : idxOK [] k = true := rfl
@[go_sem] theorem idxOK_cons (i : Nat) (x : Operand) (r : List (Nat × Operand)) (k : Nat) : (idxOK ((i, x) :: r) k = true) = (i = k ∧ idxOK r (k + 1) = true) := by simp [idxOK]
theorem idx_range (l : List (Nat × Operand)) (m : Nat) : (l.map (·.1) = List.range m) = (idxOK l 0 = true ∧ l.length = m) := by
  apply propext
  rw [idxOK_iff, List.range_eq_range']
  constructor
  · intro e
    have := congrArg List.length e
    simp at this
    exact ⟨by rw [this]; exact e, this⟩
  · rintro ⟨e, rfl⟩; exact e
def bsK (U : TypeId → TI) (ρ : Env) (len : Nat) (parts : List (Nat × Operand)) (k : AV → Prop) (tk : TK) : Prop := match tk with
  | .slice e => (U e).sz ≠ 0 ∧ len * (U e).sz ≤ 16777216 ∧ (idxOK parts 0 = true ∧ parts.length = len) ∧ bindO (evs ρ (parts.map (·.2))) fun xs => fits (U e).sz xs ∧ k (.sl xs .full)
  | _ => False
@[go_sem ↓] theorem bsK_eq (len : Nat) (parts : List (Nat × Operand)) (e : TypeId) : bsK U ρ len parts k (.slice e) = ((U e).sz ≠ 0 ∧ len * (U e).sz ≤ 16777216 ∧ (idxOK parts 0 = true ∧ parts.length = len) ∧ bindO (evs ρ (parts.map (·.2))) fun xs => fits (U e).sz xs ∧ k (.sl xs .full)) := rfl
@[go_sem ↓] theorem o_buildSlice (ty : TypeId) (len : Nat) (parts : List (Nat × Operand)) : vcOp P U ρ h ⟨d, .buildSlice ty len parts.toArray, t, p, a, g⟩ Q = atK (U ty).k (bsK U ρ len parts (atH Q h)) := by
  simp only [vcOp, pv, atK]
  cases (U ty).k <;> simp only [bsK, withvs_eq, idx_range]
  rfl
def aggK (k : AV → Prop) (cs : List AV) : Prop := k (.agg cs)
@[go_sem ↓] theorem aggK_eq (cs : List AV) : aggK k cs = k (.agg cs) := rfl
def aggOf (z : AV) : Option (List AV) := match z with
  | .agg cs => some cs
  | _ => none
@[go_sem] theorem aggOf_agg (cs : List AV) : aggOf (.agg cs) = some cs := rfl
def bK (U : TypeId → TI) (ρ : Env) (ty : TypeId) (parts : List (Nat × Operand)) (k : AV → Prop) (tk : TK) : Prop := match tk with
  | .strct fs => (U ty).sz ≠ 0 ∧ bindO (aggOf (U ty).zero) fun cs0 => withps U ρ fs parts cs0 (aggK k)
  | _ => False
@[go_sem ↓] theorem bK_eq (ty : TypeId) (parts : List (Nat × Operand)) (fs : List (Nat × TypeId)) : bK U ρ ty parts k (.strct fs) = ((U ty).sz ≠ 0 ∧ bindO (aggOf (U ty).zero) fun cs0 => withps U ρ fs parts cs0 (aggK k)) := rfl
def bU (U : TypeId → TI) (ρ : Env) (ty : TypeId) (parts : List (Nat × Operand)) (k : AV → Prop) (b : Bool) : Prop := match b with
  | true => parts = [] ∧ k (.agg [])
  | false => atK (U ty).k (bK U ρ ty parts k)
@[go_sem ↓] theorem bU_t (ty : TypeId) (parts : List (Nat × Operand)) : bU U ρ ty parts k true = (parts = [] ∧ k (.agg [])) := rfl
@[go_sem ↓] theorem bU_f (ty : TypeId) (parts : List (Nat × Operand)) : bU U ρ ty parts k false = atK (U ty).k (bK U ρ ty parts k) := rfl
@[go_sem] theorem isUnit_u : isUnit (.strct []) = true := rfl
@[go_sem] theorem isUnit_s (f : Nat × TypeId) (fs : List (Nat × TypeId)) : isUnit (.strct (f :: fs)) = false := rfl
@[go_sem] theorem isUnit_i (x : IntKind) : isUnit (.int x) = false := rfl
@[go_sem] theorem isUnit_b : isUnit .bool = false := rfl
@[go_sem] theorem isUnit_str : isUnit .str = false := rfl
@[go_sem] theorem isUnit_sl (e : TypeId) : isUnit (.slice e) = false := rfl
theorem o_build' (ty : TypeId) (parts : List (Nat × Operand)) : (match (U ty).k with
    | .strct fs => (U ty).sz ≠ 0 ∧ ∃ cs0, (U ty).zero = .agg cs0 ∧ withps U ρ fs parts cs0 fun cs => (atH Q h) (.agg cs)
    | _ => False) = atK (U ty).k (bK U ρ ty parts (atH Q h)) := by
  simp only [atK]
  cases (U ty).k <;> simp only [bK]
  congr 1
  cases hz : (U ty).zero <;> simp [aggOf, bindO]
  exact Iff.rfl
@[go_sem ↓] theorem o_build (ty : TypeId) (parts : List (Nat × Operand)) : vcOp P U ρ h ⟨d, .build ty parts.toArray, t, p, a, g⟩ Q = bU U ρ ty parts (atH Q h) (isUnit (U ty).k) := by
  simp only [vcOp, pv]
  cases isUnit (U ty).k
  · simp only [bU, Bool.false_eq_true, if_false]
    exact o_build' ty parts
  · simp only [bU, if_true]
    rfl
@[congr] theorem withps_congr' {fs : List (Nat × TypeId)} {ps : List (Nat × Operand)} {cs cs' : List AV} {k : List AV → Prop} (e : cs = cs') : withps U ρ fs ps cs k = withps U ρ fs ps cs' k := by rw [e]
@[go_sem] theorem withps_nil (fs : List (Nat × TypeId)) (cs : List AV) (k : List AV → Prop) : withps U ρ fs [] cs k = k cs := rfl
@[go_sem] theorem withps_cons (fs : List (Nat × TypeId)) (i : Nat) (x : Operand) (r : List (Nat × Operand)) (cs : List AV) (k : List AV → Prop) :
    withps U ρ fs ((i, x) :: r) cs k = bindO fs[i]? fun q => (U q.2).sz ≠ 0 ∧ bindO (ev ρ x) fun y => fit y (U q.2).sz ∧ q.1 + (U q.2).sz ≤ cs.length ∧ withps U ρ fs r (over cs q.1 y.cells) k := by
  simp only [withps, withv_eq]
  cases fs[i]? <;> rfl
@[go_sem] theorem over_eq (cs : List AV) (o : Nat) (xs : List AV) : over cs o xs = cs.take o ++ xs ++ cs.drop (o + xs.length) := rfl
section
variable {ty : TypeId} {y : AV}
end
def mkFn (f : FuncId) (k : AV → Prop) (ys : List AV) : Prop := k (.fn f ys)
@[go_sem ↓] theorem mkFn_eq (f : FuncId) (ys : List AV) : mkFn f k ys = k (.fn f ys) := rfl
@[go_sem ↓] theorem o_makeFunc (f : FuncId) (cap : List Operand) : vcOp P U ρ h ⟨d, .makeFunc (.func f) #[] cap.toArray, t, p, a, g⟩ Q = bindO (evs ρ cap) (mkFn f (atH Q h)) := by
  simp only [vcOp, pv, withvs_eq]
  rfl
def fnA (y : AV) (f : FuncId → List AV → Prop) : Prop := match y with
  | .fn g cap => f g cap
  | _ => False
@[congr] theorem fnA_congr {y y' : AV} {f : FuncId → List AV → Prop} (e : y = y') : fnA y f = fnA y' f := by rw [e]
@[go_sem ↓] theorem fnA_eq (g : FuncId) (cap : List AV) (f : FuncId → List AV → Prop) : fnA (.fn g cap) f = f g cap := rfl
@[go_sem ↓] theorem o_call (q : Operand) (args : List Operand) (ts : Array TypeId) : vcOp P U ρ h ⟨d, .call ⟨.value q, args.toArray, ts⟩, t, p, a, g⟩ Q = bindO (ev ρ q) fun y => fnA y fun f cap => bindO (evs ρ args) fun ys => FnOK P f (ys ++ cap) h Q := by
  simp only [vcOp, withv_eq, withvs_eq]
  congr 1
def lenK (y : AV) (k : AV → Prop) (tk : TK) : Prop := match tk, y with
  | .str, .s l => k (.v (.int .i64 l.length))
  | .slice _, .sl xs _ => k (.v (.int .i64 xs.length))
  | .slice _, .oa _ _ len => k (.v (.int .i64 len))
  | .slice _, .ob _ _ len _ _ => k (.v (.int .i64 len))
  | _, _ => False
def lenB (k : AV → Prop) (b : Blk) : Prop := match b with
  | .mp m => k (.v (.int .i64 m.length))
  | _ => False
@[congr] theorem lenB_congr {b b' : Blk} (e : b = b') : lenB k b = lenB k b' := by rw [e]
def lenM (h : Heap) (y : AV) (k : AV → Prop) (tk : TK) : Prop := match tk, y with
  | .map _ _, .mp id => bindO (h id) (lenB k)
  | tk, y => lenK y k tk
@[go_sem ↓] theorem lenM_str (y : AV) : lenM h y k .str = lenK y k .str := rfl
@[go_sem ↓] theorem lenM_slice (y : AV) (e : TypeId) : lenM h y k (.slice e) = lenK y k (.slice e) := rfl
@[go_sem ↓] theorem lenK_ob (i o l c s : Nat) (e : TypeId) : lenK (.ob i o l c s) k (.slice e) = k (.v (.int .i64 l)) := rfl
@[go_sem ↓] theorem lenK_s (l : List UInt8) : lenK (.s l) k .str = k (.v (.int .i64 l.length)) := rfl
@[go_sem ↓] theorem lenK_sl (xs : List AV) (q : Perm) (e : TypeId) : lenK (.sl xs q) k (.slice e) = k (.v (.int .i64 xs.length)) := rfl
@[go_sem ↓] theorem o_len (x : Operand) (ty : TypeId) : vcOp P U ρ h ⟨d, .call ⟨.builtin .len, #[x], #[ty]⟩, t, p, a, g⟩ Q = bindO (ev ρ x) fun y => atK (U ty).k (lenM h y (atH Q h)) := by
  simp only [vcOp, pv, pvB, withv_eq, atK]
  congr 1
  funext y
  cases (U ty).k with
  | map a b =>
    cases y with
    | mp id =>
      show (match h id with
        | some (.mp m) => Q (.v (.int .i64 m.length)) h
        | _ => False) = bindO (h id) (lenB (atH Q h))
      cases h id with
      | none => rfl
      | some b => cases b <;> rfl
    | _ => rfl
  | _ => cases y <;> rfl
def capK (y : AV) (k : AV → Prop) (tk : TK) : Prop := match tk, y with
  | .slice _, .sl xs .full => k (.v (.int .i64 xs.length))
  | .slice _, .ob _ _ _ cap _ => k (.v (.int .i64 cap))
  | _, _ => False
@[go_sem ↓] theorem capK_ob (i o l c s : Nat) (e : TypeId) : capK (.ob i o l c s) k (.slice e) = k (.v (.int .i64 c)) := rfl
@[go_sem ↓] theorem o_cap (x : Operand) (ty : TypeId) : vcOp P U ρ h ⟨d, .call ⟨.builtin .cap, #[x], #[ty]⟩, t, p, a, g⟩ Q = bindO (ev ρ x) fun y => atK (U ty).k (capK y (atH Q h)) := by
  simp only [vcOp, pv, pvB, withv_eq, atK]
  congr 1
@[congr] theorem minA_congr {ys ys' : List AV} (e : ys = ys') : minA ys k = minA ys' k := by rw [e]
@[congr] theorem maxA_congr {ys ys' : List AV} (e : ys = ys') : maxA ys k = maxA ys' k := by rw [e]
@[go_sem] theorem minA_int (x : IntKind) (i j : Int) : minA [.v (.int x i), .v (.int x j)] k = k (.v (.int x (if j < i then j else i))) := by simp [minA]
@[go_sem ↓] theorem o_min (args : List Operand) (ts : Array TypeId) : vcOp P U ρ h ⟨d, .call ⟨.builtin .min, args.toArray, ts⟩, t, p, a, g⟩ Q = bindO (evs ρ args) fun ys => minA ys (atH Q h) := by
  simp only [vcOp, pv, pvB, withvs_eq]
  rfl
@[congr] theorem srcA_congr {e : TypeId} {y y' : AV} {f : List AV → Prop} (h1 : y = y') : srcA U e h y f = srcA U e h y' f := by rw [h1]
@[go_sem ↓] theorem srcA_sl (e : TypeId) (ys : List AV) (q : Perm) (f : List AV → Prop) : srcA U e h (.sl ys q) f = f ys := rfl
def apK (U : TypeId → TI) (h : Heap) (x y : AV) (Q : AV → Heap → Prop) (tk : TK) : Prop := match tk, x with
  | .slice e, .sl xs .full => (U e).sz ≠ 0 ∧ (U e).bytes ≠ 0 ∧ srcA U e h y fun ys => Sized (U e).sz xs ∧ Sized (U e).sz ys ∧ (xs.length + ys.length) * (U e).bytes ≤ 140737488355328 ∧
      ApFull U h xs ys e Q
  | .slice e, .sl xs (.own id) => (U e).sz ≠ 0 ∧ (U e).bytes ≠ 0 ∧ srcA U e h y fun ys => Sized (U e).sz xs ∧ Sized (U e).sz ys ∧ (xs.length + ys.length) * (U e).bytes ≤ 140737488355328 ∧
      h id = some (.spare xs.length (U e).sz) ∧ Q (.sl (xs ++ ys) (.own id)) (upd h id (some (.spare (xs.length + ys.length) (U e).sz)))
  | .slice e, .oa id off len => (U e).sz ≠ 0 ∧ (U e).bytes ≠ 0 ∧ (U e).sz = 1 ∧ srcA U e h y fun ys => Sized 1 ys ∧ (∀ z ∈ ys, isAggA z = false) ∧ (len + ys.length) * (U e).bytes ≤ 140737488355328 ∧ bindO (h id) fun b => objL b fun cs t =>
      off + len ≤ cs.length ∧ (∀ z ∈ (cs.drop off).take len, isAggA z = false) ∧ fit (U e).zero 1 ∧ isAggA (U e).zero = false ∧
          (off + (len + ys.length) ≤ cs.length → Q (.oa id off (len + ys.length)) (upd h id (some (.obj (over cs (off + len) ys) t)))) ∧
          (∀ id' m, h id' = none → Q (.oa id' 0 (len + ys.length)) (upd h id' (some (.obj ((cs.drop off).take len ++ ys ++ List.replicate m (U e).zero) e))))
  | .slice e, .ob id off len cap sz => (U e).sz ≠ 0 ∧ (U e).bytes ≠ 0 ∧ sz = (U e).sz ∧ srcA U e h y fun ys => Sized (U e).sz ys ∧ (len + ys.length) * (U e).bytes ≤ 140737488355328 ∧ bindO (h id) fun b => objL b fun cs t =>
      off + len * (U e).sz ≤ cs.length ∧ fit (U e).zero (U e).sz ∧
          (len + ys.length ≤ cap → Q (.ob id off (len + ys.length) cap (U e).sz) (upd h id (some (.obj (over cs (off + len * (U e).sz) (flatA ys)) t)))) ∧
          (cap < len + ys.length → newOb h ((cs.drop off).take (len * (U e).sz) ++ flatA ys) (len + ys.length) (U e).sz e Q)
  | _, _ => False
@[go_sem ↓] theorem apK_full (xs : List AV) (y : AV) (e : TypeId) : apK U h (.sl xs .full) y Q (.slice e) = ((U e).sz ≠ 0 ∧ (U e).bytes ≠ 0 ∧ srcA U e h y fun ys => Sized (U e).sz xs ∧ Sized (U e).sz ys ∧ (xs.length + ys.length) * (U e).bytes ≤ 140737488355328 ∧
      ApFull U h xs ys e Q) := rfl
@[go_sem ↓] theorem apK_own (xs : List AV) (y : AV) (id : Nat) (e : TypeId) : apK U h (.sl xs (.own id)) y Q (.slice e) = ((U e).sz ≠ 0 ∧ (U e).bytes ≠ 0 ∧ srcA U e h y fun ys => Sized (U e).sz xs ∧ Sized (U e).sz ys ∧ (xs.length + ys.length) * (U e).bytes ≤ 140737488355328 ∧
      h id = some (.spare xs.length (U e).sz) ∧ Q (.sl (xs ++ ys) (.own id)) (upd h id (some (.spare (xs.length + ys.length) (U e).sz)))) := rfl
theorem vcAppend_eq (ts : TypeId) (x y : AV) : vcAppend U h ts x y Q = atK (U ts).k (apK U h x y Q) := by
  unfold vcAppend atK
  cases (U ts).k with
  | slice e =>
    simp only
    cases x with
    | sl xs q =>
      cases q with
      | no =>
        simp only [apK]
        apply propext
        constructor
        · rintro ⟨_, _, hk⟩
          obtain ⟨ys, hh, _⟩ : ∃ ys : List AV, (Sized (U e).sz xs ∧ Sized (U e).sz ys ∧ (xs.length + ys.length) * (U e).bytes ≤ 140737488355328 ∧ False) ∧ True := by
            unfold srcA at hk
            split at hk
            · exact ⟨_, hk, trivial⟩
            · exact ⟨_, hk.2.2, trivial⟩
            · obtain ⟨_, hk⟩ := hk
              split at hk
              · exact ⟨_, hk.2.2.2, trivial⟩
              · exact hk.elim
            · obtain ⟨_, hk⟩ := hk
              split at hk
              · obtain ⟨ys, _, _, _, hk⟩ := hk
                exact ⟨ys, hk, trivial⟩
              · exact hk.elim
            · exact hk.elim
          exact hh.2.2.2
        · exact False.elim
      | full =>
        rfl
      | own id => rfl
    | oa id off len =>
      refine congrArg (fun q => (U e).sz ≠ 0 ∧ (U e).bytes ≠ 0 ∧ (U e).sz = 1 ∧ q) (congrArg (fun f => srcA U e h y f) (funext fun ys => ?_))
      refine congrArg (fun q => Sized 1 ys ∧ (∀ z ∈ ys, isAggA z = false) ∧ (len + ys.length) * (U e).bytes ≤ 140737488355328 ∧ q) ?_
      cases h id with
      | none => rfl
      | some b => cases b <;> rfl
    | ob id off len cap sz =>
      refine congrArg (fun q => (U e).sz ≠ 0 ∧ (U e).bytes ≠ 0 ∧ sz = (U e).sz ∧ q) (congrArg (fun f => srcA U e h y f) (funext fun ys => ?_))
      refine congrArg (fun q => Sized (U e).sz ys ∧ (len + ys.length) * (U e).bytes ≤ 140737488355328 ∧ q) ?_
      cases h id with
      | none => rfl
      | some b => cases b <;> rfl
    | _ => simp [apK]
  | _ => rfl
@[go_sem ↓] theorem apT_slice (e : TypeId) (A B : Prop) : apT A B (.slice e) = A := rfl
@[go_sem ↓] theorem apT_int (x : IntKind) (A B : Prop) : apT A B (.int x) = B := rfl
def apzK (U : TypeId → TI) (h : Heap) (x y : AV) (Q : AV → Heap → Prop) (tk : TK) : Prop := match tk, x, y with
  | .slice e, .ob id off len cap sz, .v (.int _ n) => (U e).sz ≠ 0 ∧ (U e).bytes ≠ 0 ∧ sz = (U e).sz ∧ 0 < n ∧ (len + n.toNat) * (U e).bytes ≤ 140737488355328 ∧ fit (U e).zero (U e).sz ∧ cap < len + n.toNat ∧ bindO (h id) fun b => objL b fun cs _ =>
      off + len * (U e).sz ≤ cs.length ∧ newOb h ((cs.drop off).take (len * (U e).sz) ++ zerosA (U e).zero n.toNat (U e).sz) (len + n.toNat) (U e).sz e Q
  | _, _, _ => False
@[go_sem ↓] theorem apzK_ob (id off len cap sz : Nat) (x : IntKind) (n : Int) (e : TypeId) : apzK U h (.ob id off len cap sz) (.v (.int x n)) Q (.slice e) = ((U e).sz ≠ 0 ∧ (U e).bytes ≠ 0 ∧ sz = (U e).sz ∧ 0 < n ∧ (len + n.toNat) * (U e).bytes ≤ 140737488355328 ∧ fit (U e).zero (U e).sz ∧ cap < len + n.toNat ∧ bindO (h id) fun b => objL b fun cs _ =>
      off + len * (U e).sz ≤ cs.length ∧ newOb h ((cs.drop off).take (len * (U e).sz) ++ zerosA (U e).zero n.toNat (U e).sz) (len + n.toNat) (U e).sz e Q) := rfl
theorem vcApz_eq (ts : TypeId) (x y : AV) : vcApz U h ts x y Q = atK (U ts).k (apzK U h x y Q) := by
  unfold vcApz atK
  cases (U ts).k with
  | slice e =>
    simp only
    cases x with
    | ob id off len cap sz =>
      cases y with
      | v u =>
        cases u with
        | int k n =>
          simp only [apzK]
          cases h id with
          | none => rfl
          | some b => cases b <;> rfl
        | _ => simp [apzK]
      | _ => simp [apzK]
    | _ => simp [apzK]
  | _ => rfl
@[go_sem ↓] theorem o_append (x y : Operand) (t1 t2 : TypeId) : vcOp P U ρ h ⟨d, .call ⟨.builtin .append, #[x, y], #[t1, t2]⟩, t, p, a, g⟩ Q = bindO (ev ρ x) fun u => bindO (ev ρ y) fun v => atK (U t2).k (apT (atK (U t1).k (apK U h u v Q)) (atK (U t1).k (apzK U h u v Q))) := by
  simp only [vcOp, withv_eq, vcAppend_eq, vcApz_eq, atK]
def alU (U : TypeId → TI) (h : Heap) (ty : TypeId) (Q : AV → Heap → Prop) (b : Bool) : Prop := match b with
  | true => NewP h (.obj [] ty) Q
  | false => (U ty).sz ≠ 0 ∧ fit (U ty).zero (U ty).sz ∧ NewP h (.obj (U ty).zero.cells ty) Q
@[go_sem ↓] theorem alU_t (ty : TypeId) : alU U h ty Q true = NewP h (.obj [] ty) Q := rfl
@[go_sem ↓] theorem alU_f (ty : TypeId) : alU U h ty Q false = ((U ty).sz ≠ 0 ∧ fit (U ty).zero (U ty).sz ∧ NewP h (.obj (U ty).zero.cells ty) Q) := rfl
@[go_sem ↓] theorem o_alloc (ty : TypeId) : vcOp P U ρ h ⟨d, .alloc ty, t, p, a, g⟩ Q = alU U h ty Q (isUnit (U ty).k) := by
  simp only [vcOp]
  cases isUnit (U ty).k <;> rfl
@[go_sem ↓] theorem o_box (ty : TypeId) (x : Operand) : vcOp P U ρ h ⟨d, .box ty x, t, p, a, g⟩ Q = ((U ty).sz ≠ 0 ∧ bindO (ev ρ x) fun y => fit y (U ty).sz ∧ NewP h (.obj y.cells ty) Q) := by
  simp only [vcOp, withv_eq]
  rfl
def stA (U : TypeId → TI) (h : Heap) (ty : TypeId) (q y : AV) (Q : AV → Heap → Prop) : Prop := match q with
  | .ptr id off => bindO (h id) fun b => objL b fun cs t' => fit y (U ty).sz ∧ off + (U ty).sz ≤ cs.length ∧ Q (.v undef) (upd h id (some (.obj (over cs off y.cells) t')))
  | _ => False
@[congr] theorem stA_congr {ty : TypeId} {q q' y y' : AV} (e1 : q = q') (e2 : y = y') : stA U h ty q y Q = stA U h ty q' y' Q := by rw [e1, e2]
@[go_sem ↓] theorem stA_ptr (ty : TypeId) (id off : Nat) (y : AV) : stA U h ty (.ptr id off) y Q = bindO (h id) fun b => objL b fun cs t' => fit y (U ty).sz ∧ off + (U ty).sz ≤ cs.length ∧ Q (.v undef) (upd h id (some (.obj (over cs off y.cells) t'))) := rfl
def utA (h : Heap) (u y : AV) (Q : AV → Heap → Prop) : Prop := y = .agg [] ∧ match u with
  | .ptr .. => Q (.v undef) h
  | _ => False
@[congr] theorem utA_congr {u u' y y' : AV} (e1 : u = u') (e2 : y = y') : utA h u y Q = utA h u' y' Q := by rw [e1, e2]
@[go_sem ↓] theorem utA_eq (i o : Nat) : utA h (.ptr i o) (.agg []) Q = Q (.v undef) h := by simp [utA]
def stU (U : TypeId → TI) (ρ : Env) (h : Heap) (ty : TypeId) (q x : Operand) (Q : AV → Heap → Prop) (b : Bool) : Prop := match b with
  | true => bindO (ev ρ q) fun u => bindO (ev ρ x) fun y => utA h u y Q
  | false => (U ty).sz ≠ 0 ∧ bindO (ev ρ q) fun u => bindO (ev ρ x) fun y => stA U h ty u y Q
@[go_sem ↓] theorem stU_t (ty : TypeId) (q x : Operand) : stU U ρ h ty q x Q true = bindO (ev ρ q) fun u => bindO (ev ρ x) fun y => utA h u y Q := rfl
@[go_sem ↓] theorem stU_f (ty : TypeId) (q x : Operand) : stU U ρ h ty q x Q false = ((U ty).sz ≠ 0 ∧ bindO (ev ρ q) fun u => bindO (ev ρ x) fun y => stA U h ty u y Q) := rfl
@[go_sem ↓] theorem o_store (ty : TypeId) (q x : Operand) : vcOp P U ρ h ⟨d, .store ty q x, t, p, a, g⟩ Q = stU U ρ h ty q x Q (isUnit (U ty).k) := by
  simp only [vcOp, withv_eq]
  cases isUnit (U ty).k
  case true => rfl
  simp only [stU, Bool.false_eq_true, if_false]
  congr 1
  congr 1
  funext u
  congr 1
  funext y
  cases u <;> simp only [stA]
  rename_i id off
  cases h id with
  | none => rfl
  | some b => cases b <;> rfl
def RetOK (xs : List AV) (h : Heap) (Q : AV → Heap → Prop) : Prop := ∃ y h', Weak (oneOr xs) y ∧ Sub h' h ∧ Q y h'
@[congr] theorem RetOK_congr {xs xs' : List AV} {h h' : Heap} {Q : AV → Heap → Prop} (e1 : xs = xs') (e2 : h = h') : RetOK xs h Q = RetOK xs' h' Q := by rw [e1, e2]
@[go_sem ↓] theorem bodyK_ret (rs : List ResultVar) : bodyK U rs Q .ret ρ h = resA ρ h U rs fun xs => RetOK xs h Q := by simp [bodyK, RetOK]
@[go_sem ↓] theorem bodyK_normal (rs : List ResultVar) : bodyK U rs Q .normal ρ h = resA ρ h U rs fun xs => RetOK xs h Q := by simp [bodyK, RetOK]
@[go_sem ↓] theorem resA_nil (f : List AV → Prop) : resA ρ h U [] f = f [] := rfl
@[go_sem ↓] theorem resA_tmp (i : Tmp) (r : List ResultVar) (f : List AV → Prop) : resA ρ h U (.tmp i :: r) f = bindO (lk ρ i) fun x => resA ρ h U r fun xs => f (x :: xs) := by
  simp only [resA]
  cases lk ρ i <;> rfl
def cellA (U : TypeId → TI) (h : Heap) (ty : TypeId) (y : AV) (k : AV → Prop) : Prop := match y with
  | .ptr id off => bindO (h id) fun b => objL b fun cs _ => (U ty).sz ≠ 0 ∧ (U ty).k ≠ .other ∧ partA cs off (U ty) k
  | _ => False
@[congr] theorem cellA_congr {ty : TypeId} {y y' : AV} (e : y = y') : cellA U h ty y k = cellA U h ty y' k := by rw [e]
@[go_sem ↓] theorem cellA_ptr (ty : TypeId) (id off : Nat) : cellA U h ty (.ptr id off) k = bindO (h id) fun b => objL b fun cs _ => (U ty).sz ≠ 0 ∧ (U ty).k ≠ .other ∧ partA cs off (U ty) k := rfl
@[go_sem ↓] theorem resA_cell (i : Tmp) (ty : TypeId) (r : List ResultVar) (f : List AV → Prop) : resA ρ h U (.cell i ty :: r) f = bindO (lk ρ i) fun y => cellA U h ty y fun x => resA ρ h U r fun xs => f (x :: xs) := by
  simp only [resA]
  cases lk ρ i with
  | none => rfl
  | some y =>
    cases y <;> simp only [bindO_some, cellA]
    rename_i id off
    cases h id with
    | none => rfl
    | some b => cases b <;> rfl
theorem RetOK.mk {xs : List AV} {h h' : Heap} {Q : AV → Heap → Prop} (y : AV) (hw : Weak (oneOr xs) y) (hs : Sub h' h) (hq : Q y h') : RetOK xs h Q := ⟨y, h', hw, hs, hq⟩
theorem RetOK.same {xs : List AV} {h h' : Heap} {Q : AV → Heap → Prop} (hs : Sub h' h) (hq : Q (oneOr xs) h') : RetOK xs h Q := ⟨_, h', .refl _, hs, hq⟩
theorem Sub.refl (h : Heap) : Sub h h := fun _ _ e => e
theorem Sub.trans {a b c : Heap} (h1 : Sub a b) (h2 : Sub b c) : Sub a c := fun i k e => h2 i k (h1 i k e)
theorem Sub.new {a b : Heap} (hs : Sub a b) {id : Nat} (hid : b id = none) (k : Option Blk) : Sub a (Ab.upd b id k) := fun j l e => by
  by_cases ej : j = id
  · subst ej; rw [hs _ _ e] at hid; cases hid
  · rw [upd_other _ _ ej]; exact hs _ _ e
theorem Sub.none {a b : Heap} (hs : Sub a b) {id : Nat} (hid : b id = none) : a id = none := by
  cases hh : a id with
  | none => rfl
  | some k => rw [hs _ _ hh] at hid; cases hid
theorem FnOK.body (hU : ∀ t, AgreeT P U t) (hm : P.follows .mixedOrders = true) {f : FuncId} {fn : Func} {c : Code} {args : List AV} {h : Heap} {Q : AV → Heap → Prop} (hf : P.funcs[f]? = some fn) (hb : fn.body = some c)
    (hn : (fn.name == "runtime.NumGoroutine") = false) (m : Nat) (hm' : fn.ntmps = m) (rs : List ResultVar) (hr : fn.results.toList = rs) (hl : args.length ≤ m)
    (hk : (∀ x ∈ args, wfA x) → vcCode P U m c (envOf args) h (bodyK U rs Q)) : FnOK P f args h Q := by
  subst hm'; subst hr
  exact FnOK.of_vc hU hm hf hb hn hl hk
end
end Go.Ab

set_option linter.unusedSimpArgs false
set_option linter.unusedVariables false
namespace Go.Ab
open Go
section
variable {P : Program} {U : TypeId → TI} {n : Nat} {ρ : Env} {h : Heap}
variable {d : Option Tmp} {t : TypeId} {p : String} {a : Array Edge} {g : Option (Nat × Bool)} {Q : AV → Heap → Prop} {k : AV → Prop}
def dsts (n : Nat) : List Oper → Bool
  | [] => true
  | o :: os => dstOK n o.dst && dsts n os
theorem dsts_eq (l : List Oper) : dsts n l = l.all fun o => dstOK n o.dst := by induction l with
  | nil => rfl
  | cons o os ih => simp [dsts, ih]
@[go_sem] theorem dsts_nil : (dsts n [] = true) = True := by simp [dsts]
@[go_sem] theorem dsts_cons (o : Oper) (os : List Oper) : (dsts n (o :: os) = true) = (dstOK n o.dst = true ∧ dsts n os = true) := by simp [dsts]
def LexOK (ops : Array Oper) : Prop := lexOK ops = true
theorem LexOK.of {ops : Array Oper} (h : lexOK ops = true) : LexOK ops := h
def constK (k : AV → Prop) (x : AV) (_ : Heap) : Prop := k x
@[go_sem ↓] theorem constK_eq (x : AV) : constK k x h = k x := rfl
def KDr (P : Program) (U : TypeId → TI) (n : Nat) (all os : List Oper) (h : Heap) (K : Env → Prop) (ρ : Env) (d : Option Tmp) (x : AV) : Prop := vcDr P U n all os (put ρ d x) h K
@[go_sem ↓] theorem KDr_eq (all os : List Oper) (K : Env → Prop) (x : AV) : KDr P U n all os h K ρ d x = vcDr P U n all os (put ρ d x) h K := rfl
def atN (K : Exit → Env → Heap → Prop) (h : Heap) (ρ : Env) : Prop := K .normal ρ h
@[go_sem ↓] theorem atN_eq (K : Exit → Env → Heap → Prop) : atN K h ρ = K .normal ρ h := rfl
def LexS (ops : Array Oper) : Prop := lexS ops = true
theorem LexS.of {ops : Array Oper} (h : lexS ops = true) : LexS ops := h
attribute [go_sem] Bool.not_false Bool.not_true isStore Option.isNone_none Option.isNone_some Bool.and_true Bool.true_and Bool.and_false Bool.false_and List.dropLast_singleton
@[go_sem] theorem lastS_cons (o o' : Oper) (r : List Oper) : lastS (o :: o' :: r) = lastS (o' :: r) := rfl
@[go_sem] theorem dropLast_cons (o o' : Oper) (r : List Oper) : (o :: o' :: r).dropLast = o :: (o' :: r).dropLast := rfl
@[go_sem ↓] theorem lastK_one (o : Oper) (K : Env → Heap → Prop) : lastK P U [o] h K ρ = vcOp P U ρ h o (fun X h' => K (put ρ o.dst X) h') := rfl
@[go_sem ↓] theorem lastK_cons (o o' : Oper) (r : List Oper) (K : Env → Heap → Prop) : lastK P U (o :: o' :: r) h K ρ = lastK P U (o' :: r) h K ρ := rfl
def withL (l : List Oper) (k : List Oper → Prop) : Prop := k l
@[congr] theorem withL_congr {l l' : List Oper} {k : List Oper → Prop} (e : l = l') : withL l k = withL l' k := by rw [e]
@[go_sem] theorem withL_cons (o : Oper) (r : List Oper) (k : List Oper → Prop) : withL (o :: r) k = k (o :: r) := rfl
section
variable (l : List Oper)
@[go_sem] theorem stillL_nil : stillL [] = true := rfl
@[go_sem] theorem stillL_cons (o : Oper) : stillL (o :: l) = (!effB o.op && stillL l) := rfl
end
section
variable (x y z : Operand) (ty ty' : TypeId)
@[go_sem] theorem effB_move : effB (.move x) = false := rfl
@[go_sem] theorem effB_assign : effB (.assign x) = false := rfl
@[go_sem] theorem effB_pick : effB (.pick x y z) = false := rfl
@[go_sem] theorem effB_nilCheck : effB (.nilCheck x) = false := rfl
@[go_sem] theorem effB_binOp (op : BinOp) : effB (.binOp op ty x y ty') = false := rfl
@[go_sem] theorem effB_unOp (op : UnOp) : effB (.unOp op ty x) = false := rfl
@[go_sem] theorem effB_convert : effB (.convert ty ty' x) = false := rfl
@[go_sem] theorem effB_index : effB (.index ty x y) = false := rfl
@[go_sem] theorem effB_fieldAddr (f : Nat) : effB (.fieldAddr ty x f) = false := rfl
@[go_sem] theorem effB_indexAddr : effB (.indexAddr ty x y) = false := rfl
@[go_sem] theorem effB_load : effB (.load ty x) = false := rfl
@[go_sem] theorem effB_slice (lo hi mx : Option Operand) : effB (.slice ty x lo hi mx) = false := rfl
@[go_sem] theorem effB_buildSlice (m : Nat) (ps : Array (Nat × Operand)) : effB (.buildSlice ty m ps) = false := rfl
@[go_sem] theorem effB_build (ps : Array (Nat × Operand)) : effB (.build ty ps) = false := rfl
@[go_sem] theorem effB_len (aa : Array Operand) (ts : Array TypeId) : effB (.call ⟨.builtin .len, aa, ts⟩) = false := rfl
@[go_sem] theorem effB_call (aa : Array Operand) (ts : Array TypeId) : effB (.call ⟨.value x, aa, ts⟩) = true := rfl
@[go_sem] theorem effB_append (aa : Array Operand) (ts : Array TypeId) : effB (.call ⟨.builtin .append, aa, ts⟩) = true := rfl
@[go_sem] theorem effB_copy (aa : Array Operand) (ts : Array TypeId) : effB (.call ⟨.builtin .copy, aa, ts⟩) = true := rfl
@[go_sem] theorem effB_store : effB (.store ty x y) = true := rfl
end
def DrawE (P : Program) (U : TypeId → TI) (n : Nat) (l : List Oper) (ρ : Env) (h : Heap) (K : Exit → Env → Heap → Prop) : Prop := vcDrE P U n l.toArray ρ h (K .normal)
theorem DrawE.quiet {l : List Oper} {K : Exit → Env → Heap → Prop} (hB : lexOK l.toArray = true) (hk : dsts n l = true ∧ vcDr P U n l l ρ h (atN K h)) : DrawE P U n l ρ h K :=
  ⟨by rw [dsts_eq] at hk; exact hk.1, .inl ⟨hB, hk.2⟩⟩
theorem DrawE.calls {l : List Oper} {K : Exit → Env → Heap → Prop} (hm : Heap) (os : List Nat) (hs : Sub hm h) (hB : orderOK .any l.toArray os (Array.replicate l.toArray.size false) = true) (hl : os.length = l.toArray.size)
    (hk : dsts n l = true ∧ vcDrH P U n l hm os ρ h (K .normal)) : DrawE P U n l ρ h K :=
  ⟨by rw [dsts_eq] at hk; exact hk.1, .inr (.inl ⟨hm, .seq os, _, hs, hB, hl, hk.2, fun _ _ h => h⟩)⟩
def StageK (P : Program) (U : TypeId → TI) (n : Nat) (l : List Oper) (o2 : List Nat) (K : Exit → Env → Heap → Prop) (ρ : Env) (h : Heap) : Prop := ∃ hm2, Sub hm2 h ∧ vcDrH P U n l hm2 o2 ρ h (K .normal)
theorem DrawE.fork {l : List Oper} {K : Exit → Env → Heap → Prop} (hm : Heap) (t : Ord) (Post : Env → Heap → Prop) (hs : Sub hm h) (hB : ordOK .any l.toArray t (Array.replicate l.toArray.size false) = true) (hl : t.len = l.toArray.size)
    (hd : dsts n l = true) (hk : vcDrT P U n l hm t ρ h Post) (hp : ∀ ρ h, Post ρ h → K .normal ρ h) : DrawE P U n l ρ h K :=
  ⟨by rw [dsts_eq] at hd; exact hd, .inr (.inl ⟨hm, t, Post, hs, hB, hl, hk, hp⟩)⟩
theorem DrawE.stage {l : List Oper} {K : Exit → Env → Heap → Prop} (hm : Heap) (o1 o2 : List Nat) (hs : Sub hm h) (hB : stageOK .any l.toArray o1 o2 = true)
    (hk : dsts n l = true ∧ vcDrH P U n l hm o1 ρ h (StageK P U n l o2 K)) : DrawE P U n l ρ h K :=
  ⟨by rw [dsts_eq] at hk; exact hk.1, .inr (.inr (.inl ⟨hm, o1, o2, hs, hB, hk.2⟩))⟩
def LastH (P : Program) (U : TypeId → TI) (l : List Oper) (K : Exit → Env → Heap → Prop) (ρ : Env) (h : Heap) : Prop := lastK P U l h (K .normal) ρ
@[go_sem ↓] theorem LastH_one (o : Oper) (K : Exit → Env → Heap → Prop) : LastH P U [o] K ρ h = vcOp P U ρ h o (fun X h' => K .normal (put ρ o.dst X) h') := rfl
@[go_sem ↓] theorem LastH_cons (o o' : Oper) (r : List Oper) (K : Exit → Env → Heap → Prop) : LastH P U (o :: o' :: r) K ρ h = LastH P U (o' :: r) K ρ h := rfl
theorem DrawE.last {l : List Oper} {K : Exit → Env → Heap → Prop} (hm : Heap) (os : List Nat) (hs : Sub hm h) (hz : zOKt .any l.toArray os.length = true) (hg : (l.getLast?.map fun o => o.guard.isNone) = some true) (hB : orderE .any l.toArray os.length os (Array.replicate l.toArray.size false) = true) (hl : os.length + 1 = l.toArray.size)
    (hk : dsts n l = true ∧ vcDrH P U n l hm os ρ h (LastH P U l K)) : DrawE P U n l ρ h K :=
  ⟨by rw [dsts_eq] at hk; exact hk.1, .inr (.inr (.inr ⟨hm, os, hs, hz, hg, hB, hl, hk.2⟩))⟩
def DrawC (P : Program) (U : TypeId → TI) (n : Nat) (l : List Oper) (ρ : Env) (h : Heap) (K : Exit → Env → Heap → Prop) (b : Bool) (e : Bool) : Prop := match b, e with
  | true, _ => LexS l.toArray ∧ dsts n l = true ∧ vcDr P U n l l.dropLast ρ h (lastK P U l h (K .normal))
  | false, true => LexOK l.toArray ∧ dsts n l = true ∧ vcDr P U n l l ρ h (atN K h)
  | false, false => DrawE P U n l ρ h K
@[congr] theorem DrawC_congr {l : List Oper} {K : Exit → Env → Heap → Prop} {b b' e e' : Bool} (h1 : b = b') (h2 : e = e') : DrawC P U n l ρ h K b e = DrawC P U n l ρ h K b' e' := by rw [h1, h2]
@[go_sem ↓] theorem DrawC_true (l : List Oper) (K : Exit → Env → Heap → Prop) (e : Bool) : DrawC P U n l ρ h K true e = (LexS l.toArray ∧ dsts n l = true ∧ withL l.dropLast fun l' => vcDr P U n l l' ρ h (lastK P U l h (K .normal))) := by cases e <;> rfl
@[go_sem ↓] theorem DrawC_false (l : List Oper) (K : Exit → Env → Heap → Prop) : DrawC P U n l ρ h K false true = (LexOK l.toArray ∧ dsts n l = true ∧ vcDr P U n l l ρ h (atN K h)) := rfl
@[go_sem ↓] theorem DrawC_eff (l : List Oper) (K : Exit → Env → Heap → Prop) : DrawC P U n l ρ h K false false = DrawE P U n l ρ h K := rfl
def stillD (l : List Oper) : Bool := lastS l && stillL l.dropLast
@[go_sem] theorem stillD_one (o : Oper) : stillD [o] = (isStore o.op && o.guard.isNone) := by simp [stillD, lastS, stillL]
@[go_sem] theorem stillD_cons (o o' : Oper) (r : List Oper) : stillD (o :: o' :: r) = (!effB o.op && stillD (o' :: r)) := by
  simp only [stillD, lastS_cons, dropLast_cons, stillL_cons]
  cases effB o.op <;> simp
@[go_sem ↓] theorem r_draw (id : Nat) (l : List Oper) (K : Exit → Env → Heap → Prop) : vcCode P U n (.region id l.toArray true) ρ h K = DrawC P U n l ρ h K (stillD l) (stillL l) := by
  simp only [vcCode, if_true, stillD]
  cases hb : (lastS l && stillL l.dropLast) with
  | true =>
    simp only [if_true, Bool.and_eq_true, DrawC, LexS, dsts_eq, and_assoc]
  | false =>
    cases he : stillL l with
    | true =>
      simp only [Bool.false_eq_true, if_false, Bool.and_eq_true, DrawC, LexOK, dsts_eq, and_assoc, Bool.true_eq_false]
      rfl
    | false =>
      simp only [Bool.false_eq_true, if_false, DrawC, if_true]
      rfl
def KDrH (P : Program) (U : TypeId → TI) (n : Nat) (all : List Oper) (hm : Heap) (is : List Nat) (K : Env → Heap → Prop) (ρ : Env) (d : Option Tmp) (X : AV) (h : Heap) : Prop := vcDrH P U n all hm is (put ρ d X) h K
@[go_sem ↓] theorem KDrH_eq (all : List Oper) (hm : Heap) (is : List Nat) (K : Env → Heap → Prop) (d : Option Tmp) (X : AV) : KDrH P U n all hm is K ρ d X h = vcDrH P U n all hm is (put ρ d X) h K := rfl
def KDrS (P : Program) (U : TypeId → TI) (n : Nat) (all : List Oper) (hm : Heap) (is : List Nat) (K : Env → Heap → Prop) (ρ : Env) (d : Option Tmp) (X : AV) (h : Heap) : Prop := Sub hm h ∧ vcDrH P U n all hm is (put ρ d X) h K
@[go_sem ↓] theorem KDrS_eq (all : List Oper) (hm : Heap) (is : List Nat) (K : Env → Heap → Prop) (d : Option Tmp) (X : AV) : KDrS P U n all hm is K ρ d X h = (Sub hm h ∧ vcDrH P U n all hm is (put ρ d X) h K) := rfl
@[go_sem ↓] theorem h_nil (all : List Oper) (hm : Heap) (K : Env → Heap → Prop) : vcDrH P U n all hm [] ρ h K = K ρ h := rfl
def OneH (P : Program) (U : TypeId → TI) (n : Nat) (all : List Oper) (hm : Heap) (is : List Nat) (K : Env → Heap → Prop) (ρ : Env) (h : Heap) (o : Oper) (e : Bool) : Prop := match e with
  | true => vcOp P U ρ h o (KDrS P U n all hm is K ρ o.dst)
  | false => pv U ρ hm o.op fun X => vcDrH P U n all hm is (put ρ o.dst X) h K
@[congr] theorem OneH_congr {all : List Oper} {hm : Heap} {is : List Nat} {K : Env → Heap → Prop} {o : Oper} {e e' : Bool} (he : e = e') : OneH P U n all hm is K ρ h o e = OneH P U n all hm is K ρ h o e' := by rw [he]
def constH (k : AV → Heap → Prop) (h : Heap) (x : AV) (_ : Heap) : Prop := k x h
@[go_sem ↓] theorem constH_eq (k : AV → Heap → Prop) (h h' : Heap) (x : AV) : constH k h x h' = k x h := rfl
@[go_sem ↓] theorem OneH_true (all : List Oper) (hm : Heap) (is : List Nat) (K : Env → Heap → Prop) (op : Op) : OneH P U n all hm is K ρ h ⟨d, op, t, p, a, g⟩ true = vcOp P U ρ h ⟨d, op, t, p, a, g⟩ (KDrS P U n all hm is K ρ d) := rfl
def notNil : Op → Bool
  | .binOp _ _ _ y _ => !nilS y
  | _ => true
theorem pv_vcOp {hm : Heap} {op : Op} {k : AV → Heap → Prop} (h1 : effB op = false) (h2 : notNil op = true) : vcOp P U ρ hm ⟨d, op, t, p, a, g⟩ (constH k h) = pv U ρ hm op fun X => k X h := by
  cases op with
  | call c =>
    obtain ⟨cal, args, ts⟩ := c
    cases cal with
    | value q => simp [effB] at h1
    | builtin b => cases b <;> first | rfl | simp [effB] at h1
    | _ => rfl
  | binOp op ty x y ty' =>
    simp only [notNil, Bool.not_eq_true'] at h2
    simp only [vcOp, h2]
    rfl
  | alloc => simp [effB] at h1
  | box => simp [effB] at h1
  | store => simp [effB] at h1
  | makeSlice => simp [effB] at h1
  | makeMap => simp [effB] at h1
  | mapUpdate => simp [effB] at h1
  | _ => rfl
theorem OneH_false {all : List Oper} {hm : Heap} {is : List Nat} {K : Env → Heap → Prop} {op : Op} (h1 : effB op = false) (h2 : notNil op = true) :
    OneH P U n all hm is K ρ h ⟨d, op, t, p, a, g⟩ false = vcOp P U ρ hm ⟨d, op, t, p, a, g⟩ (constH (KDrH P U n all hm is K ρ d) h) := by
  rw [pv_vcOp h1 h2]; rfl
section
variable (all : List Oper) (hm : Heap) (is : List Nat) (K : Env → Heap → Prop) (x y z : Operand) (ty ty' : TypeId)
@[go_sem ↓] theorem OneH_move : OneH P U n all hm is K ρ h ⟨d, .move x, t, p, a, g⟩ false = vcOp P U ρ hm ⟨d, .move x, t, p, a, g⟩ (constH (KDrH P U n all hm is K ρ d) h) := OneH_false rfl rfl
@[go_sem ↓] theorem OneH_assign : OneH P U n all hm is K ρ h ⟨d, .assign x, t, p, a, g⟩ false = vcOp P U ρ hm ⟨d, .assign x, t, p, a, g⟩ (constH (KDrH P U n all hm is K ρ d) h) := OneH_false rfl rfl
@[go_sem ↓] theorem OneH_nilCheck : OneH P U n all hm is K ρ h ⟨d, .nilCheck x, t, p, a, g⟩ false = vcOp P U ρ hm ⟨d, .nilCheck x, t, p, a, g⟩ (constH (KDrH P U n all hm is K ρ d) h) := OneH_false rfl rfl
@[go_sem ↓] theorem OneH_fieldAddr (f : Nat) : OneH P U n all hm is K ρ h ⟨d, .fieldAddr ty x f, t, p, a, g⟩ false = vcOp P U ρ hm ⟨d, .fieldAddr ty x f, t, p, a, g⟩ (constH (KDrH P U n all hm is K ρ d) h) := OneH_false rfl rfl
@[go_sem ↓] theorem OneH_indexAddr : OneH P U n all hm is K ρ h ⟨d, .indexAddr ty x y, t, p, a, g⟩ false = vcOp P U ρ hm ⟨d, .indexAddr ty x y, t, p, a, g⟩ (constH (KDrH P U n all hm is K ρ d) h) := OneH_false rfl rfl
@[go_sem ↓] theorem OneH_load : OneH P U n all hm is K ρ h ⟨d, .load ty x, t, p, a, g⟩ false = vcOp P U ρ hm ⟨d, .load ty x, t, p, a, g⟩ (constH (KDrH P U n all hm is K ρ d) h) := OneH_false rfl rfl
@[go_sem ↓] theorem OneH_slice (lo hi mx : Option Operand) : OneH P U n all hm is K ρ h ⟨d, .slice ty x lo hi mx, t, p, a, g⟩ false = vcOp P U ρ hm ⟨d, .slice ty x lo hi mx, t, p, a, g⟩ (constH (KDrH P U n all hm is K ρ d) h) := OneH_false rfl rfl
@[go_sem ↓] theorem OneH_buildSlice (m : Nat) (ps : Array (Nat × Operand)) : OneH P U n all hm is K ρ h ⟨d, .buildSlice ty m ps, t, p, a, g⟩ false = vcOp P U ρ hm ⟨d, .buildSlice ty m ps, t, p, a, g⟩ (constH (KDrH P U n all hm is K ρ d) h) := OneH_false rfl rfl
@[go_sem ↓] theorem OneH_build (ps : Array (Nat × Operand)) : OneH P U n all hm is K ρ h ⟨d, .build ty ps, t, p, a, g⟩ false = vcOp P U ρ hm ⟨d, .build ty ps, t, p, a, g⟩ (constH (KDrH P U n all hm is K ρ d) h) := OneH_false rfl rfl
@[go_sem ↓] theorem OneH_binOp (op : BinOp) (w : Tmp) : OneH P U n all hm is K ρ h ⟨d, .binOp op ty x (.tmp w) ty', t, p, a, g⟩ false = vcOp P U ρ hm ⟨d, .binOp op ty x (.tmp w) ty', t, p, a, g⟩ (constH (KDrH P U n all hm is K ρ d) h) := OneH_false rfl rfl
@[go_sem ↓] theorem OneH_binOp_i (op : BinOp) (ik : IntKind) (im : Int) : OneH P U n all hm is K ρ h ⟨d, .binOp op ty x (.const (.int ik im)) ty', t, p, a, g⟩ false = vcOp P U ρ hm ⟨d, .binOp op ty x (.const (.int ik im)) ty', t, p, a, g⟩ (constH (KDrH P U n all hm is K ρ d) h) := OneH_false rfl rfl
end
def GuardH (P : Program) (U : TypeId → TI) (n : Nat) (all : List Oper) (hm : Heap) (is : List Nat) (ρ : Env) (h : Heap) (K : Env → Heap → Prop) (w : Bool) (o : Oper) (s : Nat) (x : AV) : Prop :=
  gB s w ρ (fun ρ => OneH P U n all hm is K ρ h o (effB o.op)) (fun ρ => vcDrH P U n all hm is (put ρ o.dst (.v undef)) h K) x
section
variable {all : List Oper} {hm : Heap} {is : List Nat} {K : Env → Heap → Prop} {o : Oper} {s : Nat}
theorem GuardH.intro {w b : Bool} (h1 : b = true → GuardH P U n all hm is ρ h K w o s (.v (.bool true))) (h2 : b = false → GuardH P U n all hm is ρ h K w o s (.v (.bool false))) : GuardH P U n all hm is ρ h K w o s (.v (.bool b)) := by
  cases b
  · exact h2 rfl
  · exact h1 rfl
end
def stepH (P : Program) (U : TypeId → TI) (n : Nat) (all : List Oper) (hm : Heap) (is : List Nat) (ρ : Env) (h : Heap) (K : Env → Heap → Prop) (o : Oper) : Prop := match o.guard with
  | none => OneH P U n all hm is K ρ h o (effB o.op)
  | some (gi, w) => bindO (dstAt all gi) fun s => bindO (lk ρ s) (GuardH P U n all hm is ρ h K w o s)
@[go_sem ↓] theorem stepH_none (all : List Oper) (hm : Heap) (is : List Nat) (K : Env → Heap → Prop) (op : Op) : stepH P U n all hm is ρ h K ⟨d, op, t, p, a, none⟩ = OneH P U n all hm is K ρ h ⟨d, op, t, p, a, none⟩ (effB op) := rfl
@[go_sem ↓] theorem h_cons (all : List Oper) (hm : Heap) (i : Nat) (is : List Nat) (K : Env → Heap → Prop) : vcDrH P U n all hm (i :: is) ρ h K = bindO all[i]? (stepH P U n all hm is ρ h K) := by
  simp only [vcDrH]
  cases all[i]? with
  | none => rfl
  | some o =>
    simp only [bindO_some, stepH]
    have e : ∀ ρ', vcOne P U hm o ρ' h (fun X h' => vcDrH P U n all hm is (put ρ' o.dst X) h' K) = OneH P U n all hm is K ρ' h o (effB o.op) := fun ρ' => by
      unfold vcOne OneH vcE
      cases effB o.op <;> rfl
    cases hg : o.guard with
    | none => simp only [guardA]; exact e ρ
    | some gg =>
      obtain ⟨gi, w⟩ := gg
      simp only
      rw [guardA_eq]
      simp only [e]
      rfl
@[congr] theorem FnQ_congr {f f' : FuncId} {a a' : List AV} {hm : Heap} {k : AV → Prop} (h0 : f = f') (h1 : a = a') : FnQ P f a hm k = FnQ P f' a' hm k := by rw [h0, h1]
theorem FnQ.of {f : FuncId} {args : List AV} {hm : Heap} {k : AV → Prop} {X : AV} (h1 : ∀ h, FnOK P f args h fun x h' => x = X ∧ h' = h) (h2 : k X) : FnQ P f args hm k := ⟨X, fun h _ => h1 h, h2⟩
@[go_sem ↓] theorem d_nil (all : List Oper) (K : Env → Prop) : vcDr P U n all [] ρ h K = K ρ := rfl
@[go_sem ↓] theorem d_cons (all : List Oper) (op : Op) (os : List Oper) (K : Env → Prop) :
    vcDr P U n all (⟨d, op, t, p, a, none⟩ :: os) ρ h K = (dstOK n d = true ∧ vcD1 P U ρ h ⟨d, op, t, p, a, none⟩ (KDr P U n all os h K ρ d)) := rfl
def GuardD (P : Program) (U : TypeId → TI) (n : Nat) (all os : List Oper) (ρ : Env) (h : Heap) (K : Env → Prop) (w : Bool) (d : Option Tmp) (op : Op) (t : TypeId) (p : String) (a : Array Edge) (g : Option (Nat × Bool)) (s : Nat) (x : AV) : Prop :=
  gB s w ρ (fun ρ => vcD1 P U ρ h ⟨d, op, t, p, a, g⟩ (KDr P U n all os h K ρ d)) (fun ρ => vcDr P U n all os (put ρ d (.v undef)) h K) x
section
variable {all os : List Oper} {K : Env → Prop} {op : Op} {s : Nat}
@[go_sem ↓] theorem GuardD_tt : GuardD P U n all os ρ h K true d op t p a g s (.v (.bool true)) = vcD1 P U ((s, .v (.bool true)) :: ρ) h ⟨d, op, t, p, a, g⟩ (KDr P U n all os h K ((s, .v (.bool true)) :: ρ) d) := by simp [GuardD, gB, Br]
@[go_sem ↓] theorem GuardD_tf : GuardD P U n all os ρ h K true d op t p a g s (.v (.bool false)) = vcDr P U n all os (put ((s, .v (.bool false)) :: ρ) d (.v undef)) h K := by simp [GuardD, gB, Br]
@[go_sem ↓] theorem GuardD_ft : GuardD P U n all os ρ h K false d op t p a g s (.v (.bool true)) = vcDr P U n all os (put ((s, .v (.bool true)) :: ρ) d (.v undef)) h K := by simp [GuardD, gB, Br]
@[go_sem ↓] theorem GuardD_ff : GuardD P U n all os ρ h K false d op t p a g s (.v (.bool false)) = vcD1 P U ((s, .v (.bool false)) :: ρ) h ⟨d, op, t, p, a, g⟩ (KDr P U n all os h K ((s, .v (.bool false)) :: ρ) d) := by simp [GuardD, gB, Br]
theorem GuardD.intro {w b : Bool} (h1 : b = true → GuardD P U n all os ρ h K w d op t p a g s (.v (.bool true))) (h2 : b = false → GuardD P U n all os ρ h K w d op t p a g s (.v (.bool false))) : GuardD P U n all os ρ h K w d op t p a g s (.v (.bool b)) := by
  cases b
  · exact h2 rfl
  · exact h1 rfl
end
@[go_sem ↓] theorem d_guard (all : List Oper) (op : Op) (gi : Nat) (w : Bool) (os : List Oper) (K : Env → Prop) :
    vcDr P U n all (⟨d, op, t, p, a, some (gi, w)⟩ :: os) ρ h K = (dstOK n d = true ∧ bindO (dstAt all gi) fun s => bindO (lk ρ s) (GuardD P U n all os ρ h K w d op t p a (some (gi, w)) s)) := by
  have := guardA_eq (ρ := ρ) all gi w (fun ρ => vcD1 P U ρ h ⟨d, op, t, p, a, some (gi, w)⟩ (KDr P U n all os h K ρ d)) (fun ρ => vcDr P U n all os (put ρ d (.v undef)) h K)
  show (dstOK n d = true ∧ guardA all ρ (some (gi, w)) _ _) = _
  rw [show (fun s => bindO (lk ρ s) (GuardD P U n all os ρ h K w d op t p a (some (gi, w)) s)) = fun d_1 => bindO (lk ρ d_1) fun x => gB d_1 w ρ (fun ρ => vcD1 P U ρ h ⟨d, op, t, p, a, some (gi, w)⟩ (KDr P U n all os h K ρ d)) (fun ρ => vcDr P U n all os (put ρ d (.v undef)) h K) x from rfl, ← this]
  rfl
def FnD (P : Program) (f : FuncId) (args : List AV) (h : Heap) (k : AV → Prop) : Prop := ∃ X, FnOK P f args h (fun x h' => x = X ∧ h' = h) ∧ k X
@[congr] theorem FnD_congr {f f' : FuncId} {a a' : List AV} {h h' : Heap} (h0 : f = f') (h1 : a = a') (h2 : h = h') : FnD P f a h k = FnD P f' a' h' k := by rw [h0, h1, h2]
@[go_sem ↓] theorem d1_call (q : Operand) (args : List Operand) (ts : Array TypeId) : vcD1 P U ρ h ⟨d, .call ⟨.value q, args.toArray, ts⟩, t, p, a, g⟩ k = bindO (ev ρ q) fun y => fnA y fun f cap => bindO (evs ρ args) fun ys => FnD P f (ys ++ cap) h k := by
  simp only [vcD1, withv_eq, withvs_eq]
  congr 1
def opD (P : Program) (U : TypeId → TI) (ρ : Env) (h : Heap) (d : Option Tmp) (op : Op) (t : TypeId) (p : String) (a : Array Edge) (g : Option (Nat × Bool)) (k : AV → Prop) : Prop := vcOp P U ρ h ⟨d, op, t, p, a, g⟩ (constK k)
@[go_sem ↓] theorem opD_eq (op : Op) : opD P U ρ h d op t p a g k = vcOp P U ρ h ⟨d, op, t, p, a, g⟩ (constK k) := rfl
section
@[go_sem ↓] theorem d1_move (x : Operand) : vcD1 P U ρ h ⟨d, .move x, t, p, a, g⟩ k = opD P U ρ h d (.move x) t p a g k := rfl
@[go_sem ↓] theorem d1_assign (x : Operand) : vcD1 P U ρ h ⟨d, .assign x, t, p, a, g⟩ k = opD P U ρ h d (.assign x) t p a g k := rfl
@[go_sem ↓] theorem d1_pick (x y z : Operand) : vcD1 P U ρ h ⟨d, .pick x y z, t, p, a, g⟩ k = opD P U ρ h d (.pick x y z) t p a g k := rfl
@[go_sem ↓] theorem d1_nilCheck (x : Operand) : vcD1 P U ρ h ⟨d, .nilCheck x, t, p, a, g⟩ k = opD P U ρ h d (.nilCheck x) t p a g k := rfl
theorem d1_bin0 (op : BinOp) (ty ty' : TypeId) (x y : Operand) (hy : nilS y = false) : vcD1 P U ρ h ⟨d, .binOp op ty x y ty', t, p, a, g⟩ k = opD P U ρ h d (.binOp op ty x y ty') t p a g k := by
  simp only [vcD1, opD, vcOp, hy]
  rfl
@[go_sem ↓] theorem d1_binOp (op : BinOp) (ty ty' : TypeId) (x : Operand) (y : Tmp) : vcD1 P U ρ h ⟨d, .binOp op ty x (.tmp y) ty', t, p, a, g⟩ k = opD P U ρ h d (.binOp op ty x (.tmp y) ty') t p a g k := d1_bin0 _ _ _ _ _ rfl
@[go_sem ↓] theorem d1_binOp_i (op : BinOp) (ty ty' : TypeId) (x : Operand) (ik : IntKind) (im : Int) : vcD1 P U ρ h ⟨d, .binOp op ty x (.const (.int ik im)) ty', t, p, a, g⟩ k = opD P U ρ h d (.binOp op ty x (.const (.int ik im)) ty') t p a g k := d1_bin0 _ _ _ _ _ rfl
@[go_sem ↓] theorem d1_binOp_s (op : BinOp) (ty ty' : TypeId) (x : Operand) (b : ByteArray) : vcD1 P U ρ h ⟨d, .binOp op ty x (.const (.string b)) ty', t, p, a, g⟩ k = opD P U ρ h d (.binOp op ty x (.const (.string b)) ty') t p a g k := d1_bin0 _ _ _ _ _ rfl
@[go_sem ↓] theorem d1_unOp (op : UnOp) (ty : TypeId) (x : Operand) : vcD1 P U ρ h ⟨d, .unOp op ty x, t, p, a, g⟩ k = opD P U ρ h d (.unOp op ty x) t p a g k := rfl
@[go_sem ↓] theorem d1_convert (s e : TypeId) (x : Operand) : vcD1 P U ρ h ⟨d, .convert s e x, t, p, a, g⟩ k = opD P U ρ h d (.convert s e x) t p a g k := rfl
@[go_sem ↓] theorem d1_index (ty : TypeId) (x i : Operand) : vcD1 P U ρ h ⟨d, .index ty x i, t, p, a, g⟩ k = opD P U ρ h d (.index ty x i) t p a g k := rfl
@[go_sem ↓] theorem d1_fieldAddr (ty : TypeId) (x : Operand) (f : Nat) : vcD1 P U ρ h ⟨d, .fieldAddr ty x f, t, p, a, g⟩ k = opD P U ρ h d (.fieldAddr ty x f) t p a g k := rfl
@[go_sem ↓] theorem d1_indexAddr (ty : TypeId) (x i : Operand) : vcD1 P U ρ h ⟨d, .indexAddr ty x i, t, p, a, g⟩ k = opD P U ρ h d (.indexAddr ty x i) t p a g k := rfl
@[go_sem ↓] theorem d1_load (ty : TypeId) (x : Operand) : vcD1 P U ρ h ⟨d, .load ty x, t, p, a, g⟩ k = opD P U ρ h d (.load ty x) t p a g k := rfl
@[go_sem ↓] theorem d1_buildSlice (ty : TypeId) (len : Nat) (parts : Array (Nat × Operand)) : vcD1 P U ρ h ⟨d, .buildSlice ty len parts, t, p, a, g⟩ k = opD P U ρ h d (.buildSlice ty len parts) t p a g k := rfl
@[go_sem ↓] theorem d1_build (ty : TypeId) (parts : Array (Nat × Operand)) : vcD1 P U ρ h ⟨d, .build ty parts, t, p, a, g⟩ k = opD P U ρ h d (.build ty parts) t p a g k := rfl
@[go_sem ↓] theorem d1_len (x : Operand) (ty : TypeId) : vcD1 P U ρ h ⟨d, .call ⟨.builtin .len, #[x], #[ty]⟩, t, p, a, g⟩ k = opD P U ρ h d (.call ⟨.builtin .len, #[x], #[ty]⟩) t p a g k := rfl
end
@[go_sem ↓] theorem srcA_oa (e : TypeId) (id off len : Nat) (f : List AV → Prop) : srcA U e h (.oa id off len) f = ((U e).sz = 1 ∧ bindO (h id) fun b => objL b fun cs _ => off + len ≤ cs.length ∧ (∀ x ∈ (cs.drop off).take len, x.cells.length = 1) ∧ (∀ x ∈ (cs.drop off).take len, isAggA x = false) ∧ f ((cs.drop off).take len)) := by
  simp only [srcA]
  congr 1
  cases h id with
  | none => rfl
  | some b => cases b <;> rfl
@[go_sem ↓] theorem srcA_ob (e : TypeId) (id off len cap sz : Nat) (f : List AV → Prop) : srcA U e h (.ob id off len cap sz) f = (sz = (U e).sz ∧ bindO (h id) fun b => objL b fun cs _ => ∃ ys : List AV, ys.length = len ∧ off + len * sz ≤ cs.length ∧ flatA ys = (cs.drop off).take (len * sz) ∧ f ys) := by
  simp only [srcA]
  congr 1
  cases h id with
  | none => rfl
  | some b => cases b <;> rfl
@[go_sem] theorem cutA_sl (xs : List AV) (q : Perm) (n : Nat) : cutA (.sl xs q) n = .sl xs q := rfl
@[go_sem] theorem cutA_ob (i o l c s n : Nat) : cutA (.ob i o l c s) n = .ob i o (min l n) c s := rfl
def cpK (U : TypeId → TI) (h : Heap) (x y : AV) (Q : AV → Heap → Prop) (tk : TK) : Prop := match tk, x with
  | .slice e, .oa id off len => (U e).sz = 1 ∧ srcA U e h y fun ys => Sized 1 ys ∧ (∀ z ∈ ys, isAggA z = false) ∧ bindO (h id) fun b => objL b fun cs t =>
      ys.length ≤ len ∧ off + len ≤ cs.length ∧ Q (.v (.int .i64 ys.length)) (upd h id (some (.obj (over cs off ys) t)))
  | .slice e, .ob id off len _ sz => (U e).sz ≠ 0 ∧ sz = (U e).sz ∧ srcA U e h (cutA y len) fun ys => Sized (U e).sz ys ∧ bindO (h id) fun b => objL b fun cs t =>
      ys.length ≤ len ∧ off + len * (U e).sz ≤ cs.length ∧ Q (.v (.int .i64 ys.length)) (upd h id (some (.obj (over cs off (flatA ys)) t)))
  | _, _ => False
@[go_sem ↓] theorem cpK_ob (id off len cap sz : Nat) (y : AV) (e : TypeId) : cpK U h (.ob id off len cap sz) y Q (.slice e) = ((U e).sz ≠ 0 ∧ sz = (U e).sz ∧ srcA U e h (cutA y len) fun ys => Sized (U e).sz ys ∧ bindO (h id) fun b => objL b fun cs t =>
      ys.length ≤ len ∧ off + len * (U e).sz ≤ cs.length ∧ Q (.v (.int .i64 ys.length)) (upd h id (some (.obj (over cs off (flatA ys)) t)))) := rfl
@[go_sem ↓] theorem o_copy (x y : Operand) (t1 t2 : TypeId) : vcOp P U ρ h ⟨d, .call ⟨.builtin .copy, #[x, y], #[t1, t2]⟩, t, p, a, g⟩ Q = bindO (ev ρ x) fun u => bindO (ev ρ y) fun v => atK (U t1).k (cpK U h u v Q) := by
  simp only [vcOp, withv_eq, vcCopy, atK]
  congr 1
  funext u
  congr 1
  funext v
  cases (U t1).k with
  | slice e =>
    cases u with
    | oa id off len =>
      refine congrArg (fun f => (U e).sz = 1 ∧ srcA U e h v f) (funext fun ys => ?_)
      refine congrArg (fun q => Sized 1 ys ∧ (∀ z ∈ ys, isAggA z = false) ∧ q) ?_
      cases h id with
      | none => rfl
      | some b => cases b <;> rfl
    | ob id off len cap sz =>
      refine congrArg (fun f => (U e).sz ≠ 0 ∧ sz = (U e).sz ∧ srcA U e h (cutA v len) f) (funext fun ys => ?_)
      refine congrArg (fun q => Sized (U e).sz ys ∧ q) ?_
      cases h id with
      | none => rfl
      | some b => cases b <;> rfl
    | _ => simp [cpK]
  | _ => simp [cpK]
end
end Go.Ab

set_option linter.unusedSimpArgs false
set_option linter.unusedVariables false
namespace Go.Ab
open Go
section
variable {P : Program} {U : TypeId → TI} {n : Nat} {ρ : Env} {h h' : Heap} {tb : TypeId} {y : AV} {l : List UInt8}
@[go_sem] theorem byteA_eq (c : UInt8) : byteA c = .v (.int .u8 c.toNat) := rfl
@[go_sem] theorem Sized_bytes (l : List UInt8) : Sized 1 (l.map byteA) = True := by
  apply eq_true
  intro z hz
  obtain ⟨c, _, rfl⟩ := List.mem_map.1 hz
  rfl
@[go_sem] theorem Sized_nil (m : Nat) : Sized m [] = True := by simp [Sized]
@[go_sem] theorem Sized_cons (m : Nat) (x : AV) (r : List AV) : Sized m (x :: r) = (x.cells.length = m ∧ Sized m r) := by simp [Sized]
theorem noAgg_bytes (l : List UInt8) : ∀ z ∈ l.map byteA, isAggA z = false := by
  intro z hz
  obtain ⟨c, _, rfl⟩ := List.mem_map.1 hz
  rfl
theorem Sub.upd_new {id : Nat} {k : Option Blk} (hid : h id = Option.none) : Sub h (Ab.upd h id k) := (Sub.refl h).new hid k
def Keep (id : Nat) (h h' : Heap) : Prop := ∀ j k, j ≠ id → h j = some k → h' j = some k
theorem Keep.refl (id : Nat) (h : Heap) : Keep id h h := fun _ _ _ e => e
theorem Keep.trans {a b c : Heap} {id : Nat} (x : Keep id a b) (y : Keep id b c) : Keep id a c := fun j k e hj => y j k e (x j k e hj)
theorem Sub.keep (hs : Sub h h') (id : Nat) : Keep id h h' := fun _ _ _ e => hs _ _ e
theorem Keep.upd (id : Nat) (k : Option Blk) : Keep id h (Ab.upd h id k) := fun _ _ e hj => by rw [upd_other _ _ e]; exact hj
def Bytes (tb : TypeId) (h : Heap) (y : AV) (l : List UInt8) : Prop :=
  (∃ q, y = .sl (l.map byteA) q) ∨ ∃ id off cs, y = .oa id off l.length ∧ h id = some (.obj cs tb) ∧ off + l.length ≤ cs.length ∧ (cs.drop off).take l.length = l.map byteA
theorem Bytes.sl (l : List UInt8) (q : Perm) : Bytes tb h (.sl (l.map byteA) q) l := .inl ⟨q, rfl⟩
theorem Bytes.nil (q : Perm) : Bytes tb h (.sl [] q) [] := .inl ⟨q, rfl⟩
theorem Bytes.oa {id off : Nat} {cs : List AV} (h1 : h id = some (.obj cs tb)) (h2 : off + l.length ≤ cs.length) (h3 : (cs.drop off).take l.length = l.map byteA) : Bytes tb h (.oa id off l.length) l := .inr ⟨id, off, cs, rfl, h1, h2, h3⟩
theorem Bytes.sub (hb : Bytes tb h y l) (hs : Sub h h') : Bytes tb h' y l := by
  rcases hb with hb | ⟨id, off, cs, rfl, h1, h2, h3⟩
  · exact .inl hb
  · exact .oa (hs _ _ h1) h2 h3
theorem Bytes.keep (hb : Bytes tb h y l) {id : Nat} (hs : Keep id h h') {cs : List AV} {t : TypeId} (hid : h id = some (.obj cs t)) (ht : t ≠ tb) : Bytes tb h' y l := by
  rcases hb with hb | ⟨i, off, cs', rfl, h1, h2, h3⟩
  · exact .inl hb
  · refine .oa (hs _ _ (fun e => ?_) h1) h2 h3
    subst e
    rw [hid] at h1
    cases h1
    exact ht rfl
theorem Bytes.new (hb : Bytes tb h y l) {id : Nat} {k : Option Blk} (hid : h id = none) : Bytes tb (Ab.upd h id k) y l := hb.sub (Sub.upd_new hid)
theorem Bytes.cells (hb : Bytes tb h y l) : y.cells = [y] := by
  rcases hb with ⟨q, rfl⟩ | ⟨id, off, cs, rfl, _⟩ <;> rfl
theorem Bytes.fit (hb : Bytes tb h y l) (m : Nat) : Ab.fit y m = (m = 1) := by
  rcases hb with ⟨q, rfl⟩ | ⟨id, off, cs, rfl, _⟩ <;> rfl
theorem Bytes.len (hb : Bytes tb h y l) (e : TypeId) (k : AV → Prop) : lenK y k (.slice e) = k (.v (.int .i64 l.length)) := by
  rcases hb with ⟨q, rfl⟩ | ⟨id, off, cs, rfl, _⟩
  · simp only [lenK, List.length_map]
  · rfl
theorem Bytes.src (hb : Bytes tb h y l) {e : TypeId} (he : (U e).sz = 1) (k : List AV → Prop) : srcA U e h y k = k (l.map byteA) := by
  rcases hb with ⟨q, rfl⟩ | ⟨id, off, cs, rfl, h1, h2, h3⟩
  · rfl
  · rw [srcA_oa, h1, he]
    simp only [bindO_some, objL_eq, h3, h2, true_and]
    apply propext
    constructor
    · rintro ⟨_, _, hk⟩; exact hk
    · intro hk
      exact ⟨fun x hx => by obtain ⟨c, _, rfl⟩ := List.mem_map.1 hx; rfl, noAgg_bytes l, hk⟩
def ByteP (U : TypeId → TI) (tb : TypeId) (h : Heap) (p : AV) (c : UInt8) : Prop := ∀ k : AV → Prop, loadA U h tb p k = k (byteA c)
theorem Bytes.idx (hb : Bytes tb h y l) {m : Int} {x : IntKind} {K : AV → Prop} (j : Nat) (hm : m = j) (hj : j < l.length) (hz : (U tb).sz = 1) (ha : (U tb).k.agg = false)
    (hk : ∀ p, ByteP U tb h p l[j] → K p) : iaddrK U y (.v (.int x m)) K (.slice tb) := by
  subst hm
  rcases hb with ⟨q, rfl⟩ | ⟨id, off, cs, rfl, h1, h2, h3⟩
  · refine (iaddrK_sl ..).mpr ⟨by rw [hz]; decide, ?_⟩
    refine IdxE.at j (by simpa using hj) (by rw [List.getElem_map, hz]; rfl) ?_
    simp only [List.getElem_map]
    refine hk _ fun k => ?_
    simp only [loadA, atA_eq, ha, hz, byteA, AV.cells, isAggA, List.length_cons, List.length_nil, Nat.zero_add, and_self, if_true]
  · refine (iaddrK_oa ..).mpr ⟨by rw [hz]; decide, by omega, by omega, ?_⟩
    refine hk _ fun k => ?_
    have hlt : off + j < cs.length := by omega
    have e1 : cs[off + j]? = some (byteA l[j]) := by
      have := congrArg (fun q => q[j]?) h3
      simp only [List.getElem?_take, hj, if_true, List.getElem?_drop, List.getElem?_map, List.getElem?_eq_getElem hj, Option.map_some] at this
      exact this
    simp only [loadA, h1, bindO_some, objL_eq, hz, Nat.mul_one, Int.toNat_natCast, partA_eq, ha, Br, e1]
    simp
theorem Bytes.take (hb : Bytes tb h y l) {hi : Operand} {m : Int} {x : IntKind} {K : AV → Prop} (j : Nat) (hm : ev ρ hi = some (.v (.int x m))) (hj : m = j) (hl : j ≤ l.length) (hz : (U tb).sz = 1) (hk : ∀ z, Bytes tb h z (l.take j) → K z) :
    sliceK U ρ y none (some hi) none K (.slice tb) := by
  subst hj
  rcases hb with ⟨q, rfl⟩ | ⟨id, off, cs, rfl, h1, h2, h3⟩
  · rw [sliceK_none, optA_some, hm]
    refine ⟨by rw [hz]; decide, ?_⟩
    simp only [bindO_some, intA_eq, Option.isSome_some, cutL_ft, Int.toNat_natCast]
    refine ⟨by omega, by simpa using hl, ?_⟩
    rw [← List.map_take]
    exact hk _ (.sl _ _)
  · rw [sliceK_oa]
    refine ⟨by rw [hz]; decide, fun _ => hz, ?_⟩
    simp only [optA_none, optA_some, hm, bindO_some, intA_eq]
    refine ⟨by omega, by omega, by omega, ?_⟩
    simp only [Int.toNat_natCast, hz, Nat.mul_one]
    have e : (l.take j).length = j := by simp; omega
    have := hk (.oa id off (l.take j).length) (.oa h1 (by omega) (by
      rw [e, List.map_take, ← h3, List.take_take, Nat.min_eq_left hl]))
    rw [e] at this
    simpa using this
end
end Go.Ab

set_option linter.unusedSimpArgs false
set_option linter.unusedVariables false
namespace Go.Ab
open Go
section
variable {P : Program} {U : TypeId → TI} {n : Nat} {ρ : Env} {h h' h2 : Heap} {e tb : TypeId} {y v : AV} {xs zs : List AV} {l : List UInt8} {Q : AV → Heap → Prop}
def KeepObj (h h' : Heap) : Prop := ∀ j cs t, h j = some (.obj cs t) → h' j = some (.obj cs t)
theorem KeepObj.refl (h : Heap) : KeepObj h h := fun _ _ _ e => e
theorem KeepObj.trans {a b c : Heap} (x : KeepObj a b) (y : KeepObj b c) : KeepObj a c := fun j cs t e => y j cs t (x j cs t e)
theorem Sub.keepObj (hs : Sub h h') : KeepObj h h' := fun _ _ _ e => hs _ _ e
theorem Bytes.keepObj (hb : Bytes tb h y l) (hs : KeepObj h h') : Bytes tb h' y l := by
  rcases hb with hb | ⟨id, off, cs, rfl, h1, h2, h3⟩
  · exact .inl hb
  · exact .oa (hs _ _ _ h1) h2 h3
def Acc (U : TypeId → TI) (e : TypeId) (h h' : Heap) (y : AV) (xs : List AV) : Prop :=
  Sub h h' ∧ (y = .sl xs .full ∨ ∃ id, h id = none ∧ y = .sl xs (.own id) ∧ h' id = some (.spare xs.length (U e).sz))
theorem Acc.full (hs : Sub h h') : Acc U e h h' (.sl xs .full) xs := ⟨hs, .inl rfl⟩
theorem Acc.sub (ha : Acc U e h h' y xs) (hs : Sub h' h2) : Acc U e h h2 y xs := by
  obtain ⟨h1, rfl | ⟨id, i1, rfl, i2⟩⟩ := ha
  · exact ⟨h1.trans hs, .inl rfl⟩
  · exact ⟨h1.trans hs, .inr ⟨id, i1, rfl, hs _ _ i2⟩⟩
theorem Acc.row (ha : Acc U e h h' y xs) : ∃ q, y = .sl xs q := by
  obtain ⟨h1, rfl | ⟨id, i1, rfl, i2⟩⟩ := ha <;> exact ⟨_, rfl⟩
theorem Acc.weak (ha : Acc U e h h' y xs) : Weak y (.sl xs .no) := by
  obtain ⟨q, rfl⟩ := ha.row; exact .sl _ _
theorem Acc.fit (ha : Acc U e h h' y xs) (m : Nat) : Ab.fit y m = (m = 1) := by
  obtain ⟨q, rfl⟩ := ha.row; rfl
theorem Acc.len (ha : Acc U e h h' y xs) (t : TypeId) (k : AV → Prop) : lenK y k (.slice t) = k (.v (.int .i64 xs.length)) := by
  obtain ⟨q, rfl⟩ := ha.row; rfl
theorem Acc.app (ha : Acc U e h h' y xs) (hz : (U e).sz ≠ 0) (hb : (U e).bytes ≠ 0) (hsrc : ∀ k : List AV → Prop, k zs → srcA U e h' v k) (s1 : Sized (U e).sz xs) (s2 : Sized (U e).sz zs)
    (hlen : (xs.length + zs.length) * (U e).bytes ≤ 140737488355328) (hk : ∀ y' h'', Acc U e h h'' y' (xs ++ zs) → KeepObj h' h'' → Q y' h'') : apK U h' y v Q (.slice e) := by
  have keep : ∀ id, (h' id = none ∨ ∃ m, h' id = some (.spare m (U e).sz)) → ∀ k, KeepObj h' (upd h' id k) := fun id hid k j cs t hj => by
    rw [upd_other _ _ fun e => ?_]
    · exact hj
    · subst e
      rcases hid with hid | ⟨m, hid⟩ <;> rw [hid] at hj <;> cases hj
  obtain ⟨h1, rfl | ⟨id, i1, rfl, i2⟩⟩ := ha
  · refine (apK_full ..).mpr ⟨hz, hb, hsrc _ ⟨s1, s2, hlen, fun hn => ?_, fun hn => .own fun id hid => ?_⟩⟩
    · subst hn
      have := hk (.sl xs .full) h' (by rw [List.append_nil]; exact .full h1) (.refl _)
      exact this
    · exact hk _ _ ⟨h1.new hid _, .inr ⟨id, h1.none hid, rfl, by rw [upd_same, List.length_append]⟩⟩ (keep id (.inl hid) _)
  · refine (apK_own ..).mpr ⟨hz, hb, hsrc _ ⟨s1, s2, hlen, i2, ?_⟩⟩
    have hs2 : Sub h (upd h' id (some (.spare (xs.length + zs.length) (U e).sz))) := by
      intro j k hj
      rw [upd_other _ _ fun e => ?_]
      · exact h1 _ _ hj
      · subst e; rw [i1] at hj; cases hj
    exact hk _ _ ⟨hs2, .inr ⟨id, i1, rfl, by rw [upd_same, List.length_append]⟩⟩ (keep id (.inr ⟨_, i2⟩) _)
theorem Bytes.noAgg (hb : Bytes tb h y l) : isAggA y = false := by
  rcases hb with ⟨q, rfl⟩ | ⟨id, off, cs, rfl, _⟩ <;> rfl
theorem Bytes.load (hb : Bytes tb h y l) {t : TypeId} (hz : (U t).sz = 1) (ha : (U t).k.agg = false) (k : AV → Prop) : loadA U h' t (.pe y 0) k = k y := by
  simp only [loadA, atA_eq, hz, ha, hb.cells, hb.noAgg, List.length_cons, List.length_nil, Nat.zero_add, and_self, if_true]
theorem Bytes.wf (hb : Bytes tb h y l) (hw : wfA y) : l.length < lim ∨ ∃ id off m, y = .oa id off m := by
  rcases hb with ⟨q, rfl⟩ | ⟨id, off, cs, rfl, _⟩
  · exact .inl (by simpa [wfA, wf1] using hw)
  · exact .inr ⟨_, _, _, rfl⟩
def Rows (tb : TypeId) (h : Heap) (ys : List AV) (ls : List (List UInt8)) : Prop := ys.length = ls.length ∧ ∀ i (h1 : i < ys.length) (h2 : i < ls.length), Bytes tb h ys[i] ls[i]
theorem Rows.keepObj {ys : List AV} {ls : List (List UInt8)} (hr : Rows tb h ys ls) (hs : KeepObj h h') : Rows tb h' ys ls := ⟨hr.1, fun i h1 h2 => (hr.2 i h1 h2).keepObj hs⟩
theorem Rows.sized {ys : List AV} {ls : List (List UInt8)} (hr : Rows tb h ys ls) : Sized 1 ys := fun z hz => by
  obtain ⟨i, hi, rfl⟩ := List.mem_iff_getElem.1 hz
  rw [(hr.2 i hi (by rw [← hr.1]; exact hi)).cells]; rfl
theorem Rows.nil : Rows tb h [] [] := ⟨rfl, fun i h1 => by cases h1⟩
theorem Rows.cons {ys : List AV} {ls : List (List UInt8)} (hb : Bytes tb h y l) (hr : Rows tb h ys ls) : Rows tb h (y :: ys) (l :: ls) := ⟨by simp [hr.1], fun i h1 h2 => by
  cases i with
  | zero => exact hb
  | succ i => exact hr.2 i (by simpa using h1) (by simpa using h2)⟩
end
end Go.Ab

set_option linter.unusedSimpArgs false
set_option linter.unusedVariables false
namespace Go.Ab
open Go
section
variable {P : Program}
def noHeap : Heap := fun _ => none
def cx0 (w : World) : Cx := ⟨w, fun _ => ⟨0, 0, none⟩, noHeap⟩
theorem good0 (w : World) : Good (cx0 w) where
  fin := ⟨0, fun _ _ => rfl⟩
  inj := fun i j k l h => by cases h
  obj := fun id cs t h => by cases h
  spare := fun id n sz h => by cases h
  mp := fun id m h => by cases h
  keys := fun id m h => by cases h
  ro := fun id b vs h => by cases h
theorem owned0 (w : World) (b o : Nat) : ¬ owned (cx0 w) b o := fun ⟨id, k, h, _⟩ => by cases h
theorem FnOK.calls {f : FuncId} {args : List AV} {b : Value} {vs : Array Value} {w : World} (hc : callable P f) (hf : FnOK P f args noHeap fun r _ => r = .v b) (hv : vs.size = args.length) (hr : ∀ i (hi : i < args.length), Rep (cx0 w) args[i] (vs.getD i undef)) :
    Calls P f vs w fun e w' => e = .returned b ∧ Go.RowKit.Below w.heap.size w w' := by
  refine ((hf (cx0 w) vs (fun _ _ h => by cases h) (good0 w) hv hr).calls hc).mono ?_
  rintro e w' ⟨u, rfl, c', x, h', rfl, g', hE, hx, hs, rfl⟩
  rw [hx.v_inv]
  exact ⟨rfl, hE.os, hE.tape, hE.output, hE.size, fun k hk => hE.block k hk fun o => owned0 w k o⟩
end
end Go.Ab

set_option linter.unusedSimpArgs false
set_option linter.unusedVariables false
namespace Go.Ab
open Go
section
variable {P : Program} {f : FuncId} {args : List AV} {h : Heap} {Q : AV → Heap → Prop} {X : AV}
theorem FnOK.pthen (hf : FnOK P f args h fun r h' => r = X ∧ h' = h) (k : Q X h) : FnOK P f args h Q :=
  hf.mono fun r h' ⟨e1, e2⟩ => by subst e1; subst e2; exact k
def KV (K : AV → Prop) (x : AV) : Prop := K x
@[congr] theorem KV_congr {K : AV → Prop} {x x' : AV} (e : x = x') : KV K x = KV K x' := by rw [e]
@[go_sem] theorem KV_eq (K : AV → Prop) (x : AV) : KV K x = K x := rfl
section
variable {U : TypeId → TI} {ρ : Env} {K : AV → Prop}
@[go_sem ↓ high] theorem sliceK_from (xs : List AV) (q : Perm) (lo : Operand) (e : TypeId) : sliceK U ρ (.sl xs q) (some lo) none none K (.slice e) = ((U e).sz ≠ 0 ∧ Sized (U e).sz xs ∧ bindO (ev ρ lo) fun y => intA y fun a => 0 ≤ a ∧ a ≤ xs.length ∧ KV K (.sl (xs.drop a.toNat) (cutQ xs q true false))) := by
  rw [sliceK_some, optA_some]
  simp only [optA_none, Option.isSome_none, cutL_tf, KV]
  congr 2
  congr 1
  funext y
  congr 1
  funext a
  simp
@[go_sem ↓ high] theorem sliceK_ft (xs : List AV) (q : Perm) (lo hi : Operand) (e : TypeId) : sliceK U ρ (.sl xs q) (some lo) (some hi) none K (.slice e) = ((U e).sz ≠ 0 ∧ Sized (U e).sz xs ∧ bindO (ev ρ lo) fun y => intA y fun a => bindO (ev ρ hi) fun z => intA z fun b => 0 ≤ a ∧ a ≤ b ∧ b ≤ xs.length ∧ KV K (.sl ((xs.drop a.toNat).take (b.toNat - a.toNat)) (cutQ xs q true true))) := by
  rw [sliceK_some, optA_some]
  simp only [optA_some, Option.isSome_some, cutL_tt, KV]
end
attribute [go_sem] Int.toNat_natCast Int.toNat_zero
theorem choose_map {α β : Type} {f : β → α} {p : β → Prop} : ∀ (xs : List α), (∀ x ∈ xs, ∃ b, x = f b ∧ p b) → ∃ bs : List β, xs = bs.map f ∧ ∀ b ∈ bs, p b
  | [], _ => ⟨[], rfl, fun b h => by cases h⟩
  | x :: xs, h => by
    obtain ⟨b, rfl, hb⟩ := h x (by simp)
    obtain ⟨bs, rfl, hbs⟩ := choose_map xs fun y hy => h y (by simp [hy])
    exact ⟨b :: bs, rfl, fun c hc => by
      rcases List.mem_cons.1 hc with h1 | h1
      · rw [h1]; exact hb
      · exact hbs c h1⟩
def iA (n : Int) : AV := .v (.int .i64 n)
theorem wr64 (n : Int) (h : -9223372036854775808 ≤ n ∧ n ≤ 9223372036854775807) : IntKind.i64.wrap n = n := IntWalk.i64_in _ (by omega)
end
end Go.Ab

set_option linter.unusedSimpArgs false
set_option linter.unusedVariables false
namespace Go.Ab
open Go
section
variable {P : Program} {U : TypeId → TI}
inductive Dat (U : TypeId → TI) : TypeId → AV → Prop
  | bool {t : TypeId} (b : Bool) (h : (U t).k = .bool) : Dat U t (.v (.bool b))
  | int {t : TypeId} {k : IntKind} (n : Int) (h : (U t).k = .int k) (hw : (Lit.int k n).wf = true) : Dat U t (.v (.int k n))
  | str {t : TypeId} (l : List UInt8) (h : (U t).k = .str) (hl : l.length ≤ maxLen) : Dat U t (.s l)
  | slice {t e : TypeId} (xs : List AV) (h : (U t).k = .slice e) (hx : ∀ x ∈ xs, Dat U e x) (hl : xs.length ≤ maxLen) : Dat U t (.sl xs .no)
  | strct {t : TypeId} {fs : List (Nat × TypeId)} (ys : List AV) (h : (U t).k = .strct fs) (hn : ys.length = fs.length) (hx : ∀ i (h1 : i < fs.length) (h2 : i < ys.length), Dat U fs[i].2 ys[i]) : Dat U t (.agg (ys.map AV.cells).flatten)
theorem Dat.bool_inv {t : TypeId} {x : AV} (h : Dat U t x) (hk : (U t).k = .bool) : ∃ b, x = .v (.bool b) := by
  cases h with
  | bool b h => exact ⟨b, rfl⟩
  | _ => simp_all
theorem Dat.int_inv {t : TypeId} {x : AV} {k : IntKind} (h : Dat U t x) (hk : (U t).k = .int k) : ∃ n, x = .v (.int k n) ∧ (Lit.int k n).wf = true := by
  cases h with
  | int n h hw => rw [hk] at h; cases h; exact ⟨n, rfl, hw⟩
  | _ => simp_all
theorem Dat.str_inv {t : TypeId} {x : AV} (h : Dat U t x) (hk : (U t).k = .str) : ∃ l, x = .s l ∧ l.length ≤ maxLen := by
  cases h with
  | str l h hl => exact ⟨l, rfl, hl⟩
  | _ => simp_all
theorem Dat.slice_inv {t e : TypeId} {x : AV} (h : Dat U t x) (hk : (U t).k = .slice e) : ∃ xs, x = .sl xs .no ∧ xs.length ≤ maxLen ∧ ∀ y ∈ xs, Dat U e y := by
  cases h with
  | slice xs h hx hl => rw [hk] at h; cases h; exact ⟨xs, rfl, hl, hx⟩
  | _ => simp_all
def DatAll (U : TypeId → TI) : List TypeId → List AV → Prop
  | [], ys => ys = []
  | t :: ts, ys => ∃ y r, ys = y :: r ∧ Dat U t y ∧ DatAll U ts r
theorem datAll_of : ∀ (fs : List (Nat × TypeId)) (ys : List AV), ys.length = fs.length → (∀ i (h1 : i < fs.length) (h2 : i < ys.length), Dat U fs[i].2 ys[i]) → DatAll U (fs.map (·.2)) ys
  | [], ys, h, _ => List.length_eq_zero_iff.1 h
  | f :: fs, [], h, _ => by cases h
  | f :: fs, y :: ys, h, hx => ⟨y, ys, rfl, hx 0 (by simp) (by simp), datAll_of fs ys (by simpa using h) fun i h1 h2 => hx (i + 1) (by simpa using h1) (by simpa using h2)⟩
theorem Dat.strct_inv {t : TypeId} {x : AV} {fs : List (Nat × TypeId)} (h : Dat U t x) (hk : (U t).k = .strct fs) : ∃ ys, x = .agg (ys.map AV.cells).flatten ∧ DatAll U (fs.map (·.2)) ys := by
  cases h with
  | strct ys h hn hx => rw [hk] at h; cases h; exact ⟨ys, rfl, datAll_of _ _ hn hx⟩
  | _ => simp_all
theorem wf64 {n : Int} (h : (Lit.int .i64 n).wf = true) : -9223372036854775808 ≤ n ∧ n ≤ 9223372036854775807 := by
  simpa [Lit.wf, IntKind.min, IntKind.max, IntKind.signed, IntKind.bits] using h
theorem wf8 {n : Int} (h : (Lit.int .u8 n).wf = true) : ∃ c : UInt8, n = c.toNat := by
  have hr : 0 ≤ n ∧ n ≤ 255 := by simpa [Lit.wf, IntKind.min, IntKind.max, IntKind.signed, IntKind.bits] using h
  refine ⟨UInt8.ofNat n.toNat, ?_⟩
  rw [UInt8.toNat_ofNat']
  omega
theorem Dat.i64 {t : TypeId} {x : AV} (h : Dat U t x) (hk : (U t).k = .int .i64) : ∃ n, x = iA n ∧ -9223372036854775808 ≤ n ∧ n ≤ 9223372036854775807 := by
  obtain ⟨n, rfl, hw⟩ := h.int_inv hk
  exact ⟨n, rfl, wf64 hw⟩
theorem Dat.u8 {t : TypeId} {x : AV} (h : Dat U t x) (hk : (U t).k = .int .u8) : ∃ c : UInt8, x = byteA c := by
  obtain ⟨n, rfl, hw⟩ := h.int_inv hk
  obtain ⟨c, rfl⟩ := wf8 hw
  exact ⟨c, rfl⟩
theorem Dat.list {t e : TypeId} {x : AV} {β : Type} {f : β → AV} {p : β → Prop} (h : Dat U t x) (hk : (U t).k = .slice e) (he : ∀ y, Dat U e y → ∃ b, y = f b ∧ p b) : ∃ bs : List β, x = .sl (bs.map f) .no ∧ bs.length ≤ maxLen ∧ ∀ b ∈ bs, p b := by
  obtain ⟨xs, rfl, hl, hx⟩ := h.slice_inv hk
  obtain ⟨bs, rfl, hb⟩ := choose_map xs fun y hy => he y (hx y hy)
  exact ⟨bs, rfl, by simpa using hl, hb⟩
theorem Dat.bytes {t e : TypeId} {x : AV} (h : Dat U t x) (hk : (U t).k = .slice e) (he : (U e).k = .int .u8) : ∃ l : List UInt8, x = .sl (l.map byteA) .no ∧ l.length ≤ maxLen := by
  obtain ⟨l, h1, h2, _⟩ := h.list (f := byteA) (p := fun _ => True) hk fun y hy => by obtain ⟨c, hc⟩ := hy.u8 he; exact ⟨c, hc, trivial⟩
  exact ⟨l, h1, h2⟩
def RL (c : Cx) : List AV → List Value → Prop
  | [], vs => vs = []
  | x :: xs, [] => False
  | x :: xs, v :: vs => (Rep c x v ∧ v.oneCell' = true) ∧ RL c xs vs
theorem RL.len {c : Cx} : ∀ {xs : List AV} {vs : List Value}, RL c xs vs → xs.length = vs.length
  | [], vs, h => by rw [h]; rfl
  | x :: xs, [], h => h.elim
  | x :: xs, v :: vs, h => by simp [RL.len h.2]
theorem RL.get {c : Cx} : ∀ {xs : List AV} {vs : List Value}, RL c xs vs → ∀ i (h : i < xs.length), Rep c xs[i] (vs.getD i undef) ∧ (vs.getD i undef).oneCell' = true
  | [], vs, h, i, hi => by cases hi
  | x :: xs, [], h, i, hi => h.elim
  | x :: xs, v :: vs, h, 0, hi => h.1
  | x :: xs, v :: vs, h, i + 1, hi => by simpa using RL.get h.2 i (by simpa using hi)
theorem RL.append {c : Cx} : ∀ {xs ys : List AV} {vs us : List Value}, RL c xs vs → RL c ys us → RL c (xs ++ ys) (vs ++ us)
  | [], ys, vs, us, h, k => by rw [h]; exact k
  | x :: xs, ys, [], us, h, k => h.elim
  | x :: xs, ys, v :: vs, us, h, k => ⟨h.1, RL.append h.2 k⟩
theorem RL.one {c : Cx} {x : AV} {v : Value} (h : Rep c x v) (h1 : v.oneCell' = true) : RL c [x] [v] := ⟨⟨h, h1⟩, rfl⟩
def tileB (U : TypeId → TI) (n : Nat) : List (Nat × TypeId) → Nat → Bool
  | [], o => o == n
  | f :: fs, o => f.1 == o && tileB U n fs (o + (U f.2).sz)
def plainB (U : TypeId → TI) (L : List TypeId) : Bool := L.all fun t => (U t).sz != 0 && match (U t).k with
  | .bool | .int _ | .str => (U t).sz == 1
  | .slice e => (U t).sz == 1 && L.contains e
  | .strct fs => fs.all (fun f => L.contains f.2) && tileB U (U t).sz fs 0
  | _ => false
theorem cellsOf_of (hU : ∀ t, AgreeT P U t) {t : TypeId} (hz : (U t).sz ≠ 0) : P.cellsOf t = (U t).sz := by
  obtain ⟨i, h1, h2, _⟩ := (hU t).info hz
  simp [Program.cellsOf, h1, h2]
variable {H : Type} {enc : TypeId × Value → H} {w : World}
theorem parts_of (hU : ∀ t, AgreeT P U t) {L : List TypeId} {m : Nat} {sp : Nat → Bool} {held : Bool} (n : Nat) (cs : List Value) (hn : cs.length = n)
    (ih : ∀ (t : TypeId) (cs : List Value) r, t ∈ L → DataW.trod enc P w 0 sp held m t cs = some r → ∃ x, Dat U t x ∧ RL (cx0 w) x.cells cs) (hz : ∀ t ∈ L, (U t).sz ≠ 0) :
    ∀ (fs : List (Nat × TypeId)) (gs : List Field) (o : Nat), gs.map (fun f => (f.offset, f.type)) = fs → (∀ f ∈ fs, f.2 ∈ L) → tileB U n fs o = true →
      (∀ f ∈ gs, ∃ r, DataW.trod enc P w 0 sp held m f.type ((cs.drop f.offset).take (P.cellsOf f.type)) = some r) →
      ∃ ys : List AV, ys.length = fs.length ∧ (∀ i (h1 : i < fs.length) (h2 : i < ys.length), Dat U fs[i].2 ys[i]) ∧ RL (cx0 w) (ys.map AV.cells).flatten (cs.drop o) := by
  intro fs
  induction fs with
  | nil =>
    intro gs o hg hL ht hr
    refine ⟨[], rfl, fun i h1 => (by cases h1), ?_⟩
    have : o = n := by simpa [tileB] using ht
    show cs.drop o = []
    rw [this, ← hn]; simp
  | cons f fs ihf =>
    intro gs o hg hL ht hr
    cases gs with
    | nil => cases hg
    | cons g gs =>
      simp only [List.map_cons, List.cons.injEq] at hg
      obtain ⟨hg1, hg2⟩ := hg
      simp only [tileB, Bool.and_eq_true, beq_iff_eq] at ht
      obtain ⟨ht1, ht2⟩ := ht
      have hfL := hL f (by simp)
      obtain ⟨ys, y1, y2, y3⟩ := ihf gs (o + (U f.2).sz) hg2 (fun f' hf' => hL f' (by simp [hf'])) ht2 (fun g' hg' => hr g' (by simp [hg']))
      obtain ⟨r, hr0⟩ := hr g (by simp)
      have e1 : g.type = f.2 := by rw [← hg1]
      have e2 : g.offset = o := by rw [← ht1, ← hg1]
      rw [e1, e2, cellsOf_of hU (hz _ hfL)] at hr0
      obtain ⟨x, x1, x2⟩ := ih _ _ _ hfL hr0
      refine ⟨x :: ys, by simp [y1], fun i h1 h2 => ?_, ?_⟩
      · cases i with
        | zero => exact x1
        | succ i => exact y2 i (by simpa using h1) (by simpa using h2)
      · have : cs.drop o = (cs.drop o).take (U f.2).sz ++ cs.drop (o + (U f.2).sz) := by
          rw [← List.drop_drop, List.take_append_drop]
        rw [this]
        exact x2.append y3
theorem dat_of_trod (hU : ∀ t, AgreeT P U t) (L : List TypeId) (hL : plainB U L = true) {sp : Nat → Bool} {held : Bool} (hsp : ∀ b, sp b = true) :
    ∀ (fuel : Nat) (t : TypeId) (cs : List Value) (r : DataW H × List MemPlace), t ∈ L → DataW.trod enc P w 0 sp held fuel t cs = some r → ∃ x, Dat U t x ∧ RL (cx0 w) x.cells cs := by
  have hall : ∀ t ∈ L, (U t).sz ≠ 0 := fun t ht => by
    have := List.all_eq_true.1 hL t ht
    simp only [Bool.and_eq_true, bne_iff_ne] at this
    exact this.1
  intro fuel
  induction fuel with
  | zero => intro t cs r _ h; simp [DataW.trod] at h
  | succ m ih =>
    intro t cs r ht h
    have hp := List.all_eq_true.1 hL t ht
    simp only [Bool.and_eq_true, bne_iff_ne] at hp
    obtain ⟨hz, hp⟩ := hp
    have hd := (hU t).desc
    unfold DataW.trod at h
    cases hk : (U t).k with
    | bool =>
      rw [hk] at hd
      simp only at hd
      rw [hd] at h
      split at h <;> simp_all
      rename_i b
      exact ⟨_, .bool b hk, .one (.v _) rfl⟩
    | int k =>
      rw [hk] at hd
      simp only at hd
      rw [hd] at h
      split at h <;> simp_all
      obtain ⟨⟨rfl, hw⟩, _⟩ := h
      exact ⟨_, .int _ hk hw, .one (.v _) rfl⟩
    | str =>
      rw [hk] at hd
      simp only at hd
      rw [hd] at h
      split at h <;> simp_all
      rename_i s
      refine ⟨_, .str s.data.toList hk (by simpa using h.1), .one ?_ rfl⟩
      have := Rep.s (c := cx0 w) s.data.toList (by have := h.1; unfold maxLen at this; simp only [lim]; simp; omega)
      simpa using this
    | slice e =>
      rw [hk] at hd hp
      simp only at hd
      simp only [Bool.and_eq_true] at hp
      have he : e ∈ L := by simpa using hp.2
      have hez := hall e he
      rw [hd] at h
      split at h <;> try (simp_all; done)
      · rename_i e' heq
        refine ⟨_, .slice [] hk (fun x hx => by cases hx) (by simp), .one ?_ rfl⟩
        exact .sl [] .no none 0 0 (fun _ _ => undef) (Nat.le_refl _) (by decide) (fun _ => rfl) (fun q h _ => by cases h) (fun i h => by cases h) (fun q h => by cases h) (fun i h => by cases h) (fun i j h => by cases h) trivial
      · rename_i e' a len cap heq
        obtain rfl : e = e' := by simpa using heq
        split at h
        · rename_i hc
          obtain ⟨hc1, hc2, hc3⟩ := hc
          simp only [hsp, if_true] at h
          obtain ⟨els, hels, h⟩ := Option.bind_eq_some_iff.1 h
          obtain ⟨⟨rst, hrst, _⟩⟩ : Nonempty { rst // (List.range (cap - len)).mapM (fun j => ((w.cells? 0 (a.add ((len + j) * P.cellsOf e)) (P.cellsOf e)).bind (DataW.trod enc P w 0 sp held m e))) = some rst ∧ True } := by
            cases hq : (List.range (cap - len)).mapM (fun j => ((w.cells? 0 (a.add ((len + j) * P.cellsOf e)) (P.cellsOf e)).bind (DataW.trod enc P w 0 sp held m e))) with
            | none => rw [hq] at h; simp at h
            | some rst => exact ⟨⟨rst, rfl, trivial⟩⟩
          rw [cellsOf_of hU hez] at hels hrst
          have cell : ∀ j, j < (U e).sz → ∀ (b : Addr) vs, w.cells? 0 b (U e).sz = some vs → w.cell? (b.add j) = vs[j]? ∧ vs.length = (U e).sz := fun j hj b vs hb => by
            simp only [World.cells?, Nat.zero_le, if_true] at hb
            have := mapM_some_get hb j j (by simp [hj])
            exact ⟨this, by simpa using mapM_some_length hb⟩
          have el : ∀ i, i < len → ∃ vs x, w.cells? 0 (a.add (i * (U e).sz)) (U e).sz = some vs ∧ Dat U e x ∧ RL (cx0 w) x.cells vs := fun i hi => by
            have := mapM_some_get hels i i (by simp [hi])
            have hi2 : i < els.length := by have := mapM_some_length hels; simp at this; omega
            rw [List.getElem?_eq_getElem hi2] at this
            obtain ⟨vs, v1, v2⟩ := Option.bind_eq_some_iff.1 this
            obtain ⟨x, x1, x2⟩ := ih _ _ _ he v2
            exact ⟨vs, x, v1, x1, x2⟩
          have hspot : 0 < cap → a.spot = none ∧ a.block < w.heap.size := fun hcap => by
            have : ∃ b vs, w.cells? 0 b (U e).sz = some vs ∧ b.spot = a.spot ∧ b.block = a.block := by
              by_cases hl : 0 < len
              · obtain ⟨vs, x, v1, _⟩ := el 0 hl
                have a0 : a.add (0 * (U e).sz) = a := by simp [Addr.add]
                exact ⟨_, vs, v1, by rw [a0], by rw [a0]⟩
              · have := mapM_some_get hrst 0 0 (by rw [List.getElem?_eq_getElem (by simp; omega)]; simp)
                have hi2 : 0 < rst.length := by have := mapM_some_length hrst; simp at this; omega
                rw [List.getElem?_eq_getElem hi2] at this
                obtain ⟨vs, v1, v2⟩ := Option.bind_eq_some_iff.1 this
                have a0 : a.add ((len + 0) * (U e).sz) = a := by
                  obtain rfl : len = 0 := by omega
                  simp [Addr.add]
                exact ⟨_, vs, v1, by rw [a0], by rw [a0]⟩
            obtain ⟨b, vs, b1, b2, b3⟩ := this
            obtain ⟨c1, c2⟩ := cell 0 (by omega) b vs b1
            rw [List.getElem?_eq_getElem (by omega)] at c1
            rw [← b2, ← b3]
            unfold World.cell? at c1
            split at c1
            · rename_i hh
              split at c1
              · cases c1
              · rename_i hs
                refine ⟨?_, ?_⟩
                · have : (b.add 0).spot = b.spot := by simp [Addr.add]
                  rw [this] at hs
                  cases hb : b.spot with
                  | none => rfl
                  | some z => rw [hb] at hs; simp at hs
                · exact (Array.getElem?_eq_some_iff.1 hh).1
            · cases c1
          have : ∀ n, n ≤ len → ∃ xs : List AV, xs.length = n ∧ ∀ i (hi : i < xs.length), Dat U e xs[i] ∧ ∃ vs, w.cells? 0 (a.add (i * (U e).sz)) (U e).sz = some vs ∧ RL (cx0 w) xs[i].cells vs := by
            intro n
            induction n with
            | zero => exact fun _ => ⟨[], rfl, fun i hi => by cases hi⟩
            | succ n ihn =>
              intro hn
              obtain ⟨xs, e1, e2⟩ := ihn (by omega)
              obtain ⟨vs, x, v1, v2, v3⟩ := el n (by omega)
              refine ⟨xs ++ [x], by simp [e1], fun i hi => ?_⟩
              by_cases hi' : i < xs.length
              · rw [List.getElem_append_left hi']
                exact e2 i hi'
              · have : i = n := by simp at hi; omega
                subst this
                rw [List.getElem_append_right (by omega)]
                simp only [e1, Nat.sub_self, List.getElem_singleton]
                exact ⟨v2, vs, v1, v3⟩
          obtain ⟨xs, e1, e2⟩ := this len (Nat.le_refl _)
          subst e1
          refine ⟨.sl xs .no, .slice xs hk (fun x hx => ?_) (by omega), .one ?_ rfl⟩
          · obtain ⟨i, hi, rfl⟩ := List.mem_iff_getElem.1 hx
            exact (e2 i hi).1
          · refine .sl xs .no (some a) cap (U e).sz (fun i j => ((w.cells? 0 (a.add (i * (U e).sz)) (U e).sz).getD []).getD j undef) hc2 (by unfold maxLen at hc3; simp only [lim]; omega) (fun hh => by cases hh) (fun q hq hcap => by cases hq; exact hspot hcap)
              (fun i hi => ?_) (fun q hq i j hi hj => ?_) (fun i hi j hj => ?_) (fun i j hi hj => ?_) trivial
            · obtain ⟨_, vs, v1, v2⟩ := e2 i hi
              rw [v2.len]; exact (cell 0 (by omega) _ _ v1).2
            · cases hq
              obtain ⟨_, vs, v1, v2⟩ := e2 i hi
              refine ⟨?_, owned0 w _ _⟩
              obtain ⟨c1, c2⟩ := cell j hj _ _ v1
              rw [v1]
              obtain ⟨hs1, _⟩ := hspot (by omega)
              obtain ⟨ab, ao, az⟩ := a
              simp only at hs1; subst hs1
              rw [add_addr, add_addr] at c1
              simp only [Option.getD_some]
              have hj2 : j < vs.length := by omega
              rw [show vs.getD j undef = vs[j] by simp [hj2]]
              rw [List.getElem?_eq_getElem hj2, Nat.add_assoc] at c1
              exact c1
            · obtain ⟨_, vs, v1, v2⟩ := e2 i hi
              rw [v1]
              exact (v2.get j hj).1
            · obtain ⟨_, vs, v1, v2⟩ := e2 i hi
              rw [v1]
              have := (cell 0 (by omega) _ _ v1).2
              exact (v2.get j (by rw [v2.len]; omega)).2
        · cases h
    | strct fs =>
      rw [hk] at hd hp
      simp only at hd
      simp only [Bool.and_eq_true] at hp
      obtain ⟨gs, hd, hg, _⟩ := hd
      rw [hd] at h
      have hq : cs.length = P.cellsOf t ∧ ∃ xs, (gs.toList.mapM fun f => DataW.trod enc P w 0 sp held m f.type ((cs.drop f.offset).take (P.cellsOf f.type))) = some xs := by
        split at h <;> try (simp_all; done)
        rename_i fs' heq
        obtain rfl : gs = fs' := by simpa using heq
        split at h
        · rename_i hl
          obtain ⟨xs, h1, _⟩ := Option.map_eq_some_iff.1 h
          exact ⟨hl, xs, h1⟩
        · cases h
      obtain ⟨hl, xs, hxs⟩ := hq
      rw [cellsOf_of hU hz] at hl
      obtain ⟨ys, y1, y2, y3⟩ := parts_of hU (U t).sz cs hl ih hall fs gs.toList 0 hg (fun f hf => by have := List.all_eq_true.1 hp.1 f hf; simpa using this) hp.2 (fun f hf => by
        obtain ⟨i, hi, rfl⟩ := List.mem_iff_getElem.1 hf
        have hi2 : i < xs.length := by have := mapM_some_length hxs; omega
        have := mapM_some_get hxs i _ (List.getElem?_eq_getElem hi)
        rw [List.getElem?_eq_getElem hi2] at this
        exact ⟨_, this⟩)
      exact ⟨_, .strct ys hk y1 y2, y3⟩
    | _ => rw [hk] at hp; simp at hp
theorem dat_of_arg (hU : ∀ t, AgreeT P U t) (L : List TypeId) (hL : plainB U L = true) {sp : Nat → Bool} {held : Bool} (hsp : ∀ b, sp b = true) {t : TypeId} {v : Value} {d : DataW H} {p : List MemPlace} (ht : t ∈ L) {base : Nat} {rc : Reach}
    (hv : Value.okWide P w rc base t v) (h : DataW.Trod enc P w 0 sp held t v d p) : ∃ x, Dat U t x ∧ Rep (cx0 w) x v := by
  obtain ⟨fuel, h⟩ := h
  obtain ⟨x, x1, x2⟩ := dat_of_trod hU L hL hsp fuel t _ _ ht h
  refine ⟨x, x1, ?_⟩
  have hd := (hU t).desc
  cases x1 with
  | strct ys hk hn hx =>
    rw [hk] at hd
    obtain ⟨gs, hd, _⟩ := hd
    unfold Value.okWide at hv
    rw [hd] at hv
    obtain ⟨cs, rfl, _⟩ := hv
    have hl := x2.len
    simp only [AV.cells, Value.cells] at hl x2
    refine .agg _ _ (by simpa using hl.symm) (fun i hi => ?_) (fun i hi => ?_)
    · have := (x2.get i hi).1
      simpa using this
    · have := (x2.get i hi).2
      simpa using this
  | bool b hk =>
    cases v <;> first | exact x2.1.1 | skip
    rename_i cs
    rw [hk] at hd
    unfold Value.okWide at hv
    rw [hd] at hv
    simp [Cell.okWide, Cell.ok, hd] at hv
  | int n hk hw =>
    cases v <;> first | exact x2.1.1 | skip
    rename_i cs
    rw [hk] at hd
    unfold Value.okWide at hv
    rw [hd] at hv
    simp [Cell.okWide, Cell.ok, hd] at hv
  | str l hk hl =>
    cases v <;> first | exact x2.1.1 | skip
    rename_i cs
    rw [hk] at hd
    unfold Value.okWide at hv
    rw [hd] at hv
    simp [Cell.okWide, Cell.ok, hd] at hv
  | slice xs hk hx hl =>
    cases v <;> first | exact x2.1.1 | skip
    rename_i cs
    rw [hk] at hd
    unfold Value.okWide at hv
    rw [hd] at hv
    simp [Cell.okWide, Cell.ok, hd] at hv
end
end Go.Ab

set_option linter.unusedSimpArgs false
set_option linter.unusedVariables false
namespace Go.Ab
open Go
section
variable {P : Program} {U : TypeId → TI} {n : Nat} {ρ : Env} {h h' h2 : Heap} {e tb : TypeId} {y v : AV} {xs zs : List AV} {l : List UInt8} {Q : AV → Heap → Prop}
def hm1 (id : Nat) (k : Blk) : Heap := upd (fun _ => none) id (some k)
@[go_sem] theorem hm1_same (id : Nat) (k : Blk) : hm1 id k id = some k := upd_same ..
theorem Sub.hm1 {id : Nat} {k : Blk} (h1 : h id = some k) : Sub (hm1 id k) h := fun j b hj => by
  unfold Ab.hm1 at hj
  by_cases e : j = id
  · subst e; rw [upd_same] at hj; rw [h1, hj]
  · rw [upd_other _ _ e] at hj; cases hj
theorem KeepObj.new {id : Nat} {k : Option Blk} (hid : h id = none) : KeepObj h (upd h id k) := ((Sub.refl h).new hid k).keepObj
theorem ApNew.acc (hk : ∀ y' h'', Acc U e h h'' y' (xs ++ zs) → KeepObj h h'' → Q y' h'') : ApNew U h xs zs e Q :=
  .own fun id hid => hk _ _ ⟨(Sub.refl h).new hid _, .inr ⟨id, hid, rfl, by rw [upd_same, List.length_append]⟩⟩ (.new hid)
theorem ApFull.acc (hk : ∀ y' h'', Acc U e h h'' y' (xs ++ zs) → KeepObj h h'' → Q y' h'') : ApFull U h xs zs e Q :=
  ⟨fun hn => by subst hn; exact hk _ _ (by rw [List.append_nil]; exact .full (.refl h)) (.refl h), fun _ => .acc hk⟩
theorem ApNew.accs {h0 : Heap} (hs : Sub h0 h) (hk : ∀ y' h'', Acc U e h0 h'' y' (xs ++ zs) → KeepObj h h'' → Q y' h'') : ApNew U h xs zs e Q :=
  .own fun id hid => hk _ _ ⟨hs.new hid _, .inr ⟨id, hs.none hid, rfl, by rw [upd_same, List.length_append]⟩⟩ (.new hid)
theorem ApFull.accs {h0 : Heap} (hs : Sub h0 h) (hk : ∀ y' h'', Acc U e h0 h'' y' (xs ++ zs) → KeepObj h h'' → Q y' h'') : ApFull U h xs zs e Q :=
  ⟨fun hn => by subst hn; exact hk _ _ (by rw [List.append_nil]; exact .full hs) (.refl h), fun _ => .accs hs hk⟩
theorem Acc.bytes (ha : Acc U e h h' y (l.map byteA)) : Bytes tb h2 y l := by
  obtain ⟨q, rfl⟩ := ha.row
  exact .sl _ _
end
end Go.Ab

set_option linter.unusedSimpArgs false
set_option linter.unusedVariables false
namespace Go.Ab
open Go
section
variable {P : Program} {U : TypeId → TI} {n : Nat} {ρ : Env} {h h' : Heap} {tb : TypeId} {y : AV} {l : List UInt8}
theorem Bytes.from (hb : Bytes tb h y l) {lo : Operand} {m : Int} {x : IntKind} {K : AV → Prop} (j : Nat) (hm : ev ρ lo = some (.v (.int x m))) (hj : m = j) (hl : j ≤ l.length) (hz : (U tb).sz = 1) (hk : ∀ z, Bytes tb h z (l.drop j) → K z) :
    sliceK U ρ y (some lo) none none K (.slice tb) := by
  subst hj
  rcases hb with ⟨q, rfl⟩ | ⟨id, off, cs, rfl, h1, h2, h3⟩
  · rw [sliceK_from, hm]
    refine ⟨by rw [hz]; decide, by rw [hz, Sized_bytes]; trivial, ?_⟩
    simp only [bindO_some, intA_eq, Int.toNat_natCast, KV_eq]
    refine ⟨by omega, by simpa using hl, ?_⟩
    rw [← List.map_drop]
    exact hk _ (.sl _ _)
  · rw [sliceK_oa]
    refine ⟨by rw [hz]; decide, fun _ => hz, ?_⟩
    simp only [optA_none, optA_some, hm, bindO_some, intA_eq]
    refine ⟨by omega, by omega, by omega, ?_⟩
    simp only [Int.toNat_natCast, hz, Nat.mul_one]
    have e : (l.drop j).length = l.length - j := by simp
    have := hk (.oa id (off + j) (l.drop j).length) (.oa h1 (by omega) (by
      rw [e, List.map_drop, ← h3, ← List.drop_drop, List.drop_take]))
    rwa [e] at this
theorem Bytes.cut (hb : Bytes tb h y l) {lo hi : Operand} {m m2 : Int} {x x2 : IntKind} {K : AV → Prop} (j k : Nat) (hm : ev ρ lo = some (.v (.int x m))) (hj : m = j) (hm2 : ev ρ hi = some (.v (.int x2 m2))) (hk2 : m2 = k) (hjk : j ≤ k) (hl : k ≤ l.length) (hz : (U tb).sz = 1)
    (hk : ∀ z, Bytes tb h z ((l.drop j).take (k - j)) → K z) : sliceK U ρ y (some lo) (some hi) none K (.slice tb) := by
  subst hj; subst hk2
  rcases hb with ⟨q, rfl⟩ | ⟨id, off, cs, rfl, h1, h2, h3⟩
  · rw [sliceK_ft, hm]
    refine ⟨by rw [hz]; decide, by rw [hz, Sized_bytes]; trivial, ?_⟩
    simp only [bindO_some, intA_eq, hm2, Int.toNat_natCast, KV_eq]
    refine ⟨by omega, by omega, by simpa using hl, ?_⟩
    rw [← List.map_drop, ← List.map_take]
    exact hk _ (.sl _ _)
  · rw [sliceK_oa]
    refine ⟨by rw [hz]; decide, fun _ => hz, ?_⟩
    simp only [optA_some, hm, bindO_some, intA_eq, hm2]
    refine ⟨by omega, by omega, by omega, ?_⟩
    simp only [Int.toNat_natCast, hz, Nat.mul_one]
    have e : ((l.drop j).take (k - j)).length = k - j := by simp; omega
    have := hk (.oa id (off + j) ((l.drop j).take (k - j)).length) (.oa h1 (by omega) (by
      rw [e, List.map_take, List.map_drop, ← h3, ← List.drop_drop, List.drop_take, List.take_take]
      congr 1; omega))
    rwa [e] at this
end
theorem w8 (n : Nat) : IntKind.u8.wrap (n : Int) = (UInt8.ofNat n).toNat := by
  rw [UInt8.toNat_ofNat']
  simp [IntKind.wrap, IntKind.signed, IntKind.bits]
section
variable {U : TypeId → TI} {ty : TypeId} {K : AV → Prop}
end
end Go.Ab

set_option linter.unusedSimpArgs false
set_option linter.unusedVariables false
namespace Go.Ab
open Go
section
variable {P : Program} {U : TypeId → TI} {n : Nat} {ρ : Env} {h0 h h' : Heap} {tb : TypeId} {y v : AV} {l m : List UInt8} {Q : AV → Heap → Prop}
def Wr (tb : TypeId) (h0 h : Heap) (y : AV) (l : List UInt8) : Prop :=
  Sub h0 h ∧ ((l = [] ∧ y = .sl [] .full) ∨ ∃ id cs, h0 id = none ∧ y = .oa id 0 l.length ∧ h id = some (.obj cs tb) ∧ l.length ≤ cs.length ∧ cs.take l.length = l.map byteA)
theorem Wr.bytes (hw : Wr tb h0 h y l) : Bytes tb h y l := by
  obtain ⟨_, ⟨rfl, rfl⟩ | ⟨id, cs, _, rfl, h1, h2, h3⟩⟩ := hw
  · exact .nil _
  · exact .oa h1 (by omega) (by simpa using h3)
theorem Wr.nil (hs : Sub h0 h) : Wr tb h0 h (.sl [] .full) [] := ⟨hs, .inl ⟨rfl, rfl⟩⟩
theorem Wr.sub (hw : Wr tb h0 h y l) (hs : Sub h h') : Wr tb h0 h' y l := by
  obtain ⟨h1, hw | ⟨id, cs, a, e, b, c, d⟩⟩ := hw
  · exact ⟨h1.trans hs, .inl hw⟩
  · exact ⟨h1.trans hs, .inr ⟨id, cs, a, e, hs _ _ b, c, d⟩⟩
theorem Wr.app (hw : Wr tb h0 h y l) (hz : (U tb).sz = 1) (hb : (U tb).bytes = 1) (hf : (U tb).zero = byteA 0) (hsrc : ∀ k : List AV → Prop, k (m.map byteA) → srcA U tb h v k)
    (hlen : l.length + m.length ≤ 140737488355328) (hk : ∀ y' h', Wr tb h0 h' y' (l ++ m) → Q y' h') : apK U h y v Q (.slice tb) := by
  have hs := hw.1
  have one : Sized (U tb).sz (m.map byteA) := by rw [hz, Sized_bytes]; trivial
  obtain ⟨_, ⟨rfl, rfl⟩ | ⟨id, cs, h1, rfl, h2, h3, h4⟩⟩ := hw
  · refine (apK_full ..).mpr ⟨by rw [hz]; decide, by rw [hb]; decide, hsrc _ ⟨by simp [Sized], one, by rw [hb]; simpa using hlen, fun hn => ?_, fun hn => ?_⟩⟩
    · have : m = [] := by simpa using hn
      subst this
      exact hk _ _ (.nil hs)
    · refine .oa hz (by rw [hf]; simp [fit, byteA, Value.oneCell']) (by rw [hf]; rfl) (noAgg_bytes m) fun id k hid => ?_
      refine hk _ _ ⟨hs.new hid _, .inr ⟨id, _, hs.none hid, ?_, upd_same .., ?_, ?_⟩⟩
      · simp
      · simp
      · simp [List.take_append_of_le_length]
  · refine ⟨by rw [hz]; decide, by rw [hb]; decide, hz, hsrc _ ⟨by rw [← hz]; exact one, noAgg_bytes m, by rw [hb]; simpa using hlen, ?_⟩⟩
    rw [h2]
    refine ⟨by omega, ?_, by rw [hf]; simp [fit, byteA, Value.oneCell'], by rw [hf]; rfl, fun hle => ?_, fun id' k hid => ?_⟩
    · rw [List.drop_zero, h4]; exact noAgg_bytes l
    · rw [List.length_map] at hle ⊢
      have hsub : Sub h0 (upd h id (some (.obj (over cs (0 + l.length) (m.map byteA)) tb))) := fun j b hj => by
        by_cases e : j = id
        · subst e; rw [h1] at hj; cases hj
        · rw [upd_other _ _ e]; exact hs _ _ hj
      have ho : (over cs (0 + l.length) (m.map byteA)).length = cs.length := over_length (by simpa using hle)
      refine hk _ _ ⟨hsub, .inr ⟨id, _, h1, by rw [List.length_append], upd_same .., by rw [ho, List.length_append]; omega, ?_⟩⟩
      rw [over, Nat.zero_add, h4, List.map_append, List.length_append, List.take_append_of_le_length (by simp), ← List.map_append]
      exact List.take_of_length_le (by simp)
    · rw [List.length_map]
      refine hk _ _ ⟨hs.new hid _, .inr ⟨id', _, hs.none hid, by rw [List.length_append], upd_same .., ?_, ?_⟩⟩
      · rw [List.drop_zero, h4]; simp
      · rw [List.drop_zero, h4, ← List.map_append, List.take_append_of_le_length (by simp)]
        exact List.take_of_length_le (by simp)
theorem Wr.put (hw : Wr tb h0 h y l) (hz : (U tb).sz = 1) (j : Nat) (hj : j < l.length) {K : AV → Prop} {x : IntKind} (hk : ∀ id cs, y = .oa id 0 l.length → h0 id = none → h id = some (.obj cs tb) → l.length ≤ cs.length → cs.take l.length = l.map byteA → K (.ptr id j)) : iaddrK U y (.v (.int x (j : Nat))) K (.slice tb) := by
  obtain ⟨hs, ⟨rfl, rfl⟩ | ⟨id, cs, h1, rfl, h2, h3, h4⟩⟩ := hw
  · cases hj
  · refine (iaddrK_oa ..).mpr ⟨by rw [hz]; decide, by omega, by omega, ?_⟩
    rw [hz, Nat.zero_add, Nat.mul_one]
    exact hk id cs rfl h1 h2 h3 h4
end
end Go.Ab

set_option linter.unusedSimpArgs false
set_option linter.unusedVariables false
namespace Go.Ab
open Go
section
variable {U : TypeId → TI} {ty : TypeId} {K : AV → Prop}
end
end Go.Ab

set_option linter.unusedSimpArgs false
set_option linter.unusedVariables false
namespace Go.Ab
open Go
section
variable {P : Program} {U : TypeId → TI} {n : Nat} {ρ : Env} {h : Heap}
section
variable (all : List Oper) (bs : List Bool) (r : List Oper) (K : Env → Heap → Prop)
end
theorem FnOK.of_wp {f : FuncId} {fn : Func} {c : Code} {args : List AV} {Q : AV → Heap → Prop} (hU : ∀ t, AgreeT P U t) (hf : P.funcs[f]? = some fn) (hb : fn.body = some c)
    (hn : (fn.name == "runtime.NumGoroutine") = false) (m : Nat) (hm' : fn.ntmps = m) (rs : List ResultVar) (hr : fn.results.toList = rs) (hl : args.length ≤ m)
    (hk : WP P m c (envOf args) h (bodyK U rs Q)) : FnOK P f args h Q := by
  subst hm'; subst hr
  exact FnOK.of_wp0 hU hf hb hn hl fun _ => hk
end
end Go.Ab

set_option linter.unusedSimpArgs false
set_option linter.unusedVariables false
namespace Go.Ab
open Go
section
variable {P : Program} {U : TypeId → TI} {n : Nat} {ρ : Env} {h : Heap}
def KCut (I : Env → Heap → Prop) (K : Exit → Env → Heap → Prop) : Exit → Env → Heap → Prop := KSeq I K
theorem KCut.at {I : Env → Heap → Prop} {K : Exit → Env → Heap → Prop} (hi : I ρ h) : KCut I K .normal ρ h := hi
theorem WP.cut {c d : Code} {K : Exit → Env → Heap → Prop} (I : Env → Heap → Prop) (hc : WP P n c ρ h (KCut I K)) (hd : ∀ ρ h, I ρ h → WP P n d ρ h K) : WP P n (.seq c d) ρ h K :=
  WP.seq (hc.weaken fun e ρ h hk => by
    cases e with
    | normal => exact hd ρ h hk
    | _ => exact hk)
theorem WP.vc (hU : ∀ t, AgreeT P U t) (hm : P.follows .mixedOrders = true) {c : Code} {K : Exit → Env → Heap → Prop} (hk : vcCode P U n c ρ h K) : WP P n c ρ h K := vcCode_sound hU hm c ρ h K hk
def KNext (P : Program) (n : Nat) (d : Code) (K : Exit → Env → Heap → Prop) : Exit → Env → Heap → Prop := KSeq (WP P n d · · K) K
@[go_sem ↓] theorem KNext_normal (d : Code) (K : Exit → Env → Heap → Prop) : KNext P n d K .normal ρ h = WP P n d ρ h K := rfl
@[go_sem ↓] theorem KNext_ret (d : Code) (K : Exit → Env → Heap → Prop) : KNext P n d K .ret ρ h = K .ret ρ h := rfl
theorem WP.one (hU : ∀ t, AgreeT P U t) (hm : P.follows .mixedOrders = true) {c d : Code} {K : Exit → Env → Heap → Prop} (hk : vcCode P U n c ρ h (KNext P n d K)) : WP P n (.seq c d) ρ h K := WP.seq (vcCode_sound hU hm c ρ h _ hk)
end
end Go.Ab

set_option linter.unusedSimpArgs false
set_option linter.unusedVariables false
namespace Go.Ab
open Go
section
variable {P : Program} {U : TypeId → TI} {n : Nat} {ρ : Env} {h : Heap}
variable {d : Option Tmp} {t : TypeId} {p : String} {a : Array Edge} {g : Option (Nat × Bool)} {Q : AV → Heap → Prop} {k : AV → Prop}
@[go_sem] theorem atK_map (x y : TypeId) (k : TK → Prop) : atK (.map x y) k = k (.map x y) := rfl
@[go_sem] theorem cells_mp (i : Nat) : AV.cells (.mp i) = [.mp i] := rfl
@[go_sem] theorem fit_mp (i m : Nat) : fit (.mp i) m = (m = 1) := rfl
@[go_sem] theorem keyOK_s (l : List UInt8) : keyOK .str (.s l) = (l.length ≤ maxLen) := rfl
def mpL (b : Blk) (f : List (AV × AV) → Prop) : Prop := match b with
  | .mp m => f m
  | _ => False
@[congr] theorem mpL_congr {b b' : Blk} {f : List (AV × AV) → Prop} (e : b = b') : mpL b f = mpL b' f := by rw [e]
@[go_sem ↓] theorem mpL_eq (m : List (AV × AV)) (f : List (AV × AV) → Prop) : mpL (.mp m) f = f m := rfl
def KeysA (tk : TK) (m : List (AV × AV)) : Prop := ∀ p ∈ m, keyOK tk p.1
def UnitOr (ti : TI) : Prop := ti.sz ≠ 0 ∨ ti.k = .strct []
def lookK (U : TypeId → TI) (h : Heap) (u v : AV) (ok : Bool) (k : AV → Prop) (tk : TK) : Prop := match tk, u with
  | .map kt e, .mp id => keyOK (U kt).k v ∧ UnitOr (U e) ∧ bindO (h id) fun b => mpL b fun m => KeysA (U kt).k m ∧ k (lookM U e m v ok)
  | _, _ => False
@[congr] theorem lookK_congr {u u' v v' : AV} {ok : Bool} {k : AV → Prop} {tk : TK} (h1 : u = u') (h2 : v = v') : lookK U h u v ok k tk = lookK U h u' v' ok k tk := by rw [h1, h2]
@[go_sem ↓] theorem lookK_mp (kt e : TypeId) (id : Nat) (v : AV) (ok : Bool) : lookK U h (.mp id) v ok k (.map kt e) = (keyOK (U kt).k v ∧ UnitOr (U e) ∧ bindO (h id) fun b => mpL b fun m => KeysA (U kt).k m ∧ k (lookM U e m v ok)) := rfl
@[go_sem ↓] theorem o_lookup (mt : TypeId) (x y : Operand) (ok : Bool) : vcOp P U ρ h ⟨d, .lookup mt x y ok, t, p, a, g⟩ Q = bindO (ev ρ x) fun u => bindO (ev ρ y) fun v => atK (U mt).k (lookK U h u v ok (atH Q h)) := by
  simp only [vcOp, pv, withv_eq, atK]
  congr 1
  funext u
  congr 1
  funext v
  cases (U mt).k with
  | map kt e =>
    cases u with
    | mp id =>
      simp only [lookK]
      congr 2
      cases h id with
      | none => rfl
      | some b => cases b <;> rfl
    | _ => rfl
  | _ => rfl
def putK (U : TypeId → TI) (h : Heap) (u v w : AV) (Q : AV → Heap → Prop) (tk : TK) : Prop := match tk, u with
  | .map kt e, .mp id => keyOK (U kt).k v ∧ bindO (h id) fun b => mpL b fun m => KeysA (U kt).k m ∧ Q (.v undef) (upd h id (some (.mp (setM m v w))))
  | _, _ => False
@[congr] theorem putK_congr {u u' v v' w w' : AV} {tk : TK} (h1 : u = u') (h2 : v = v') (h3 : w = w') : putK U h u v w Q tk = putK U h u' v' w' Q tk := by rw [h1, h2, h3]
@[go_sem ↓] theorem putK_mp (kt e : TypeId) (id : Nat) (v w : AV) : putK U h (.mp id) v w Q (.map kt e) = (keyOK (U kt).k v ∧ bindO (h id) fun b => mpL b fun m => KeysA (U kt).k m ∧ Q (.v undef) (upd h id (some (.mp (setM m v w))))) := rfl
@[go_sem ↓] theorem o_mapUpdate (mt : TypeId) (x y z : Operand) : vcOp P U ρ h ⟨d, .mapUpdate mt x y z, t, p, a, g⟩ Q = bindO (ev ρ x) fun u => bindO (ev ρ y) fun v => bindO (ev ρ z) fun w => atK (U mt).k (putK U h u v w Q) := by
  simp only [vcOp, withv_eq, atK]
  congr 1
  funext u
  congr 1
  funext v
  congr 1
  funext w
  cases (U mt).k with
  | map kt e =>
    cases u with
    | mp id =>
      simp only [putK]
      congr 1
      cases h id with
      | none => rfl
      | some b => cases b <;> rfl
    | _ => rfl
  | _ => rfl
def NewMp (h : Heap) (Q : AV → Heap → Prop) : Prop := ∀ id, h id = none → Q (.mp id) (upd h id (some (.mp [])))
@[go_sem ↓] theorem o_makeMap (mt : TypeId) : vcOp P U ρ h ⟨d, .makeMap mt none, t, p, a, g⟩ Q = NewMp h Q := by
  simp only [vcOp, roomM, true_and]; rfl
end
def setA (ls : List (List UInt8)) : List (AV × AV) := ls.map fun l => (.s l, .agg [])
theorem getM_set (ls : List (List UInt8)) (l : List UInt8) : getM (setA ls) (.s l) = if l ∈ ls then some (.agg []) else none := by
  induction ls with
  | nil => rfl
  | cons x ls ih =>
    simp only [getM, setA, List.map_cons, List.find?_cons, keyE] at ih ⊢
    by_cases e : x = l
    · subst e; simp
    · have : (x == l) = false := by simpa using e
      rw [this]
      simp only
      rw [ih]
      simp [Ne.symm e]
theorem setM_new {ls : List (List UInt8)} {l : List UInt8} (hn : l ∉ ls) : setM (setA ls) (.s l) (.agg []) = setA (ls ++ [l]) := by
  unfold setM
  rw [getM_set, if_neg hn]
  simp [setA]
theorem lookM_set (U : TypeId → TI) (e : TypeId) (he : (U e).sz = 0) (ls : List (List UInt8)) (l : List UInt8) : lookM U e (setA ls) (.s l) true = .tup [.agg [], .v (.bool (decide (l ∈ ls)))] := by
  simp only [lookM, getM_set, zeroE, he, if_true]
  by_cases h : l ∈ ls
  · simp [h]
  · simp [h]
theorem keysA_set {ls : List (List UInt8)} (h : ∀ l ∈ ls, l.length ≤ maxLen) : KeysA .str (setA ls) := fun p hp => by
  obtain ⟨l, hl, rfl⟩ := List.mem_map.1 hp
  exact h l hl
end Go.Ab

set_option linter.unusedSimpArgs false
set_option linter.unusedVariables false
namespace Go.Ab
open Go
section
variable {P : Program} {f : FuncId} {args : List AV} {h h' : Heap} {Q : AV → Heap → Prop}
theorem Ext.below {c : Cx} {w' : World} (hb : Go.RowKit.Below c.w.heap.size c.w w') : Ext c { c with w := w' } where
  os := hb.os
  tape := hb.tape
  output := hb.output
  size := hb.size
  block := fun b h _ => hb.block b h
  cell := fun b o h _ => by
    show w'.cell? _ = _
    simp only [World.cell?, hb.block b h]
  shape := fun b cs t fr h => ⟨cs, fr, (hb.block b (lt_of_get h)).trans h, rfl⟩
  steal := fun _ _ _ h => h
  obj := fun _ cs _ h => ⟨rfl, cs, h, rfl⟩
  spare := fun _ n _ h => ⟨n, h, .inl ⟨rfl, rfl⟩⟩
  mp := fun _ m h => ⟨rfl, m, h⟩
  ro := fun _ _ _ h => ⟨rfl, h⟩
theorem Good.below {c : Cx} (g : Good c) {w' : World} (hb : Go.RowKit.Below c.w.heap.size c.w w') : Good { c with w := w' } where
  fin := g.fin
  inj := g.inj
  obj := fun id cs t h => by
    obtain ⟨vs, a1, a2, a3⟩ := g.obj id cs t h
    exact ⟨vs, (hb.block _ (lt_of_get a1)).trans a1, a2, fun j hj => ⟨(a3 j hj).1.mono (.below hb), (a3 j hj).2⟩⟩
  spare := fun id n sz h => by
    obtain ⟨a0, vs, t, fr, a1, a2⟩ := g.spare id n sz h
    exact ⟨a0, vs, t, fr, (hb.block _ (lt_of_get a1)).trans a1, a2⟩
  mp := fun id m h => by
    obtain ⟨es, cl, a1, a2, a3⟩ := g.mp id m h
    exact ⟨es, cl, (hb.block _ (lt_of_get a1)).trans a1, a2, fun i hi hi' => ⟨(a3 i hi hi').1, (a3 i hi hi').2.mono (.below hb)⟩⟩
  keys := g.keys
  ro := fun id b vs h => g.ro_mono (.below hb) h
theorem FnOK.lib {X : AV} (hc : callable P f) (hf : ∀ c (vs : Array Value), Sub h c.h → Good c → vs.size = args.length → (∀ i (hi : i < args.length), Rep c args[i] (vs.getD i undef)) →
    Calls P f vs c.w fun e w' => (∃ u, e = .returned u ∧ ∀ c', Ext c c' → Rep c' X u) ∧ Go.RowKit.Below c.w.heap.size c.w w') : FnOK P f args h fun r h' => r = X ∧ h' = h := by
  refine fun c vs hs g h1 h2 => .inl ⟨hc, (hf c vs hs g h1 h2).mono ?_⟩
  rintro e w' ⟨⟨u, rfl, hu⟩, hb⟩
  exact ⟨u, rfl, { c with w := w' }, X, h, rfl, g.below hb, .below hb, hu _ (.below hb), hs, rfl, rfl⟩
def Tab (h : Heap) (b : Nat) (vs : List Value) : Prop := ∃ id, h id = some (.ro b vs)
theorem Tab.sub {b : Nat} {vs : List Value} (ht : Tab h b vs) (hs : Sub h h') : Tab h' b vs := let ⟨id, hi⟩ := ht; ⟨id, hs _ _ hi⟩
theorem Tab.keep {b : Nat} {vs : List Value} {id : Nat} (ht : Tab h b vs) (hs : Keep id h h') (hn : ∀ vs, h id ≠ some (.ro b vs)) : Tab h' b vs := by
  obtain ⟨j, hj⟩ := ht
  exact ⟨j, hs j _ (fun e => by subst e; exact hn _ hj) hj⟩
end
def tabH (ts : List (Nat × List Value)) : Heap := fun i => (ts[i]?).map fun p => .ro p.1 p.2
def cxT (w : World) (ts : List (Nat × List Value)) : Cx := ⟨w, fun i => ⟨((ts[i]?).map (·.1)).getD 0, 0, none⟩, tabH ts⟩
theorem ownedT (w : World) (ts : List (Nat × List Value)) (b o : Nat) : ¬ owned (cxT w ts) b o := by
  rintro ⟨id, k, h, _, h3⟩
  simp only [cxT, tabH, Option.map_eq_some_iff] at h
  obtain ⟨p, _, rfl⟩ := h
  exact h3
theorem goodT (w : World) (ts : List (Nat × List Value)) (hd : ts.Pairwise fun p q => p.1 ≠ q.1) (ht : ∀ p ∈ ts, ∃ (t : TypeId) (fr : Nat × Nat), w.heap[p.1]? = some (.cells p.2.toArray t fr)) : Good (cxT w ts) where
  fin := ⟨ts.length, fun id h => by simp [cxT, tabH, List.getElem?_eq_none h]⟩
  inj := fun i j k l h1 h2 hne => by
    simp only [cxT, tabH, Option.map_eq_some_iff] at h1 h2
    obtain ⟨p, hp, rfl⟩ := h1
    obtain ⟨q, hq, rfl⟩ := h2
    simp only [cxT, hp, hq, Option.map_some, Option.getD_some]
    obtain ⟨hi, rfl⟩ := List.getElem?_eq_some_iff.1 hp
    obtain ⟨hj, rfl⟩ := List.getElem?_eq_some_iff.1 hq
    rw [List.pairwise_iff_getElem] at hd
    rcases Nat.lt_or_gt_of_ne hne with h | h
    · exact hd i j hi hj h
    · exact fun e => hd j i hj hi h e.symm
  obj := fun id cs t h => by
    simp only [cxT, tabH, Option.map_eq_some_iff] at h
    obtain ⟨p, _, h⟩ := h; cases h
  spare := fun id n sz h => by
    simp only [cxT, tabH, Option.map_eq_some_iff] at h
    obtain ⟨p, _, h⟩ := h; cases h
  mp := fun id m h => by
    simp only [cxT, tabH, Option.map_eq_some_iff] at h
    obtain ⟨p, _, h⟩ := h; cases h
  keys := fun id m h => by
    simp only [cxT, tabH, Option.map_eq_some_iff] at h
    obtain ⟨p, _, h⟩ := h; cases h
  ro := fun id b vs h => by
    simp only [cxT, tabH, Option.map_eq_some_iff] at h
    obtain ⟨p, hp, h⟩ := h
    cases h
    refine ⟨by simp [cxT, hp], ht p (List.mem_of_getElem? hp)⟩
theorem FnOK.callsT {P : Program} {f : FuncId} {args : List AV} {b : Value} {vs : Array Value} {w : World} {ts : List (Nat × List Value)} (hc : callable P f) (hf : FnOK P f args (tabH ts) fun r _ => r = .v b) (hd : ts.Pairwise fun p q => p.1 ≠ q.1)
    (ht : ∀ p ∈ ts, ∃ (t : TypeId) (fr : Nat × Nat), w.heap[p.1]? = some (.cells p.2.toArray t fr)) (hv : vs.size = args.length) (hr : ∀ i (hi : i < args.length), Rep (cx0 w) args[i] (vs.getD i undef)) :
    Calls P f vs w fun e w' => e = .returned b ∧ Go.RowKit.Below w.heap.size w w' := by
  have hE : Ext (cx0 w) (cxT w ts) := ⟨rfl, rfl, rfl, Nat.le_refl _, fun _ _ _ => rfl, fun _ _ _ _ => rfl, fun _ cs _ fr h => ⟨cs, fr, h, rfl⟩, fun b o _ h => (ownedT w ts b o h).elim,
    fun _ _ _ h => (by cases h), fun _ _ _ h => (by cases h), fun _ _ h => (by cases h), fun _ _ _ h => (by cases h)⟩
  refine ((hf (cxT w ts) vs (fun _ _ h => h) (goodT w ts hd ht) hv fun i hi => (hr i hi).mono hE).calls hc).mono ?_
  rintro e w' ⟨u, rfl, c', x, h', rfl, g', hE, hx, hs, rfl⟩
  rw [hx.v_inv]
  exact ⟨rfl, hE.os, hE.tape, hE.output, hE.size, fun k hk => hE.block k hk fun o => ownedT w ts k o⟩
end Go.Ab

set_option linter.unusedSimpArgs false
set_option linter.unusedVariables false
namespace Go.Ab
open Go
mutual
def strip : AV → AV
  | .sl xs _ => .sl (stripL xs) .no
  | .agg xs => .agg (stripL xs)
  | .tup xs => .tup (stripL xs)
  | .v x => .v x
  | .s l => .s l
  | .pe x o => .pe x o
  | .ptr i o => .ptr i o
  | .oa i o l => .oa i o l
  | .ifc t x => .ifc t x
  | .fn f c => .fn f c
  | .mp i => .mp i
  | .ob i o l c s => .ob i o l c s
def stripL : List AV → List AV
  | [] => []
  | x :: r => strip x :: stripL r
end
theorem stripL_length : ∀ xs : List AV, (stripL xs).length = xs.length
  | [] => rfl
  | x :: r => by simp [stripL, stripL_length r]
theorem stripL_get : ∀ (xs : List AV) (i : Nat) (h1 : i < xs.length) (h2 : i < (stripL xs).length), (stripL xs)[i] = strip xs[i]
  | x :: r, 0, h1, h2 => by simp [stripL]
  | x :: r, i + 1, h1, h2 => by simpa [stripL] using stripL_get r i (by simpa using h1) (by simpa [stripL] using h2)
theorem strip_cells (x : AV) : (strip x).cells = match x with | .agg xs => stripL xs | _ => [strip x] := by
  cases x <;> simp [strip, AV.cells]
mutual
theorem weak_strip : ∀ x : AV, Weak x (strip x)
  | .sl xs p => .deep _ _ p (stripL_length xs).symm (fun i h1 h2 => by
        rw [stripL_get xs i h1 h2, strip_cells]
        have := weak_stripC xs i h1
        cases hx : xs[i] <;> simp [AV.cells, stripL_length])
      (fun i h1 h2 j h3 h4 => by
        have hw := weak_stripC xs i h1
        have e := stripL_get xs i h1 h2
        exact hw (stripL xs)[i] e j h3 h4)
  | .agg xs => .agg _ _ (stripL_length xs).symm fun i h1 h2 => by rw [stripL_get xs i h1 h2]; exact weak_stripL xs i h1
  | .tup xs => .tup _ _ (stripL_length xs).symm fun i h1 h2 => by rw [stripL_get xs i h1 h2]; exact weak_stripL xs i h1
  | .v x => .refl _
  | .s l => .refl _
  | .pe x o => .refl _
  | .ptr i o => .refl _
  | .oa i o l => .refl _
  | .ifc t x => .refl _
  | .fn f c => .refl _
  | .mp i => .refl _
  | .ob i o l c s => .refl _
theorem weak_stripL : ∀ (xs : List AV) (i : Nat) (h : i < xs.length), Weak xs[i] (strip xs[i])
  | x :: r, 0, h => weak_strip x
  | x :: r, i + 1, h => weak_stripL r i (by simpa using h)
theorem weak_stripC : ∀ (xs : List AV) (i : Nat) (h : i < xs.length) (y : AV), y = strip xs[i] → ∀ (j : Nat) (h3 : j < xs[i].cells.length) (h4 : j < y.cells.length), Weak xs[i].cells[j] y.cells[j]
  | x :: r, 0, h, y, e, j, h3, h4 => weak_cells x y e j h3 h4
  | x :: r, i + 1, h, y, e, j, h3, h4 => weak_stripC r i (by simpa using h) y e j h3 h4
theorem weak_cells : ∀ (x y : AV), y = strip x → ∀ (j : Nat) (h3 : j < x.cells.length) (h4 : j < y.cells.length), Weak x.cells[j] y.cells[j]
  | .agg xs, y, e, j, h3, h4 => by
    subst e
    simp only [strip, AV.cells] at h4 ⊢
    rw [stripL_get xs j h3 h4]
    exact weak_stripL xs j h3
  | .sl xs p, y, e, j, h3, h4 => by
    subst e
    simp only [strip, AV.cells, List.length_singleton] at h3 h4 ⊢
    obtain rfl : j = 0 := by omega
    exact .deep _ _ p (stripL_length xs).symm (fun i h1 h2 => by
        rw [stripL_get xs i h1 h2, strip_cells]
        cases hx : xs[i] <;> simp [AV.cells, stripL_length])
      (fun i h1 h2 j h3 h4 => weak_stripC xs i h1 _ (stripL_get xs i h1 h2) j h3 h4)
  | .tup xs, y, e, j, h3, h4 => by
    subst e
    simp only [strip, AV.cells, List.length_singleton] at h3 h4 ⊢
    obtain rfl : j = 0 := by omega
    exact .tup _ _ (stripL_length xs).symm fun i h1 h2 => by rw [stripL_get xs i h1 h2]; exact weak_stripL xs i h1
  | .v x, y, e, j, h3, h4 => by subst e; exact .refl _
  | .s l, y, e, j, h3, h4 => by subst e; exact .refl _
  | .pe x o, y, e, j, h3, h4 => by subst e; exact .refl _
  | .ptr i o, y, e, j, h3, h4 => by subst e; exact .refl _
  | .oa i o l, y, e, j, h3, h4 => by subst e; exact .refl _
  | .ifc t x, y, e, j, h3, h4 => by subst e; exact .refl _
  | .fn f c, y, e, j, h3, h4 => by subst e; exact .refl _
  | .mp i, y, e, j, h3, h4 => by subst e; exact .refl _
  | .ob i o l c s, y, e, j, h3, h4 => by subst e; exact .refl _
end
section
variable {P : Program} {U : TypeId → TI} {n : Nat} {ρ : Env} {h0 h h' : Heap} {tb : TypeId} {y v : AV} {xs zs : List AV} {Q : AV → Heap → Prop} {f : FuncId} {args : List AV}
theorem FnOK.strip (hf : FnOK P f (stripL args) h Q) : FnOK P f args h Q := hf.weak (stripL_length args).symm fun i h1 h2 => by rw [stripL_get args i h1 h2]; exact weak_strip _
def One (xs : List AV) : Prop := ∀ x ∈ xs, isAggA x = false
theorem cells_one {x : AV} (h : isAggA x = false) : x.cells = [x] := by cases x <;> first | rfl | (cases h)
theorem One.sized (h : One xs) : Sized 1 xs := fun z hz => by rw [cells_one (h z hz)]; rfl
theorem One.app (h1 : One xs) (h2 : One zs) : One (xs ++ zs) := fun x hx => by
  rcases List.mem_append.1 hx with h | h
  · exact h1 x h
  · exact h2 x h
theorem One.take (h1 : One xs) (n : Nat) : One (xs.take n) := fun x hx => h1 x (List.mem_of_mem_take hx)
theorem One.drop (h1 : One xs) (n : Nat) : One (xs.drop n) := fun x hx => h1 x (List.mem_of_mem_drop hx)
theorem One.map {α : Type} {g : α → AV} (hg : ∀ a, isAggA (g a) = false) (l : List α) : One (l.map g) := fun x hx => by
  obtain ⟨a, _, rfl⟩ := List.mem_map.1 hx
  exact hg a
def SeqA (tb : TypeId) (h : Heap) (y : AV) (xs : List AV) : Prop :=
  (∃ q, y = .sl xs q) ∨ ∃ id off cs, y = .oa id off xs.length ∧ h id = some (.obj cs tb) ∧ off + xs.length ≤ cs.length ∧ (cs.drop off).take xs.length = xs
theorem SeqA.sl (xs : List AV) (q : Perm) : SeqA tb h (.sl xs q) xs := .inl ⟨q, rfl⟩
theorem SeqA.sub (hb : SeqA tb h y xs) (hs : Sub h h') : SeqA tb h' y xs := by
  rcases hb with hb | ⟨id, off, cs, rfl, h1, h2⟩
  · exact .inl hb
  · exact .inr ⟨id, off, cs, rfl, hs _ _ h1, h2⟩
theorem SeqA.len (hb : SeqA tb h y xs) (e : TypeId) (k : AV → Prop) : lenK y k (.slice e) = k (.v (.int .i64 xs.length)) := by
  rcases hb with ⟨q, rfl⟩ | ⟨id, off, cs, rfl, _⟩ <;> rfl
theorem SeqA.cells (hb : SeqA tb h y xs) : y.cells = [y] := by
  rcases hb with ⟨q, rfl⟩ | ⟨id, off, cs, rfl, _⟩ <;> rfl
def AtP (U : TypeId → TI) (tb : TypeId) (h : Heap) (p x : AV) : Prop := ∀ k : AV → Prop, loadA U h tb p k = k x
theorem SeqA.idx (hb : SeqA tb h y xs) (ho : One xs) {m : Int} {x : IntKind} {K : AV → Prop} (j : Nat) (hm : m = j) (hj : j < xs.length) (hz : (U tb).sz = 1) (ha : (U tb).k.agg = false)
    (hk : ∀ p, AtP U tb h p xs[j] → K p) : iaddrK U y (.v (.int x m)) K (.slice tb) := by
  subst hm
  have h1 := ho xs[j] (List.getElem_mem hj)
  rcases hb with ⟨q, rfl⟩ | ⟨id, off, cs, rfl, g1, g2, g3⟩
  · refine (iaddrK_sl ..).mpr ⟨by rw [hz]; decide, ?_⟩
    refine IdxE.at j hj (by rw [hz, cells_one h1]; rfl) ?_
    refine hk _ fun k => ?_
    simp only [loadA, atA_eq, ha, hz, cells_one h1, h1, List.length_cons, List.length_nil, Nat.zero_add, and_self, if_true]
  · refine (iaddrK_oa ..).mpr ⟨by rw [hz]; decide, by omega, by omega, ?_⟩
    refine hk _ fun k => ?_
    have e1 : cs[off + j]? = some xs[j] := by
      have := congrArg (fun q => q[j]?) g3
      simp only [List.getElem?_take, hj, if_true, List.getElem?_drop, List.getElem?_eq_getElem hj] at this
      exact this
    simp only [loadA, g1, bindO_some, objL_eq, hz, Nat.mul_one, Int.toNat_natCast, partA_eq, ha, Br, e1]
    simp
def WrA (tb : TypeId) (h0 h : Heap) (y : AV) (xs : List AV) : Prop :=
  Sub h0 h ∧ ((xs = [] ∧ y = .sl [] .full) ∨ ∃ id cs, h0 id = none ∧ y = .oa id 0 xs.length ∧ h id = some (.obj cs tb) ∧ xs.length ≤ cs.length ∧ cs.take xs.length = xs)
theorem WrA.nil (hs : Sub h0 h) : WrA tb h0 h (.sl [] .full) [] := ⟨hs, .inl ⟨rfl, rfl⟩⟩
theorem WrA.seq (hw : WrA tb h0 h y xs) : SeqA tb h y xs := by
  obtain ⟨_, ⟨rfl, rfl⟩ | ⟨id, cs, _, rfl, h1, h2, h3⟩⟩ := hw
  · exact .sl _ _
  · exact .inr ⟨id, 0, cs, rfl, h1, by omega, by simpa using h3⟩
theorem WrA.sub (hw : WrA tb h0 h y xs) (hs : Sub h h') : WrA tb h0 h' y xs := by
  obtain ⟨h1, hw | ⟨id, cs, a, e, b, c, d⟩⟩ := hw
  · exact ⟨h1.trans hs, .inl hw⟩
  · exact ⟨h1.trans hs, .inr ⟨id, cs, a, e, hs _ _ b, c, d⟩⟩
theorem WrA.base (hw : WrA tb h0 h y xs) {id : Nat} (hid : h id = none) (b : Option Blk) : WrA tb (upd h0 id b) (upd h id b) y xs := by
  obtain ⟨h1, hw⟩ := hw
  have h2 : Sub (upd h0 id b) (upd h id b) := fun j k hj => by
    by_cases e : j = id
    · subst e; rw [upd_same] at hj ⊢; exact hj
    · rw [upd_other _ _ e] at hj ⊢; exact h1 _ _ hj
  rcases hw with hw | ⟨i, cs, a, e, c, d⟩
  · exact ⟨h2, .inl hw⟩
  · have hne : i ≠ id := fun hh => by subst hh; rw [hid] at c; cases c
    exact ⟨h2, .inr ⟨i, cs, by rw [upd_other _ _ hne]; exact a, e, by rw [upd_other _ _ hne]; exact c, d⟩⟩
theorem WrA.less (hw : WrA tb h' h y xs) (hs : Sub h0 h') : WrA tb h0 h y xs := by
  obtain ⟨h1, hw | ⟨i, cs, a, e, c, d⟩⟩ := hw
  · exact ⟨hs.trans h1, .inl hw⟩
  · exact ⟨hs.trans h1, .inr ⟨i, cs, hs.none a, e, c, d⟩⟩
theorem WrA.len (hw : WrA tb h0 h y xs) (e : TypeId) (k : AV → Prop) : lenK y k (.slice e) = k (.v (.int .i64 xs.length)) := hw.seq.len e k
theorem WrA.idx (hb : WrA tb h0 h y xs) (ho : One xs) {m : Int} {x : IntKind} {K : AV → Prop} (j : Nat) (hm : m = j) (hj : j < xs.length) (hz : (U tb).sz = 1) (ha : (U tb).k.agg = false)
    (hk : ∀ p, AtP U tb h p xs[j] → K p) : iaddrK U y (.v (.int x m)) K (.slice tb) := hb.seq.idx ho j hm hj hz ha hk
theorem WrA.cut (hw : WrA tb h0 h y xs) {hi : Operand} {m : Int} {x : IntKind} {K : AV → Prop} (j : Nat) (hm : ev ρ hi = some (.v (.int x m))) (hj : m = j) (hl : j ≤ xs.length) (hz : (U tb).sz = 1)
    (hk : ∀ z, WrA tb h0 h z (xs.take j) → K z) : sliceK U ρ y none (some hi) none K (.slice tb) := by
  subst hj
  have hs := hw.1
  obtain ⟨_, ⟨rfl, rfl⟩ | ⟨id, cs, h1, rfl, h2, h3, h4⟩⟩ := hw
  · rw [sliceK_none, optA_some, hm]
    refine ⟨by rw [hz]; decide, ?_⟩
    simp only [bindO_some, intA_eq, Option.isSome_some, cutL_ft, Int.toNat_natCast]
    have : j = 0 := by simpa using hl
    subst this
    refine ⟨by omega, by simp, ?_⟩
    exact hk _ (.nil hs)
  · rw [sliceK_oa]
    refine ⟨by rw [hz]; decide, fun _ => hz, ?_⟩
    simp only [optA_none, optA_some, hm, bindO_some, intA_eq]
    refine ⟨by omega, by omega, by omega, ?_⟩
    simp only [Int.toNat_natCast, hz, Nat.mul_one]
    have e : (xs.take j).length = j := by simp; omega
    have := hk (.oa id 0 (xs.take j).length) ⟨hs, .inr ⟨id, cs, h1, rfl, h2, by omega, by rw [e, ← h4, List.take_take, Nat.min_eq_left hl]⟩⟩
    rw [e] at this
    simpa using this
theorem WrA.from (hw : WrA tb h0 h y xs) (ho : One xs) {lo : Operand} {m : Int} {x : IntKind} {K : AV → Prop} (j : Nat) (hm : ev ρ lo = some (.v (.int x m))) (hj : m = j) (hl : j ≤ xs.length) (hz : (U tb).sz = 1)
    (hk : ∀ z, SeqA tb h z (xs.drop j) → K z) : sliceK U ρ y (some lo) none none K (.slice tb) := by
  subst hj
  obtain ⟨_, ⟨rfl, rfl⟩ | ⟨id, cs, h1, rfl, h2, h3, h4⟩⟩ := hw
  · have : j = 0 := by simpa using hl
    subst this
    rw [sliceK_from, hm]
    refine ⟨by rw [hz]; decide, by simp [Sized], ?_⟩
    simp only [bindO_some, intA_eq, KV_eq]
    exact ⟨by omega, by simp, hk _ (.sl _ _)⟩
  · rw [sliceK_oa]
    refine ⟨by rw [hz]; decide, fun _ => hz, ?_⟩
    simp only [optA_none, optA_some, hm, bindO_some, intA_eq]
    refine ⟨by omega, by omega, by omega, ?_⟩
    simp only [Int.toNat_natCast, hz, Nat.mul_one, Nat.zero_add]
    have e : (xs.drop j).length = xs.length - j := by simp
    have := hk (.oa id j (xs.drop j).length) (.inr ⟨id, j, cs, rfl, h2, by omega, by rw [e, ← List.drop_take, h4]⟩)
    rw [e] at this
    simpa using this
theorem WrA.app (hw : WrA tb h0 h y xs) (ho : One xs) (hoz : One zs) (hz : (U tb).sz = 1) (hb : (U tb).bytes ≠ 0) (hf : fit (U tb).zero 1) (hn : isAggA (U tb).zero = false) (hsrc : ∀ k : List AV → Prop, k zs → srcA U tb h v k)
    (hlen : (xs.length + zs.length) * (U tb).bytes ≤ 140737488355328) (hk : ∀ y' h', WrA tb h0 h' y' (xs ++ zs) → Q y' h') : apK U h y v Q (.slice tb) := by
  have hs := hw.1
  have one : Sized (U tb).sz zs := by rw [hz]; exact hoz.sized
  obtain ⟨_, ⟨rfl, rfl⟩ | ⟨id, cs, h1, rfl, h2, h3, h4⟩⟩ := hw
  · refine (apK_full ..).mpr ⟨by rw [hz]; decide, hb, hsrc _ ⟨by simp [Sized], one, by simpa using hlen, fun hn' => ?_, fun hn' => ?_⟩⟩
    · subst hn'
      exact hk _ _ (.nil hs)
    · refine .oa hz hf hn hoz fun id k hid => ?_
      refine hk _ _ ⟨hs.new hid _, .inr ⟨id, _, hs.none hid, ?_, upd_same .., ?_, ?_⟩⟩
      · simp
      · simp
      · simp [List.take_append_of_le_length]
  · refine ⟨by rw [hz]; decide, hb, hz, hsrc _ ⟨by rw [← hz]; exact one, hoz, by simpa using hlen, ?_⟩⟩
    rw [h2]
    refine ⟨by omega, ?_, hf, hn, fun hle => ?_, fun id' k hid => ?_⟩
    · rw [List.drop_zero, h4]; exact ho
    · have hsub : Sub h0 (upd h id (some (.obj (over cs (0 + xs.length) zs) tb))) := fun j b hj => by
        by_cases e : j = id
        · subst e; rw [h1] at hj; cases hj
        · rw [upd_other _ _ e]; exact hs _ _ hj
      have ho' : (over cs (0 + xs.length) zs).length = cs.length := over_length (by omega)
      refine hk _ _ ⟨hsub, .inr ⟨id, _, h1, by rw [List.length_append], upd_same .., by rw [ho', List.length_append]; omega, ?_⟩⟩
      rw [over, Nat.zero_add, h4, List.length_append, List.take_append_of_le_length (by simp)]
      exact List.take_of_length_le (by simp)
    · refine hk _ _ ⟨hs.new hid _, .inr ⟨id', _, hs.none hid, by rw [List.length_append], upd_same .., ?_, ?_⟩⟩
      · rw [List.drop_zero, h4]; simp
      · rw [List.drop_zero, h4, List.take_append_of_le_length (by simp)]
        exact List.take_of_length_le (by simp)
theorem WrA.put (hw : WrA tb h0 h y xs) (hz : (U tb).sz = 1) (j : Nat) (hj : j < xs.length) {K : AV → Prop} {x : IntKind} (hk : ∀ id cs, y = .oa id 0 xs.length → h0 id = none → h id = some (.obj cs tb) → xs.length ≤ cs.length → cs.take xs.length = xs → K (.ptr id j)) : iaddrK U y (.v (.int x (j : Nat))) K (.slice tb) := by
  obtain ⟨hs, ⟨rfl, rfl⟩ | ⟨id, cs, h1, rfl, h2, h3, h4⟩⟩ := hw
  · cases hj
  · refine (iaddrK_oa ..).mpr ⟨by rw [hz]; decide, by omega, by omega, ?_⟩
    rw [hz, Nat.zero_add, Nat.mul_one]
    exact hk id cs rfl h1 h2 h3 h4
end
end Go.Ab

set_option linter.unusedVariables false
namespace Go.Bf
open Go Go.Ab
abbrev Txt := List UInt8
structure AttrD where
  cat : Int
  name : Txt
  must : Bool
structure ValD where
  kind : Int
  n : Int
  s : Txt
structure MatchD where
  attr : AttrD
  op : Int
  val : ValD
structure NodeD where
  op : Int
  val : ValD
  attr : AttrD
structure OblD where
  on : Int
  kind : Int
  arg : Txt
abbrev TgtD := List (List (List MatchD))
structure RuleD where
  id : Txt
  deny : Bool
  tgt : TgtD
  cond : List NodeD
  obls : List OblD
inductive PolD where
  | mk (id : Txt) (set : Bool) (alg : Int) (tgt : TgtD) (rules : List RuleD) (kids : List PolD) (obls : List OblD)
def attrA (a : AttrD) : AV := .agg [.v (.int .i64 a.cat), .s a.name, .v (.bool a.must)]
def valA (v : ValD) : AV := .agg [.v (.int .i64 v.kind), .v (.int .i64 v.n), .s v.s]
def matchA (m : MatchD) : AV := .agg [.v (.int .i64 m.attr.cat), .s m.attr.name, .v (.bool m.attr.must), .v (.int .i64 m.op), .v (.int .i64 m.val.kind), .v (.int .i64 m.val.n), .s m.val.s]
def nodeA (m : NodeD) : AV := .agg [.v (.int .i64 m.op), .v (.int .i64 m.val.kind), .v (.int .i64 m.val.n), .s m.val.s, .v (.int .i64 m.attr.cat), .s m.attr.name, .v (.bool m.attr.must)]
def boolA (b : Bool) : AV := .v (.bool b)
def oblA (o : OblD) : AV := .agg [.v (.int .i64 o.on), .v (.int .i64 o.kind), .s o.arg]
def allA (l : List MatchD) : AV := .sl (l.map matchA) .no
def anyA (l : List (List MatchD)) : AV := .sl (l.map allA) .no
def tgtA (t : TgtD) : AV := .sl (t.map anyA) .no
def condA (l : List NodeD) : AV := .sl (l.map nodeA) .no
def oblsA (l : List OblD) : AV := .sl (l.map oblA) .no
def ruleA (r : RuleD) : AV := .agg [.s r.id, .v (.bool r.deny), tgtA r.tgt, condA r.cond, oblsA r.obls]
mutual
def polA : PolD → AV
  | .mk id set alg tgt rules kids obls => .agg [.s id, .v (.bool set), .v (.int .i64 alg), tgtA tgt, .sl (rules.map ruleA) .no, .sl (kidsA kids) .no, oblsA obls]
def kidsA : List PolD → List AV
  | [] => []
  | k :: r => polA k :: kidsA r
end
theorem kidsA_eq : ∀ l : List PolD, kidsA l = l.map polA
  | [] => rfl
  | k :: r => by simp [kidsA, kidsA_eq r]
def ltr (c : UInt8) : Bool := decide (97 ≤ (c.toNat : Int)) && decide ((c.toNat : Int) ≤ 122)
def dgt (c : UInt8) : Bool := decide (48 ≤ (c.toNat : Int)) && decide ((c.toNat : Int) ≤ 57)
def chOK (c : UInt8) (i : Nat) : Bool := ltr c || (decide (i ≠ 0) && (dgt c || (c.toNat : Int) == 95))
def chsOK (l : Txt) : Bool := l.zipIdx.all fun p => chOK p.1 p.2
def nameOK (l : Txt) : Bool := chsOK l && decide (1 ≤ l.length) && decide (l.length ≤ 16)
def attrOK (a : AttrD) : Bool := decide (1 ≤ a.cat) && decide (a.cat ≤ 4) && nameOK a.name
def valOK (v : ValD) : Bool :=
  if v.kind = 1 then (v.n == 0 || v.n == 1) && v.s == []
  else if v.kind = 2 then v.s == []
  else if v.kind = 3 then v.n == 0 && decide (v.s.length ≤ 64)
  else if v.kind = 4 then decide (0 ≤ v.n) && decide (v.n ≤ 1099511627776) && v.s == []
  else if v.kind = 5 then v.n == 0 && nameOK v.s
  else false
def matchOK (m : MatchD) : Bool := attrOK m.attr && decide (1 ≤ m.op) && decide (m.op ≤ 3) && valOK m.val
def manyE (n : Nat) : Int := if n = 0 then 1 else if n > 8 then 6 else 0
def firstE {α : Type} (f : α → Int) : List α → Int
  | [] => 0
  | x :: r => if f x = 0 then firstE f r else f x
def allE (l : List MatchD) : Int := if manyE l.length = 0 then (if l.all matchOK then 0 else 1) else manyE l.length
def anyE (l : List (List MatchD)) : Int := if manyE l.length = 0 then firstE allE l else manyE l.length
def tgtE (t : TgtD) : Int := if t.length > 8 then 6 else firstE anyE t
def wantsD (op : Int) : Option (List Bool) :=
  if op = 1 ∨ op = 2 then some []
  else if op = 3 ∨ op = 4 then some [true]
  else if op = 5 then some [true, false]
  else if op = 11 then some [false]
  else if 6 ≤ op ∧ op ≤ 13 then some [false, false]
  else none
def zeroV (v : ValD) : Bool := v.kind == 0 && (v.n == 0 && v.s == [])
def zeroAt (a : AttrD) : Bool := a.cat == 0 && (a.name == [] && a.must == false)
def fieldsOK (n : NodeD) : Bool :=
  if n.op = 1 then valOK n.val && zeroAt n.attr
  else if n.op = 2 then attrOK n.attr && zeroV n.val
  else zeroV n.val && zeroAt n.attr
def stepD (st : List Bool) (n : NodeD) : Option (List Bool) := match wantsD n.op with
  | none => none
  | some w => if fieldsOK n = true ∧ w.length ≤ st.length ∧ st.drop (st.length - w.length) = w then some (st.take (st.length - w.length) ++ [n.op == 2]) else none
def stepsD (st : List Bool) : List NodeD → Option (List Bool)
  | [] => some st
  | n :: r => match stepD st n with
    | none => none
    | some st' => stepsD st' r
def exprE (l : List NodeD) : Int := if l.length > 32 then 6 else match stepsD [] l with
  | none => 1
  | some st => if l = [] ∨ st = [false] then 0 else 1
def oblOK (o : OblD) : Bool := decide (1 ≤ o.on) && decide (o.on ≤ 2) && decide (1 ≤ o.kind) && decide (o.kind ≤ 4) && nameOK o.arg
def oblsE (l : List OblD) : Int := if l.length > 8 then 6 else if l.all oblOK then 0 else 1
structure MetD where
  met : List Txt
  rules : Nat
inductive Went where
  | bad (e : Int)
  | ok (m : MetD)
def meetD (m : MetD) (s : Txt) : Option MetD := if s ∉ m.met ∧ nameOK s = true then some ⟨m.met ++ [s], m.rules⟩ else none
def Went.err : Went → Int
  | .bad e => e
  | .ok _ => 0
def need (e : Int) (w : Went) : Went := if e = 0 then w else .bad e
def ruleW (m : MetD) (r : RuleD) : Went := match meetD m r.id with
  | none => .bad 1
  | some m => if m.rules + 1 > 64 then .bad 6 else need (tgtE r.tgt) (need (exprE r.cond) (need (oblsE r.obls) (.ok ⟨m.met, m.rules + 1⟩)))
def rulesW (m : MetD) : List RuleD → Went
  | [] => .ok m
  | r :: l => match ruleW m r with
    | .bad e => .bad e
    | .ok m => rulesW m l
def headW (m : MetD) (id : Txt) (set : Bool) (alg : Int) (tgt : TgtD) (nr nk : Nat) (obls : List OblD) : Went := match meetD m id with
  | none => .bad 1
  | some m => if alg < 1 ∨ alg > 6 then .bad 1
    else if set = true ∧ nr > 0 ∨ set = false ∧ (nk > 0 ∨ alg = 4) then .bad 1
    else need (tgtE tgt) (need (oblsE obls) (if nr > 16 ∨ nk > 16 then .bad 6 else .ok m))
mutual
def polW (m : MetD) (d : Nat) : PolD → Went
  | .mk id set alg tgt rules kids obls =>
    if d > 4 then .bad 6 else match headW m id set alg tgt rules.length kids.length obls with
    | .bad e => .bad e
    | .ok m => match rulesW m rules with
      | .bad e => .bad e
      | .ok m => kidsW m (d + 1) kids
def kidsW (m : MetD) (d : Nat) : List PolD → Went
  | [] => .ok m
  | k :: r => match polW m d k with
    | .bad e => .bad e
    | .ok m => kidsW m d r
end
def rightE (p : PolD) : Int := (polW ⟨[], 0⟩ 1 p).err
def hexD (n : Nat) : UInt8 := if n < 10 then UInt8.ofNat (48 + n) else UInt8.ofNat (87 + n)
def oddB (c : UInt8) : Bool := decide ((c.toNat : Int) < 32) || decide (126 < (c.toNat : Int)) || (c.toNat : Int) == 34 || (c.toNat : Int) == 92
def quoteB (c : UInt8) : Txt := if oddB c then [92, hexD (c.toNat / 16), hexD (c.toNat % 16)] else [c]
def quoteT (l : Txt) : Txt := [34] ++ (l.map quoteB).flatten ++ [34]
def valT (v : ValD) : Txt :=
  if v.kind = 1 then Lib.formatBool (v.n == 1) else if v.kind = 4 then [64] ++ Lib.itoa v.n else if v.kind = 5 then [35] ++ v.s else if v.kind = 3 then quoteT v.s else Lib.itoa v.n
end Go.Bf

set_option linter.unusedSimpArgs false
set_option linter.unusedVariables false
namespace Go.Bf
open Go Go.Ab
theorem zipIdx_take_succ {α : Type} (l : List α) (i : Nat) (h : i < l.length) : (l.take (i + 1)).zipIdx = (l.take i).zipIdx ++ [(l[i], i)] := by
  rw [List.take_succ_eq_append_getElem h, List.zipIdx_append]
  simp [Nat.min_eq_left (Nat.le_of_lt h)]
theorem chsOK_succ (l : Txt) (i : Nat) (h : i < l.length) : chsOK (l.take (i + 1)) = (chsOK (l.take i) && chOK l[i] i) := by
  simp [chsOK, zipIdx_take_succ l i h]
theorem chsOK_bad (l : Txt) (i : Nat) (h : i < l.length) (hb : chOK l[i] i = false) : chsOK l = false := by
  rw [chsOK, List.all_eq_false]
  exact ⟨(l[i], i), by rw [List.mk_mem_zipIdx_iff_getElem?]; exact List.getElem?_eq_getElem h, by simp [hb]⟩
theorem chCases (c : UInt8) :
    (decide (97 ≤ (c.toNat : Int)) = true ∧ decide ((c.toNat : Int) ≤ 122) = true ∧ decide (48 ≤ (c.toNat : Int)) = true ∧ decide ((c.toNat : Int) ≤ 57) = false ∧ ((c.toNat : Int) == 95) = false) ∨
    (decide (97 ≤ (c.toNat : Int)) = false ∧ decide ((c.toNat : Int) ≤ 122) = true ∧ decide (48 ≤ (c.toNat : Int)) = true ∧ decide ((c.toNat : Int) ≤ 57) = true ∧ ((c.toNat : Int) == 95) = false) ∨
    (decide (97 ≤ (c.toNat : Int)) = false ∧ decide ((c.toNat : Int) ≤ 122) = true ∧ decide (48 ≤ (c.toNat : Int)) = true ∧ decide ((c.toNat : Int) ≤ 57) = false ∧ ((c.toNat : Int) == 95) = true) ∨
    (decide (97 ≤ (c.toNat : Int)) = false ∧ decide ((c.toNat : Int) ≤ 122) = true ∧ decide (48 ≤ (c.toNat : Int)) = false ∧ decide ((c.toNat : Int) ≤ 57) = true ∧ ((c.toNat : Int) == 95) = false) ∨
    (decide (97 ≤ (c.toNat : Int)) = false ∧ decide ((c.toNat : Int) ≤ 122) = true ∧ decide (48 ≤ (c.toNat : Int)) = true ∧ decide ((c.toNat : Int) ≤ 57) = false ∧ ((c.toNat : Int) == 95) = false) ∨
    (decide (97 ≤ (c.toNat : Int)) = true ∧ decide ((c.toNat : Int) ≤ 122) = false ∧ decide (48 ≤ (c.toNat : Int)) = true ∧ decide ((c.toNat : Int) ≤ 57) = false ∧ ((c.toNat : Int) == 95) = false) := by
  simp only [decide_eq_true_eq, decide_eq_false_iff_not, beq_iff_eq, beq_eq_false_iff_ne, ne_eq]
  omega
theorem firstE_take {α : Type} {f : α → Int} {l : List α} {i : Nat} (h : i < l.length) (h0 : firstE f (l.take i) = 0) (h1 : f l[i] = 0) : firstE f (l.take (i + 1)) = 0 := by
  rw [List.take_succ_eq_append_getElem h]
  generalize l.take i = a at h0
  induction a with
  | nil => simp [firstE, h1]
  | cons x r ih =>
    simp only [firstE] at h0
    split at h0
    · rename_i hx
      simp only [List.cons_append, firstE, hx, if_true]
      exact ih h0
    · rename_i hx; exact (hx h0).elim
theorem firstE_at {α : Type} {f : α → Int} {l : List α} {i : Nat} (h : i < l.length) (h0 : firstE f (l.take i) = 0) (h1 : f l[i] ≠ 0) : firstE f l = f l[i] := by
  induction l generalizing i with
  | nil => cases h
  | cons x r ih =>
    cases i with
    | zero => simp only [List.getElem_cons_zero] at h1 ⊢; simp [firstE, h1]
    | succ i =>
      simp only [List.take_succ_cons, firstE] at h0
      split at h0
      · rename_i hx
        simp only [firstE, hx, if_true, List.getElem_cons_succ]
        exact ih (by simpa using h) h0 (by simpa using h1)
      · rename_i hx; exact (hx h0).elim
theorem need_bad {e x : Int} {w : Went} (h : need e w = .bad x) (hw : w = .bad x → x ≠ 0) : x ≠ 0 := by
  unfold need at h
  split at h
  · exact hw h
  · cases h; assumption
theorem ruleW_bad {m : MetD} {r : RuleD} {e : Int} (h : ruleW m r = .bad e) : e ≠ 0 := by
  unfold ruleW at h
  split at h
  · cases h; decide
  · split at h
    · cases h; decide
    · exact need_bad h fun h => need_bad h fun h => need_bad h fun h => by cases h
theorem headW_bad {m : MetD} {id : Txt} {set : Bool} {alg : Int} {tgt : TgtD} {nr nk : Nat} {obls : List OblD} {e : Int} (h : headW m id set alg tgt nr nk obls = .bad e) : e ≠ 0 := by
  unfold headW at h
  split at h
  · cases h; decide
  · split at h
    · cases h; decide
    · split at h
      · cases h; decide
      · exact need_bad h fun h => need_bad h fun h => by
          split at h
          · cases h; decide
          · cases h
theorem rulesW_split (m : MetD) : ∀ (l : List RuleD) (i : Nat), rulesW m l = (match rulesW m (l.take i) with
    | .bad e => .bad e
    | .ok m1 => rulesW m1 (l.drop i))
  | [], i => by simp [rulesW]
  | r :: l, 0 => by simp [rulesW]
  | r :: l, i + 1 => by
    simp only [List.take_succ_cons, List.drop_succ_cons, rulesW]
    cases ruleW m r with
    | bad e => rfl
    | ok m1 => simp only; exact rulesW_split m1 l i
theorem rulesW_next {m m1 : MetD} {l : List RuleD} {i : Nat} (hi : i < l.length) (h : rulesW m (l.take i) = .ok m1) : rulesW m (l.take (i + 1)) = ruleW m1 l[i] := by
  rw [rulesW_split m _ i, List.take_take, Nat.min_eq_left (by omega), h, List.take_succ_eq_append_getElem hi, List.drop_append_of_le_length (by simp; omega), List.drop_of_length_le (by simp; omega)]
  simp only [List.nil_append, rulesW]
  cases ruleW m1 l[i] <;> rfl
theorem rulesW_stop {m m1 : MetD} {l : List RuleD} {i : Nat} {e : Int} (hi : i < l.length) (h : rulesW m (l.take i) = .ok m1) (hr : ruleW m1 l[i] = .bad e) : rulesW m l = .bad e := by
  rw [rulesW_split m l (i + 1), rulesW_next hi h, hr]
theorem kidsW_split (m : MetD) (d : Nat) : ∀ (l : List PolD) (i : Nat), kidsW m d l = (match kidsW m d (l.take i) with
    | .bad e => .bad e
    | .ok m1 => kidsW m1 d (l.drop i))
  | [], i => by simp [kidsW]
  | r :: l, 0 => by simp [kidsW]
  | r :: l, i + 1 => by
    simp only [List.take_succ_cons, List.drop_succ_cons, kidsW]
    cases polW m d r with
    | bad e => rfl
    | ok m1 => simp only; exact kidsW_split m1 d l i
theorem kidsW_next {m m1 : MetD} {d : Nat} {l : List PolD} {i : Nat} (hi : i < l.length) (h : kidsW m d (l.take i) = .ok m1) : kidsW m d (l.take (i + 1)) = polW m1 d l[i] := by
  rw [kidsW_split m d _ i, List.take_take, Nat.min_eq_left (by omega), h, List.take_succ_eq_append_getElem hi, List.drop_append_of_le_length (by simp; omega), List.drop_of_length_le (by simp; omega)]
  simp only [List.nil_append, kidsW]
  cases polW m1 d l[i] <;> rfl
theorem kidsW_stop {m m1 : MetD} {d : Nat} {l : List PolD} {i : Nat} {e : Int} (hi : i < l.length) (h : kidsW m d (l.take i) = .ok m1) (hr : polW m1 d l[i] = .bad e) : kidsW m d l = .bad e := by
  rw [kidsW_split m d l (i + 1), kidsW_next hi h, hr]
end Go.Bf

set_option linter.unusedSimpArgs false
set_option linter.unusedVariables false
namespace Go.Bf
open Go Go.Ab
theorem oblsE_zero {l : List OblD} (h : oblsE l = 0) : l.length ≤ 8 ∧ ∀ o ∈ l, oblOK o = true := by
  unfold oblsE at h
  split at h
  · cases h
  · rename_i h8
    split at h
    · rename_i ha; exact ⟨by omega, fun o ho => List.all_eq_true.1 ha o ho⟩
    · cases h
theorem manyE_zero {n : Nat} (h : manyE n = 0) : 0 < n ∧ n ≤ 8 := by
  unfold manyE at h
  split at h
  · cases h
  · split at h
    · cases h
    · omega
theorem firstE_zero {α : Type} {f : α → Int} {l : List α} (h : firstE f l = 0) : ∀ x ∈ l, f x = 0 := by
  induction l with
  | nil => intro x hx; cases hx
  | cons y r ih =>
    simp only [firstE] at h
    split at h
    · rename_i hy
      intro x hx
      rcases List.mem_cons.1 hx with rfl | hx
      · exact hy
      · exact ih h x hx
    · rename_i hy; exact (hy h).elim
theorem allE_zero {l : List MatchD} (h : allE l = 0) : 0 < l.length ∧ l.length ≤ 8 ∧ ∀ m ∈ l, matchOK m = true := by
  unfold allE at h
  split at h
  · rename_i hm
    have := manyE_zero hm
    split at h
    · rename_i ha; exact ⟨this.1, this.2, fun o ho => List.all_eq_true.1 ha o ho⟩
    · cases h
  · rename_i hm; exact (hm h).elim
theorem anyE_zero {l : List (List MatchD)} (h : anyE l = 0) : 0 < l.length ∧ l.length ≤ 8 ∧ ∀ m ∈ l, allE m = 0 := by
  unfold anyE at h
  split at h
  · rename_i hm
    have := manyE_zero hm
    exact ⟨this.1, this.2, firstE_zero h⟩
  · rename_i hm; exact (hm h).elim
theorem tgtE_zero {l : TgtD} (h : tgtE l = 0) : l.length ≤ 8 ∧ ∀ m ∈ l, anyE m = 0 := by
  unfold tgtE at h
  split at h
  · cases h
  · exact ⟨by omega, firstE_zero h⟩
end Go.Bf

set_option linter.unusedSimpArgs false
set_option linter.unusedVariables false
namespace Go.Bf
open Go Go.Ab
def inV (v : ValD) : Prop := -9223372036854775808 ≤ v.n ∧ v.n ≤ 9223372036854775807
def inA (l : List MatchD) : Prop := ∀ m ∈ l, inV m.val
def inY (l : List (List MatchD)) : Prop := ∀ a ∈ l, inA a
def inT (t : TgtD) : Prop := ∀ a ∈ t, inY a
def inL (l : List NodeD) : Prop := ∀ n ∈ l, inV n.val
def inR (r : RuleD) : Prop := inT r.tgt ∧ inL r.cond
mutual
def inP : PolD → Prop
  | .mk id set alg tgt rules kids obls => inT tgt ∧ (∀ r ∈ rules, inR r) ∧ inK kids
def inK : List PolD → Prop
  | [] => True
  | k :: r => inP k ∧ inK r
end
theorem inK_eq : ∀ l : List PolD, inK l ↔ ∀ k ∈ l, inP k
  | [] => by simp [inK]
  | k :: r => by simp [inK, inK_eq r]
theorem exprE_zero {l : List NodeD} (h : exprE l = 0) (hn : l ≠ []) : l.length ≤ 32 ∧ stepsD [] l = some [false] := by
  unfold exprE at h
  split at h
  · cases h
  · split at h
    · cases h
    · rename_i st hst
      split at h
      · rename_i hx
        rcases hx with hx | hx
        · exact (hn hx).elim
        · subst hx; exact ⟨by omega, hst⟩
      · cases h
def ruleE (r : RuleD) : Prop := nameOK r.id = true ∧ tgtE r.tgt = 0 ∧ exprE r.cond = 0 ∧ oblsE r.obls = 0
mutual
def polE (d : Nat) : PolD → Prop
  | .mk id set alg tgt rules kids obls => d ≤ 4 ∧ nameOK id = true ∧ 1 ≤ alg ∧ alg ≤ 6 ∧ (set = true → rules = []) ∧ (set = false → kids = [] ∧ alg ≠ 4) ∧ tgtE tgt = 0 ∧ oblsE obls = 0 ∧ rules.length ≤ 16 ∧ kids.length ≤ 16 ∧ (∀ r ∈ rules, ruleE r) ∧ kidsE (d + 1) kids
def kidsE (d : Nat) : List PolD → Prop
  | [] => True
  | k :: r => polE d k ∧ kidsE d r
end
theorem kidsE_eq (d : Nat) : ∀ l : List PolD, kidsE d l ↔ ∀ k ∈ l, polE d k
  | [] => by simp [kidsE]
  | k :: r => by simp [kidsE, kidsE_eq d r]
theorem meetD_name {m m' : MetD} {s : Txt} (h : meetD m s = some m') : nameOK s = true := by
  unfold meetD at h
  split at h
  · rename_i hc; exact hc.2
  · cases h
theorem need_ok' {e : Int} {w : Went} {m : MetD} (h : need e w = .ok m) : e = 0 ∧ w = .ok m := by
  unfold need at h
  split at h
  · exact ⟨by assumption, h⟩
  · cases h
theorem ruleW_ok {m m' : MetD} {r : RuleD} (h : ruleW m r = .ok m') : ruleE r := by
  unfold ruleW at h
  split at h
  · cases h
  · rename_i m1 hm
    split at h
    · cases h
    · obtain ⟨h1, h⟩ := need_ok' h
      obtain ⟨h2, h⟩ := need_ok' h
      obtain ⟨h3, h⟩ := need_ok' h
      exact ⟨meetD_name hm, h1, h2, h3⟩
theorem rulesW_ok : ∀ (l : List RuleD) (m m' : MetD), rulesW m l = .ok m' → ∀ r ∈ l, ruleE r
  | [], _, _, _, r, hr => by cases hr
  | x :: l, m, m', h, r, hr => by
    simp only [rulesW] at h
    cases hx : ruleW m x with
    | bad e => rw [hx] at h; cases h
    | ok m1 =>
      rw [hx] at h
      rcases List.mem_cons.1 hr with rfl | hr
      · exact ruleW_ok hx
      · exact rulesW_ok l m1 m' h r hr
theorem headW_ok' {m m1 : MetD} {id : Txt} {set : Bool} {alg : Int} {tgt : TgtD} {nr nk : Nat} {obls : List OblD} (h : headW m id set alg tgt nr nk obls = .ok m1) :
    meetD m id = some m1 ∧ 1 ≤ alg ∧ alg ≤ 6 ∧ (set = true → nr = 0) ∧ (set = false → nk = 0 ∧ alg ≠ 4) ∧ tgtE tgt = 0 ∧ oblsE obls = 0 ∧ nr ≤ 16 ∧ nk ≤ 16 := by
  unfold headW at h
  split at h
  · cases h
  rename_i m2 hm
  split at h
  · cases h
  split at h
  · cases h
  rename_i h1 h2
  obtain ⟨h3, h⟩ := need_ok' h
  obtain ⟨h4, h⟩ := need_ok' h
  split at h
  · cases h
  cases h
  have h5 : (set = true → nr = 0) ∧ (set = false → nk = 0 ∧ alg ≠ 4) := by
    cases set <;> simp at h2 ⊢ <;> omega
  exact ⟨hm, by omega, by omega, h5.1, h5.2, h3, h4, by omega, by omega⟩
mutual
theorem polW_ok : ∀ (p : PolD) (d : Nat) (m m' : MetD), polW m d p = .ok m' → polE d p
  | .mk id set alg tgt rules kids obls, d, m, m', h => by
    simp only [polW] at h
    split at h
    · cases h
    rename_i hd
    split at h
    · cases h
    rename_i m1 h1
    split at h
    · cases h
    rename_i m2 h2
    obtain ⟨g1, g2, g3, g4, g5, g6, g7, g8, g9⟩ := headW_ok' h1
    simp only [polE]
    exact ⟨by omega, meetD_name g1, g2, g3, fun e => List.length_eq_zero_iff.1 (g4 e), fun e => ⟨List.length_eq_zero_iff.1 (g5 e).1, (g5 e).2⟩, g6, g7, g8, g9, rulesW_ok _ _ _ h2, kidsW_ok kids (d + 1) m2 m' h⟩
theorem kidsW_ok : ∀ (l : List PolD) (d : Nat) (m m' : MetD), kidsW m d l = .ok m' → kidsE d l
  | [], _, _, _, _ => by simp [kidsE]
  | k :: r, d, m, m', h => by
    simp only [kidsW] at h
    split at h
    · cases h
    rename_i m1 h1
    simp only [kidsE]
    exact ⟨polW_ok k d m m1 h1, kidsW_ok r d m1 m' h⟩
end
end Go.Bf

set_option linter.unusedSimpArgs false
set_option linter.unusedVariables false
namespace Go.Ab
open Go
def hm2 (i : Nat) (a : Blk) (j : Nat) (b : Blk) : Heap := upd (hm1 i a) j (some b)
theorem Sub.hm2 {h : Heap} {i j : Nat} {a b : Blk} (h1 : h i = some a) (h2 : h j = some b) : Sub (hm2 i a j b) h := fun k c hk => by
  unfold Ab.hm2 at hk
  by_cases e : k = j
  · subst e; rw [upd_same] at hk; cases hk; exact h2
  · rw [upd_other _ _ e] at hk; exact Sub.hm1 h1 k c hk
theorem hm2_snd (i : Nat) (a : Blk) (j : Nat) (b : Blk) : hm2 i a j b j = some b := upd_same ..
theorem hm2_fst {i : Nat} (a : Blk) {j : Nat} (b : Blk) (h : i ≠ j) : hm2 i a j b i = some a := by
  unfold hm2; rw [upd_other _ _ h]; exact hm1_same i a
theorem ne_upd {h : Heap} {i j : Nat} {b : Blk} (e : upd h i (some b) j = none) : j ≠ i := fun hh => by
  subst hh; rw [upd_same] at e; cases e
theorem Sub.put {h g : Heap} (hs : Sub h g) {i : Nat} (hi : h i = Option.none) (x : Option Blk) : Sub h (Ab.upd g i x) := fun k c hk => by
  by_cases e : k = i
  · subst e; rw [hi] at hk; cases hk
  · rw [upd_other _ _ e]; exact hs k c hk
theorem Sub.both {h g : Heap} (hs : Sub h g) (i : Nat) (x : Option Blk) : Sub (Ab.upd h i x) (Ab.upd g i x) := fun k c hk => by
  by_cases e : k = i
  · subst e; rw [upd_same] at hk ⊢; exact hk
  · rw [upd_other _ _ e] at hk ⊢; exact hs k c hk
theorem Acc.put {U : TypeId → TI} {e : TypeId} {h h' : Heap} {y : AV} {xs : List AV} (ha : Acc U e h h' y xs) {id : Nat} (hid : h id = Option.none) {cs : List AV} {t : TypeId} (hob : h' id = some (.obj cs t)) (x : Option Blk) : Acc U e h (Ab.upd h' id x) y xs := by
  obtain ⟨h1, rfl | ⟨k, i1, rfl, i2⟩⟩ := ha
  · exact ⟨h1.put hid x, .inl rfl⟩
  · refine ⟨h1.put hid x, .inr ⟨k, i1, rfl, ?_⟩⟩
    rw [upd_other _ _ fun e => ?_]
    · exact i2
    · subst e; rw [hob] at i2; cases i2
theorem base_start (G : Heap) (id : Nat) (x : Option Blk) : Sub (upd G id Option.none) (upd G id x) := fun k c hk => by
  by_cases e : k = id
  · subst e; rw [upd_same] at hk; cases hk
  · rw [upd_other _ _ e] at hk ⊢; exact hk
theorem base_end {G H : Heap} {id : Nat} {b : Blk} (hs : Sub (upd G id Option.none) H) (hb : H id = some b) : Sub (upd G id (some b)) H := fun k c hk => by
  by_cases e : k = id
  · subst e; rw [upd_same] at hk; cases hk; exact hb
  · rw [upd_other _ _ e] at hk; exact hs k c (by rw [upd_other _ _ e]; exact hk)
theorem weak_tup3 (xs : List AV) (q : Perm) (a b : AV) : Weak (.tup [.sl xs q, a, b]) (.tup [.sl xs .no, a, b]) := .tup _ _ rfl fun i h1 h2 => by
  rcases i with _ | _ | _ | i
  · exact .sl _ _
  · exact .refl _
  · exact .refl _
  · simp at h1; omega
theorem WP.scope2 {P : Program} {U : TypeId → TI} {n : Nat} (hU : ∀ t, AgreeT P U t) (hm : P.follows .mixedOrders = true) {c rest : Code} {ρ : Env} {h : Heap} {K : Exit → Env → Heap → Prop} (l : Nat) (J : Nat → Env → Heap → Prop) (hf : findLabel c l = some (.seq .skip rest))
    (pass : ∀ m ρ h, J m ρ h → WP P n rest ρ h (KJump l (fun ρ' h' => ∃ m', m' < m ∧ J m' ρ' h') K))
    (first : (∀ m ρ h, J m ρ h → WP P n rest ρ h (KJump l (fun ρ h => ∃ m, J m ρ h) K)) → WP P n c ρ h (KJump l (fun ρ h => ∃ m, J m ρ h) K)) : WP P n (.scope c) ρ h K :=
  WP.scope l J hf (first fun m ρ h hJ => (pass m ρ h hJ).weaken fun e ρ h hk => by
    cases e with
    | goto l' => obtain ⟨h1, m', _, h2⟩ := hk; exact ⟨h1, m', h2⟩
    | _ => exact hk) fun m ρ h hJ => WP.seq (vcCode_sound hU hm .skip ρ h _ (pass m ρ h hJ))
end Go.Ab

namespace Go.Ab
attribute [go_sem] Int.natCast_zero Int.ofNat_zero Int.natCast_one Int.cast_ofNat_Int bne_self_eq_false beq_self_eq_true Bool.not_true Bool.not_false
attribute [go_sem] Nat.reduceLT Nat.reduceEqDiff Nat.reduceAdd Nat.reduceLeDiff Nat.reduceMul Nat.reduceSub Int.reduceBEq Int.reduceBNe
attribute [go_sem ↓] reduceIte
end Go.Ab

set_option linter.unusedSimpArgs false
set_option linter.unusedVariables false
namespace Go.Ab
open Go
inductive Av (F : Nat → Prop) : AV → Prop where
  | v (x : Value) : Av F (.v x)
  | s (l : List UInt8) : Av F (.s l)
  | agg (xs : List AV) (h : ∀ x ∈ xs, Av F x) : Av F (.agg xs)
  | tup (xs : List AV) (h : ∀ x ∈ xs, Av F x) : Av F (.tup xs)
  | sl (xs : List AV) (p : Perm) (h : ∀ x ∈ xs, Av F x) (hp : ∀ id, p = .own id → ¬ F id) : Av F (.sl xs p)
  | pe (x : AV) (o : Nat) (h : Av F x) : Av F (.pe x o)
  | ptr (id o : Nat) (h : ¬ F id) : Av F (.ptr id o)
  | oa (id o l : Nat) (h : ¬ F id) : Av F (.oa id o l)
  | ob (id o l c z : Nat) (h : ¬ F id) : Av F (.ob id o l c z)
  | ifc (t : TypeId) (x : AV) (h : Av F x) : Av F (.ifc t x)
  | fn (f : FuncId) (xs : List AV) (h : ∀ x ∈ xs, Av F x) : Av F (.fn f xs)
  | mp (id : Nat) (h : ¬ F id) : Av F (.mp id)
theorem Av.cells {F : Nat → Prop} {x : AV} (h : Av F x) : ∀ y ∈ x.cells, Av F y := by
  cases h with
  | agg xs hx => exact hx
  | _ => intro y hy; rw [List.mem_singleton.1 hy]; constructor <;> assumption
theorem Av.of_cells {F : Nat → Prop} {x : AV} (h : ∀ y ∈ x.cells, Av F y) : Av F x := by
  cases x with
  | agg xs => exact .agg xs h
  | _ => exact h _ (List.mem_singleton.2 rfl)
theorem Rep.av {c : Cx} {F : Nat → Prop} (hF : ∀ id, F id → c.h id = none) {x : AV} {u : Value} (h : Rep c x u) : Av F x := by
  have nf : ∀ {id : Nat} {k : Blk}, c.h id = some k → ¬ F id := fun hk hf => by rw [hF _ hf] at hk; cases hk
  induction h with
  | v x => exact .v x
  | s l hl => exact .s l
  | agg xs vs hn hr ho ih => exact .agg xs fun x hx => by obtain ⟨i, hi, rfl⟩ := List.mem_iff_getElem.1 hx; exact ih i hi
  | tup xs vs hn hr ih => exact .tup xs fun x hx => by obtain ⟨i, hi, rfl⟩ := List.mem_iff_getElem.1 hx; exact ih i hi
  | sl xs p a cap sz val hc hm h0 hs hz hf hr ho hp ih =>
    refine .sl xs p (fun x hx => ?_) fun id e => ?_
    · obtain ⟨i, hi, rfl⟩ := List.mem_iff_getElem.1 hx
      refine .of_cells fun y hy => ?_
      obtain ⟨j, hj, rfl⟩ := List.mem_iff_getElem.1 hy
      exact ih i hi j hj
    · subst e
      obtain ⟨m, h1, _⟩ := hp
      exact nf h1
  | pe x off b o val hb hf hr ho ih =>
    refine .pe x off (.of_cells fun y hy => ?_)
    obtain ⟨j, hj, rfl⟩ := List.mem_iff_getElem.1 hy
    exact ih j hj
  | ptr id off cs t h => exact .ptr _ _ (nf h)
  | oa id off len cap o cs t h hc hm ho => exact .oa _ _ _ (nf h)
  | ob id off len cap sz o cs t h hc hm ho => exact .ob _ _ _ _ _ (nf h)
  | ifc t x u h ih => exact .ifc t x ih
  | fn f xs vs hn hr ih => exact .fn f xs fun x hx => by obtain ⟨i, hi, rfl⟩ := List.mem_iff_getElem.1 hx; exact ih i hi
  | mp id m h => exact .mp _ (nf h)
noncomputable def Cx.back (c' : Cx) (g : Heap) : Cx := { c' with h := fun id => if g id = none then none else c'.h id }
theorem back_some {c' : Cx} {g : Heap} {id : Nat} {k : Blk} (h : (c'.back g).h id = some k) : g id ≠ none ∧ c'.h id = some k := by
  simp only [Cx.back] at h
  split at h
  · cases h
  · exact ⟨‹_›, h⟩
theorem back_at {c' : Cx} {g : Heap} {id : Nat} (h : g id ≠ none) : (c'.back g).h id = c'.h id := by
  simp only [Cx.back, h, if_false]
theorem back_owned {c' : Cx} {g : Heap} {b o : Nat} (h : owned (c'.back g) b o) : owned c' b o := by
  obtain ⟨id, k, h1, h2, h3⟩ := h
  exact ⟨id, k, (back_some h1).2, h2, h3⟩
theorem back_fix {c' : Cx} {g : Heap} {b o : Nat} {u : Value} (h : fix c' b o u) : fix (c'.back g) b o u := ⟨h.1, fun ho => h.2 (back_owned ho)⟩
theorem Rep.back {c' : Cx} {g : Heap} {x : AV} {u : Value} (h : Rep c' x u) (ha : Av (fun id => g id = none) x) : Rep (c'.back g) x u := by
  induction h with
  | v x => exact .v x
  | s l hl => exact .s l hl
  | agg xs vs hn hr ho ih => cases ha with | agg _ ha => exact .agg xs vs hn (fun i hi => ih i hi (ha _ (List.getElem_mem hi))) ho
  | tup xs vs hn hr ih => cases ha with | tup _ ha => exact .tup xs vs hn (fun i hi => ih i hi (ha _ (List.getElem_mem hi)))
  | sl xs p a cap sz val hc hm h0 hs hz hf hr ho hp ih =>
    cases ha with
    | sl _ _ ha hq =>
      refine .sl xs p a cap sz val hc hm h0 hs hz (fun q hq i j hi hj => back_fix (hf q hq i j hi hj)) (fun i hi j hj => ih i hi j hj ((ha _ (List.getElem_mem hi)).cells _ (List.getElem_mem hj))) ho ?_
      cases p with
      | no => trivial
      | full => exact hp
      | own id =>
        obtain ⟨m, h1, h2, h3⟩ := hp
        exact ⟨m, by rw [back_at (hq id rfl)]; exact h1, h2, h3⟩
  | pe x off b o val hb hf hr ho ih =>
    cases ha with
    | pe _ _ ha => exact .pe x off b o val hb (fun j hj => back_fix (hf j hj)) (fun j hj => ih j hj (ha.cells _ (List.getElem_mem hj))) ho
  | ptr id off cs t h => cases ha with | ptr _ _ ha => exact .ptr id off cs t (by rw [back_at ha]; exact h)
  | oa id off len cap o cs t h hc hm ho => cases ha with | oa _ _ _ ha => exact .oa id off len cap o cs t (by rw [back_at ha]; exact h) hc hm ho
  | ob id off len cap sz o cs t h hc hm ho => cases ha with | ob _ _ _ _ _ ha => exact .ob id off len cap sz o cs t (by rw [back_at ha]; exact h) hc hm ho
  | ifc t x u h ih => cases ha with | ifc _ _ ha => exact .ifc t x u (ih ha)
  | fn f xs vs hn hr ih => cases ha with | fn _ _ ha => exact .fn f xs vs hn (fun i hi => ih i hi (ha _ (List.getElem_mem hi)))
  | mp id m h => cases ha with | mp _ ha => exact .mp id m (by rw [back_at ha]; exact h)
inductive Frz (g h : Heap) : AV → AV → Prop where
  | keep (x : AV) (ha : Av (fun id => g id = none) x) : Frz g h x x
  | agg (xs ys : List AV) (hn : xs.length = ys.length) (hr : ∀ i (h1 : i < xs.length) (h2 : i < ys.length), Frz g h xs[i] ys[i]) : Frz g h (.agg xs) (.agg ys)
  | tup (xs ys : List AV) (hn : xs.length = ys.length) (hr : ∀ i (h1 : i < xs.length) (h2 : i < ys.length), Frz g h xs[i] ys[i]) : Frz g h (.tup xs) (.tup ys)
  | sl (xs ys : List AV) (p : Perm) (hn : xs.length = ys.length) (hz : ∀ i (h1 : i < xs.length) (h2 : i < ys.length), xs[i].cells.length = ys[i].cells.length)
      (hr : ∀ i (h1 : i < xs.length) (h2 : i < ys.length) j (h3 : j < xs[i].cells.length) (h4 : j < ys[i].cells.length), Frz g h xs[i].cells[j] ys[i].cells[j]) : Frz g h (.sl xs p) (.sl ys .no)
  | ob (id off len cap sz : Nat) (cs : List AV) (t : TypeId) (ys : List AV) (hg : g id = none) (hh : h id = some (.obj cs t)) (hl : off + len * sz ≤ cs.length) (hn : ys.length = len) (hz : ∀ i (h1 : i < ys.length), ys[i].cells.length = sz)
      (hr : ∀ i (h1 : i < ys.length) j (h3 : j < ys[i].cells.length) (h4 : off + (i * sz + j) < cs.length), Frz g h (cs[off + (i * sz + j)]) ys[i].cells[j]) : Frz g h (.ob id off len cap sz) (.sl ys .no)
  | ptr (id off : Nat) (cs : List AV) (t : TypeId) (ys : List AV) (hg : g id = none) (hh : h id = some (.obj cs t)) (hn : cs.length = ys.length) (hr : ∀ i (h1 : i < cs.length) (h2 : i < ys.length), Frz g h cs[i] ys[i]) : Frz g h (.ptr id off) (.pe (.agg ys) off)
  | ifc (t : TypeId) (x y : AV) (hr : Frz g h x y) : Frz g h (.ifc t x) (.ifc t y)
theorem Frz.rep {c' : Cx} {g h : Heap} (gd : Good c') (hh : Sub h c'.h) {x y : AV} (hz : Frz g h x y) : ∀ {u : Value}, Rep c' x u → Rep (c'.back g) y u := by
  have nown : ∀ {id : Nat} {k : Blk} {o : Nat}, g id = none → h id = some k → ¬ owned (c'.back g) (c'.φ id).block o := fun {id k o} h1 h2 ho => by
    obtain ⟨j, l, h3, h4, h5⟩ := ho
    obtain ⟨h6, h7⟩ := back_some h3
    exact gd.inj j id l k h7 (hh _ _ h2) (fun e => h6 (by rw [e]; exact h1)) h4
  induction hz with
  | keep x ha => exact fun hr => hr.back ha
  | agg xs ys hn hr ih =>
    intro u hu
    obtain ⟨vs, rfl, h1, h2, h3⟩ := hu.agg_inv
    exact .agg ys vs (by omega) (fun i hi => ih i (by omega) hi (h2 i (by omega))) fun i hi => h3 i (by omega)
  | tup xs ys hn hr ih =>
    intro u hu
    obtain ⟨vs, rfl, h1, h2⟩ := hu.tup_inv
    exact .tup ys vs (by omega) (fun i hi => ih i (by omega) hi (h2 i (by omega)))
  | sl xs ys p hn hz hr ih =>
    intro u hu
    obtain ⟨a, cap, sz, val, rfl, hs⟩ := hu.sl_inv
    rw [hn]
    have hcap := hs.hc
    refine .sl ys .no a cap sz val (by omega) hs.hm hs.h0 hs.hs (fun i hi => by rw [← hz i (by omega) hi]; exact hs.hz i (by omega)) (fun q hq i j hi hj => back_fix (hs.hf q hq i j (by omega) hj)) (fun i hi j hj => ?_) (fun i j hi hj => hs.ho i j (by omega) hj) trivial
    exact ih i (by omega) hi j (by rw [hz i (by omega) hi]; exact hj) hj (hs.hr i (by omega) j (by rw [hz i (by omega) hi]; exact hj))
  | ob id off len cap sz cs t ys hg hid hl hn hz hr ih =>
    intro u hu
    obtain ⟨o, rfl, h1, h2, cs', t', h3, h4⟩ := hu.ob_inv
    have hcid := hh _ _ hid
    rw [hcid] at h3
    cases h3
    obtain ⟨vs, v1, v2, v3⟩ := gd.obj id cs t hcid
    subst hn
    have hbd : ∀ i j, i < ys.length → j < sz → i * sz + j < ys.length * sz := fun i j hi hj => by
      have : (i + 1) * sz ≤ ys.length * sz := Nat.mul_le_mul_right _ (by omega)
      rw [Nat.add_mul, Nat.one_mul] at this
      omega
    refine .sl ys .no _ cap sz (fun i j => vs.getD (off + (i * sz + j)) undef) h1 h2 (fun e => by cases e) (fun q hq _ => ?_) hz (fun q hq i j hi hj => ?_) (fun i hi j hj => ?_) (fun i j hi hj => (v3 _ (by have := hbd i j hi hj; omega)).2) trivial
    · cases hq
      exact ⟨rfl, gd.lt hcid⟩
    · cases hq
      obtain ⟨rfl, _⟩ := h4 (by omega)
      have hb := hbd i j hi hj
      refine ⟨?_, nown hg hid⟩
      have : o + (i * sz + j) < vs.size := by omega
      simp [World.cell?, Cx.back, v1, this]
    · have hj' : j < sz := by rw [← hz i hi]; exact hj
      have hb := hbd i j hi hj'
      exact ih i hi j hj (by omega) (v3 _ (by omega)).1
  | ptr id off cs t ys hg hid hn hr ih =>
    intro u hu
    obtain ⟨rfl, _⟩ := hu.ptr_inv
    have hcid := hh _ _ hid
    obtain ⟨vs, v1, v2, v3⟩ := gd.obj id cs t hcid
    have := Rep.pe (c := c'.back g) (.agg ys) off (c'.φ id).block 0 (fun j => vs.getD j undef) (gd.lt hcid) (fun j hj => by
        have hj' : j < ys.length := hj
        refine ⟨?_, nown hg hid⟩
        have : j < vs.size := by omega
        simp [World.cell?, Cx.back, v1, this]) (fun j hj => by
        have hj' : j < ys.length := hj
        exact ih j (by omega) hj' (v3 j (by omega)).1) (fun j hj => by
        have hj' : j < ys.length := hj
        exact (v3 j (by omega)).2)
    rw [Nat.zero_add] at this
    exact this
  | ifc t x y hr ih =>
    intro u hu
    cases hu with
    | ifc _ _ u' h => exact .ifc t y _ (ih h)
theorem FnOK.freeze {P : Program} {f : FuncId} {args : List AV} {h : Heap} {Q : AV → Prop}
    (hf : ∀ g, Sub h g → (∀ x ∈ args, Av (fun id => g id = none) x) → FnOK P f args g fun r h' => Sub g h' ∧ ∃ y, Frz g h' r y ∧ Q y) : FnOK P f args h fun r h' => Q r ∧ h' = h := by
  intro c vs hs gd h1 h2
  have hav : ∀ x ∈ args, Av (fun id => c.h id = none) x := fun x hx => by
    obtain ⟨i, hi, rfl⟩ := List.mem_iff_getElem.1 hx
    exact (h2 i hi).av fun _ e => e
  refine (hf c.h hs hav c vs (.refl _) gd h1 h2).mono ?_
  rintro u w' ⟨c', x, h', rfl, gd', hE, hr, hsub, hgh, y, hz, hq⟩
  have hkeep : ∀ id k, c.h id = some k → c'.h id = some k := fun id k hk => hsub _ _ (hgh _ _ hk)
  have hE2 : Ext c (c'.back c.h) := {
    os := hE.os, tape := hE.tape, output := hE.output, size := hE.size, block := hE.block, cell := hE.cell, shape := hE.shape
    steal := fun b o hb ho => hE.steal b o hb (back_owned ho)
    obj := fun id cs t hi => by rw [back_at (by rw [hi]; simp)]; exact hE.obj id cs t hi
    spare := fun id n sz hi => by rw [back_at (by rw [hi]; simp)]; exact hE.spare id n sz hi
    mp := fun id m hi => by rw [back_at (by rw [hi]; simp)]; exact hE.mp id m hi
    ro := fun id b vs hi => by rw [back_at (by rw [hi]; simp)]; exact hE.ro id b vs hi }
  have hold : ∀ id k, (c'.back c.h).h id = some k → c.h id = some k ∧ c'.h id = some k := fun id k hk => by
    obtain ⟨a1, a2⟩ := back_some hk
    cases hc : c.h id with
    | none => exact (a1 hc).elim
    | some k' => rw [hkeep id k' hc] at a2; cases a2; exact ⟨rfl, hkeep id _ hc⟩
  refine ⟨c'.back c.h, y, h, rfl, ?_, hE2, hz.rep gd' hsub hr, fun id k hk => ?_, hq, rfl⟩
  · refine ⟨?_, fun i j k l hi hj hne => gd'.inj i j k l (hold i k hi).2 (hold j l hj).2 hne, fun id cs t hi => ?_, fun id n sz hi => gd'.spare id n sz (hold id _ hi).2, fun id m hi => ?_, fun id m hi => gd'.keys id m (hold id _ hi).2, fun id b vs hi => gd'.ro id b vs (hold id _ hi).2⟩
    · obtain ⟨N, hN⟩ := gd'.fin
      exact ⟨N, fun id hid => by simp only [Cx.back]; split; rfl; exact hN id hid⟩
    · obtain ⟨vs, v1, v2, v3⟩ := gd'.obj id cs t (hold id _ hi).2
      obtain ⟨vs0, w1, w2, w3⟩ := gd.obj id cs t (hold id _ hi).1
      exact ⟨vs, v1, v2, fun j hj => ⟨(v3 j hj).1.back ((w3 j hj).1.av fun _ e => e), (v3 j hj).2⟩⟩
    · obtain ⟨es, cl, v1, v2, v3⟩ := gd'.mp id m (hold id _ hi).2
      obtain ⟨es0, cl0, w1, w2, w3⟩ := gd.mp id m (hold id _ hi).1
      exact ⟨es, cl, v1, v2, fun i hi' hi2 => ⟨(v3 i hi' hi2).1, (v3 i hi' hi2).2.back ((w3 i hi' (by omega)).2.av fun _ e => e)⟩⟩
  · rw [back_at (by rw [hs _ _ hk]; simp)]
    exact hkeep id k (hs _ _ hk)
end Go.Ab

set_option linter.unusedSimpArgs false
set_option linter.unusedVariables false
namespace Go.Ab
open Go
section
variable {P : Program} {U : TypeId → TI} {ρ : Env} {h h' : Heap} {sz : Nat} {y : AV} {xs : List AV} {e : TypeId}
def Rd (h : Heap) (sz : Nat) (y : AV) (xs : List AV) : Prop :=
  Sized sz xs ∧ ((∃ q, y = .sl xs q) ∨ ∃ id off cap cs t, y = .ob id off xs.length cap sz ∧ h id = some (.obj cs t) ∧ off + xs.length * sz ≤ cs.length ∧ (cs.drop off).take (xs.length * sz) = flatA xs)
theorem Rd.sl (hs : Sized sz xs) (q : Perm) : Rd h sz (.sl xs q) xs := ⟨hs, .inl ⟨q, rfl⟩⟩
theorem Rd.sub (hb : Rd h sz y xs) (hs : Sub h h') : Rd h' sz y xs := by
  obtain ⟨h1, hb | ⟨id, off, cap, cs, t, rfl, h2, h3⟩⟩ := hb
  · exact ⟨h1, .inl hb⟩
  · exact ⟨h1, .inr ⟨id, off, cap, cs, t, rfl, hs _ _ h2, h3⟩⟩
theorem Rd.len (hb : Rd h sz y xs) (e : TypeId) (k : AV → Prop) : lenK y k (.slice e) = k (.v (.int .i64 xs.length)) := by
  obtain ⟨_, ⟨q, rfl⟩ | ⟨id, off, cap, cs, t, rfl, _⟩⟩ := hb <;> rfl
theorem Rd.cells (hb : Rd h sz y xs) : y.cells = [y] := by
  obtain ⟨_, ⟨q, rfl⟩ | ⟨id, off, cap, cs, t, rfl, _⟩⟩ := hb <;> rfl
theorem Rd.agg (hb : Rd h sz y xs) : isAggA y = false := by
  obtain ⟨_, ⟨q, rfl⟩ | ⟨id, off, cap, cs, t, rfl, _⟩⟩ := hb <;> rfl
theorem Rd.fit (hb : Rd h sz y xs) (m : Nat) : fit y m = (m = 1) := by
  obtain ⟨_, ⟨q, rfl⟩ | ⟨id, off, cap, cs, t, rfl, _⟩⟩ := hb <;> rfl
theorem Rd.src (hb : Rd h sz y xs) (hz : (U e).sz = sz) {f : List AV → Prop} (hf : f xs) : srcA U e h y f := by
  obtain ⟨_, ⟨q, rfl⟩ | ⟨id, off, cap, cs, t, rfl, h2, h3, h4⟩⟩ := hb
  · exact hf
  · rw [srcA_ob, h2]
    exact ⟨hz.symm, xs, rfl, h3, h4.symm, hf⟩
def At (h : Heap) (p x : AV) (o : Nat) : Prop := p = .pe x o ∨ ∃ id a cs t, p = .ptr id (a + o) ∧ h id = some (.obj cs t) ∧ a + x.cells.length ≤ cs.length ∧ (cs.drop a).take x.cells.length = x.cells
theorem At.sub {p x : AV} {o : Nat} (ha : At h p x o) (hs : Sub h h') : At h' p x o := by
  rcases ha with rfl | ⟨id, a, cs, t, rfl, h2, h3⟩
  · exact .inl rfl
  · exact .inr ⟨id, a, cs, t, rfl, hs _ _ h2, h3⟩
theorem partA_drop {cs : List AV} {x : AV} {a o : Nat} {i : TI} {k : AV → Prop} (h1 : a + x.cells.length ≤ cs.length) (h2 : (cs.drop a).take x.cells.length = x.cells) (h3 : i.sz ≠ 0) (h4 : o + i.sz ≤ x.cells.length) : partA cs (a + o) i k = partA x.cells o i k := by
  unfold partA
  split
  · have e : (cs.drop (a + o)).take i.sz = (x.cells.drop o).take i.sz := by
      rw [← h2, List.drop_take, List.take_take, List.drop_drop, Nat.min_eq_left (by omega)]
    rw [e]
    apply propext
    constructor
    · exact fun hk => ⟨h4, hk.2⟩
    · exact fun hk => ⟨by omega, hk.2⟩
  · have e : cs[a + o]? = x.cells[o]? := by
      have := congrArg (fun q => q[o]?) h2
      simp only [List.getElem?_take, List.getElem?_drop, show o < x.cells.length by omega, if_true] at this
      exact this
    rw [e]
theorem At.part {p x : AV} {o : Nat} (ha : At h p x o) {ty : TypeId} (hz : (U ty).sz ≠ 0) (hl : o + (U ty).sz ≤ x.cells.length) (k : AV → Prop) : loadA U h ty p k = partA x.cells o (U ty) k := by
  rcases ha with rfl | ⟨id, a, cs, t, rfl, h2, h3, h4⟩
  · rw [loadA_pe]
    unfold atA
    split
    · rename_i hc
      obtain ⟨rfl, hc2, hc3⟩ := hc
      unfold partA
      split
      · rename_i hag
        rw [hag] at hc3
        have : x = .agg x.cells := by cases x <;> first | rfl | cases hc3
        rw [List.drop_zero, ← hc2, List.take_length, Nat.zero_add, ← this]
        simp
      · rename_i hag
        have : isAggA x = false := by rw [hc3]; simpa using hag
        rw [cells_one this]
        simp
    · rfl
  · rw [loadA_ptr, h2]
    exact partA_drop h3 h4 hz hl
theorem At.all {p x : AV} (ha : At h p x 0) {ty : TypeId} (hz : (U ty).sz ≠ 0) (hl : x.cells.length = (U ty).sz) (hg : isAggA x = (U ty).k.agg) (k : AV → Prop) : loadA U h ty p k = k x := by
  rw [ha.part hz (by omega)]
  unfold partA
  split
  · rename_i hag
    rw [hag] at hg
    have : x = .agg x.cells := by cases x <;> first | rfl | cases hg
    rw [List.drop_zero, ← hl, List.take_length, Nat.zero_add, ← this]
    simp
  · rename_i hag
    have : isAggA x = false := by rw [hg]; simpa using hag
    rw [cells_one this]
    simp
theorem At.field {p x : AV} {o : Nat} (ha : At h p x o) {f off : Nat} {t : TypeId} {fs : List (Nat × TypeId)} {K : AV → Prop} (hf : fs[f]? = some (off, t)) (hz : (U t).sz ≠ 0) (hk : ∀ p', At h p' x (o + off) → K p') : faddrK U f p K (.strct fs) := by
  rcases ha with rfl | ⟨id, a, cs, t', rfl, h2, h3, h4⟩
  · rw [faddrK_pe, hf]
    exact ⟨hz, hk _ (.inl rfl)⟩
  · rw [faddrK_ptr, hf]
    exact ⟨hz, hk _ (.inr ⟨id, a, cs, t', by rw [Nat.add_assoc], h2, h3, h4⟩)⟩
theorem Rd.idx (hb : Rd h sz y xs) {m : Int} {x : IntKind} {K : AV → Prop} (j : Nat) (hm : m = j) (hj : j < xs.length) (hz : (U e).sz = sz) (h0 : sz ≠ 0) (hk : ∀ p, At h p xs[j] 0 → K p) : iaddrK U y (.v (.int x m)) K (.slice e) := by
  subst hm
  have hc := hb.1 xs[j] (List.getElem_mem hj)
  obtain ⟨hs, ⟨q, rfl⟩ | ⟨id, off, cap, cs, t, rfl, h2, h3, h4⟩⟩ := hb
  · refine (iaddrK_sl ..).mpr ⟨by omega, ?_⟩
    exact IdxE.at j hj (by omega) (hk _ (.inl rfl))
  · refine (iaddrK_ob ..).mpr ⟨by omega, hz.symm, by omega, by omega, hk _ (.inr ⟨id, off + j * sz, cs, t, by simp, h2, ?_, ?_⟩)⟩
    · have : (j + 1) * sz ≤ xs.length * sz := Nat.mul_le_mul_right _ (by omega)
      rw [Nat.add_mul, Nat.one_mul] at this
      rw [hc]; omega
    · have e1 := flatA_part hs j hj
      rw [← h4, List.drop_take, List.take_take, List.drop_drop] at e1
      rw [hc]
      have : (j + 1) * sz ≤ xs.length * sz := Nat.mul_le_mul_right _ (by omega)
      rw [Nat.add_mul, Nat.one_mul] at this
      rw [Nat.min_eq_left (by omega)] at e1
      exact e1
def Ow (tb : TypeId) (h : Heap) (sz id : Nat) (y : AV) (xs : List AV) : Prop :=
  ∃ cap rest, y = .ob id 0 xs.length cap sz ∧ h id = some (.obj (flatA xs ++ rest) tb) ∧ rest.length = (cap - xs.length) * sz ∧ xs.length ≤ cap ∧ Sized sz xs
variable {tb : TypeId} {id : Nat}
theorem Ow.rd (hw : Ow tb h sz id y xs) : Rd h sz y xs := by
  obtain ⟨cap, rest, rfl, h1, h2, h3, h4⟩ := hw
  have hl := flatA_length h4
  exact ⟨h4, .inr ⟨id, 0, cap, _, tb, rfl, h1, by rw [List.length_append, hl]; omega, by rw [List.drop_zero, ← hl, List.take_left]⟩⟩
theorem Ow.sub (hw : Ow tb h sz id y xs) (hs : Sub h h') : Ow tb h' sz id y xs := by
  obtain ⟨cap, rest, e1, h1, h2⟩ := hw
  exact ⟨cap, rest, e1, hs _ _ h1, h2⟩
theorem Ow.same (hw : Ow tb h sz id y xs) (hs : h' id = h id) : Ow tb h' sz id y xs := by
  obtain ⟨cap, rest, e1, h1, h2⟩ := hw
  exact ⟨cap, rest, e1, hs.trans h1, h2⟩
theorem Ow.none (hw : Ow tb h sz id y xs) : h id ≠ Option.none := by
  obtain ⟨cap, rest, e1, h1, h2⟩ := hw
  rw [h1]; simp
theorem Ow.make {cs : List AV} {cap : Nat} {rest : List AV} (hs : Sized sz xs) (hcs : cs = flatA xs) {n : Nat} (hn : n = xs.length) (hc : n ≤ cap) (hr : rest.length = (cap - n) * sz) : Ow tb (upd h id (some (.obj (cs ++ rest) tb))) sz id (.ob id 0 n cap sz) xs := by
  subst hcs; subst hn
  exact ⟨cap, rest, rfl, upd_same .., hr, hc, hs⟩
theorem newOb.ow {cs : List AV} {n : Nat} {Q : AV → Heap → Prop} (hs : Sized sz xs) (hcs : cs = flatA xs) (hn : n = xs.length) (hk : ∀ id y h', h id = Option.none → Ow tb h' sz id y xs → (∀ j, j ≠ id → h' j = h j) → Q y h') : newOb h cs n sz tb Q :=
  fun id cap rest hid hc hr => hk id _ _ hid (Ow.make hs hcs hn hc hr) fun j hj => upd_other _ _ hj
theorem over_app2 {us vs : List AV} {o : Nat} {c : List AV} : over (us ++ vs) (us.length + o) c = us ++ over vs o c := by
  simp only [Ab.over, Nat.add_assoc, List.take_length_add_append, List.drop_length_add_append, List.append_assoc]
theorem flatA_set {xs : List AV} (hs : Sized sz xs) (j : Nat) (hj : j < xs.length) (x : AV) (hx : x.cells.length = sz) : flatA (xs.set j x) = over (flatA xs) (j * sz) x.cells := by
  induction xs generalizing j with
  | nil => cases hj
  | cons a r ih =>
    have h1 := hs a (List.mem_cons_self ..)
    have h2 : Sized sz r := fun z hz => hs z (List.mem_cons_of_mem _ hz)
    cases j with
    | zero =>
      simp only [List.set_cons_zero, flatA_cons, Ab.over, Nat.zero_mul, List.take_zero, List.nil_append, Nat.zero_add]
      rw [hx, ← h1, List.drop_left]
    | succ j =>
      have hj' : j < r.length := by simpa using hj
      have e1 : (j + 1) * sz = a.cells.length + j * sz := by rw [Nat.add_mul, Nat.one_mul, h1]; omega
      rw [List.set_cons_succ, flatA_cons, flatA_cons, ih h2 j hj', e1, over_app2]
theorem flatA_put {xs : List AV} (hs : Sized sz xs) (j : Nat) (hj : j < xs.length) (o : Nat) (c : List AV) (ho : o + c.length ≤ sz) : over (flatA xs) (j * sz + o) c = flatA (xs.set j (.agg (over xs[j].cells o c))) := by
  have hc := hs xs[j] (List.getElem_mem hj)
  have hl : (over xs[j].cells o c).length = sz := by rw [over_length (by omega)]; exact hc
  rw [flatA_set hs j hj (.agg (over xs[j].cells o c)) hl]
  have hp := flatA_part hs j hj
  have hfl := flatA_length hs
  have hb : (j + 1) * sz ≤ xs.length * sz := Nat.mul_le_mul_right _ (by omega)
  rw [Nat.add_mul, Nat.one_mul] at hb
  have e1 : (flatA xs).take (j * sz + o) = (flatA xs).take (j * sz) ++ xs[j].cells.take o := by
    rw [← hp, List.take_take, Nat.min_eq_left (by omega), List.take_add]
  have e2 : (flatA xs).drop (j * sz + o + c.length) = xs[j].cells.drop (o + c.length) ++ (flatA xs).drop (j * sz + sz) := by
    have e3 : (flatA xs).drop (j * sz) = xs[j].cells ++ (flatA xs).drop (j * sz + sz) := by
      rw [← List.drop_drop, ← hp, List.take_append_drop]
    rw [Nat.add_assoc, ← List.drop_drop, e3, List.drop_append_of_le_length (by omega)]
  show over (flatA xs) (j * sz + o) c = over (flatA xs) (j * sz) (over xs[j].cells o c)
  have e4 : j * sz + (over xs[j].cells o c).length = j * sz + sz := by rw [hl]
  rw [Ab.over, Ab.over, e4, e1, e2]
  simp only [Ab.over, List.append_assoc]
theorem over_app {us vs : List AV} {o : Nat} {c : List AV} (h1 : o + c.length ≤ us.length) : over (us ++ vs) o c = over us o c ++ vs := by
  simp only [Ab.over]
  rw [List.take_append_of_le_length (by omega), List.drop_append_of_le_length (by omega)]
  simp [List.append_assoc]
theorem Ow.st (hw : Ow tb h sz id y xs) (j : Nat) (hj : j < xs.length) (o : Nat) {off n : Nat} {z : AV} {Q : AV → Heap → Prop} (hoff : off = j * sz + o) (hf : Ab.fit z n) (hn : z.cells.length = n) (ho : o + n ≤ sz)
    (hk : ∀ h', Ow tb h' sz id y (xs.set j (.agg (over xs[j].cells o z.cells))) → (∀ k, k ≠ id → h' k = h k) → Q (.v undef) h') :
    bindO (h id) fun b => objL b fun cs t' => Ab.fit z n ∧ off + n ≤ cs.length ∧ Q (.v undef) (upd h id (some (.obj (over cs off z.cells) t'))) := by
  obtain ⟨cap, rest, rfl, h1, h2, h3, h4⟩ := hw
  have hl := flatA_length h4
  have hb : (j + 1) * sz ≤ xs.length * sz := Nat.mul_le_mul_right _ (by omega)
  rw [Nat.add_mul, Nat.one_mul] at hb
  have hlt : off + n ≤ (flatA xs).length := by omega
  rw [h1]
  refine ⟨hf, by rw [List.length_append]; omega, ?_⟩
  have e1 : over (flatA xs ++ rest) off z.cells = flatA (xs.set j (.agg (over xs[j].cells o z.cells))) ++ rest := by
    rw [over_app (by omega), hoff, flatA_put h4 j hj o z.cells (by omega)]
  rw [e1]
  refine hk _ ⟨cap, rest, by rw [List.length_set], upd_same .., by rw [List.length_set]; exact h2, by rw [List.length_set]; exact h3, fun w hw => ?_⟩ fun k hk => upd_other _ _ hk
  rcases List.mem_or_eq_of_mem_set hw with hw | rfl
  · exact h4 w hw
  · exact (over_length (by rw [h4 xs[j] (List.getElem_mem hj)]; omega)).trans (h4 xs[j] (List.getElem_mem hj))
theorem Ow.idx (hw : Ow tb h sz id y xs) {m : Int} {x : IntKind} {K : AV → Prop} (j : Nat) (hm : m = j) (hj : j < xs.length) (hz : (U e).sz = sz) (h0 : sz ≠ 0) (hk : K (.ptr id (j * sz))) : iaddrK U y (.v (.int x m)) K (.slice e) := by
  subst hm
  obtain ⟨cap, rest, rfl, h1, h2, h3, h4⟩ := hw
  refine (iaddrK_ob ..).mpr ⟨by omega, hz.symm, by omega, by omega, ?_⟩
  rw [Nat.zero_add, Int.toNat_natCast]
  exact hk
theorem Ow.at (hw : Ow tb h sz id y xs) (j : Nat) (hj : j < xs.length) : At h (.ptr id (j * sz)) xs[j] 0 := by
  obtain ⟨cap, rest, rfl, h1, h2, h3, h4⟩ := hw
  have hl := flatA_length h4
  have hc := h4 xs[j] (List.getElem_mem hj)
  have hb : (j + 1) * sz ≤ xs.length * sz := Nat.mul_le_mul_right _ (by omega)
  rw [Nat.add_mul, Nat.one_mul] at hb
  refine .inr ⟨id, j * sz, _, tb, rfl, h1, by rw [List.length_append, hc]; omega, ?_⟩
  rw [hc, List.drop_append_of_le_length (by omega), List.take_append_of_le_length (by rw [List.length_drop]; omega)]
  exact flatA_part h4 j hj
def OwE (tb : TypeId) (h0 h : Heap) (sz : Nat) (y : AV) (xs : List AV) : Prop := (xs = [] ∧ y = .sl [] .full) ∨ ∃ id, h0 id = Option.none ∧ Ow tb h sz id y xs
variable {h0 : Heap}
theorem OwE.rd (hw : OwE tb h0 h sz y xs) : Rd h sz y xs := by
  rcases hw with ⟨rfl, rfl⟩ | ⟨id, _, hw⟩
  · exact .sl (fun z hz => by cases hz) _
  · exact hw.rd
theorem OwE.sub (hw : OwE tb h0 h sz y xs) (hs : Sub h h') : OwE tb h0 h' sz y xs := by
  rcases hw with hw | ⟨id, h1, hw⟩
  · exact .inl hw
  · exact .inr ⟨id, h1, hw.sub hs⟩
theorem OwE.ow (hw : OwE tb h0 h sz y xs) (hn : xs ≠ []) : ∃ id, h0 id = Option.none ∧ Ow tb h sz id y xs := by
  rcases hw with hw | hw
  · exact (hn hw.1).elim
  · exact hw
theorem OwE.app {v : AV} {zs : List AV} {Q : AV → Heap → Prop} (hw : OwE tb h0 h sz y xs) (hs0 : Sub h0 h) (hb : Rd h sz v zs) (hz : (U tb).sz = sz) (h1 : sz ≠ 0) (hby : (U tb).bytes ≠ 0) (hf : Ab.fit (U tb).zero sz) (hne : zs ≠ []) (hlen : (xs.length + zs.length) * (U tb).bytes ≤ 140737488355328)
    (hk : ∀ id y' h', h0 id = Option.none → (h id = Option.none ∨ ∃ l c, y = .ob id 0 l c sz) → Ow tb h' sz id y' (xs ++ zs) → (∀ j, j ≠ id → h' j = h j) → Q y' h') : apK U h y v Q (.slice tb) := by
  subst hz
  rcases hw with ⟨rfl, rfl⟩ | ⟨id, h2, cap, rest, rfl, h3, h4, h5, h6⟩
  · refine (apK_full ..).mpr ⟨h1, hby, hb.src rfl ⟨by simp [Sized], hb.1, by simpa using hlen, fun hn => (hne hn).elim, fun _ => ?_⟩⟩
    refine .ob hf (newOb.ow (by simpa using hb.1) (by simp [flatA]) (by simp) fun id y' h' hid hw ho => ?_)
    exact hk id _ _ (hs0.none hid) (.inl hid) (by simpa using hw) ho
  · have hl := flatA_length h6
    refine ⟨h1, hby, rfl, hb.src rfl ⟨hb.1, hlen, ?_⟩⟩
    rw [h3]
    have hsz : Sized (U tb).sz (xs ++ zs) := fun z hz => (List.mem_append.1 hz).elim (h6 z) (hb.1 z)
    refine ⟨by rw [List.length_append, hl]; omega, hf, fun hle => ?_, fun hgt => ?_⟩
    · have hlz := flatA_length hb.1
      have hmul : (cap - xs.length) * (U tb).sz = zs.length * (U tb).sz + (cap - (xs.length + zs.length)) * (U tb).sz := by rw [← Nat.add_mul]; congr 1; omega
      refine hk id _ _ h2 (.inr ⟨_, _, rfl⟩) ⟨cap, rest.drop (zs.length * (U tb).sz), by rw [List.length_append], ?_, ?_, by rw [List.length_append]; omega, hsz⟩ fun j hj => upd_other _ _ hj
      · rw [upd_same, flatA_app, Nat.zero_add, ← hl, Ab.over, List.take_left, List.drop_append, List.drop_of_length_le (by omega), hlz]
        simp
      · rw [List.length_drop, h4, List.length_append]; omega
    · refine newOb.ow hsz ?_ (by rw [List.length_append]) fun id' y' h' hid hw ho => ?_
      · rw [flatA_app, List.drop_zero, ← hl, List.take_left]
      · exact hk id' _ _ (hs0.none hid) (.inl hid) hw ho
theorem overlaps_ok {f : FuncId} {fn : Func} {tS tR : TypeId} (hU : ∀ t, AgreeT P U t) (hfn : P.funcs[f]? = some fn) (hname : (fn.name == "runtime.NumGoroutine") = false) (hb : fn.body.isNone = true) (hn : Extern.findNext fn = Option.none)
    (he : Extern.find fn = some (Extern.SlicesOverlaps.overlaps #[tS, tS] #[tR])) (hty : (U tS).k = .slice e) (hz : (U e).sz ≠ 0) {q : Perm} (hx : Sized (U e).sz xs) (hne : xs ≠ []) {id off len cap sz : Nat} {cs : List AV} {t : TypeId} (hid : h id = some (.obj cs t)) (hcs : cs ≠ []) :
    FnOK P f [.sl xs q, .ob id off len cap sz] h fun r h' => r = .v (.bool false) ∧ h' = h := by
  intro c vs hs g h1 h2
  obtain ⟨a, cap0, sz0, val, hu, sl⟩ := (h2 0 (by simp)).sl_inv
  obtain ⟨o, hv, _⟩ := (h2 1 (by simp)).ob_inv
  have hd := (hU tS).desc
  rw [hty] at hd
  have hpos : 0 < xs.length := List.length_pos_iff.2 hne
  have hcap := sl.hc
  obtain ⟨qa, rfl⟩ : ∃ qa, a = some qa := by
    cases a with
    | none => have := sl.h0 rfl; omega
    | some qa => exact ⟨qa, rfl⟩
  have hs0 : sz0 = (U e).sz := by rw [← sl.hz 0 hpos]; exact hx _ (List.getElem_mem hpos)
  have hf := sl.hf qa rfl 0 0 hpos (by omega)
  have hq := (sl.hs qa rfl (by omega)).1
  have hcid := hs _ _ hid
  obtain ⟨us, u1, u2, u3⟩ := g.obj id cs t hcid
  have hnb : qa.block ≠ (c.φ id).block := fun hh => hf.2 ⟨id, _, hcid, hh.symm, Nat.zero_le _⟩
  obtain ⟨ws, tw, fr, hws, hwlt⟩ : ∃ ws tw fr, c.w.heap[qa.block]? = some (.cells ws tw fr) ∧ 0 < ws.size := by
    have := hf.1
    simp only [World.cell?] at this
    split at this
    · rename_i ws tw fr hh
      refine ⟨ws, tw, fr, hh, ?_⟩
      have hlt := lt_of_get this
      omega
    all_goals cases this
  have hvs : vs = #[.slice (some qa) xs.length cap0, .slice (some ⟨(c.φ id).block, o, Option.none⟩) len cap] := by
    apply Array.ext
    · simpa using h1
    · intro i hi hi2
      have hi3 : i < 2 := by simpa using hi2
      rcases i with _ | _ | i
      · simpa [Array.getD, hi] using hu
      · simpa [Array.getD, hi] using hv
      · omega
  subst hvs
  refine .inr ⟨.bool false, c.w, ?_, c, _, h, rfl, g, .refl c, .v _, hs, rfl, rfl⟩
  rw [Go.run_callFunc_extern hfn hname hb hn he]
  have key : (Extern.SlicesOverlaps.overlaps #[tS, tS] #[tR] #[.slice (some qa) xs.length cap0, .slice (some ⟨(c.φ id).block, o, Option.none⟩) len cap]).run P c.w = .ok (.bool false) c.w := by
    have hnb1 : (qa.block != (c.φ id).block) = true := by simpa using hnb
    have hnb2 : (qa.block == (c.φ id).block) = false := by simpa using hnb
    have hws2 : ∃ m, ws.size = m + 1 := ⟨ws.size - 1, by omega⟩
    obtain ⟨m, hm⟩ := hws2
    change Sem.run P (α := Value) (do
      let some t := (#[tS, tS] : Array TypeId)[0]? | stuck "slices.overlaps: no parameter types"
      let .slice elem ← underlying t | stuck "slices.overlaps: slice type expected"
      let size ← sizeOf elem
      match (some qa : Option Addr), (some ⟨(c.φ id).block, o, Option.none⟩ : Option Addr) with
      | some a, some b =>
        if xs.length = 0 ∨ len = 0 ∨ size = 0 then pure (Value.bool false)
        else if a.block != b.block && (← frozen a) && (← frozen b) then unsupported .addressObserved
        else do
          if a.block != b.block then do
            noView a; noView b
            if ← mayBeOne a b then return Value.bool ((← choose (.extern "sameAddr.stringBytes" 2)) == 1)
          pure (Value.bool (a.block == b.block && a.off < b.off + len * size && b.off < a.off + xs.length * size))
      | _, _ => pure (Value.bool false)) c.w = _
    have hfb : ∀ x, c.w.frozen? ⟨(c.φ id).block, x, Option.none⟩ = false := fun x => by simp [World.frozen?, u1]
    have hsb : c.w.shape? (c.φ id).block = some (t, us.size) := by simp [World.shape?, u1]
    have hsa : c.w.shape? qa.block = some (tw, m + 1) := by simp [World.shape?, hws, hm]
    by_cases hl : len = 0
    · simp [run_underlying hd, sizeOf_run hU hz, hl]
    · have hus : us.size ≠ 0 := by rw [u2]; exact fun hh => hcs (List.length_eq_zero_iff.1 hh)
      obtain ⟨n, hn'⟩ : ∃ n, us.size = n + 1 := ⟨us.size - 1, by omega⟩
      rw [hn'] at hsb
      cases hfa : c.w.frozen? qa <;> cases hfa2 : c.w.frozen? { block := qa.block, off := m + 1 } <;>
        simp [run_underlying hd, sizeOf_run hU hz, hl, hne, hz, hnb1, hnb2, frozen, noView, viewAt, mayBeOne, stringish, shape, Sem.run, hsa, hsb, hfb, hfa, hfa2]
  rw [key]
  rfl
end
end Go.Ab

set_option linter.unusedSimpArgs false
set_option linter.unusedVariables false
namespace Go.Bf
open Go Go.Ab
structure OpD where
  kind : Int
  subj : Txt
  case : Txt
  field : Txt
  to : Txt
  val : ValD
  review : Int
  text : Txt
  reason : Txt
  glass : Bool
structure HapD where
  tick : Int
  actor : Txt
  what : Txt
structure FieldD where
  name : Txt
  val : ValD
structure CaseD where
  id : Txt
  owner : Txt
  state : Txt
  fields : List FieldD
  log : List HapD
structure RevD where
  id : Int
  tick : Int
  subj : Txt
  case : Txt
  action : Txt
  reason : Txt
  isOpen : Bool
structure NotD where
  tick : Int
  case : Txt
  arg : Txt
structure RoleD where
  subj : Txt
  role : Txt
structure StoreD where
  tick : Int
  cases : List CaseD
  reviews : List RevD
  notices : List NotD
  roles : List RoleD
  policy : PolD
  version : Int
structure GivD where
  cat : Int
  name : Txt
  bag : List ValD
def opC (o : OpD) : List AV := [.v (.int .i64 o.kind), .s o.subj, .s o.case, .s o.field, .s o.to, .v (.int .i64 o.val.kind), .v (.int .i64 o.val.n), .s o.val.s, .v (.int .i64 o.review), .s o.text, .s o.reason, .v (.bool o.glass)]
def opA (o : OpD) : AV := .agg (opC o)
def hapA (x : HapD) : AV := .agg [.v (.int .i64 x.tick), .s x.actor, .s x.what]
def fieldA (f : FieldD) : AV := .agg [.s f.name, .v (.int .i64 f.val.kind), .v (.int .i64 f.val.n), .s f.val.s]
def fieldsA (l : List FieldD) : AV := .sl (l.map fieldA) .no
def logA (l : List HapD) : AV := .sl (l.map hapA) .no
def caseC (c : CaseD) : List AV := [.s c.id, .s c.owner, .s c.state, fieldsA c.fields, logA c.log]
def caseA (c : CaseD) : AV := .agg (caseC c)
def casesA (l : List CaseD) : AV := .sl (l.map caseA) .no
def revA (r : RevD) : AV := .agg [.v (.int .i64 r.id), .v (.int .i64 r.tick), .s r.subj, .s r.case, .s r.action, .s r.reason, .v (.bool r.isOpen)]
def revsA (l : List RevD) : AV := .sl (l.map revA) .no
def notA (n : NotD) : AV := .agg [.v (.int .i64 n.tick), .s n.case, .s n.arg]
def notsA (l : List NotD) : AV := .sl (l.map notA) .no
def roleA (r : RoleD) : AV := .agg [.s r.subj, .s r.role]
def rolesA (l : List RoleD) : AV := .sl (l.map roleA) .no
def polC : PolD → List AV
  | .mk id set alg tgt rules kids obls => [.s id, .v (.bool set), .v (.int .i64 alg), tgtA tgt, .sl (rules.map ruleA) .no, .sl (kidsA kids) .no, oblsA obls]
theorem polA_eq (p : PolD) : polA p = .agg (polC p) := by cases p; simp [polA, polC]
def storeA (s : StoreD) : AV := .agg ([.v (.int .i64 s.tick), casesA s.cases, revsA s.reviews, notsA s.notices, rolesA s.roles] ++ polC s.policy ++ [.v (.int .i64 s.version)])
def givA (g : GivD) : AV := .agg [.v (.int .i64 g.cat), .s g.name, .sl (g.bag.map valA) .no]
def givsA (l : List GivD) : AV := .sl (l.map givA) .no
def geB (a b : Txt) : Bool := !(Op.bytesLess a b)
def findD (cs : List CaseD) (id : Txt) : Nat := cs.findIdx fun c => geB c.id id
def thereD (cs : List CaseD) (id : Txt) : Bool := match cs[findD cs id]? with
  | some c => c.id == id
  | none => false
def zeroVal : ValD := ⟨0, 0, []⟩
def zeroCase : CaseD := ⟨[], [], [], [], []⟩
def caseD (cs : List CaseD) (id : Txt) : CaseD := if thereD cs id then cs.getD (findD cs id) zeroCase else zeroCase
def fieldD (fs : List FieldD) (name : Txt) : ValD := match fs.find? fun f => f.name == name with
  | some f => f.val
  | none => zeroVal
def eqRole (a b : RoleD) : Bool := a.subj == b.subj && a.role == b.role
def hasD (l : List RoleD) (r : RoleD) : Bool := l.any (eqRole r)
def openT : Txt := [111, 112, 101, 110]
def workT : Txt := [119, 111, 114, 107]
def doneT : Txt := [100, 111, 110, 101]
def closedT : Txt := [99, 108, 111, 115, 101, 100]
def followsD (a b : Txt) : Bool :=
  if a == openT then b == workT else if a == workT then b == doneT else if a == doneT then b == workT || b == closedT else false
def actWs : List Txt := [[110, 101, 119], [114, 101, 97, 100], [119, 114, 105, 116, 101], [109, 111, 118, 101], [99, 108, 111, 115, 101], [114, 111, 108, 101], [112, 111, 108, 105, 99, 121]]
def actionD (k : Int) : Txt := if k < 1 ∨ k > 7 then [116, 105, 99, 107] else actWs.getD (k - 1).toNat []
def onCase (k : Int) : Bool := decide (1 ≤ k) && decide (k ≤ 4)
def emptyD (s : Txt) : Bool := s == [] || nameOK s
def reasonD (o : OpD) : Bool := if o.glass then onCase o.kind && (!(o.reason == [])) && decide (o.reason.length ≤ 64) else o.reason == []
def onlyD (o : OpD) : OpD :=
  let z : OpD := ⟨o.kind, [], [], [], [], zeroVal, 0, [], [], false⟩
  if o.kind = 1 then { z with case := o.case }
  else if o.kind = 2 ∨ o.kind = 6 then { z with case := o.case, field := o.field }
  else if o.kind = 3 then { z with case := o.case, field := o.field, val := o.val }
  else if o.kind = 4 then { z with case := o.case, to := o.to }
  else if o.kind = 5 ∨ o.kind = 8 then { z with review := o.review }
  else { z with text := o.text }
def eqV (a b : ValD) : Bool := a.kind == b.kind && (a.n == b.n && a.s == b.s)
def eqOp (a b : OpD) : Bool := a.kind == b.kind && (a.subj == b.subj && (a.case == b.case && (a.field == b.field && (a.to == b.to && (a.val.kind == b.val.kind && (a.val.n == b.val.n && (a.val.s == b.val.s && (a.review == b.review && (a.text == b.text && (a.reason == b.reason && a.glass == b.glass))))))))))
def okD (o : OpD) : Bool :=
  if o.kind = 1 then !(o.case == [])
  else if o.kind = 2 ∨ o.kind = 6 then !(o.case == []) && !(o.field == [])
  else if o.kind = 3 then !(o.case == []) && !(o.field == []) && !(eqV o.val zeroVal)
  else if o.kind = 4 then !(o.case == []) && !(o.to == [])
  else if o.kind = 5 then decide (0 < o.review)
  else if o.kind = 8 then decide (0 < o.review) && decide (o.review ≤ 1099511627776)
  else true
def bareD (o : OpD) : OpD := { o with subj := [], reason := [], glass := false }
def takesD (o : OpD) : Bool := decide (1 ≤ o.kind) && decide (o.kind ≤ 8) && okD o && eqOp (bareD o) (onlyD o)
def formD (o : OpD) : Bool := nameOK o.subj && reasonD o && decide (o.text.length ≤ 4096) && emptyD o.case && emptyD o.field && emptyD o.to && (eqV o.val zeroVal || valOK o.val) && takesD o
def readyCaseD (s : StoreD) (o : OpD) : Int :=
  let c := caseD s.cases o.case
  if thereD s.cases o.case = false then 10
  else if o.kind = 3 ∧ c.fields.length ≥ 16 ∧ eqV (fieldD c.fields o.field) zeroVal = true then 6
  else if o.kind ≠ 2 ∧ c.log.length ≥ 256 then 6
  else if o.kind = 3 ∧ c.state = closedT ∨ o.kind = 4 ∧ followsD c.state o.to = false then 13
  else 0
def revAt (l : List RevD) (n : Int) : Option RevD := if 1 ≤ n then l[(n - 1).toNat]? else none
def readyCloseD (s : StoreD) (o : OpD) : Int := match revAt s.reviews o.review with
  | none => 10
  | some r => if r.isOpen = false then 10 else if r.subj = o.subj then 12 else 0
def readyD (s : StoreD) (o : OpD) : Int :=
  if formD o = false then 1
  else if o.kind = 1 then (if thereD s.cases o.case then 11 else if s.cases.length ≥ 64 then 6 else 0)
  else if 2 ≤ o.kind ∧ o.kind ≤ 4 then readyCaseD s o
  else if o.kind = 5 then readyCloseD s o
  else if o.kind = 6 then (if s.roles.length ≥ 64 ∧ hasD s.roles ⟨o.case, o.field⟩ = false then 6 else 0)
  else if o.kind = 8 then (if s.tick > 1099511627776 - o.review then 6 else 0)
  else 0
def idV (s : Txt) : ValD := ⟨5, 0, s⟩
def tookD (l : List HapD) (subj : Txt) : ValD := ⟨1, if l.any (fun x => x.actor == subj) then 1 else 0, []⟩
def idT : Txt := [105, 100]
def askCaseD (c : CaseD) (subj : Txt) : List GivD :=
  [⟨3, idT, [idV c.id]⟩, ⟨3, [111, 119, 110, 101, 114], [idV c.owner]⟩, ⟨3, [115, 116, 97, 116, 101], [idV c.state]⟩, ⟨3, [101, 118, 101, 110, 116, 115], [⟨2, c.log.length, []⟩]⟩, ⟨3, [116, 111, 111, 107], [tookD c.log subj]⟩] ++
  (match c.log.getLast? with
    | some x => [⟨3, [108, 97, 115, 116], [idV x.actor]⟩]
    | none => []) ++
  (c.fields.filter fun f => decide (f.name.length ≤ 14)).map fun f => ⟨3, [102, 95] ++ f.name, [f.val]⟩
def rolesOf (l : List RoleD) (subj : Txt) : List ValD := ((l.filter fun r => r.subj == subj).map fun r => idV r.role).take 16
def askD (s : StoreD) (o : OpD) : List GivD :=
  [⟨1, idT, [idV o.subj]⟩, ⟨1, [114, 111, 108, 101], rolesOf s.roles o.subj⟩, ⟨2, [110, 97, 109, 101], [idV (actionD o.kind)]⟩] ++
  (if o.field = [] then [] else [⟨2, [102, 105, 101, 108, 100], [idV o.field]⟩]) ++
  (if o.to = [] then [] else [⟨2, [116, 111], [idV o.to]⟩]) ++
  [⟨4, [110, 111, 119], [⟨4, s.tick, []⟩]⟩] ++
  (if thereD s.cases o.case = true ∧ o.kind ≠ 6 then askCaseD (caseD s.cases o.case) o.subj else [])
def writeD (fs : List FieldD) (name : Txt) (v : ValD) : List FieldD :=
  let i := fs.findIdx fun f => geB f.name name
  match fs[i]? with
  | none => fs ++ [⟨name, v⟩]
  | some f => if f.name = name then fs.set i ⟨f.name, v⟩ else fs.take i ++ [⟨name, v⟩] ++ fs.drop i
def hapD (s : StoreD) (c : CaseD) (actor what : Txt) : CaseD := { c with log := c.log ++ [⟨s.tick, actor, what⟩] }
def doD (par : Txt → PolD × Int × Int) (s : StoreD) (o : OpD) : StoreD :=
  let i := findD s.cases o.case
  if o.kind = 1 then { s with cases := s.cases.take i ++ [hapD s ⟨o.case, o.subj, openT, [], []⟩ o.subj [110, 101, 119]] ++ s.cases.drop i }
  else if o.kind = 3 then { s with cases := s.cases.modify i fun c => hapD s { c with fields := writeD c.fields o.field o.val } o.subj [119, 114, 105, 116, 101] }
  else if o.kind = 4 then { s with cases := s.cases.modify i fun c => hapD s { c with state := o.to } o.subj o.to }
  else if o.kind = 5 then { s with reviews := s.reviews.modify (o.review - 1).toNat fun r => { r with isOpen := false } }
  else if o.kind = 6 then (if hasD s.roles ⟨o.case, o.field⟩ then s else { s with roles := s.roles ++ [⟨o.case, o.field⟩] })
  else if o.kind = 7 then (if (par o.text).2.1 = 0 then { s with policy := (par o.text).1, version := s.version + 1 } else s)
  else if o.kind = 8 then { s with tick := s.tick + o.review }
  else s
def doneD (par : Txt → PolD × Int × Int) (s : StoreD) (o : OpD) : StoreD := if readyD s o = 0 then doD par s o else s
def i64 (n : Int) : Prop := -9223372036854775808 ≤ n ∧ n ≤ 9223372036854775807
end Go.Bf

namespace Go.Proofs.YtnhelgnmadbpgaaGreatDoor
open Go Go.Ab
def tyRows : List TI := [
  ⟨.other, 0, 0, default, none⟩,
  ⟨.other, 1, 8, .v .nilFunc, none⟩,
  ⟨.int .i64, 1, 8, .v (.int .i64 0), some (0, [.int .i64])⟩,
  ⟨.int .i64, 1, 8, .v (.int .i64 0), some (0, [.int .i64])⟩,
  ⟨.bool, 1, 1, .v (.bool false), some (0, [.bool])⟩,
  ⟨.int .u8, 1, 1, .v (.int .u8 0), some (0, [.int .u8])⟩,
  ⟨.int .u8, 1, 1, .v (.int .u8 0), some (0, [.int .u8])⟩,
  ⟨.strct [(0, 2), (1, 3), (2, 4), (3, 6)], 4, 24, .agg [.v (.int .i64 0), .v (.int .i64 0), .v (.bool false), .v (.int .u8 0)], none⟩,
  ⟨.strct [(0, 2), (1, 3), (2, 4), (3, 6)], 4, 24, .agg [.v (.int .i64 0), .v (.int .i64 0), .v (.bool false), .v (.int .u8 0)], none⟩,
  ⟨.str, 1, 16, .s [], some (0, [.str])⟩,
  ⟨.str, 1, 16, .s [], some (0, [.str])⟩,
  ⟨.str, 1, 16, .s [], some (0, [.str])⟩,
  ⟨.int .u64, 1, 8, .v (.int .u64 0), some (0, [.int .u64])⟩,
  ⟨.strct [(0, 9), (1, 12)], 2, 24, .agg [.s [], .v (.int .u64 0)], none⟩,
  ⟨.strct [(0, 9), (1, 12)], 2, 24, .agg [.s [], .v (.int .u64 0)], none⟩,
  ⟨.ptr 300, 1, 8, .v (.pointer none), none⟩,
  ⟨.ptr 303, 1, 8, .v (.pointer none), none⟩,
  ⟨.ptr 311, 1, 8, .v (.pointer none), none⟩,
  ⟨.strct [(0, 17)], 1, 8, .agg [.v (.pointer none)], none⟩,
  ⟨.strct [(0, 17)], 1, 8, .agg [.v (.pointer none)], none⟩,
  ⟨.iface, 1, 16, .v .nilIface, none⟩,
  ⟨.int .i32, 1, 4, .v (.int .i32 0), some (0, [.int .i32])⟩,
  ⟨.slice 63, 1, 24, .sl [] .full, none⟩,
  ⟨.slice 105, 1, 24, .sl [] .full, none⟩,
  ⟨.slice 114, 1, 24, .sl [] .full, none⟩,
  ⟨.slice 75, 1, 24, .sl [] .full, none⟩,
  ⟨.slice 211, 1, 24, .sl [] .full, none⟩,
  ⟨.slice 211, 1, 24, .sl [] .full, none⟩,
  ⟨.slice 169, 1, 24, .sl [] .full, none⟩,
  ⟨.slice 32, 1, 24, .sl [] .full, none⟩,
  ⟨.slice 166, 1, 24, .sl [] .full, none⟩,
  ⟨.strct [(0, 9), (1, 4), (2, 3), (3, 27), (4, 28), (5, 29), (6, 30)], 7, 128, .agg [.s [], .v (.bool false), .v (.int .i64 0), .sl [] .full, .sl [] .full, .sl [] .full, .sl [] .full], none⟩,
  ⟨.strct [(0, 9), (1, 4), (2, 3), (3, 27), (4, 28), (5, 29), (6, 30)], 7, 128, .agg [.s [], .v (.bool false), .v (.int .i64 0), .sl [] .full, .sl [] .full, .sl [] .full, .sl [] .full], none⟩,
  ⟨.strct [(0, 3), (1, 22), (2, 23), (3, 24), (4, 25), (5, 32), (12, 3)], 13, 240, .agg [.v (.int .i64 0), .sl [] .full, .sl [] .full, .sl [] .full, .sl [] .full, .s [], .v (.bool false), .v (.int .i64 0), .sl [] .full, .sl [] .full, .sl [] .full, .sl [] .full, .v (.int .i64 0)], none⟩,
  ⟨.strct [(0, 3), (1, 22), (2, 23), (3, 24), (4, 25), (5, 32), (12, 3)], 13, 240, .agg [.v (.int .i64 0), .sl [] .full, .sl [] .full, .sl [] .full, .sl [] .full, .s [], .v (.bool false), .v (.int .i64 0), .sl [] .full, .sl [] .full, .sl [] .full, .sl [] .full, .v (.int .i64 0)], none⟩,
  ⟨.other, 1, 8, .v .nilFunc, none⟩,
  ⟨.other, 1, 8, .v .nilFunc, none⟩,
  ⟨.strct [(0, 3), (1, 3), (2, 9)], 3, 32, .agg [.v (.int .i64 0), .v (.int .i64 0), .s []], some (1, [.int .i64, .int .i64, .str])⟩,
  ⟨.strct [(0, 3), (1, 3), (2, 9)], 3, 32, .agg [.v (.int .i64 0), .v (.int .i64 0), .s []], some (1, [.int .i64, .int .i64, .str])⟩,
  ⟨.strct [(0, 3), (1, 9), (2, 9), (3, 9), (4, 9), (5, 38), (8, 3), (9, 9), (10, 9), (11, 4)], 12, 152, .agg [.v (.int .i64 0), .s [], .s [], .s [], .s [], .v (.int .i64 0), .v (.int .i64 0), .s [], .v (.int .i64 0), .s [], .s [], .v (.bool false)], some (2, [.int .i64, .str, .str, .str, .str, .int .i64, .int .i64, .str, .int .i64, .str, .str, .bool])⟩,
  ⟨.strct [(0, 3), (1, 9), (2, 9), (3, 9), (4, 9), (5, 38), (8, 3), (9, 9), (10, 9), (11, 4)], 12, 152, .agg [.v (.int .i64 0), .s [], .s [], .s [], .s [], .v (.int .i64 0), .v (.int .i64 0), .s [], .v (.int .i64 0), .s [], .s [], .v (.bool false)], some (2, [.int .i64, .str, .str, .str, .str, .int .i64, .int .i64, .str, .int .i64, .str, .str, .bool])⟩,
  ⟨.slice 38, 1, 24, .sl [] .full, none⟩,
  ⟨.strct [(0, 3), (1, 9), (2, 41)], 3, 48, .agg [.v (.int .i64 0), .s [], .sl [] .full], none⟩,
  ⟨.strct [(0, 3), (1, 9), (2, 41)], 3, 48, .agg [.v (.int .i64 0), .s [], .sl [] .full], none⟩,
  ⟨.other, 1, 8, .v .nilFunc, none⟩,
  ⟨.slice 43, 1, 24, .sl [] .full, none⟩,
  ⟨.other, 1, 8, .v .nilFunc, none⟩,
  ⟨.other, 1, 8, .v .nilFunc, none⟩,
  ⟨.other, 1, 8, .v .nilFunc, none⟩,
  ⟨.slice 40, 1, 24, .sl [] .full, none⟩,
  ⟨.other, 1, 8, .v .nilFunc, none⟩,
  ⟨.ptr 67, 1, 8, .v (.pointer none), none⟩,
  ⟨.other, 1, 8, .v .nilFunc, none⟩,
  ⟨.other, 1, 8, .v .nilFunc, none⟩,
  ⟨.other, 1, 8, .v .nilFunc, none⟩,
  ⟨.int .i64, 1, 8, .v (.int .i64 0), some (0, [.int .i64])⟩,
  ⟨.other, 1, 8, .v .nilFunc, none⟩,
  ⟨.other, 1, 8, .v .nilFunc, none⟩,
  ⟨.other, 0, 0, default, none⟩,
  ⟨.other, 1, 8, .v .nilFunc, none⟩,
  ⟨.slice 84, 1, 24, .sl [] .full, none⟩,
  ⟨.slice 119, 1, 24, .sl [] .full, none⟩,
  ⟨.strct [(0, 9), (1, 9), (2, 9), (3, 60), (4, 61)], 5, 96, .agg [.s [], .s [], .s [], .sl [] .full, .sl [] .full], none⟩,
  ⟨.strct [(0, 9), (1, 9), (2, 9), (3, 60), (4, 61)], 5, 96, .agg [.s [], .s [], .s [], .sl [] .full, .sl [] .full], none⟩,
  ⟨.other, 0, 0, default, none⟩,
  ⟨.other, 1, 8, .v .nilFunc, none⟩,
  ⟨.other, 1, 8, .v .nilFunc, none⟩,
  ⟨.strct [(0, 3), (1, 22), (2, 23), (3, 24), (4, 25), (5, 32), (12, 3)], 13, 240, .agg [.v (.int .i64 0), .sl [] .full, .sl [] .full, .sl [] .full, .sl [] .full, .s [], .v (.bool false), .v (.int .i64 0), .sl [] .full, .sl [] .full, .sl [] .full, .sl [] .full, .v (.int .i64 0)], none⟩,
  ⟨.other, 1, 8, .v .nilFunc, none⟩,
  ⟨.other, 1, 8, .v .nilFunc, none⟩,
  ⟨.other, 1, 8, .v .nilFunc, none⟩,
  ⟨.other, 1, 8, .v .nilFunc, none⟩,
  ⟨.other, 1, 8, .v .nilFunc, none⟩,
  ⟨.other, 1, 8, .v .nilFunc, none⟩,
  ⟨.strct [(0, 9), (1, 9)], 2, 32, .agg [.s [], .s []], some (1, [.str, .str])⟩,
  ⟨.strct [(0, 9), (1, 9)], 2, 32, .agg [.s [], .s []], some (1, [.str, .str])⟩,
  ⟨.other, 1, 8, .v .nilFunc, none⟩,
  ⟨.slice 3, 1, 24, .sl [] .full, none⟩,
  ⟨.slice 9, 1, 24, .sl [] .full, none⟩,
  ⟨.other, 1, 8, .v .nilFunc, none⟩,
  ⟨.other, 1, 8, .v .nilFunc, none⟩,
  ⟨.map 9 3, 1, 8, .v (.map none), none⟩,
  ⟨.slice 5, 1, 24, .sl [] .full, none⟩,
  ⟨.strct [(0, 9), (1, 38)], 4, 48, .agg [.s [], .v (.int .i64 0), .v (.int .i64 0), .s []], some (2, [.str, .int .i64, .int .i64, .str])⟩,
  ⟨.strct [(0, 9), (1, 38)], 4, 48, .agg [.s [], .v (.int .i64 0), .v (.int .i64 0), .s []], some (2, [.str, .int .i64, .int .i64, .str])⟩,
  ⟨.other, 1, 8, .v .nilFunc, none⟩,
  ⟨.map 9 9, 1, 8, .v (.map none), none⟩,
  ⟨.other, 0, 0, default, none⟩,
  ⟨.other, 1, 8, .v .nilFunc, none⟩,
  ⟨.other, 1, 8, .v .nilFunc, none⟩,
  ⟨.other, 0, 0, default, none⟩,
  ⟨.other, 1, 8, .v .nilFunc, none⟩,
  ⟨.strct [(0, 3), (1, 9), (2, 4)], 3, 32, .agg [.v (.int .i64 0), .s [], .v (.bool false)], some (1, [.int .i64, .str, .bool])⟩,
  ⟨.strct [(0, 3), (1, 9), (2, 4)], 3, 32, .agg [.v (.int .i64 0), .s [], .v (.bool false)], some (1, [.int .i64, .str, .bool])⟩,
  ⟨.other, 1, 8, .v .nilFunc, none⟩,
  ⟨.other, 1, 8, .v .nilFunc, none⟩,
  ⟨.other, 1, 8, .v .nilFunc, none⟩,
  ⟨.other, 1, 8, .v .nilFunc, none⟩,
  ⟨.other, 0, 0, default, none⟩,
  ⟨.other, 1, 8, .v .nilFunc, none⟩,
  ⟨.other, 1, 8, .v .nilFunc, none⟩,
  ⟨.ptr 63, 1, 8, .v (.pointer none), none⟩,
  ⟨.other, 1, 8, .v .nilFunc, none⟩,
  ⟨.other, 1, 8, .v .nilFunc, none⟩,
  ⟨.strct [(0, 3), (1, 3), (2, 9), (3, 9), (4, 9), (5, 9), (6, 4)], 7, 88, .agg [.v (.int .i64 0), .v (.int .i64 0), .s [], .s [], .s [], .s [], .v (.bool false)], some (1, [.int .i64, .int .i64, .str, .str, .str, .str, .bool])⟩,
  ⟨.strct [(0, 3), (1, 3), (2, 9), (3, 9), (4, 9), (5, 9), (6, 4)], 7, 88, .agg [.v (.int .i64 0), .v (.int .i64 0), .s [], .s [], .s [], .s [], .v (.bool false)], some (1, [.int .i64, .int .i64, .str, .str, .str, .str, .bool])⟩,
  ⟨.other, 1, 8, .v .nilFunc, none⟩,
  ⟨.other, 1, 8, .v .nilFunc, none⟩,
  ⟨.other, 1, 8, .v .nilFunc, none⟩,
  ⟨.other, 0, 0, default, none⟩,
  ⟨.other, 1, 8, .v .nilFunc, none⟩,
  ⟨.other, 1, 8, .v .nilFunc, none⟩,
  ⟨.other, 1, 8, .v .nilFunc, none⟩,
  ⟨.strct [(0, 3), (1, 9), (2, 9)], 3, 40, .agg [.v (.int .i64 0), .s [], .s []], some (1, [.int .i64, .str, .str])⟩,
  ⟨.strct [(0, 3), (1, 9), (2, 9)], 3, 40, .agg [.v (.int .i64 0), .s [], .s []], some (1, [.int .i64, .str, .str])⟩,
  ⟨.other, 1, 8, .v .nilFunc, none⟩,
  ⟨.other, 1, 8, .v .nilFunc, none⟩,
  ⟨.other, 1, 8, .v .nilFunc, none⟩,
  ⟨.strct [(0, 3), (1, 9), (2, 9)], 3, 40, .agg [.v (.int .i64 0), .s [], .s []], some (1, [.int .i64, .str, .str])⟩,
  ⟨.strct [(0, 3), (1, 9), (2, 9)], 3, 40, .agg [.v (.int .i64 0), .s [], .s []], some (1, [.int .i64, .str, .str])⟩,
  ⟨.other, 1, 8, .v .nilFunc, none⟩,
  ⟨.other, 1, 8, .v .nilFunc, none⟩,
  ⟨.other, 1, 8, .v .nilFunc, none⟩,
  ⟨.other, 1, 8, .v .nilFunc, none⟩,
  ⟨.other, 1, 8, .v .nilFunc, none⟩,
  ⟨.other, 1, 8, .v .nilFunc, none⟩,
  ⟨.other, 1, 8, .v .nilFunc, none⟩,
  ⟨.other, 1, 8, .v .nilFunc, none⟩,
  ⟨.other, 1, 8, .v .nilFunc, none⟩,
  ⟨.other, 1, 8, .v .nilFunc, none⟩,
  ⟨.ptr 133, 1, 8, .v (.pointer none), none⟩,
  ⟨.map 9 241, 1, 8, .v (.map none), none⟩,
  ⟨.strct [(0, 131), (1, 3)], 2, 16, .agg [.v (.map none), .v (.int .i64 0)], none⟩,
  ⟨.strct [(0, 131), (1, 3)], 2, 16, .agg [.v (.map none), .v (.int .i64 0)], none⟩,
  ⟨.other, 1, 8, .v .nilFunc, none⟩,
  ⟨.other, 1, 8, .v .nilFunc, none⟩,
  ⟨.slice 144, 1, 24, .sl [] .full, none⟩,
  ⟨.other, 0, 0, default, none⟩,
  ⟨.other, 1, 8, .v .nilFunc, none⟩,
  ⟨.ptr 141, 1, 8, .v (.pointer none), none⟩,
  ⟨.strct [(0, 136), (1, 3), (2, 3), (3, 55), (4, 3)], 5, 56, .agg [.sl [] .full, .v (.int .i64 0), .v (.int .i64 0), .v (.int .i64 0), .v (.int .i64 0)], none⟩,
  ⟨.strct [(0, 136), (1, 3), (2, 3), (3, 55), (4, 3)], 5, 56, .agg [.sl [] .full, .v (.int .i64 0), .v (.int .i64 0), .v (.int .i64 0), .v (.int .i64 0)], none⟩,
  ⟨.other, 1, 8, .v .nilFunc, none⟩,
  ⟨.strct [(0, 3), (1, 3), (2, 3), (3, 9)], 4, 40, .agg [.v (.int .i64 0), .v (.int .i64 0), .v (.int .i64 0), .s []], some (1, [.int .i64, .int .i64, .int .i64, .str])⟩,
  ⟨.strct [(0, 3), (1, 3), (2, 3), (3, 9)], 4, 40, .agg [.v (.int .i64 0), .v (.int .i64 0), .v (.int .i64 0), .s []], some (1, [.int .i64, .int .i64, .int .i64, .str])⟩,
  ⟨.other, 1, 8, .v .nilFunc, none⟩,
  ⟨.other, 1, 8, .v .nilFunc, none⟩,
  ⟨.other, 1, 8, .v .nilFunc, none⟩,
  ⟨.other, 1, 8, .v .nilFunc, none⟩,
  ⟨.other, 1, 8, .v .nilFunc, none⟩,
  ⟨.other, 1, 8, .v .nilFunc, none⟩,
  ⟨.other, 1, 8, .v .nilFunc, none⟩,
  ⟨.other, 1, 8, .v .nilFunc, none⟩,
  ⟨.other, 1, 8, .v .nilFunc, none⟩,
  ⟨.other, 1, 8, .v .nilFunc, none⟩,
  ⟨.other, 1, 8, .v .nilFunc, none⟩,
  ⟨.other, 0, 0, default, none⟩,
  ⟨.other, 1, 8, .v .nilFunc, none⟩,
  ⟨.ptr 160, 1, 8, .v (.pointer none), none⟩,
  ⟨.strct [(0, 136), (1, 3), (2, 3), (3, 3), (4, 3)], 5, 56, .agg [.sl [] .full, .v (.int .i64 0), .v (.int .i64 0), .v (.int .i64 0), .v (.int .i64 0)], none⟩,
  ⟨.strct [(0, 136), (1, 3), (2, 3), (3, 3), (4, 3)], 5, 56, .agg [.sl [] .full, .v (.int .i64 0), .v (.int .i64 0), .v (.int .i64 0), .v (.int .i64 0)], none⟩,
  ⟨.other, 1, 8, .v .nilFunc, none⟩,
  ⟨.other, 1, 8, .v .nilFunc, none⟩,
  ⟨.other, 1, 8, .v .nilFunc, none⟩,
  ⟨.other, 1, 8, .v .nilFunc, none⟩,
  ⟨.strct [(0, 3), (1, 3), (2, 9)], 3, 32, .agg [.v (.int .i64 0), .v (.int .i64 0), .s []], some (1, [.int .i64, .int .i64, .str])⟩,
  ⟨.strct [(0, 3), (1, 3), (2, 9)], 3, 32, .agg [.v (.int .i64 0), .v (.int .i64 0), .s []], some (1, [.int .i64, .int .i64, .str])⟩,
  ⟨.slice 172, 1, 24, .sl [] .full, none⟩,
  ⟨.strct [(0, 9), (1, 4), (2, 27), (3, 167), (4, 30)], 5, 96, .agg [.s [], .v (.bool false), .sl [] .full, .sl [] .full, .sl [] .full], none⟩,
  ⟨.strct [(0, 9), (1, 4), (2, 27), (3, 167), (4, 30)], 5, 96, .agg [.s [], .v (.bool false), .sl [] .full, .sl [] .full, .sl [] .full], none⟩,
  ⟨.other, 1, 8, .v .nilFunc, none⟩,
  ⟨.strct [(0, 3), (1, 38), (4, 93)], 7, 72, .agg [.v (.int .i64 0), .v (.int .i64 0), .v (.int .i64 0), .s [], .v (.int .i64 0), .s [], .v (.bool false)], some (2, [.int .i64, .int .i64, .int .i64, .str, .int .i64, .str, .bool])⟩,
  ⟨.strct [(0, 3), (1, 38), (4, 93)], 7, 72, .agg [.v (.int .i64 0), .v (.int .i64 0), .v (.int .i64 0), .s [], .v (.int .i64 0), .s [], .v (.bool false)], some (2, [.int .i64, .int .i64, .int .i64, .str, .int .i64, .str, .bool])⟩,
  ⟨.other, 1, 8, .v .nilFunc, none⟩,
  ⟨.other, 1, 8, .v .nilFunc, none⟩,
  ⟨.other, 1, 8, .v .nilFunc, none⟩,
  ⟨.other, 1, 8, .v .nilFunc, none⟩,
  ⟨.other, 1, 8, .v .nilFunc, none⟩,
  ⟨.other, 1, 8, .v .nilFunc, none⟩,
  ⟨.other, 1, 8, .v .nilFunc, none⟩,
  ⟨.other, 1, 8, .v .nilFunc, none⟩,
  ⟨.other, 0, 0, default, none⟩,
  ⟨.other, 1, 8, .v .nilFunc, none⟩,
  ⟨.other, 1, 8, .v .nilFunc, none⟩,
  ⟨.other, 1, 8, .v .nilFunc, none⟩,
  ⟨.other, 1, 8, .v .nilFunc, none⟩,
  ⟨.other, 1, 8, .v .nilFunc, none⟩,
  ⟨.other, 1, 8, .v .nilFunc, none⟩,
  ⟨.other, 1, 8, .v .nilFunc, none⟩,
  ⟨.other, 1, 8, .v .nilFunc, none⟩,
  ⟨.other, 1, 8, .v .nilFunc, none⟩,
  ⟨.other, 1, 8, .v .nilFunc, none⟩,
  ⟨.other, 1, 8, .v .nilFunc, none⟩,
  ⟨.other, 1, 8, .v .nilFunc, none⟩,
  ⟨.other, 1, 8, .v .nilFunc, none⟩,
  ⟨.other, 1, 8, .v .nilFunc, none⟩,
  ⟨.other, 1, 8, .v .nilFunc, none⟩,
  ⟨.other, 1, 8, .v .nilFunc, none⟩,
  ⟨.other, 1, 8, .v .nilFunc, none⟩,
  ⟨.other, 1, 8, .v .nilFunc, none⟩,
  ⟨.int .u64, 1, 8, .v (.int .u64 0), some (0, [.int .u64])⟩,
  ⟨.other, 0, 0, default, none⟩,
  ⟨.other, 1, 8, .v .nilFunc, none⟩,
  ⟨.other, 0, 0, default, none⟩,
  ⟨.other, 1, 8, .v .nilFunc, none⟩,
  ⟨.other, 1, 8, .v .nilFunc, none⟩,
  ⟨.other, 1, 8, .v .nilFunc, none⟩,
  ⟨.ptr 209, 1, 8, .v (.pointer none), none⟩,
  ⟨.strct [(0, 78), (1, 3)], 2, 32, .agg [.sl [] .full, .v (.int .i64 0)], none⟩,
  ⟨.strct [(0, 78), (1, 3)], 2, 32, .agg [.sl [] .full, .v (.int .i64 0)], none⟩,
  ⟨.other, 1, 8, .v .nilFunc, none⟩,
  ⟨.slice 215, 1, 24, .sl [] .full, none⟩,
  ⟨.other, 1, 8, .v .nilFunc, none⟩,
  ⟨.strct [(0, 93), (3, 3), (4, 38)], 7, 72, .agg [.v (.int .i64 0), .s [], .v (.bool false), .v (.int .i64 0), .v (.int .i64 0), .v (.int .i64 0), .s []], some (2, [.int .i64, .str, .bool, .int .i64, .int .i64, .int .i64, .str])⟩,
  ⟨.strct [(0, 93), (3, 3), (4, 38)], 7, 72, .agg [.v (.int .i64 0), .s [], .v (.bool false), .v (.int .i64 0), .v (.int .i64 0), .v (.int .i64 0), .s []], some (2, [.int .i64, .str, .bool, .int .i64, .int .i64, .int .i64, .str])⟩,
  ⟨.slice 214, 1, 24, .sl [] .full, none⟩,
  ⟨.other, 1, 8, .v .nilFunc, none⟩,
  ⟨.other, 1, 8, .v .nilFunc, none⟩,
  ⟨.other, 1, 8, .v .nilFunc, none⟩,
  ⟨.other, 1, 8, .v .nilFunc, none⟩,
  ⟨.other, 0, 0, default, none⟩,
  ⟨.other, 1, 8, .v .nilFunc, none⟩,
  ⟨.other, 0, 0, default, none⟩,
  ⟨.other, 1, 8, .v .nilFunc, none⟩,
  ⟨.other, 1, 8, .v .nilFunc, none⟩,
  ⟨.other, 1, 8, .v .nilFunc, none⟩,
  ⟨.other, 1, 8, .v .nilFunc, none⟩,
  ⟨.other, 1, 8, .v .nilFunc, none⟩,
  ⟨.other, 1, 8, .v .nilFunc, none⟩,
  ⟨.other, 1, 8, .v .nilFunc, none⟩,
  ⟨.other, 1, 8, .v .nilFunc, none⟩,
  ⟨.other, 0, 0, default, none⟩,
  ⟨.other, 1, 8, .v .nilFunc, none⟩,
  ⟨.int .u64, 1, 8, .v (.int .u64 0), some (0, [.int .u64])⟩,
  ⟨.other, 1, 8, .v .nilFunc, none⟩,
  ⟨.other, 1, 8, .v .nilFunc, none⟩,
  ⟨.other, 0, 0, default, none⟩,
  ⟨.other, 1, 8, .v .nilFunc, none⟩,
  ⟨.other, 1, 8, .v .nilFunc, none⟩,
  ⟨.other, 1, 8, .v .nilFunc, none⟩,
  ⟨.other, 1, 8, .v .nilFunc, none⟩,
  ⟨.strct [], 0, 0, default, none⟩,
  ⟨.other, 0, 0, default, none⟩,
  ⟨.other, 1, 8, .v .nilFunc, none⟩,
  ⟨.slice 4, 1, 24, .sl [] .full, none⟩,
  ⟨.other, 0, 0, default, none⟩,
  ⟨.other, 1, 8, .v .nilFunc, none⟩,
  ⟨.other, 1, 8, .v .nilFunc, none⟩,
  ⟨.iface, 1, 16, .v .nilIface, none⟩,
  ⟨.iface, 1, 16, .v .nilIface, none⟩,
  ⟨.other, 0, 0, default, none⟩,
  ⟨.other, 1, 8, .v .nilFunc, none⟩,
  ⟨.other, 1, 8, .v .nilFunc, none⟩,
  ⟨.other, 1, 8, .v .nilFunc, none⟩,
  ⟨.other, 1, 8, .v .nilFunc, none⟩,
  ⟨.other, 1, 8, .v .nilFunc, none⟩,
  ⟨.other, 1, 8, .v .nilFunc, none⟩,
  ⟨.other, 1, 8, .v .nilFunc, none⟩,
  ⟨.other, 1, 8, .v .nilFunc, none⟩,
  ⟨.other, 1, 8, .v .nilFunc, none⟩,
  ⟨.other, 1, 8, .v .nilFunc, none⟩,
  ⟨.other, 1, 8, .v .nilFunc, none⟩,
  ⟨.other, 1, 8, .v .nilFunc, none⟩,
  ⟨.other, 1, 8, .v .nilFunc, none⟩,
  ⟨.other, 1, 8, .v .nilFunc, none⟩,
  ⟨.int .i64, 1, 8, .v (.int .i64 0), some (0, [.int .i64])⟩,
  ⟨.other, 0, 0, default, none⟩,
  ⟨.other, 1, 8, .v .nilFunc, none⟩,
  ⟨.ptr 276, 1, 8, .v (.pointer none), none⟩,
  ⟨.other, 1, 8, .v .nilFunc, none⟩,
  ⟨.other, 1, 8, .v .nilFunc, none⟩,
  ⟨.other, 0, 0, default, none⟩,
  ⟨.other, 1, 8, .v .nilFunc, none⟩,
  ⟨.other, 0, 0, default, none⟩,
  ⟨.other, 1, 8, .v .nilFunc, none⟩,
  ⟨.strct [(0, 9), (1, 9), (2, 249)], 3, 48, .agg [.s [], .s [], .v .nilIface], none⟩,
  ⟨.strct [(0, 9), (1, 9), (2, 249)], 3, 48, .agg [.s [], .s [], .v .nilIface], none⟩,
  ⟨.other, 1, 8, .v .nilFunc, none⟩,
  ⟨.other, 1, 8, .v .nilFunc, none⟩,
  ⟨.other, 1, 8, .v .nilFunc, none⟩,
  ⟨.ptr 5, 1, 8, .v (.pointer none), none⟩,
  ⟨.ptr 283, 1, 8, .v (.pointer none), none⟩,
  ⟨.strct [(0, 9)], 1, 16, .agg [.s []], some (1, [.str])⟩,
  ⟨.strct [(0, 9)], 1, 16, .agg [.s []], some (1, [.str])⟩,
  ⟨.other, 1, 8, .v .nilFunc, none⟩,
  ⟨.arr 24 5, 24, 24, .agg [.v (.int .u8 0), .v (.int .u8 0), .v (.int .u8 0), .v (.int .u8 0), .v (.int .u8 0), .v (.int .u8 0), .v (.int .u8 0), .v (.int .u8 0), .v (.int .u8 0), .v (.int .u8 0), .v (.int .u8 0), .v (.int .u8 0), .v (.int .u8 0), .v (.int .u8 0), .v (.int .u8 0), .v (.int .u8 0), .v (.int .u8 0), .v (.int .u8 0), .v (.int .u8 0), .v (.int .u8 0), .v (.int .u8 0), .v (.int .u8 0), .v (.int .u8 0), .v (.int .u8 0)], some (1, [.int .u8, .int .u8, .int .u8, .int .u8, .int .u8, .int .u8, .int .u8, .int .u8, .int .u8, .int .u8, .int .u8, .int .u8, .int .u8, .int .u8, .int .u8, .int .u8, .int .u8, .int .u8, .int .u8, .int .u8, .int .u8, .int .u8, .int .u8, .int .u8])⟩,
  ⟨.other, 1, 8, .v .nilFunc, none⟩,
  ⟨.other, 1, 8, .v .nilFunc, none⟩,
  ⟨.other, 0, 0, default, none⟩,
  ⟨.other, 1, 8, .v .nilFunc, none⟩,
  ⟨.other, 1, 8, .v .nilFunc, none⟩,
  ⟨.other, 1, 8, .v .nilFunc, none⟩,
  ⟨.arr 20 200, 20, 160, .agg [.v (.int .u64 0), .v (.int .u64 0), .v (.int .u64 0), .v (.int .u64 0), .v (.int .u64 0), .v (.int .u64 0), .v (.int .u64 0), .v (.int .u64 0), .v (.int .u64 0), .v (.int .u64 0), .v (.int .u64 0), .v (.int .u64 0), .v (.int .u64 0), .v (.int .u64 0), .v (.int .u64 0), .v (.int .u64 0), .v (.int .u64 0), .v (.int .u64 0), .v (.int .u64 0), .v (.int .u64 0)], some (1, [.int .u64, .int .u64, .int .u64, .int .u64, .int .u64, .int .u64, .int .u64, .int .u64, .int .u64, .int .u64, .int .u64, .int .u64, .int .u64, .int .u64, .int .u64, .int .u64, .int .u64, .int .u64, .int .u64, .int .u64])⟩,
  ⟨.int .u32, 1, 4, .v (.int .u32 0), some (0, [.int .u32])⟩,
  ⟨.arr 65 5, 65, 65, .agg [.v (.int .u8 0), .v (.int .u8 0), .v (.int .u8 0), .v (.int .u8 0), .v (.int .u8 0), .v (.int .u8 0), .v (.int .u8 0), .v (.int .u8 0), .v (.int .u8 0), .v (.int .u8 0), .v (.int .u8 0), .v (.int .u8 0), .v (.int .u8 0), .v (.int .u8 0), .v (.int .u8 0), .v (.int .u8 0), .v (.int .u8 0), .v (.int .u8 0), .v (.int .u8 0), .v (.int .u8 0), .v (.int .u8 0), .v (.int .u8 0), .v (.int .u8 0), .v (.int .u8 0), .v (.int .u8 0), .v (.int .u8 0), .v (.int .u8 0), .v (.int .u8 0), .v (.int .u8 0), .v (.int .u8 0), .v (.int .u8 0), .v (.int .u8 0), .v (.int .u8 0), .v (.int .u8 0), .v (.int .u8 0), .v (.int .u8 0), .v (.int .u8 0), .v (.int .u8 0), .v (.int .u8 0), .v (.int .u8 0), .v (.int .u8 0), .v (.int .u8 0), .v (.int .u8 0), .v (.int .u8 0), .v (.int .u8 0), .v (.int .u8 0), .v (.int .u8 0), .v (.int .u8 0), .v (.int .u8 0), .v (.int .u8 0), .v (.int .u8 0), .v (.int .u8 0), .v (.int .u8 0), .v (.int .u8 0), .v (.int .u8 0), .v (.int .u8 0), .v (.int .u8 0), .v (.int .u8 0), .v (.int .u8 0), .v (.int .u8 0), .v (.int .u8 0), .v (.int .u8 0), .v (.int .u8 0), .v (.int .u8 0), .v (.int .u8 0)], none⟩,
  ⟨.other, 1, 8, .v .nilFunc, none⟩,
  ⟨.other, 1, 8, .v .nilFunc, none⟩,
  ⟨.arr 32 5, 32, 32, .agg [.v (.int .u8 0), .v (.int .u8 0), .v (.int .u8 0), .v (.int .u8 0), .v (.int .u8 0), .v (.int .u8 0), .v (.int .u8 0), .v (.int .u8 0), .v (.int .u8 0), .v (.int .u8 0), .v (.int .u8 0), .v (.int .u8 0), .v (.int .u8 0), .v (.int .u8 0), .v (.int .u8 0), .v (.int .u8 0), .v (.int .u8 0), .v (.int .u8 0), .v (.int .u8 0), .v (.int .u8 0), .v (.int .u8 0), .v (.int .u8 0), .v (.int .u8 0), .v (.int .u8 0), .v (.int .u8 0), .v (.int .u8 0), .v (.int .u8 0), .v (.int .u8 0), .v (.int .u8 0), .v (.int .u8 0), .v (.int .u8 0), .v (.int .u8 0)], some (1, [.int .u8, .int .u8, .int .u8, .int .u8, .int .u8, .int .u8, .int .u8, .int .u8, .int .u8, .int .u8, .int .u8, .int .u8, .int .u8, .int .u8, .int .u8, .int .u8, .int .u8, .int .u8, .int .u8, .int .u8, .int .u8, .int .u8, .int .u8, .int .u8, .int .u8, .int .u8, .int .u8, .int .u8, .int .u8, .int .u8, .int .u8, .int .u8])⟩,
  ⟨.arr 64 5, 64, 64, .agg [.v (.int .u8 0), .v (.int .u8 0), .v (.int .u8 0), .v (.int .u8 0), .v (.int .u8 0), .v (.int .u8 0), .v (.int .u8 0), .v (.int .u8 0), .v (.int .u8 0), .v (.int .u8 0), .v (.int .u8 0), .v (.int .u8 0), .v (.int .u8 0), .v (.int .u8 0), .v (.int .u8 0), .v (.int .u8 0), .v (.int .u8 0), .v (.int .u8 0), .v (.int .u8 0), .v (.int .u8 0), .v (.int .u8 0), .v (.int .u8 0), .v (.int .u8 0), .v (.int .u8 0), .v (.int .u8 0), .v (.int .u8 0), .v (.int .u8 0), .v (.int .u8 0), .v (.int .u8 0), .v (.int .u8 0), .v (.int .u8 0), .v (.int .u8 0), .v (.int .u8 0), .v (.int .u8 0), .v (.int .u8 0), .v (.int .u8 0), .v (.int .u8 0), .v (.int .u8 0), .v (.int .u8 0), .v (.int .u8 0), .v (.int .u8 0), .v (.int .u8 0), .v (.int .u8 0), .v (.int .u8 0), .v (.int .u8 0), .v (.int .u8 0), .v (.int .u8 0), .v (.int .u8 0), .v (.int .u8 0), .v (.int .u8 0), .v (.int .u8 0), .v (.int .u8 0), .v (.int .u8 0), .v (.int .u8 0), .v (.int .u8 0), .v (.int .u8 0), .v (.int .u8 0), .v (.int .u8 0), .v (.int .u8 0), .v (.int .u8 0), .v (.int .u8 0), .v (.int .u8 0), .v (.int .u8 0), .v (.int .u8 0)], none⟩,
  ⟨.strct [(0, 17), (1, 17), (2, 17), (3, 9)], 4, 40, .agg [.v (.pointer none), .v (.pointer none), .v (.pointer none), .s []], none⟩,
  ⟨.strct [(0, 17), (1, 17), (2, 17), (3, 9)], 4, 40, .agg [.v (.pointer none), .v (.pointer none), .v (.pointer none), .s []], none⟩,
  ⟨.arr 0 16, 0, 0, default, none⟩,
  ⟨.other, 0, 0, default, none⟩,
  ⟨.other, 0, 0, default, none⟩,
  ⟨.other, 1, 8, .v .nilFunc, none⟩,
  ⟨.int .u8, 1, 1, .v (.int .u8 0), some (0, [.int .u8])⟩,
  ⟨.int .u8, 1, 1, .v (.int .u8 0), some (0, [.int .u8])⟩,
  ⟨.other, 1, 8, .v .nilFunc, none⟩,
  ⟨.int .i32, 1, 4, .v (.int .i32 0), some (0, [.int .i32])⟩,
  ⟨.int .i32, 1, 4, .v (.int .i32 0), some (0, [.int .i32])⟩,
  ⟨.strct [(0, 12), (1, 12), (2, 293), (3, 305), (4, 5), (5, 5), (6, 306), (7, 307), (8, 280), (9, 308), (10, 309)], 11, 48, .agg [.v (.int .u64 0), .v (.int .u64 0), .v (.int .u32 0), .v (.int .u8 0), .v (.int .u8 0), .v (.int .u8 0), .v (.int .u8 0), .v .nilFunc, .v (.pointer none), .v (.int .i32 0), .v (.int .i32 0)], none⟩,
  ⟨.strct [(0, 12), (1, 12), (2, 293), (3, 305), (4, 5), (5, 5), (6, 306), (7, 307), (8, 280), (9, 308), (10, 309)], 11, 48, .agg [.v (.int .u64 0), .v (.int .u64 0), .v (.int .u32 0), .v (.int .u8 0), .v (.int .u8 0), .v (.int .u8 0), .v (.int .u8 0), .v .nilFunc, .v (.pointer none), .v (.int .i32 0), .v (.int .i32 0)], none⟩,
  ⟨.other, 1, 8, .v (.pointer none), none⟩]
def U (t : TypeId) : TI := tyRows.getD t ⟨.other, 0, 0, default, none⟩
@[go_sem] theorem U3k : (U 3).k = .int .i64 := rfl
@[go_sem] theorem U3s : (U 3).sz = 1 := rfl
@[go_sem] theorem U3b : (U 3).bytes = 8 := rfl
@[go_sem] theorem U3z : (U 3).zero = .v (.int .i64 0) := rfl
@[go_sem] theorem U4k : (U 4).k = .bool := rfl
@[go_sem] theorem U4s : (U 4).sz = 1 := rfl
@[go_sem] theorem U4b : (U 4).bytes = 1 := rfl
@[go_sem] theorem U4z : (U 4).zero = .v (.bool false) := rfl
@[go_sem] theorem U5k : (U 5).k = .int .u8 := rfl
@[go_sem] theorem U5s : (U 5).sz = 1 := rfl
@[go_sem] theorem U5b : (U 5).bytes = 1 := rfl
@[go_sem] theorem U5z : (U 5).zero = .v (.int .u8 0) := rfl
@[go_sem] theorem U9k : (U 9).k = .str := rfl
@[go_sem] theorem U9s : (U 9).sz = 1 := rfl
@[go_sem] theorem U9b : (U 9).bytes = 16 := rfl
@[go_sem] theorem U9z : (U 9).zero = .s [] := rfl
@[go_sem] theorem U22k : (U 22).k = .slice 63 := rfl
@[go_sem] theorem U22s : (U 22).sz = 1 := rfl
@[go_sem] theorem U22b : (U 22).bytes = 24 := rfl
@[go_sem] theorem U22z : (U 22).zero = .sl [] .full := rfl
@[go_sem] theorem U23k : (U 23).k = .slice 105 := rfl
@[go_sem] theorem U23s : (U 23).sz = 1 := rfl
@[go_sem] theorem U23b : (U 23).bytes = 24 := rfl
@[go_sem] theorem U23z : (U 23).zero = .sl [] .full := rfl
@[go_sem] theorem U24k : (U 24).k = .slice 114 := rfl
@[go_sem] theorem U24s : (U 24).sz = 1 := rfl
@[go_sem] theorem U24b : (U 24).bytes = 24 := rfl
@[go_sem] theorem U24z : (U 24).zero = .sl [] .full := rfl
@[go_sem] theorem U25k : (U 25).k = .slice 75 := rfl
@[go_sem] theorem U25s : (U 25).sz = 1 := rfl
@[go_sem] theorem U25b : (U 25).bytes = 24 := rfl
@[go_sem] theorem U25z : (U 25).zero = .sl [] .full := rfl
@[go_sem] theorem U27k : (U 27).k = .slice 211 := rfl
@[go_sem] theorem U27s : (U 27).sz = 1 := rfl
@[go_sem] theorem U27b : (U 27).bytes = 24 := rfl
@[go_sem] theorem U27z : (U 27).zero = .sl [] .full := rfl
@[go_sem] theorem U28k : (U 28).k = .slice 169 := rfl
@[go_sem] theorem U28s : (U 28).sz = 1 := rfl
@[go_sem] theorem U28b : (U 28).bytes = 24 := rfl
@[go_sem] theorem U28z : (U 28).zero = .sl [] .full := rfl
@[go_sem] theorem U29k : (U 29).k = .slice 32 := rfl
@[go_sem] theorem U29s : (U 29).sz = 1 := rfl
@[go_sem] theorem U29b : (U 29).bytes = 24 := rfl
@[go_sem] theorem U29z : (U 29).zero = .sl [] .full := rfl
@[go_sem] theorem U30k : (U 30).k = .slice 166 := rfl
@[go_sem] theorem U30s : (U 30).sz = 1 := rfl
@[go_sem] theorem U30b : (U 30).bytes = 24 := rfl
@[go_sem] theorem U30z : (U 30).zero = .sl [] .full := rfl
@[go_sem] theorem U32k : (U 32).k = .strct [(0, 9), (1, 4), (2, 3), (3, 27), (4, 28), (5, 29), (6, 30)] := rfl
@[go_sem] theorem U32s : (U 32).sz = 7 := rfl
@[go_sem] theorem U32b : (U 32).bytes = 128 := rfl
@[go_sem] theorem U32z : (U 32).zero = .agg [.s [], .v (.bool false), .v (.int .i64 0), .sl [] .full, .sl [] .full, .sl [] .full, .sl [] .full] := rfl
@[go_sem] theorem U34k : (U 34).k = .strct [(0, 3), (1, 22), (2, 23), (3, 24), (4, 25), (5, 32), (12, 3)] := rfl
@[go_sem] theorem U34s : (U 34).sz = 13 := rfl
@[go_sem] theorem U34b : (U 34).bytes = 240 := rfl
@[go_sem] theorem U34z : (U 34).zero = .agg [.v (.int .i64 0), .sl [] .full, .sl [] .full, .sl [] .full, .sl [] .full, .s [], .v (.bool false), .v (.int .i64 0), .sl [] .full, .sl [] .full, .sl [] .full, .sl [] .full, .v (.int .i64 0)] := rfl
@[go_sem] theorem U38k : (U 38).k = .strct [(0, 3), (1, 3), (2, 9)] := rfl
@[go_sem] theorem U38s : (U 38).sz = 3 := rfl
@[go_sem] theorem U38b : (U 38).bytes = 32 := rfl
@[go_sem] theorem U38z : (U 38).zero = .agg [.v (.int .i64 0), .v (.int .i64 0), .s []] := rfl
@[go_sem] theorem U38e : (U 38).eq = some (1, [.int .i64, .int .i64, .str]) := rfl
@[go_sem] theorem U40k : (U 40).k = .strct [(0, 3), (1, 9), (2, 9), (3, 9), (4, 9), (5, 38), (8, 3), (9, 9), (10, 9), (11, 4)] := rfl
@[go_sem] theorem U40s : (U 40).sz = 12 := rfl
@[go_sem] theorem U40b : (U 40).bytes = 152 := rfl
@[go_sem] theorem U40z : (U 40).zero = .agg [.v (.int .i64 0), .s [], .s [], .s [], .s [], .v (.int .i64 0), .v (.int .i64 0), .s [], .v (.int .i64 0), .s [], .s [], .v (.bool false)] := rfl
@[go_sem] theorem U40e : (U 40).eq = some (2, [.int .i64, .str, .str, .str, .str, .int .i64, .int .i64, .str, .int .i64, .str, .str, .bool]) := rfl
@[go_sem] theorem U41k : (U 41).k = .slice 38 := rfl
@[go_sem] theorem U41s : (U 41).sz = 1 := rfl
@[go_sem] theorem U41b : (U 41).bytes = 24 := rfl
@[go_sem] theorem U41z : (U 41).zero = .sl [] .full := rfl
@[go_sem] theorem U43k : (U 43).k = .strct [(0, 3), (1, 9), (2, 41)] := rfl
@[go_sem] theorem U43s : (U 43).sz = 3 := rfl
@[go_sem] theorem U43b : (U 43).bytes = 48 := rfl
@[go_sem] theorem U43z : (U 43).zero = .agg [.v (.int .i64 0), .s [], .sl [] .full] := rfl
@[go_sem] theorem U45k : (U 45).k = .slice 43 := rfl
@[go_sem] theorem U45s : (U 45).sz = 1 := rfl
@[go_sem] theorem U45b : (U 45).bytes = 24 := rfl
@[go_sem] theorem U45z : (U 45).zero = .sl [] .full := rfl
@[go_sem] theorem U49k : (U 49).k = .slice 40 := rfl
@[go_sem] theorem U49s : (U 49).sz = 1 := rfl
@[go_sem] theorem U49b : (U 49).bytes = 24 := rfl
@[go_sem] theorem U49z : (U 49).zero = .sl [] .full := rfl
@[go_sem] theorem U55k : (U 55).k = .int .i64 := rfl
@[go_sem] theorem U55s : (U 55).sz = 1 := rfl
@[go_sem] theorem U55b : (U 55).bytes = 8 := rfl
@[go_sem] theorem U55z : (U 55).zero = .v (.int .i64 0) := rfl
@[go_sem] theorem U60k : (U 60).k = .slice 84 := rfl
@[go_sem] theorem U60s : (U 60).sz = 1 := rfl
@[go_sem] theorem U60b : (U 60).bytes = 24 := rfl
@[go_sem] theorem U60z : (U 60).zero = .sl [] .full := rfl
@[go_sem] theorem U61k : (U 61).k = .slice 119 := rfl
@[go_sem] theorem U61s : (U 61).sz = 1 := rfl
@[go_sem] theorem U61b : (U 61).bytes = 24 := rfl
@[go_sem] theorem U61z : (U 61).zero = .sl [] .full := rfl
@[go_sem] theorem U63k : (U 63).k = .strct [(0, 9), (1, 9), (2, 9), (3, 60), (4, 61)] := rfl
@[go_sem] theorem U63s : (U 63).sz = 5 := rfl
@[go_sem] theorem U63b : (U 63).bytes = 96 := rfl
@[go_sem] theorem U63z : (U 63).zero = .agg [.s [], .s [], .s [], .sl [] .full, .sl [] .full] := rfl
@[go_sem] theorem U75k : (U 75).k = .strct [(0, 9), (1, 9)] := rfl
@[go_sem] theorem U75s : (U 75).sz = 2 := rfl
@[go_sem] theorem U75b : (U 75).bytes = 32 := rfl
@[go_sem] theorem U75z : (U 75).zero = .agg [.s [], .s []] := rfl
@[go_sem] theorem U75e : (U 75).eq = some (1, [.str, .str]) := rfl
@[go_sem] theorem U78k : (U 78).k = .slice 9 := rfl
@[go_sem] theorem U78s : (U 78).sz = 1 := rfl
@[go_sem] theorem U78b : (U 78).bytes = 24 := rfl
@[go_sem] theorem U78z : (U 78).zero = .sl [] .full := rfl
@[go_sem] theorem U82k : (U 82).k = .slice 5 := rfl
@[go_sem] theorem U82s : (U 82).sz = 1 := rfl
@[go_sem] theorem U82b : (U 82).bytes = 24 := rfl
@[go_sem] theorem U82z : (U 82).zero = .sl [] .full := rfl
@[go_sem] theorem U84k : (U 84).k = .strct [(0, 9), (1, 38)] := rfl
@[go_sem] theorem U84s : (U 84).sz = 4 := rfl
@[go_sem] theorem U84b : (U 84).bytes = 48 := rfl
@[go_sem] theorem U84z : (U 84).zero = .agg [.s [], .v (.int .i64 0), .v (.int .i64 0), .s []] := rfl
@[go_sem] theorem U84e : (U 84).eq = some (2, [.str, .int .i64, .int .i64, .str]) := rfl
@[go_sem] theorem U93k : (U 93).k = .strct [(0, 3), (1, 9), (2, 4)] := rfl
@[go_sem] theorem U93s : (U 93).sz = 3 := rfl
@[go_sem] theorem U93b : (U 93).bytes = 32 := rfl
@[go_sem] theorem U93z : (U 93).zero = .agg [.v (.int .i64 0), .s [], .v (.bool false)] := rfl
@[go_sem] theorem U93e : (U 93).eq = some (1, [.int .i64, .str, .bool]) := rfl
@[go_sem] theorem U105k : (U 105).k = .strct [(0, 3), (1, 3), (2, 9), (3, 9), (4, 9), (5, 9), (6, 4)] := rfl
@[go_sem] theorem U105s : (U 105).sz = 7 := rfl
@[go_sem] theorem U105b : (U 105).bytes = 88 := rfl
@[go_sem] theorem U105z : (U 105).zero = .agg [.v (.int .i64 0), .v (.int .i64 0), .s [], .s [], .s [], .s [], .v (.bool false)] := rfl
@[go_sem] theorem U114k : (U 114).k = .strct [(0, 3), (1, 9), (2, 9)] := rfl
@[go_sem] theorem U114s : (U 114).sz = 3 := rfl
@[go_sem] theorem U114b : (U 114).bytes = 40 := rfl
@[go_sem] theorem U114z : (U 114).zero = .agg [.v (.int .i64 0), .s [], .s []] := rfl
@[go_sem] theorem U119k : (U 119).k = .strct [(0, 3), (1, 9), (2, 9)] := rfl
@[go_sem] theorem U119s : (U 119).sz = 3 := rfl
@[go_sem] theorem U119b : (U 119).bytes = 40 := rfl
@[go_sem] theorem U119z : (U 119).zero = .agg [.v (.int .i64 0), .s [], .s []] := rfl
@[go_sem] theorem U119e : (U 119).eq = some (1, [.int .i64, .str, .str]) := rfl
@[go_sem] theorem U131k : (U 131).k = .map 9 241 := rfl
@[go_sem] theorem U131s : (U 131).sz = 1 := rfl
@[go_sem] theorem U131b : (U 131).bytes = 8 := rfl
@[go_sem] theorem U131z : (U 131).zero = .v (.map none) := rfl
@[go_sem] theorem U133k : (U 133).k = .strct [(0, 131), (1, 3)] := rfl
@[go_sem] theorem U133s : (U 133).sz = 2 := rfl
@[go_sem] theorem U133b : (U 133).bytes = 16 := rfl
@[go_sem] theorem U133z : (U 133).zero = .agg [.v (.map none), .v (.int .i64 0)] := rfl
@[go_sem] theorem U136k : (U 136).k = .slice 144 := rfl
@[go_sem] theorem U136s : (U 136).sz = 1 := rfl
@[go_sem] theorem U136b : (U 136).bytes = 24 := rfl
@[go_sem] theorem U136z : (U 136).zero = .sl [] .full := rfl
@[go_sem] theorem U141k : (U 141).k = .strct [(0, 136), (1, 3), (2, 3), (3, 55), (4, 3)] := rfl
@[go_sem] theorem U141s : (U 141).sz = 5 := rfl
@[go_sem] theorem U141b : (U 141).bytes = 56 := rfl
@[go_sem] theorem U141z : (U 141).zero = .agg [.sl [] .full, .v (.int .i64 0), .v (.int .i64 0), .v (.int .i64 0), .v (.int .i64 0)] := rfl
@[go_sem] theorem U144k : (U 144).k = .strct [(0, 3), (1, 3), (2, 3), (3, 9)] := rfl
@[go_sem] theorem U144s : (U 144).sz = 4 := rfl
@[go_sem] theorem U144b : (U 144).bytes = 40 := rfl
@[go_sem] theorem U144z : (U 144).zero = .agg [.v (.int .i64 0), .v (.int .i64 0), .v (.int .i64 0), .s []] := rfl
@[go_sem] theorem U166k : (U 166).k = .strct [(0, 3), (1, 3), (2, 9)] := rfl
@[go_sem] theorem U166s : (U 166).sz = 3 := rfl
@[go_sem] theorem U166b : (U 166).bytes = 32 := rfl
@[go_sem] theorem U166z : (U 166).zero = .agg [.v (.int .i64 0), .v (.int .i64 0), .s []] := rfl
@[go_sem] theorem U167k : (U 167).k = .slice 172 := rfl
@[go_sem] theorem U167s : (U 167).sz = 1 := rfl
@[go_sem] theorem U167b : (U 167).bytes = 24 := rfl
@[go_sem] theorem U167z : (U 167).zero = .sl [] .full := rfl
@[go_sem] theorem U169k : (U 169).k = .strct [(0, 9), (1, 4), (2, 27), (3, 167), (4, 30)] := rfl
@[go_sem] theorem U169s : (U 169).sz = 5 := rfl
@[go_sem] theorem U169b : (U 169).bytes = 96 := rfl
@[go_sem] theorem U169z : (U 169).zero = .agg [.s [], .v (.bool false), .sl [] .full, .sl [] .full, .sl [] .full] := rfl
@[go_sem] theorem U172k : (U 172).k = .strct [(0, 3), (1, 38), (4, 93)] := rfl
@[go_sem] theorem U172s : (U 172).sz = 7 := rfl
@[go_sem] theorem U172b : (U 172).bytes = 72 := rfl
@[go_sem] theorem U172z : (U 172).zero = .agg [.v (.int .i64 0), .v (.int .i64 0), .v (.int .i64 0), .s [], .v (.int .i64 0), .s [], .v (.bool false)] := rfl
@[go_sem] theorem U211k : (U 211).k = .slice 215 := rfl
@[go_sem] theorem U211s : (U 211).sz = 1 := rfl
@[go_sem] theorem U211b : (U 211).bytes = 24 := rfl
@[go_sem] theorem U211z : (U 211).zero = .sl [] .full := rfl
@[go_sem] theorem U214k : (U 214).k = .strct [(0, 93), (3, 3), (4, 38)] := rfl
@[go_sem] theorem U214s : (U 214).sz = 7 := rfl
@[go_sem] theorem U214b : (U 214).bytes = 72 := rfl
@[go_sem] theorem U214z : (U 214).zero = .agg [.v (.int .i64 0), .s [], .v (.bool false), .v (.int .i64 0), .v (.int .i64 0), .v (.int .i64 0), .s []] := rfl
@[go_sem] theorem U215k : (U 215).k = .slice 214 := rfl
@[go_sem] theorem U215s : (U 215).sz = 1 := rfl
@[go_sem] theorem U215b : (U 215).bytes = 24 := rfl
@[go_sem] theorem U215z : (U 215).zero = .sl [] .full := rfl
@[go_sem] theorem U241k : (U 241).k = .strct [] := rfl
@[go_sem] theorem U241s : (U 241).sz = 0 := rfl
@[go_sem] theorem U244k : (U 244).k = .slice 4 := rfl
@[go_sem] theorem U244s : (U 244).sz = 1 := rfl
@[go_sem] theorem U244b : (U 244).bytes = 24 := rfl
@[go_sem] theorem U244z : (U 244).zero = .sl [] .full := rfl
set_option maxRecDepth 100000 in
theorem hU : ∀ t, AgreeT Tryz.prog U t := agree_all 313 (by kernel_rfl) fun t ht => by
  unfold U
  rw [List.getD_eq_getElem?_getD, List.getElem?_eq_none (show tyRows.length ≤ t from ht)]
  rfl
theorem hm : Tryz.prog.follows .mixedOrders = true := by kernel_rfl
end Go.Proofs.YtnhelgnmadbpgaaGreatDoor

set_option linter.unusedSimpArgs false
set_option linter.unusedVariables false
namespace Go.Proofs.YtnhelgnmadbpgaaGreatDoor
open Go Go.Ab Go.Bf
theorem name_ok (l : Txt) (h : Heap) : FnOK Tryz.prog 57 [.s l] h fun r h' => r = .v (.bool (nameOK l)) ∧ h' = h := by
  refine FnOK.body hU hm Tryz.func57 rfl (by kernel_rfl) 49 rfl [.tmp 2] rfl (Nat.le_of_ble_eq_true rfl) (fun hwf => ?_)
  simp -implicitDefEqProofs only [go_sem]
  refine .intro (fun m ρ h' => h' = h ∧ ∃ i : Nat, i ≤ l.length ∧ m = l.length - i ∧ chsOK (l.take i) = true ∧ lk ρ 0 = some (.s l) ∧ lk ρ 8 = some (.v (.int .i64 l.length)) ∧ lk ρ 9 = some (.v (.int .i64 i))) l.length ?_ ?_
  · refine ⟨rfl, 0, by omega, rfl, rfl, ?_, ?_, ?_⟩ <;> simp -implicitDefEqProofs only [go_sem]
  · rintro m ρ h' ⟨rfl, i, hi, rfl, hc, r0, r8, r9⟩
    simp -implicitDefEqProofs only [go_sem, r0, r8, r9]
    refine .intro (fun e => ?_) (fun e => ?_)
    · have hlt : i < l.length := Int.ofNat_lt.1 (of_decide_eq_true e)
      have w1 : IntKind.i64.wrap ((i : Int) + 1) = ((i + 1 : Nat) : Int) := by rw [wr64 _ (by have := hwf (.s l) (by simp); simp only [wfA, wf1, lim] at this; omega)]; omega
      have w0 : IntKind.i64.wrap (0 + 1) = 1 := rfl
      have hb := chsOK_bad l i hlt
      have hg := chsOK_succ l i hlt
      rw [hc] at hg
      have hcl := chCases l[i]
      have h255 := l[i].toNat_lt
      simp -implicitDefEqProofs only [go_sem, r0, r8, r9]
      refine .at i hlt ?_
      generalize hcc : l[i] = c at hb hg hcl h255 ⊢
      by_cases hi0 : i = 0
      · subst hi0
        rcases hcl with ⟨a1, a2, a3, a4, a5⟩ | ⟨a1, a2, a3, a4, a5⟩ | ⟨a1, a2, a3, a4, a5⟩ | ⟨a1, a2, a3, a4, a5⟩ | ⟨a1, a2, a3, a4, a5⟩ | ⟨a1, a2, a3, a4, a5⟩
        · simp -implicitDefEqProofs only [go_sem, r0, r8, r9, a1, a2, a3, a4, a5, w1, w0]
          refine ⟨_, ?_, rfl, 0 + 1, by omega, rfl, by simp [hg, chOK, ltr, a1, a2], ?_, ?_, ?_⟩
          · omega
          all_goals simp -implicitDefEqProofs only [go_sem, r0, r8, r9, w1, w0]
        all_goals
          simp -implicitDefEqProofs only [go_sem, r0, r8, r9, a1, a2, a3, a4, a5, w1]
          exact .same (.refl _) ⟨by simp [nameOK, hb (by simp [chOK, ltr, a1, a2]), oneOr], rfl⟩
      · have hin : ((i : Int) == 0) = false := by simp; omega
        rcases hcl with ⟨a1, a2, a3, a4, a5⟩ | ⟨a1, a2, a3, a4, a5⟩ | ⟨a1, a2, a3, a4, a5⟩ | ⟨a1, a2, a3, a4, a5⟩ | ⟨a1, a2, a3, a4, a5⟩ | ⟨a1, a2, a3, a4, a5⟩
        · simp -implicitDefEqProofs only [go_sem, r0, r8, r9, a1, a2, a3, a4, a5, w1, hin]
          refine ⟨_, ?_, rfl, i + 1, by omega, rfl, by simp [hg, chOK, ltr, dgt, a1, a2, a3, a4, a5, hi0], ?_, ?_, ?_⟩
          · omega
          all_goals simp -implicitDefEqProofs only [go_sem, r0, r8, r9, w1]
        · simp -implicitDefEqProofs only [go_sem, r0, r8, r9, a1, a2, a3, a4, a5, w1, hin]
          refine ⟨_, ?_, rfl, i + 1, by omega, rfl, by simp [hg, chOK, ltr, dgt, a1, a2, a3, a4, a5, hi0], ?_, ?_, ?_⟩
          · omega
          all_goals simp -implicitDefEqProofs only [go_sem, r0, r8, r9, w1]
        · simp -implicitDefEqProofs only [go_sem, r0, r8, r9, a1, a2, a3, a4, a5, w1, hin]
          refine ⟨_, ?_, rfl, i + 1, by omega, rfl, by simp [hg, chOK, ltr, dgt, a1, a2, a3, a4, a5, hi0], ?_, ?_, ?_⟩
          · omega
          all_goals simp -implicitDefEqProofs only [go_sem, r0, r8, r9, w1]
        · simp -implicitDefEqProofs only [go_sem, r0, r8, r9, a1, a2, a3, a4, a5, w1, hin]
          exact .same (.refl _) ⟨by simp [nameOK, hb (by simp [chOK, ltr, dgt, a1, a2, a3, a4, a5]), oneOr], rfl⟩
        · simp -implicitDefEqProofs only [go_sem, r0, r8, r9, a1, a2, a3, a4, a5, w1, hin]
          exact .same (.refl _) ⟨by simp [nameOK, hb (by simp [chOK, ltr, dgt, a1, a2, a3, a4, a5]), oneOr], rfl⟩
        · simp -implicitDefEqProofs only [go_sem, r0, r8, r9, a1, a2, a3, a4, a5, w1, hin]
          exact .same (.refl _) ⟨by simp [nameOK, hb (by simp [chOK, ltr, dgt, a1, a2, a3, a4, a5]), oneOr], rfl⟩
    · have hge : i = l.length := by have := of_decide_eq_false e; omega
      subst hge
      rw [List.take_length] at hc
      by_cases h0 : l = []
      · subst h0
        have b0 : ((([] : Txt) == []) = true) := rfl
        simp -implicitDefEqProofs only [go_sem, r0, r8, r9, b0]
        exact .same (.refl _) ⟨rfl, rfl⟩
      · have b0 : (l == []) = false := by simpa using h0
        have hp : 1 ≤ l.length := List.length_pos_iff.2 h0
        simp -implicitDefEqProofs only [go_sem, r0, r8, r9, b0]
        exact .same (.refl _) ⟨by simp [nameOK, hc, oneOr, hp]; omega, rfl⟩
end Go.Proofs.YtnhelgnmadbpgaaGreatDoor

set_option linter.unusedSimpArgs false
set_option linter.unusedVariables false
namespace Go.Proofs.YtnhelgnmadbpgaaGreatDoor
open Go Go.Ab Go.Bf
theorem attr_ok (a : AttrD) (h : Heap) : FnOK Tryz.prog 202 [attrA a] h fun r h' => r = .v (.bool (attrOK a)) ∧ h' = h := by
  refine FnOK.body hU hm Tryz.func202 rfl (by kernel_rfl) 16 rfl [.tmp 2] rfl (Nat.le_of_ble_eq_true rfl) (fun hwf => ?_)
  simp -implicitDefEqProofs only [go_sem, attrA]
  intro id hid
  cases d1 : decide (1 ≤ a.cat)
  · simp -implicitDefEqProofs only [go_sem, d1]
    exact .mk _ (.refl _) (.upd_new hid) ⟨by simp [attrOK, d1, oneOr], rfl⟩
  cases d2 : decide (a.cat ≤ 4)
  · simp -implicitDefEqProofs only [go_sem, d1, d2]
    exact .mk _ (.refl _) (.upd_new hid) ⟨by simp [attrOK, d1, d2, oneOr], rfl⟩
  simp -implicitDefEqProofs only [go_sem, d1, d2]
  refine (name_ok _ _).pthen ?_
  simp -implicitDefEqProofs only [go_sem, d1, d2]
  exact .mk _ (.refl _) (.upd_new hid) ⟨by simp [attrOK, d1, d2, oneOr], rfl⟩
theorem valRight_ok (v : ValD) (h : Heap) : FnOK Tryz.prog 42 [valA v] h fun r h' => r = .v (.bool (valOK v)) ∧ h' = h := by
  refine FnOK.body hU hm Tryz.func42 rfl (by kernel_rfl) 61 rfl [.tmp 2] rfl (Nat.le_of_ble_eq_true rfl) (fun hwf => ?_)
  simp -implicitDefEqProofs only [go_sem, valA]
  intro id hid
  cases k1 : (v.kind == 1)
  case true =>
    have e1 : v.kind = 1 := by simpa using k1
    cases d1 : (v.n == 0) <;> cases d2 : (v.n == 1)
    · simp -implicitDefEqProofs only [go_sem, k1, d1, d2]
      exact .mk _ (.refl _) (.upd_new hid) ⟨by simp [valOK, e1, d1, d2, oneOr], rfl⟩
    all_goals
      simp -implicitDefEqProofs only [go_sem, k1, d1, d2]
      exact .mk _ (.refl _) (.upd_new hid) ⟨by simp [valOK, e1, d1, d2, oneOr], rfl⟩
  have n1 : v.kind ≠ 1 := by simpa using k1
  cases k2 : (v.kind == 2)
  case true =>
    have e1 : v.kind = 2 := by simpa using k2
    simp -implicitDefEqProofs only [go_sem, k1, k2]
    exact .mk _ (.refl _) (.upd_new hid) ⟨by simp [valOK, e1, oneOr], rfl⟩
  have n2 : v.kind ≠ 2 := by simpa using k2
  cases k3 : (v.kind == 3)
  case true =>
    have e1 : v.kind = 3 := by simpa using k3
    cases d1 : (v.n == 0)
    all_goals
      simp -implicitDefEqProofs only [go_sem, k1, k2, k3, d1]
      exact .mk _ (.refl _) (.upd_new hid) ⟨by simp [valOK, e1, d1, oneOr] <;> omega, rfl⟩
  have n3 : v.kind ≠ 3 := by simpa using k3
  cases k4 : (v.kind == 4)
  case true =>
    have e1 : v.kind = 4 := by simpa using k4
    cases d1 : decide (0 ≤ v.n) <;> cases d2 : decide (v.n ≤ 1099511627776)
    all_goals
      simp -implicitDefEqProofs only [go_sem, k1, k2, k3, k4, d1, d2]
      exact .mk _ (.refl _) (.upd_new hid) ⟨by simp [valOK, e1, d1, d2, oneOr], rfl⟩
  have n4 : v.kind ≠ 4 := by simpa using k4
  cases k5 : (v.kind == 5)
  case true =>
    have e1 : v.kind = 5 := by simpa using k5
    cases d1 : (v.n == 0)
    · simp -implicitDefEqProofs only [go_sem, k1, k2, k3, k4, k5, d1]
      exact .mk _ (.refl _) (.upd_new hid) ⟨by simp [valOK, e1, d1, oneOr], rfl⟩
    · simp -implicitDefEqProofs only [go_sem, k1, k2, k3, k4, k5, d1]
      refine (name_ok _ _).pthen ?_
      simp -implicitDefEqProofs only [go_sem, d1]
      exact .mk _ (.refl _) (.upd_new hid) ⟨by simp [valOK, e1, d1, oneOr], rfl⟩
  have n5 : v.kind ≠ 5 := by simpa using k5
  simp -implicitDefEqProofs only [go_sem, k1, k2, k3, k4, k5]
  exact .mk _ (.refl _) (.upd_new hid) ⟨by simp [valOK, n1, n2, n3, n4, n5, oneOr], rfl⟩
theorem match_ok (m : MatchD) (h : Heap) : FnOK Tryz.prog 201 [matchA m] h fun r h' => r = .v (.bool (matchOK m)) ∧ h' = h := by
  refine FnOK.body hU hm Tryz.func201 rfl (by kernel_rfl) 21 rfl [.tmp 2] rfl (Nat.le_of_ble_eq_true rfl) (fun hwf => ?_)
  simp -implicitDefEqProofs only [go_sem, matchA]
  intro id hid
  simp -implicitDefEqProofs only [go_sem]
  refine (attr_ok m.attr _).pthen ?_
  cases d0 : attrOK m.attr
  · simp -implicitDefEqProofs only [go_sem, d0]
    exact .mk _ (.refl _) (.upd_new hid) ⟨by simp [matchOK, d0, oneOr], rfl⟩
  cases d1 : decide (1 ≤ m.op)
  · simp -implicitDefEqProofs only [go_sem, d0, d1]
    exact .mk _ (.refl _) (.upd_new hid) ⟨by simp [matchOK, d0, d1, oneOr], rfl⟩
  cases d2 : decide (m.op ≤ 3)
  · simp -implicitDefEqProofs only [go_sem, d0, d1, d2]
    exact .mk _ (.refl _) (.upd_new hid) ⟨by simp [matchOK, d0, d1, d2, oneOr], rfl⟩
  simp -implicitDefEqProofs only [go_sem, d0, d1, d2]
  refine (valRight_ok m.val _).pthen ?_
  simp -implicitDefEqProofs only [go_sem, d0, d1, d2]
  exact .mk _ (.refl _) (.upd_new hid) ⟨by simp [matchOK, d0, d1, d2, oneOr], rfl⟩
theorem many_ok (n : Nat) (h : Heap) : FnOK Tryz.prog 191 [.v (.int .i64 n)] h fun r h' => r = .v (.int .i64 (manyE n)) ∧ h' = h := by
  refine FnOK.body hU hm Tryz.func191 rfl (by kernel_rfl) 9 rfl [.tmp 2] rfl (Nat.le_of_ble_eq_true rfl) (fun hwf => ?_)
  cases d1 : ((n : Int) == 0)
  case true =>
    have e1 : n = 0 := by simpa using d1
    simp -implicitDefEqProofs only [go_sem, d1]
    exact .same (.refl _) ⟨by simp [manyE, e1, oneOr], rfl⟩
  have e1 : n ≠ 0 := by simpa using d1
  cases d2 : decide (8 < (n : Int))
  · have e2 : ¬ n > 8 := by have := of_decide_eq_false d2; omega
    simp -implicitDefEqProofs only [go_sem, d1, d2]
    exact .same (.refl _) ⟨by simp [manyE, e1, e2, oneOr], rfl⟩
  · have e2 : n > 8 := by have := of_decide_eq_true d2; omega
    simp -implicitDefEqProofs only [go_sem, d1, d2]
    exact .same (.refl _) ⟨by simp [manyE, e1, e2, oneOr], rfl⟩
theorem manyE_le {n : Nat} (h : manyE n = 0) : 1 ≤ n ∧ n ≤ 8 := by
  unfold manyE at h
  split at h
  · cases h
  · split at h
    · cases h
    · omega
theorem allOf_ok (l : List MatchD) (h : Heap) : FnOK Tryz.prog 192 [allA l] h fun r h' => r = .v (.int .i64 (allE l)) ∧ h' = h := by
  refine FnOK.body hU hm Tryz.func192 rfl (by kernel_rfl) 22 rfl [.tmp 2] rfl (Nat.le_of_ble_eq_true rfl) (fun hwf => ?_)
  simp -implicitDefEqProofs only [go_sem, allA, List.length_map]
  refine (many_ok _ _).pthen ?_
  cases d1 : (manyE l.length != 0)
  case true =>
    have e1 : manyE l.length ≠ 0 := by simpa using d1
    simp -implicitDefEqProofs only [go_sem, d1]
    exact .same (.refl _) ⟨by simp [allE, e1, oneOr], rfl⟩
  have e1 : manyE l.length = 0 := by simpa using d1
  have hlen := manyE_le e1
  simp -implicitDefEqProofs only [go_sem, d1, List.length_map]
  refine .intro (fun m ρ h' => Ab.Sub h h' ∧ ∃ i : Nat, i ≤ l.length ∧ m = l.length - i ∧ (l.take i).all matchOK = true ∧ lk ρ 12 = some (allA l) ∧ lk ρ 13 = some (.v (.int .i64 l.length)) ∧ lk ρ 14 = some (.v (.int .i64 i))) l.length ?_ ?_
  · refine ⟨.refl _, 0, by omega, rfl, rfl, ?_, ?_, ?_⟩ <;> simp -implicitDefEqProofs only [go_sem, allA]
  · rintro m ρ h' ⟨hs, i, hi, rfl, hc, r12, r13, r14⟩
    simp -implicitDefEqProofs only [go_sem, r12, r13, r14]
    refine .intro (fun e => ?_) (fun e => ?_)
    · have hlt : i < l.length := Int.ofNat_lt.1 (of_decide_eq_true e)
      have w1 : IntKind.i64.wrap ((i : Int) + 1) = ((i + 1 : Nat) : Int) := by rw [wr64 _ (by omega)]; omega
      simp -implicitDefEqProofs only [go_sem, r12, r13, r14, allA]
      refine .at i (by simpa using hlt) (by rw [List.getElem_map]; rfl) ?_
      simp -implicitDefEqProofs only [go_sem, r12, r13, r14, List.getElem_map, matchA]
      intro id hid
      simp -implicitDefEqProofs only [go_sem, r12, r13, r14]
      refine (match_ok l[i] _).pthen ?_
      cases d2 : matchOK l[i]
      · simp -implicitDefEqProofs only [go_sem, r12, r13, r14, d2]
        refine .mk _ (.refl _) (hs.new hid _) ⟨?_, rfl⟩
        have : l.all matchOK = false := List.all_eq_false.2 ⟨_, List.getElem_mem hlt, by simp [d2]⟩
        simp [allE, e1, this, oneOr]
      · simp -implicitDefEqProofs only [go_sem, r12, r13, r14, d2, w1]
        refine ⟨_, ?_, hs.new hid _, i + 1, by omega, rfl, ?_, ?_, ?_, ?_⟩
        · omega
        · rw [List.take_succ_eq_append_getElem hlt, List.all_append, hc]; simp [d2]
        all_goals simp -implicitDefEqProofs only [go_sem, r12, r13, r14, w1, allA]
    · have hge : i = l.length := by have := of_decide_eq_false e; omega
      subst hge
      rw [List.take_length] at hc
      simp -implicitDefEqProofs only [go_sem, r12, r13, r14]
      exact .mk _ (.refl _) hs ⟨by simp [allE, e1, hc, oneOr], rfl⟩
end Go.Proofs.YtnhelgnmadbpgaaGreatDoor
