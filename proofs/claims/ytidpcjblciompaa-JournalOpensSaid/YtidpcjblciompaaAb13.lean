/- A region that draws its order, whose operations change nothing owned: one walk in the text's order serves every order. -/
import Derived.Test.YtidpcjblciompaaAb12
set_option linter.unusedSimpArgs false
set_option linter.unusedVariables false
namespace Go.Ab
open Go

section
variable {P : Program} {U : TypeId → TI}

/-! ### What an operation comes to hangs on its operands alone -/
theorem ev_congr {ρ ρ' : Env} {x : Operand} (h : ∀ t, x = .tmp t → lk ρ t = lk ρ' t) : ev ρ x = ev ρ' x := by
  cases x with
  | tmp t => exact h t rfl
  | _ => rfl

theorem evs_congr {ρ ρ' : Env} : ∀ {xs : List Operand}, (∀ x ∈ xs, ev ρ x = ev ρ' x) → evs ρ xs = evs ρ' xs
  | [], _ => rfl
  | x :: r, h => by
    simp only [evs]
    rw [h x (by simp), evs_congr fun y hy => h y (by simp [hy])]

theorem optA_congr {ρ ρ' : Env} {x : Option Operand} {d : Nat} {k : Int → Prop} (h : ∀ y, x = some y → ev ρ y = ev ρ' y) : optA ρ x d k = optA ρ' x d k := by
  cases x with
  | none => rfl
  | some y => simp only [optA, withv, h y rfl]

theorem withps_congr {ρ ρ' : Env} {fs : List (Nat × TypeId)} {k : List AV → Prop} : ∀ {ps : List (Nat × Operand)} {cs : List AV}, (∀ p ∈ ps, ev ρ p.2 = ev ρ' p.2) → withps U ρ fs ps cs k = withps U ρ' fs ps cs k
  | [], _, _ => rfl
  | (i, x) :: r, cs, h => by
    simp only [withps, withv]
    have h1 : ev ρ x = ev ρ' x := h (i, x) (by simp)
    rw [h1]
    have h2 : ∀ cs', withps U ρ fs r cs' k = withps U ρ' fs r cs' k := fun cs' => withps_congr fun p hp => h p (by simp [hp])
    simp only [h2]

theorem pvB_congr {ρ ρ' : Env} {b : Builtin} {args : List Operand} {ts : List TypeId} {k : AV → Prop} (h : ∀ x ∈ args, ev ρ x = ev ρ' x) : pvB U ρ b args ts k = pvB U ρ' b args ts k := by
  cases b <;> simp only [pvB, withvs, evs_congr h]
  · cases args with
    | nil => rfl
    | cons x r =>
      have hx := h x (by simp)
      cases r with
      | cons _ _ => rfl
      | nil => cases ts with
        | nil => rfl
        | cons t q => cases q <;> simp only [withv, hx]
  · cases args with
    | nil => rfl
    | cons x r =>
      have hx := h x (by simp)
      cases r with
      | cons _ _ => rfl
      | nil => cases ts with
        | nil => rfl
        | cons t q => cases q <;> simp only [withv, hx]

theorem pvSlice_congr {ρ ρ' : Env} {ty : TypeId} {y : AV} {lo hi mx : Option Operand} {k : AV → Prop} (h1 : ∀ x, lo = some x → ev ρ x = ev ρ' x) (h2 : ∀ x, hi = some x → ev ρ x = ev ρ' x) (h3 : ∀ x, mx = some x → ev ρ x = ev ρ' x) :
    pvSlice U ρ ty y lo hi mx k = pvSlice U ρ' ty y lo hi mx k := by
  have e1 : ∀ d (k : Int → Prop), optA ρ lo d k = optA ρ' lo d k := fun d k => optA_congr h1
  have e2 : ∀ d (k : Int → Prop), optA ρ hi d k = optA ρ' hi d k := fun d k => optA_congr h2
  cases mx with
  | none => simp only [pvSlice, e1, e2]
  | some m =>
    have e3 : ∀ d (k : Int → Prop), optA ρ (some m) d k = optA ρ' (some m) d k := fun d k => optA_congr h3
    simp only [pvSlice, e1, e2, e3]

theorem pv_congr {ρ ρ' : Env} {h : Heap} {op : Op} {k : AV → Prop} (he : ∀ x ∈ op.operands, ev ρ x = ev ρ' x) : pv U ρ h op k = pv U ρ' h op k := by
  cases op <;> simp only [pv]
  case move x => simp only [withv, he x (by simp [Op.operands])]
  case assign x => simp only [withv, he x (by simp [Op.operands])]
  case pick c a b => simp only [withv, he c (by simp [Op.operands]), he a (by simp [Op.operands]), he b (by simp [Op.operands])]
  case nilCheck x => simp only [withv, he x (by simp [Op.operands])]
  case binOp op ty x y ty' => simp only [withv, he x (by simp [Op.operands]), he y (by simp [Op.operands])]
  case unOp op ty x => simp only [withv, he x (by simp [Op.operands])]
  case convert s d x => simp only [withv, he x (by simp [Op.operands])]
  case field ty x f => simp only [withv, he x (by simp [Op.operands])]
  case extract x i => simp only [withv, he x (by simp [Op.operands])]
  case index ty x y => simp only [withv, he x (by simp [Op.operands]), he y (by simp [Op.operands])]
  case fieldAddr ty x f => simp only [withv, he x (by simp [Op.operands])]
  case indexAddr ty x y => simp only [withv, he x (by simp [Op.operands]), he y (by simp [Op.operands])]
  case load ty x => simp only [withv, he x (by simp [Op.operands])]
  case slice ty x lo hi mx =>
    simp only [withv, he x (by simp [Op.operands])]
    split
    · exact pvSlice_congr (fun x hx => he x (by simp [Op.operands, hx])) (fun x hx => he x (by simp [Op.operands, hx])) (fun x hx => he x (by simp [Op.operands, hx]))
    · rfl
  case buildSlice ty n ps =>
    have : evs ρ (ps.toList.map (·.2)) = evs ρ' (ps.toList.map (·.2)) := evs_congr fun x hx => he x (by simpa [Op.operands] using hx)
    simp only [withvs, this]
  case build ty ps =>
    have : ∀ fs cs (k : List AV → Prop), withps U ρ fs ps.toList cs k = withps U ρ' fs ps.toList cs k := fun fs cs k => withps_congr fun p hp => he p.2 (by simp only [Op.operands, List.mem_toArray, List.mem_map]; exact ⟨p, hp, rfl⟩)
    simp only [this]
  case makeInterface ty x => simp only [withv, he x (by simp [Op.operands])]
  case makeFunc fn first cap =>
    have : evs ρ cap.toList = evs ρ' cap.toList := evs_congr fun x hx => he x (by simp only [Op.operands, Array.mem_append]; exact .inr (by simpa using hx))
    simp only [withvs, this]
  case call c =>
    obtain ⟨callee, args, ts⟩ := c
    cases callee with
    | builtin b =>
      simp only
      exact pvB_congr fun x hx => he x (by simp only [Op.operands, Call.operands, Array.mem_append]; exact .inr (by simpa using hx))
    | _ => rfl

/-- The slots that an operand list names, alone. -/
def restrict (ρ : Env) (S : List Nat) : Env := ρ.filter fun p => S.contains p.1

theorem lk_restrict (S : List Nat) (t : Nat) : ∀ ρ : Env, lk (restrict ρ S) t = if S.contains t then lk ρ t else none
  | [] => by simp [restrict, lk]
  | (k, x) :: r => by
    have ih := lk_restrict S t r
    simp only [restrict, List.filter_cons] at ih ⊢
    by_cases hk : S.contains k = true
    · rw [if_pos hk]
      simp only [lk]
      by_cases e : k = t
      · subst e; rw [if_pos rfl, if_pos hk, if_pos rfl]
      · rw [if_neg e, if_neg e]; exact ih
    · rw [if_neg hk]
      rw [ih]
      by_cases e : k = t
      · subst e
        simp only [hk]
        rfl
      · simp only [lk, if_neg e]

def opSlots (op : Op) : List Nat := op.operands.toList.filterMap fun | .tmp t => some t | _ => none

/-- An abstract frame, as a function. -/
abbrev EF := Nat → Option AV

/-- What an operation in a region that draws comes to. -/
def DUpon (P : Program) (c : Cx) (h : Heap) (X : AV) : Result Next → Prop
  | .ok (.value u) w' => ∃ c', c'.w = w' ∧ Good c' ∧ Ext c c' ∧ Sub h c'.h ∧ Rep c' X u
  | .ok .skip w' => ∃ c', c'.w = w' ∧ Good c' ∧ Ext c c' ∧ Sub h c'.h ∧ Rep c' X undef
  | .ok (.enter f args) w' => w' = c.w ∧ Calls P f args w' fun e w'' => ∃ u, e = .returned u ∧ ∃ c', c'.w = w'' ∧ Good c' ∧ Ext c c' ∧ Sub h c'.h ∧ Rep c' X u
  | _ => False

def DOK (P : Program) (o : Oper) (F : EF) (h : Heap) (X : AV) : Prop :=
  ∀ (c : Cx) (a : Act), Sub h c.h → Good c → a.defers = [] → (∀ t ∈ opSlots o.op, ∀ x, F t = some x → Rep c x (a.tmps.getD t undef)) → DUpon P c h X ((execOp a.eval o).run P c.w)

/-- An operation of a region that draws. -/
def vcD1 (P : Program) (U : TypeId → TI) (ρ : Env) (h : Heap) (o : Oper) (Q : AV → Prop) : Prop :=
  match o.op with
  | .call c => match c.callee with
    | .value q => withv ρ q fun y => match y with
      | .fn f cap => withvs ρ c.args.toList fun ys => ∃ X, FnOK P f (ys ++ cap) h (fun x h' => x = X ∧ h' = h) ∧ Q X
      | _ => False
    | _ => pv U ρ h o.op Q
  | _ => pv U ρ h o.op Q

theorem vcD1_sound {ρ : Env} {h : Heap} {o : Oper} {Q : AV → Prop} (hU : ∀ t, AgreeT P U t) (hk : vcD1 P U ρ h o Q) : ∃ X, Q X ∧ DOK P o (lk ρ) h X := by
  have hev : ∀ x ∈ o.op.operands, ev (restrict ρ (opSlots o.op)) x = ev ρ x := fun x hx => ev_congr fun t ht => by
    subst ht
    rw [lk_restrict, if_pos]
    rw [List.contains_iff_mem]
    simp only [opSlots, List.mem_filterMap]
    exact ⟨.tmp t, by simpa using hx, rfl⟩
  have henv : ∀ {c : Cx} {a : Act}, a.defers = [] → (∀ t ∈ opSlots o.op, ∀ x, lk ρ t = some x → Rep c x (a.tmps.getD t undef)) → EnvSat c a.tmps.size (restrict ρ (opSlots o.op)) a := fun hd hr =>
    ⟨rfl, hd, fun t x hx => by
      rw [lk_restrict] at hx
      split at hx
      · rename_i hc
        exact hr t (by rwa [List.contains_iff_mem] at hc) x hx
      · cases hx⟩
  have pure : pv U ρ h o.op Q → ∃ X, Q X ∧ DOK P o (lk ρ) h X := fun hp => by
    rw [← pv_congr hev] at hp
    obtain ⟨X, hQ, hX⟩ := pv_sound hU hp
    refine ⟨X, hQ, fun c a hs g hd hr => ?_⟩
    obtain ⟨u, c', h1, h2, h3, h4, h5⟩ := hX c a _ hs g (henv hd hr)
    rw [h1]
    exact ⟨c', rfl, h2, h3, by rw [h4]; exact hs, h5⟩
  unfold vcD1 at hk
  split at hk
  · rename_i cl ho
    obtain ⟨callee, args, ts⟩ := cl
    simp only at hk
    split at hk
    · rename_i q
      obtain ⟨y, hy, hk⟩ := withv_elim hk
      split at hk
      · rename_i f cap
        obtain ⟨ys, hys, X, hf, hQ⟩ := withvs_elim hk
        refine ⟨X, hQ, fun c a hs g hd hr => ?_⟩
        have he := henv hd hr
        have hvc : vcOp P U (restrict ρ (opSlots o.op)) h o (fun x h' => x = X ∧ h' = h) := by
          have e1 : ev (restrict ρ (opSlots o.op)) q = some (.fn f cap) := by rw [hev q (by simp [ho, Op.operands, Call.operands])]; exact hy
          have e2 : evs (restrict ρ (opSlots o.op)) args.toList = some ys := by
            rw [evs_congr fun x hx => hev x (by simp only [ho, Op.operands, Call.operands, Array.mem_append]; exact .inr (by simpa using hx))]; exact hys
          simp only [vcOp, ho]
          simp only [ho] at e1 e2
          simp only [withv, e1, withvs, e2]
          exact hf
        have hu := vcOp_sound hU hvc hs g he
        generalize (execOp a.eval o).run P c.w = r at hu
        have conv : ∀ u w', Comes1 c (fun x h' => x = X ∧ h' = h) u w' → ∃ c', c'.w = w' ∧ Good c' ∧ Ext c c' ∧ Sub h c'.h ∧ Rep c' X u := by
          rintro u w' ⟨c', x, h', h1, h2, h3, h4, h5, rfl, rfl⟩
          exact ⟨c', h1, h2, h3, h5, h4⟩
        cases r with
        | ok nx w' =>
          cases nx <;> simp only [Upon1] at hu <;> simp only [DUpon]
          case value u => exact conv _ _ hu
          case skip => exact conv _ _ hu
          case enter f args => exact ⟨hu.1, hu.2.mono fun e w'' ⟨u, he, hc⟩ => ⟨u, he, conv _ _ hc⟩⟩
        | halt x w' => exact hu.elim
      · exact hk.elim
    · exact pure hk
  · exact pure hk

end
end Go.Ab
