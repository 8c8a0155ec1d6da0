/- Shorter ways behind a call. -/
import Derived.Test.YtidpcjblciompaaAb23
set_option linter.unusedSimpArgs false
set_option linter.unusedVariables false
namespace Go.Ab
open Go

section
variable {P : Program} {f : FuncId} {args : List AV} {h : Heap} {Q : AV → Heap → Prop} {X : AV}

/-- Behind a call that changes nothing. -/
theorem FnOK.pthen (hf : FnOK P f args h fun r h' => r = X ∧ h' = h) (k : Q X h) : FnOK P f args h Q :=
  hf.mono fun r h' ⟨e1, e2⟩ => by subst e1; subst e2; exact k
theorem FnOK.pthen' (hf : FnOK P f args h fun r h' => h' = h ∧ r = X) (k : Q X h) : FnOK P f args h Q :=
  hf.mono fun r h' ⟨e1, e2⟩ => by subst e1; subst e2; exact k
/-- Behind a call that makes new memory alone. -/
theorem FnOK.sthen (hf : FnOK P f args h fun r h' => r = X ∧ Sub h h') (k : ∀ h', Sub h h' → Q X h') : FnOK P f args h Q :=
  hf.mono fun r h' ⟨e1, e2⟩ => by subst e1; exact k h' e2
/-- Behind a call of which but the answer counts. -/
theorem FnOK.rthen (hf : FnOK P f args h fun r _ => r = X) (k : ∀ h', Q X h') : FnOK P f args h Q :=
  hf.mono fun r h' e1 => by subst e1; exact k h'
theorem FnOK.weakQ {A : AV → Prop} (hf : FnOK P f args h fun r h' => A r ∧ h' = h) : FnOK P f args h fun r h' => A r ∧ Sub h h' :=
  hf.mono fun r h' ⟨e1, e2⟩ => ⟨e1, by subst e2; exact .refl _⟩
/-- Behind a call that answers something. -/
theorem FnOK.ethen {A : AV → Prop} (hf : FnOK P f args h fun r h' => A r ∧ Sub h h') (k : ∀ r h', A r → Sub h h' → Q r h') : FnOK P f args h Q :=
  hf.mono fun r h' ⟨e1, e2⟩ => k r h' e1 e2

/-- A value that is made plain ahead of going on. -/
def KV (K : AV → Prop) (x : AV) : Prop := K x
@[congr] theorem KV_congr {K : AV → Prop} {x x' : AV} (e : x = x') : KV K x = KV K x' := by rw [e]
@[go_sem] theorem KV_eq (K : AV → Prop) (x : AV) : KV K x = K x := rfl
section
variable {U : TypeId → TI} {ρ : Env} {K : AV → Prop}
@[go_sem ↓ high] theorem sliceK_to (xs : List AV) (q : Perm) (hi : Operand) (e : TypeId) : sliceK U ρ (.sl xs q) none (some hi) none K (.slice e) = ((U e).sz ≠ 0 ∧ bindO (ev ρ hi) fun y => intA y fun b => 0 ≤ b ∧ b ≤ xs.length ∧ KV K (.sl (xs.take b.toNat) .no)) := by
  rw [sliceK_none, optA_some]; rfl
@[go_sem ↓ high] theorem sliceK_all (xs : List AV) (q : Perm) (e : TypeId) : sliceK U ρ (.sl xs q) none none none K (.slice e) = ((U e).sz ≠ 0 ∧ K (.sl xs q)) := by
  rw [sliceK_none, optA_none]
  simp [cutL, cutP]
@[go_sem ↓ high] theorem sliceK_from (xs : List AV) (q : Perm) (lo : Operand) (e : TypeId) : sliceK U ρ (.sl xs q) (some lo) none none K (.slice e) = ((U e).sz ≠ 0 ∧ Sized (U e).sz xs ∧ bindO (ev ρ lo) fun y => intA y fun a => 0 ≤ a ∧ a ≤ xs.length ∧ KV K (.sl (xs.drop a.toNat) (cutP q true false))) := by
  rw [sliceK_some, optA_some]
  simp only [optA_none, Option.isSome_none, cutL_tf, KV]
  congr 2
  congr 1
  funext y
  congr 1
  funext a
  simp
@[go_sem ↓ high] theorem sliceK_ft (xs : List AV) (q : Perm) (lo hi : Operand) (e : TypeId) : sliceK U ρ (.sl xs q) (some lo) (some hi) none K (.slice e) = ((U e).sz ≠ 0 ∧ Sized (U e).sz xs ∧ bindO (ev ρ lo) fun y => intA y fun a => bindO (ev ρ hi) fun z => intA z fun b => 0 ≤ a ∧ a ≤ b ∧ b ≤ xs.length ∧ KV K (.sl ((xs.drop a.toNat).take (b.toNat - a.toNat)) .no)) := by
  rw [sliceK_some, optA_some]
  simp only [optA_some, Option.isSome_some, cutL_tt, KV, cutP_tt]
end
attribute [go_sem] Int.toNat_natCast Int.toNat_zero

@[go_sem] theorem take_bytes (l : List UInt8) (n : Nat) : (l.map byteA).take n = (l.take n).map byteA := (List.map_take ..).symm
@[go_sem] theorem drop_bytes (l : List UInt8) (n : Nat) : (l.map byteA).drop n = (l.drop n).map byteA := (List.map_drop ..).symm
theorem get_bytes (l : List UInt8) (i : Nat) (h : i < (l.map byteA).length) : (l.map byteA)[i] = byteA (l[i]'(by simpa using h)) := by simp
theorem choose_map {α β : Type} {f : β → α} {p : β → Prop} : ∀ (xs : List α), (∀ x ∈ xs, ∃ b, x = f b ∧ p b) → ∃ bs : List β, xs = bs.map f ∧ ∀ b ∈ bs, p b
  | [], _ => ⟨[], rfl, fun b h => by cases h⟩
  | x :: xs, h => by
    obtain ⟨b, rfl, hb⟩ := h x (by simp)
    obtain ⟨bs, rfl, hbs⟩ := choose_map xs fun y hy => h y (by simp [hy])
    exact ⟨b :: bs, rfl, fun c hc => by
      rcases List.mem_cons.1 hc with h1 | h1
      · rw [h1]; exact hb
      · exact hbs c h1⟩
/-- An integer. -/
def iA (n : Int) : AV := .v (.int .i64 n)
@[go_sem] theorem iA_eq (n : Int) : iA n = .v (.int .i64 n) := rfl
theorem wrap64 (n : Int) (h : -9223372036854775808 ≤ n ∧ n ≤ 9223372036854775807) : IntKind.i64.wrap n = n := IntWalk.i64_in _ (by omega)
end
end Go.Ab
