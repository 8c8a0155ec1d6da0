/- Rows of operations, and code: what it is enough to show of them; a function's contract out of its body. -/
import Derived.Test.YtidpcjblciompaaAb11
set_option linter.unusedSimpArgs false
set_option linter.unusedVariables false
namespace Go.Ab
open Go

section
variable (P : Program) (U : TypeId → TI) (n : Nat)

/-- Where an operation's result goes, by its place in the region. -/
def dstAt (all : List Oper) (g : Nat) : Option Tmp := (all[g]?).bind (·.dst)

/-- Under a guard. -/
def guardA (all : List Oper) (ρ : Env) (gd : Option (Nat × Bool)) (yes no : Env → Prop) : Prop :=
  match gd with
  | none => yes ρ
  | some (g, want) => match dstAt all g with
    | some d => match lk ρ d with
      | some (.v (.bool t)) => (t = want → yes ((d, .v (.bool want)) :: ρ)) ∧ (t = !want → no ((d, .v (.bool (!want))) :: ρ))
      | some (.v (.tuple _)) => no ρ
      | _ => False
    | none => False

def KOp (k : Env → Heap → Prop) (ρ : Env) (d : Option Tmp) (x : AV) (h : Heap) : Prop := k (put ρ d x) h

/-- A row of operations, in the order of the text. -/
def vcOps (all : List Oper) : List Oper → Env → Heap → (Env → Heap → Prop) → Prop
  | [], ρ, h, K => K ρ h
  | o :: os, ρ, h, K => dstOK n o.dst = true ∧ guardA all ρ o.guard
      (fun ρ => vcOp P U ρ h o (KOp (fun ρ h => vcOps all os ρ h K) ρ o.dst))
      (fun ρ => vcOps all os (put ρ o.dst (.v undef)) h K)

def WPK (K : Exit → Env → Heap → Prop) (c0 : Cx) (e : Exit) (a : Act) (w : World) : Prop :=
  ∃ c ρ h, c.w = w ∧ Good c ∧ Ext c0 c ∧ EnvSat c n ρ a ∧ Sub h c.h ∧ K e ρ h

end

section
variable {P : Program} {U : TypeId → TI} {n : Nat}

theorem undef_oneCell : (undef : Value) = .tuple #[] := rfl

theorem EnvSat.learn {c : Cx} {ρ : Env} {a : Act} (h : EnvSat c n ρ a) {d : Nat} {t : Bool} (hd : lk ρ d = some (.v (.bool t))) {b : Bool} (hb : t = b) : EnvSat c n ((d, .v (.bool b)) :: ρ) a := by
  subst hb
  refine ⟨h.size, h.defers, fun t' x hx => ?_⟩
  simp only [lk] at hx
  split at hx
  · rename_i e; subst e
    cases hx
    exact h.rep _ _ hd
  · exact h.rep _ _ hx

theorem tmps_some {c : Cx} {ρ : Env} {a : Act} (h : EnvSat c n ρ a) {d : Nat} {u : Value} (hd : lk ρ d = some (.v u)) (hu : u ≠ undef ∨ d < a.tmps.size) : a.tmps[d]? = some u := by
  have := (h.rep d _ hd).v_inv
  by_cases hlt : d < a.tmps.size
  · simpa [hlt] using this
  · have e : a.tmps.getD d undef = undef := by simp [Nat.le_of_not_lt hlt]
    rw [e] at this
    rcases hu with hu | hu
    · exact (hu this.symm).elim
    · exact (hlt hu).elim

/-- A guard, as the model asks it. -/
theorem guard_sound {all : List Oper} {ρ : Env} {o : Oper} {yes no : Env → Prop} (hg : guardA all ρ o.guard yes no) {c : Cx} {a : Act} (he : EnvSat c n ρ a) :
    ∃ ρ', EnvSat c n ρ' a ∧ ((Region.wanted o (yielded all.toArray a.tmps) = true ∧ yes ρ') ∨ (Region.wanted o (yielded all.toArray a.tmps) = false ∧ no ρ')) := by
  unfold guardA at hg
  split at hg
  · rename_i hgd
    exact ⟨ρ, he, .inl ⟨by simp [Region.wanted, hgd], hg⟩⟩
  · rename_i g want hgd
    split at hg
    · rename_i d hd
      have hd' : (all[g]?).bind (·.dst) = some d := hd
      split at hg
      · rename_i t ht
        obtain ⟨h1, h2⟩ := hg
        have hy : yielded all.toArray a.tmps g = some t := by
          have := tmps_some he ht (.inl (by simp [undef]))
          simp [yielded, hd', this]
        by_cases e : t = want
        · exact ⟨_, he.learn ht e, .inl ⟨by simp [Region.wanted, hgd, hy, e], h1 e⟩⟩
        · have e' : t = !want := by cases t <;> cases want <;> simp_all
          exact ⟨_, he.learn ht e', .inr ⟨by simp [Region.wanted, hgd, hy, e], h2 e'⟩⟩
      · rename_i vs ht
        refine ⟨ρ, he, .inr ⟨?_, hg⟩⟩
        have hy : yielded all.toArray a.tmps g = none := by
          have := (he.rep _ _ ht).v_inv
          by_cases hlt : d < a.tmps.size
          · have e : a.tmps[d]? = some (.tuple vs) := by simpa [hlt] using this
            simp [yielded, hd', e]
          · have e : a.tmps[d]? = none := by simp [Nat.le_of_not_lt hlt]
            simp [yielded, hd', e]
        simp [Region.wanted, hgd, hy]
      · exact hg.elim
    · exact hg.elim

theorem WPK.after {K : Exit → Env → Heap → Prop} {c0 c1 : Cx} (he : Ext c0 c1) {e : Exit} {a : Act} {w : World} (h : WPK n K c1 e a w) : WPK n K c0 e a w := by
  obtain ⟨c, ρ, hh, h1, h2, h3, h4⟩ := h
  exact ⟨c, ρ, hh, h1, h2, he.trans h3, h4⟩

/-- A row of operations is carried out. -/
theorem vcOps_sound (hU : ∀ t, AgreeT P U t) {all : List Oper} {K : Exit → Env → Heap → Prop} (c0 : Cx) : ∀ (l : List Oper) (ρ : Env) (h : Heap), vcOps P U n all l ρ h (K .normal) →
    ∀ c a, Ext c0 c → Sub h c.h → Good c → EnvSat c n ρ a → wpList P all.toArray (WPK n K c0) l a c.w
  | [], ρ, h, hk, c, a, hE, hs, g, he => ⟨c, ρ, h, rfl, g, hE, he, hs, hk⟩
  | o :: os, ρ, h, hk, c, a, hE, hs, g, he => by
    obtain ⟨hd, hk⟩ := hk
    obtain ⟨ρ', he', hk⟩ := guard_sound hk he
    unfold wpList
    rcases hk with ⟨hw, hk⟩ | ⟨hw, hk⟩
    · rw [if_pos hw]
      left
      have hu := vcOp_sound hU hk hs g he'
      have next : ∀ u w', Comes1 c (KOp (fun ρ h => vcOps P U n all os ρ h (K .normal)) ρ' o.dst) u w' → wpList P all.toArray (WPK n K c0) os (a.put o.dst u) w' := by
        rintro u w' ⟨c', x, h', rfl, g', hE', hr, hs', hK⟩
        exact vcOps_sound hU c0 os _ h' hK c' _ (hE.trans hE') hs' g' ((he'.mono hE').put hd hr)
      unfold Oper.wp
      generalize (execOp a.eval o).run P c.w = r at hu
      cases r with
      | ok nx w' =>
        cases nx <;> simp only [Upon1] at hu <;> simp only [Oper.upon]
        case value u => exact next u w' hu
        case skip => exact next undef w' hu
        case enter f args =>
          obtain ⟨rfl, hc⟩ := hu
          exact hc.mono fun e w'' ⟨u, he, hcm⟩ => by subst he; exact next u w'' hcm
      | halt x w' => exact hu.elim
    · rw [if_neg (by rw [hw]; simp)]
      exact vcOps_sound hU c0 os _ h hk c _ hE hs g (he'.put hd (.v _))

end

end Go.Ab
