/- A table of types is as the program's own, asked by a Bool; small facts for the use of all this. -/
import Derived.Test.YtidpcjblciompaaAb15
set_option linter.unusedSimpArgs false
set_option linter.unusedVariables false
namespace Go.Ab
open Go

def zeroB1 : AV → Value → Bool
  | .v (.int k n), .int k' m => decide (k = k') && decide (n = m)
  | .v (.bool a), .bool b => a == b
  | .s [], .string b => b.data.toList.isEmpty
  | .sl [] .full, .slice none 0 0 => true
  | .v (.pointer none), .pointer none => true
  | .v .nilIface, .nilIface => true
  | .v .nilFunc, .nilFunc => true
  | .v (.map none), .map none => true
  | .v (.complex k a b), .complex k' a' b' => decide (k = k') && a == a' && b == b'
  | _, _ => false

theorem zeroB1_rep {x : AV} {v : Value} (h : zeroB1 x v = true) (c : Cx) : Rep c x v ∧ v.oneCell' = true := by
  unfold zeroB1 at h
  split at h
  · simp at h; obtain ⟨rfl, rfl⟩ := h; exact ⟨.v _, rfl⟩
  · simp at h; subst h; exact ⟨.v _, rfl⟩
  · rename_i b
    have e : b = ⟨([] : List UInt8).toArray⟩ := by
      apply ByteArray.ext
      simpa using h
    subst e
    exact ⟨.s [] (by decide), rfl⟩
  · exact ⟨rep_ofV1 c (.slice none 0 0), rfl⟩
  · exact ⟨.v _, rfl⟩
  · exact ⟨.v _, rfl⟩
  · exact ⟨.v _, rfl⟩
  · exact ⟨.v _, rfl⟩
  · simp at h; obtain ⟨⟨rfl, rfl⟩, rfl⟩ := h; exact ⟨.v _, rfl⟩
  · cases h

def zeroBs : List AV → List Value → Bool
  | [], [] => true
  | x :: xs, v :: vs => zeroB1 x v && zeroBs xs vs
  | _, _ => false

theorem zeroBs_spec : ∀ {xs : List AV} {vs : List Value}, zeroBs xs vs = true → xs.length = vs.length ∧ ∀ i (h1 : i < xs.length) (h2 : i < vs.length), zeroB1 xs[i] vs[i] = true
  | [], [], _ => ⟨rfl, fun i h => (by cases h)⟩
  | x :: xs, v :: vs, h => by
    simp only [zeroBs, Bool.and_eq_true] at h
    obtain ⟨h1, h2⟩ := zeroBs_spec h.2
    refine ⟨by simp [h1], fun i a b => ?_⟩
    cases i with
    | zero => exact h.1
    | succ i => exact h2 i (by simpa using a) (by simpa using b)
  | [], _ :: _, h => by simp [zeroBs] at h
  | _ :: _, [], h => by simp [zeroBs] at h

def zeroB : AV → Value → Bool
  | .agg xs, .agg vs => zeroBs xs vs.toList
  | x, v => zeroB1 x v

theorem zeroB_rep {x : AV} {v : Value} (h : zeroB x v = true) (c : Cx) : Rep c x v := by
  unfold zeroB at h
  split at h
  · rename_i xs vs
    obtain ⟨h1, h2⟩ := zeroBs_spec h
    have hl : vs.size = xs.length := by simpa using h1.symm
    refine .agg xs vs hl (fun i hi => ?_) (fun i hi => ?_)
    · have := (zeroB1_rep (h2 i hi (by simp; omega)) c).1
      simpa [show i < vs.size by omega] using this
    · have := (zeroB1_rep (h2 i hi (by simp; omega)) c).2
      simpa [show i < vs.size by omega] using this
  · exact (zeroB1_rep h c).1

def descB (P : Program) (U : TypeId → TI) (t : TypeId) : Bool :=
  match (U t).k, P.underlying t with
  | .int k, some (.int k') => decide (k' = k)
  | .bool, some .bool => true
  | .str, some .string => true
  | .slice e, some (.slice e') => decide (e' = e)
  | .strct fs, some (.struct fields) => decide (fields.toList.map (fun f => (f.offset, f.type)) = fs) && fs.all fun p => (U p.2).sz != 0
  | .ptr e, some (.pointer e') => decide (e' = e)
  | .arr n e, some (.array n' e') => decide (n' = n) && decide (e' = e)
  | .iface, some (.interface _) => true
  | .cplx k, some (.complex k') => decide (k' = k)
  | .other, _ => true
  | _, _ => false

def infoB (P : Program) (U : TypeId → TI) (t : TypeId) : Bool :=
  (U t).sz == 0 || match P.info? t with
    | some i => i.size == (U t).sz && i.bytes == (U t).bytes && match i.zero with
      | some z => z.cells.size == (U t).sz && zeroB (U t).zero z
      | none => false
    | none => false

theorem agree_of {P : Program} {U : TypeId → TI} {t : TypeId} (h1 : descB P U t = true) (h2 : infoB P U t = true) : AgreeT P U t := by
  refine ⟨?_, fun hz => ?_⟩
  · unfold descB at h1
    split at h1
    · rename_i k k' hk hu; rw [hk]; rw [hu]; simp at h1; rw [h1]
    · rename_i hk hu; rw [hk]; exact hu
    · rename_i hk hu; rw [hk]; exact hu
    · rename_i e e' hk hu; rw [hk]; rw [hu]; simp at h1; rw [h1]
    · rename_i fs fields hk hu
      rw [hk]
      rw [Bool.and_eq_true, List.all_eq_true] at h1
      exact ⟨fields, hu, of_decide_eq_true h1.1, fun p hp => by simpa using h1.2 p hp⟩
    · rename_i e e' hk hu; rw [hk]; rw [hu]; simp at h1; rw [h1]
    · rename_i n e n' e' hk hu; rw [hk]; rw [hu]; simp at h1; rw [h1.1, h1.2]
    · rename_i ms hk hu; rw [hk]; exact ⟨ms, hu⟩
    · rename_i k k' hk hu; rw [hk]; rw [hu]; simp at h1; rw [h1]
    · rename_i hk; rw [hk]; trivial
    · cases h1
  · unfold infoB at h2
    simp only [Bool.or_eq_true, beq_iff_eq, hz, false_or] at h2
    split at h2
    · rename_i i hi
      simp only [Bool.and_eq_true, beq_iff_eq] at h2
      obtain ⟨⟨h3, h4⟩, h5⟩ := h2
      split at h5
      · rename_i z hz'
        simp only [Bool.and_eq_true, beq_iff_eq] at h5
        exact ⟨i, hi, h3, h4, z, hz', h5.1, fun c => zeroB_rep h5.2 c⟩
      · cases h5
    · cases h2

theorem agree_all {P : Program} {U : TypeId → TI} (N : Nat) (h : (List.range N).all (fun t => descB P U t && infoB P U t) = true) (h' : ∀ t, N ≤ t → U t = ⟨.other, 0, 0, default⟩) : ∀ t, AgreeT P U t := by
  intro t
  by_cases ht : t < N
  · rw [List.all_eq_true] at h
    have := h t (by simpa using ht)
    rw [Bool.and_eq_true] at this
    exact agree_of this.1 this.2
  · have := h' t (Nat.le_of_not_lt ht)
    exact ⟨by rw [this]; trivial, fun hz => by rw [this] at hz; exact (hz rfl).elim⟩

end Go.Ab
