/- Bytes that grow and are written in place. -/
import Derived.Test.YtidpcjblciompaaAb28
set_option linter.unusedSimpArgs false
set_option linter.unusedVariables false
namespace Go.Ab
open Go

section
variable {P : Program} {U : TypeId → TI} {n : Nat} {ρ : Env} {h0 h h' : Heap} {tb : TypeId} {y v : AV} {l m : List UInt8} {Q : AV → Heap → Prop}

/-- Bytes of a slice that grows and may be written in place; the memory was h0 at first. -/
def Wr (tb : TypeId) (h0 h : Heap) (y : AV) (l : List UInt8) : Prop :=
  Sub h0 h ∧ ((l = [] ∧ y = .sl [] .full) ∨ ∃ id cs, h0 id = none ∧ y = .oa id 0 l.length ∧ h id = some (.obj cs tb) ∧ l.length ≤ cs.length ∧ cs.take l.length = l.map byteA)

theorem Wr.bytes (hw : Wr tb h0 h y l) : Bytes tb h y l := by
  obtain ⟨_, ⟨rfl, rfl⟩ | ⟨id, cs, _, rfl, h1, h2, h3⟩⟩ := hw
  · exact .nil _
  · exact .oa h1 (by omega) (by simpa using h3)
theorem Wr.nil (hs : Sub h0 h) : Wr tb h0 h (.sl [] .full) [] := ⟨hs, .inl ⟨rfl, rfl⟩⟩
theorem Wr.sub (hw : Wr tb h0 h y l) (hs : Sub h h') : Wr tb h0 h' y l := by
  obtain ⟨h1, hw | ⟨id, cs, a, e, b, c, d⟩⟩ := hw
  · exact ⟨h1.trans hs, .inl hw⟩
  · exact ⟨h1.trans hs, .inr ⟨id, cs, a, e, hs _ _ b, c, d⟩⟩
theorem Wr.app (hw : Wr tb h0 h y l) (hz : (U tb).sz = 1) (hb : (U tb).bytes = 1) (hf : (U tb).zero = byteA 0) (hsrc : ∀ k : List AV → Prop, k (m.map byteA) → srcA U tb h v k)
    (hlen : l.length + m.length ≤ 140737488355328) (hk : ∀ y' h', Wr tb h0 h' y' (l ++ m) → Q y' h') : apK U h y v Q (.slice tb) := by
  have hs := hw.1
  have one : Sized (U tb).sz (m.map byteA) := by rw [hz, Sized_bytes]; trivial
  obtain ⟨_, ⟨rfl, rfl⟩ | ⟨id, cs, h1, rfl, h2, h3, h4⟩⟩ := hw
  · refine (apK_full ..).mpr ⟨by rw [hz]; decide, by rw [hb]; decide, hsrc _ ⟨by simp [Sized], one, by rw [hb]; simpa using hlen, fun hn => ?_, fun hn => ?_⟩⟩
    · have : m = [] := by simpa using hn
      subst this
      exact hk _ _ (.nil hs)
    · refine .oa hz (by rw [hf]; simp [fit, byteA, Value.oneCell']) (by rw [hf]; rfl) (noAgg_bytes m) fun id k hid => ?_
      refine hk _ _ ⟨hs.new hid _, .inr ⟨id, _, hs.none hid, ?_, upd_same .., ?_, ?_⟩⟩
      · simp
      · simp
      · simp [List.take_append_of_le_length]
  · refine ⟨by rw [hz]; decide, by rw [hb]; decide, hz, hsrc _ ⟨by rw [← hz]; exact one, noAgg_bytes m, by rw [hb]; simpa using hlen, ?_⟩⟩
    rw [h2]
    refine ⟨by omega, ?_, by rw [hf]; simp [fit, byteA, Value.oneCell'], by rw [hf]; rfl, fun hle => ?_, fun id' k hid => ?_⟩
    · rw [List.drop_zero, h4]; exact noAgg_bytes l
    · rw [List.length_map] at hle ⊢
      have hsub : Sub h0 (upd h id (some (.obj (over cs (0 + l.length) (m.map byteA)) tb))) := fun j b hj => by
        by_cases e : j = id
        · subst e; rw [h1] at hj; cases hj
        · rw [upd_other _ _ e]; exact hs _ _ hj
      have ho : (over cs (0 + l.length) (m.map byteA)).length = cs.length := over_length (by simpa using hle)
      refine hk _ _ ⟨hsub, .inr ⟨id, _, h1, by rw [List.length_append], upd_same .., by rw [ho, List.length_append]; omega, ?_⟩⟩
      rw [over, Nat.zero_add, h4, List.map_append, List.length_append, List.take_append_of_le_length (by simp), ← List.map_append]
      exact List.take_of_length_le (by simp)
    · rw [List.length_map]
      refine hk _ _ ⟨hs.new hid _, .inr ⟨id', _, hs.none hid, by rw [List.length_append], upd_same .., ?_, ?_⟩⟩
      · rw [List.drop_zero, h4]; simp
      · rw [List.drop_zero, h4, ← List.map_append, List.take_append_of_le_length (by simp)]
        exact List.take_of_length_le (by simp)

/-- A byte written. -/
theorem Wr.put (hw : Wr tb h0 h y l) (hz : (U tb).sz = 1) (j : Nat) (hj : j < l.length) {K : AV → Prop} {x : IntKind} (hk : ∀ id cs, y = .oa id 0 l.length → h0 id = none → h id = some (.obj cs tb) → l.length ≤ cs.length → cs.take l.length = l.map byteA → K (.ptr id j)) : iaddrK U y (.v (.int x (j : Nat))) K (.slice tb) := by
  obtain ⟨hs, ⟨rfl, rfl⟩ | ⟨id, cs, h1, rfl, h2, h3, h4⟩⟩ := hw
  · cases hj
  · refine (iaddrK_oa ..).mpr ⟨by rw [hz]; decide, by omega, by omega, ?_⟩
    rw [hz, Nat.zero_add, Nat.mul_one]
    exact hk id cs rfl h1 h2 h3 h4
theorem Wr.put2 {id : Nat} {cs : List AV} {j : Nat} {c : UInt8} (hs : Sub h0 h) (h1 : h0 id = none) (h2 : h id = some (.obj cs tb)) (h3 : l.length ≤ cs.length) (h4 : cs.take l.length = l.map byteA) (hj : j < l.length) :
    Wr tb h0 (upd h id (some (.obj (over cs j [byteA c]) tb))) (.oa id 0 l.length) (l.set j c) := by
  refine ⟨fun i b hi => ?_, .inr ⟨id, _, h1, by rw [List.length_set], upd_same .., ?_, ?_⟩⟩
  · by_cases e : i = id
    · subst e; rw [h1] at hi; cases hi
    · rw [upd_other _ _ e]; exact hs _ _ hi
  · rw [over_length (by simp; omega), List.length_set]; exact h3
  · have e : Ab.over cs j [byteA c] = cs.set j (byteA c) := by
      rw [Ab.over, List.length_singleton, List.set_eq_take_append_cons_drop, if_pos (by omega)]; simp
    rw [e, List.length_set, List.take_set, h4, List.map_set]
end
end Go.Ab
