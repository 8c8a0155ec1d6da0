/- A slice that grows; rows of rows of bytes; loads out of them. -/
import Derived.Test.YtidpcjblciompaaAb21
set_option linter.unusedSimpArgs false
set_option linter.unusedVariables false
namespace Go.Ab
open Go

section
variable {P : Program} {U : TypeId → TI} {n : Nat} {ρ : Env} {h h' h2 : Heap} {e tb : TypeId} {y v : AV} {xs zs : List AV} {l : List UInt8} {Q : AV → Heap → Prop}

/-- All objects are as they were. -/
def KeepObj (h h' : Heap) : Prop := ∀ j cs t, h j = some (.obj cs t) → h' j = some (.obj cs t)
theorem KeepObj.refl (h : Heap) : KeepObj h h := fun _ _ _ e => e
theorem KeepObj.trans {a b c : Heap} (x : KeepObj a b) (y : KeepObj b c) : KeepObj a c := fun j cs t e => y j cs t (x j cs t e)
theorem Sub.keepObj (hs : Sub h h') : KeepObj h h' := fun _ _ _ e => hs _ _ e
theorem Bytes.keepObj (hb : Bytes tb h y l) (hs : KeepObj h h') : Bytes tb h' y l := by
  rcases hb with hb | ⟨id, off, cs, rfl, h1, h2, h3⟩
  · exact .inl hb
  · exact .oa (hs _ _ _ h1) h2 h3

/-- A slice that grows, in a memory that was h at first. -/
def Acc (U : TypeId → TI) (e : TypeId) (h h' : Heap) (y : AV) (xs : List AV) : Prop :=
  Sub h h' ∧ (y = .sl xs .full ∨ ∃ id, h id = none ∧ y = .sl xs (.own id) ∧ h' id = some (.spare xs.length (U e).sz))
theorem Acc.full (hs : Sub h h') : Acc U e h h' (.sl xs .full) xs := ⟨hs, .inl rfl⟩
theorem Acc.sub (ha : Acc U e h h' y xs) (hs : Sub h' h2) : Acc U e h h2 y xs := by
  obtain ⟨h1, rfl | ⟨id, i1, rfl, i2⟩⟩ := ha
  · exact ⟨h1.trans hs, .inl rfl⟩
  · exact ⟨h1.trans hs, .inr ⟨id, i1, rfl, hs _ _ i2⟩⟩
theorem Acc.row (ha : Acc U e h h' y xs) : ∃ q, y = .sl xs q := by
  obtain ⟨h1, rfl | ⟨id, i1, rfl, i2⟩⟩ := ha <;> exact ⟨_, rfl⟩
theorem Acc.weak (ha : Acc U e h h' y xs) : Weak y (.sl xs .no) := by
  obtain ⟨q, rfl⟩ := ha.row; exact .sl _ _
theorem Acc.fit (ha : Acc U e h h' y xs) (m : Nat) : Ab.fit y m = (m = 1) := by
  obtain ⟨q, rfl⟩ := ha.row; rfl
theorem Acc.len (ha : Acc U e h h' y xs) (t : TypeId) (k : AV → Prop) : lenK y k (.slice t) = k (.v (.int .i64 xs.length)) := by
  obtain ⟨q, rfl⟩ := ha.row; rfl
theorem Acc.app (ha : Acc U e h h' y xs) (hz : (U e).sz ≠ 0) (hb : (U e).bytes ≠ 0) (hsrc : ∀ k : List AV → Prop, k zs → srcA U e h' v k) (s1 : Sized (U e).sz xs) (s2 : Sized (U e).sz zs)
    (hlen : (xs.length + zs.length) * (U e).bytes ≤ 140737488355328) (hk : ∀ y' h'', Acc U e h h'' y' (xs ++ zs) → KeepObj h' h'' → Q y' h'') : apK U h' y v Q (.slice e) := by
  have keep : ∀ id, (h' id = none ∨ ∃ m, h' id = some (.spare m (U e).sz)) → ∀ k, KeepObj h' (upd h' id k) := fun id hid k j cs t hj => by
    rw [upd_other _ _ fun e => ?_]
    · exact hj
    · subst e
      rcases hid with hid | ⟨m, hid⟩ <;> rw [hid] at hj <;> cases hj
  obtain ⟨h1, rfl | ⟨id, i1, rfl, i2⟩⟩ := ha
  · refine (apK_full ..).mpr ⟨hz, hb, hsrc _ ⟨s1, s2, hlen, fun hn => ?_, fun hn => .own fun id hid => ?_⟩⟩
    · subst hn
      have := hk (.sl xs .full) h' (by rw [List.append_nil]; exact .full h1) (.refl _)
      exact this
    · exact hk _ _ ⟨h1.new hid _, .inr ⟨id, h1.none hid, rfl, by rw [upd_same, List.length_append]⟩⟩ (keep id (.inl hid) _)
  · refine (apK_own ..).mpr ⟨hz, hb, hsrc _ ⟨s1, s2, hlen, i2, ?_⟩⟩
    have hs2 : Sub h (upd h' id (some (.spare (xs.length + zs.length) (U e).sz))) := by
      intro j k hj
      rw [upd_other _ _ fun e => ?_]
      · exact h1 _ _ hj
      · subst e; rw [i1] at hj; cases hj
    exact hk _ _ ⟨hs2, .inr ⟨id, i1, rfl, by rw [upd_same, List.length_append]⟩⟩ (keep id (.inr ⟨_, i2⟩) _)

/-- Bytes are no aggregate. -/
theorem Bytes.noAgg (hb : Bytes tb h y l) : isAggA y = false := by
  rcases hb with ⟨q, rfl⟩ | ⟨id, off, cs, rfl, _⟩ <;> rfl
theorem Bytes.load (hb : Bytes tb h y l) {t : TypeId} (hz : (U t).sz = 1) (ha : (U t).k.agg = false) (k : AV → Prop) : loadA U h' t (.pe y 0) k = k y := by
  simp only [loadA, atA_eq, hz, ha, hb.cells, hb.noAgg, List.length_cons, List.length_nil, Nat.zero_add, and_self, if_true]
theorem Bytes.wf (hb : Bytes tb h y l) (hw : wfA y) : l.length < lim ∨ ∃ id off m, y = .oa id off m := by
  rcases hb with ⟨q, rfl⟩ | ⟨id, off, cs, rfl, _⟩
  · exact .inl (by simpa [wfA, wf1] using hw)
  · exact .inr ⟨_, _, _, rfl⟩

/-- A row of rows of bytes. -/
def Rows (tb : TypeId) (h : Heap) (ys : List AV) (ls : List (List UInt8)) : Prop := ys.length = ls.length ∧ ∀ i (h1 : i < ys.length) (h2 : i < ls.length), Bytes tb h ys[i] ls[i]
theorem Rows.keepObj {ys : List AV} {ls : List (List UInt8)} (hr : Rows tb h ys ls) (hs : KeepObj h h') : Rows tb h' ys ls := ⟨hr.1, fun i h1 h2 => (hr.2 i h1 h2).keepObj hs⟩
theorem Rows.sized {ys : List AV} {ls : List (List UInt8)} (hr : Rows tb h ys ls) : Sized 1 ys := fun z hz => by
  obtain ⟨i, hi, rfl⟩ := List.mem_iff_getElem.1 hz
  rw [(hr.2 i hi (by rw [← hr.1]; exact hi)).cells]; rfl
theorem Rows.nil : Rows tb h [] [] := ⟨rfl, fun i h1 => by cases h1⟩
theorem Rows.cons {ys : List AV} {ls : List (List UInt8)} (hb : Bytes tb h y l) (hr : Rows tb h ys ls) : Rows tb h (y :: ys) (l :: ls) := ⟨by simp [hr.1], fun i h1 h2 => by
  cases i with
  | zero => exact hb
  | succ i => exact hr.2 i (by simpa using h1) (by simpa using h2)⟩

end
end Go.Ab
