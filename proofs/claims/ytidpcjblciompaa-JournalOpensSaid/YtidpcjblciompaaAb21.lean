/- Bytes: a row of bytes, in whatever shape a slice of them is known. -/
import Derived.Test.YtidpcjblciompaaAb20
set_option linter.unusedSimpArgs false
set_option linter.unusedVariables false
namespace Go.Ab
open Go

section
variable {P : Program} {U : TypeId → TI} {n : Nat} {ρ : Env} {h h' : Heap} {tb : TypeId} {y : AV} {l : List UInt8}

@[go_sem] theorem byteA_eq (c : UInt8) : byteA c = .v (.int .u8 c.toNat) := rfl
theorem byteA_inj {a b : UInt8} : byteA a = byteA b ↔ a = b := by
  simp only [byteA, AV.v.injEq, Value.int.injEq, true_and, Int.natCast_inj, UInt8.toNat_inj]
theorem mapByte_inj {a b : List UInt8} : a.map byteA = b.map byteA ↔ a = b :=
  ⟨fun e => List.map_inj_right (fun _ _ h => byteA_inj.1 h) |>.1 e, fun e => by rw [e]⟩
@[go_sem] theorem Sized_bytes (l : List UInt8) : Sized 1 (l.map byteA) = True := by
  apply eq_true
  intro z hz
  obtain ⟨c, _, rfl⟩ := List.mem_map.1 hz
  rfl
@[go_sem] theorem Sized_nil (m : Nat) : Sized m [] = True := by simp [Sized]
@[go_sem] theorem Sized_cons (m : Nat) (x : AV) (r : List AV) : Sized m (x :: r) = (x.cells.length = m ∧ Sized m r) := by simp [Sized]
theorem noAgg_bytes (l : List UInt8) : ∀ z ∈ l.map byteA, isAggA z = false := by
  intro z hz
  obtain ⟨c, _, rfl⟩ := List.mem_map.1 hz
  rfl
@[go_sem] theorem noAgg_bytes' (l : List UInt8) : (∀ z ∈ l.map byteA, isAggA z = false) = True := eq_true (noAgg_bytes l)
@[go_sem] theorem length_bytes (l : List UInt8) : (l.map byteA).length = l.length := List.length_map ..

/-- Nothing that is owned is gone or other. -/
theorem Sub.upd_new {id : Nat} {k : Option Blk} (hid : h id = Option.none) : Sub h (Ab.upd h id k) := (Sub.refl h).new hid k
/-- All that is owned but one thing is as it was. -/
def Keep (id : Nat) (h h' : Heap) : Prop := ∀ j k, j ≠ id → h j = some k → h' j = some k
theorem Keep.refl (id : Nat) (h : Heap) : Keep id h h := fun _ _ _ e => e
theorem Keep.trans {a b c : Heap} {id : Nat} (x : Keep id a b) (y : Keep id b c) : Keep id a c := fun j k e hj => y j k e (x j k e hj)
theorem Sub.keep (hs : Sub h h') (id : Nat) : Keep id h h' := fun _ _ _ e => hs _ _ e
theorem Keep.upd (id : Nat) (k : Option Blk) : Keep id h (Ab.upd h id k) := fun _ _ e hj => by rw [upd_other _ _ e]; exact hj

/-- A row of bytes. -/
def Bytes (tb : TypeId) (h : Heap) (y : AV) (l : List UInt8) : Prop :=
  (∃ q, y = .sl (l.map byteA) q) ∨ ∃ id off cs, y = .oa id off l.length ∧ h id = some (.obj cs tb) ∧ off + l.length ≤ cs.length ∧ (cs.drop off).take l.length = l.map byteA

theorem Bytes.sl (l : List UInt8) (q : Perm) : Bytes tb h (.sl (l.map byteA) q) l := .inl ⟨q, rfl⟩
theorem Bytes.nil (q : Perm) : Bytes tb h (.sl [] q) [] := .inl ⟨q, rfl⟩
theorem Bytes.oa {id off : Nat} {cs : List AV} (h1 : h id = some (.obj cs tb)) (h2 : off + l.length ≤ cs.length) (h3 : (cs.drop off).take l.length = l.map byteA) : Bytes tb h (.oa id off l.length) l := .inr ⟨id, off, cs, rfl, h1, h2, h3⟩
theorem Bytes.sub (hb : Bytes tb h y l) (hs : Sub h h') : Bytes tb h' y l := by
  rcases hb with hb | ⟨id, off, cs, rfl, h1, h2, h3⟩
  · exact .inl hb
  · exact .oa (hs _ _ h1) h2 h3
theorem Bytes.keep (hb : Bytes tb h y l) {id : Nat} (hs : Keep id h h') {cs : List AV} {t : TypeId} (hid : h id = some (.obj cs t)) (ht : t ≠ tb) : Bytes tb h' y l := by
  rcases hb with hb | ⟨i, off, cs', rfl, h1, h2, h3⟩
  · exact .inl hb
  · refine .oa (hs _ _ (fun e => ?_) h1) h2 h3
    subst e
    rw [hid] at h1
    cases h1
    exact ht rfl
theorem Bytes.new (hb : Bytes tb h y l) {id : Nat} {k : Option Blk} (hid : h id = none) : Bytes tb (Ab.upd h id k) y l := hb.sub (Sub.upd_new hid)
theorem Bytes.cells (hb : Bytes tb h y l) : y.cells = [y] := by
  rcases hb with ⟨q, rfl⟩ | ⟨id, off, cs, rfl, _⟩ <;> rfl
theorem Bytes.fit (hb : Bytes tb h y l) (m : Nat) : Ab.fit y m = (m = 1) := by
  rcases hb with ⟨q, rfl⟩ | ⟨id, off, cs, rfl, _⟩ <;> rfl
theorem Bytes.len (hb : Bytes tb h y l) (e : TypeId) (k : AV → Prop) : lenK y k (.slice e) = k (.v (.int .i64 l.length)) := by
  rcases hb with ⟨q, rfl⟩ | ⟨id, off, cs, rfl, _⟩
  · simp only [lenK, List.length_map]
  · rfl
theorem Bytes.src (hb : Bytes tb h y l) {e : TypeId} (he : (U e).sz = 1) (k : List AV → Prop) : srcA U e h y k = k (l.map byteA) := by
  rcases hb with ⟨q, rfl⟩ | ⟨id, off, cs, rfl, h1, h2, h3⟩
  · rfl
  · rw [srcA_oa, h1, he]
    simp only [bindO_some, objL_eq, h3, h2, true_and]
    apply propext
    constructor
    · rintro ⟨_, _, hk⟩; exact hk
    · intro hk
      exact ⟨fun x hx => by obtain ⟨c, _, rfl⟩ := List.mem_map.1 hx; rfl, noAgg_bytes l, hk⟩
theorem Bytes.nilE (hb : Bytes tb h y l) {e : TypeId} {w : Heap} {Q : AV → Heap → Prop} (hk : ∀ b : Bool, (l ≠ [] → b = false) → Q (.v (.bool b)) w) : nilK w .eql y Q (.slice e) := by
  rcases hb with ⟨q, rfl⟩ | ⟨id, off, cs, rfl, h1, h2, h3⟩
  · intro b hb
    exact hk b fun hl => hb (by simpa using hl)
  · exact hk false fun _ => rfl
/-- A place at which a byte stands. -/
def ByteP (U : TypeId → TI) (tb : TypeId) (h : Heap) (p : AV) (c : UInt8) : Prop := ∀ k : AV → Prop, loadA U h tb p k = k (byteA c)
theorem Bytes.idx (hb : Bytes tb h y l) {m : Int} {x : IntKind} {K : AV → Prop} (j : Nat) (hm : m = j) (hj : j < l.length) (hz : (U tb).sz = 1) (ha : (U tb).k.agg = false)
    (hk : ∀ p, ByteP U tb h p l[j] → K p) : iaddrK U y (.v (.int x m)) K (.slice tb) := by
  subst hm
  rcases hb with ⟨q, rfl⟩ | ⟨id, off, cs, rfl, h1, h2, h3⟩
  · refine (iaddrK_sl ..).mpr ⟨by rw [hz]; decide, ?_⟩
    refine IdxE.at j (by simpa using hj) (by rw [List.getElem_map, hz]; rfl) ?_
    simp only [List.getElem_map]
    refine hk _ fun k => ?_
    simp only [loadA, atA_eq, ha, hz, byteA, AV.cells, isAggA, List.length_cons, List.length_nil, Nat.zero_add, and_self, if_true]
  · refine (iaddrK_oa ..).mpr ⟨by rw [hz]; decide, by omega, by omega, ?_⟩
    refine hk _ fun k => ?_
    have hlt : off + j < cs.length := by omega
    have e1 : cs[off + j]? = some (byteA l[j]) := by
      have := congrArg (fun q => q[j]?) h3
      simp only [List.getElem?_take, hj, if_true, List.getElem?_drop, List.getElem?_map, List.getElem?_eq_getElem hj, Option.map_some] at this
      exact this
    simp only [loadA, h1, bindO_some, objL_eq, hz, Nat.mul_one, Int.toNat_natCast, partA_eq, ha, Br, e1]
    simp
/-- A cut at the end. -/
theorem Bytes.take (hb : Bytes tb h y l) {hi : Operand} {m : Int} {x : IntKind} {K : AV → Prop} (j : Nat) (hm : ev ρ hi = some (.v (.int x m))) (hj : m = j) (hl : j ≤ l.length) (hz : (U tb).sz = 1) (hk : ∀ z, Bytes tb h z (l.take j) → K z) :
    sliceK U ρ y none (some hi) none K (.slice tb) := by
  subst hj
  rcases hb with ⟨q, rfl⟩ | ⟨id, off, cs, rfl, h1, h2, h3⟩
  · rw [sliceK_none, optA_some, hm]
    refine ⟨by rw [hz]; decide, ?_⟩
    simp only [bindO_some, intA_eq, Option.isSome_some, cutL_ft, Int.toNat_natCast]
    refine ⟨by omega, by simpa using hl, ?_⟩
    rw [← List.map_take]
    exact hk _ (.sl _ _)
  · rw [sliceK_oa]
    refine ⟨by rw [hz]; decide, fun _ => hz, ?_⟩
    simp only [optA_none, optA_some, hm, bindO_some, intA_eq]
    refine ⟨by omega, by omega, by omega, ?_⟩
    simp only [Int.toNat_natCast, hz, Nat.mul_one]
    have e : (l.take j).length = j := by simp; omega
    have := hk (.oa id off (l.take j).length) (.oa h1 (by omega) (by
      rw [e, List.map_take, ← h3, List.take_take, Nat.min_eq_left hl]))
    rw [e] at this
    simpa using this
end
end Go.Ab
