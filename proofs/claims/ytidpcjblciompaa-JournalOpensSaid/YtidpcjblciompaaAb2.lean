/- What the changes of memory that Go's operations make come to over the abstract memory: nothing but draws; a new block; cells of an owned thing written. -/
import Derived.Test.YtidpcjblciompaaAb1
import Derived.Laws.IdiomCopy
import Derived.Laws.Append
set_option linter.unusedSimpArgs false
set_option linter.unusedVariables false
namespace Go.Ab
open Go

def upd {α : Type} (f : Nat → α) (i : Nat) (x : α) : Nat → α := fun j => if j = i then x else f j
theorem upd_same {α : Type} (f : Nat → α) (i : Nat) (x : α) : upd f i x i = x := by simp [upd]
theorem upd_other {α : Type} (f : Nat → α) {i j : Nat} (x : α) (h : j ≠ i) : upd f i x j = f j := by simp [upd, h]

theorem lt_of_get {α : Type} {a : Array α} {i : Nat} {x : α} (h : a[i]? = some x) : i < a.size := by
  rcases Nat.lt_or_ge i a.size with h' | h'
  · exact h'
  · rw [Array.getElem?_eq_none h'] at h; cases h

/-! ### Draws -/
section
variable {c : Cx} {w' : World}

theorem Ext.draw (hh : w'.heap = c.w.heap) (h1 : w'.os = c.w.os) (h2 : w'.tape = c.w.tape) (h3 : w'.output = c.w.output) : Ext c { c with w := w' } where
  os := h1
  tape := h2
  output := h3
  size := by show c.w.heap.size ≤ w'.heap.size; rw [hh]; exact Nat.le_refl _
  block := fun b _ _ => by show w'.heap[b]? = _; rw [hh]
  cell := fun b o _ _ => by show w'.cell? _ = _; simp [World.cell?, hh]
  shape := fun b cs t fr h => ⟨cs, fr, by show w'.heap[b]? = _; rw [hh]; exact h, rfl⟩
  steal := fun _ _ _ h => h
  obj := fun _ cs _ h => ⟨rfl, cs, h, rfl⟩
  spare := fun _ n _ h => ⟨n, h, .inl ⟨rfl, rfl⟩⟩

theorem Good.draw (g : Good c) (hh : w'.heap = c.w.heap) (h1 : w'.os = c.w.os) (h2 : w'.tape = c.w.tape) (h3 : w'.output = c.w.output) : Good { c with w := w' } where
  fin := g.fin
  inj := g.inj
  obj := fun id cs t h => by
    obtain ⟨vs, a1, a2, a3⟩ := g.obj id cs t h
    exact ⟨vs, by show w'.heap[_]? = _; rw [hh]; exact a1, a2, fun j hj => ⟨(a3 j hj).1.mono (Ext.draw hh h1 h2 h3), (a3 j hj).2⟩⟩
  spare := fun id n sz h => by
    obtain ⟨a0, vs, t, fr, a1, a2⟩ := g.spare id n sz h
    exact ⟨a0, vs, t, fr, by show w'.heap[_]? = _; rw [hh]; exact a1, a2⟩
end

/-! ### A new block -/
theorem heap_alloc_lt (w : World) (o : Obj) {b : Nat} (h : b < w.heap.size) : (w.alloc o).heap[b]? = w.heap[b]? := Go.RowKit.Below.heap_alloc w o b h
theorem heap_alloc_new (w : World) (o : Obj) : (w.alloc o).heap[w.heap.size]? = some o := by
  show (w.heap.push o)[w.heap.size]? = _
  simp

theorem Good.lt {c : Cx} (g : Good c) {id : Nat} {k : Blk} (h : c.h id = some k) : (c.φ id).block < c.w.heap.size := by
  cases k with
  | obj cs t => obtain ⟨vs, h1, _⟩ := g.obj id cs t h; exact lt_of_get h1
  | spare n sz => obtain ⟨_, vs, t, fr, h1, _⟩ := g.spare id n sz h; exact lt_of_get h1

/-- A new block that nobody owns. -/
theorem Ext.alloc (c : Cx) (o : Obj) : Ext c { c with w := c.w.alloc o } where
  os := rfl
  tape := rfl
  output := rfl
  size := by simp
  block := fun b hb _ => heap_alloc_lt _ _ hb
  cell := fun b x hb _ => World.cell?_alloc_lt _ _ _ hb
  shape := fun b cs t fr h => ⟨cs, fr, (heap_alloc_lt _ _ (lt_of_get h)).trans h, rfl⟩
  steal := fun _ _ _ h => h
  obj := fun _ cs _ h => ⟨rfl, cs, h, rfl⟩
  spare := fun _ n _ h => ⟨n, h, .inl ⟨rfl, rfl⟩⟩

theorem Good.alloc {c : Cx} (g : Good c) (o : Obj) : Good { c with w := c.w.alloc o } where
  fin := g.fin
  inj := g.inj
  obj := fun id cs t h => by
    obtain ⟨vs, a1, a2, a3⟩ := g.obj id cs t h
    exact ⟨vs, (heap_alloc_lt _ _ (lt_of_get a1)).trans a1, a2, fun j hj => ⟨(a3 j hj).1.mono (Ext.alloc c o), (a3 j hj).2⟩⟩
  spare := fun id n sz h => by
    obtain ⟨a0, vs, t, fr, a1, a2⟩ := g.spare id n sz h
    exact ⟨a0, vs, t, fr, (heap_alloc_lt _ _ (lt_of_get a1)).trans a1, a2⟩

/-- What a number owned before is given away for a new block of its own. -/
def Cx.allocAt (c : Cx) (o : Obj) (id : Nat) (a : Addr) (k : Blk) : Cx := { w := c.w.alloc o, φ := upd c.φ id a, h := upd c.h id (some k) }

theorem owned_allocAt {c : Cx} {o : Obj} {id : Nat} {a : Addr} {k : Blk} (ha : a.block = c.w.heap.size) {b x : Nat} (hb : b < c.w.heap.size)
    (h : owned (c.allocAt o id a k) b x) : owned c b x := by
  obtain ⟨j, l, h1, h2, h3⟩ := h
  by_cases e : j = id
  · subst e
    simp only [Cx.allocAt, upd_same] at h2
    omega
  · simp only [Cx.allocAt, upd_other _ _ e] at h1 h2 h3
    exact ⟨j, l, h1, h2, h3⟩

theorem Ext.allocAt (c : Cx) (o : Obj) (id : Nat) (a : Addr) (k : Blk) (ha : a.block = c.w.heap.size)
    (hid : c.h id = none ∨ ∃ n m sz, c.h id = some (.spare n sz) ∧ k = .spare m sz ∧ n < m) : Ext c (c.allocAt o id a k) where
  os := rfl
  tape := rfl
  output := rfl
  size := by simp [Cx.allocAt]
  block := fun b hb _ => heap_alloc_lt _ _ hb
  cell := fun b x hb _ => World.cell?_alloc_lt _ _ _ hb
  shape := fun b cs t fr h => ⟨cs, fr, (heap_alloc_lt _ _ (lt_of_get h)).trans h, rfl⟩
  steal := fun b x hb h => owned_allocAt ha hb h
  obj := fun j cs t h => by
    have e : j ≠ id := by
      rintro rfl
      rcases hid with h' | ⟨n, m, sz, h', _⟩ <;> rw [h'] at h <;> cases h
    exact ⟨upd_other _ _ e, cs, (upd_other _ _ e).trans h, rfl⟩
  spare := fun j n sz h => by
    by_cases e : j = id
    · subst e
      rcases hid with h' | ⟨n', m, sz', h', rfl, hlt⟩
      · rw [h'] at h; cases h
      · rw [h'] at h; cases h
        exact ⟨m, by simp [Cx.allocAt, upd_same], .inr hlt⟩
    · exact ⟨n, (upd_other _ _ e).trans h, .inl ⟨rfl, upd_other _ _ e⟩⟩

theorem Good.allocAt {c : Cx} (g : Good c) (vs : Array Value) (t : TypeId) (fr : Nat × Nat) (id : Nat) (a : Addr) (k : Blk) (ha : a.block = c.w.heap.size)
    (hid : c.h id = none ∨ ∃ n m sz, c.h id = some (.spare n sz) ∧ k = .spare m sz ∧ n < m)
    (hobj : ∀ cs t', k = .obj cs t' → t' = t ∧ fr = (0, 0) ∧ vs.size = cs.length ∧ ∀ j (h : j < cs.length), Rep c cs[j] (vs.getD j undef) ∧ (vs.getD j undef).oneCell' = true)
    (hsp : ∀ n sz, k = .spare n sz → a.spot = none ∧ ∀ o, a.off + n * sz ≤ o → ¬ (fr.1 ≤ o ∧ o < fr.2)) :
    Good (c.allocAt (.cells vs t fr) id a k) := by
  have hE := Ext.allocAt c (.cells vs t fr) id a k ha hid
  refine ⟨?_, ?_, ?_, ?_⟩
  · obtain ⟨N, hN⟩ := g.fin
    refine ⟨max N (id + 1), fun j hj => ?_⟩
    have e : j ≠ id := by omega
    exact (upd_other _ _ e).trans (hN j (by omega))
  · intro i j k1 k2 h1 h2 hne
    by_cases ei : i = id
    · subst ei
      have ej : j ≠ i := fun e => hne e.symm
      simp only [Cx.allocAt, upd_same, upd_other _ _ ej] at h2 ⊢
      have := g.lt h2
      omega
    · by_cases ej : j = id
      · subst ej
        simp only [Cx.allocAt, upd_same, upd_other _ _ ei] at h1 ⊢
        have := g.lt h1
        omega
      · simp only [Cx.allocAt, upd_other _ _ ei, upd_other _ _ ej] at h1 h2 ⊢
        exact g.inj i j k1 k2 h1 h2 hne
  · intro j cs t' h
    by_cases e : j = id
    · subst e
      simp only [Cx.allocAt, upd_same, Option.some.injEq] at h
      obtain ⟨rfl, rfl, h2, h3⟩ := hobj cs t' h
      refine ⟨vs, ?_, h2, fun i hi => ⟨(h3 i hi).1.mono hE, (h3 i hi).2⟩⟩
      simp only [Cx.allocAt, upd_same, ha]
      exact heap_alloc_new _ _
    · simp only [Cx.allocAt, upd_other _ _ e] at h
      obtain ⟨us, a1, a2, a3⟩ := g.obj j cs t' h
      refine ⟨us, ?_, a2, fun i hi => ⟨(a3 i hi).1.mono hE, (a3 i hi).2⟩⟩
      simp only [Cx.allocAt, upd_other _ _ e]
      exact (heap_alloc_lt _ _ (lt_of_get a1)).trans a1
  · intro j n sz h
    by_cases e : j = id
    · subst e
      simp only [Cx.allocAt, upd_same, Option.some.injEq] at h
      obtain ⟨h1, h2⟩ := hsp n sz h
      simp only [Cx.allocAt, upd_same]
      exact ⟨h1, vs, t, fr, by rw [ha]; exact heap_alloc_new _ _, h2⟩
    · simp only [Cx.allocAt, upd_other _ _ e] at h ⊢
      obtain ⟨a0, us, t', fr', a1, a2⟩ := g.spare j n sz h
      exact ⟨a0, us, t', fr', (heap_alloc_lt _ _ (lt_of_get a1)).trans a1, a2⟩

theorem Good.fresh {c : Cx} (g : Good c) : ∃ id, c.h id = none := let ⟨N, h⟩ := g.fin; ⟨N, h N (Nat.le_refl _)⟩

/-! ### Cells of an owned thing are written -/
theorem size_setCells (b : Nat) : ∀ (vs : List Value) (o : Nat) (w : World), (w.setCells b o vs).heap.size = w.heap.size
  | [], _, _ => rfl
  | v :: r, o, w => by rw [World.setCells, size_setCells b r, World.size_setCell]

theorem heap_setCells_other (b : Nat) : ∀ (vs : List Value) (o : Nat) (w : World) (k : Nat), k ≠ b → (w.setCells b o vs).heap[k]? = w.heap[k]?
  | [], _, _, _, _ => rfl
  | v :: r, o, w, k, h => by rw [World.setCells, heap_setCells_other b r _ _ k h, Go.RowKit.Below.heap_setCell _ _ _ _ h]

theorem heap_setCells_same (b : Nat) : ∀ (vs : List Value) (o : Nat) (w : World) (cs : Array Value) (t : TypeId) (fr : Nat × Nat), w.heap[b]? = some (.cells cs t fr) →
    ∃ cs' : Array Value, (w.setCells b o vs).heap[b]? = some (.cells cs' t fr) ∧ cs'.size = cs.size
  | [], _, _, cs, _, _, h => ⟨cs, h, rfl⟩
  | v :: r, o, w, cs, t, fr, h => by
    have h1 : (w.setCell ⟨b, o, none⟩ v).heap[b]? = some (.cells (cs.setIfInBounds o v) t fr) := by
      simp [World.setCell, Array.getElem?_modify, h]
    obtain ⟨cs', h2, h3⟩ := heap_setCells_same b r (o + 1) _ _ t fr h1
    exact ⟨cs', h2, by simpa using h3⟩

theorem os_setCells (b : Nat) : ∀ (vs : List Value) (o : Nat) (w : World), (w.setCells b o vs).os = w.os ∧ (w.setCells b o vs).tape = w.tape ∧ (w.setCells b o vs).output = w.output
  | [], _, _ => ⟨rfl, rfl, rfl⟩
  | v :: r, o, w => by rw [World.setCells]; exact os_setCells b r (o + 1) _

/-- Cells of an owned thing written. -/
def Cx.fill (c : Cx) (id o : Nat) (vs : List Value) (k : Blk) : Cx := { c with w := c.w.setCells (c.φ id).block o vs, h := upd c.h id (some k) }

theorem Ext.fill {c : Cx} (id o : Nat) (vs : List Value) (k0 k : Blk) (h : c.h id = some k0) (ho : k0.start (c.φ id) ≤ o)
    (hk : (∃ cs cs' t, k0 = .obj cs t ∧ k = .obj cs' t ∧ cs'.length = cs.length) ∨ (∃ n m sz, k0 = .spare n sz ∧ k = .spare m sz ∧ n < m)) : Ext c (c.fill id o vs k) where
  os := (os_setCells _ vs o _).1
  tape := (os_setCells _ vs o _).2.1
  output := (os_setCells _ vs o _).2.2
  size := by show _ ≤ (c.w.setCells _ o vs).heap.size; rw [size_setCells]; exact Nat.le_refl _
  block := fun b _ hno => heap_setCells_other _ vs o _ b fun e => hno o ⟨id, k0, h, e.symm, ho⟩
  cell := fun b x _ hno => World.cell?_setCells_out _ vs o _ _ fun e _ => by
    rcases Nat.lt_or_ge x o with h' | h'
    · exact .inl h'
    · exact (hno ⟨id, k0, h, e.symm, by omega⟩).elim
  shape := fun b cs t fr hb => by
    by_cases e : b = (c.φ id).block
    · subst e
      obtain ⟨cs', h1, h2⟩ := heap_setCells_same _ vs o _ cs t fr hb
      exact ⟨cs', fr, h1, h2⟩
    · exact ⟨cs, fr, (heap_setCells_other _ vs o _ b e).trans hb, rfl⟩
  steal := fun b x _ hx => by
    obtain ⟨j, l, h1, h2, h3⟩ := hx
    by_cases e : j = id
    · subst e
      simp only [Cx.fill, upd_same, Option.some.injEq] at h1
      subst h1
      refine ⟨j, k0, h, h2, ?_⟩
      rcases hk with ⟨cs, cs', t, rfl, rfl, _⟩ | ⟨n, m, sz, rfl, rfl, hlt⟩
      · exact Nat.zero_le _
      · simp only [Blk.start, Cx.fill] at h3 ⊢
        have : n * sz ≤ m * sz := Nat.mul_le_mul_right _ (Nat.le_of_lt hlt)
        omega
    · simp only [Cx.fill, upd_other _ _ e] at h1 h2 h3
      exact ⟨j, l, h1, h2, h3⟩
  obj := fun j cs t hj => by
    by_cases e : j = id
    · subst e
      rw [h] at hj
      rcases hk with ⟨cs0, cs', t0, rfl, rfl, hlen⟩ | ⟨n, m, sz, rfl, _⟩ <;> cases hj
      exact ⟨rfl, cs', by simp [Cx.fill, upd_same], hlen⟩
    · exact ⟨rfl, cs, (upd_other _ _ e).trans hj, rfl⟩
  spare := fun j n sz hj => by
    by_cases e : j = id
    · subst e
      rw [h] at hj
      rcases hk with ⟨cs0, cs', t0, rfl, _⟩ | ⟨n0, m, sz0, rfl, rfl, hlt⟩ <;> cases hj
      exact ⟨m, by simp [Cx.fill, upd_same], .inr hlt⟩
    · exact ⟨n, (upd_other _ _ e).trans hj, .inl ⟨rfl, rfl⟩⟩

/-- The cells of a list from a place on put in the place of others. -/
def over (cs : List AV) (o : Nat) (xs : List AV) : List AV := cs.take o ++ xs ++ cs.drop (o + xs.length)

theorem over_length {cs xs : List AV} {o : Nat} (h : o + xs.length ≤ cs.length) : (over cs o xs).length = cs.length := by
  simp [over]; omega

theorem over_out {cs xs : List AV} {o j : Nat} (h : o + xs.length ≤ cs.length) (hj : j < cs.length) (hne : j < o ∨ o + xs.length ≤ j)
    (hj' : j < (over cs o xs).length) : (over cs o xs)[j] = cs[j] := by
  rcases hne with h1 | h1
  · simp only [over, List.append_assoc]
    rw [List.getElem_append_left (by simp; omega)]
    simp
  · simp only [over]
    rw [List.getElem_append_right (by simp; omega)]
    simp only [List.length_append, List.length_take, List.getElem_drop]
    congr 1
    omega

theorem over_in {cs xs : List AV} {o j : Nat} (h : o + xs.length ≤ cs.length) (hj : j < xs.length)
    (hj' : o + j < (over cs o xs).length) : (over cs o xs)[o + j] = xs[j] := by
  simp only [over, List.append_assoc]
  rw [List.getElem_append_right (by simp; omega)]
  rw [List.getElem_append_left (by simp; omega)]
  congr 1
  simp; omega

theorem Good.fillObj {c : Cx} (g : Good c) (id o : Nat) (vs : List Value) (cs xs : List AV) (t : TypeId) (h : c.h id = some (.obj cs t))
    (hl : vs.length = xs.length) (hb : o + xs.length ≤ cs.length) (hr : ∀ j (h : j < xs.length), Rep c xs[j] (vs.getD j undef) ∧ (vs.getD j undef).oneCell' = true) :
    Good (c.fill id o vs (.obj (over cs o xs) t)) := by
  have hE := Ext.fill id o vs (.obj cs t) (.obj (over cs o xs) t) h (Nat.zero_le _) (.inl ⟨_, _, _, rfl, rfl, over_length (by assumption)⟩)
  refine ⟨?_, ?_, ?_, ?_⟩
  · obtain ⟨N, hN⟩ := g.fin
    refine ⟨max N (id + 1), fun j hj => ?_⟩
    have e : j ≠ id := by omega
    exact (upd_other _ _ e).trans (hN j (by omega))
  · intro i j k1 k2 h1 h2 hne
    have f : ∀ i k, (c.fill id o vs (.obj (over cs o xs) t)).h i = some k → ∃ k', c.h i = some k' := fun i k hi => by
      by_cases e : i = id
      · subst e; exact ⟨_, h⟩
      · exact ⟨k, by simpa only [Cx.fill, upd_other _ _ e] using hi⟩
    obtain ⟨k1', h1'⟩ := f i k1 h1
    obtain ⟨k2', h2'⟩ := f j k2 h2
    exact g.inj i j k1' k2' h1' h2' hne
  · intro j ys t' hj
    by_cases e : j = id
    · subst e
      simp only [Cx.fill, upd_same, Option.some.injEq, Blk.obj.injEq] at hj
      obtain ⟨rfl, rfl⟩ := hj
      obtain ⟨us, a1, a2, a3⟩ := g.obj j cs t h
      obtain ⟨us', b1, b2⟩ := heap_setCells_same _ vs o c.w us t (0, 0) a1
      refine ⟨us', b1, by rw [over_length hb]; omega, fun i hi => ?_⟩
      have hi' : i < cs.length := by rwa [over_length hb] at hi
      have hcell : ∀ i, i < us.size → c.w.cell? ⟨(c.φ j).block, i, none⟩ = some (us.getD i undef) := fun i hi => by simp [World.cell?, a1, hi]
      have hcell' : (c.w.setCells (c.φ j).block o vs).cell? ⟨(c.φ j).block, i, none⟩ = some (us'.getD i undef) := by
        have : i < us'.size := by omega
        simp [World.cell?, b1, this]
      by_cases hin : o ≤ i ∧ i < o + xs.length
      · obtain ⟨k, rfl⟩ : ∃ k, i = o + k := ⟨i - o, by omega⟩
        have hk : k < xs.length := by omega
        have := World.cell?_setCells_in (c.φ j).block vs o c.w (fun m hm => by rw [hcell _ (by omega)]; rfl) k (by omega)
        rw [hcell'] at this
        simp only [Option.some.injEq] at this
        rw [this, over_in hb hk]
        have h3 := hr k hk
        have e3 : vs.getD k undef = vs[k] := by simp [List.getD, List.getElem?_eq_getElem (show k < vs.length by omega)]
        rw [e3] at h3
        exact ⟨h3.1.mono hE, h3.2⟩
      · have hout : i < o ∨ o + xs.length ≤ i := by omega
        have := World.cell?_setCells_out (c.φ j).block vs o c.w ⟨(c.φ j).block, i, none⟩ (fun _ _ => by simp only; omega)
        rw [hcell', hcell i (by omega)] at this
        simp only [Option.some.injEq] at this
        rw [this, over_out hb hi' hout]
        exact ⟨(a3 i hi').1.mono hE, (a3 i hi').2⟩
    · simp only [Cx.fill, upd_other _ _ e] at hj
      obtain ⟨us, a1, a2, a3⟩ := g.obj j ys t' hj
      refine ⟨us, (heap_setCells_other _ vs o _ _ ?_).trans a1, a2, fun i hi => ⟨(a3 i hi).1.mono hE, (a3 i hi).2⟩⟩
      exact g.inj j id _ _ hj h e
  · intro j n sz hj
    have e : j ≠ id := by
      rintro rfl
      simp [Cx.fill, upd_same] at hj
    simp only [Cx.fill, upd_other _ _ e] at hj ⊢
    obtain ⟨a0, us, t', fr', a1, a2⟩ := g.spare j n sz hj
    exact ⟨a0, us, t', fr', (heap_setCells_other _ vs o _ _ (g.inj j id _ _ hj h e)).trans a1, a2⟩

theorem Good.fillSpare {c : Cx} (g : Good c) (id o : Nat) (vs : List Value) (n m sz : Nat) (h : c.h id = some (.spare n sz)) (ho : (c.φ id).off + n * sz ≤ o) (hlt : n < m) :
    Good (c.fill id o vs (.spare m sz)) := by
  have hE := Ext.fill id o vs (.spare n sz) (.spare m sz) h ho (.inr ⟨_, _, _, rfl, rfl, hlt⟩)
  refine ⟨?_, ?_, ?_, ?_⟩
  · obtain ⟨N, hN⟩ := g.fin
    refine ⟨max N (id + 1), fun j hj => ?_⟩
    have e : j ≠ id := by omega
    exact (upd_other _ _ e).trans (hN j (by omega))
  · intro i j k1 k2 h1 h2 hne
    have f : ∀ i k, (c.fill id o vs (.spare m sz)).h i = some k → ∃ k', c.h i = some k' := fun i k hi => by
      by_cases e : i = id
      · subst e; exact ⟨_, h⟩
      · exact ⟨k, by simpa only [Cx.fill, upd_other _ _ e] using hi⟩
    obtain ⟨k1', h1'⟩ := f i k1 h1
    obtain ⟨k2', h2'⟩ := f j k2 h2
    exact g.inj i j k1' k2' h1' h2' hne
  · intro j ys t' hj
    have e : j ≠ id := by
      rintro rfl
      simp [Cx.fill, upd_same] at hj
    simp only [Cx.fill, upd_other _ _ e] at hj
    obtain ⟨us, a1, a2, a3⟩ := g.obj j ys t' hj
    refine ⟨us, (heap_setCells_other _ vs o _ _ ?_).trans a1, a2, fun i hi => ⟨(a3 i hi).1.mono hE, (a3 i hi).2⟩⟩
    exact g.inj j id _ _ hj h e
  · intro j n' sz' hj
    by_cases e : j = id
    · subst e
      simp only [Cx.fill, upd_same, Option.some.injEq, Blk.spare.injEq] at hj
      obtain ⟨rfl, rfl⟩ := hj
      obtain ⟨a0, us, t', fr', a1, a2⟩ := g.spare j n sz h
      obtain ⟨us', b1, _⟩ := heap_setCells_same _ vs o c.w us t' fr' a1
      refine ⟨a0, us', t', fr', b1, fun x hx => a2 x ?_⟩
      have : n * sz ≤ m * sz := Nat.mul_le_mul_right _ (Nat.le_of_lt hlt)
      simp only [Cx.fill] at hx
      omega
    · simp only [Cx.fill, upd_other _ _ e] at hj ⊢
      obtain ⟨a0, us, t', fr', a1, a2⟩ := g.spare j n' sz' hj
      exact ⟨a0, us, t', fr', (heap_setCells_other _ vs o _ _ (g.inj j id _ _ hj h e)).trans a1, a2⟩

/-- What is owned no more is left alone from then on. -/
def Cx.forget (c : Cx) (id : Nat) : Cx := { c with h := upd c.h id none }

end Go.Ab
