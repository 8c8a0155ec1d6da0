/- The abstract values of a Go program's memory, what it means that a value of the model stands for one, and how that outlasts changes of memory elsewhere. -/
import Derived.Tactics
import Derived.Still
import Derived.Below
set_option linter.unusedSimpArgs false
set_option linter.unusedVariables false
namespace Go.Ab
open Go

/-- What is known of the room behind a slice's elements: nothing; there is none; it is kept under a number. -/
inductive Perm where
  | no
  | full
  | own (id : Nat)

/-- An abstract value. -/
inductive AV where
  | v (x : Value)
  | s (l : List UInt8)
  | agg (cells : List AV)
  | tup (vs : List AV)
  | sl (xs : List AV) (p : Perm)
  | pe (x : AV) (off : Nat)
  | ptr (id off : Nat)
  | oa (id off len : Nat)
  | ifc (t : TypeId) (x : AV)
  | fn (f : FuncId) (cap : List AV)

instance : Inhabited AV := ⟨.v undef⟩

def AV.cells : AV → List AV
  | .agg cs => cs
  | x => [x]

/-- A thing of memory that is owned: an object, all its cells known; the room behind n elements. -/
inductive Blk where
  | obj (cells : List AV) (t : TypeId)
  | spare (n sz : Nat)

abbrev Heap := Nat → Option Blk

/-- A world, where the owned things lie in it, and what they are. -/
structure Cx where
  w : World
  φ : Nat → Addr
  h : Heap

def Blk.start (base : Addr) : Blk → Nat
  | .obj .. => 0
  | .spare n sz => base.off + n * sz

def owned (c : Cx) (b o : Nat) : Prop := ∃ id k, c.h id = some k ∧ (c.φ id).block = b ∧ k.start (c.φ id) ≤ o

/-- A cell that nobody may write. -/
def fix (c : Cx) (b o : Nat) (u : Value) : Prop := c.w.cell? ⟨b, o, none⟩ = some u ∧ ¬ owned c b o

def lim : Nat := 9223372036854775808

def PermOK (c : Cx) (a : Option Addr) (n cap sz : Nat) : Perm → Prop
  | .no => True
  | .full => cap = n
  | .own id => ∃ m, c.h id = some (.spare m sz) ∧ n ≤ m ∧ (n = m → ∃ q, a = some q ∧ c.φ id = q ∧ ∃ (cs : Array Value) (t : TypeId) (fr : Nat × Nat), c.w.heap[q.block]? = some (.cells cs t fr) ∧ q.off + cap * sz ≤ cs.size)

/-- A value stands for an abstract one. -/
inductive Rep (c : Cx) : AV → Value → Prop where
  | v (x : Value) : Rep c (.v x) x
  | s (l : List UInt8) (hl : l.length < lim) : Rep c (.s l) (.string ⟨l.toArray⟩)
  | agg (xs : List AV) (vs : Array Value) (hn : vs.size = xs.length)
      (hr : ∀ i (h : i < xs.length), Rep c xs[i] (vs.getD i undef)) (ho : ∀ i, i < xs.length → (vs.getD i undef).oneCell' = true) : Rep c (.agg xs) (.agg vs)
  | tup (xs : List AV) (vs : Array Value) (hn : vs.size = xs.length)
      (hr : ∀ i (h : i < xs.length), Rep c xs[i] (vs.getD i undef)) : Rep c (.tup xs) (.tuple vs)
  | sl (xs : List AV) (p : Perm) (a : Option Addr) (cap sz : Nat) (val : Nat → Nat → Value)
      (hc : xs.length ≤ cap) (hm : cap < lim) (h0 : a = none → cap = 0)
      (hs : ∀ q, a = some q → 0 < cap → q.spot = none ∧ q.block < c.w.heap.size)
      (hz : ∀ i (h : i < xs.length), xs[i].cells.length = sz)
      (hf : ∀ q, a = some q → ∀ i j, i < xs.length → j < sz → fix c q.block (q.off + (i * sz + j)) (val i j))
      (hr : ∀ i (h : i < xs.length) j (h' : j < xs[i].cells.length), Rep c xs[i].cells[j] (val i j))
      (ho : ∀ i j, i < xs.length → j < sz → (val i j).oneCell' = true)
      (hp : PermOK c a xs.length cap sz p) : Rep c (.sl xs p) (.slice a xs.length cap)
  | pe (x : AV) (off b o : Nat) (val : Nat → Value) (hb : b < c.w.heap.size)
      (hf : ∀ j, j < x.cells.length → fix c b (o + j) (val j))
      (hr : ∀ j (h : j < x.cells.length), Rep c x.cells[j] (val j))
      (ho : ∀ j, j < x.cells.length → (val j).oneCell' = true) : Rep c (.pe x off) (.pointer (some ⟨b, o + off, none⟩))
  | ptr (id off : Nat) (cs : List AV) (t : TypeId) (h : c.h id = some (.obj cs t)) : Rep c (.ptr id off) (.pointer (some ⟨(c.φ id).block, off, none⟩))
  | oa (id off len cap o : Nat) (cs : List AV) (t : TypeId) (h : c.h id = some (.obj cs t)) (hc : len ≤ cap) (hm : cap < lim) (ho : cap ≠ 0 → o = off ∧ off + cap ≤ cs.length) :
      Rep c (.oa id off len) (.slice (some ⟨(c.φ id).block, o, none⟩) len cap)
  | ifc (t : TypeId) (x : AV) (u : Value) (h : Rep c x u) : Rep c (.ifc t x) (.iface t u)
  | fn (f : FuncId) (xs : List AV) (vs : Array Value) (hn : vs.size = xs.length)
      (hr : ∀ i (h : i < xs.length), Rep c xs[i] (vs.getD i undef)) : Rep c (.fn f xs) (.func (.func f) #[] vs)

/-- Memory behind something: what isn't owned is as it was; what is owned is still. -/
structure Ext (c c' : Cx) : Prop where
  os : c'.w.os = c.w.os
  tape : c'.w.tape = c.w.tape
  output : c'.w.output = c.w.output
  size : c.w.heap.size ≤ c'.w.heap.size
  block : ∀ b, b < c.w.heap.size → (∀ o, ¬ owned c b o) → c'.w.heap[b]? = c.w.heap[b]?
  cell : ∀ b o, b < c.w.heap.size → ¬ owned c b o → c'.w.cell? ⟨b, o, none⟩ = c.w.cell? ⟨b, o, none⟩
  shape : ∀ (b : Nat) (cs : Array Value) (t : TypeId) (fr : Nat × Nat), c.w.heap[b]? = some (.cells cs t fr) → ∃ (cs' : Array Value) (fr' : Nat × Nat), c'.w.heap[b]? = some (.cells cs' t fr') ∧ cs'.size = cs.size
  steal : ∀ b o, b < c.w.heap.size → owned c' b o → owned c b o
  obj : ∀ id cs t, c.h id = some (.obj cs t) → c'.φ id = c.φ id ∧ ∃ cs', c'.h id = some (.obj cs' t) ∧ cs'.length = cs.length
  spare : ∀ id n sz, c.h id = some (.spare n sz) → ∃ n', c'.h id = some (.spare n' sz) ∧ (n' = n ∧ c'.φ id = c.φ id ∨ n < n')

theorem Ext.refl (c : Cx) : Ext c c where
  os := rfl
  tape := rfl
  output := rfl
  size := Nat.le_refl _
  block := fun _ _ _ => rfl
  cell := fun _ _ _ _ => rfl
  shape := fun _ cs _ fr h => ⟨cs, fr, h, rfl⟩
  steal := fun _ _ _ h => h
  obj := fun _ cs _ h => ⟨rfl, cs, h, rfl⟩
  spare := fun _ n _ h => ⟨n, h, .inl ⟨rfl, rfl⟩⟩

theorem Ext.trans {a b c : Cx} (h : Ext a b) (k : Ext b c) : Ext a c where
  os := k.os.trans h.os
  tape := k.tape.trans h.tape
  output := k.output.trans h.output
  size := Nat.le_trans h.size k.size
  block := fun x hx ho => (k.block x (Nat.lt_of_lt_of_le hx h.size) fun o ho' => ho o (h.steal x o hx ho')).trans (h.block x hx ho)
  cell := fun x o hx ho => (k.cell x o (Nat.lt_of_lt_of_le hx h.size) fun ho' => ho (h.steal x o hx ho')).trans (h.cell x o hx ho)
  shape := fun x cs t fr hx => by
    obtain ⟨cs', fr', h1, h2⟩ := h.shape x cs t fr hx
    obtain ⟨cs'', fr'', h3, h4⟩ := k.shape x cs' t fr' h1
    exact ⟨cs'', fr'', h3, h4.trans h2⟩
  steal := fun x o hx ho => h.steal x o hx (k.steal x o (Nat.lt_of_lt_of_le hx h.size) ho)
  obj := fun id cs t hi => by
    obtain ⟨h1, cs', h2, h5⟩ := h.obj id cs t hi
    obtain ⟨h3, cs'', h4, h6⟩ := k.obj id cs' t h2
    exact ⟨h3.trans h1, cs'', h4, h6.trans h5⟩
  spare := fun id n sz hi => by
    obtain ⟨n', h1, h2⟩ := h.spare id n sz hi
    obtain ⟨n'', h3, h4⟩ := k.spare id n' sz h1
    refine ⟨n'', h3, ?_⟩
    rcases h2 with ⟨rfl, h2⟩ | h2
    · rcases h4 with ⟨rfl, h4⟩ | h4
      · exact .inl ⟨rfl, h4.trans h2⟩
      · exact .inr h4
    · rcases h4 with ⟨rfl, h4⟩ | h4
      · exact .inr h2
      · exact .inr (Nat.lt_trans h2 h4)

theorem fix.mono {c c' : Cx} {b o : Nat} {u : Value} (he : Ext c c') (hb : b < c.w.heap.size) (h : fix c b o u) : fix c' b o u :=
  ⟨(he.cell b o hb h.2).trans h.1, fun h' => h.2 (he.steal b o hb h')⟩

theorem PermOK.mono {c c' : Cx} {a : Option Addr} {n cap sz : Nat} {p : Perm} (he : Ext c c') (h : PermOK c a n cap sz p) : PermOK c' a n cap sz p := by
  cases p with
  | no => trivial
  | full => exact h
  | own id =>
    obtain ⟨m, h1, h2, h3⟩ := h
    obtain ⟨n', h4, h5⟩ := he.spare id m sz h1
    refine ⟨n', h4, ?_, ?_⟩
    · rcases h5 with ⟨rfl, _⟩ | h5 <;> omega
    · intro e
      rcases h5 with ⟨rfl, h5⟩ | h5
      · obtain ⟨q, h6, h7, cs, t, fr, h8, h9⟩ := h3 e
        obtain ⟨cs', fr', h10, h11⟩ := he.shape _ cs t fr h8
        exact ⟨q, h6, h5.trans h7, cs', t, fr', h10, by omega⟩
      · omega

theorem Rep.mono {c c' : Cx} (he : Ext c c') {x : AV} {u : Value} (h : Rep c x u) : Rep c' x u := by
  induction h with
  | v x => exact .v x
  | s l hl => exact .s l hl
  | agg xs vs hn hr ho ih => exact .agg xs vs hn ih ho
  | tup xs vs hn hr ih => exact .tup xs vs hn ih
  | sl xs p a cap sz val hc hm h0 hs hz hf hr ho hp ih =>
    exact .sl xs p a cap sz val hc hm h0 (fun q hq hp => ⟨(hs q hq hp).1, Nat.lt_of_lt_of_le (hs q hq hp).2 he.size⟩) hz
      (fun q hq i j hi hj => (hf q hq i j hi hj).mono he (hs q hq (by omega)).2) ih ho (hp.mono he)
  | pe x off b o val hb hf hr ho ih => exact .pe x off b o val (Nat.lt_of_lt_of_le hb he.size) (fun j hj => (hf j hj).mono he hb) ih ho
  | ptr id off cs t h =>
    obtain ⟨h1, cs', h2, _⟩ := he.obj id cs t h
    rw [← h1]
    exact .ptr id off cs' t h2
  | oa id off len cap o cs t h hc hm ho =>
    obtain ⟨h1, cs', h2, h3⟩ := he.obj id cs t h
    rw [← h1]
    exact .oa id off len cap o cs' t h2 hc hm (by rw [h3]; exact ho)
  | ifc t x u h ih => exact .ifc t x u ih
  | fn f xs vs hn hr ih => exact .fn f xs vs hn ih

/-- What is owned lies as it should. -/
structure Good (c : Cx) : Prop where
  fin : ∃ N, ∀ id, N ≤ id → c.h id = none
  inj : ∀ i j k l, c.h i = some k → c.h j = some l → i ≠ j → (c.φ i).block ≠ (c.φ j).block
  obj : ∀ id cs t, c.h id = some (.obj cs t) → ∃ vs : Array Value, c.w.heap[(c.φ id).block]? = some (.cells vs t (0, 0)) ∧ vs.size = cs.length ∧
    ∀ j (h : j < cs.length), Rep c cs[j] (vs.getD j undef) ∧ (vs.getD j undef).oneCell' = true
  spare : ∀ id n sz, c.h id = some (.spare n sz) → (c.φ id).spot = none ∧ ∃ (vs : Array Value) (t : TypeId) (fr : Nat × Nat), c.w.heap[(c.φ id).block]? = some (.cells vs t fr) ∧
    ∀ o, (c.φ id).off + n * sz ≤ o → ¬ (fr.1 ≤ o ∧ o < fr.2)

/-! ### The slots -/
abbrev Env := List (Nat × AV)

def lk : Env → Nat → Option AV
  | [], _ => none
  | (k, x) :: r, t => if k = t then some x else lk r t

def put (ρ : Env) : Option Tmp → AV → Env
  | some d, x => (d, x) :: ρ
  | none, _ => ρ

structure EnvSat (c : Cx) (n : Nat) (ρ : Env) (a : Act) : Prop where
  size : a.tmps.size = n
  defers : a.defers = []
  rep : ∀ t x, lk ρ t = some x → Rep c x (a.tmps.getD t undef)

theorem EnvSat.mono {c c' : Cx} {n : Nat} {ρ : Env} {a : Act} (he : Ext c c') (h : EnvSat c n ρ a) : EnvSat c' n ρ a :=
  ⟨h.size, h.defers, fun t x hx => (h.rep t x hx).mono he⟩

def dstOK (n : Nat) : Option Tmp → Bool
  | some d => decide (d < n)
  | none => true

theorem EnvSat.put {c : Cx} {n : Nat} {ρ : Env} {a : Act} (h : EnvSat c n ρ a) {d : Option Tmp} (hd : dstOK n d = true) {x : AV} {u : Value} (hx : Rep c x u) :
    EnvSat c n (put ρ d x) (a.put d u) := by
  cases d with
  | none => exact h
  | some d =>
    have hd' : d < a.tmps.size := by rw [h.size]; exact of_decide_eq_true hd
    refine ⟨by simp [Act.put, h.size], h.defers, fun t y hy => ?_⟩
    simp only [Ab.put, lk] at hy
    split at hy
    · rename_i e; subst e
      simp only [Option.some.injEq] at hy; subst hy
      simpa [Act.put, hd'] using hx
    · rename_i e
      have := h.rep t y hy
      simpa [Act.put, Array.getElem?_setIfInBounds_ne e] using this

end Go.Ab
