/- From a contract to a call in a world. -/
import Derived.Test.YtidpcjblciompaaAb22
import Derived.Below
set_option linter.unusedSimpArgs false
set_option linter.unusedVariables false
namespace Go.Ab
open Go

section
variable {P : Program}

def noHeap : Heap := fun _ => none
/-- A world in which nothing is owned. -/
def cx0 (w : World) : Cx := ⟨w, fun _ => ⟨0, 0, none⟩, noHeap⟩
theorem good0 (w : World) : Good (cx0 w) where
  fin := ⟨0, fun _ _ => rfl⟩
  inj := fun i j k l h => by cases h
  obj := fun id cs t h => by cases h
  spare := fun id n sz h => by cases h
theorem owned0 (w : World) (b o : Nat) : ¬ owned (cx0 w) b o := fun ⟨id, k, h, _⟩ => by cases h

theorem FnOK.calls {f : FuncId} {args : List AV} {b : Value} {vs : Array Value} {w : World} (hf : FnOK P f args noHeap fun r _ => r = .v b) (hv : vs.size = args.length) (hr : ∀ i (hi : i < args.length), Rep (cx0 w) args[i] (vs.getD i undef)) :
    Calls P f vs w fun e w' => e = .returned b ∧ Go.RowKit.Below w.heap.size w w' := by
  refine (hf.2 (cx0 w) vs (fun _ _ h => by cases h) (good0 w) hv hr).mono ?_
  rintro e w' ⟨u, rfl, c', x, h', rfl, g', hE, hx, hs, rfl⟩
  rw [hx.v_inv]
  exact ⟨rfl, hE.os, hE.tape, hE.output, hE.size, fun k hk => hE.block k hk fun o => owned0 w k o⟩

/-- A slice of bytes that came in. -/
theorem rep_bytes {w : World} {l : List UInt8} {a : Option Addr} {cap : Nat} (hc : l.length ≤ cap) (hm : cap < lim) (h0 : a = none → cap = 0) (hs : ∀ q, a = some q → q.spot = none) (hcell : ∀ q, a = some q → ∀ i (hi : i < l.length), w.cell? (q.add i) = some (.int .u8 (l[i].toNat : Int)))
    (hb : ∀ q, a = some q → q.block < w.heap.size) : Rep (cx0 w) (.sl (l.map byteA) .no) (.slice a l.length cap) := by
  have : Rep (cx0 w) (.sl (l.map byteA) .no) (.slice a (l.map byteA).length cap) := by
    refine .sl (l.map byteA) .no a cap 1 (fun i _ => .int .u8 ((l.getD i 0).toNat : Int)) (by simpa using hc) hm h0 (fun q hq _ => ⟨hs q hq, hb q hq⟩) (fun i hi => by simp [byteA, AV.cells]) (fun q hq i j hi hj => ?_) (fun i hi j hj => ?_) (fun _ _ _ _ => rfl) trivial
    · have hi' : i < l.length := by simpa using hi
      obtain rfl : j = 0 := by omega
      refine ⟨?_, owned0 w _ _⟩
      have := hcell q hq i hi'
      obtain ⟨qb, qo, qs⟩ := q
      have e := hs _ hq
      simp only at e; subst e
      rw [add_addr] at this
      simp only [Nat.mul_one, Nat.add_zero]
      rw [show l.getD i 0 = l[i] by simp [hi']]
      exact this
    · have hi' : i < l.length := by simpa using hi
      simp only [List.getElem_map, byteA, AV.cells, List.length_singleton] at hj
      obtain rfl : j = 0 := by omega
      simp only [List.getElem_map, byteA, AV.cells, List.getElem_singleton]
      rw [show l.getD i 0 = l[i] by simp [hi']]
      exact .v _
  simpa using this
end
end Go.Ab
