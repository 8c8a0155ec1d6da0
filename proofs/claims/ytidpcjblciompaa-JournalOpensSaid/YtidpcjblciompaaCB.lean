/- What the laws of the disk are asked with: a call. -/
import Derived.Test.YtidpcjblciompaaCA
import Derived.Test.YtidpcjblciompaaAb26
set_option linter.unusedSimpArgs false
set_option linter.unusedVariables false
namespace Go.Proofs.Ytidpcjblciompaa
open Go Go.Ab

def i64B (n : Int) : Prop := -9223372036854775808 ≤ n ∧ n ≤ 9223372036854775807
structure Ask where
  kind : Int
  a : Int
  b : Int
  bytes : List UInt8
def Ask.av (q : Ask) : AV := .agg [iA q.kind, iA q.a, iA q.b, .sl (q.bytes.map byteA) .no]
structure Ask.ok (q : Ask) : Prop where
  kind : i64B q.kind
  a : i64B q.a
  b : i64B q.b
  bytes : q.bytes.length ≤ maxLen
theorem ask_of {t ti tb te : TypeId} {x : AV} (h : Dat U t x) (hk : (U t).k = .strct [(0, ti), (1, ti), (2, ti), (3, tb)]) (hi : (U ti).k = .int .i64) (hb : (U tb).k = .slice te) (he : (U te).k = .int .u8) : ∃ q : Ask, x = q.av ∧ q.ok := by
  obtain ⟨ys, rfl, hy⟩ := h.strct_inv hk
  obtain ⟨y0, r0, rfl, h0, hy⟩ := hy
  obtain ⟨y1, r1, rfl, h1, hy⟩ := hy
  obtain ⟨y2, r2, rfl, h2, hy⟩ := hy
  obtain ⟨y3, r3, rfl, h3, hy⟩ := hy
  have hy : r3 = [] := hy
  subst hy
  obtain ⟨n0, rfl, b0⟩ := h0.i64 hi
  obtain ⟨n1, rfl, b1⟩ := h1.i64 hi
  obtain ⟨n2, rfl, b2⟩ := h2.i64 hi
  obtain ⟨l, rfl, b3⟩ := h3.bytes hb he
  exact ⟨⟨n0, n1, n2, l⟩, rfl, b0, b1, b2, b3⟩
theorem asks_of {t ts ti tb te : TypeId} {x : AV} (h : Dat U ts x) (hs : (U ts).k = .slice t) (hk : (U t).k = .strct [(0, ti), (1, ti), (2, ti), (3, tb)]) (hi : (U ti).k = .int .i64) (hb : (U tb).k = .slice te) (he : (U te).k = .int .u8) :
    ∃ l : List Ask, x = .sl (l.map Ask.av) .no ∧ l.length ≤ maxLen ∧ ∀ q ∈ l, q.ok := h.list hs fun y hy => ask_of hy hk hi hb he
theorem ask_cells (q : Ask) : q.av.cells = [iA q.kind, iA q.a, iA q.b, .sl (q.bytes.map byteA) .no] := rfl
theorem ask_agg (q : Ask) : isAggA q.av = true := rfl
/-- A load of a part of a call. -/
theorem get_map {α : Type} (l : List α) (f : α → AV) (i : Nat) (h : i < (l.map f).length) : (l.map f)[i] = f (l[i]'(by simpa using h)) := by simp

/-- A disk that is on and without a fuse. -/
theorem D.burn0 {d : D} (h : d.f = 0) : d.burn = d := by unfold D.burn; rw [if_neg (by omega)]
theorem D.cut0 {d : D} (h1 : d.off = false) (h2 : d.f = 0) {n : Nat} (h3 : n ≤ d.b.length) : d.cut n = ({ d with b := d.b.take n, sy := min d.sy n }, 0) := by
  unfold D.cut
  rw [if_neg (by simp [h1]), if_neg (by omega), D.burn0 h2, if_neg (by simp [h1])]
  simp
theorem D.cutBad {d : D} (h1 : d.off = false) {n : Int} (h3 : n < 0 ∨ (d.b.length : Int) < n) : d.cut n = (d, 1) := by
  unfold D.cut
  rw [if_neg (by simp [h1]), if_pos h3]
theorem D.appendFull {d : D} {b : List UInt8} (h1 : d.off = false) (h2 : d.q < d.b.length + b.length) : d.append b = (d, 8) := by
  unfold D.append
  rw [if_neg (by simp [h1]), if_pos h2]
end Go.Proofs.Ytidpcjblciompaa
