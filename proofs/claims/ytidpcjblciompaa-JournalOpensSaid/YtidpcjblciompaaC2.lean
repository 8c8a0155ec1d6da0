/- slices.Grow at the empty slice, slices.Concat of two rows of bytes. -/
import Derived.Test.YtidpcjblciompaaC1
import Derived.WalkKit
import Derived.Lib.Walk
import Derived.Lib.SliceRun
import Derived.Lib.AppendZerosOnto
set_option linter.unusedSimpArgs false
set_option linter.unusedVariables false
namespace Go.Proofs.Ytidpcjblciompaa
open Go Go.Ab Go.RowKit Go.Lib

theorem i5 : ∃ i z, Try.prog.info? 5 = some i ∧ i.zero = some z ∧ i.size = 1 ∧ i.bytes = 1 ∧ z.cells.size = 1 := by
  obtain ⟨i, h1, h2, h3, z, h4, h5, _⟩ := (hU 5).info (by rw [u5]; decide)
  rw [u5] at h2 h5
  exact ⟨i, z, h1, h4, h2, by rw [h3]; simp only [go_sem], h5⟩

set_option maxHeartbeats 1000000 in
theorem grow_zero (a : Option Addr) (w : World) : Calls Try.prog 53 #[.slice a 0 0, .int .i64 0] w fun e w' => e = .returned (.slice a 0 0) ∧ w' = w := by
  go_enter Try.func53, Try.ntmps53
  go_wp2
  go_ret
  exact ⟨rfl, rfl⟩

set_option maxHeartbeats 1000000 in
theorem grow_some (a : Option Addr) (n : Nat) (h0 : 0 < n) (hn : n ≤ 20000000) (w : World) : Calls Try.prog 53 #[.slice a 0 0, .int .i64 n] w fun e w' =>
    ∃ z : Value, z.cells.size = 1 ∧ e = .returned (.slice (some ⟨w.heap.size, 0, none⟩) 0 (grownCap w n 0 5)) ∧
      w' = w.drew.alloc (.cells (Builtin.zeroCells z.cells n ++ Builtin.zeroCells z.cells (grownCap w n 0 5 - n)) 5) := by
  obtain ⟨i, z, e1, e2, e3, e4, e5⟩ := i5
  have hsl : Try.prog.underlying 27 = some (.slice 5) := by
    have := (hU 27).desc
    simp only [go_sem] at this
    exact this
  have hin : Try.prog.underlying 3 = some (.int .i64) := by
    have := (hU 3).desc
    simp only [go_sem] at this
    exact this
  have hold : (Builtin.firstCells i.size 0 (.slice a 0 0)).run Try.prog w.drew = .ok (#[] : Array Value) w.drew := by
    cases a <;> simp [Builtin.firstCells, loadCells, loadCellsFrom]
  have hrz : ∀ ty, (Builtin.append_ #[27, 3] ty #[.slice a 0 0, .int .i64 (n : Int)]).run Try.prog w =
      .ok (.slice (some ⟨w.heap.size, 0, none⟩) n (grownCap w n 0 5)) (w.drew.alloc (.cells (Builtin.zeroCells z.cells n ++ Builtin.zeroCells z.cells (grownCap w n 0 5 - n)) 5)) := fun ty => by
    have h := Lib.run_append_grow_zeros w 27 3 ty 5 i z .i64 .i64 hsl hin e1 e2 a 0 0 [] (by simpa using hold) n h0 (by omega) (by omega) (by omega)
      (by rw [e4]; omega)
      (by rw [e4]; exact growslice_fits (by omega) (by omega))
    simpa using h
  have hG := grownCap_ge w n 0 5
  have hG63 : grownCap w n 0 5 ≤ 9223372036854775807 := by
    have := grownCap_le_maxLen w n 0 5 (by unfold maxLen; omega)
    unfold maxLen at this
    omega
  obtain ⟨G, hGe⟩ : ∃ G, G = grownCap w n 0 5 := ⟨_, rfl⟩
  rw [← hGe] at hrz hG hG63 ⊢
  have h3 : wrap64 ((n : Int) - 0) = (n : Int) := by unfold wrap64; omega
  have h4 : ¬ ((n : Int) < 0) := by omega
  have h5 : (n : Int) > 0 := by omega
  refine Calls.mono (R := fun e w' => e = .returned (.slice (some ⟨w.heap.size, 0, none⟩) 0 G) ∧ w' = w.drew.alloc (.cells (Builtin.zeroCells z.cells n ++ Builtin.zeroCells z.cells (G - n)) 5)) ?_ (fun e w' hh => ⟨z, e5, hh.1, hh.2⟩)
  clear hold hGe
  go_enter Try.func53, Try.ntmps53
  cases a with
  | none =>
    go_wp2_with (at_builtin; refine Lib.wpList_append_run _ rfl _ _ _ _ rfl _ _ rfl rfl _ _ (hrz _) ?_)
    all_goals (go_ret; exact ⟨rfl, rfl⟩)
  | some q =>
    obtain ⟨ab, ao, asp⟩ := q
    go_wp2_with (at_builtin; refine Lib.wpList_append_run _ rfl _ _ _ _ rfl _ _ rfl rfl _ _ (hrz _) ?_)
    all_goals (go_ret; exact ⟨rfl, rfl⟩)
end Go.Proofs.Ytidpcjblciompaa
