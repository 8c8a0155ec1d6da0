/- The law DiskPlays, of arguments. -/
import Derived.Test.YtidpcjblciompaaC15
set_option linter.unusedSimpArgs false
set_option linter.unusedVariables false
namespace Go.Proofs.Ytidpcjblciompaa
open Go Go.Ab
theorem diskPlays_law (x0 x1 : AV) (d0 : Dat U 3 x0) (d1 : Dat U 45 x1) : FnOK Try.prog 9 [x0, x1] noHeap fun r _ => r = .v (.bool true) := by
  obtain ⟨n, rfl, hn⟩ := d0.i64 rfl
  obtain ⟨l, rfl, h1, h2⟩ := asks_of d1 rfl rfl rfl rfl rfl
  exact diskPlays_ok n l h1 hn h2 noHeap
end Go.Proofs.Ytidpcjblciompaa
