/- The disk's contracts over what lies at a place; ways behind a call. -/
import Derived.Test.YtidpcjblciompaaC9
import Derived.Test.YtidpcjblciompaaAb25
set_option linter.unusedSimpArgs false
set_option linter.unusedVariables false
namespace Go.Proofs.Ytidpcjblciompaa
open Go Go.Ab

/-- Behind a call that changes a disk. -/
theorem dthen {f : FuncId} {args : List AV} {h : Heap} {Q : AV → Heap → Prop} {X : AV} {id : Nat} {d : D} (hf : FnOK Try.prog f args h fun r h' => r = X ∧ DiskAt h' id d ∧ Keep id h h') (k : ∀ h', DiskAt h' id d → Keep id h h' → Q X h') : FnOK Try.prog f args h Q :=
  hf.mono fun r h' ⟨e1, e2, e3⟩ => by subst e1; exact k h' e2 e3
theorem arm_ok' (d : D) (n : Nat) (id : Nat) (h : Heap) (hd : DiskAt h id d) : FnOK Try.prog 22 [.ptr id 0, .v (.int .i64 n)] h fun r h' => DiskAt h' id { d with f := n } ∧ Keep id h h' := by
  obtain ⟨y, h1, h2⟩ := hd
  refine (arm_ok d n id h y h1).mono fun r h' e => ?_
  subst e
  exact ⟨⟨y, by rw [upd_same]; rfl, h2.set h1⟩, Keep.upd _ _⟩
theorem off_ok' (d : D) (id : Nat) (h : Heap) (hd : DiskAt h id d) : FnOK Try.prog 23 [.ptr id 0] h fun r h' => r = .v (.bool d.off) ∧ h' = h := by
  obtain ⟨y, h1, h2⟩ := hd
  exact off_ok d id h y h1
theorem read_ok' (d : D) (hk : d.ok) (id : Nat) (h : Heap) (hd : DiskAt h id d) : FnOK Try.prog 20 [.ptr id 0] h fun r h' => r = .sl (d.b.map byteA) .no ∧ h' = h := by
  obtain ⟨y, h1, h2⟩ := hd
  exact read_ok d hk id h y h1 h2
theorem len_ok' (d : D) (id : Nat) (h : Heap) (hd : DiskAt h id d) : FnOK Try.prog 24 [.ptr id 0] h fun r h' => r = .v (.int .i64 d.b.length) ∧ h' = h := by
  obtain ⟨y, h1, h2⟩ := hd
  exact len_ok d id h y h1 h2
theorem free_ok' (d : D) (hk : d.ok) (id : Nat) (h : Heap) (hd : DiskAt h id d) : FnOK Try.prog 33 [.ptr id 0] h fun r h' => r = .v (.int .i64 (d.q - d.b.length : Nat)) ∧ h' = h := by
  obtain ⟨y, h1, h2⟩ := hd
  exact free_ok d hk id h y h1 h2

theorem append_room {d : D} {b : List UInt8} (h1 : d.off = false) (h2 : d.b.length + b.length ≤ d.q) : d.append b = (D.burn { d with b := d.b ++ b }, if (D.burn { d with b := d.b ++ b }).off then 9 else 0) := by
  unfold D.append
  rw [if_neg (by simp [h1]), if_neg (by omega)]

end Go.Proofs.Ytidpcjblciompaa
