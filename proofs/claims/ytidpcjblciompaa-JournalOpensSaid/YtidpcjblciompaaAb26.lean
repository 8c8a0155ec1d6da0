/- An append to a slice without room, as one that grows. -/
import Derived.Test.YtidpcjblciompaaAb25
set_option linter.unusedSimpArgs false
set_option linter.unusedVariables false
namespace Go.Ab
open Go

section
variable {P : Program} {U : TypeId → TI} {n : Nat} {ρ : Env} {h h' h2 : Heap} {e tb : TypeId} {y v : AV} {xs zs : List AV} {l : List UInt8} {Q : AV → Heap → Prop}

/-- A memory of one thing. -/
def hm1 (id : Nat) (k : Blk) : Heap := upd (fun _ => none) id (some k)
@[go_sem] theorem hm1_same (id : Nat) (k : Blk) : hm1 id k id = some k := upd_same ..
theorem Sub.hm1 {id : Nat} {k : Blk} (h1 : h id = some k) : Sub (hm1 id k) h := fun j b hj => by
  unfold Ab.hm1 at hj
  by_cases e : j = id
  · subst e; rw [upd_same] at hj; rw [h1, hj]
  · rw [upd_other _ _ e] at hj; cases hj
theorem KeepObj.new {id : Nat} {k : Option Blk} (hid : h id = none) : KeepObj h (upd h id k) := ((Sub.refl h).new hid k).keepObj
theorem ApNew.acc (hk : ∀ y' h'', Acc U e h h'' y' (xs ++ zs) → KeepObj h h'' → Q y' h'') : ApNew U h xs zs e Q :=
  .own fun id hid => hk _ _ ⟨(Sub.refl h).new hid _, .inr ⟨id, hid, rfl, by rw [upd_same, List.length_append]⟩⟩ (.new hid)
theorem ApFull.acc (hk : ∀ y' h'', Acc U e h h'' y' (xs ++ zs) → KeepObj h h'' → Q y' h'') : ApFull U h xs zs e Q :=
  ⟨fun hn => by subst hn; exact hk _ _ (by rw [List.append_nil]; exact .full (.refl h)) (.refl h), fun _ => .acc hk⟩
/-- .. in the midst of growing. -/
theorem ApNew.accs {h0 : Heap} (hs : Sub h0 h) (hk : ∀ y' h'', Acc U e h0 h'' y' (xs ++ zs) → KeepObj h h'' → Q y' h'') : ApNew U h xs zs e Q :=
  .own fun id hid => hk _ _ ⟨hs.new hid _, .inr ⟨id, hs.none hid, rfl, by rw [upd_same, List.length_append]⟩⟩ (.new hid)
theorem ApFull.accs {h0 : Heap} (hs : Sub h0 h) (hk : ∀ y' h'', Acc U e h0 h'' y' (xs ++ zs) → KeepObj h h'' → Q y' h'') : ApFull U h xs zs e Q :=
  ⟨fun hn => by subst hn; exact hk _ _ (by rw [List.append_nil]; exact .full hs) (.refl h), fun _ => .accs hs hk⟩
theorem Acc.bytes (ha : Acc U e h h' y (l.map byteA)) : Bytes tb h2 y l := by
  obtain ⟨q, rfl⟩ := ha.row
  exact .sl _ _
end
end Go.Ab
