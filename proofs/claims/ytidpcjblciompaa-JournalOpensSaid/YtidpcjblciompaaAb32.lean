/- Cuts: what is known at a place is laid down once, for all ways that lead there. -/
import Derived.Test.YtidpcjblciompaaAb31
import Derived.Test.YtidpcjblciompaaAb29
set_option linter.unusedSimpArgs false
set_option linter.unusedVariables false
namespace Go.Ab
open Go

section
variable {P : Program} {U : TypeId → TI} {n : Nat} {ρ : Env} {h : Heap}

/-- At the end I holds; other ways out lead to K. -/
def KCut (I : Env → Heap → Prop) (K : Exit → Env → Heap → Prop) : Exit → Env → Heap → Prop := KSeq I K
@[go_sem ↓] theorem KCut_ret (I : Env → Heap → Prop) (K : Exit → Env → Heap → Prop) : KCut I K .ret ρ h = K .ret ρ h := rfl
@[go_sem ↓] theorem KCut_exit (I : Env → Heap → Prop) (K : Exit → Env → Heap → Prop) (i : Nat) : KCut I K (.exit i) ρ h = K (.exit i) ρ h := rfl
@[go_sem ↓] theorem KCut_goto (I : Env → Heap → Prop) (K : Exit → Env → Heap → Prop) (i : Nat) : KCut I K (.goto i) ρ h = K (.goto i) ρ h := rfl
theorem KCut.at {I : Env → Heap → Prop} {K : Exit → Env → Heap → Prop} (hi : I ρ h) : KCut I K .normal ρ h := hi

theorem WP.cut {c d : Code} {K : Exit → Env → Heap → Prop} (I : Env → Heap → Prop) (hc : WP P n c ρ h (KCut I K)) (hd : ∀ ρ h, I ρ h → WP P n d ρ h K) : WP P n (.seq c d) ρ h K :=
  WP.seq (hc.weaken fun e ρ h hk => by
    cases e with
    | normal => exact hd ρ h hk
    | _ => exact hk)
theorem WP.vc (hU : ∀ t, AgreeT P U t) (hm : P.follows .mixedOrders = true) {c : Code} {K : Exit → Env → Heap → Prop} (hk : vcCode P U n c ρ h K) : WP P n c ρ h K := vcCode_sound hU hm c ρ h K hk
/-- What comes behind the first part: the rest as it is. -/
def KNext (P : Program) (n : Nat) (d : Code) (K : Exit → Env → Heap → Prop) : Exit → Env → Heap → Prop := KSeq (WP P n d · · K) K
@[go_sem ↓] theorem KNext_normal (d : Code) (K : Exit → Env → Heap → Prop) : KNext P n d K .normal ρ h = WP P n d ρ h K := rfl
@[go_sem ↓] theorem KNext_ret (d : Code) (K : Exit → Env → Heap → Prop) : KNext P n d K .ret ρ h = K .ret ρ h := rfl
@[go_sem ↓] theorem KNext_exit (d : Code) (K : Exit → Env → Heap → Prop) (i : Nat) : KNext P n d K (.exit i) ρ h = K (.exit i) ρ h := rfl
@[go_sem ↓] theorem KNext_goto (d : Code) (K : Exit → Env → Heap → Prop) (i : Nat) : KNext P n d K (.goto i) ρ h = K (.goto i) ρ h := rfl
/-- The first part by its conditions; the rest as it is. -/
theorem WP.one (hU : ∀ t, AgreeT P U t) (hm : P.follows .mixedOrders = true) {c d : Code} {K : Exit → Env → Heap → Prop} (hk : vcCode P U n c ρ h (KNext P n d K)) : WP P n (.seq c d) ρ h K := WP.seq (vcCode_sound hU hm c ρ h _ hk)

theorem ApFull.wr {h0 : Heap} {tb : TypeId} {m : List UInt8} {Q : AV → Heap → Prop} (hs : Sub h0 h) (hz : (U tb).sz = 1) (hf : (U tb).zero = byteA 0) (hk : ∀ y' h', Wr tb h0 h' y' m → Q y' h') : ApFull U h [] (m.map byteA) tb Q := by
  refine ⟨fun hn => ?_, fun hn => .oa hz (by rw [hf]; simp [fit, byteA, Value.oneCell']) (by rw [hf]; rfl) (noAgg_bytes m) fun id k hid => ?_⟩
  · have : m = [] := by simpa using hn
    subst this
    exact hk _ _ (.nil hs)
  · refine hk _ _ ⟨hs.new hid _, .inr ⟨id, _, hs.none hid, by simp, upd_same .., by simp, ?_⟩⟩
    simp [List.take_append_of_le_length]
@[go_sem high] theorem bx8 (x y : UInt8) (ty : TypeId) (K : AV → Prop) : binA U .xor ty (.v (.int .u8 (x.toNat : Int))) (.v (.int .u8 (y.toNat : Int))) K = K (.v (.int .u8 ((x ^^^ y).toNat : Int))) := by
  rw [b_xor]
  congr 3
  have e : ∀ z : UInt8, BitVec.ofInt IntKind.u8.bits (z.toNat : Int) = z.toBitVec := fun z => by
    show BitVec.ofInt 8 (z.toNat : Int) = z.toBitVec
    rw [ofInt_nat]
    apply BitVec.eq_of_toNat_eq
    have := z.toNat_lt
    simp
  rw [e, e]
  show IntKind.u8.wrap (((x.toBitVec ^^^ y.toBitVec).toNat : Nat) : Int) = _
  rw [w8]
  simp
end
end Go.Ab
