/- The operations that change nothing owned come to what is said of them. -/
import Derived.Test.YtidpcjblciompaaAb3
set_option linter.unusedSimpArgs false
set_option linter.unusedVariables false
namespace Go.Ab
open Go

theorem withv_elim {ρ : Env} {x : Operand} {k : AV → Prop} (h : withv ρ x k) : ∃ y, ev ρ x = some y ∧ k y := by
  unfold withv at h
  split at h
  · rename_i y hy; exact ⟨y, hy, h⟩
  · exact h.elim

theorem withvs_elim {ρ : Env} {xs : List Operand} {k : List AV → Prop} (h : withvs ρ xs k) : ∃ ys, evs ρ xs = some ys ∧ k ys := by
  unfold withvs at h
  split at h
  · rename_i y hy; exact ⟨y, hy, h⟩
  · exact h.elim

theorem Rep.v_inv {c : Cx} {x u : Value} (h : Rep c (.v x) u) : u = x := by cases h; rfl
theorem Rep.s_inv {c : Cx} {l : List UInt8} {u : Value} (h : Rep c (.s l) u) : u = .string ⟨l.toArray⟩ ∧ l.length < lim := by cases h; exact ⟨rfl, ‹_›⟩
theorem Rep.agg_inv {c : Cx} {xs : List AV} {u : Value} (h : Rep c (.agg xs) u) : ∃ vs : Array Value, u = .agg vs ∧ vs.size = xs.length ∧
    (∀ i (h : i < xs.length), Rep c xs[i] (vs.getD i undef)) ∧ ∀ i, i < xs.length → (vs.getD i undef).oneCell' = true := by
  cases h; exact ⟨_, rfl, ‹_›, ‹_›, ‹_›⟩
theorem Rep.tup_inv {c : Cx} {xs : List AV} {u : Value} (h : Rep c (.tup xs) u) : ∃ vs : Array Value, u = .tuple vs ∧ vs.size = xs.length ∧
    (∀ i (h : i < xs.length), Rep c xs[i] (vs.getD i undef)) := by
  cases h; exact ⟨_, rfl, ‹_›, ‹_›⟩

theorem Rep.ptr_inv {c : Cx} {id off : Nat} {u : Value} (h : Rep c (.ptr id off) u) : u = .pointer (some ⟨(c.φ id).block, off, none⟩) ∧ ∃ cs t, c.h id = some (.obj cs t) := by
  cases h; exact ⟨rfl, _, _, ‹_›⟩
theorem Rep.pe_inv {c : Cx} {x : AV} {off : Nat} {u : Value} (h : Rep c (.pe x off) u) : ∃ (b o : Nat) (val : Nat → Value), u = .pointer (some ⟨b, o + off, none⟩) ∧ b < c.w.heap.size ∧
    (∀ j, j < x.cells.length → fix c b (o + j) (val j)) ∧ (∀ j (h : j < x.cells.length), Rep c x.cells[j] (val j)) ∧ (∀ j, j < x.cells.length → (val j).oneCell' = true) := by
  cases h; exact ⟨_, _, _, rfl, ‹_›, ‹_›, ‹_›, ‹_›⟩
theorem Rep.oa_inv {c : Cx} {id off len : Nat} {u : Value} (h : Rep c (.oa id off len) u) : ∃ cap o, u = .slice (some ⟨(c.φ id).block, o, none⟩) len cap ∧ len ≤ cap ∧ cap < lim ∧ (len ≠ 0 → o = off) ∧ ∃ cs t, c.h id = some (.obj cs t) ∧ (cap ≠ 0 → o = off ∧ off + cap ≤ cs.length) := by
  cases h with
  | oa _ _ _ cap o cs t h hc hm ho => exact ⟨_, _, rfl, hc, hm, fun hn => (ho (by omega)).1, _, _, h, ho⟩
theorem Rep.fn_inv {c : Cx} {f : FuncId} {xs : List AV} {u : Value} (h : Rep c (.fn f xs) u) : ∃ vs : Array Value, u = .func (.func f) #[] vs ∧ vs.size = xs.length ∧
    (∀ i (h : i < xs.length), Rep c xs[i] (vs.getD i undef)) := by
  cases h; exact ⟨_, rfl, ‹_›, ‹_›⟩

/-- A slice's value, all that is known of it. -/
structure SlRep (c : Cx) (xs : List AV) (p : Perm) (a : Option Addr) (cap sz : Nat) (val : Nat → Nat → Value) : Prop where
  hc : xs.length ≤ cap
  hm : cap < lim
  h0 : a = none → cap = 0
  hs : ∀ q, a = some q → 0 < cap → q.spot = none ∧ q.block < c.w.heap.size
  hz : ∀ i (h : i < xs.length), xs[i].cells.length = sz
  hf : ∀ q, a = some q → ∀ i j, i < xs.length → j < sz → fix c q.block (q.off + (i * sz + j)) (val i j)
  hr : ∀ i (h : i < xs.length) j (h' : j < xs[i].cells.length), Rep c xs[i].cells[j] (val i j)
  ho : ∀ i j, i < xs.length → j < sz → (val i j).oneCell' = true
  hp : PermOK c a xs.length cap sz p

theorem Rep.sl_inv {c : Cx} {xs : List AV} {p : Perm} {u : Value} (h : Rep c (.sl xs p) u) : ∃ a cap sz val, u = .slice a xs.length cap ∧ SlRep c xs p a cap sz val := by
  cases h; exact ⟨_, _, _, _, rfl, ‹_›, ‹_›, ‹_›, ‹_›, ‹_›, ‹_›, ‹_›, ‹_›, ‹_›⟩

theorem SlRep.rep {c : Cx} {xs : List AV} {p : Perm} {a : Option Addr} {cap sz : Nat} {val : Nat → Nat → Value} (h : SlRep c xs p a cap sz val) : Rep c (.sl xs p) (.slice a xs.length cap) :=
  .sl xs p a cap sz val h.hc h.hm h.h0 h.hs h.hz h.hf h.hr h.ho h.hp

theorem evs_rep {c : Cx} {n : Nat} {ρ : Env} {a : Act} (h : EnvSat c n ρ a) : ∀ (xs : List Operand) (ys : List AV), evs ρ xs = some ys →
    xs.length = ys.length ∧ ∀ i (hi : i < xs.length) (hj : i < ys.length), Rep c ys[i] (a.eval xs[i])
  | [], ys, e => by simp only [evs, Option.some.injEq] at e; subst e; exact ⟨rfl, fun i hi => by cases hi⟩
  | x :: r, ys, e => by
    simp only [evs] at e
    split at e
    · rename_i y ys' h1 h2
      simp only [Option.some.injEq] at e; subst e
      obtain ⟨h3, h4⟩ := evs_rep h r ys' h2
      refine ⟨by simp [h3], fun i hi hj => ?_⟩
      cases i with
      | zero => exact ev_rep h h1
      | succ i => exact h4 i (by simpa using hi) (by simpa using hj)
    · cases e

section
variable {P : Program} {U : TypeId → TI} {ρ : Env} {h : Heap} {k : AV → Prop} {o : Oper}

/-- Where the world stays as it is. -/
theorem PureOK.stay {X : AV} (hs : ∀ c a n, Sub h c.h → Good c → EnvSat c n ρ a → ∃ u, (execOp a.eval o).run P c.w = .ok (.value u) c.w ∧ Rep c X u) : PureOK P o ρ h X :=
  fun c a n hc g he => let ⟨u, h1, h2⟩ := hs c a n hc g he; ⟨u, c, h1, g, .refl c, rfl, h2⟩

theorem sound_move {x : Operand} (ho : o.op = .move x ∨ o.op = .assign x) (hp : withv ρ x k) : ∃ X, k X ∧ PureOK P o ρ h X := by
  obtain ⟨y, hy, hk⟩ := withv_elim hp
  refine ⟨y, hk, .stay fun c a n _ _ he => ⟨a.eval x, ?_, ev_rep he hy⟩⟩
  rcases ho with ho | ho <;> simp [execOp, ho]

theorem sound_pick {x y z : Operand} (ho : o.op = .pick x y z) (hp : pv U ρ h (.pick x y z) k) : ∃ X, k X ∧ PureOK P o ρ h X := by
  obtain ⟨b, hb, hk⟩ := withv_elim hp
  split at hk
  · obtain ⟨w, hw, hk⟩ := withv_elim hk
    refine ⟨w, hk, .stay fun c a n _ _ he => ⟨a.eval y, ?_, ev_rep he hw⟩⟩
    have := (ev_rep he hb).v_inv
    simp [execOp, ho, this, asBool]
  · obtain ⟨w, hw, hk⟩ := withv_elim hk
    refine ⟨w, hk, .stay fun c a n _ _ he => ⟨a.eval z, ?_, ev_rep he hw⟩⟩
    have := (ev_rep he hb).v_inv
    simp [execOp, ho, this, asBool]
  · exact hk.elim

theorem sound_nilCheck {x : Operand} (ho : o.op = .nilCheck x) (hp : pv U ρ h (.nilCheck x) k) : ∃ X, k X ∧ PureOK P o ρ h X := by
  obtain ⟨y, hy, hk⟩ := withv_elim hp
  have key : (y matches .ptr .. | .pe .. | .fn ..) = true → ∃ X, k X ∧ PureOK P o ρ h X := fun hm => by
    refine ⟨y, by cases y <;> simp at hm <;> exact hk, .stay fun c a n _ _ he => ⟨a.eval x, ?_, ev_rep he hy⟩⟩
    have hr := ev_rep he hy
    cases y <;> simp at hm
    · obtain ⟨b, o', val, hu, _⟩ := hr.pe_inv
      simp [execOp, ho, hu]
    · obtain ⟨hu, _⟩ := hr.ptr_inv
      simp [execOp, ho, hu]
    · obtain ⟨vs, hu, _⟩ := hr.fn_inv
      simp [execOp, ho, hu]
  cases y <;> first | exact key rfl | exact hk.elim

theorem eqGuard_int (op : BinOp) (ty : TypeId) (x y : Operand) (k k' : IntKind) (a b : Int) (w : World) : (eqGuard op ty x y (.int k a) (.int k' b)).run P w = .ok () w := by
  unfold eqGuard
  split <;> rfl

theorem run_binI (op : BinOp) (ty : TypeId) (k : IntKind) (a b : Int) (K : AV → Prop) (hs : isShift op = false) (hp : binI op k a b K) :
    ∃ r, K (.v r) ∧ ∀ w, (binOp op ty (.int k a) (.int k b)).run P w = .ok r w := by
  cases op <;> simp only [binI, isShift] at hp hs <;>
    first
      | (exact ⟨_, hp, fun w => by simp [binOp, Op.intArith, Op.intCmp, Op.intBits]⟩)
      | (exact ⟨_, hp.2, fun w => by simp [binOp, Op.intDiv, hp.1]⟩)
      | (cases hs)
      | (exact hp.elim)

theorem run_binSh (op : BinOp) (ty : TypeId) (k k' : IntKind) (a b : Int) (K : AV → Prop) (hp : binSh op k a b K) :
    ∃ r, K (.v r) ∧ ∀ w, (binOp op ty (.int k a) (.int k' b)).run P w = .ok r w := by
  cases op <;> simp only [binSh] at hp <;>
    first
      | (refine ⟨_, hp.2, fun w => ?_⟩; have h1 : ¬ b < 0 := Int.not_lt.2 hp.1; simp [binOp, Op.shift, h1])
      | (exact hp.elim)

theorem run_binS (op : BinOp) (ty : TypeId) (a b : List UInt8) (K : AV → Prop) (hp : binS op a b K) :
    ∃ X r, K X ∧ (∀ c, Rep c X r) ∧ ∀ w, (binOp op ty (.string ⟨a.toArray⟩) (.string ⟨b.toArray⟩)).run P w = .ok r w := by
  have key : ∀ t : Bool, K (.v (.bool t)) → (∀ w, (binOp op ty (.string ⟨a.toArray⟩) (.string ⟨b.toArray⟩)).run P w = .ok (.bool t) w) →
      ∃ X r, K X ∧ (∀ c, Rep c X r) ∧ ∀ w, (binOp op ty (.string ⟨a.toArray⟩) (.string ⟨b.toArray⟩)).run P w = .ok r w := fun t h1 h2 => ⟨_, _, h1, fun c => .v _, h2⟩
  cases op <;> simp only [binS] at hp <;>
    first
      | (exact hp.elim)
      | (refine key _ hp fun w => ?_; simp [binOp, Op.stringOp, ByteArray.toList_eq]; done)
      | skip
  obtain ⟨h1, h2⟩ := hp
  refine ⟨_, .string ⟨(a ++ b).toArray⟩, h2, fun c => .s _ (by simpa using h1), fun w => ?_⟩
  have e1 : (⟨a.toArray⟩ : ByteArray) ++ ⟨b.toArray⟩ = ⟨(a ++ b).toArray⟩ := ByteArray.ext (by simp [ByteArray.data_append])
  have e2 : (⟨a.toArray⟩ : ByteArray).size = a.length := rfl
  have e3 : (⟨b.toArray⟩ : ByteArray).size = b.length := rfl
  have h3 : ¬ (((a.length + b.length : Nat) : Int) > IntKind.i64.max) := by
    have e4 : IntKind.i64.max = 9223372036854775807 := rfl
    rw [e4]
    simp only [lim] at h1
    omega
  simp only [binOp, Op.stringOp, e1, e2, e3]
  rw [if_neg h3]
  rfl

theorem equalIn_bool {ty : TypeId} (hu : P.underlying ty = some .bool) (d : Nat) (a b : Bool) (w : World) : (Op.equalIn (d + 1) ty (.bool a) (.bool b)).run P w = .ok (a == b) w := by
  simp [Op.equalIn, run_underlying hu]

theorem equalIn_ptr_nil {ty e : TypeId} (hu : P.underlying ty = some (.pointer e)) (d : Nat) (a : Option Addr) (w : World) : (Op.equalIn (d + 1) ty (.pointer a) (.pointer none)).run P w = .ok a.isNone w := by
  cases a <;> simp [Op.equalIn, run_underlying hu]

theorem run_eql (ty : TypeId) (x y : Value) (b : Bool) (w : World) (h : (Op.equalIn (9999 + 1) ty x y).run P w = .ok b w) : (Op.equal ty x y).run P w = .ok b w := h

theorem eqGuard_other (op : BinOp) (ty : TypeId) (x y : Operand) (u v : Value) (w : World) (h : (u matches .nilIface | .agg _) = false) : (eqGuard op ty x y u v).run P w = .ok () w := by
  unfold eqGuard
  cases u <;> first | (simp at h; done) | (split <;> rfl)

theorem nilA_rep {c : Cx} {A : AV} {u : Value} {n : Bool} (h : nilA A = some n) (hr : Rep c A u) : ∃ a, u = .pointer a ∧ a.isNone = n := by
  unfold nilA at h
  split at h
  · simp only [Option.some.injEq] at h; subst h; exact ⟨none, hr.v_inv, rfl⟩
  · simp only [Option.some.injEq] at h; subst h; exact ⟨_, hr.ptr_inv.1, rfl⟩
  · simp only [Option.some.injEq] at h; subst h; obtain ⟨b, o', val, hu, _⟩ := hr.pe_inv; exact ⟨_, hu, rfl⟩
  · cases h

theorem run_binB {op : BinOp} {ty : TypeId} {a b : Bool} {K : AV → Prop} (hU : ∀ t, AgreeT P U t) (hk : binB U op ty a b K) :
    ∃ r, K (.v r) ∧ ∀ w, (binOp op ty (.bool a) (.bool b)).run P w = .ok r w := by
  unfold binB at hk
  split at hk
  · rename_i hty
    have := (hU ty).desc
    rw [hty] at this
    exact ⟨_, hk, fun w => by simp [binOp, run_eql _ _ _ _ _ (equalIn_bool this 9999 a b w)]⟩
  · rename_i hty
    have := (hU ty).desc
    rw [hty] at this
    exact ⟨_, hk, fun w => by simp [binOp, run_eql _ _ _ _ _ (equalIn_bool this 9999 a b w)]⟩
  · exact hk.elim

theorem run_binN {op : BinOp} {ty : TypeId} {x : AV} {K : AV → Prop} (hU : ∀ t, AgreeT P U t) (hk : binN U op ty x K) :
    ∃ r, K (.v r) ∧ ∀ c u, Rep c x u → (binOp op ty u (.pointer none)).run P c.w = .ok r c.w ∧ (u matches .nilIface | .agg _) = false := by
  unfold binN at hk
  split at hk
  · rename_i e n hty hn
    have := (hU ty).desc
    rw [hty] at this
    refine ⟨_, hk, fun c u hu => ?_⟩
    obtain ⟨a, rfl, hn'⟩ := nilA_rep hn hu
    exact ⟨by simp [binOp, run_eql _ _ _ _ _ (equalIn_ptr_nil this 9999 a c.w), hn'], rfl⟩
  · rename_i e n hty hn
    have := (hU ty).desc
    rw [hty] at this
    refine ⟨_, hk, fun c u hu => ?_⟩
    obtain ⟨a, rfl, hn'⟩ := nilA_rep hn hu
    exact ⟨by simp [binOp, run_eql _ _ _ _ _ (equalIn_ptr_nil this 9999 a c.w), hn'], rfl⟩
  · exact hk.elim

theorem run_binA {op : BinOp} {ty : TypeId} {A B : AV} {K : AV → Prop} (x y : Operand) (hU : ∀ t, AgreeT P U t) (hk : binA U op ty A B K) :
    ∃ X, K X ∧ ∀ c u v, Rep c A u → Rep c B v → (eqGuard op ty x y u v).run P c.w = .ok () c.w ∧ ∃ r, (binOp op ty u v).run P c.w = .ok r c.w ∧ Rep c X r := by
  unfold binA at hk
  split at hk
  · split at hk
    · split at hk
      · obtain ⟨r, h1, h2⟩ := run_binSh (P := P) op ty _ _ _ _ _ hk
        refine ⟨_, h1, fun c u v ra rb => ?_⟩
        rw [ra.v_inv, rb.v_inv]
        exact ⟨eqGuard_int _ _ _ _ _ _ _ _ _, r, h2 _, .v _⟩
      · rename_i hs
        obtain ⟨rfl, hk⟩ := hk
        obtain ⟨r, h1, h2⟩ := run_binI (P := P) op ty _ _ _ _ (by simpa using hs) hk
        refine ⟨_, h1, fun c u v ra rb => ?_⟩
        rw [ra.v_inv, rb.v_inv]
        exact ⟨eqGuard_int _ _ _ _ _ _ _ _ _, r, h2 _, .v _⟩
    · exact hk.elim
  · split at hk
    · obtain ⟨X, r, h1, h2, h3⟩ := run_binS (P := P) op ty _ _ _ hk
      refine ⟨_, h1, fun c u v ra rb => ?_⟩
      rw [ra.s_inv.1, rb.s_inv.1]
      exact ⟨eqGuard_other _ _ _ _ _ _ _ rfl, r, h3 _, h2 _⟩
    · exact hk.elim
  · split at hk
    · obtain ⟨r, h1, h2⟩ := run_binB hU hk
      refine ⟨_, h1, fun c u v ra rb => ?_⟩
      rw [ra.v_inv, rb.v_inv]
      exact ⟨eqGuard_other _ _ _ _ _ _ _ rfl, r, h2 _, .v _⟩
    · exact hk.elim
  · obtain ⟨r, h1, h2⟩ := run_binN hU hk
    refine ⟨_, h1, fun c u v ra rb => ?_⟩
    rw [rb.v_inv]
    exact ⟨eqGuard_other _ _ _ _ _ _ _ (h2 c u ra).2, r, (h2 c u ra).1, .v _⟩
  · exact hk.elim

theorem sound_binOp {op : BinOp} {ty ty' : TypeId} {x y : Operand} (hU : ∀ t, AgreeT P U t) (ho : o.op = .binOp op ty x y ty') (hp : pv U ρ h (.binOp op ty x y ty') k) : ∃ X, k X ∧ PureOK P o ρ h X := by
  obtain ⟨A, hA, hk⟩ := withv_elim hp
  obtain ⟨B, hB, hk⟩ := withv_elim hk
  obtain ⟨X, h1, h2⟩ := run_binA (P := P) x y hU hk
  refine ⟨X, h1, .stay fun c a n hc g he => ?_⟩
  obtain ⟨h3, r, h4, h5⟩ := h2 c _ _ (ev_rep he hA) (ev_rep he hB)
  exact ⟨r, by simp [execOp, ho, h3, h4], h5⟩

end
end Go.Ab
