/- slices.Grow, slices.Concat, the book's Same. -/
import Derived.Test.YtidpcjblciompaaC2
import Derived.Test.YtidpcjblciompaaAb22
set_option linter.unusedSimpArgs false
set_option linter.unusedVariables false
namespace Go.Proofs.Ytidpcjblciompaa
open Go Go.Ab

theorem u5b : (U 5).bytes = 1 := by simp only [go_sem]

theorem grow_ok (n : Nat) (hn : n ≤ 20000000) (h : Heap) : FnOK Try.prog 53 [.sl [] .full, .v (.int .i64 n)] h fun r h' => Acc U 5 h h' r [] ∧ KeepObj h h' := by
  refine ⟨⟨_, Try.func53, by kernel_rfl, rfl⟩, fun c vs hs g hv hr => ?_⟩
  have h0 := hr 0 (by simp)
  have h1 := hr 1 (by simp)
  obtain ⟨a, cap, sz, val, e0, sl⟩ := h0.sl_inv
  have hcap : cap = 0 := sl.hp
  subst hcap
  have e1 := h1.v_inv
  have ev : vs = #[.slice a 0 0, .int .i64 n] := by
    apply Array.ext
    · exact hv
    · intro i h2 h3
      have h3' : i < 2 := h3
      have : i = 0 ∨ i = 1 := by omega
      rcases this with rfl | rfl
      · simpa [Array.getD, h2] using e0
      · simpa [Array.getD, h2] using e1
  subst ev
  by_cases hn0 : n = 0
  · subst hn0
    refine (grow_zero a c.w).mono ?_
    rintro e w' ⟨rfl, rfl⟩
    exact ⟨_, rfl, c, .sl [] .full, h, rfl, g, .refl c, h0, hs, .full (.refl h), .refl h⟩
  · refine (grow_some a n (by omega) hn c.w).mono ?_
    rintro e w' ⟨z, hz, rfl, rfl⟩
    refine ⟨_, rfl, ?_⟩
    have hG := grownCap_ge c.w n 0 5
    have hG63 : grownCap c.w n 0 5 ≤ 9223372036854775807 := by
      have := grownCap_le_maxLen c.w n 0 5 (by unfold maxLen; omega)
      unfold maxLen at this
      omega
    generalize hGe : grownCap c.w n 0 5 = G at hG hG63
    generalize hcells : Builtin.zeroCells z.cells n ++ Builtin.zeroCells z.cells (G - n) = cells
    have hcs : cells.size = G := by rw [← hcells]; simp [size_zeroCells, hz]; omega
    obtain ⟨id, hid⟩ := g.fresh
    have g1 : Ab.Good ({ c with w := c.w.drew } : Cx) := g.draw rfl rfl rfl rfl
    have e1 : Ext c { c with w := c.w.drew } := Ext.draw rfl rfl rfl rfl
    have hh : h id = none := fresh_in hs hid
    refine ⟨Cx.allocAt { c with w := c.w.drew } (.cells cells 5) id ⟨c.w.heap.size, 0, none⟩ (.spare 0 1), .sl [] (.own id), upd h id (some (.spare 0 1)), rfl, ?_, e1.trans (Ext.allocAt _ _ id _ _ rfl (.inl hid)), ?_, hs.upd id _, ?_, ?_⟩
    · exact g1.allocAt _ _ _ id _ _ rfl (.inl hid) (fun cs t' hh => by cases hh) (fun n sz hh => ⟨rfl, fun o ho => by simp⟩)
    · refine .sl [] _ (some ⟨c.w.heap.size, 0, none⟩) G 1 (fun _ _ => undef) (Nat.zero_le _) (by simp only [lim]; omega) (fun hh => by cases hh) (fun q hq _ => by cases hq; exact ⟨rfl, by simp [Cx.allocAt]⟩)
        (fun i hi => by cases hi) (fun q hq i j hi => by cases hi) (fun i hi => by cases hi) (fun i j hi => by cases hi) ?_
      exact ⟨0, by simp [Cx.allocAt, upd_same], Nat.le_refl _, fun _ => ⟨_, rfl, by simp [Cx.allocAt, upd_same], cells, 5, (0, 0), heap_alloc_new c.w.drew _, by simp [hcs]⟩⟩
    · exact ⟨(Sub.refl h).new hh _, .inr ⟨id, hh, rfl, by rw [upd_same, u5]; rfl⟩⟩
    · exact ((Sub.refl h).new hh _).keepObj

theorem same_ok (x y : AV) (a b : List UInt8) (h : Heap) (hx : By h x a) (hy : By h y b) (ha : a.length ≤ 1000000000) :
    FnOK Try.prog 19 [x, y] h fun r h' => r = .v (.bool (decide (a = b))) ∧ h' = h := by
  refine FnOK.body hU hm Try.func19 rfl (by kernel_rfl) 26 rfl [.tmp 4] rfl (Nat.le_of_ble_eq_true rfl) (fun hwf => ?_)
  simp -implicitDefEqProofs only [go_sem, ↓reduceIte, Nat.reduceLT, Nat.reduceEqDiff, Nat.reduceAdd, Nat.reduceLeDiff, Nat.reduceMul, Nat.reduceSub, hx.len, hy.len]
  refine .intro (fun e => ?_) (fun e => ?_)
  · simp -implicitDefEqProofs only [go_sem, ↓reduceIte, Nat.reduceLT, Nat.reduceEqDiff, Nat.reduceAdd, Nat.reduceLeDiff, Nat.reduceMul, Nat.reduceSub]
    refine .same (.refl _) ⟨?_, rfl⟩
    have : a ≠ b := fun hh => by simp [hh] at e
    simp [this, oneOr]
  · have hl : a.length = b.length := by simpa [Int.natCast_inj] using e
    simp -implicitDefEqProofs only [go_sem, ↓reduceIte, Nat.reduceLT, Nat.reduceEqDiff, Nat.reduceAdd, Nat.reduceLeDiff, Nat.reduceMul, Nat.reduceSub]
    refine .intro (fun m ρ h' => h' = h ∧ ∃ i : Nat, i ≤ a.length ∧ m = a.length - i ∧ a.take i = b.take i ∧ lk ρ 0 = some x ∧ lk ρ 1 = some y ∧ lk ρ 5 = some (.v (.int .i64 i))) a.length ?_ ?_
    · refine ⟨rfl, 0, Nat.zero_le _, rfl, rfl, ?_, ?_, ?_⟩ <;> simp -implicitDefEqProofs only [go_sem, ↓reduceIte, Nat.reduceLT, Nat.reduceEqDiff, Nat.reduceAdd, Nat.reduceLeDiff, Nat.reduceMul, Nat.reduceSub]
      rfl
    · rintro m ρ h' ⟨rfl, i, hi, rfl, hab, r0, r1, r5⟩
      simp -implicitDefEqProofs only [go_sem, ↓reduceIte, Nat.reduceLT, Nat.reduceEqDiff, Nat.reduceAdd, Nat.reduceLeDiff, Nat.reduceMul, Nat.reduceSub, r0, r1, r5, hx.len]
      refine .intro (fun e => ?_) (fun e => ?_)
      · have hlt : i < a.length := by simpa using e
        have hltb : i < b.length := by omega
        simp -implicitDefEqProofs only [go_sem, ↓reduceIte, Nat.reduceLT, Nat.reduceEqDiff, Nat.reduceAdd, Nat.reduceLeDiff, Nat.reduceMul, Nat.reduceSub, r0, r1, r5]
        refine ⟨.of (by kernel_rfl), hx.idx i rfl hlt u5 u5a fun p hp => ?_⟩
        simp -implicitDefEqProofs only [go_sem, ↓reduceIte, Nat.reduceLT, Nat.reduceEqDiff, Nat.reduceAdd, Nat.reduceLeDiff, Nat.reduceMul, Nat.reduceSub, r0, r1, r5, hp _]
        refine hy.idx i rfl hltb u5 u5a fun p' hp' => ?_
        simp -implicitDefEqProofs only [go_sem, ↓reduceIte, Nat.reduceLT, Nat.reduceEqDiff, Nat.reduceAdd, Nat.reduceLeDiff, Nat.reduceMul, Nat.reduceSub, r0, r1, r5, hp' _]
        refine .intro (fun e => ?_) (fun e => ?_)
        · simp -implicitDefEqProofs only [go_sem, ↓reduceIte, Nat.reduceLT, Nat.reduceEqDiff, Nat.reduceAdd, Nat.reduceLeDiff, Nat.reduceMul, Nat.reduceSub]
          refine .same (.refl _) ⟨?_, rfl⟩
          have : a ≠ b := fun hh => by subst hh; simp at e
          simp [this, oneOr]
        · have hc : a[i] = b[i] := by
            have : (a[i].toNat : Int) = b[i].toNat := by simpa using e
            exact UInt8.toNat_inj.1 (by omega)
          have w1 : IntKind.i64.wrap ((i : Int) + 1) = ((i + 1 : Nat) : Int) := by rw [IntWalk.i64_in _ (by omega)]; omega
          simp -implicitDefEqProofs only [go_sem, ↓reduceIte, Nat.reduceLT, Nat.reduceEqDiff, Nat.reduceAdd, Nat.reduceLeDiff, Nat.reduceMul, Nat.reduceSub, r0, r1, r5, w1]
          refine ⟨a.length - (i + 1), by omega, rfl, i + 1, hlt, rfl, ?_, ?_, ?_, ?_⟩
          · rw [List.take_succ_eq_append_getElem hlt, List.take_succ_eq_append_getElem hltb, hab, hc]
          all_goals simp -implicitDefEqProofs only [go_sem, ↓reduceIte, Nat.reduceLT, Nat.reduceEqDiff, Nat.reduceAdd, Nat.reduceLeDiff, Nat.reduceMul, Nat.reduceSub, r0, r1, r5]
      · have hge : i = a.length := by have : ¬ (i < a.length) := by simpa using e
                                      omega
        simp -implicitDefEqProofs only [go_sem, ↓reduceIte, Nat.reduceLT, Nat.reduceEqDiff, Nat.reduceAdd, Nat.reduceLeDiff, Nat.reduceMul, Nat.reduceSub]
        refine .same (.refl _) ⟨?_, rfl⟩
        have : a = b := by
          subst hge
          rw [List.take_length] at hab
          rw [hab, hl, List.take_length]
        simp [this, oneOr]
end Go.Proofs.Ytidpcjblciompaa
