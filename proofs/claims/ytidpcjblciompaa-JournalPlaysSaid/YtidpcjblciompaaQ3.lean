/- The law JournalPlays: pack 3 of its texts. -/
import Derived.WalkKit
import Derived.Lib.Walk
import Derived.Lib.SliceRun
import Derived.Lib.AppendZerosOnto
import Derived.Test.YtidpcjblciompaaQ1
import Derived.Test.YtidpcjblciompaaQ2
/- slices.Grow at the empty slice, slices.Concat of two rows of bytes. -/
set_option linter.unusedSimpArgs false
set_option linter.unusedVariables false
namespace Go.Proofs.Ytidpcjblciompaa
open Go Go.Ab Go.RowKit Go.Lib

theorem i5 : ∃ i z, Try.prog.info? 5 = some i ∧ i.zero = some z ∧ i.size = 1 ∧ i.bytes = 1 ∧ z.cells.size = 1 := by
  obtain ⟨i, h1, h2, h3, z, h4, h5, _⟩ := (hU 5).info (by rw [u5]; decide)
  rw [u5] at h2 h5
  exact ⟨i, z, h1, h4, h2, by rw [h3]; simp only [go_sem], h5⟩

set_option maxHeartbeats 1000000 in
theorem grow_zero (a : Option Addr) (w : World) : Calls Try.prog 53 #[.slice a 0 0, .int .i64 0] w fun e w' => e = .returned (.slice a 0 0) ∧ w' = w := by
  go_enter Try.func53, Try.ntmps53
  go_wp2
  go_ret
  exact ⟨rfl, rfl⟩

set_option maxHeartbeats 1000000 in
theorem grow_some (a : Option Addr) (n : Nat) (h0 : 0 < n) (hn : n ≤ 20000000) (w : World) : Calls Try.prog 53 #[.slice a 0 0, .int .i64 n] w fun e w' =>
    ∃ z : Value, z.cells.size = 1 ∧ e = .returned (.slice (some ⟨w.heap.size, 0, none⟩) 0 (grownCap w n 0 5)) ∧
      w' = w.drew.alloc (.cells (Builtin.zeroCells z.cells n ++ Builtin.zeroCells z.cells (grownCap w n 0 5 - n)) 5) := by
  obtain ⟨i, z, e1, e2, e3, e4, e5⟩ := i5
  have hsl : Try.prog.underlying 27 = some (.slice 5) := by
    have := (hU 27).desc
    simp only [go_sem] at this
    exact this
  have hin : Try.prog.underlying 3 = some (.int .i64) := by
    have := (hU 3).desc
    simp only [go_sem] at this
    exact this
  have hold : (Builtin.firstCells i.size 0 (.slice a 0 0)).run Try.prog w.drew = .ok (#[] : Array Value) w.drew := by
    cases a <;> simp [Builtin.firstCells, loadCells, loadCellsFrom]
  have hrz : ∀ ty, (Builtin.append_ #[27, 3] ty #[.slice a 0 0, .int .i64 (n : Int)]).run Try.prog w =
      .ok (.slice (some ⟨w.heap.size, 0, none⟩) n (grownCap w n 0 5)) (w.drew.alloc (.cells (Builtin.zeroCells z.cells n ++ Builtin.zeroCells z.cells (grownCap w n 0 5 - n)) 5)) := fun ty => by
    have h := Lib.run_append_grow_zeros w 27 3 ty 5 i z .i64 .i64 hsl hin e1 e2 a 0 0 [] (by simpa using hold) n h0 (by omega) (by omega) (by omega)
      (by rw [e4]; omega)
      (by rw [e4]; exact growslice_fits (by omega) (by omega))
    simpa using h
  have hG := grownCap_ge w n 0 5
  have hG63 : grownCap w n 0 5 ≤ 9223372036854775807 := by
    have := grownCap_le_maxLen w n 0 5 (by unfold maxLen; omega)
    unfold maxLen at this
    omega
  obtain ⟨G, hGe⟩ : ∃ G, G = grownCap w n 0 5 := ⟨_, rfl⟩
  rw [← hGe] at hrz hG hG63 ⊢
  have h3 : wrap64 ((n : Int) - 0) = (n : Int) := by unfold wrap64; omega
  have h4 : ¬ ((n : Int) < 0) := by omega
  have h5 : (n : Int) > 0 := by omega
  refine Calls.mono (R := fun e w' => e = .returned (.slice (some ⟨w.heap.size, 0, none⟩) 0 G) ∧ w' = w.drew.alloc (.cells (Builtin.zeroCells z.cells n ++ Builtin.zeroCells z.cells (G - n)) 5)) ?_ (fun e w' hh => ⟨z, e5, hh.1, hh.2⟩)
  clear hold hGe
  go_enter Try.func53, Try.ntmps53
  cases a with
  | none =>
    go_wp2_with (at_builtin; refine Lib.wpList_append_run _ rfl _ _ _ _ rfl _ _ rfl rfl _ _ (hrz _) ?_)
    all_goals (go_ret; exact ⟨rfl, rfl⟩)
  | some q =>
    obtain ⟨ab, ao, asp⟩ := q
    go_wp2_with (at_builtin; refine Lib.wpList_append_run _ rfl _ _ _ _ rfl _ _ rfl rfl _ _ (hrz _) ?_)
    all_goals (go_ret; exact ⟨rfl, rfl⟩)
end Go.Proofs.Ytidpcjblciompaa

/- slices.Grow, slices.Concat, the book's Same. -/
set_option linter.unusedSimpArgs false
set_option linter.unusedVariables false
namespace Go.Proofs.Ytidpcjblciompaa
open Go Go.Ab

theorem u5b : (U 5).bytes = 1 := by simp only [go_sem]

theorem grow_ok (n : Nat) (hn : n ≤ 20000000) (h : Heap) : FnOK Try.prog 53 [.sl [] .full, .v (.int .i64 n)] h fun r h' => Acc U 5 h h' r [] ∧ KeepObj h h' := by
  refine ⟨⟨_, Try.func53, by kernel_rfl, rfl⟩, fun c vs hs g hv hr => ?_⟩
  have h0 := hr 0 (by simp)
  have h1 := hr 1 (by simp)
  obtain ⟨a, cap, sz, val, e0, sl⟩ := h0.sl_inv
  have hcap : cap = 0 := sl.hp
  subst hcap
  have e1 := h1.v_inv
  have ev : vs = #[.slice a 0 0, .int .i64 n] := by
    apply Array.ext
    · exact hv
    · intro i h2 h3
      have h3' : i < 2 := h3
      have : i = 0 ∨ i = 1 := by omega
      rcases this with rfl | rfl
      · simpa [Array.getD, h2] using e0
      · simpa [Array.getD, h2] using e1
  subst ev
  by_cases hn0 : n = 0
  · subst hn0
    refine (grow_zero a c.w).mono ?_
    rintro e w' ⟨rfl, rfl⟩
    exact ⟨_, rfl, c, .sl [] .full, h, rfl, g, .refl c, h0, hs, .full (.refl h), .refl h⟩
  · refine (grow_some a n (by omega) hn c.w).mono ?_
    rintro e w' ⟨z, hz, rfl, rfl⟩
    refine ⟨_, rfl, ?_⟩
    have hG := grownCap_ge c.w n 0 5
    have hG63 : grownCap c.w n 0 5 ≤ 9223372036854775807 := by
      have := grownCap_le_maxLen c.w n 0 5 (by unfold maxLen; omega)
      unfold maxLen at this
      omega
    generalize hGe : grownCap c.w n 0 5 = G at hG hG63
    generalize hcells : Builtin.zeroCells z.cells n ++ Builtin.zeroCells z.cells (G - n) = cells
    have hcs : cells.size = G := by rw [← hcells]; simp [size_zeroCells, hz]; omega
    obtain ⟨id, hid⟩ := g.fresh
    have g1 : Ab.Good ({ c with w := c.w.drew } : Cx) := g.draw rfl rfl rfl rfl
    have e1 : Ext c { c with w := c.w.drew } := Ext.draw rfl rfl rfl rfl
    have hh : h id = none := fresh_in hs hid
    refine ⟨Cx.allocAt { c with w := c.w.drew } (.cells cells 5) id ⟨c.w.heap.size, 0, none⟩ (.spare 0 1), .sl [] (.own id), upd h id (some (.spare 0 1)), rfl, ?_, e1.trans (Ext.allocAt _ _ id _ _ rfl (.inl hid)), ?_, hs.upd id _, ?_, ?_⟩
    · exact g1.allocAt _ _ _ id _ _ rfl (.inl hid) (fun cs t' hh => by cases hh) (fun n sz hh => ⟨rfl, fun o ho => by simp⟩)
    · refine .sl [] _ (some ⟨c.w.heap.size, 0, none⟩) G 1 (fun _ _ => undef) (Nat.zero_le _) (by simp only [lim]; omega) (fun hh => by cases hh) (fun q hq _ => by cases hq; exact ⟨rfl, by simp [Cx.allocAt]⟩)
        (fun i hi => by cases hi) (fun q hq i j hi => by cases hi) (fun i hi => by cases hi) (fun i j hi => by cases hi) ?_
      exact ⟨0, by simp [Cx.allocAt, upd_same], Nat.le_refl _, fun _ => ⟨_, rfl, by simp [Cx.allocAt, upd_same], cells, 5, (0, 0), heap_alloc_new c.w.drew _, by simp [hcs]⟩⟩
    · exact ⟨(Sub.refl h).new hh _, .inr ⟨id, hh, rfl, by rw [upd_same, u5]; rfl⟩⟩
    · exact ((Sub.refl h).new hh _).keepObj

theorem same_ok (x y : AV) (a b : List UInt8) (h : Heap) (hx : By h x a) (hy : By h y b) (ha : a.length ≤ 1000000000) :
    FnOK Try.prog 19 [x, y] h fun r h' => r = .v (.bool (decide (a = b))) ∧ h' = h := by
  refine FnOK.body hU hm Try.func19 rfl (by kernel_rfl) 26 rfl [.tmp 4] rfl (Nat.le_of_ble_eq_true rfl) (fun hwf => ?_)
  simp -implicitDefEqProofs only [go_sem, ↓reduceIte, Nat.reduceLT, Nat.reduceEqDiff, Nat.reduceAdd, Nat.reduceLeDiff, Nat.reduceMul, Nat.reduceSub, hx.len, hy.len]
  refine .intro (fun e => ?_) (fun e => ?_)
  · simp -implicitDefEqProofs only [go_sem, ↓reduceIte, Nat.reduceLT, Nat.reduceEqDiff, Nat.reduceAdd, Nat.reduceLeDiff, Nat.reduceMul, Nat.reduceSub]
    refine .same (.refl _) ⟨?_, rfl⟩
    have : a ≠ b := fun hh => by simp [hh] at e
    simp [this, oneOr]
  · have hl : a.length = b.length := by simpa [Int.natCast_inj] using e
    simp -implicitDefEqProofs only [go_sem, ↓reduceIte, Nat.reduceLT, Nat.reduceEqDiff, Nat.reduceAdd, Nat.reduceLeDiff, Nat.reduceMul, Nat.reduceSub]
    refine .intro (fun m ρ h' => h' = h ∧ ∃ i : Nat, i ≤ a.length ∧ m = a.length - i ∧ a.take i = b.take i ∧ lk ρ 0 = some x ∧ lk ρ 1 = some y ∧ lk ρ 5 = some (.v (.int .i64 i))) a.length ?_ ?_
    · refine ⟨rfl, 0, Nat.zero_le _, rfl, rfl, ?_, ?_, ?_⟩ <;> simp -implicitDefEqProofs only [go_sem, ↓reduceIte, Nat.reduceLT, Nat.reduceEqDiff, Nat.reduceAdd, Nat.reduceLeDiff, Nat.reduceMul, Nat.reduceSub]
      rfl
    · rintro m ρ h' ⟨rfl, i, hi, rfl, hab, r0, r1, r5⟩
      simp -implicitDefEqProofs only [go_sem, ↓reduceIte, Nat.reduceLT, Nat.reduceEqDiff, Nat.reduceAdd, Nat.reduceLeDiff, Nat.reduceMul, Nat.reduceSub, r0, r1, r5, hx.len]
      refine .intro (fun e => ?_) (fun e => ?_)
      · have hlt : i < a.length := by simpa using e
        have hltb : i < b.length := by omega
        simp -implicitDefEqProofs only [go_sem, ↓reduceIte, Nat.reduceLT, Nat.reduceEqDiff, Nat.reduceAdd, Nat.reduceLeDiff, Nat.reduceMul, Nat.reduceSub, r0, r1, r5]
        refine ⟨.of (by kernel_rfl), hx.idx i rfl hlt u5 u5a fun p hp => ?_⟩
        simp -implicitDefEqProofs only [go_sem, ↓reduceIte, Nat.reduceLT, Nat.reduceEqDiff, Nat.reduceAdd, Nat.reduceLeDiff, Nat.reduceMul, Nat.reduceSub, r0, r1, r5, hp _]
        refine hy.idx i rfl hltb u5 u5a fun p' hp' => ?_
        simp -implicitDefEqProofs only [go_sem, ↓reduceIte, Nat.reduceLT, Nat.reduceEqDiff, Nat.reduceAdd, Nat.reduceLeDiff, Nat.reduceMul, Nat.reduceSub, r0, r1, r5, hp' _]
        refine .intro (fun e => ?_) (fun e => ?_)
        · simp -implicitDefEqProofs only [go_sem, ↓reduceIte, Nat.reduceLT, Nat.reduceEqDiff, Nat.reduceAdd, Nat.reduceLeDiff, Nat.reduceMul, Nat.reduceSub]
          refine .same (.refl _) ⟨?_, rfl⟩
          have : a ≠ b := fun hh => by subst hh; simp at e
          simp [this, oneOr]
        · have hc : a[i] = b[i] := by
            have : (a[i].toNat : Int) = b[i].toNat := by simpa using e
            exact UInt8.toNat_inj.1 (by omega)
          have w1 : IntKind.i64.wrap ((i : Int) + 1) = ((i + 1 : Nat) : Int) := by rw [IntWalk.i64_in _ (by omega)]; omega
          simp -implicitDefEqProofs only [go_sem, ↓reduceIte, Nat.reduceLT, Nat.reduceEqDiff, Nat.reduceAdd, Nat.reduceLeDiff, Nat.reduceMul, Nat.reduceSub, r0, r1, r5, w1]
          refine ⟨a.length - (i + 1), by omega, rfl, i + 1, hlt, rfl, ?_, ?_, ?_, ?_⟩
          · rw [List.take_succ_eq_append_getElem hlt, List.take_succ_eq_append_getElem hltb, hab, hc]
          all_goals simp -implicitDefEqProofs only [go_sem, ↓reduceIte, Nat.reduceLT, Nat.reduceEqDiff, Nat.reduceAdd, Nat.reduceLeDiff, Nat.reduceMul, Nat.reduceSub, r0, r1, r5]
      · have hge : i = a.length := by have : ¬ (i < a.length) := by simpa using e
                                      omega
        simp -implicitDefEqProofs only [go_sem, ↓reduceIte, Nat.reduceLT, Nat.reduceEqDiff, Nat.reduceAdd, Nat.reduceLeDiff, Nat.reduceMul, Nat.reduceSub]
        refine .same (.refl _) ⟨?_, rfl⟩
        have : a = b := by
          subst hge
          rw [List.take_length] at hab
          rw [hab, hl, List.take_length]
        simp [this, oneOr]
end Go.Proofs.Ytidpcjblciompaa

/- slices.Concat. -/
set_option linter.unusedSimpArgs false
set_option linter.unusedVariables false
namespace Go.Proofs.Ytidpcjblciompaa
open Go Go.Ab

theorem u27 : (U 27).sz = 1 := by simp only [go_sem]
theorem u27a : (U 27).k.agg = false := by simp only [go_sem]

theorem flat_take_len (ls : List (List UInt8)) (i : Nat) (hi : i < ls.length) : (ls.take (i + 1)).flatten = (ls.take i).flatten ++ ls[i] := by
  rw [List.take_succ_eq_append_getElem hi, List.flatten_append, List.flatten_cons, List.flatten_nil, List.append_nil]
theorem flat_take_le (ls : List (List UInt8)) (i : Nat) : (ls.take i).flatten.length ≤ ls.flatten.length := by
  conv => rhs; rw [← List.take_append_drop i ls, List.flatten_append, List.length_append]
  omega

theorem concat_ok (ys : List AV) (ls : List (List UInt8)) (q : Perm) (h : Heap) (hr : Ab.Rows 5 h ys ls) (hl : ls.flatten.length ≤ 20000000) (hn : ls.length ≤ 20000000) :
    FnOK Try.prog 45 [.sl ys q] h fun r h' => r = .sl (ls.flatten.map byteA) .no ∧ Sub h h' := by
  have hlen := hr.1
  refine FnOK.body hU hm Try.func45 rfl (by kernel_rfl) 36 rfl [.tmp 2] rfl (Nat.le_of_ble_eq_true rfl) (fun hwf => ?_)
  simp -implicitDefEqProofs only [go_sem, ↓reduceIte, Nat.reduceLT, Nat.reduceEqDiff, Nat.reduceAdd, Nat.reduceLeDiff, Nat.reduceMul, Nat.reduceSub]
  refine .intro (fun m ρ h' => h' = h ∧ ∃ i : Nat, i ≤ ls.length ∧ m = ls.length - i ∧ lk ρ 0 = some (.sl ys q) ∧ lk ρ 9 = some (.sl ys q) ∧ lk ρ 10 = some (.v (.int .i64 ys.length)) ∧
    lk ρ 11 = some (.v (.int .i64 i)) ∧ lk ρ 3 = some (.v (.int .i64 (ls.take i).flatten.length))) ls.length ?_ ?_
  · refine ⟨rfl, 0, Nat.zero_le _, rfl, ?_, ?_, ?_, ?_, ?_⟩ <;> simp -implicitDefEqProofs only [go_sem, ↓reduceIte, Nat.reduceLT, Nat.reduceEqDiff, Nat.reduceAdd, Nat.reduceLeDiff, Nat.reduceMul, Nat.reduceSub]
    · rfl
    · simp
  · rintro m ρ h' ⟨rfl, i, hi, rfl, r0, r9, r10, r11, r3⟩
    simp -implicitDefEqProofs only [go_sem, ↓reduceIte, Nat.reduceLT, Nat.reduceEqDiff, Nat.reduceAdd, Nat.reduceLeDiff, Nat.reduceMul, Nat.reduceSub, r0, r9, r10, r11, r3]
    refine .intro (fun e => ?_) (fun e => ?_)
    · have hlt : i < ys.length := by simpa using e
      have hlt2 : i < ls.length := by omega
      have hb := hr.2 i hlt hlt2
      simp -implicitDefEqProofs only [go_sem, ↓reduceIte, Nat.reduceLT, Nat.reduceEqDiff, Nat.reduceAdd, Nat.reduceLeDiff, Nat.reduceMul, Nat.reduceSub, r0, r9, r10, r11, r3]
      refine .at i hlt (by rw [hb.cells]; rfl) ?_
      have t1 := flat_take_le ls (i + 1)
      have t2 := flat_take_len ls i hlt2
      have w1 : IntKind.i64.wrap (((ls.take i).flatten.length : Int) + (ls[i].length : Int)) = ((ls.take (i + 1)).flatten.length : Nat) := by
        rw [t2, List.length_append] at t1 ⊢
        rw [IntWalk.i64_in _ (by omega)]; omega
      simp -implicitDefEqProofs only [go_sem, ↓reduceIte, Nat.reduceLT, Nat.reduceEqDiff, Nat.reduceAdd, Nat.reduceLeDiff, Nat.reduceMul, Nat.reduceSub, r0, r9, r10, r11, r3, hb.cells, hb.noAgg, and_self, hb.len, w1]
      refine .no (decide_eq_false (by omega)) ?_
      have w2 : IntKind.i64.wrap ((i : Int) + 1) = ((i + 1 : Nat) : Int) := by rw [IntWalk.i64_in _ (by omega)]; omega
      simp -implicitDefEqProofs only [go_sem, ↓reduceIte, Nat.reduceLT, Nat.reduceEqDiff, Nat.reduceAdd, Nat.reduceLeDiff, Nat.reduceMul, Nat.reduceSub, r0, r9, r10, r11, r3, w2]
      refine ⟨ls.length - (i + 1), by omega, rfl, i + 1, hlt2, rfl, ?_, ?_, ?_, ?_, ?_⟩ <;> simp -implicitDefEqProofs only [go_sem, ↓reduceIte, Nat.reduceLT, Nat.reduceEqDiff, Nat.reduceAdd, Nat.reduceLeDiff, Nat.reduceMul, Nat.reduceSub, r0, r9, r10, r11, r3]
    · have hge : i = ls.length := by
        have : ¬ (i < ys.length) := by simpa using e
        omega
      subst hge
      rw [List.take_length] at r3
      simp -implicitDefEqProofs only [go_sem, ↓reduceIte, Nat.reduceLT, Nat.reduceEqDiff, Nat.reduceAdd, Nat.reduceLeDiff, Nat.reduceMul, Nat.reduceSub, r0, r9, r10, r11, r3]
      refine (grow_ok ls.flatten.length hl h').mono fun g1 h1 ⟨ha, hk⟩ => ?_
      simp -implicitDefEqProofs only [go_sem, ↓reduceIte, Nat.reduceLT, Nat.reduceEqDiff, Nat.reduceAdd, Nat.reduceLeDiff, Nat.reduceMul, Nat.reduceSub, r0, r9, r10, r11, r3]
      refine .intro (fun m ρ h2 => ∃ g : AV, ∃ i : Nat, Acc U 5 h' h2 g ((ls.take i).flatten.map byteA) ∧ KeepObj h' h2 ∧ i ≤ ls.length ∧ m = ls.length - i ∧ lk ρ 25 = some (.sl ys q) ∧ lk ρ 26 = some (.v (.int .i64 ys.length)) ∧
        lk ρ 27 = some (.v (.int .i64 i)) ∧ lk ρ 6 = some g) ls.length ?_ ?_
      · refine ⟨g1, 0, ha, hk, Nat.zero_le _, rfl, ?_, ?_, ?_, ?_⟩ <;> simp -implicitDefEqProofs only [go_sem, ↓reduceIte, Nat.reduceLT, Nat.reduceEqDiff, Nat.reduceAdd, Nat.reduceLeDiff, Nat.reduceMul, Nat.reduceSub]
        rfl
      · rintro m ρ h2 ⟨g, i, ha, hk, hi, rfl, r25, r26, r27, r6⟩
        simp -implicitDefEqProofs only [go_sem, ↓reduceIte, Nat.reduceLT, Nat.reduceEqDiff, Nat.reduceAdd, Nat.reduceLeDiff, Nat.reduceMul, Nat.reduceSub, r25, r26, r27, r6]
        refine .intro (fun e => ?_) (fun e => ?_)
        · have hlt : i < ys.length := by simpa using e
          have hlt2 : i < ls.length := by omega
          have hb := (hr.2 i hlt hlt2).keepObj hk
          have t1 := flat_take_le ls (i + 1)
          have t2 := flat_take_len ls i hlt2
          simp -implicitDefEqProofs only [go_sem, ↓reduceIte, Nat.reduceLT, Nat.reduceEqDiff, Nat.reduceAdd, Nat.reduceLeDiff, Nat.reduceMul, Nat.reduceSub, r25, r26, r27, r6]
          refine .at i hlt (by rw [hb.cells]; rfl) ?_
          simp -implicitDefEqProofs only [go_sem, ↓reduceIte, Nat.reduceLT, Nat.reduceEqDiff, Nat.reduceAdd, Nat.reduceLeDiff, Nat.reduceMul, Nat.reduceSub, r25, r26, r27, r6, hb.cells, hb.noAgg, and_self]
          refine ha.app (zs := ls[i].map byteA) (by rw [u5]; decide) (by rw [u5b]; decide) (fun k hk => by rw [hb.src u5]; exact hk) (by rw [u5, Sized_bytes]; trivial) (by rw [u5, Sized_bytes]; trivial) ?_ fun g' h3 ha' hk' => ?_
          · rw [u5b, List.length_map, List.length_map]
            rw [t2, List.length_append] at t1
            omega
          · have w2 : IntKind.i64.wrap ((i : Int) + 1) = ((i + 1 : Nat) : Int) := by rw [IntWalk.i64_in _ (by omega)]; omega
            simp -implicitDefEqProofs only [go_sem, ↓reduceIte, Nat.reduceLT, Nat.reduceEqDiff, Nat.reduceAdd, Nat.reduceLeDiff, Nat.reduceMul, Nat.reduceSub, r25, r26, r27, r6, w2]
            rw [← List.map_append, ← t2] at ha'
            refine ⟨ls.length - (i + 1), by omega, g', i + 1, ha', hk.trans hk', hlt2, rfl, ?_, ?_, ?_, ?_⟩ <;> simp -implicitDefEqProofs only [go_sem, ↓reduceIte, Nat.reduceLT, Nat.reduceEqDiff, Nat.reduceAdd, Nat.reduceLeDiff, Nat.reduceMul, Nat.reduceSub, r25, r26, r27, r6]
        · have hge : i = ls.length := by
            have : ¬ (i < ys.length) := by simpa using e
            omega
          subst hge
          rw [List.take_length] at ha
          simp -implicitDefEqProofs only [go_sem, ↓reduceIte, Nat.reduceLT, Nat.reduceEqDiff, Nat.reduceAdd, Nat.reduceLeDiff, Nat.reduceMul, Nat.reduceSub, r25, r26, r27, r6]
          exact .mk _ ha.weak (.refl _) ⟨rfl, ha.1⟩
end Go.Proofs.Ytidpcjblciompaa

/- The disk. -/
set_option linter.unusedSimpArgs false
set_option linter.unusedVariables false
namespace Go.Proofs.Ytidpcjblciompaa
open Go Go.Ab

/-- A disk: its quota, its bytes, how many are synced, its fuse, is the power off. -/
structure D where
  q : Nat
  b : List UInt8
  sy : Nat
  f : Nat
  off : Bool

def D.ok (d : D) : Prop := d.b.length ≤ d.q ∧ d.q ≤ 1048576 ∧ d.sy ≤ d.b.length ∧ d.f < 9223372036854775808

def D.burn (d : D) : D := if 0 < d.f then { d with f := d.f - 1, off := decide (d.f = 1) } else d

def D.cells (d : D) (y : AV) : List AV := [.v (.int .i64 d.q), y, .v (.int .i64 d.sy), .v (.int .i64 d.f), .v (.bool d.off)]
def DiskAt (h : Heap) (id : Nat) (d : D) : Prop := ∃ y, h id = some (.obj (d.cells y) 75) ∧ By h y d.b

theorem DiskAt.keep {h h' : Heap} {id : Nat} {d : D} (hd : DiskAt h id d) (hs : KeepObj h h') : DiskAt h' id d := by
  obtain ⟨y, h1, h2⟩ := hd
  exact ⟨y, hs _ _ _ h1, h2.keepObj hs⟩
theorem By.set {h : Heap} {id : Nat} {x : AV} {l : List UInt8} {cs cs' : List AV} (hb : By h x l) (hid : h id = some (.obj cs 75)) : By (upd h id (some (.obj cs' 75))) x l := hb.keep (Keep.upd id _) hid (by decide)

theorem new_ok (q : Nat) (hq : q ≤ 1048576) (h : Heap) :
    FnOK Try.prog 15 [.v (.int .i64 q)] h fun r h' => ∃ id, h id = none ∧ r = .tup [.ptr id 0, .v (.int .i64 0)] ∧ DiskAt h' id ⟨q, [], 0, 0, false⟩ ∧ Sub h h' := by
  refine FnOK.body hU hm Try.func15 rfl (by kernel_rfl) 13 rfl [.tmp 2, .tmp 3] rfl (Nat.le_of_ble_eq_true rfl) (fun hwf => ?_)
  simp -implicitDefEqProofs only [go_sem, ↓reduceIte, Nat.reduceLT, Nat.reduceEqDiff, Nat.reduceAdd, Nat.reduceLeDiff, Nat.reduceMul, Nat.reduceSub]
  refine .intro (fun e => absurd (of_decide_eq_true e) (by omega)) (fun e => ?_)
  simp -implicitDefEqProofs only [go_sem, ↓reduceIte, Nat.reduceLT, Nat.reduceEqDiff, Nat.reduceAdd, Nat.reduceLeDiff, Nat.reduceMul, Nat.reduceSub]
  refine .no (decide_eq_false (by omega)) ?_
  simp -implicitDefEqProofs only [go_sem, ↓reduceIte, Nat.reduceLT, Nat.reduceEqDiff, Nat.reduceAdd, Nat.reduceLeDiff, Nat.reduceMul, Nat.reduceSub]
  intro id hid
  simp -implicitDefEqProofs only [go_sem, ↓reduceIte, Nat.reduceLT, Nat.reduceEqDiff, Nat.reduceAdd, Nat.reduceLeDiff, Nat.reduceMul, Nat.reduceSub]
  exact .same (.refl _) ⟨id, hid, rfl, ⟨_, upd_same .., .inl ⟨.full, rfl⟩⟩, (Sub.refl h).new hid _⟩

theorem new_bad (q : Int) (hq : q < 0 ∨ 1048576 < q) (h : Heap) :
    FnOK Try.prog 15 [.v (.int .i64 q)] h fun r h' => r = .tup [.v (.pointer none), .v (.int .i64 1)] ∧ h' = h := by
  refine FnOK.body hU hm Try.func15 rfl (by kernel_rfl) 13 rfl [.tmp 2, .tmp 3] rfl (Nat.le_of_ble_eq_true rfl) (fun hwf => ?_)
  simp -implicitDefEqProofs only [go_sem, ↓reduceIte, Nat.reduceLT, Nat.reduceEqDiff, Nat.reduceAdd, Nat.reduceLeDiff, Nat.reduceMul, Nat.reduceSub]
  refine .intro (fun e => ?_) (fun e => ?_)
  · simp -implicitDefEqProofs only [go_sem, ↓reduceIte, Nat.reduceLT, Nat.reduceEqDiff, Nat.reduceAdd, Nat.reduceLeDiff, Nat.reduceMul, Nat.reduceSub, e]
    exact .same (.refl _) ⟨rfl, rfl⟩
  · have := of_decide_eq_false e
    simp -implicitDefEqProofs only [go_sem, ↓reduceIte, Nat.reduceLT, Nat.reduceEqDiff, Nat.reduceAdd, Nat.reduceLeDiff, Nat.reduceMul, Nat.reduceSub, e]
    refine .yes (decide_eq_true (by omega)) ?_
    simp -implicitDefEqProofs only [go_sem, ↓reduceIte, Nat.reduceLT, Nat.reduceEqDiff, Nat.reduceAdd, Nat.reduceLeDiff, Nat.reduceMul, Nat.reduceSub]
    exact .same (.refl _) ⟨rfl, rfl⟩

theorem burn_ok (d : D) (hd : d.ok) (id : Nat) (h : Heap) (y : AV) (hid : h id = some (.obj (d.cells y) 75)) :
    FnOK Try.prog 46 [.ptr id 0] h fun r h' => r = .v (.bool d.burn.off) ∧ h' = upd h id (some (.obj (d.burn.cells y) 75)) := by
  obtain ⟨q, b, sy, f, off⟩ := d
  obtain ⟨d1, d2, d3, d4⟩ := hd
  simp only at d1 d2 d3 d4
  simp only [D.cells] at hid
  refine FnOK.body hU hm Try.func46 rfl (by kernel_rfl) 27 rfl [.tmp 2] rfl (Nat.le_of_ble_eq_true rfl) (fun hwf => ?_)
  simp -implicitDefEqProofs only [go_sem, ↓reduceIte, Nat.reduceLT, Nat.reduceEqDiff, Nat.reduceAdd, Nat.reduceLeDiff, Nat.reduceMul, Nat.reduceSub, hid]
  refine .intro (fun e => ?_) (fun e => ?_)
  · have e := of_decide_eq_true e
    have w1 : IntKind.i64.wrap ((f : Int) - 1) = ((f - 1 : Nat) : Int) := by rw [IntWalk.i64_in _ (by omega)]; omega
    simp -implicitDefEqProofs only [go_sem, ↓reduceIte, Nat.reduceLT, Nat.reduceEqDiff, Nat.reduceAdd, Nat.reduceLeDiff, Nat.reduceMul, Nat.reduceSub, hid, w1]
    have hb : (((f - 1 : Nat) : Int) == 0) = decide (f = 1) := by
      by_cases h1 : f = 1
      · simp [h1]
      · have : f - 1 ≠ 0 := by omega
        simp [h1, Int.natCast_eq_zero, this]
    refine .same (.refl _) ⟨?_, ?_⟩
    · simp only [D.burn, if_pos (show 0 < f by omega), hb, oneOr]
    · simp only [D.burn, D.cells, if_pos (show 0 < f by omega), hb]
  · have e := of_decide_eq_false e
    have hf : ¬ 0 < f := by omega
    simp -implicitDefEqProofs only [go_sem, ↓reduceIte, Nat.reduceLT, Nat.reduceEqDiff, Nat.reduceAdd, Nat.reduceLeDiff, Nat.reduceMul, Nat.reduceSub, hid]
    refine .same (.refl _) ⟨?_, ?_⟩
    · simp only [D.burn, if_neg hf, oneOr]
    · simp only [D.burn, D.cells, if_neg hf]
      funext j
      simp only [upd]
      split
      · rename_i e; subst e; exact hid
      · rfl

theorem D.burn_ok {d : D} (hd : d.ok) : d.burn.ok := by
  obtain ⟨d1, d2, d3, d4⟩ := hd
  unfold D.burn
  split
  · exact ⟨d1, d2, d3, by show d.f - 1 < _; omega⟩
  · exact ⟨d1, d2, d3, d4⟩
theorem D.burn_b (d : D) : d.burn.b = d.b := by unfold D.burn; split <;> rfl
theorem D.burn_q (d : D) : d.burn.q = d.q := by unfold D.burn; split <;> rfl
theorem D.burn_sy (d : D) : d.burn.sy = d.sy := by unfold D.burn; split <;> rfl

theorem free_ok (d : D) (hd : d.ok) (id : Nat) (h : Heap) (y : AV) (hid : h id = some (.obj (d.cells y) 75)) (hb : By h y d.b) :
    FnOK Try.prog 33 [.ptr id 0] h fun r h' => r = .v (.int .i64 (d.q - d.b.length : Nat)) ∧ h' = h := by
  obtain ⟨q, b, sy, f, off⟩ := d
  obtain ⟨d1, d2, d3, d4⟩ := hd
  simp only at d1 d2 d3 d4 hb
  simp only [D.cells] at hid
  refine FnOK.body hU hm Try.func33 rfl (by kernel_rfl) 13 rfl [.tmp 2] rfl (Nat.le_of_ble_eq_true rfl) (fun hwf => ?_)
  have w1 : IntKind.i64.wrap ((q : Int) - b.length) = ((q - b.length : Nat) : Int) := by rw [IntWalk.i64_in _ (by omega)]; omega
  simp -implicitDefEqProofs only [go_sem, ↓reduceIte, Nat.reduceLT, Nat.reduceEqDiff, Nat.reduceAdd, Nat.reduceLeDiff, Nat.reduceMul, Nat.reduceSub, hid, hb.len, w1]
  exact ⟨.of (by kernel_rfl), .same (.refl _) ⟨rfl, rfl⟩⟩

theorem len_ok (d : D) (id : Nat) (h : Heap) (y : AV) (hid : h id = some (.obj (d.cells y) 75)) (hb : By h y d.b) :
    FnOK Try.prog 24 [.ptr id 0] h fun r h' => r = .v (.int .i64 d.b.length) ∧ h' = h := by
  simp only [D.cells] at hid
  refine FnOK.body hU hm Try.func24 rfl (by kernel_rfl) 8 rfl [.tmp 2] rfl (Nat.le_of_ble_eq_true rfl) (fun hwf => ?_)
  simp -implicitDefEqProofs only [go_sem, ↓reduceIte, Nat.reduceLT, Nat.reduceEqDiff, Nat.reduceAdd, Nat.reduceLeDiff, Nat.reduceMul, Nat.reduceSub, hid, hb.len]
  exact .same (.refl _) ⟨rfl, rfl⟩

theorem off_ok (d : D) (id : Nat) (h : Heap) (y : AV) (hid : h id = some (.obj (d.cells y) 75)) :
    FnOK Try.prog 23 [.ptr id 0] h fun r h' => r = .v (.bool d.off) ∧ h' = h := by
  simp only [D.cells] at hid
  refine FnOK.body hU hm Try.func23 rfl (by kernel_rfl) 7 rfl [.tmp 2] rfl (Nat.le_of_ble_eq_true rfl) (fun hwf => ?_)
  simp -implicitDefEqProofs only [go_sem, ↓reduceIte, Nat.reduceLT, Nat.reduceEqDiff, Nat.reduceAdd, Nat.reduceLeDiff, Nat.reduceMul, Nat.reduceSub, hid]
  exact .same (.refl _) ⟨rfl, rfl⟩

theorem read_ok (d : D) (hd : d.ok) (id : Nat) (h : Heap) (y : AV) (hid : h id = some (.obj (d.cells y) 75)) (hb : By h y d.b) :
    FnOK Try.prog 20 [.ptr id 0] h fun r h' => r = .sl (d.b.map byteA) .no ∧ h' = h := by
  obtain ⟨d1, d2, d3, d4⟩ := hd
  simp only [D.cells] at hid
  refine FnOK.body hU hm Try.func20 rfl (by kernel_rfl) 8 rfl [.tmp 2] rfl (Nat.le_of_ble_eq_true rfl) (fun hwf => ?_)
  simp -implicitDefEqProofs only [go_sem, ↓reduceIte, Nat.reduceLT, Nat.reduceEqDiff, Nat.reduceAdd, Nat.reduceLeDiff, Nat.reduceMul, Nat.reduceSub, hid]
  refine (clone_sl y d.b h hb (by omega)).mono fun r h' ⟨e1, e2⟩ => ?_
  subst e1; subst e2
  simp -implicitDefEqProofs only [go_sem, ↓reduceIte, Nat.reduceLT, Nat.reduceEqDiff, Nat.reduceAdd, Nat.reduceLeDiff, Nat.reduceMul, Nat.reduceSub]
  exact .same (.refl _) ⟨rfl, rfl⟩

theorem arm_ok (d : D) (n : Int) (id : Nat) (h : Heap) (y : AV) (hid : h id = some (.obj (d.cells y) 75)) :
    FnOK Try.prog 22 [.ptr id 0, .v (.int .i64 n)] h fun r h' => h' = upd h id (some (.obj (({ d with f := n.toNat } : D).cells y) 75)) := by
  simp only [D.cells] at hid
  refine FnOK.body hU hm Try.func22 rfl (by kernel_rfl) 9 rfl [] rfl (Nat.le_of_ble_eq_true rfl) (fun hwf => ?_)
  simp -implicitDefEqProofs only [go_sem, ↓reduceIte, Nat.reduceLT, Nat.reduceEqDiff, Nat.reduceAdd, Nat.reduceLeDiff, Nat.reduceMul, Nat.reduceSub, hid]
  refine .same (.refl _) ?_
  have : (if n < 0 then (0 : Int) else n) = (n.toNat : Int) := by split <;> omega
  simp only [D.cells, this]
end Go.Proofs.Ytidpcjblciompaa

/- The disk: Append, Sync, Cut. -/
set_option linter.unusedSimpArgs false
set_option linter.unusedVariables false
namespace Go.Proofs.Ytidpcjblciompaa
open Go Go.Ab

def D.append (d : D) (b : List UInt8) : D × Nat :=
  if d.off then (d, 9) else if d.q < d.b.length + b.length then (d, 8) else
    let e := D.burn { d with b := d.b ++ b }
    (e, if e.off then 9 else 0)
def D.sync (d : D) : D × Nat :=
  if d.off then (d, 9) else if d.burn.off then (d.burn, 9) else ({ d.burn with sy := d.b.length }, 0)
def D.cut (d : D) (n : Int) : D × Nat :=
  if d.off then (d, 9) else if n < 0 ∨ (d.b.length : Int) < n then (d, 1) else
    if d.burn.off then (d.burn, 9) else ({ d.burn with b := d.b.take n.toNat, sy := min d.sy n.toNat }, 0)

theorem D.append_ok {d : D} (hd : d.ok) (b : List UInt8) : (d.append b).1.ok := by
  unfold D.append
  split
  · exact hd
  · split
    · exact hd
    · refine D.burn_ok ⟨?_, hd.2.1, ?_, hd.2.2.2⟩
      · show (d.b ++ b).length ≤ d.q
        rw [List.length_append]; omega
      · have := hd.2.2.1
        show d.sy ≤ (d.b ++ b).length
        rw [List.length_append]; omega
theorem D.sync_ok {d : D} (hd : d.ok) : d.sync.1.ok := by
  have hb := D.burn_ok hd
  unfold D.sync
  split
  · exact hd
  · split
    · exact hb
    · obtain ⟨d1, d2, d3, d4⟩ := hb
      refine ⟨d1, d2, ?_, d4⟩
      show d.b.length ≤ d.burn.b.length
      rw [D.burn_b]; exact Nat.le_refl _
theorem D.cut_ok {d : D} (hd : d.ok) (n : Int) : (d.cut n).1.ok := by
  have hb := D.burn_ok hd
  unfold D.cut
  split
  · exact hd
  · split
    · exact hd
    · split
      · exact hb
      · obtain ⟨d1, d2, d3, d4⟩ := hb
        obtain ⟨e1, e2, e3, e4⟩ := hd
        rw [D.burn_q] at d2
        refine ⟨?_, ?_, ?_, d4⟩
        · show (d.b.take n.toNat).length ≤ d.burn.q
          rw [D.burn_q, List.length_take]; omega
        · show d.burn.q ≤ _
          rw [D.burn_q]; exact d2
        · show min d.sy n.toNat ≤ (d.b.take n.toNat).length
          rw [List.length_take]; omega

theorem append_ok (d : D) (hd : d.ok) (id : Nat) (h : Heap) (x : AV) (b : List UInt8) (hdk : DiskAt h id d) (hx : By h x b) (hl : b.length ≤ 1000000000) :
    FnOK Try.prog 16 [.ptr id 0, x] h fun r h' => r = .v (.int .i64 (d.append b).2) ∧ DiskAt h' id (d.append b).1 ∧ Keep id h h' := by
  obtain ⟨y, hid0, hb⟩ := hdk
  have hid := hid0
  simp only [D.cells] at hid
  have hok := hd
  obtain ⟨d1, d2, d3, d4⟩ := hd
  refine FnOK.body hU hm Try.func16 rfl (by kernel_rfl) 26 rfl [.tmp 4] rfl (Nat.le_of_ble_eq_true rfl) (fun hwf => ?_)
  simp -implicitDefEqProofs only [go_sem, ↓reduceIte, Nat.reduceLT, Nat.reduceEqDiff, Nat.reduceAdd, Nat.reduceLeDiff, Nat.reduceMul, Nat.reduceSub, hid]
  refine .intro (fun e => ?_) (fun e => ?_)
  · simp -implicitDefEqProofs only [go_sem, ↓reduceIte, Nat.reduceLT, Nat.reduceEqDiff, Nat.reduceAdd, Nat.reduceLeDiff, Nat.reduceMul, Nat.reduceSub]
    refine .same (.refl _) ?_
    simp only [D.append, e, if_true, oneOr]
    exact ⟨rfl, ⟨y, hid0, hb⟩, .refl _ _⟩
  · simp -implicitDefEqProofs only [go_sem, ↓reduceIte, Nat.reduceLT, Nat.reduceEqDiff, Nat.reduceAdd, Nat.reduceLeDiff, Nat.reduceMul, Nat.reduceSub, hid, hx.len]
    refine (free_ok d hok id h y hid0 hb).mono fun r h' ⟨e1, e2⟩ => ?_
    subst e1; subst e2
    simp -implicitDefEqProofs only [go_sem, ↓reduceIte, Nat.reduceLT, Nat.reduceEqDiff, Nat.reduceAdd, Nat.reduceLeDiff, Nat.reduceMul, Nat.reduceSub]
    refine .intro (fun e2 => ?_) (fun e2 => ?_)
    · have e2 := of_decide_eq_true e2
      simp -implicitDefEqProofs only [go_sem, ↓reduceIte, Nat.reduceLT, Nat.reduceEqDiff, Nat.reduceAdd, Nat.reduceLeDiff, Nat.reduceMul, Nat.reduceSub]
      refine .same (.refl _) ?_
      simp only [D.append, e, if_pos (show d.q < d.b.length + b.length by omega), oneOr]
      exact ⟨rfl, ⟨y, hid0, hb⟩, .refl _ _⟩
    · have e2 := of_decide_eq_false e2
      have hno : ¬ d.q < d.b.length + b.length := by omega
      simp -implicitDefEqProofs only [go_sem, ↓reduceIte, Nat.reduceLT, Nat.reduceEqDiff, Nat.reduceAdd, Nat.reduceLeDiff, Nat.reduceMul, Nat.reduceSub, hid, hb.fit, hx.fit]
      refine (concat_ok [y, x] [d.b, b] .full h' (.cons hb (.cons hx .nil)) ?_ (by simp)).mono fun r h1 ⟨e1, hs⟩ => ?_
      · simp only [List.flatten_cons, List.flatten_nil, List.append_nil, List.length_append]; omega
      · subst e1
        have hid1 := hs _ _ hid
        simp -implicitDefEqProofs only [go_sem, ↓reduceIte, Nat.reduceLT, Nat.reduceEqDiff, Nat.reduceAdd, Nat.reduceLeDiff, Nat.reduceMul, Nat.reduceSub, hid1]
        have hok2 : D.ok { d with b := d.b ++ b } := ⟨by show (d.b ++ b).length ≤ d.q; rw [List.length_append]; omega, d2, by show d.sy ≤ (d.b ++ b).length; rw [List.length_append]; omega, d4⟩
        refine (burn_ok { d with b := d.b ++ b } hok2 id _ (.sl ((d.b ++ b).map byteA) .no) ?_).mono fun r h2 ⟨e1, e2⟩ => ?_
        · rw [upd_same]
          simp only [D.cells, List.flatten_cons, List.flatten_nil, List.append_nil]
        · subst e1; subst e2
          have hk : Keep id h' (upd (upd h1 id (some (.obj (d.cells (.sl ((d.b ++ b).map byteA) .no)) 75))) id (some (.obj ((D.burn { d with b := d.b ++ b }).cells (.sl ((d.b ++ b).map byteA) .no)) 75))) :=
            (hs.keep id).trans ((Keep.upd id _).trans (Keep.upd id _))
          have hA : d.append b = (D.burn { d with b := d.b ++ b }, if (D.burn { d with b := d.b ++ b }).off then 9 else 0) := by
            unfold D.append
            rw [if_neg (by simp [e]), if_neg hno]
          simp -implicitDefEqProofs only [go_sem, ↓reduceIte, Nat.reduceLT, Nat.reduceEqDiff, Nat.reduceAdd, Nat.reduceLeDiff, Nat.reduceMul, Nat.reduceSub]
          refine .intro (fun e3 => ?_) (fun e3 => ?_)
          · simp -implicitDefEqProofs only [go_sem, ↓reduceIte, Nat.reduceLT, Nat.reduceEqDiff, Nat.reduceAdd, Nat.reduceLeDiff, Nat.reduceMul, Nat.reduceSub]
            refine .same (.refl _) ?_
            rw [hA, if_pos e3]
            refine ⟨rfl, ⟨_, upd_same .., ?_⟩, fun j k hj hk2 => ?_⟩
            · simp only [D.burn_b]; exact .sl _ _
            · rw [upd_other _ _ hj]; exact hs _ _ hk2
          · simp -implicitDefEqProofs only [go_sem, ↓reduceIte, Nat.reduceLT, Nat.reduceEqDiff, Nat.reduceAdd, Nat.reduceLeDiff, Nat.reduceMul, Nat.reduceSub]
            refine .same (.refl _) ?_
            rw [hA, if_neg (by simp [e3])]
            refine ⟨rfl, ⟨_, upd_same .., ?_⟩, fun j k hj hk2 => ?_⟩
            · simp only [D.burn_b]; exact .sl _ _
            · rw [upd_other _ _ hj]; exact hs _ _ hk2

theorem sync_ok (d : D) (hd : d.ok) (id : Nat) (h : Heap) (hdk : DiskAt h id d) :
    FnOK Try.prog 17 [.ptr id 0] h fun r h' => r = .v (.int .i64 d.sync.2) ∧ DiskAt h' id d.sync.1 ∧ Keep id h h' := by
  obtain ⟨y, hid0, hb⟩ := hdk
  have hid := hid0
  simp only [D.cells] at hid
  refine FnOK.body hU hm Try.func17 rfl (by kernel_rfl) 19 rfl [.tmp 2] rfl (Nat.le_of_ble_eq_true rfl) (fun hwf => ?_)
  simp -implicitDefEqProofs only [go_sem, ↓reduceIte, Nat.reduceLT, Nat.reduceEqDiff, Nat.reduceAdd, Nat.reduceLeDiff, Nat.reduceMul, Nat.reduceSub, hid]
  refine .intro (fun e => ?_) (fun e => ?_)
  · simp -implicitDefEqProofs only [go_sem, ↓reduceIte, Nat.reduceLT, Nat.reduceEqDiff, Nat.reduceAdd, Nat.reduceLeDiff, Nat.reduceMul, Nat.reduceSub, e]
    refine .same (.refl _) ?_
    simp only [D.sync, e, if_true, oneOr]
    exact ⟨rfl, ⟨y, hid0, hb⟩, .refl _ _⟩
  · simp -implicitDefEqProofs only [go_sem, ↓reduceIte, Nat.reduceLT, Nat.reduceEqDiff, Nat.reduceAdd, Nat.reduceLeDiff, Nat.reduceMul, Nat.reduceSub, e]
    refine (burn_ok d hd id h y hid0).mono fun r h1 ⟨e1, e2⟩ => ?_
    subst e1; subst e2
    simp -implicitDefEqProofs only [go_sem, ↓reduceIte, Nat.reduceLT, Nat.reduceEqDiff, Nat.reduceAdd, Nat.reduceLeDiff, Nat.reduceMul, Nat.reduceSub]
    refine .intro (fun e3 => ?_) (fun e3 => ?_)
    · simp -implicitDefEqProofs only [go_sem, ↓reduceIte, Nat.reduceLT, Nat.reduceEqDiff, Nat.reduceAdd, Nat.reduceLeDiff, Nat.reduceMul, Nat.reduceSub]
      refine .same (.refl _) ?_
      rw [show d.sync = (d.burn, 9) by unfold D.sync; rw [if_neg (by simp [e]), if_pos e3]]
      exact ⟨rfl, ⟨_, upd_same .., by rw [D.burn_b]; exact hb.set hid⟩, Keep.upd id _⟩
    · simp only [D.cells]
      simp -implicitDefEqProofs only [go_sem, ↓reduceIte, Nat.reduceLT, Nat.reduceEqDiff, Nat.reduceAdd, Nat.reduceLeDiff, Nat.reduceMul, Nat.reduceSub, hb.len]
      refine .same (.refl _) ?_
      rw [show d.sync = ({ d.burn with sy := d.b.length }, 0) by unfold D.sync; rw [if_neg (by simp [e]), if_neg (by simp [e3])]]
      exact ⟨rfl, ⟨_, upd_same .., by show By _ _ d.burn.b; rw [D.burn_b]; exact hb.set hid⟩, Keep.upd id _⟩

theorem cut_ok (d : D) (hd : d.ok) (id : Nat) (h : Heap) (n : Int) (hdk : DiskAt h id d) :
    FnOK Try.prog 32 [.ptr id 0, .v (.int .i64 n)] h fun r h' => r = .v (.int .i64 (d.cut n).2) ∧ DiskAt h' id (d.cut n).1 ∧ Keep id h h' := by
  obtain ⟨y, hid0, hb⟩ := hdk
  have hid := hid0
  simp only [D.cells] at hid
  have hok := hd
  obtain ⟨d1, d2, d3, d4⟩ := hd
  refine FnOK.body hU hm Try.func32 rfl (by kernel_rfl) 41 rfl [.tmp 4] rfl (Nat.le_of_ble_eq_true rfl) (fun hwf => ?_)
  simp -implicitDefEqProofs only [go_sem, ↓reduceIte, Nat.reduceLT, Nat.reduceEqDiff, Nat.reduceAdd, Nat.reduceLeDiff, Nat.reduceMul, Nat.reduceSub, hid]
  refine .intro (fun e => ?_) (fun e => ?_)
  · simp -implicitDefEqProofs only [go_sem, ↓reduceIte, Nat.reduceLT, Nat.reduceEqDiff, Nat.reduceAdd, Nat.reduceLeDiff, Nat.reduceMul, Nat.reduceSub]
    refine .same (.refl _) ?_
    simp only [D.cut, e, if_true, oneOr]
    exact ⟨rfl, ⟨y, hid0, hb⟩, .refl _ _⟩
  · simp -implicitDefEqProofs only [go_sem, ↓reduceIte, Nat.reduceLT, Nat.reduceEqDiff, Nat.reduceAdd, Nat.reduceLeDiff, Nat.reduceMul, Nat.reduceSub, hid]
    have bad : (n < 0 ∨ (d.b.length : Int) < n) → RetOK [.v (.int .i64 1)] h fun r h' => r = .v (.int .i64 (d.cut n).2) ∧ DiskAt h' id (d.cut n).1 ∧ Keep id h h' := fun hbad => by
      refine .same (.refl _) ?_
      simp only [D.cut, e, if_pos hbad, oneOr]
      exact ⟨rfl, ⟨y, hid0, hb⟩, .refl _ _⟩
    refine .intro (fun e2 => ?_) (fun e2 => ?_)
    · have e2' := of_decide_eq_true e2
      simp -implicitDefEqProofs only [go_sem, ↓reduceIte, Nat.reduceLT, Nat.reduceEqDiff, Nat.reduceAdd, Nat.reduceLeDiff, Nat.reduceMul, Nat.reduceSub, e2]
      exact bad (.inl e2')
    · have e2' := of_decide_eq_false e2
      simp -implicitDefEqProofs only [go_sem, ↓reduceIte, Nat.reduceLT, Nat.reduceEqDiff, Nat.reduceAdd, Nat.reduceLeDiff, Nat.reduceMul, Nat.reduceSub, e2, hid, hb.len]
      refine .intro (fun e3 => ?_) (fun e3 => ?_)
      · have e3' := of_decide_eq_true e3
        simp -implicitDefEqProofs only [go_sem, ↓reduceIte, Nat.reduceLT, Nat.reduceEqDiff, Nat.reduceAdd, Nat.reduceLeDiff, Nat.reduceMul, Nat.reduceSub]
        exact bad (.inr e3')
      · have e3' := of_decide_eq_false e3
        have hno : ¬ (n < 0 ∨ (d.b.length : Int) < n) := by omega
        simp -implicitDefEqProofs only [go_sem, ↓reduceIte, Nat.reduceLT, Nat.reduceEqDiff, Nat.reduceAdd, Nat.reduceLeDiff, Nat.reduceMul, Nat.reduceSub]
        refine (burn_ok d hok id h y hid0).mono fun r h1 ⟨e1, e2⟩ => ?_
        subst e1; subst e2
        simp -implicitDefEqProofs only [go_sem, ↓reduceIte, Nat.reduceLT, Nat.reduceEqDiff, Nat.reduceAdd, Nat.reduceLeDiff, Nat.reduceMul, Nat.reduceSub]
        refine .intro (fun e4 => ?_) (fun e4 => ?_)
        · simp -implicitDefEqProofs only [go_sem, ↓reduceIte, Nat.reduceLT, Nat.reduceEqDiff, Nat.reduceAdd, Nat.reduceLeDiff, Nat.reduceMul, Nat.reduceSub]
          refine .same (.refl _) ?_
          rw [show d.cut n = (d.burn, 9) by unfold D.cut; rw [if_neg (by simp [e]), if_neg hno, if_pos e4]]
          exact ⟨rfl, ⟨_, upd_same .., by rw [D.burn_b]; exact hb.set hid⟩, Keep.upd id _⟩
        · have hb1 : By (upd h id (some (.obj (d.burn.cells y) 75))) y d.b := hb.set hid
          simp only [D.cells] at hb1 ⊢
          simp -implicitDefEqProofs only [go_sem, ↓reduceIte, Nat.reduceLT, Nat.reduceEqDiff, Nat.reduceAdd, Nat.reduceLeDiff, Nat.reduceMul, Nat.reduceSub]
          refine hb1.take (m := n) (x := .i64) n.toNat ?_ (by omega) (by omega) u5 fun z hz => ?_
          · simp -implicitDefEqProofs only [go_sem, ↓reduceIte, Nat.reduceLT, Nat.reduceEqDiff, Nat.reduceAdd, Nat.reduceLeDiff, Nat.reduceMul, Nat.reduceSub]
          · simp -implicitDefEqProofs only [go_sem, ↓reduceIte, Nat.reduceLT, Nat.reduceEqDiff, Nat.reduceAdd, Nat.reduceLeDiff, Nat.reduceMul, Nat.reduceSub]
            refine (clone_sl z _ _ hz (by rw [List.length_take]; omega)).mono fun r h1 ⟨e1, e2⟩ => ?_
            subst e1; subst e2
            simp -implicitDefEqProofs only [go_sem, ↓reduceIte, Nat.reduceLT, Nat.reduceEqDiff, Nat.reduceAdd, Nat.reduceLeDiff, Nat.reduceMul, Nat.reduceSub]
            refine .same (.refl _) ?_
            rw [show d.cut n = ({ d.burn with b := d.b.take n.toNat, sy := min d.sy n.toNat }, 0) by unfold D.cut; rw [if_neg (by simp [e]), if_neg hno, if_neg (by simp [e4])]]
            refine ⟨rfl, ⟨.sl ((d.b.take n.toNat).map byteA) .no, ?_, .sl _ _⟩, Keep.upd id _⟩
            simp only [upd_same, D.cells, D.burn_sy]
            have : (if n < (d.sy : Int) then n else (d.sy : Int)) = ((min d.sy n.toNat : Nat) : Int) := by split <;> omega
            rw [this]
end Go.Proofs.Ytidpcjblciompaa

/- The disk: Boot. -/
set_option linter.unusedSimpArgs false
set_option linter.unusedVariables false
namespace Go.Proofs.Ytidpcjblciompaa
open Go Go.Ab

def D.left (d : D) (keep : Int) : Nat := d.sy + min keep.toNat (d.b.length - d.sy)
def D.bad (d : D) (keep torn : Int) : Nat := min torn.toNat (d.left keep - d.sy)
def flipTail (l : List UInt8) (i : Nat) : List UInt8 := l.take i ++ (l.drop i).map (~~~ ·)
def D.boot (d : D) (keep torn : Int) : D := { d with b := flipTail (d.b.take (d.left keep)) (d.left keep - d.bad keep torn), sy := d.left keep, f := 0, off := false }

theorem D.left_le {d : D} (hd : d.ok) (keep : Int) : d.sy ≤ d.left keep ∧ d.left keep ≤ d.b.length := by
  obtain ⟨d1, d2, d3, d4⟩ := hd
  unfold D.left; omega
theorem flipTail_length (l : List UInt8) (i : Nat) : (flipTail l i).length = l.length := by simp [flipTail]; omega
theorem D.boot_ok {d : D} (hd : d.ok) (keep torn : Int) : (d.boot keep torn).ok := by
  obtain ⟨d1, d2, d3, d4⟩ := hd
  obtain ⟨l1, l2⟩ := D.left_le ⟨d1, d2, d3, d4⟩ keep
  refine ⟨?_, d2, ?_, by show (0 : Nat) < _; decide⟩
  · show (flipTail _ _).length ≤ d.q
    rw [flipTail_length, List.length_take]; omega
  · show d.left keep ≤ (flipTail _ _).length
    rw [flipTail_length, List.length_take]; omega

theorem flip_byte (c : UInt8) : IntKind.u8.wrap ((BitVec.ofInt IntKind.u8.bits (if IntKind.u8.signed = true then -1 else IntKind.u8.max) ^^^ BitVec.ofInt IntKind.u8.bits (c.toNat : Int)).toNat) = ((~~~ c).toNat : Int) := by
  revert c
  have : ∀ i : Fin 256, IntKind.u8.wrap ((BitVec.ofInt IntKind.u8.bits (if IntKind.u8.signed = true then -1 else IntKind.u8.max) ^^^ BitVec.ofInt IntKind.u8.bits ((UInt8.ofNat i).toNat : Int)).toNat) = ((~~~ (UInt8.ofNat i)).toNat : Int) := by decide +kernel
  intro c
  have h := this ⟨c.toNat, c.toNat_lt⟩
  simpa using h

theorem unA_xor8 (c : UInt8) (k : AV → Prop) : unA .xor (.v (.int .u8 (c.toNat : Int))) k = k (.v (.int .u8 ((~~~ c).toNat : Int))) := by
  rw [unA_xor, flip_byte]
theorem upd_swap {α : Type} {f : Nat → α} {i j : Nat} (hij : ¬ i = j) (a b c : α) : upd (upd (upd f i a) j b) i c = upd (upd f i c) j b := by
  funext k
  simp only [upd]
  by_cases h1 : k = i
  · subst h1; simp [hij]
  · simp [h1]

theorem boot_ok (d : D) (hd : d.ok) (id : Nat) (h : Heap) (keep torn : Int) (hdk : DiskAt h id d) :
    FnOK Try.prog 18 [.ptr id 0, .v (.int .i64 keep), .v (.int .i64 torn)] h fun _ h' => DiskAt h' id (d.boot keep torn) ∧ Keep id h h' := by
  obtain ⟨y, hid0, hb⟩ := hdk
  have hid := hid0
  simp only [D.cells] at hid
  obtain ⟨d1, d2, d3, d4⟩ := hd
  obtain ⟨l1, l2⟩ := D.left_le ⟨d1, d2, d3, d4⟩ keep
  have w1 : IntKind.i64.wrap ((d.b.length : Int) - d.sy) = ((d.b.length - d.sy : Nat) : Int) := by rw [IntWalk.i64_in _ (by omega)]; omega
  have m1 : (if keep < 0 then (0 : Int) else keep) = (keep.toNat : Int) := by split <;> omega
  have m2 : (if (((d.b.length - d.sy : Nat) : Int)) < (keep.toNat : Int) then (((d.b.length - d.sy : Nat) : Int)) else (keep.toNat : Int)) = ((min keep.toNat (d.b.length - d.sy) : Nat) : Int) := by split <;> omega
  have w2 : IntKind.i64.wrap ((d.sy : Int) + ((min keep.toNat (d.b.length - d.sy) : Nat) : Int)) = (d.left keep : Int) := by unfold D.left at *; rw [IntWalk.i64_in _ (by omega)]; omega
  have w3 : IntKind.i64.wrap ((d.left keep : Int) - d.sy) = ((d.left keep - d.sy : Nat) : Int) := by rw [IntWalk.i64_in _ (by omega)]; omega
  have m3 : (if torn < 0 then (0 : Int) else torn) = (torn.toNat : Int) := by split <;> omega
  have m4 : (if (((d.left keep - d.sy : Nat) : Int)) < (torn.toNat : Int) then (((d.left keep - d.sy : Nat) : Int)) else (torn.toNat : Int)) = (d.bad keep torn : Int) := by unfold D.bad; split <;> omega
  have hbad : d.bad keep torn ≤ d.left keep := by unfold D.bad; omega
  have w4 : IntKind.i64.wrap ((d.left keep : Int) - (d.bad keep torn : Int)) = ((d.left keep - d.bad keep torn : Nat) : Int) := by rw [IntWalk.i64_in _ (by omega)]; omega
  refine FnOK.body hU hm Try.func18 rfl (by kernel_rfl) 78 rfl [] rfl (Nat.le_of_ble_eq_true rfl) (fun hwf => ?_)
  simp -implicitDefEqProofs only [go_sem, ↓reduceIte, Nat.reduceLT, Nat.reduceEqDiff, Nat.reduceAdd, Nat.reduceLeDiff, Nat.reduceMul, Nat.reduceSub, hid, hb.len, w1, m1, m2, w2]
  refine ⟨.of (by kernel_rfl), ?_⟩
  simp -implicitDefEqProofs only [go_sem, ↓reduceIte, Nat.reduceLT, Nat.reduceEqDiff, Nat.reduceAdd, Nat.reduceLeDiff, Nat.reduceMul, Nat.reduceSub, hid, w3, m3, m4]
  refine hb.take (m := d.left keep) (x := .i64) (d.left keep) ?_ rfl l2 u5 fun z hz => ?_
  · simp -implicitDefEqProofs only [go_sem, ↓reduceIte, Nat.reduceLT, Nat.reduceEqDiff, Nat.reduceAdd, Nat.reduceLeDiff, Nat.reduceMul, Nat.reduceSub]
  · simp -implicitDefEqProofs only [go_sem, ↓reduceIte, Nat.reduceLT, Nat.reduceEqDiff, Nat.reduceAdd, Nat.reduceLeDiff, Nat.reduceMul, Nat.reduceSub]
    have hlen : (d.b.take (d.left keep)).length = d.left keep := by rw [List.length_take]; omega
    refine (clone_oa z _ _ hz (by omega)).mono fun r h1 hr => ?_
    rcases hr with ⟨hl0, rfl, rfl⟩ | ⟨hl0, id2, m, hid2, rfl, rfl⟩
    · have hl00 : d.left keep = 0 := by rw [hl0] at hlen; simpa using hlen.symm
      have hb0 : d.bad keep torn = 0 := by omega
      have hf : d.boot keep torn = ⟨d.q, [], 0, 0, false⟩ := by
        unfold D.boot
        rw [hl0, hl00]
        simp [flipTail]
      simp -implicitDefEqProofs only [go_sem, ↓reduceIte, Nat.reduceLT, Nat.reduceEqDiff, Nat.reduceAdd, Nat.reduceLeDiff, Nat.reduceMul, Nat.reduceSub, hid, w4]
      refine .intro (fun m ρ h' => h' = upd h1 id (some (.obj [.v (.int .i64 d.q), .sl [] .no, .v (.int .i64 d.sy), .v (.int .i64 d.f), .v (.bool d.off)] 75)) ∧ lk ρ 0 = some (.ptr id 0) ∧ lk ρ 6 = some (.v (.int .i64 0)) ∧ lk ρ 8 = some (.v (.int .i64 0))) 0 ?_ ?_
      · refine ⟨rfl, ?_, ?_, ?_⟩ <;> simp -implicitDefEqProofs only [go_sem, ↓reduceIte, Nat.reduceLT, Nat.reduceEqDiff, Nat.reduceAdd, Nat.reduceLeDiff, Nat.reduceMul, Nat.reduceSub]
        · rw [hl00]; rfl
        · rw [hl00, hb0]; rfl
      · rintro m ρ h' ⟨rfl, r0, r6, r8⟩
        simp -implicitDefEqProofs only [go_sem, ↓reduceIte, Nat.reduceLT, Nat.reduceEqDiff, Nat.reduceAdd, Nat.reduceLeDiff, Nat.reduceMul, Nat.reduceSub, r0, r6, r8]
        refine .no (by decide) ?_
        simp -implicitDefEqProofs only [go_sem, ↓reduceIte, Nat.reduceLT, Nat.reduceEqDiff, Nat.reduceAdd, Nat.reduceLeDiff, Nat.reduceMul, Nat.reduceSub, r0, r6, r8]
        refine .same (.refl _) ⟨⟨.sl [] .no, ?_, ?_⟩, Keep.upd id _⟩
        · rw [upd_same, hf]; rfl
        · rw [hf]; exact .nil _
    · have hne : ¬ id = id2 := fun e => by subst e; rw [hid] at hid2; cases hid2
      have hne' : ¬ id2 = id := fun e => hne e.symm
      simp -implicitDefEqProofs only [go_sem, ↓reduceIte, Nat.reduceLT, Nat.reduceEqDiff, Nat.reduceAdd, Nat.reduceLeDiff, Nat.reduceMul, Nat.reduceSub, hid, hne, w4]
      generalize hL : d.b.take (d.left keep) = L at *
      generalize hs : d.left keep - d.bad keep torn = s at *
      rw [hlen]
      refine .intro (fun k ρ h' => ∃ (i : Nat) (cs : List AV), k = d.left keep - i ∧ s ≤ i ∧ i ≤ d.left keep ∧ cs.length = d.left keep + m ∧ (∀ j (hj : j < L.length), cs[j]? = some (byteA (if s ≤ j ∧ j < i then ~~~ L[j] else L[j]))) ∧
        h' = upd (upd h id2 (some (.obj cs 5))) id (some (.obj [.v (.int .i64 d.q), .oa id2 0 (d.left keep), .v (.int .i64 d.sy), .v (.int .i64 d.f), .v (.bool d.off)] 75)) ∧ lk ρ 0 = some (.ptr id 0) ∧ lk ρ 6 = some (.v (.int .i64 (d.left keep : Nat))) ∧ lk ρ 8 = some (.v (.int .i64 (i : Nat)))) (d.left keep - s) ?_ ?_
      · refine ⟨s, _, rfl, Nat.le_refl _, by omega, ?_, fun j hj => ?_, rfl, ?_, ?_, ?_⟩
        · simp [hlen]
        · rw [List.getElem?_append_left (by simpa using hj), List.getElem?_map, List.getElem?_eq_getElem hj, if_neg (by omega)]; rfl
        all_goals simp -implicitDefEqProofs only [go_sem, ↓reduceIte, Nat.reduceLT, Nat.reduceEqDiff, Nat.reduceAdd, Nat.reduceLeDiff, Nat.reduceMul, Nat.reduceSub]
      · rintro k ρ h' ⟨i, cs, rfl, hi1, hi2, hcl, hcs, rfl, r0, r6, r8⟩
        simp -implicitDefEqProofs only [go_sem, ↓reduceIte, Nat.reduceLT, Nat.reduceEqDiff, Nat.reduceAdd, Nat.reduceLeDiff, Nat.reduceMul, Nat.reduceSub, r0, r6, r8]
        refine .intro (fun e => ?_) (fun e => ?_)
        · have hlt : i < d.left keep := by simpa using e
          have c1 : ((0 : Int) ≤ (i : Int)) = True := eq_true (by omega)
          have c2 : ((i : Int) < ((d.left keep : Nat) : Int)) = True := eq_true (by omega)
          have c3 := hcs i (by omega)
          rw [if_neg (by omega)] at c3
          have c4 : (i + 1 ≤ cs.length) = True := eq_true (by omega)
          have w5 : IntKind.i64.wrap ((i : Int) + 1) = ((i + 1 : Nat) : Int) := by rw [IntWalk.i64_in _ (by omega)]; omega
          simp -implicitDefEqProofs only [go_sem, ↓reduceIte, Nat.reduceLT, Nat.reduceEqDiff, Nat.reduceAdd, Nat.reduceLeDiff, Nat.reduceMul, Nat.reduceSub, r0, r6, r8, hne, hne', c1, c2, c3, c4, Nat.mul_one, Int.toNat_natCast, ↓unA_xor8]
          refine ⟨.of (by kernel_rfl), ?_⟩
          simp -implicitDefEqProofs only [go_sem, ↓reduceIte, Nat.reduceLT, Nat.reduceEqDiff, Nat.reduceAdd, Nat.reduceLeDiff, Nat.reduceMul, Nat.reduceSub, r0, r6, r8, w5]
          refine ⟨d.left keep - (i + 1), by omega, i + 1, _, rfl, by omega, hlt, ?_, ?_, upd_swap hne' .., ?_, ?_, ?_⟩
          · simp; omega
          · intro j hj
            show _ = some (byteA (if s ≤ j ∧ j < i + 1 then ~~~ L[j] else L[j]))
            have hjc : j < cs.length := by omega
            have hold := hcs j hj
            by_cases hji : j = i
            · subst hji
              rw [if_pos ⟨hi1, by omega⟩]
              rw [List.append_assoc, List.getElem?_append_right (by simp; omega)]
              simp [show j ≤ cs.length by omega, byteA]
            · have hcond : (s ≤ j ∧ j < i + 1) ↔ (s ≤ j ∧ j < i) := by omega
              simp only [hcond]
              rw [← show cs[j]? = some (byteA (if s ≤ j ∧ j < i then ~~~ L[j] else L[j])) from hold]
              rcases Nat.lt_or_ge j i with hlt2 | hge2
              · rw [List.append_assoc, List.getElem?_append_left (by simp; omega), List.getElem?_take, if_pos (by omega)]
              · rw [List.getElem?_append_right (by simp; omega), List.getElem?_drop]
                congr 1
                simp; omega
          all_goals simp -implicitDefEqProofs only [go_sem, ↓reduceIte, Nat.reduceLT, Nat.reduceEqDiff, Nat.reduceAdd, Nat.reduceLeDiff, Nat.reduceMul, Nat.reduceSub, r0, r6, r8, w5]
        · have hge : i = d.left keep := by
            have : ¬ (i < d.left keep) := by simpa using e
            omega
          subst hge
          simp -implicitDefEqProofs only [go_sem, ↓reduceIte, Nat.reduceLT, Nat.reduceEqDiff, Nat.reduceAdd, Nat.reduceLeDiff, Nat.reduceMul, Nat.reduceSub, r0, r6, r8, hne, hne']
          refine .same (.refl _) ⟨⟨.oa id2 0 (d.left keep), ?_, ?_⟩, ?_⟩
          · rw [upd_same]
            rfl
          · have hbl : (d.boot keep torn).b = flipTail L s := by
              unfold D.boot
              rw [hL, hs]
            have hll : (flipTail L s).length = d.left keep := by rw [flipTail_length, hlen]
            rw [hbl, ← hll]
            refine .oa (cs := cs) ?_ (by omega) ?_
            · rw [upd_other _ _ hne', upd_same]
            · apply List.ext_getElem?
              intro j
              rw [List.drop_zero, List.getElem?_take, List.getElem?_map]
              by_cases hj : j < d.left keep
              · have hj2 : j < L.length := by omega
                have := hcs j hj2
                rw [if_pos (by omega), show cs[j]? = _ from this]
                unfold flipTail
                by_cases hsj : s ≤ j
                · rw [if_pos ⟨hsj, hj⟩, List.getElem?_append_right (by simp; omega)]
                  have : min s L.length = s := by omega
                  simp [this, hj2, show s + (j - s) = j by omega, byteA]
                · rw [if_neg (by omega), List.getElem?_append_left (by simp; omega), List.getElem?_take, if_pos (by omega), List.getElem?_eq_getElem hj2]; rfl
              · rw [if_neg (by omega), List.getElem?_eq_none (by omega)]; rfl
          · intro j k hj hk
            have h3 : ¬ j = id2 := fun e => by subst e; rw [hid2] at hk; cases hk
            rw [upd_other _ _ hj, upd_other _ _ h3]; exact hk
end Go.Proofs.Ytidpcjblciompaa

/- The law DiskRuns. -/
set_option linter.unusedSimpArgs false
set_option linter.unusedVariables false
namespace Go.Proofs.Ytidpcjblciompaa
open Go Go.Ab

theorem diskRuns_ok (h : Heap) : FnOK Try.prog 3 [] h fun r h' => r = .v (.bool true) ∧ Sub h h' := by
  refine FnOK.body hU hm Try.func3 rfl (by kernel_rfl) 48 rfl [.tmp 0] rfl (Nat.le_of_ble_eq_true rfl) (fun hwf => ?_)
  simp -implicitDefEqProofs only [go_sem, ↓reduceIte, Nat.reduceLT, Nat.reduceEqDiff, Nat.reduceAdd, Nat.reduceLeDiff, Nat.reduceMul, Nat.reduceSub]
  refine (new_ok 9 (by omega) h).mono fun r h1 ⟨id, hid, e1, hd0, hs0⟩ => ?_
  subst e1
  simp -implicitDefEqProofs only [go_sem, ↓reduceIte, Nat.reduceLT, Nat.reduceEqDiff, Nat.reduceAdd, Nat.reduceLeDiff, Nat.reduceMul, Nat.reduceSub, bne_self_eq_false]
  have k0 : D.ok ⟨9, [], 0, 0, false⟩ := ⟨by decide, by decide, by decide, by decide⟩
  refine (append_ok _ k0 id h1 _ [1, 2] hd0 (.inl ⟨.full, rfl⟩) (by decide)).mono fun r h2 ⟨e1, hd1, hs1⟩ => ?_
  have k1 := D.append_ok k0 [1, 2]
  have f1 : D.append ⟨9, [], 0, 0, false⟩ [1, 2] = (⟨9, [1, 2], 0, 0, false⟩, 0) := rfl
  rw [f1] at e1 hd1 k1
  subst e1
  simp -implicitDefEqProofs only [go_sem, ↓reduceIte, Nat.reduceLT, Nat.reduceEqDiff, Nat.reduceAdd, Nat.reduceLeDiff, Nat.reduceMul, Nat.reduceSub]
  refine (sync_ok _ k1 id h2 hd1).mono fun r h3 ⟨e1, hd2, hs2⟩ => ?_
  have k2 := D.sync_ok k1
  have f2 : D.sync ⟨9, [1, 2], 0, 0, false⟩ = (⟨9, [1, 2], 2, 0, false⟩, 0) := rfl
  simp only at e1 hd2 k2
  rw [f2] at e1 hd2 k2
  subst e1
  simp -implicitDefEqProofs only [go_sem, ↓reduceIte, Nat.reduceLT, Nat.reduceEqDiff, Nat.reduceAdd, Nat.reduceLeDiff, Nat.reduceMul, Nat.reduceSub]
  refine (append_ok _ k2 id h3 _ [3, 4, 5] hd2 (.inl ⟨.full, rfl⟩) (by decide)).mono fun r h4 ⟨e1, hd3, hs3⟩ => ?_
  have k3 := D.append_ok k2 [3, 4, 5]
  have f3 : D.append ⟨9, [1, 2], 2, 0, false⟩ [3, 4, 5] = (⟨9, [1, 2, 3, 4, 5], 2, 0, false⟩, 0) := rfl
  simp only at e1 hd3 k3
  rw [f3] at e1 hd3 k3
  subst e1
  simp -implicitDefEqProofs only [go_sem, ↓reduceIte, Nat.reduceLT, Nat.reduceEqDiff, Nat.reduceAdd, Nat.reduceLeDiff, Nat.reduceMul, Nat.reduceSub]
  refine (boot_ok _ k3 id h4 2 1 hd3).mono fun r h5 ⟨hd4, hs4⟩ => ?_
  have k4 := D.boot_ok k3 2 1
  have f4 : D.boot ⟨9, [1, 2, 3, 4, 5], 2, 0, false⟩ 2 1 = ⟨9, [1, 2, 3, 251], 4, 0, false⟩ := rfl
  simp only at hd4 k4
  rw [f4] at hd4 k4
  simp -implicitDefEqProofs only [go_sem, ↓reduceIte, Nat.reduceLT, Nat.reduceEqDiff, Nat.reduceAdd, Nat.reduceLeDiff, Nat.reduceMul, Nat.reduceSub, beq_self_eq_true, Int.natCast_zero, Int.ofNat_zero]
  obtain ⟨y, hy1, hy2⟩ := hd4
  refine (read_ok _ k4 id h5 y hy1 hy2).mono fun r h6 ⟨e1, e2⟩ => ?_
  subst e1; subst e2
  simp -implicitDefEqProofs only [go_sem, ↓reduceIte, Nat.reduceLT, Nat.reduceEqDiff, Nat.reduceAdd, Nat.reduceLeDiff, Nat.reduceMul, Nat.reduceSub]
  refine (same_ok _ _ [1, 2, 3, 251] [1, 2, 3, 251] h6 (.inl ⟨.no, rfl⟩) (.inl ⟨.full, rfl⟩) (by decide)).mono fun r h7 ⟨e1, e2⟩ => ?_
  rw [decide_eq_true rfl] at e1
  subst e1; subst e2
  simp -implicitDefEqProofs only [go_sem, ↓reduceIte, Nat.reduceLT, Nat.reduceEqDiff, Nat.reduceAdd, Nat.reduceLeDiff, Nat.reduceMul, Nat.reduceSub]
  refine ⟨by decide, by decide, by decide, fun id3 hid3 => ?_⟩
  simp -implicitDefEqProofs only [go_sem, ↓reduceIte, Nat.reduceLT, Nat.reduceEqDiff, Nat.reduceAdd, Nat.reduceLeDiff, Nat.reduceMul, Nat.reduceSub]
  have hne : id ≠ id3 := fun e => by subst e; rw [hy1] at hid3; cases hid3
  have hs6 : Sub h7 (upd h7 id3 (some (.obj (List.replicate 9 (byteA 0)) 5))) := Sub.upd_new hid3
  have hd5 : DiskAt (upd h7 id3 (some (.obj (List.replicate 9 (byteA 0)) 5))) id ⟨9, [1, 2, 3, 251], 4, 0, false⟩ := DiskAt.keep ⟨y, hy1, hy2⟩ hs6.keepObj
  refine (append_ok _ k4 id _ (.oa id3 0 9) (List.replicate 9 0) hd5 (.oa (l := List.replicate 9 0) (cs := List.replicate 9 (byteA 0)) (by rw [upd_same]) (by decide) rfl) (by decide)).mono fun r h8 ⟨e1, hd6, hs7⟩ => ?_
  have f5 : (D.append ⟨9, [1, 2, 3, 251], 4, 0, false⟩ (List.replicate 9 0)).2 = 8 := rfl
  rw [f5] at e1
  subst e1
  simp -implicitDefEqProofs only [go_sem, ↓reduceIte, Nat.reduceLT, Nat.reduceEqDiff, Nat.reduceAdd, Nat.reduceLeDiff, Nat.reduceMul, Nat.reduceSub]
  refine .same (.refl _) ⟨rfl, fun j k hj => ?_⟩
  have hji : j ≠ id := fun e => by subst e; rw [hid] at hj; cases hj
  exact hs7 _ _ hji (hs6 _ _ (hs4 _ _ hji (hs3 _ _ hji (hs2 _ _ hji (hs1 _ _ hji (hs0 _ _ hj))))))
end Go.Proofs.Ytidpcjblciompaa

/- The law DiskTwice. -/
set_option linter.unusedSimpArgs false
set_option linter.unusedVariables false
namespace Go.Proofs.Ytidpcjblciompaa
open Go Go.Ab

theorem D.append0 {d : D} {b : List UInt8} (h1 : d.off = false) (h2 : d.f = 0) (h3 : d.b.length + b.length ≤ d.q) : d.append b = ({ d with b := d.b ++ b }, 0) := by
  rcases d with ⟨q, b0, sy, f, off⟩
  simp only at h1 h2 h3
  subst h1; subst h2
  unfold D.append
  rw [if_neg (by simp), if_neg (by show ¬ q < b0.length + b.length; omega)]
  rfl
theorem D.sync0 {d : D} (h1 : d.off = false) (h2 : d.f = 0) : d.sync = ({ d with sy := d.b.length }, 0) := by
  unfold D.sync
  have : d.burn = d := by unfold D.burn; rw [if_neg (by omega)]
  rw [if_neg (by simp [h1]), this, if_neg (by simp [h1])]
theorem D.boot_twice (d : D) (hd : d.ok) (k t k2 t2 : Int) : (d.boot k t).boot k2 t2 = d.boot k t := by
  obtain ⟨l1, l2⟩ := D.left_le hd k
  have hb : (d.boot k t).b.length = d.left k := by
    show (flipTail _ _).length = _
    rw [flipTail_length, List.length_take]; omega
  have hl : (d.boot k t).left k2 = d.left k := by
    show d.left k + min k2.toNat ((d.boot k t).b.length - d.left k) = _
    rw [hb]; omega
  have hbad : (d.boot k t).bad k2 t2 = 0 := by
    unfold D.bad
    rw [hl]
    show min t2.toNat (d.left k - d.left k) = 0
    omega
  have hf : flipTail ((d.boot k t).b.take ((d.boot k t).left k2)) ((d.boot k t).left k2 - (d.boot k t).bad k2 t2) = (d.boot k t).b := by
    rw [hl, hbad, ← hb, List.take_length]
    simp [flipTail]
  have : (d.boot k t).boot k2 t2 = { (d.boot k t) with b := (d.boot k t).b, sy := (d.boot k t).left k2, f := 0, off := false } := by
    rw [show (d.boot k t).boot k2 t2 = { (d.boot k t) with b := flipTail ((d.boot k t).b.take ((d.boot k t).left k2)) ((d.boot k t).left k2 - (d.boot k t).bad k2 t2), sy := (d.boot k t).left k2, f := 0, off := false } from rfl, hf]
  rw [this, hl]
  rfl

theorem min60 (l : List UInt8) : (if ((60 : Int) < (l.length : Int)) then (60 : Int) else (l.length : Int)) = ((min l.length 60 : Nat) : Int) := by split <;> omega

theorem diskTwice_ok (x y : AV) (la lb : List UInt8) (k t m : Int) (h : Heap) (hx : By h x la) (hy : By h y lb) :
    FnOK Try.prog 5 [x, y, .v (.int .i64 k), .v (.int .i64 t), .v (.int .i64 m)] h fun r h' => r = .v (.bool true) ∧ Sub h h' := by
  refine FnOK.body hU hm Try.func5 rfl (by kernel_rfl) 78 rfl [.tmp 10] rfl (Nat.le_of_ble_eq_true rfl) (fun hwf => ?_)
  simp -implicitDefEqProofs only [go_sem, ↓reduceIte, Nat.reduceLT, Nat.reduceEqDiff, Nat.reduceAdd, Nat.reduceLeDiff, Nat.reduceMul, Nat.reduceSub]
  refine (new_ok 300 (by omega) h).mono fun r h1 ⟨id, hid, e1, hd0, hs0⟩ => ?_
  subst e1
  simp -implicitDefEqProofs only [go_sem, ↓reduceIte, Nat.reduceLT, Nat.reduceEqDiff, Nat.reduceAdd, Nat.reduceLeDiff, Nat.reduceMul, Nat.reduceSub, Int.natCast_zero, Int.ofNat_zero, bne_self_eq_false, hx.len, min60]
  have hx1 := hx.sub hs0
  have hy1 := hy.sub hs0
  refine hx1.take (m := (min la.length 60 : Nat)) (x := .i64) (min la.length 60) ?_ rfl (by omega) u5 fun x1 hx2 => ?_
  · simp -implicitDefEqProofs only [go_sem, ↓reduceIte, Nat.reduceLT, Nat.reduceEqDiff, Nat.reduceAdd, Nat.reduceLeDiff, Nat.reduceMul, Nat.reduceSub]
  have g1 : (la.take (min la.length 60)).length ≤ 60 := by rw [List.length_take]; omega
  generalize la.take (min la.length 60) = L1 at hx2 g1
  have k0 : D.ok ⟨300, [], 0, 0, false⟩ := ⟨by decide, by decide, by decide, by decide⟩
  simp -implicitDefEqProofs only [go_sem, ↓reduceIte, Nat.reduceLT, Nat.reduceEqDiff, Nat.reduceAdd, Nat.reduceLeDiff, Nat.reduceMul, Nat.reduceSub]
  refine (append_ok _ k0 id h1 x1 L1 hd0 hx2 (by omega)).mono fun r h2 ⟨e1, hd1, hs1⟩ => ?_
  have k1 := D.append_ok k0 L1
  rw [D.append0 rfl rfl (by show 0 + L1.length ≤ 300; omega)] at e1 hd1 k1
  subst e1
  simp -implicitDefEqProofs only [go_sem, ↓reduceIte, Nat.reduceLT, Nat.reduceEqDiff, Nat.reduceAdd, Nat.reduceLeDiff, Nat.reduceMul, Nat.reduceSub, Int.natCast_zero, Int.ofNat_zero, bne_self_eq_false]
  refine (sync_ok _ k1 id h2 hd1).mono fun r h3 ⟨e1, hd2, hs2⟩ => ?_
  have k2 := D.sync_ok k1
  rw [D.sync0 rfl rfl] at e1 hd2 k2
  subst e1
  simp -implicitDefEqProofs only [go_sem, ↓reduceIte, Nat.reduceLT, Nat.reduceEqDiff, Nat.reduceAdd, Nat.reduceLeDiff, Nat.reduceMul, Nat.reduceSub, Int.natCast_zero, Int.ofNat_zero, bne_self_eq_false, hy.len, min60]
  have hid1 : h1 id ≠ none := by obtain ⟨q, hq, _⟩ := hd0; rw [hq]; simp
  have hy3 : By h3 y lb := by
    obtain ⟨q, hq, _⟩ := hd0
    obtain ⟨q2, hq2, _⟩ := hd1
    exact (hy1.keep hs1 hq (by decide)).keep hs2 hq2 (by decide)
  refine hy3.take (m := (min lb.length 60 : Nat)) (x := .i64) (min lb.length 60) ?_ rfl (by omega) u5 fun y1 hy4 => ?_
  · simp -implicitDefEqProofs only [go_sem, ↓reduceIte, Nat.reduceLT, Nat.reduceEqDiff, Nat.reduceAdd, Nat.reduceLeDiff, Nat.reduceMul, Nat.reduceSub]
  have g2 : (lb.take (min lb.length 60)).length ≤ 60 := by rw [List.length_take]; omega
  generalize lb.take (min lb.length 60) = L2 at hy4 g2
  simp -implicitDefEqProofs only [go_sem, ↓reduceIte, Nat.reduceLT, Nat.reduceEqDiff, Nat.reduceAdd, Nat.reduceLeDiff, Nat.reduceMul, Nat.reduceSub]
  refine (append_ok _ k2 id h3 y1 L2 hd2 hy4 (by omega)).mono fun r h4 ⟨e1, hd3, hs3⟩ => ?_
  have k3 := D.append_ok k2 L2
  rw [D.append0 rfl rfl (by show ([] ++ L1).length + L2.length ≤ 300; rw [List.nil_append]; omega)] at e1 hd3 k3
  subst e1
  simp -implicitDefEqProofs only [go_sem, ↓reduceIte, Nat.reduceLT, Nat.reduceEqDiff, Nat.reduceAdd, Nat.reduceLeDiff, Nat.reduceMul, Nat.reduceSub, Int.natCast_zero, Int.ofNat_zero, bne_self_eq_false]
  refine (boot_ok _ k3 id h4 k t hd3).mono fun r h5 ⟨hd4, hs4⟩ => ?_
  have k4 := D.boot_ok k3 k t
  have tw := D.boot_twice _ k3 k t m m
  generalize hE : D.boot _ k t = E at hd4 k4 tw
  have hoff : E.off = false := by rw [← hE]; rfl
  simp -implicitDefEqProofs only [go_sem, ↓reduceIte, Nat.reduceLT, Nat.reduceEqDiff, Nat.reduceAdd, Nat.reduceLeDiff, Nat.reduceMul, Nat.reduceSub]
  obtain ⟨z, hz1, hz2⟩ := hd4
  refine (read_ok _ k4 id h5 z hz1 hz2).mono fun r h6 ⟨e1, e2⟩ => ?_
  subst e1; subst e2
  simp -implicitDefEqProofs only [go_sem, ↓reduceIte, Nat.reduceLT, Nat.reduceEqDiff, Nat.reduceAdd, Nat.reduceLeDiff, Nat.reduceMul, Nat.reduceSub]
  refine (boot_ok _ k4 id h6 m m ⟨z, hz1, hz2⟩).mono fun r h7 ⟨hd5, hs5⟩ => ?_
  rw [tw] at hd5
  obtain ⟨z2, hz3, hz4⟩ := hd5
  simp -implicitDefEqProofs only [go_sem, ↓reduceIte, Nat.reduceLT, Nat.reduceEqDiff, Nat.reduceAdd, Nat.reduceLeDiff, Nat.reduceMul, Nat.reduceSub]
  refine (read_ok _ k4 id h7 z2 hz3 hz4).mono fun r h8 ⟨e1, e2⟩ => ?_
  subst e1; subst e2
  simp -implicitDefEqProofs only [go_sem, ↓reduceIte, Nat.reduceLT, Nat.reduceEqDiff, Nat.reduceAdd, Nat.reduceLeDiff, Nat.reduceMul, Nat.reduceSub]
  refine (same_ok _ _ E.b E.b h8 (.sl _ _) (.sl _ _) (by obtain ⟨q1, q2, _⟩ := k4; omega)).mono fun r h9 ⟨e1, e2⟩ => ?_
  rw [decide_eq_true rfl] at e1
  subst e1; subst e2
  simp -implicitDefEqProofs only [go_sem, ↓reduceIte, Nat.reduceLT, Nat.reduceEqDiff, Nat.reduceAdd, Nat.reduceLeDiff, Nat.reduceMul, Nat.reduceSub]
  refine (len_ok E id h9 z2 hz3 hz4).mono fun r h10 ⟨e1, e2⟩ => ?_
  subst e1; subst e2
  simp -implicitDefEqProofs only [go_sem, ↓reduceIte, Nat.reduceLT, Nat.reduceEqDiff, Nat.reduceAdd, Nat.reduceLeDiff, Nat.reduceMul, Nat.reduceSub, beq_self_eq_true]
  refine (off_ok E id h10 z2 hz3).mono fun r h11 ⟨e1, e2⟩ => ?_
  rw [hoff] at e1
  subst e1; subst e2
  simp -implicitDefEqProofs only [go_sem, ↓reduceIte, Nat.reduceLT, Nat.reduceEqDiff, Nat.reduceAdd, Nat.reduceLeDiff, Nat.reduceMul, Nat.reduceSub, Bool.not_false]
  refine (diskRuns_ok h11).mono fun r h12 ⟨e1, hs6⟩ => ?_
  subst e1
  simp -implicitDefEqProofs only [go_sem, ↓reduceIte, Nat.reduceLT, Nat.reduceEqDiff, Nat.reduceAdd, Nat.reduceLeDiff, Nat.reduceMul, Nat.reduceSub]
  refine .same (.refl _) ⟨rfl, fun j q hj => ?_⟩
  have hji : j ≠ id := fun e => by subst e; rw [hid] at hj; cases hj
  exact hs6 _ _ (hs5 _ _ hji (hs4 _ _ hji (hs3 _ _ hji (hs2 _ _ hji (hs1 _ _ hji (hs0 _ _ hj))))))
end Go.Proofs.Ytidpcjblciompaa

/- The disk's contracts over what lies at a place; ways behind a call. -/
set_option linter.unusedSimpArgs false
set_option linter.unusedVariables false
namespace Go.Proofs.Ytidpcjblciompaa
open Go Go.Ab

/-- Behind a call that changes a disk. -/
theorem dthen {f : FuncId} {args : List AV} {h : Heap} {Q : AV → Heap → Prop} {X : AV} {id : Nat} {d : D} (hf : FnOK Try.prog f args h fun r h' => r = X ∧ DiskAt h' id d ∧ Keep id h h') (k : ∀ h', DiskAt h' id d → Keep id h h' → Q X h') : FnOK Try.prog f args h Q :=
  hf.mono fun r h' ⟨e1, e2, e3⟩ => by subst e1; exact k h' e2 e3
theorem arm_ok' (d : D) (n : Nat) (id : Nat) (h : Heap) (hd : DiskAt h id d) : FnOK Try.prog 22 [.ptr id 0, .v (.int .i64 n)] h fun r h' => DiskAt h' id { d with f := n } ∧ Keep id h h' := by
  obtain ⟨y, h1, h2⟩ := hd
  refine (arm_ok d n id h y h1).mono fun r h' e => ?_
  subst e
  exact ⟨⟨y, by rw [upd_same]; rfl, h2.set h1⟩, Keep.upd _ _⟩
theorem off_ok' (d : D) (id : Nat) (h : Heap) (hd : DiskAt h id d) : FnOK Try.prog 23 [.ptr id 0] h fun r h' => r = .v (.bool d.off) ∧ h' = h := by
  obtain ⟨y, h1, h2⟩ := hd
  exact off_ok d id h y h1
theorem read_ok' (d : D) (hk : d.ok) (id : Nat) (h : Heap) (hd : DiskAt h id d) : FnOK Try.prog 20 [.ptr id 0] h fun r h' => r = .sl (d.b.map byteA) .no ∧ h' = h := by
  obtain ⟨y, h1, h2⟩ := hd
  exact read_ok d hk id h y h1 h2
theorem len_ok' (d : D) (id : Nat) (h : Heap) (hd : DiskAt h id d) : FnOK Try.prog 24 [.ptr id 0] h fun r h' => r = .v (.int .i64 d.b.length) ∧ h' = h := by
  obtain ⟨y, h1, h2⟩ := hd
  exact len_ok d id h y h1 h2
theorem free_ok' (d : D) (hk : d.ok) (id : Nat) (h : Heap) (hd : DiskAt h id d) : FnOK Try.prog 33 [.ptr id 0] h fun r h' => r = .v (.int .i64 (d.q - d.b.length : Nat)) ∧ h' = h := by
  obtain ⟨y, h1, h2⟩ := hd
  exact free_ok d hk id h y h1 h2

theorem append_room {d : D} {b : List UInt8} (h1 : d.off = false) (h2 : d.b.length + b.length ≤ d.q) : d.append b = (D.burn { d with b := d.b ++ b }, if (D.burn { d with b := d.b ++ b }).off then 9 else 0) := by
  unfold D.append
  rw [if_neg (by simp [h1]), if_neg (by omega)]

end Go.Proofs.Ytidpcjblciompaa

/- An append to a slice without room, as one that grows. -/
set_option linter.unusedSimpArgs false
set_option linter.unusedVariables false
namespace Go.Ab
open Go

section
variable {P : Program} {U : TypeId → TI} {n : Nat} {ρ : Env} {h h' h2 : Heap} {e tb : TypeId} {y v : AV} {xs zs : List AV} {l : List UInt8} {Q : AV → Heap → Prop}

/-- A memory of one thing. -/
def hm1 (id : Nat) (k : Blk) : Heap := upd (fun _ => none) id (some k)
@[go_sem] theorem hm1_same (id : Nat) (k : Blk) : hm1 id k id = some k := upd_same ..
theorem Sub.hm1 {id : Nat} {k : Blk} (h1 : h id = some k) : Sub (hm1 id k) h := fun j b hj => by
  unfold Ab.hm1 at hj
  by_cases e : j = id
  · subst e; rw [upd_same] at hj; rw [h1, hj]
  · rw [upd_other _ _ e] at hj; cases hj
theorem KeepObj.new {id : Nat} {k : Option Blk} (hid : h id = none) : KeepObj h (upd h id k) := ((Sub.refl h).new hid k).keepObj
theorem ApNew.acc (hk : ∀ y' h'', Acc U e h h'' y' (xs ++ zs) → KeepObj h h'' → Q y' h'') : ApNew U h xs zs e Q :=
  .own fun id hid => hk _ _ ⟨(Sub.refl h).new hid _, .inr ⟨id, hid, rfl, by rw [upd_same, List.length_append]⟩⟩ (.new hid)
theorem ApFull.acc (hk : ∀ y' h'', Acc U e h h'' y' (xs ++ zs) → KeepObj h h'' → Q y' h'') : ApFull U h xs zs e Q :=
  ⟨fun hn => by subst hn; exact hk _ _ (by rw [List.append_nil]; exact .full (.refl h)) (.refl h), fun _ => .acc hk⟩
/-- .. in the midst of growing. -/
theorem ApNew.accs {h0 : Heap} (hs : Sub h0 h) (hk : ∀ y' h'', Acc U e h0 h'' y' (xs ++ zs) → KeepObj h h'' → Q y' h'') : ApNew U h xs zs e Q :=
  .own fun id hid => hk _ _ ⟨hs.new hid _, .inr ⟨id, hs.none hid, rfl, by rw [upd_same, List.length_append]⟩⟩ (.new hid)
theorem ApFull.accs {h0 : Heap} (hs : Sub h0 h) (hk : ∀ y' h'', Acc U e h0 h'' y' (xs ++ zs) → KeepObj h h'' → Q y' h'') : ApFull U h xs zs e Q :=
  ⟨fun hn => by subst hn; exact hk _ _ (by rw [List.append_nil]; exact .full hs) (.refl h), fun _ => .accs hs hk⟩
theorem Acc.bytes (ha : Acc U e h h' y (l.map byteA)) : Bytes tb h2 y l := by
  obtain ⟨q, rfl⟩ := ha.row
  exact .sl _ _
end
end Go.Ab

/- What the laws of the disk are asked with: a call. -/
set_option linter.unusedSimpArgs false
set_option linter.unusedVariables false
namespace Go.Proofs.Ytidpcjblciompaa
open Go Go.Ab

def i64B (n : Int) : Prop := -9223372036854775808 ≤ n ∧ n ≤ 9223372036854775807
structure Ask where
  kind : Int
  a : Int
  b : Int
  bytes : List UInt8
def Ask.av (q : Ask) : AV := .agg [iA q.kind, iA q.a, iA q.b, .sl (q.bytes.map byteA) .no]
structure Ask.ok (q : Ask) : Prop where
  kind : i64B q.kind
  a : i64B q.a
  b : i64B q.b
  bytes : q.bytes.length ≤ maxLen
theorem ask_of {t ti tb te : TypeId} {x : AV} (h : Dat U t x) (hk : (U t).k = .strct [(0, ti), (1, ti), (2, ti), (3, tb)]) (hi : (U ti).k = .int .i64) (hb : (U tb).k = .slice te) (he : (U te).k = .int .u8) : ∃ q : Ask, x = q.av ∧ q.ok := by
  obtain ⟨ys, rfl, hy⟩ := h.strct_inv hk
  obtain ⟨y0, r0, rfl, h0, hy⟩ := hy
  obtain ⟨y1, r1, rfl, h1, hy⟩ := hy
  obtain ⟨y2, r2, rfl, h2, hy⟩ := hy
  obtain ⟨y3, r3, rfl, h3, hy⟩ := hy
  have hy : r3 = [] := hy
  subst hy
  obtain ⟨n0, rfl, b0⟩ := h0.i64 hi
  obtain ⟨n1, rfl, b1⟩ := h1.i64 hi
  obtain ⟨n2, rfl, b2⟩ := h2.i64 hi
  obtain ⟨l, rfl, b3⟩ := h3.bytes hb he
  exact ⟨⟨n0, n1, n2, l⟩, rfl, b0, b1, b2, b3⟩
theorem asks_of {t ts ti tb te : TypeId} {x : AV} (h : Dat U ts x) (hs : (U ts).k = .slice t) (hk : (U t).k = .strct [(0, ti), (1, ti), (2, ti), (3, tb)]) (hi : (U ti).k = .int .i64) (hb : (U tb).k = .slice te) (he : (U te).k = .int .u8) :
    ∃ l : List Ask, x = .sl (l.map Ask.av) .no ∧ l.length ≤ maxLen ∧ ∀ q ∈ l, q.ok := h.list hs fun y hy => ask_of hy hk hi hb he
theorem ask_cells (q : Ask) : q.av.cells = [iA q.kind, iA q.a, iA q.b, .sl (q.bytes.map byteA) .no] := rfl
theorem ask_agg (q : Ask) : isAggA q.av = true := rfl
/-- A load of a part of a call. -/
theorem get_map {α : Type} (l : List α) (f : α → AV) (i : Nat) (h : i < (l.map f).length) : (l.map f)[i] = f (l[i]'(by simpa using h)) := by simp

/-- A disk that is on and without a fuse. -/
theorem D.burn0 {d : D} (h : d.f = 0) : d.burn = d := by unfold D.burn; rw [if_neg (by omega)]
theorem D.cut0 {d : D} (h1 : d.off = false) (h2 : d.f = 0) {n : Nat} (h3 : n ≤ d.b.length) : d.cut n = ({ d with b := d.b.take n, sy := min d.sy n }, 0) := by
  unfold D.cut
  rw [if_neg (by simp [h1]), if_neg (by omega), D.burn0 h2, if_neg (by simp [h1])]
  simp
theorem D.cutBad {d : D} (h1 : d.off = false) {n : Int} (h3 : n < 0 ∨ (d.b.length : Int) < n) : d.cut n = (d, 1) := by
  unfold D.cut
  rw [if_neg (by simp [h1]), if_pos h3]
theorem D.appendFull {d : D} {b : List UInt8} (h1 : d.off = false) (h2 : d.q < d.b.length + b.length) : d.append b = (d, 8) := by
  unfold D.append
  rw [if_neg (by simp [h1]), if_pos h2]
end Go.Proofs.Ytidpcjblciompaa

/- Bytes cut at the front; numbers of 32 bits. -/
set_option linter.unusedSimpArgs false
set_option linter.unusedVariables false
namespace Go.Ab
open Go

section
variable {P : Program} {U : TypeId → TI} {n : Nat} {ρ : Env} {h h' : Heap} {tb : TypeId} {y : AV} {l : List UInt8}

theorem Bytes.from (hb : Bytes tb h y l) {lo : Operand} {m : Int} {x : IntKind} {K : AV → Prop} (j : Nat) (hm : ev ρ lo = some (.v (.int x m))) (hj : m = j) (hl : j ≤ l.length) (hz : (U tb).sz = 1) (hk : ∀ z, Bytes tb h z (l.drop j) → K z) :
    sliceK U ρ y (some lo) none none K (.slice tb) := by
  subst hj
  rcases hb with ⟨q, rfl⟩ | ⟨id, off, cs, rfl, h1, h2, h3⟩
  · rw [sliceK_from, hm]
    refine ⟨by rw [hz]; decide, by rw [hz, Sized_bytes]; trivial, ?_⟩
    simp only [bindO_some, intA_eq, Int.toNat_natCast, KV_eq]
    refine ⟨by omega, by simpa using hl, ?_⟩
    rw [← List.map_drop]
    exact hk _ (.sl _ _)
  · rw [sliceK_oa]
    refine ⟨by rw [hz]; decide, fun _ => hz, ?_⟩
    simp only [optA_none, optA_some, hm, bindO_some, intA_eq]
    refine ⟨by omega, by omega, by omega, ?_⟩
    simp only [Int.toNat_natCast, hz, Nat.mul_one]
    have e : (l.drop j).length = l.length - j := by simp
    have := hk (.oa id (off + j) (l.drop j).length) (.oa h1 (by omega) (by
      rw [e, List.map_drop, ← h3, ← List.drop_drop, List.drop_take]))
    rwa [e] at this

theorem Bytes.cut (hb : Bytes tb h y l) {lo hi : Operand} {m m2 : Int} {x x2 : IntKind} {K : AV → Prop} (j k : Nat) (hm : ev ρ lo = some (.v (.int x m))) (hj : m = j) (hm2 : ev ρ hi = some (.v (.int x2 m2))) (hk2 : m2 = k) (hjk : j ≤ k) (hl : k ≤ l.length) (hz : (U tb).sz = 1)
    (hk : ∀ z, Bytes tb h z ((l.drop j).take (k - j)) → K z) : sliceK U ρ y (some lo) (some hi) none K (.slice tb) := by
  subst hj; subst hk2
  rcases hb with ⟨q, rfl⟩ | ⟨id, off, cs, rfl, h1, h2, h3⟩
  · rw [sliceK_ft, hm]
    refine ⟨by rw [hz]; decide, by rw [hz, Sized_bytes]; trivial, ?_⟩
    simp only [bindO_some, intA_eq, hm2, Int.toNat_natCast, KV_eq]
    refine ⟨by omega, by omega, by simpa using hl, ?_⟩
    rw [← List.map_drop, ← List.map_take]
    exact hk _ (.sl _ _)
  · rw [sliceK_oa]
    refine ⟨by rw [hz]; decide, fun _ => hz, ?_⟩
    simp only [optA_some, hm, bindO_some, intA_eq, hm2]
    refine ⟨by omega, by omega, by omega, ?_⟩
    simp only [Int.toNat_natCast, hz, Nat.mul_one]
    have e : ((l.drop j).take (k - j)).length = k - j := by simp; omega
    have := hk (.oa id (off + j) ((l.drop j).take (k - j)).length) (.oa h1 (by omega) (by
      rw [e, List.map_take, List.map_drop, ← h3, ← List.drop_drop, List.drop_take, List.take_take]
      congr 1; omega))
    rwa [e] at this
end

/-! ### Numbers of 32 bits -/
theorem wrapU (k : IntKind) (n : Nat) (hk : k.signed = false) (hn : n < 2 ^ k.bits) : k.wrap (n : Int) = n := by
  cases k <;> simp [IntKind.signed] at hk <;> simp [IntKind.wrap, IntKind.signed, IntKind.bits] at hn ⊢ <;> omega
theorem w32 (n : Nat) (hn : n < 4294967296) : IntKind.u32.wrap (n : Int) = n := wrapU .u32 n rfl (by simpa [IntKind.bits] using hn)
theorem w8 (n : Nat) : IntKind.u8.wrap (n : Int) = (UInt8.ofNat n).toNat := by
  rw [UInt8.toNat_ofNat']
  simp [IntKind.wrap, IntKind.signed, IntKind.bits]
theorem ofInt_nat (w n : Nat) : BitVec.ofInt w (n : Int) = BitVec.ofNat w n := BitVec.ofInt_natCast ..
theorem xor32 (x y : BitVec 32) : IntKind.u32.wrap (((BitVec.ofInt IntKind.u32.bits (x.toNat : Int) ^^^ BitVec.ofInt IntKind.u32.bits (y.toNat : Int)).toNat : Nat) : Int) = ((x ^^^ y).toNat : Int) := by
  have e : ∀ z : BitVec 32, BitVec.ofInt IntKind.u32.bits (z.toNat : Int) = z := fun z => by
    show BitVec.ofInt 32 (z.toNat : Int) = z
    rw [ofInt_nat]; simp
  rw [e, e]
  exact w32 _ (x ^^^ y).isLt
theorem xor32T (x : BitVec 32) : IntKind.u32.wrap (((BitVec.ofInt IntKind.u32.bits (x.toNat : Int) ^^^ BitVec.ofInt IntKind.u32.bits (3988292384 : Int)).toNat : Nat) : Int) = ((x ^^^ 0xedb88320#32).toNat : Int) := xor32 x 0xedb88320#32
theorem not32 (x : BitVec 32) : IntKind.u32.wrap (((BitVec.ofInt IntKind.u32.bits (if IntKind.u32.signed = true then -1 else IntKind.u32.max) ^^^ BitVec.ofInt IntKind.u32.bits (x.toNat : Int)).toNat : Nat) : Int) = ((~~~ x).toNat : Int) := by
  have := xor32 (BitVec.allOnes 32) x
  have e : (BitVec.allOnes 32 ^^^ x) = ~~~ x := by
    apply BitVec.eq_of_getLsbD_eq
    intro i hi
    rw [BitVec.getLsbD_xor, BitVec.getLsbD_allOnes, BitVec.getLsbD_not]
    simp [hi]
  rw [e] at this
  exact this
theorem and32 (x : BitVec 32) : IntKind.u32.wrap (((BitVec.ofInt IntKind.u32.bits (x.toNat : Int) &&& BitVec.ofInt IntKind.u32.bits (1 : Int)).toNat : Nat) : Int) = ((x &&& 1#32).toNat : Int) := by
  have e : BitVec.ofInt IntKind.u32.bits (x.toNat : Int) = x := by
    show BitVec.ofInt 32 (x.toNat : Int) = x
    rw [ofInt_nat]; simp
  rw [e]
  exact w32 _ (x &&& 1#32).isLt
theorem shr32 (x : BitVec 32) : (x.toNat : Int).fdiv (2 ^ (min (1 : Int).toNat IntKind.u32.bits)) = ((x >>> 1).toNat : Int) := by
  show (x.toNat : Int).fdiv (2 ^ 1) = _
  rw [Int.fdiv_eq_ediv_of_nonneg _ (by decide)]
  simp [Nat.shiftRight_eq_div_pow]
theorem shrN (n : Nat) (k : Nat) (hk : k ≤ 24) : (n : Int).fdiv (2 ^ (min (k : Int).toNat IntKind.u32.bits)) = ((n / 2 ^ k : Nat) : Int) := by
  have : min (k : Int).toNat IntKind.u32.bits = k := by simp [IntKind.bits]; omega
  rw [this, Int.fdiv_eq_ediv_of_nonneg _ (by exact Int.le_of_lt (Int.pow_pos (by decide)))]
  simp
theorem or32 (a b k : Nat) (ha : a < 2 ^ k) (hk : k ≤ 24) (hb : b < 256) : IntKind.u32.wrap (((BitVec.ofInt IntKind.u32.bits (a : Int) ||| BitVec.ofInt IntKind.u32.bits ((b * 2 ^ k : Nat) : Int)).toNat : Nat) : Int) = ((a + b * 2 ^ k : Nat) : Int) := by
  have h24 : 2 ^ k ≤ 2 ^ 24 := Nat.pow_le_pow_right (by decide) hk
  have hbk : b * 2 ^ k ≤ 255 * 2 ^ 24 := Nat.mul_le_mul (by omega) h24
  have hlt : b * 2 ^ k + a < 4294967296 := by
    have : (b + 1) * 2 ^ k ≤ 256 * 2 ^ 24 := Nat.mul_le_mul (by omega) h24
    rw [Nat.add_mul] at this
    have e : 256 * 2 ^ 24 = 4294967296 := by decide
    omega
  have e1 : (BitVec.ofNat 32 a ||| BitVec.ofNat 32 (b * 2 ^ k)).toNat = a + b * 2 ^ k := by
    rw [BitVec.toNat_or, BitVec.toNat_ofNat, BitVec.toNat_ofNat, Nat.mod_eq_of_lt (by omega), Nat.mod_eq_of_lt (by omega), Nat.or_comm, ← Nat.shiftLeft_eq, ← Nat.shiftLeft_add_eq_or_of_lt ha, Nat.add_comm, Nat.shiftLeft_eq]
  show IntKind.u32.wrap (((BitVec.ofInt 32 (a : Int) ||| BitVec.ofInt 32 ((b * 2 ^ k : Nat) : Int)).toNat : Nat) : Int) = _
  rw [ofInt_nat, ofInt_nat, e1]
  exact w32 _ (by omega)
theorem shl32 (b k : Nat) (hk : k ≤ 24) (hb : b < 256) : IntKind.u32.wrap ((b : Int) * 2 ^ (min (k : Int).toNat IntKind.u32.bits)) = ((b * 2 ^ k : Nat) : Int) := by
  have h24 : 2 ^ k ≤ 2 ^ 24 := Nat.pow_le_pow_right (by decide) hk
  have hbk : b * 2 ^ k ≤ 255 * 2 ^ 24 := Nat.mul_le_mul (by omega) h24
  have : min (k : Int).toNat IntKind.u32.bits = k := by simp [IntKind.bits]; omega
  rw [this, show ((b : Int) * 2 ^ k) = ((b * 2 ^ k : Nat) : Int) by simp]
  exact w32 _ (by have e : 255 * 2 ^ 24 = 4278190080 := by decide
                  omega)

section
variable {U : TypeId → TI} {ty : TypeId} {K : AV → Prop}
@[go_sem high] theorem bx32 (x y : BitVec 32) : binA U .xor ty (.v (.int .u32 (x.toNat : Int))) (.v (.int .u32 (y.toNat : Int))) K = K (.v (.int .u32 ((x ^^^ y).toNat : Int))) := by rw [b_xor, xor32]
@[go_sem high] theorem bx32T (x : BitVec 32) : binA U .xor ty (.v (.int .u32 (x.toNat : Int))) (.v (.int .u32 3988292384)) K = K (.v (.int .u32 ((x ^^^ 0xedb88320#32).toNat : Int))) := by rw [b_xor, xor32T]
@[go_sem high] theorem band32 (x : BitVec 32) : binA U .and ty (.v (.int .u32 (x.toNat : Int))) (.v (.int .u32 1)) K = K (.v (.int .u32 ((x &&& 1#32).toNat : Int))) := by rw [b_and, and32]
@[go_sem high] theorem bshr32 (x : BitVec 32) (kk : IntKind) : binA U .shr ty (.v (.int .u32 (x.toNat : Int))) (.v (.int kk 1)) K = K (.v (.int .u32 ((x >>> 1).toNat : Int))) := by rw [b_shr, shr32]; simp
@[go_sem high] theorem unot32 (x : BitVec 32) : unA .xor (.v (.int .u32 (x.toNat : Int))) K = K (.v (.int .u32 ((~~~ x).toNat : Int))) := by rw [unA_xor, not32]
theorem bshrN (n k : Nat) (kk : IntKind) (hk : k ≤ 24) : binA U .shr ty (.v (.int .u32 (n : Int))) (.v (.int kk (k : Int))) K = K (.v (.int .u32 ((n / 2 ^ k : Nat) : Int))) := by rw [b_shr, shrN n k hk]; simp
theorem bor32 (a b k : Nat) (ha : a < 2 ^ k) (hk : k ≤ 24) (hb : b < 256) : binA U .or ty (.v (.int .u32 (a : Int))) (.v (.int .u32 ((b * 2 ^ k : Nat) : Int))) K = K (.v (.int .u32 ((a + b * 2 ^ k : Nat) : Int))) := by rw [b_or, or32 a b k ha hk hb]
theorem bshl32 (b k : Nat) (kk : IntKind) (hk : k ≤ 24) (hb : b < 256) : binA U .shl ty (.v (.int .u32 (b : Int))) (.v (.int kk (k : Int))) K = K (.v (.int .u32 ((b * 2 ^ k : Nat) : Int))) := by rw [b_shl, shl32 b k hk hb]; simp
end
end Go.Ab

/- Sums of 32 bits; numbers as four bytes. -/
set_option linter.unusedSimpArgs false
set_option linter.unusedVariables false
namespace Go.Proofs.Ytidpcjblciompaa
open Go Go.Ab

def crcBit (s : BitVec 32) : BitVec 32 := if s &&& 1#32 = 1#32 then (s >>> 1) ^^^ 0xedb88320#32 else s >>> 1
def crcN : Nat → BitVec 32 → BitVec 32
  | 0, s => s
  | n + 1, s => crcBit (crcN n s)
def crcByte (s : BitVec 32) (c : UInt8) : BitVec 32 := crcN 8 (s ^^^ BitVec.ofNat 32 c.toNat)
def crc (l : List UInt8) : BitVec 32 := ~~~ (l.foldl crcByte (BitVec.allOnes 32))

theorem byte32 (c : UInt8) : IntKind.u32.wrap (c.toNat : Int) = ((BitVec.ofNat 32 c.toNat).toNat : Int) := by
  have := c.toNat_lt
  rw [w32 _ (by omega), BitVec.toNat_ofNat, Nat.mod_eq_of_lt (by omega)]
theorem out_eq (x : BitVec 32) : (((x &&& 1#32).toNat : Int) == 1) = decide (x &&& 1#32 = 1#32) := by
  rw [Bool.eq_iff_iff, beq_iff_eq, decide_eq_true_iff]
  constructor
  · intro h
    apply BitVec.eq_of_toNat_eq
    show (x &&& 1#32).toNat = 1
    omega
  · intro h; rw [h]; rfl

theorem sum_ok (y : AV) (l : List UInt8) (h : Heap) (hb : By h y l) (hl : l.length ≤ 1000000000) :
    FnOK Try.prog 49 [y] h fun r h' => r = .v (.int .u32 ((crc l).toNat : Int)) ∧ h' = h := by
  refine FnOK.body hU hm Try.func49 rfl (by kernel_rfl) 31 rfl [.tmp 2] rfl (Nat.le_of_ble_eq_true rfl) (fun hwf => ?_)
  simp -implicitDefEqProofs only [go_sem, ↓reduceIte, Nat.reduceLT, Nat.reduceEqDiff, Nat.reduceAdd, Nat.reduceLeDiff, Nat.reduceMul, Nat.reduceSub, Int.natCast_zero, Int.ofNat_zero, Int.natCast_one, Int.cast_ofNat_Int, bne_self_eq_false, beq_self_eq_true, Int.reduceBEq, Int.reduceBNe, Bool.not_true, Bool.not_false, hb.len]
  refine .intro (fun m ρ h' => h' = h ∧ ∃ i : Nat, i ≤ l.length ∧ m = l.length - i ∧ lk ρ 7 = some y ∧ lk ρ 8 = some (.v (.int .i64 l.length)) ∧ lk ρ 9 = some (.v (.int .i64 i)) ∧ lk ρ 3 = some (.v (.int .u32 (((l.take i).foldl crcByte (BitVec.allOnes 32)).toNat : Int)))) l.length ?_ ?_
  · refine ⟨rfl, 0, by omega, rfl, ?_, ?_, ?_, ?_⟩ <;> simp -implicitDefEqProofs only [go_sem, ↓reduceIte, Nat.reduceLT, Nat.reduceEqDiff, Nat.reduceAdd, Nat.reduceLeDiff, Nat.reduceMul, Nat.reduceSub, Int.natCast_zero, Int.ofNat_zero, Int.natCast_one, Int.cast_ofNat_Int, bne_self_eq_false, beq_self_eq_true, Int.reduceBEq, Int.reduceBNe, Bool.not_true, Bool.not_false]
    rfl
  · rintro m ρ h' ⟨rfl, i, hi, rfl, r7, r8, r9, r3⟩
    simp -implicitDefEqProofs only [go_sem, ↓reduceIte, Nat.reduceLT, Nat.reduceEqDiff, Nat.reduceAdd, Nat.reduceLeDiff, Nat.reduceMul, Nat.reduceSub, Int.natCast_zero, Int.ofNat_zero, Int.natCast_one, Int.cast_ofNat_Int, bne_self_eq_false, beq_self_eq_true, Int.reduceBEq, Int.reduceBNe, Bool.not_true, Bool.not_false, r7, r8, r9, r3]
    refine .intro (fun e => ?_) (fun e => ?_)
    · have hlt : i < l.length := Int.ofNat_lt.1 (of_decide_eq_true e)
      have w1 : IntKind.i64.wrap ((i : Int) + 1) = ((i + 1 : Nat) : Int) := by rw [wr64 _ (by omega)]; omega
      have hs : (l.take (i + 1)).foldl crcByte (BitVec.allOnes 32) = crcByte ((l.take i).foldl crcByte (BitVec.allOnes 32)) l[i] := by
        rw [List.take_succ_eq_append_getElem hlt, List.foldl_append]; rfl
      generalize (l.take i).foldl crcByte (BitVec.allOnes 32) = s at r3 hs
      simp -implicitDefEqProofs only [go_sem, ↓reduceIte, Nat.reduceLT, Nat.reduceEqDiff, Nat.reduceAdd, Nat.reduceLeDiff, Nat.reduceMul, Nat.reduceSub, Int.natCast_zero, Int.ofNat_zero, Int.natCast_one, Int.cast_ofNat_Int, bne_self_eq_false, beq_self_eq_true, Int.reduceBEq, Int.reduceBNe, Bool.not_true, Bool.not_false, r7, r8, r9, r3]
      refine hb.idx i rfl hlt u5 u5a fun p hp => ?_
      simp -implicitDefEqProofs only [go_sem, ↓reduceIte, Nat.reduceLT, Nat.reduceEqDiff, Nat.reduceAdd, Nat.reduceLeDiff, Nat.reduceMul, Nat.reduceSub, Int.natCast_zero, Int.ofNat_zero, Int.natCast_one, Int.cast_ofNat_Int, bne_self_eq_false, beq_self_eq_true, Int.reduceBEq, Int.reduceBNe, Bool.not_true, Bool.not_false, r7, r8, r9, r3, hp _, byte32]
      refine .intro (fun m ρ h2 => h2 = h' ∧ ∃ j : Nat, j ≤ 8 ∧ m = 8 - j ∧ lk ρ 7 = some y ∧ lk ρ 8 = some (.v (.int .i64 l.length)) ∧ lk ρ 9 = some (.v (.int .i64 i)) ∧ lk ρ 17 = some (.v (.int .i64 j)) ∧ lk ρ 3 = some (.v (.int .u32 ((crcN j (s ^^^ BitVec.ofNat 32 l[i].toNat)).toNat : Int)))) 8 ?_ ?_
      · refine ⟨rfl, 0, by omega, rfl, ?_, ?_, ?_, ?_, ?_⟩ <;> simp -implicitDefEqProofs only [go_sem, ↓reduceIte, Nat.reduceLT, Nat.reduceEqDiff, Nat.reduceAdd, Nat.reduceLeDiff, Nat.reduceMul, Nat.reduceSub, Int.natCast_zero, Int.ofNat_zero, Int.natCast_one, Int.cast_ofNat_Int, bne_self_eq_false, beq_self_eq_true, Int.reduceBEq, Int.reduceBNe, Bool.not_true, Bool.not_false, r7, r8, r9, r3]
        rfl
      · rintro m ρ h2 ⟨rfl, j, hj, rfl, q7, q8, q9, q17, q3⟩
        simp -implicitDefEqProofs only [go_sem, ↓reduceIte, Nat.reduceLT, Nat.reduceEqDiff, Nat.reduceAdd, Nat.reduceLeDiff, Nat.reduceMul, Nat.reduceSub, Int.natCast_zero, Int.ofNat_zero, Int.natCast_one, Int.cast_ofNat_Int, bne_self_eq_false, beq_self_eq_true, Int.reduceBEq, Int.reduceBNe, Bool.not_true, Bool.not_false, q7, q8, q9, q17, q3]
        refine .intro (fun e => ?_) (fun e => ?_)
        · have hjl : j < 8 := by have := of_decide_eq_true e; omega
          have w2 : IntKind.i64.wrap ((j : Int) + 1) = ((j + 1 : Nat) : Int) := by rw [wr64 _ (by omega)]; omega
          have hc : crcN (j + 1) (s ^^^ BitVec.ofNat 32 l[i].toNat) = crcBit (crcN j (s ^^^ BitVec.ofNat 32 l[i].toNat)) := rfl
          generalize crcN j (s ^^^ BitVec.ofNat 32 l[i].toNat) = z at q3 hc
          simp -implicitDefEqProofs only [go_sem, ↓reduceIte, Nat.reduceLT, Nat.reduceEqDiff, Nat.reduceAdd, Nat.reduceLeDiff, Nat.reduceMul, Nat.reduceSub, Int.natCast_zero, Int.ofNat_zero, Int.natCast_one, Int.cast_ofNat_Int, bne_self_eq_false, beq_self_eq_true, Int.reduceBEq, Int.reduceBNe, Bool.not_true, Bool.not_false, q7, q8, q9, q17, q3, out_eq]
          refine .intro (fun e2 => ?_) (fun e2 => ?_)
          · simp -implicitDefEqProofs only [go_sem, ↓reduceIte, Nat.reduceLT, Nat.reduceEqDiff, Nat.reduceAdd, Nat.reduceLeDiff, Nat.reduceMul, Nat.reduceSub, Int.natCast_zero, Int.ofNat_zero, Int.natCast_one, Int.cast_ofNat_Int, bne_self_eq_false, beq_self_eq_true, Int.reduceBEq, Int.reduceBNe, Bool.not_true, Bool.not_false, q7, q8, q9, q17, q3, out_eq, w2]
            refine ⟨_, ?_, rfl, j + 1, by omega, rfl, ?_, ?_, ?_, ?_, ?_⟩
            rotate_left 5
            · simp -implicitDefEqProofs only [go_sem, ↓reduceIte, Nat.reduceLT, Nat.reduceEqDiff, Nat.reduceAdd, Nat.reduceLeDiff, Nat.reduceMul, Nat.reduceSub, Int.natCast_zero, Int.ofNat_zero, Int.natCast_one, Int.cast_ofNat_Int, bne_self_eq_false, beq_self_eq_true, Int.reduceBEq, Int.reduceBNe, Bool.not_true, Bool.not_false, q7, q8, q9, q17, q3]
              rw [hc, crcBit, if_pos (of_decide_eq_true e2)]
            · omega
            all_goals simp -implicitDefEqProofs only [go_sem, ↓reduceIte, Nat.reduceLT, Nat.reduceEqDiff, Nat.reduceAdd, Nat.reduceLeDiff, Nat.reduceMul, Nat.reduceSub, Int.natCast_zero, Int.ofNat_zero, Int.natCast_one, Int.cast_ofNat_Int, bne_self_eq_false, beq_self_eq_true, Int.reduceBEq, Int.reduceBNe, Bool.not_true, Bool.not_false, q7, q8, q9, q17, q3, w2]
          · simp -implicitDefEqProofs only [go_sem, ↓reduceIte, Nat.reduceLT, Nat.reduceEqDiff, Nat.reduceAdd, Nat.reduceLeDiff, Nat.reduceMul, Nat.reduceSub, Int.natCast_zero, Int.ofNat_zero, Int.natCast_one, Int.cast_ofNat_Int, bne_self_eq_false, beq_self_eq_true, Int.reduceBEq, Int.reduceBNe, Bool.not_true, Bool.not_false, q7, q8, q9, q17, q3, out_eq, w2]
            refine ⟨_, ?_, rfl, j + 1, by omega, rfl, ?_, ?_, ?_, ?_, ?_⟩
            rotate_left 5
            · simp -implicitDefEqProofs only [go_sem, ↓reduceIte, Nat.reduceLT, Nat.reduceEqDiff, Nat.reduceAdd, Nat.reduceLeDiff, Nat.reduceMul, Nat.reduceSub, Int.natCast_zero, Int.ofNat_zero, Int.natCast_one, Int.cast_ofNat_Int, bne_self_eq_false, beq_self_eq_true, Int.reduceBEq, Int.reduceBNe, Bool.not_true, Bool.not_false, q7, q8, q9, q17, q3]
              rw [hc, crcBit, if_neg (of_decide_eq_false e2)]
            · omega
            all_goals simp -implicitDefEqProofs only [go_sem, ↓reduceIte, Nat.reduceLT, Nat.reduceEqDiff, Nat.reduceAdd, Nat.reduceLeDiff, Nat.reduceMul, Nat.reduceSub, Int.natCast_zero, Int.ofNat_zero, Int.natCast_one, Int.cast_ofNat_Int, bne_self_eq_false, beq_self_eq_true, Int.reduceBEq, Int.reduceBNe, Bool.not_true, Bool.not_false, q7, q8, q9, q17, q3, w2]
        · have hj8 : j = 8 := by have := of_decide_eq_false e; omega
          subst hj8
          simp -implicitDefEqProofs only [go_sem, ↓reduceIte, Nat.reduceLT, Nat.reduceEqDiff, Nat.reduceAdd, Nat.reduceLeDiff, Nat.reduceMul, Nat.reduceSub, Int.natCast_zero, Int.ofNat_zero, Int.natCast_one, Int.cast_ofNat_Int, bne_self_eq_false, beq_self_eq_true, Int.reduceBEq, Int.reduceBNe, Bool.not_true, Bool.not_false, q7, q8, q9, q17, q3, w1]
          refine ⟨_, ?_, rfl, i + 1, by omega, rfl, ?_, ?_, ?_, ?_⟩
          rotate_left 4
          · simp -implicitDefEqProofs only [go_sem, ↓reduceIte, Nat.reduceLT, Nat.reduceEqDiff, Nat.reduceAdd, Nat.reduceLeDiff, Nat.reduceMul, Nat.reduceSub, Int.natCast_zero, Int.ofNat_zero, Int.natCast_one, Int.cast_ofNat_Int, bne_self_eq_false, beq_self_eq_true, Int.reduceBEq, Int.reduceBNe, Bool.not_true, Bool.not_false, q7, q8, q9, q17, q3]
            rw [hs]; rfl
          · omega
          all_goals simp -implicitDefEqProofs only [go_sem, ↓reduceIte, Nat.reduceLT, Nat.reduceEqDiff, Nat.reduceAdd, Nat.reduceLeDiff, Nat.reduceMul, Nat.reduceSub, Int.natCast_zero, Int.ofNat_zero, Int.natCast_one, Int.cast_ofNat_Int, bne_self_eq_false, beq_self_eq_true, Int.reduceBEq, Int.reduceBNe, Bool.not_true, Bool.not_false, q7, q8, q9, q17, q3, w1]
    · have hge : i = l.length := by have := of_decide_eq_false e; omega
      subst hge
      rw [List.take_length] at r3
      simp -implicitDefEqProofs only [go_sem, ↓reduceIte, Nat.reduceLT, Nat.reduceEqDiff, Nat.reduceAdd, Nat.reduceLeDiff, Nat.reduceMul, Nat.reduceSub, Int.natCast_zero, Int.ofNat_zero, Int.natCast_one, Int.cast_ofNat_Int, bne_self_eq_false, beq_self_eq_true, Int.reduceBEq, Int.reduceBNe, Bool.not_true, Bool.not_false, r7, r8, r9, r3]
      exact .same (.refl _) ⟨rfl, rfl⟩

/-- A number as four bytes. -/
def fourL (n : Nat) : List UInt8 := [UInt8.ofNat n, UInt8.ofNat (n / 256), UInt8.ofNat (n / 65536), UInt8.ofNat (n / 16777216)]
def numL (l : List UInt8) : Nat := (l.getD 0 0).toNat + (l.getD 1 0).toNat * 256 + (l.getD 2 0).toNat * 65536 + (l.getD 3 0).toNat * 16777216

theorem four_ok (n : Nat) (hn : n < 4294967296) (h : Heap) : FnOK Try.prog 48 [.v (.int .u32 (n : Int))] h fun r h' => r = .sl ((fourL n).map byteA) .no ∧ h' = h := by
  refine FnOK.body hU hm Try.func48 rfl (by kernel_rfl) 15 rfl [.tmp 2] rfl (Nat.le_of_ble_eq_true rfl) (fun hwf => ?_)
  have s8 := fun K => bshrN (U := U) (ty := 78) (K := K) n 8 .u64 (by decide)
  have s16 := fun K => bshrN (U := U) (ty := 78) (K := K) n 16 .u64 (by decide)
  have s24 := fun K => bshrN (U := U) (ty := 78) (K := K) n 24 .u64 (by decide)
  simp only [Int.cast_ofNat_Int] at s8 s16 s24
  simp -implicitDefEqProofs only [go_sem, ↓reduceIte, Nat.reduceLT, Nat.reduceEqDiff, Nat.reduceAdd, Nat.reduceLeDiff, Nat.reduceMul, Nat.reduceSub, Int.natCast_zero, Int.ofNat_zero, Int.natCast_one, Int.cast_ofNat_Int, bne_self_eq_false, beq_self_eq_true, Int.reduceBEq, Int.reduceBNe, Bool.not_true, Bool.not_false, ↓s8, ↓s16, ↓s24, w8]
  exact .mk _ (.sl _ _) (.refl _) ⟨rfl, rfl⟩

theorem number_ok (y : AV) (l : List UInt8) (h : Heap) (hb : By h y l) (hl : 4 ≤ l.length) : FnOK Try.prog 54 [y] h fun r h' => r = .v (.int .u32 (numL l : Nat)) ∧ h' = h := by
  refine FnOK.body hU hm Try.func54 rfl (by kernel_rfl) 25 rfl [.tmp 2] rfl (Nat.le_of_ble_eq_true rfl) (fun hwf => ?_)
  have lt : ∀ c : UInt8, c.toNat < 256 := fun c => c.toNat_lt
  have hnum : numL l = l[0].toNat + l[1].toNat * 2 ^ 8 + l[2].toNat * 2 ^ 16 + l[3].toNat * 2 ^ 24 := by
    unfold numL
    simp [List.getD_eq_getElem?_getD, show 0 < l.length by omega, show 1 < l.length by omega, show 2 < l.length by omega, show 3 < l.length by omega]
  generalize hc0 : l[0] = c0 at hnum
  generalize hc1 : l[1] = c1 at hnum
  generalize hc2 : l[2] = c2 at hnum
  generalize hc3 : l[3] = c3 at hnum
  have v := fun c : UInt8 => w32 c.toNat (by have := lt c; omega)
  have s1 := fun K => bshl32 (U := U) (ty := 78) (K := K) c1.toNat 8 .u64 (by decide) (lt _)
  have s2 := fun K => bshl32 (U := U) (ty := 78) (K := K) c2.toNat 16 .u64 (by decide) (lt _)
  have s3 := fun K => bshl32 (U := U) (ty := 78) (K := K) c3.toNat 24 .u64 (by decide) (lt _)
  have o1 := fun K => bor32 (U := U) (ty := 78) (K := K) c0.toNat c1.toNat 8 (by have := lt c0; omega) (by decide) (lt _)
  have o2 := fun K => bor32 (U := U) (ty := 78) (K := K) (c0.toNat + c1.toNat * 2 ^ 8) c2.toNat 16 (by have := lt c0; have := lt c1; omega) (by decide) (lt _)
  have o3 := fun K => bor32 (U := U) (ty := 78) (K := K) (c0.toNat + c1.toNat * 2 ^ 8 + c2.toNat * 2 ^ 16) c3.toNat 24 (by have := lt c0; have := lt c1; have := lt c2; omega) (by decide) (lt _)
  simp only [Int.cast_ofNat_Int] at s1 s2 s3
  simp -implicitDefEqProofs only [go_sem, ↓reduceIte, Nat.reduceLT, Nat.reduceEqDiff, Nat.reduceAdd, Nat.reduceLeDiff, Nat.reduceMul, Nat.reduceSub, Int.natCast_zero, Int.ofNat_zero, Int.natCast_one, Int.cast_ofNat_Int, bne_self_eq_false, beq_self_eq_true, Int.reduceBEq, Int.reduceBNe, Bool.not_true, Bool.not_false]
  refine ⟨.of (by kernel_rfl), ?_⟩
  refine hb.idx 0 rfl (by omega) u5 u5a fun p0 hp0 => ?_
  rw [hc0] at hp0
  simp -implicitDefEqProofs only [go_sem, ↓reduceIte, Nat.reduceLT, Nat.reduceEqDiff, Nat.reduceAdd, Nat.reduceLeDiff, Nat.reduceMul, Nat.reduceSub, Int.natCast_zero, Int.ofNat_zero, Int.natCast_one, Int.cast_ofNat_Int, bne_self_eq_false, beq_self_eq_true, Int.reduceBEq, Int.reduceBNe, Bool.not_true, Bool.not_false, hp0 _, v]
  refine hb.idx 1 rfl (by omega) u5 u5a fun p1 hp1 => ?_
  rw [hc1] at hp1
  simp -implicitDefEqProofs only [go_sem, ↓reduceIte, Nat.reduceLT, Nat.reduceEqDiff, Nat.reduceAdd, Nat.reduceLeDiff, Nat.reduceMul, Nat.reduceSub, Int.natCast_zero, Int.ofNat_zero, Int.natCast_one, Int.cast_ofNat_Int, bne_self_eq_false, beq_self_eq_true, Int.reduceBEq, Int.reduceBNe, Bool.not_true, Bool.not_false, hp1 _, v, ↓s1, ↓o1]
  refine hb.idx 2 rfl (by omega) u5 u5a fun p2 hp2 => ?_
  rw [hc2] at hp2
  simp -implicitDefEqProofs only [go_sem, ↓reduceIte, Nat.reduceLT, Nat.reduceEqDiff, Nat.reduceAdd, Nat.reduceLeDiff, Nat.reduceMul, Nat.reduceSub, Int.natCast_zero, Int.ofNat_zero, Int.natCast_one, Int.cast_ofNat_Int, bne_self_eq_false, beq_self_eq_true, Int.reduceBEq, Int.reduceBNe, Bool.not_true, Bool.not_false, hp2 _, v, ↓s2, ↓o2]
  refine hb.idx 3 rfl (by omega) u5 u5a fun p3 hp3 => ?_
  rw [hc3] at hp3
  simp -implicitDefEqProofs only [go_sem, ↓reduceIte, Nat.reduceLT, Nat.reduceEqDiff, Nat.reduceAdd, Nat.reduceLeDiff, Nat.reduceMul, Nat.reduceSub, Int.natCast_zero, Int.ofNat_zero, Int.natCast_one, Int.cast_ofNat_Int, bne_self_eq_false, beq_self_eq_true, Int.reduceBEq, Int.reduceBNe, Bool.not_true, Bool.not_false, hp3 _, v, ↓s3, ↓o3]
  refine .same (.refl _) ⟨?_, rfl⟩
  rw [hnum]; rfl
end Go.Proofs.Ytidpcjblciompaa

/- Frames: what is read out of bytes; a frame that is torn is none. -/
set_option linter.unusedSimpArgs false
set_option linter.unusedVariables false
namespace Go.Proofs.Ytidpcjblciompaa
open Go Go.Ab

theorem and_one (s : BitVec 32) : (s &&& 1#32 = 1#32) ↔ s.getLsbD 0 = true := by
  constructor
  · intro h
    have := congrArg (fun x => x.getLsbD 0) h
    simpa using this
  · intro h
    apply BitVec.eq_of_getLsbD_eq
    intro i hi
    by_cases h0 : i = 0
    · subst h0; simpa using h
    · have e : (1#32).getLsbD i = false := by
        rw [BitVec.getLsbD_one]; simp [h0]
      rw [BitVec.getLsbD_and, e]; simp
theorem xlc (a b c : BitVec 32) : a ^^^ (b ^^^ c) = b ^^^ (a ^^^ c) := by rw [← BitVec.xor_assoc, BitVec.xor_comm a b, BitVec.xor_assoc]
theorem xss (a b : BitVec 32) : a ^^^ (b ^^^ a) = b := by rw [BitVec.xor_comm b a, ← BitVec.xor_assoc, BitVec.xor_self, BitVec.zero_xor]
theorem crcBit_xor (a b : BitVec 32) : crcBit (a ^^^ b) = crcBit a ^^^ crcBit b := by
  unfold crcBit
  simp only [and_one, BitVec.getLsbD_xor, BitVec.ushiftRight_xor_distrib]
  cases a.getLsbD 0 <;> cases b.getLsbD 0 <;> simp [BitVec.xor_assoc, BitVec.xor_comm, xlc, xss]
theorem crcN_xor (n : Nat) (a b : BitVec 32) : crcN n (a ^^^ b) = crcN n a ^^^ crcN n b := by
  induction n with
  | zero => rfl
  | succ n ih => simp only [crcN, ih, crcBit_xor]
/-- What turned bytes make. -/
def turned : Nat → BitVec 32
  | 0 => 0#32
  | k + 1 => crcN 8 (turned k ^^^ 255#32)
theorem flip32 (c : UInt8) : BitVec.ofNat 32 (~~~ c).toNat = BitVec.ofNat 32 c.toNat ^^^ 255#32 := by
  have : ∀ i : Fin 256, BitVec.ofNat 32 (~~~ (UInt8.ofNat i)).toNat = BitVec.ofNat 32 (UInt8.ofNat i).toNat ^^^ 255#32 := by decide +kernel
  have h := this ⟨c.toNat, c.toNat_lt⟩
  simpa using h
theorem fold_flip (l : List UInt8) : ∀ (s d : BitVec 32) (k : Nat), d = turned k → (l.map (~~~ ·)).foldl crcByte (s ^^^ d) = l.foldl crcByte s ^^^ turned (k + l.length) := by
  induction l with
  | nil => intro s d k hd; simp [hd]
  | cons c l ih =>
    intro s d k hd
    simp only [List.map_cons, List.foldl_cons, List.length_cons]
    have : crcByte (s ^^^ d) (~~~ c) = crcByte s c ^^^ turned (k + 1) := by
      unfold crcByte
      rw [flip32, show s ^^^ d ^^^ (BitVec.ofNat 32 c.toNat ^^^ 255#32) = (s ^^^ BitVec.ofNat 32 c.toNat) ^^^ (d ^^^ 255#32) by
        simp only [BitVec.xor_assoc]; congr 1; rw [xlc], crcN_xor, hd]
      rfl
    rw [this, ih _ _ (k + 1) rfl]
    congr 2; omega
theorem crc_flip (a u : List UInt8) : crc (a ++ u.map (~~~ ·)) = crc (a ++ u) ^^^ turned u.length := by
  unfold crc
  rw [List.foldl_append, List.foldl_append]
  have := fold_flip u (a.foldl crcByte (BitVec.allOnes 32)) 0#32 0 rfl
  rw [BitVec.xor_zero, Nat.zero_add] at this
  rw [this]
  apply BitVec.eq_of_getLsbD_eq
  intro i hi
  simp [hi]
theorem turned_low (k : Nat) (h1 : 1 ≤ k) (h2 : k ≤ 3) : (turned k).toNat % 256 ≠ 0 := by
  have : k = 1 ∨ k = 2 ∨ k = 3 := by omega
  rcases this with rfl | rfl | rfl <;> decide +kernel
theorem turned_ne (k : Nat) (h1 : 1 ≤ k) (h2 : k ≤ 4) : turned k ≠ 0#32 := by
  have : k = 1 ∨ k = 2 ∨ k = 3 ∨ k = 4 := by omega
  rcases this with rfl | rfl | rfl | rfl <;> decide +kernel
theorem xor_low (a d : BitVec 32) (h : (a ^^^ d).toNat % 256 = a.toNat % 256) : d.toNat % 256 = 0 := by
  rw [BitVec.toNat_xor] at h
  have e : ∀ x y : Nat, (x ^^^ y) % 256 = (x % 256) ^^^ (y % 256) := fun x y => by
    rw [show 256 = 2 ^ 8 by rfl, Nat.xor_mod_two_pow]
  rw [e] at h
  have := congrArg (fun z => (a.toNat % 256) ^^^ z) h
  simpa [← Nat.xor_assoc] using this
theorem xor_ne (a d : BitVec 32) (hd : d ≠ 0#32) : a ^^^ d ≠ a := fun h => hd (by
  have := congrArg (fun z => a ^^^ z) h
  simpa [← BitVec.xor_assoc] using this)
theorem fourL_length (n : Nat) : (fourL n).length = 4 := rfl
theorem numL_four (n : Nat) (hn : n < 4294967296) (r : List UInt8) : numL (fourL n ++ r) = n := by
  simp only [numL, fourL, List.cons_append, List.nil_append, List.getD_cons_zero, List.getD_cons_succ, UInt8.toNat_ofNat']
  omega
theorem numL_lt (l : List UInt8) : numL l < 4294967296 := by
  have h : ∀ c : UInt8, c.toNat < 256 := fun c => c.toNat_lt
  have h0 := h (l.getD 0 0)
  have h1 := h (l.getD 1 0)
  have h2 := h (l.getD 2 0)
  have h3 := h (l.getD 3 0)
  unfold numL
  omega
/-- A frame of a payload. -/
def frame (p : List UInt8) : List UInt8 := fourL p.length ++ fourL (crc p).toNat ++ p
theorem frame_length (p : List UInt8) : (frame p).length = 8 + p.length := by simp [frame, fourL_length]; omega
/-- The payload of the frame that bytes begin with. -/
def beginsL (l : List UInt8) : Option (List UInt8) :=
  if l.length < 8 then none else if numL l < 1 ∨ 8192 < numL l ∨ l.length - 8 < numL l then none else
    if (crc ((l.drop 8).take (numL l))).toNat = numL (l.drop 4) then some ((l.drop 8).take (numL l)) else none
theorem beginsL_len {l p : List UInt8} (h : beginsL l = some p) : 8 + p.length ≤ l.length ∧ 1 ≤ p.length ∧ p.length ≤ 8192 := by
  unfold beginsL at h
  split at h
  · cases h
  · split at h
    · cases h
    · split at h
      · simp only [Option.some.injEq] at h
        subst h
        rw [List.length_take, List.length_drop]
        omega
      · cases h
theorem beginsL_frame (p r : List UInt8) (h1 : 1 ≤ p.length) (h2 : p.length ≤ 8192) : beginsL (frame p ++ r) = some p := by
  have e1 : numL (frame p ++ r) = p.length := by rw [frame, List.append_assoc, List.append_assoc]; exact numL_four _ (by omega) _
  have e2 : (frame p ++ r).drop 4 = fourL (crc p).toNat ++ (p ++ r) := by
    rw [frame, List.append_assoc, List.append_assoc, List.drop_left' (by rfl)]
  have e3 : (frame p ++ r).drop 8 = p ++ r := by
    rw [frame, List.append_assoc (fourL _ ++ fourL _), List.drop_left' (by rfl)]
  unfold beginsL
  rw [if_neg (by rw [List.length_append, frame_length]; omega), e1, if_neg (by rw [List.length_append, frame_length]; omega), e2, e3, List.take_left, numL_four _ (crc p).isLt, if_pos rfl]
theorem beginsL_short (l : List UInt8) (h : l.length < 8) : beginsL l = none := by unfold beginsL; rw [if_pos h]

/-- What is read out of bytes, and how far. -/
def scan (l : List UInt8) : List (List UInt8) × Nat := match h : beginsL l with
  | none => ([], 0)
  | some p => let r := scan (l.drop (8 + p.length)); (p :: r.1, 8 + p.length + r.2)
termination_by l.length
decreasing_by
  have := beginsL_len h
  rw [List.length_drop]
  omega
theorem scan_none {l : List UInt8} (h : beginsL l = none) : scan l = ([], 0) := by
  rw [scan]
  split
  · rfl
  · rename_i p hp; rw [h] at hp; cases hp
theorem scan_some {l p : List UInt8} (h : beginsL l = some p) : scan l = (p :: (scan (l.drop (8 + p.length))).1, 8 + p.length + (scan (l.drop (8 + p.length))).2) := by
  rw [scan]
  split
  · rename_i hp; rw [h] at hp; cases hp
  · rename_i q hq; rw [h] at hq; cases hq; rfl
def frames (ps : List (List UInt8)) : List UInt8 := (ps.map frame).flatten
theorem frames_cons (p : List UInt8) (ps : List (List UInt8)) : frames (p :: ps) = frame p ++ frames ps := by simp [frames]
theorem frames_snoc (p : List UInt8) (ps : List (List UInt8)) : frames (ps ++ [p]) = frames ps ++ frame p := by simp [frames]
theorem scan_frames (ps : List (List UInt8)) (r : List UInt8) (h : ∀ p ∈ ps, 1 ≤ p.length ∧ p.length ≤ 8192) : scan (frames ps ++ r) = (ps ++ (scan r).1, (frames ps).length + (scan r).2) := by
  induction ps with
  | nil => simp [frames]
  | cons p ps ih =>
    have hp := h p (by simp)
    have hb := beginsL_frame p (frames ps ++ r) hp.1 hp.2
    rw [frames_cons, List.append_assoc, scan_some hb, List.drop_left' (frame_length p), ih fun q hq => h q (by simp [hq])]
    simp [frame_length]
    omega
theorem scan_le (l : List UInt8) : (scan l).2 ≤ l.length := by
  induction hn : l.length using Nat.strongRecOn generalizing l with
  | _ n ih =>
    cases hb : beginsL l with
    | none => rw [scan_none hb]; exact Nat.zero_le _
    | some p =>
      have hl := beginsL_len hb
      rw [scan_some hb]
      have := ih (l.drop (8 + p.length)).length (by rw [List.length_drop]; omega) _ rfl
      rw [List.length_drop] at this
      show 8 + p.length + _ ≤ _
      omega

theorem flipTail_drop (l : List UInt8) (s k : Nat) (h : k ≤ s) : (flipTail l s).drop k = flipTail (l.drop k) (s - k) := by
  unfold flipTail
  rcases Nat.lt_or_ge l.length s with hs | hs
  · rw [List.drop_eq_nil_of_le (by omega : l.length ≤ s), List.take_of_length_le (by omega), List.drop_drop, List.drop_eq_nil_of_le (by omega : l.length ≤ k + (s - k)), List.take_of_length_le (by rw [List.length_drop]; omega)]
    simp
  · rw [List.drop_append_of_le_length (by rw [List.length_take]; omega), List.drop_drop, List.drop_take, show k + (s - k) = s by omega]
theorem flipTail_drop2 (l : List UInt8) (s k : Nat) (h : s ≤ k) (hs : s ≤ l.length) : (flipTail l s).drop k = (l.drop k).map (~~~ ·) := by
  unfold flipTail
  rw [List.drop_append, List.drop_eq_nil_of_le (by rw [List.length_take]; omega), List.length_take, List.nil_append, ← List.map_drop, List.drop_drop]
  congr 2
  omega
theorem flipTail_getD (l : List UInt8) (s i : Nat) (h : i < s) : (flipTail l s).getD i 0 = l.getD i 0 := by
  unfold flipTail
  simp only [List.getD_eq_getElem?_getD]
  congr 1
  rcases Nat.lt_or_ge i l.length with hi | hi
  · rw [List.getElem?_append_left (by rw [List.length_take]; omega), List.getElem?_take, if_pos h]
  · rw [List.getElem?_eq_none (by simp; omega), List.getElem?_eq_none hi]
theorem numL_flip (l : List UInt8) (s : Nat) (h : 4 ≤ s) : numL (flipTail l s) = numL l := by
  unfold numL
  rw [flipTail_getD _ _ _ (by omega), flipTail_getD _ _ _ (by omega), flipTail_getD _ _ _ (by omega), flipTail_getD _ _ _ (by omega)]
theorem numL_take (l : List UInt8) (k : Nat) (h : 4 ≤ k) : numL (l.take k) = numL l := by
  have : ∀ i, i < 4 → (l.take k).getD i 0 = l.getD i 0 := fun i hi => by
    simp only [List.getD_eq_getElem?_getD, List.getElem?_take, if_pos (show i < k by omega)]
  unfold numL
  rw [this 0 (by omega), this 1 (by omega), this 2 (by omega), this 3 (by omega)]
theorem numL_low (l : List UInt8) : numL l % 256 = (l.getD 0 0).toNat := by
  have := (l.getD 0 0).toNat_lt
  unfold numL
  omega

/-- A frame that is torn is none. -/
theorem torn_none (p : List UInt8) (h1 : 1 ≤ p.length) (h2 : p.length ≤ 8192) (K t : Nat) (hK : K ≤ (frame p).length) (ht : t ≤ 4) (hne : ¬ (K = (frame p).length ∧ t = 0)) : beginsL (flipTail ((frame p).take K) (K - min t K)) = none := by
  have hl := frame_length p
  have hlen : (flipTail ((frame p).take K) (K - min t K)).length = K := by rw [flipTail_length, List.length_take]; omega
  rcases Nat.lt_or_ge K 8 with h8 | h8
  · exact beginsL_short _ (by omega)
  · have e1 : numL (flipTail ((frame p).take K) (K - min t K)) = p.length := by
      rw [numL_flip _ _ (by omega), numL_take _ _ (by omega), frame, List.append_assoc]
      exact numL_four _ (by omega) _
    unfold beginsL
    rw [if_neg (by omega), e1, hlen]
    rcases Nat.lt_or_ge K (frame p).length with hf | hf
    · rw [if_pos (by omega)]
    · obtain rfl : K = (frame p).length := by omega
      rw [if_neg (by omega), if_neg ?_]
      have hm : min t (frame p).length = t := by omega
      rw [hm, List.take_length]
      have t0 : 1 ≤ t := by omega
      have e3 : (frame p).drop 8 = p := by rw [frame, List.drop_left' (by rfl)]
      have e4 : (frame p).drop 4 = fourL (crc p).toNat ++ p := by rw [frame, List.append_assoc, List.drop_left' (by rfl)]
      rcases Nat.lt_or_ge p.length t with hp | hp
      · -- the sum's end is turned, too
        have d8 : (flipTail (frame p) ((frame p).length - t)).drop 8 = p.map (~~~ ·) := by rw [flipTail_drop2 _ _ _ (by omega) (by omega), e3]
        have hc : crc (p.map (~~~ ·)) = crc p ^^^ turned p.length := by have := crc_flip [] p; simpa using this
        rw [d8, List.take_of_length_le (by simp), hc]
        intro hh
        have hlow := numL_low ((flipTail (frame p) ((frame p).length - t)).drop 4)
        rw [← hh, flipTail_drop _ _ _ (by omega), e4, flipTail_getD _ _ _ (by omega)] at hlow
        have h4 : ((fourL (crc p).toNat ++ p).getD 0 0).toNat = (crc p).toNat % 256 := by
          simp [fourL]
        rw [h4] at hlow
        exact turned_low p.length h1 (by omega) (xor_low _ _ hlow)
      · have d8 : (flipTail (frame p) ((frame p).length - t)).drop 8 = p.take (p.length - t) ++ (p.drop (p.length - t)).map (~~~ ·) := by
          rw [flipTail_drop _ _ _ (by omega), e3, hl, show 8 + p.length - t - 8 = p.length - t by omega]; rfl
        have hc : crc (p.take (p.length - t) ++ (p.drop (p.length - t)).map (~~~ ·)) = crc p ^^^ turned t := by
          rw [crc_flip, List.take_append_drop, List.length_drop, show p.length - (p.length - t) = t by omega]
        have d4 : numL ((flipTail (frame p) ((frame p).length - t)).drop 4) = (crc p).toNat := by
          rw [flipTail_drop _ _ _ (by omega), numL_flip _ _ (by omega), e4]
          exact numL_four _ (crc p).isLt _
        rw [d8, List.take_of_length_le (by simp), hc, d4]
        intro hh
        exact xor_ne _ _ (turned_ne t t0 ht) (BitVec.eq_of_toNat_eq hh)
end Go.Proofs.Ytidpcjblciompaa

/- Frames: the program's functions. -/
set_option linter.unusedSimpArgs false
set_option linter.unusedVariables false
namespace Go.Proofs.Ytidpcjblciompaa
open Go Go.Ab

theorem frame_ok (y : AV) (l : List UInt8) (h : Heap) (hb : By h y l) (hl : l.length ≤ 1000000) :
    FnOK Try.prog 25 [y] h fun r h' => r = .sl ((frame l).map byteA) .no ∧ Sub h h' := by
  refine FnOK.body hU hm Try.func25 rfl (by kernel_rfl) 13 rfl [.tmp 2] rfl (Nat.le_of_ble_eq_true rfl) (fun hwf => ?_)
  have w1 := w32 l.length (by omega)
  simp -implicitDefEqProofs only [go_sem, ↓reduceIte, Nat.reduceLT, Nat.reduceEqDiff, Nat.reduceAdd, Nat.reduceLeDiff, Nat.reduceMul, Nat.reduceSub, Int.natCast_zero, Int.ofNat_zero, Int.natCast_one, Int.cast_ofNat_Int, bne_self_eq_false, beq_self_eq_true, Int.reduceBEq, Int.reduceBNe, Bool.not_true, Bool.not_false, hb.len, w1]
  refine (four_ok l.length (by omega) h).pthen ?_
  simp -implicitDefEqProofs only [go_sem, ↓reduceIte, Nat.reduceLT, Nat.reduceEqDiff, Nat.reduceAdd, Nat.reduceLeDiff, Nat.reduceMul, Nat.reduceSub, Int.natCast_zero, Int.ofNat_zero, Int.natCast_one, Int.cast_ofNat_Int, bne_self_eq_false, beq_self_eq_true, Int.reduceBEq, Int.reduceBNe, Bool.not_true, Bool.not_false]
  refine (sum_ok y l h hb (by omega)).pthen ?_
  simp -implicitDefEqProofs only [go_sem, ↓reduceIte, Nat.reduceLT, Nat.reduceEqDiff, Nat.reduceAdd, Nat.reduceLeDiff, Nat.reduceMul, Nat.reduceSub, Int.natCast_zero, Int.ofNat_zero, Int.natCast_one, Int.cast_ofNat_Int, bne_self_eq_false, beq_self_eq_true, Int.reduceBEq, Int.reduceBNe, Bool.not_true, Bool.not_false]
  refine (four_ok (crc l).toNat (crc l).isLt h).pthen ?_
  simp -implicitDefEqProofs only [go_sem, ↓reduceIte, Nat.reduceLT, Nat.reduceEqDiff, Nat.reduceAdd, Nat.reduceLeDiff, Nat.reduceMul, Nat.reduceSub, Int.natCast_zero, Int.ofNat_zero, Int.natCast_one, Int.cast_ofNat_Int, bne_self_eq_false, beq_self_eq_true, Int.reduceBEq, Int.reduceBNe, Bool.not_true, Bool.not_false, hb.cells, hb.fit]
  refine (concat_ok [.sl ((fourL l.length).map byteA) .no, .sl ((fourL (crc l).toNat).map byteA) .no, y] [fourL l.length, fourL (crc l).toNat, l] .full h (.cons (.sl _ _) (.cons (.sl _ _) (.cons hb .nil))) ?_ (by simp)).sthen fun h' hs => ?_
  · simp [fourL_length]; omega
  simp -implicitDefEqProofs only [go_sem, ↓reduceIte, Nat.reduceLT, Nat.reduceEqDiff, Nat.reduceAdd, Nat.reduceLeDiff, Nat.reduceMul, Nat.reduceSub, Int.natCast_zero, Int.ofNat_zero, Int.natCast_one, Int.cast_ofNat_Int, bne_self_eq_false, beq_self_eq_true, Int.reduceBEq, Int.reduceBNe, Bool.not_true, Bool.not_false]
  refine .same (.refl _) ⟨?_, hs⟩
  simp [frame, oneOr]

theorem begins_ok (y : AV) (l : List UInt8) (h : Heap) (hb : By h y l) (hl : l.length ≤ 2000000) :
    FnOK Try.prog 50 [y] h fun r h' => (∃ P p b, r = .tup [P, .v (.bool b)] ∧ By h P p ∧ beginsL l = if b = true then some p else none) ∧ h' = h := by
  refine FnOK.body hU hm Try.func50 rfl (by kernel_rfl) 36 rfl [.tmp 2, .tmp 3] rfl (Nat.le_of_ble_eq_true rfl) (fun hwf => ?_)
  rcases Nat.lt_or_ge l.length 8 with h8 | h8
  · have t1 : decide ((l.length : Int) < 8) = true := decide_eq_true (by omega)
    simp -implicitDefEqProofs only [go_sem, ↓reduceIte, Nat.reduceLT, Nat.reduceEqDiff, Nat.reduceAdd, Nat.reduceLeDiff, Nat.reduceMul, Nat.reduceSub, Int.natCast_zero, Int.ofNat_zero, Int.natCast_one, Int.cast_ofNat_Int, bne_self_eq_false, beq_self_eq_true, Int.reduceBEq, Int.reduceBNe, Bool.not_true, Bool.not_false, hb.len, t1]
    exact .same (.refl _) ⟨⟨_, [], false, rfl, .nil _, beginsL_short l h8⟩, rfl⟩
  · have t1 : decide ((l.length : Int) < 8) = false := decide_eq_false (by omega)
    simp -implicitDefEqProofs only [go_sem, ↓reduceIte, Nat.reduceLT, Nat.reduceEqDiff, Nat.reduceAdd, Nat.reduceLeDiff, Nat.reduceMul, Nat.reduceSub, Int.natCast_zero, Int.ofNat_zero, Int.natCast_one, Int.cast_ofNat_Int, bne_self_eq_false, beq_self_eq_true, Int.reduceBEq, Int.reduceBNe, Bool.not_true, Bool.not_false, hb.len, t1]
    refine (number_ok y l h hb (by omega)).pthen ?_
    have hn := numL_lt l
    have w1 : IntKind.i64.wrap ((numL l : Nat) : Int) = ((numL l : Nat) : Int) := wr64 _ (by omega)
    have w2 : IntKind.i64.wrap ((l.length : Int) - 8) = ((l.length - 8 : Nat) : Int) := by rw [wr64 _ (by omega)]; omega
    by_cases hbad : numL l < 1 ∨ 8192 < numL l ∨ l.length - 8 < numL l
    · have hnone : beginsL l = none := by unfold beginsL; rw [if_neg (by omega), if_pos hbad]
      have fin : ∀ Z : Prop, Z → Z := fun _ z => z
      by_cases c1 : numL l < 1
      · have t2 : decide (((numL l : Nat) : Int) < 1) = true := decide_eq_true (by omega)
        simp -implicitDefEqProofs only [go_sem, ↓reduceIte, Nat.reduceLT, Nat.reduceEqDiff, Nat.reduceAdd, Nat.reduceLeDiff, Nat.reduceMul, Nat.reduceSub, Int.natCast_zero, Int.ofNat_zero, Int.natCast_one, Int.cast_ofNat_Int, bne_self_eq_false, beq_self_eq_true, Int.reduceBEq, Int.reduceBNe, Bool.not_true, Bool.not_false, hb.len, w1, w2, t2]
        exact .same (.refl _) ⟨⟨_, [], false, rfl, .nil _, hnone⟩, rfl⟩
      · have t2 : decide (((numL l : Nat) : Int) < 1) = false := decide_eq_false (by omega)
        by_cases c2 : 8192 < numL l
        · have t3 : decide ((8192 : Int) < ((numL l : Nat) : Int)) = true := decide_eq_true (by omega)
          simp -implicitDefEqProofs only [go_sem, ↓reduceIte, Nat.reduceLT, Nat.reduceEqDiff, Nat.reduceAdd, Nat.reduceLeDiff, Nat.reduceMul, Nat.reduceSub, Int.natCast_zero, Int.ofNat_zero, Int.natCast_one, Int.cast_ofNat_Int, bne_self_eq_false, beq_self_eq_true, Int.reduceBEq, Int.reduceBNe, Bool.not_true, Bool.not_false, hb.len, w1, w2, t2, t3]
          exact .same (.refl _) ⟨⟨_, [], false, rfl, .nil _, hnone⟩, rfl⟩
        · have t3 : decide ((8192 : Int) < ((numL l : Nat) : Int)) = false := decide_eq_false (by omega)
          have t4 : decide (((l.length - 8 : Nat) : Int) < ((numL l : Nat) : Int)) = true := decide_eq_true (by omega)
          simp -implicitDefEqProofs only [go_sem, ↓reduceIte, Nat.reduceLT, Nat.reduceEqDiff, Nat.reduceAdd, Nat.reduceLeDiff, Nat.reduceMul, Nat.reduceSub, Int.natCast_zero, Int.ofNat_zero, Int.natCast_one, Int.cast_ofNat_Int, bne_self_eq_false, beq_self_eq_true, Int.reduceBEq, Int.reduceBNe, Bool.not_true, Bool.not_false, hb.len, w1, w2, t2, t3, t4]
          exact .same (.refl _) ⟨⟨_, [], false, rfl, .nil _, hnone⟩, rfl⟩
    · have t2 : decide (((numL l : Nat) : Int) < 1) = false := decide_eq_false (by omega)
      have t3 : decide ((8192 : Int) < ((numL l : Nat) : Int)) = false := decide_eq_false (by omega)
      have t4 : decide (((l.length - 8 : Nat) : Int) < ((numL l : Nat) : Int)) = false := decide_eq_false (by omega)
      have w3 : IntKind.i64.wrap ((8 : Int) + ((numL l : Nat) : Int)) = ((8 + numL l : Nat) : Int) := by rw [wr64 _ (by omega)]; omega
      simp -implicitDefEqProofs only [go_sem, ↓reduceIte, Nat.reduceLT, Nat.reduceEqDiff, Nat.reduceAdd, Nat.reduceLeDiff, Nat.reduceMul, Nat.reduceSub, Int.natCast_zero, Int.ofNat_zero, Int.natCast_one, Int.cast_ofNat_Int, bne_self_eq_false, beq_self_eq_true, Int.reduceBEq, Int.reduceBNe, Bool.not_true, Bool.not_false, hb.len, w1, w2, t2, t3, t4, w3]
      refine hb.cut (m := 8) (m2 := (8 + numL l : Nat)) (x := .i64) (x2 := .i64) 8 (8 + numL l) ?_ rfl ?_ rfl (by omega) (by omega) u5 fun z hz => ?_
      · simp -implicitDefEqProofs only [go_sem, ↓reduceIte, Nat.reduceLT, Nat.reduceEqDiff, Nat.reduceAdd, Nat.reduceLeDiff, Nat.reduceMul, Nat.reduceSub, Int.natCast_zero, Int.ofNat_zero, Int.natCast_one, Int.cast_ofNat_Int, bne_self_eq_false, beq_self_eq_true, Int.reduceBEq, Int.reduceBNe, Bool.not_true, Bool.not_false]
      · simp -implicitDefEqProofs only [go_sem, ↓reduceIte, Nat.reduceLT, Nat.reduceEqDiff, Nat.reduceAdd, Nat.reduceLeDiff, Nat.reduceMul, Nat.reduceSub, Int.natCast_zero, Int.ofNat_zero, Int.natCast_one, Int.cast_ofNat_Int, bne_self_eq_false, beq_self_eq_true, Int.reduceBEq, Int.reduceBNe, Bool.not_true, Bool.not_false]
      rw [Nat.add_sub_cancel_left] at hz
      have hzl : ((l.drop 8).take (numL l)).length ≤ 1000000 := by rw [List.length_take, List.length_drop]; omega
      simp -implicitDefEqProofs only [go_sem, ↓reduceIte, Nat.reduceLT, Nat.reduceEqDiff, Nat.reduceAdd, Nat.reduceLeDiff, Nat.reduceMul, Nat.reduceSub, Int.natCast_zero, Int.ofNat_zero, Int.natCast_one, Int.cast_ofNat_Int, bne_self_eq_false, beq_self_eq_true, Int.reduceBEq, Int.reduceBNe, Bool.not_true, Bool.not_false]
      refine .quiet (by kernel_rfl) ?_
      simp -implicitDefEqProofs only [go_sem, ↓reduceIte, Nat.reduceLT, Nat.reduceEqDiff, Nat.reduceAdd, Nat.reduceLeDiff, Nat.reduceMul, Nat.reduceSub, Int.natCast_zero, Int.ofNat_zero, Int.natCast_one, Int.cast_ofNat_Int, bne_self_eq_false, beq_self_eq_true, Int.reduceBEq, Int.reduceBNe, Bool.not_true, Bool.not_false]
      refine ⟨_, sum_ok z _ h hz (by omega), ?_⟩
      simp -implicitDefEqProofs only [go_sem, ↓reduceIte, Nat.reduceLT, Nat.reduceEqDiff, Nat.reduceAdd, Nat.reduceLeDiff, Nat.reduceMul, Nat.reduceSub, Int.natCast_zero, Int.ofNat_zero, Int.natCast_one, Int.cast_ofNat_Int, bne_self_eq_false, beq_self_eq_true, Int.reduceBEq, Int.reduceBNe, Bool.not_true, Bool.not_false]
      refine hb.from (m := 4) (x := .i64) 4 ?_ rfl (by omega) u5 fun z4 hz4 => ?_
      · simp -implicitDefEqProofs only [go_sem, ↓reduceIte, Nat.reduceLT, Nat.reduceEqDiff, Nat.reduceAdd, Nat.reduceLeDiff, Nat.reduceMul, Nat.reduceSub, Int.natCast_zero, Int.ofNat_zero, Int.natCast_one, Int.cast_ofNat_Int, bne_self_eq_false, beq_self_eq_true, Int.reduceBEq, Int.reduceBNe, Bool.not_true, Bool.not_false]
      simp -implicitDefEqProofs only [go_sem, ↓reduceIte, Nat.reduceLT, Nat.reduceEqDiff, Nat.reduceAdd, Nat.reduceLeDiff, Nat.reduceMul, Nat.reduceSub, Int.natCast_zero, Int.ofNat_zero, Int.natCast_one, Int.cast_ofNat_Int, bne_self_eq_false, beq_self_eq_true, Int.reduceBEq, Int.reduceBNe, Bool.not_true, Bool.not_false]
      refine ⟨_, number_ok z4 _ h hz4 (by rw [List.length_drop]; omega), ?_⟩
      simp -implicitDefEqProofs only [go_sem, ↓reduceIte, Nat.reduceLT, Nat.reduceEqDiff, Nat.reduceAdd, Nat.reduceLeDiff, Nat.reduceMul, Nat.reduceSub, Int.natCast_zero, Int.ofNat_zero, Int.natCast_one, Int.cast_ofNat_Int, bne_self_eq_false, beq_self_eq_true, Int.reduceBEq, Int.reduceBNe, Bool.not_true, Bool.not_false]
      refine .same (.refl _) ⟨⟨z, _, _, rfl, hz, ?_⟩, rfl⟩
      unfold beginsL
      rw [if_neg (by omega), if_neg hbad]
      by_cases hc : (crc ((l.drop 8).take (numL l))).toNat = numL (l.drop 4)
      · rw [if_pos hc, hc]; simp
      · rw [if_neg hc, if_neg]
        simp only [beq_iff_eq]
        omega
end Go.Proofs.Ytidpcjblciompaa

/- Scan, rows. -/
set_option linter.unusedSimpArgs false
set_option linter.unusedVariables false
namespace Go.Proofs.Ytidpcjblciompaa
open Go Go.Ab

theorem u27b : (U 27).bytes = 24 := by simp only [go_sem]
def rowA (p : List UInt8) : AV := .sl (p.map byteA) .no
theorem rowA_cells (p : List UInt8) : (rowA p).cells = [rowA p] := rfl
theorem rows_of (ps : List (List UInt8)) (h : Heap) : Ab.Rows 5 h (ps.map rowA) ps := ⟨by simp, fun i h1 h2 => by simp only [List.getElem_map]; exact .sl _ _⟩
theorem rowA_sized (ps : List (List UInt8)) : Sized 1 (ps.map rowA) := (rows_of ps noHeap).sized

/-- A slice that may grow. -/
def GrowAt (h : Heap) (y : AV) (xs : List AV) (sp : List Nat) : Prop := (y = .sl xs .full ∧ sp = []) ∨ ∃ k, y = .sl xs (.own k) ∧ h k = some (.spare xs.length 1) ∧ sp = [k]

theorem scan_drop {l : List UInt8} {at_ : Nat} {ps : List (List UInt8)} {p : List UInt8} (h : scan l = (ps ++ (scan (l.drop at_)).1, at_ + (scan (l.drop at_)).2)) (hp : beginsL (l.drop at_) = some p) :
    scan l = ((ps ++ [p]) ++ (scan (l.drop (at_ + (8 + p.length)))).1, (at_ + (8 + p.length)) + (scan (l.drop (at_ + (8 + p.length)))).2) := by
  rw [h, scan_some hp, List.drop_drop]
  simp [Nat.add_assoc]

theorem scan_ok (y : AV) (l : List UInt8) (h : Heap) (hb : By h y l) (hl : l.length ≤ 2000000) :
    FnOK Try.prog 26 [y] h fun r h' => ∃ z sp, r = .tup [z, .v (.int .i64 ((scan l).2 : Nat))] ∧ GrowAt h' z ((scan l).1.map rowA) sp ∧ Sub h h' ∧ ∀ i ∈ sp, h i = none := by
  refine FnOK.body hU hm Try.func26 rfl (by kernel_rfl) 29 rfl [.tmp 2, .tmp 3] rfl (Nat.le_of_ble_eq_true rfl) (fun hwf => ?_)
  simp -implicitDefEqProofs only [go_sem, ↓reduceIte, Nat.reduceLT, Nat.reduceEqDiff, Nat.reduceAdd, Nat.reduceLeDiff, Nat.reduceMul, Nat.reduceSub, Int.natCast_zero, Int.ofNat_zero, Int.natCast_one, Int.cast_ofNat_Int, bne_self_eq_false, beq_self_eq_true, Int.reduceBEq, Int.reduceBNe, Bool.not_true, Bool.not_false]
  refine .intro (fun m ρ h' => ∃ (i : Nat) (ps : List (List UInt8)) (z : AV), Acc U 27 h h' z (ps.map rowA) ∧ KeepObj h h' ∧ ps.length ≤ i ∧ i ≤ l.length ∧ m = l.length - i ∧ scan l = (ps ++ (scan (l.drop i)).1, i + (scan (l.drop i)).2) ∧
    lk ρ 0 = some y ∧ lk ρ 4 = some z ∧ lk ρ 5 = some (.v (.int .i64 (i : Nat)))) l.length ?_ ?_
  · refine ⟨0, [], _, .full (.refl h), .refl h, by simp, by omega, rfl, by simp, ?_, ?_, ?_⟩ <;> simp -implicitDefEqProofs only [go_sem, ↓reduceIte, Nat.reduceLT, Nat.reduceEqDiff, Nat.reduceAdd, Nat.reduceLeDiff, Nat.reduceMul, Nat.reduceSub, Int.natCast_zero, Int.ofNat_zero, Int.natCast_one, Int.cast_ofNat_Int, bne_self_eq_false, beq_self_eq_true, Int.reduceBEq, Int.reduceBNe, Bool.not_true, Bool.not_false]
  · rintro m ρ h' ⟨i, ps, z, ha, hk, hpi, hi, rfl, hsc, r0, r4, r5⟩
    have hb' := hb.keepObj hk
    simp -implicitDefEqProofs only [go_sem, ↓reduceIte, Nat.reduceLT, Nat.reduceEqDiff, Nat.reduceAdd, Nat.reduceLeDiff, Nat.reduceMul, Nat.reduceSub, Int.natCast_zero, Int.ofNat_zero, Int.natCast_one, Int.cast_ofNat_Int, bne_self_eq_false, beq_self_eq_true, Int.reduceBEq, Int.reduceBNe, Bool.not_true, Bool.not_false, r0, r4, r5]
    refine hb'.from (m := i) (x := .i64) i ?_ rfl hi u5 fun y2 hy2 => ?_
    · simp -implicitDefEqProofs only [go_sem, ↓reduceIte, Nat.reduceLT, Nat.reduceEqDiff, Nat.reduceAdd, Nat.reduceLeDiff, Nat.reduceMul, Nat.reduceSub, Int.natCast_zero, Int.ofNat_zero, Int.natCast_one, Int.cast_ofNat_Int, bne_self_eq_false, beq_self_eq_true, Int.reduceBEq, Int.reduceBNe, Bool.not_true, Bool.not_false, r0, r4, r5]
    simp -implicitDefEqProofs only [go_sem, ↓reduceIte, Nat.reduceLT, Nat.reduceEqDiff, Nat.reduceAdd, Nat.reduceLeDiff, Nat.reduceMul, Nat.reduceSub, Int.natCast_zero, Int.ofNat_zero, Int.natCast_one, Int.cast_ofNat_Int, bne_self_eq_false, beq_self_eq_true, Int.reduceBEq, Int.reduceBNe, Bool.not_true, Bool.not_false, r0, r4, r5]
    refine (begins_ok y2 (l.drop i) h' hy2 (by rw [List.length_drop]; omega)).mono fun r h2 ⟨⟨P, p, b, e1, hP, hbg⟩, e2⟩ => ?_
    subst e1; subst e2
    cases b with
    | false =>
      rw [if_neg (by simp)] at hbg
      rw [scan_none hbg] at hsc
      simp -implicitDefEqProofs only [go_sem, ↓reduceIte, Nat.reduceLT, Nat.reduceEqDiff, Nat.reduceAdd, Nat.reduceLeDiff, Nat.reduceMul, Nat.reduceSub, Int.natCast_zero, Int.ofNat_zero, Int.natCast_one, Int.cast_ofNat_Int, bne_self_eq_false, beq_self_eq_true, Int.reduceBEq, Int.reduceBNe, Bool.not_true, Bool.not_false, r0, r4, r5]
      have hs := ha.1
      rw [hsc]
      rcases ha.2 with rfl | ⟨k, k1, rfl, k2⟩
      · exact .same (.refl _) ⟨_, [], rfl, .inl ⟨by simp, rfl⟩, hs, by simp⟩
      · rw [u27] at k2
        exact .same (.refl _) ⟨_, [k], rfl, .inr ⟨k, by simp, by simpa using k2, rfl⟩, hs, by simpa using k1⟩
    | true =>
      rw [if_pos rfl] at hbg
      have hpl := beginsL_len hbg
      rw [List.length_drop] at hpl
      have hsc' := scan_drop hsc hbg
      have w1 : IntKind.i64.wrap ((8 : Int) + (p.length : Int)) = ((8 + p.length : Nat) : Int) := by rw [wr64 _ (by omega)]; omega
      have w2 : IntKind.i64.wrap ((i : Int) + ((8 + p.length : Nat) : Int)) = ((i + (8 + p.length) : Nat) : Int) := by rw [wr64 _ (by omega)]; omega
      simp -implicitDefEqProofs only [go_sem, ↓reduceIte, Nat.reduceLT, Nat.reduceEqDiff, Nat.reduceAdd, Nat.reduceLeDiff, Nat.reduceMul, Nat.reduceSub, Int.natCast_zero, Int.ofNat_zero, Int.natCast_one, Int.cast_ofNat_Int, bne_self_eq_false, beq_self_eq_true, Int.reduceBEq, Int.reduceBNe, Bool.not_true, Bool.not_false, r0, r4, r5]
      refine (clone_sl P p h2 hP (by omega)).pthen' ?_
      simp -implicitDefEqProofs only [go_sem, ↓reduceIte, Nat.reduceLT, Nat.reduceEqDiff, Nat.reduceAdd, Nat.reduceLeDiff, Nat.reduceMul, Nat.reduceSub, Int.natCast_zero, Int.ofNat_zero, Int.natCast_one, Int.cast_ofNat_Int, bne_self_eq_false, beq_self_eq_true, Int.reduceBEq, Int.reduceBNe, Bool.not_true, Bool.not_false, r0, r4, r5]
      refine ha.app (zs := [rowA p]) (by rw [u27]; decide) (by rw [u27b]; decide) (fun k hk => hk) (by rw [u27]; exact rowA_sized ps) (by rw [u27]; simp [Sized, rowA, AV.cells]) (by rw [u27b]; simp; omega) fun z' h3 ha' hk' => ?_
      rw [show ps.map rowA ++ [rowA p] = (ps ++ [p]).map rowA by simp] at ha'
      have hP3 := hP.keepObj hk'
      simp -implicitDefEqProofs only [go_sem, ↓reduceIte, Nat.reduceLT, Nat.reduceEqDiff, Nat.reduceAdd, Nat.reduceLeDiff, Nat.reduceMul, Nat.reduceSub, Int.natCast_zero, Int.ofNat_zero, Int.natCast_one, Int.cast_ofNat_Int, bne_self_eq_false, beq_self_eq_true, Int.reduceBEq, Int.reduceBNe, Bool.not_true, Bool.not_false, r0, r4, r5, hP3.len, w1, w2]
      refine ⟨_, ?_, i + (8 + p.length), ps ++ [p], z', ha', hk.trans hk', by simp; omega, by omega, rfl, hsc', ?_, ?_, ?_⟩
      · omega
      all_goals simp -implicitDefEqProofs only [go_sem, ↓reduceIte, Nat.reduceLT, Nat.reduceEqDiff, Nat.reduceAdd, Nat.reduceLeDiff, Nat.reduceMul, Nat.reduceSub, Int.natCast_zero, Int.ofNat_zero, Int.natCast_one, Int.cast_ofNat_Int, bne_self_eq_false, beq_self_eq_true, Int.reduceBEq, Int.reduceBNe, Bool.not_true, Bool.not_false, r0, r4, r5, hP3.len, w1, w2]

theorem rows_ok (x y : AV) (xs ys : List AV) (q0 q1 : Perm) (a b : List (List UInt8)) (h : Heap) (hx : Ab.Rows 5 h xs a) (hy : Ab.Rows 5 h ys b) (ha : a.length ≤ 1000000000) (hp : ∀ p ∈ a, p.length ≤ 1000000) :
    FnOK Try.prog 27 [.sl xs q0, .sl ys q1] h fun r h' => r = .v (.bool (decide (a = b))) ∧ h' = h := by
  refine FnOK.body hU hm Try.func27 rfl (by kernel_rfl) 27 rfl [.tmp 4] rfl (Nat.le_of_ble_eq_true rfl) (fun hwf => ?_)
  have h1 := hx.1
  have h2 := hy.1
  simp -implicitDefEqProofs only [go_sem, ↓reduceIte, Nat.reduceLT, Nat.reduceEqDiff, Nat.reduceAdd, Nat.reduceLeDiff, Nat.reduceMul, Nat.reduceSub, Int.natCast_zero, Int.ofNat_zero, Int.natCast_one, Int.cast_ofNat_Int, bne_self_eq_false, beq_self_eq_true, Int.reduceBEq, Int.reduceBNe, Bool.not_true, Bool.not_false]
  refine .intro (fun e => ?_) (fun e => ?_)
  · simp -implicitDefEqProofs only [go_sem, ↓reduceIte, Nat.reduceLT, Nat.reduceEqDiff, Nat.reduceAdd, Nat.reduceLeDiff, Nat.reduceMul, Nat.reduceSub, Int.natCast_zero, Int.ofNat_zero, Int.natCast_one, Int.cast_ofNat_Int, bne_self_eq_false, beq_self_eq_true, Int.reduceBEq, Int.reduceBNe, Bool.not_true, Bool.not_false]
    refine .same (.refl _) ⟨?_, rfl⟩
    have : a ≠ b := fun hh => by subst hh; simp [h1, h2] at e
    simp [this, oneOr]
  · have hl : xs.length = ys.length := by simpa [Int.natCast_inj] using e
    simp -implicitDefEqProofs only [go_sem, ↓reduceIte, Nat.reduceLT, Nat.reduceEqDiff, Nat.reduceAdd, Nat.reduceLeDiff, Nat.reduceMul, Nat.reduceSub, Int.natCast_zero, Int.ofNat_zero, Int.natCast_one, Int.cast_ofNat_Int, bne_self_eq_false, beq_self_eq_true, Int.reduceBEq, Int.reduceBNe, Bool.not_true, Bool.not_false]
    refine .intro (fun m ρ h' => h' = h ∧ ∃ i : Nat, i ≤ a.length ∧ m = a.length - i ∧ a.take i = b.take i ∧ lk ρ 0 = some (.sl xs q0) ∧ lk ρ 1 = some (.sl ys q1) ∧ lk ρ 12 = some (.v (.int .i64 xs.length)) ∧ lk ρ 13 = some (.v (.int .i64 i))) a.length ?_ ?_
    · refine ⟨rfl, 0, Nat.zero_le _, rfl, rfl, ?_, ?_, ?_, ?_⟩ <;> simp -implicitDefEqProofs only [go_sem, ↓reduceIte, Nat.reduceLT, Nat.reduceEqDiff, Nat.reduceAdd, Nat.reduceLeDiff, Nat.reduceMul, Nat.reduceSub, Int.natCast_zero, Int.ofNat_zero, Int.natCast_one, Int.cast_ofNat_Int, bne_self_eq_false, beq_self_eq_true, Int.reduceBEq, Int.reduceBNe, Bool.not_true, Bool.not_false]
    · rintro m ρ h' ⟨rfl, i, hi, rfl, hab, r0, r1, r12, r13⟩
      simp -implicitDefEqProofs only [go_sem, ↓reduceIte, Nat.reduceLT, Nat.reduceEqDiff, Nat.reduceAdd, Nat.reduceLeDiff, Nat.reduceMul, Nat.reduceSub, Int.natCast_zero, Int.ofNat_zero, Int.natCast_one, Int.cast_ofNat_Int, bne_self_eq_false, beq_self_eq_true, Int.reduceBEq, Int.reduceBNe, Bool.not_true, Bool.not_false, r0, r1, r12, r13]
      refine .intro (fun e => ?_) (fun e => ?_)
      · have hlt : i < xs.length := Int.ofNat_lt.1 (of_decide_eq_true e)
        have hlty : i < ys.length := by omega
        have hlta : i < a.length := by omega
        have hltb : i < b.length := by omega
        have bx := hx.2 i hlt hlta
        have by' := hy.2 i hlty hltb
        have w1 : IntKind.i64.wrap ((i : Int) + 1) = ((i + 1 : Nat) : Int) := by rw [wr64 _ (by omega)]; omega
        simp -implicitDefEqProofs only [go_sem, ↓reduceIte, Nat.reduceLT, Nat.reduceEqDiff, Nat.reduceAdd, Nat.reduceLeDiff, Nat.reduceMul, Nat.reduceSub, Int.natCast_zero, Int.ofNat_zero, Int.natCast_one, Int.cast_ofNat_Int, bne_self_eq_false, beq_self_eq_true, Int.reduceBEq, Int.reduceBNe, Bool.not_true, Bool.not_false, r0, r1, r12, r13]
        refine .quiet (by kernel_rfl) ?_
        simp -implicitDefEqProofs only [go_sem, ↓reduceIte, Nat.reduceLT, Nat.reduceEqDiff, Nat.reduceAdd, Nat.reduceLeDiff, Nat.reduceMul, Nat.reduceSub, Int.natCast_zero, Int.ofNat_zero, Int.natCast_one, Int.cast_ofNat_Int, bne_self_eq_false, beq_self_eq_true, Int.reduceBEq, Int.reduceBNe, Bool.not_true, Bool.not_false, r0, r1, r12, r13]
        refine .at i hlt (by rw [bx.cells]; rfl) ?_
        simp -implicitDefEqProofs only [go_sem, ↓reduceIte, Nat.reduceLT, Nat.reduceEqDiff, Nat.reduceAdd, Nat.reduceLeDiff, Nat.reduceMul, Nat.reduceSub, Int.natCast_zero, Int.ofNat_zero, Int.natCast_one, Int.cast_ofNat_Int, bne_self_eq_false, beq_self_eq_true, Int.reduceBEq, Int.reduceBNe, Bool.not_true, Bool.not_false, r0, r1, r12, r13, bx.cells, bx.noAgg, and_self]
        refine .at i hlty (by rw [by'.cells]; rfl) ?_
        simp -implicitDefEqProofs only [go_sem, ↓reduceIte, Nat.reduceLT, Nat.reduceEqDiff, Nat.reduceAdd, Nat.reduceLeDiff, Nat.reduceMul, Nat.reduceSub, Int.natCast_zero, Int.ofNat_zero, Int.natCast_one, Int.cast_ofNat_Int, bne_self_eq_false, beq_self_eq_true, Int.reduceBEq, Int.reduceBNe, Bool.not_true, Bool.not_false, r0, r1, r12, r13, by'.cells, by'.noAgg, and_self]
        refine ⟨_, same_ok _ _ a[i] b[i] h' bx by' (by have := hp _ (List.getElem_mem hlta); omega), ?_⟩
        by_cases hc : a[i] = b[i]
        · simp -implicitDefEqProofs only [go_sem, ↓reduceIte, Nat.reduceLT, Nat.reduceEqDiff, Nat.reduceAdd, Nat.reduceLeDiff, Nat.reduceMul, Nat.reduceSub, Int.natCast_zero, Int.ofNat_zero, Int.natCast_one, Int.cast_ofNat_Int, bne_self_eq_false, beq_self_eq_true, Int.reduceBEq, Int.reduceBNe, Bool.not_true, Bool.not_false, r0, r1, r12, r13, decide_eq_true hc, w1]
          refine ⟨_, ?_, rfl, i + 1, by omega, rfl, ?_, ?_, ?_, ?_, ?_⟩
          · omega
          · rw [List.take_succ_eq_append_getElem hlta, List.take_succ_eq_append_getElem hltb, hab, hc]
          all_goals simp -implicitDefEqProofs only [go_sem, ↓reduceIte, Nat.reduceLT, Nat.reduceEqDiff, Nat.reduceAdd, Nat.reduceLeDiff, Nat.reduceMul, Nat.reduceSub, Int.natCast_zero, Int.ofNat_zero, Int.natCast_one, Int.cast_ofNat_Int, bne_self_eq_false, beq_self_eq_true, Int.reduceBEq, Int.reduceBNe, Bool.not_true, Bool.not_false, r0, r1, r12, r13, w1]
        · simp -implicitDefEqProofs only [go_sem, ↓reduceIte, Nat.reduceLT, Nat.reduceEqDiff, Nat.reduceAdd, Nat.reduceLeDiff, Nat.reduceMul, Nat.reduceSub, Int.natCast_zero, Int.ofNat_zero, Int.natCast_one, Int.cast_ofNat_Int, bne_self_eq_false, beq_self_eq_true, Int.reduceBEq, Int.reduceBNe, Bool.not_true, Bool.not_false, r0, r1, r12, r13, decide_eq_false hc]
          refine .same (.refl _) ⟨?_, rfl⟩
          have : a ≠ b := fun hh => hc (by subst hh; rfl)
          simp [this, oneOr]
      · have hge : i = a.length := by have := of_decide_eq_false e; omega
        subst hge
        simp -implicitDefEqProofs only [go_sem, ↓reduceIte, Nat.reduceLT, Nat.reduceEqDiff, Nat.reduceAdd, Nat.reduceLeDiff, Nat.reduceMul, Nat.reduceSub, Int.natCast_zero, Int.ofNat_zero, Int.natCast_one, Int.cast_ofNat_Int, bne_self_eq_false, beq_self_eq_true, Int.reduceBEq, Int.reduceBNe, Bool.not_true, Bool.not_false, r0, r1, r12, r13]
        refine .same (.refl _) ⟨?_, rfl⟩
        have : a = b := by
          rw [List.take_length] at hab
          rw [hab, show a.length = b.length by omega, List.take_length]
        simp [this, oneOr]
end Go.Proofs.Ytidpcjblciompaa

/- Bytes that grow and are written in place. -/
set_option linter.unusedSimpArgs false
set_option linter.unusedVariables false
namespace Go.Ab
open Go

section
variable {P : Program} {U : TypeId → TI} {n : Nat} {ρ : Env} {h0 h h' : Heap} {tb : TypeId} {y v : AV} {l m : List UInt8} {Q : AV → Heap → Prop}

/-- Bytes of a slice that grows and may be written in place; the memory was h0 at first. -/
def Wr (tb : TypeId) (h0 h : Heap) (y : AV) (l : List UInt8) : Prop :=
  Sub h0 h ∧ ((l = [] ∧ y = .sl [] .full) ∨ ∃ id cs, h0 id = none ∧ y = .oa id 0 l.length ∧ h id = some (.obj cs tb) ∧ l.length ≤ cs.length ∧ cs.take l.length = l.map byteA)

theorem Wr.bytes (hw : Wr tb h0 h y l) : Bytes tb h y l := by
  obtain ⟨_, ⟨rfl, rfl⟩ | ⟨id, cs, _, rfl, h1, h2, h3⟩⟩ := hw
  · exact .nil _
  · exact .oa h1 (by omega) (by simpa using h3)
theorem Wr.nil (hs : Sub h0 h) : Wr tb h0 h (.sl [] .full) [] := ⟨hs, .inl ⟨rfl, rfl⟩⟩
theorem Wr.sub (hw : Wr tb h0 h y l) (hs : Sub h h') : Wr tb h0 h' y l := by
  obtain ⟨h1, hw | ⟨id, cs, a, e, b, c, d⟩⟩ := hw
  · exact ⟨h1.trans hs, .inl hw⟩
  · exact ⟨h1.trans hs, .inr ⟨id, cs, a, e, hs _ _ b, c, d⟩⟩
theorem Wr.app (hw : Wr tb h0 h y l) (hz : (U tb).sz = 1) (hb : (U tb).bytes = 1) (hf : (U tb).zero = byteA 0) (hsrc : ∀ k : List AV → Prop, k (m.map byteA) → srcA U tb h v k)
    (hlen : l.length + m.length ≤ 140737488355328) (hk : ∀ y' h', Wr tb h0 h' y' (l ++ m) → Q y' h') : apK U h y v Q (.slice tb) := by
  have hs := hw.1
  have one : Sized (U tb).sz (m.map byteA) := by rw [hz, Sized_bytes]; trivial
  obtain ⟨_, ⟨rfl, rfl⟩ | ⟨id, cs, h1, rfl, h2, h3, h4⟩⟩ := hw
  · refine (apK_full ..).mpr ⟨by rw [hz]; decide, by rw [hb]; decide, hsrc _ ⟨by simp [Sized], one, by rw [hb]; simpa using hlen, fun hn => ?_, fun hn => ?_⟩⟩
    · have : m = [] := by simpa using hn
      subst this
      exact hk _ _ (.nil hs)
    · refine .oa hz (by rw [hf]; simp [fit, byteA, Value.oneCell']) (by rw [hf]; rfl) (noAgg_bytes m) fun id k hid => ?_
      refine hk _ _ ⟨hs.new hid _, .inr ⟨id, _, hs.none hid, ?_, upd_same .., ?_, ?_⟩⟩
      · simp
      · simp
      · simp [List.take_append_of_le_length]
  · refine ⟨by rw [hz]; decide, by rw [hb]; decide, hz, hsrc _ ⟨by rw [← hz]; exact one, noAgg_bytes m, by rw [hb]; simpa using hlen, ?_⟩⟩
    rw [h2]
    refine ⟨by omega, ?_, by rw [hf]; simp [fit, byteA, Value.oneCell'], by rw [hf]; rfl, fun hle => ?_, fun id' k hid => ?_⟩
    · rw [List.drop_zero, h4]; exact noAgg_bytes l
    · rw [List.length_map] at hle ⊢
      have hsub : Sub h0 (upd h id (some (.obj (over cs (0 + l.length) (m.map byteA)) tb))) := fun j b hj => by
        by_cases e : j = id
        · subst e; rw [h1] at hj; cases hj
        · rw [upd_other _ _ e]; exact hs _ _ hj
      have ho : (over cs (0 + l.length) (m.map byteA)).length = cs.length := over_length (by simpa using hle)
      refine hk _ _ ⟨hsub, .inr ⟨id, _, h1, by rw [List.length_append], upd_same .., by rw [ho, List.length_append]; omega, ?_⟩⟩
      rw [over, Nat.zero_add, h4, List.map_append, List.length_append, List.take_append_of_le_length (by simp), ← List.map_append]
      exact List.take_of_length_le (by simp)
    · rw [List.length_map]
      refine hk _ _ ⟨hs.new hid _, .inr ⟨id', _, hs.none hid, by rw [List.length_append], upd_same .., ?_, ?_⟩⟩
      · rw [List.drop_zero, h4]; simp
      · rw [List.drop_zero, h4, ← List.map_append, List.take_append_of_le_length (by simp)]
        exact List.take_of_length_le (by simp)

/-- A byte written. -/
theorem Wr.put (hw : Wr tb h0 h y l) (hz : (U tb).sz = 1) (j : Nat) (hj : j < l.length) {K : AV → Prop} {x : IntKind} (hk : ∀ id cs, y = .oa id 0 l.length → h0 id = none → h id = some (.obj cs tb) → l.length ≤ cs.length → cs.take l.length = l.map byteA → K (.ptr id j)) : iaddrK U y (.v (.int x (j : Nat))) K (.slice tb) := by
  obtain ⟨hs, ⟨rfl, rfl⟩ | ⟨id, cs, h1, rfl, h2, h3, h4⟩⟩ := hw
  · cases hj
  · refine (iaddrK_oa ..).mpr ⟨by rw [hz]; decide, by omega, by omega, ?_⟩
    rw [hz, Nat.zero_add, Nat.mul_one]
    exact hk id cs rfl h1 h2 h3 h4
theorem Wr.put2 {id : Nat} {cs : List AV} {j : Nat} {c : UInt8} (hs : Sub h0 h) (h1 : h0 id = none) (h2 : h id = some (.obj cs tb)) (h3 : l.length ≤ cs.length) (h4 : cs.take l.length = l.map byteA) (hj : j < l.length) :
    Wr tb h0 (upd h id (some (.obj (over cs j [byteA c]) tb))) (.oa id 0 l.length) (l.set j c) := by
  refine ⟨fun i b hi => ?_, .inr ⟨id, _, h1, by rw [List.length_set], upd_same .., ?_, ?_⟩⟩
  · by_cases e : i = id
    · subst e; rw [h1] at hi; cases hi
    · rw [upd_other _ _ e]; exact hs _ _ hi
  · rw [over_length (by simp; omega), List.length_set]; exact h3
  · have e : Ab.over cs j [byteA c] = cs.set j (byteA c) := by
      rw [Ab.over, List.length_singleton, List.set_eq_take_append_cons_drop, if_pos (by omega)]; simp
    rw [e, List.length_set, List.take_set, h4, List.map_set]
end
end Go.Ab

/- Numbers of 64 bits put together out of bytes. -/
set_option linter.unusedSimpArgs false
set_option linter.unusedVariables false
namespace Go.Ab
open Go

section
variable {U : TypeId → TI} {ty : TypeId} {K : AV → Prop}
theorem or64 (a b k : Nat) (ha : a < 2 ^ k) (hk : k ≤ 24) (hb : b < 256) : IntKind.i64.wrap (((BitVec.ofInt IntKind.i64.bits (a : Int) ||| BitVec.ofInt IntKind.i64.bits ((b * 2 ^ k : Nat) : Int)).toNat : Nat) : Int) = ((a + b * 2 ^ k : Nat) : Int) := by
  have h24 : 2 ^ k ≤ 2 ^ 24 := Nat.pow_le_pow_right (by decide) hk
  have hlt : b * 2 ^ k + a < 4294967296 := by
    have : (b + 1) * 2 ^ k ≤ 256 * 2 ^ 24 := Nat.mul_le_mul (by omega) h24
    rw [Nat.add_mul] at this
    have e : 256 * 2 ^ 24 = 4294967296 := by decide
    omega
  have e1 : (BitVec.ofNat 64 a ||| BitVec.ofNat 64 (b * 2 ^ k)).toNat = a + b * 2 ^ k := by
    rw [BitVec.toNat_or, BitVec.toNat_ofNat, BitVec.toNat_ofNat, Nat.mod_eq_of_lt (by omega), Nat.mod_eq_of_lt (by omega), Nat.or_comm, ← Nat.shiftLeft_eq, ← Nat.shiftLeft_add_eq_or_of_lt ha, Nat.add_comm, Nat.shiftLeft_eq]
  show IntKind.i64.wrap (((BitVec.ofInt 64 (a : Int) ||| BitVec.ofInt 64 ((b * 2 ^ k : Nat) : Int)).toNat : Nat) : Int) = _
  rw [ofInt_nat, ofInt_nat, e1]
  exact wr64 _ (by omega)
theorem shl64 (b k : Nat) (hk : k ≤ 24) (hb : b < 256) : IntKind.i64.wrap ((b : Int) * 2 ^ (min (k : Int).toNat IntKind.i64.bits)) = ((b * 2 ^ k : Nat) : Int) := by
  have h24 : 2 ^ k ≤ 2 ^ 24 := Nat.pow_le_pow_right (by decide) hk
  have hbk : b * 2 ^ k ≤ 255 * 2 ^ 24 := Nat.mul_le_mul (by omega) h24
  have : min (k : Int).toNat IntKind.i64.bits = k := by simp [IntKind.bits]; omega
  rw [this, show ((b : Int) * 2 ^ k) = ((b * 2 ^ k : Nat) : Int) by simp]
  have e : 255 * 2 ^ 24 = 4278190080 := by decide
  exact wr64 _ (by omega)
theorem bor64 (a b k : Nat) (ha : a < 2 ^ k) (hk : k ≤ 24) (hb : b < 256) : binA U .or ty (.v (.int .i64 (a : Int))) (.v (.int .i64 ((b * 2 ^ k : Nat) : Int))) K = K (.v (.int .i64 ((a + b * 2 ^ k : Nat) : Int))) := by rw [b_or, or64 a b k ha hk hb]
theorem bshl64 (b k : Nat) (kk : IntKind) (hk : k ≤ 24) (hb : b < 256) : binA U .shl ty (.v (.int .i64 (b : Int))) (.v (.int kk (k : Int))) K = K (.v (.int .i64 ((b * 2 ^ k : Nat) : Int))) := by rw [b_shl, shl64 b k hk hb]; simp
end
end Go.Ab

/- The document's sums, frames and scans. -/
set_option linter.unusedSimpArgs false
set_option linter.unusedVariables false
namespace Go.Proofs.Ytidpcjblciompaa
open Go Go.Ab

theorem rsum_ok (y : AV) (l : List UInt8) (h : Heap) (hb : By h y l) (hl : l.length ≤ 1000000000) :
    FnOK Try.prog 51 [y] h fun r h' => r = .v (.int .u32 ((crc l).toNat : Int)) ∧ h' = h := by
  refine FnOK.body hU hm Try.func51 rfl (by kernel_rfl) 32 rfl [.tmp 2] rfl (Nat.le_of_ble_eq_true rfl) (fun hwf => ?_)
  simp -implicitDefEqProofs only [go_sem, ↓reduceIte, Nat.reduceLT, Nat.reduceEqDiff, Nat.reduceAdd, Nat.reduceLeDiff, Nat.reduceMul, Nat.reduceSub, Int.natCast_zero, Int.ofNat_zero, Int.natCast_one, Int.cast_ofNat_Int, bne_self_eq_false, beq_self_eq_true, Int.reduceBEq, Int.reduceBNe, Bool.not_true, Bool.not_false, hb.len]
  refine .intro (fun m ρ h' => h' = h ∧ ∃ i : Nat, i ≤ l.length ∧ m = l.length - i ∧ lk ρ 7 = some y ∧ lk ρ 8 = some (.v (.int .i64 l.length)) ∧ lk ρ 9 = some (.v (.int .i64 i)) ∧ lk ρ 3 = some (.v (.int .u32 (((l.take i).foldl crcByte (BitVec.allOnes 32)).toNat : Int)))) l.length ?_ ?_
  · refine ⟨rfl, 0, by omega, rfl, ?_, ?_, ?_, ?_⟩ <;> simp -implicitDefEqProofs only [go_sem, ↓reduceIte, Nat.reduceLT, Nat.reduceEqDiff, Nat.reduceAdd, Nat.reduceLeDiff, Nat.reduceMul, Nat.reduceSub, Int.natCast_zero, Int.ofNat_zero, Int.natCast_one, Int.cast_ofNat_Int, bne_self_eq_false, beq_self_eq_true, Int.reduceBEq, Int.reduceBNe, Bool.not_true, Bool.not_false]
    rfl
  · rintro m ρ h' ⟨rfl, i, hi, rfl, r7, r8, r9, r3⟩
    simp -implicitDefEqProofs only [go_sem, ↓reduceIte, Nat.reduceLT, Nat.reduceEqDiff, Nat.reduceAdd, Nat.reduceLeDiff, Nat.reduceMul, Nat.reduceSub, Int.natCast_zero, Int.ofNat_zero, Int.natCast_one, Int.cast_ofNat_Int, bne_self_eq_false, beq_self_eq_true, Int.reduceBEq, Int.reduceBNe, Bool.not_true, Bool.not_false, r7, r8, r9, r3]
    refine .intro (fun e => ?_) (fun e => ?_)
    · have hlt : i < l.length := Int.ofNat_lt.1 (of_decide_eq_true e)
      have w1 : IntKind.i64.wrap ((i : Int) + 1) = ((i + 1 : Nat) : Int) := by rw [wr64 _ (by omega)]; omega
      have hs : (l.take (i + 1)).foldl crcByte (BitVec.allOnes 32) = crcByte ((l.take i).foldl crcByte (BitVec.allOnes 32)) l[i] := by
        rw [List.take_succ_eq_append_getElem hlt, List.foldl_append]; rfl
      generalize (l.take i).foldl crcByte (BitVec.allOnes 32) = s at r3 hs
      simp -implicitDefEqProofs only [go_sem, ↓reduceIte, Nat.reduceLT, Nat.reduceEqDiff, Nat.reduceAdd, Nat.reduceLeDiff, Nat.reduceMul, Nat.reduceSub, Int.natCast_zero, Int.ofNat_zero, Int.natCast_one, Int.cast_ofNat_Int, bne_self_eq_false, beq_self_eq_true, Int.reduceBEq, Int.reduceBNe, Bool.not_true, Bool.not_false, r7, r8, r9, r3]
      refine hb.idx i rfl hlt u5 u5a fun p hp => ?_
      simp -implicitDefEqProofs only [go_sem, ↓reduceIte, Nat.reduceLT, Nat.reduceEqDiff, Nat.reduceAdd, Nat.reduceLeDiff, Nat.reduceMul, Nat.reduceSub, Int.natCast_zero, Int.ofNat_zero, Int.natCast_one, Int.cast_ofNat_Int, bne_self_eq_false, beq_self_eq_true, Int.reduceBEq, Int.reduceBNe, Bool.not_true, Bool.not_false, r7, r8, r9, r3, hp _, byte32]
      refine .intro (fun m ρ h2 => h2 = h' ∧ ∃ j : Nat, j ≤ 8 ∧ m = 8 - j ∧ lk ρ 7 = some y ∧ lk ρ 8 = some (.v (.int .i64 l.length)) ∧ lk ρ 9 = some (.v (.int .i64 i)) ∧ lk ρ 6 = some (.v (.int .i64 j)) ∧ lk ρ 3 = some (.v (.int .u32 ((crcN j (s ^^^ BitVec.ofNat 32 l[i].toNat)).toNat : Int)))) 8 ?_ ?_
      · refine ⟨rfl, 0, by omega, rfl, ?_, ?_, ?_, ?_, ?_⟩ <;> simp -implicitDefEqProofs only [go_sem, ↓reduceIte, Nat.reduceLT, Nat.reduceEqDiff, Nat.reduceAdd, Nat.reduceLeDiff, Nat.reduceMul, Nat.reduceSub, Int.natCast_zero, Int.ofNat_zero, Int.natCast_one, Int.cast_ofNat_Int, bne_self_eq_false, beq_self_eq_true, Int.reduceBEq, Int.reduceBNe, Bool.not_true, Bool.not_false, r7, r8, r9, r3]
        rfl
      · rintro m ρ h2 ⟨rfl, j, hj, rfl, q7, q8, q9, q17, q3⟩
        simp -implicitDefEqProofs only [go_sem, ↓reduceIte, Nat.reduceLT, Nat.reduceEqDiff, Nat.reduceAdd, Nat.reduceLeDiff, Nat.reduceMul, Nat.reduceSub, Int.natCast_zero, Int.ofNat_zero, Int.natCast_one, Int.cast_ofNat_Int, bne_self_eq_false, beq_self_eq_true, Int.reduceBEq, Int.reduceBNe, Bool.not_true, Bool.not_false, q7, q8, q9, q17, q3]
        refine .intro (fun e => ?_) (fun e => ?_)
        · have hjl : j < 8 := by have := of_decide_eq_true e; omega
          have w2 : IntKind.i64.wrap ((j : Int) + 1) = ((j + 1 : Nat) : Int) := by rw [wr64 _ (by omega)]; omega
          have hc : crcN (j + 1) (s ^^^ BitVec.ofNat 32 l[i].toNat) = crcBit (crcN j (s ^^^ BitVec.ofNat 32 l[i].toNat)) := rfl
          generalize crcN j (s ^^^ BitVec.ofNat 32 l[i].toNat) = z at q3 hc
          simp -implicitDefEqProofs only [go_sem, ↓reduceIte, Nat.reduceLT, Nat.reduceEqDiff, Nat.reduceAdd, Nat.reduceLeDiff, Nat.reduceMul, Nat.reduceSub, Int.natCast_zero, Int.ofNat_zero, Int.natCast_one, Int.cast_ofNat_Int, bne_self_eq_false, beq_self_eq_true, Int.reduceBEq, Int.reduceBNe, Bool.not_true, Bool.not_false, q7, q8, q9, q17, q3, out_eq]
          refine .intro (fun e2 => ?_) (fun e2 => ?_)
          · simp -implicitDefEqProofs only [go_sem, ↓reduceIte, Nat.reduceLT, Nat.reduceEqDiff, Nat.reduceAdd, Nat.reduceLeDiff, Nat.reduceMul, Nat.reduceSub, Int.natCast_zero, Int.ofNat_zero, Int.natCast_one, Int.cast_ofNat_Int, bne_self_eq_false, beq_self_eq_true, Int.reduceBEq, Int.reduceBNe, Bool.not_true, Bool.not_false, q7, q8, q9, q17, q3, out_eq, w2]
            refine ⟨_, ?_, rfl, j + 1, by omega, rfl, ?_, ?_, ?_, ?_, ?_⟩
            rotate_left 5
            · simp -implicitDefEqProofs only [go_sem, ↓reduceIte, Nat.reduceLT, Nat.reduceEqDiff, Nat.reduceAdd, Nat.reduceLeDiff, Nat.reduceMul, Nat.reduceSub, Int.natCast_zero, Int.ofNat_zero, Int.natCast_one, Int.cast_ofNat_Int, bne_self_eq_false, beq_self_eq_true, Int.reduceBEq, Int.reduceBNe, Bool.not_true, Bool.not_false, q7, q8, q9, q17, q3]
              rw [hc, crcBit, if_pos (of_decide_eq_true e2)]
            · omega
            all_goals simp -implicitDefEqProofs only [go_sem, ↓reduceIte, Nat.reduceLT, Nat.reduceEqDiff, Nat.reduceAdd, Nat.reduceLeDiff, Nat.reduceMul, Nat.reduceSub, Int.natCast_zero, Int.ofNat_zero, Int.natCast_one, Int.cast_ofNat_Int, bne_self_eq_false, beq_self_eq_true, Int.reduceBEq, Int.reduceBNe, Bool.not_true, Bool.not_false, q7, q8, q9, q17, q3, w2]
          · simp -implicitDefEqProofs only [go_sem, ↓reduceIte, Nat.reduceLT, Nat.reduceEqDiff, Nat.reduceAdd, Nat.reduceLeDiff, Nat.reduceMul, Nat.reduceSub, Int.natCast_zero, Int.ofNat_zero, Int.natCast_one, Int.cast_ofNat_Int, bne_self_eq_false, beq_self_eq_true, Int.reduceBEq, Int.reduceBNe, Bool.not_true, Bool.not_false, q7, q8, q9, q17, q3, out_eq, w2]
            refine ⟨_, ?_, rfl, j + 1, by omega, rfl, ?_, ?_, ?_, ?_, ?_⟩
            rotate_left 5
            · simp -implicitDefEqProofs only [go_sem, ↓reduceIte, Nat.reduceLT, Nat.reduceEqDiff, Nat.reduceAdd, Nat.reduceLeDiff, Nat.reduceMul, Nat.reduceSub, Int.natCast_zero, Int.ofNat_zero, Int.natCast_one, Int.cast_ofNat_Int, bne_self_eq_false, beq_self_eq_true, Int.reduceBEq, Int.reduceBNe, Bool.not_true, Bool.not_false, q7, q8, q9, q17, q3]
              rw [hc, crcBit, if_neg (of_decide_eq_false e2)]
            · omega
            all_goals simp -implicitDefEqProofs only [go_sem, ↓reduceIte, Nat.reduceLT, Nat.reduceEqDiff, Nat.reduceAdd, Nat.reduceLeDiff, Nat.reduceMul, Nat.reduceSub, Int.natCast_zero, Int.ofNat_zero, Int.natCast_one, Int.cast_ofNat_Int, bne_self_eq_false, beq_self_eq_true, Int.reduceBEq, Int.reduceBNe, Bool.not_true, Bool.not_false, q7, q8, q9, q17, q3, w2]
        · have hj8 : j = 8 := by have := of_decide_eq_false e; omega
          subst hj8
          simp -implicitDefEqProofs only [go_sem, ↓reduceIte, Nat.reduceLT, Nat.reduceEqDiff, Nat.reduceAdd, Nat.reduceLeDiff, Nat.reduceMul, Nat.reduceSub, Int.natCast_zero, Int.ofNat_zero, Int.natCast_one, Int.cast_ofNat_Int, bne_self_eq_false, beq_self_eq_true, Int.reduceBEq, Int.reduceBNe, Bool.not_true, Bool.not_false, q7, q8, q9, q17, q3, w1]
          refine ⟨_, ?_, rfl, i + 1, by omega, rfl, ?_, ?_, ?_, ?_⟩
          rotate_left 4
          · simp -implicitDefEqProofs only [go_sem, ↓reduceIte, Nat.reduceLT, Nat.reduceEqDiff, Nat.reduceAdd, Nat.reduceLeDiff, Nat.reduceMul, Nat.reduceSub, Int.natCast_zero, Int.ofNat_zero, Int.natCast_one, Int.cast_ofNat_Int, bne_self_eq_false, beq_self_eq_true, Int.reduceBEq, Int.reduceBNe, Bool.not_true, Bool.not_false, q7, q8, q9, q17, q3]
            rw [hs]; rfl
          · omega
          all_goals simp -implicitDefEqProofs only [go_sem, ↓reduceIte, Nat.reduceLT, Nat.reduceEqDiff, Nat.reduceAdd, Nat.reduceLeDiff, Nat.reduceMul, Nat.reduceSub, Int.natCast_zero, Int.ofNat_zero, Int.natCast_one, Int.cast_ofNat_Int, bne_self_eq_false, beq_self_eq_true, Int.reduceBEq, Int.reduceBNe, Bool.not_true, Bool.not_false, q7, q8, q9, q17, q3, w1]
    · have hge : i = l.length := by have := of_decide_eq_false e; omega
      subst hge
      rw [List.take_length] at r3
      simp -implicitDefEqProofs only [go_sem, ↓reduceIte, Nat.reduceLT, Nat.reduceEqDiff, Nat.reduceAdd, Nat.reduceLeDiff, Nat.reduceMul, Nat.reduceSub, Int.natCast_zero, Int.ofNat_zero, Int.natCast_one, Int.cast_ofNat_Int, bne_self_eq_false, beq_self_eq_true, Int.reduceBEq, Int.reduceBNe, Bool.not_true, Bool.not_false, r7, r8, r9, r3]
      exact .same (.refl _) ⟨rfl, rfl⟩

theorem rframe_ok (y : AV) (l : List UInt8) (h : Heap) (hb : By h y l) (hl : l.length ≤ 1000000) :
    FnOK Try.prog 28 [y] h fun r h' => r = .sl ((frame l).map byteA) .no ∧ Sub h h' := by
  refine FnOK.body hU hm Try.func28 rfl (by kernel_rfl) 37 rfl [.tmp 2] rfl (Nat.le_of_ble_eq_true rfl) (fun hwf => ?_)
  have w1 := w32 l.length (by omega)
  simp -implicitDefEqProofs only [go_sem, ↓reduceIte, Nat.reduceLT, Nat.reduceEqDiff, Nat.reduceAdd, Nat.reduceLeDiff, Nat.reduceMul, Nat.reduceSub, Int.natCast_zero, Int.ofNat_zero, Int.natCast_one, Int.cast_ofNat_Int, bne_self_eq_false, beq_self_eq_true, Int.reduceBEq, Int.reduceBNe, Bool.not_true, Bool.not_false, hb.len, w1]
  refine (rsum_ok y l h hb (by omega)).pthen ?_
  have s8 := fun n K => bshrN (U := U) (ty := 78) (K := K) n 8 .u64 (by decide)
  have s16 := fun n K => bshrN (U := U) (ty := 78) (K := K) n 16 .u64 (by decide)
  have s24 := fun n K => bshrN (U := U) (ty := 78) (K := K) n 24 .u64 (by decide)
  simp only [Int.cast_ofNat_Int] at s8 s16 s24
  simp -implicitDefEqProofs only [go_sem, ↓reduceIte, Nat.reduceLT, Nat.reduceEqDiff, Nat.reduceAdd, Nat.reduceLeDiff, Nat.reduceMul, Nat.reduceSub, Int.natCast_zero, Int.ofNat_zero, Int.natCast_one, Int.cast_ofNat_Int, bne_self_eq_false, beq_self_eq_true, Int.reduceBEq, Int.reduceBNe, Bool.not_true, Bool.not_false, ↓s8, ↓s16, ↓s24, w8, hb.src u5]
  refine ⟨by omega, .acc fun z h1 ha hk => ?_⟩
  simp -implicitDefEqProofs only [go_sem, ↓reduceIte, Nat.reduceLT, Nat.reduceEqDiff, Nat.reduceAdd, Nat.reduceLeDiff, Nat.reduceMul, Nat.reduceSub, Int.natCast_zero, Int.ofNat_zero, Int.natCast_one, Int.cast_ofNat_Int, bne_self_eq_false, beq_self_eq_true, Int.reduceBEq, Int.reduceBNe, Bool.not_true, Bool.not_false]
  refine .mk _ ha.weak (.refl _) ⟨?_, ha.1⟩
  simp [oneOr, frame, fourL, byteA]

theorem rframe_four (p : List UInt8) : ((frame p).take 8).drop 4 = fourL (crc p).toNat := by
  simp [frame, fourL]
theorem rfour_eq (l : List UInt8) (n : Nat) (hn : n < 4294967296) (hl : 8 ≤ l.length) : (fourL n = (l.take 8).drop 4) ↔ n = numL (l.drop 4) := by
  have e : (l.take 8).drop 4 = [l[4], l[5], l[6], l[7]] := by
    apply List.ext_getElem
    · simp; omega
    · intro i h1 h2
      simp at h2
      have : i = 0 ∨ i = 1 ∨ i = 2 ∨ i = 3 := by omega
      rcases this with rfl | rfl | rfl | rfl <;> simp
  have f : numL (l.drop 4) = l[4].toNat + l[5].toNat * 256 + l[6].toNat * 65536 + l[7].toNat * 16777216 := by
    unfold numL
    simp [List.getD_eq_getElem?_getD, show 4 < l.length by omega, show 5 < l.length by omega, show 6 < l.length by omega, show 7 < l.length by omega]
  have lt : ∀ c : UInt8, c.toNat < 256 := fun c => c.toNat_lt
  have := lt l[4]
  have := lt l[5]
  have := lt l[6]
  have := lt l[7]
  rw [e, f]
  constructor
  · intro h
    simp only [fourL, List.cons.injEq, and_true] at h
    obtain ⟨h0, h1, h2, h3⟩ := h
    rw [← h0, ← h1, ← h2, ← h3]
    simp only [UInt8.toNat_ofNat']
    omega
  · intro h
    rw [h]
    simp only [fourL, List.cons.injEq, and_true]
    refine ⟨?_, ?_, ?_, ?_⟩ <;> apply UInt8.toNat_inj.1 <;> simp only [UInt8.toNat_ofNat'] <;> omega

theorem rows_snoc {h : Heap} {xs : List AV} {ps : List (List UInt8)} {x : AV} {p : List UInt8} (hr : Ab.Rows 5 h xs ps) (hx : By h x p) : Ab.Rows 5 h (xs ++ [x]) (ps ++ [p]) := ⟨by simp [hr.1], fun i h1 h2 => by
  have hl := hr.1
  by_cases hi : i < xs.length
  · rw [List.getElem_append_left hi, List.getElem_append_left (by omega)]
    exact hr.2 i hi (by omega)
  · have e : i = xs.length := by simp at h1; omega
    subst e
    rw [List.getElem_append_right (by omega), List.getElem_append_right (by omega)]
    simpa [hl] using hx⟩

theorem rscan_ok (y : AV) (l : List UInt8) (h : Heap) (hb : By h y l) (hl : l.length ≤ 2000000) :
    FnOK Try.prog 30 [y] h fun r h' => ∃ z xs sp, r = .tup [z, .v (.int .i64 ((scan l).2 : Nat))] ∧ GrowAt h' z xs sp ∧ (∀ g, Ab.Rows 5 g xs (scan l).1) ∧ Sub h h' ∧ ∀ i ∈ sp, h i = none := by
  refine FnOK.body hU hm Try.func30 rfl (by kernel_rfl) 102 rfl [.tmp 2, .tmp 3] rfl (Nat.le_of_ble_eq_true rfl) (fun hwf => ?_)
  simp -implicitDefEqProofs only [go_sem, ↓reduceIte, Nat.reduceLT, Nat.reduceEqDiff, Nat.reduceAdd, Nat.reduceLeDiff, Nat.reduceMul, Nat.reduceSub, Int.natCast_zero, Int.ofNat_zero, Int.natCast_one, Int.cast_ofNat_Int, bne_self_eq_false, beq_self_eq_true, Int.reduceBEq, Int.reduceBNe, Bool.not_true, Bool.not_false]
  refine .intro (fun m ρ h' => ∃ (i : Nat) (ps : List (List UInt8)) (xs : List AV) (z : AV), Acc U 27 h h' z xs ∧ (∀ g, Ab.Rows 5 g xs ps) ∧ KeepObj h h' ∧ ps.length ≤ i ∧ i ≤ l.length ∧ m = l.length - i ∧ scan l = (ps ++ (scan (l.drop i)).1, i + (scan (l.drop i)).2) ∧
    lk ρ 0 = some y ∧ lk ρ 4 = some z ∧ lk ρ 5 = some (.v (.int .i64 (i : Nat)))) l.length ?_ ?_
  · refine ⟨0, [], [], _, .full (.refl h), fun _ => .nil, .refl h, by simp, by omega, rfl, by simp, ?_, ?_, ?_⟩ <;> simp -implicitDefEqProofs only [go_sem, ↓reduceIte, Nat.reduceLT, Nat.reduceEqDiff, Nat.reduceAdd, Nat.reduceLeDiff, Nat.reduceMul, Nat.reduceSub, Int.natCast_zero, Int.ofNat_zero, Int.natCast_one, Int.cast_ofNat_Int, bne_self_eq_false, beq_self_eq_true, Int.reduceBEq, Int.reduceBNe, Bool.not_true, Bool.not_false]
  · rintro m ρ h' ⟨i, ps, xs, z, ha, hrs, hk, hpi, hi, rfl, hsc, r0, r4, r5⟩
    have hb' := hb.keepObj hk
    have fin : beginsL (l.drop i) = none → ∀ g, Acc U 27 h g z xs → (RetOK [z, .v (.int .i64 (i : Nat))] g fun r h' => ∃ z xs sp, r = .tup [z, .v (.int .i64 ((scan l).2 : Nat))] ∧ GrowAt h' z xs sp ∧ (∀ g, Ab.Rows 5 g xs (scan l).1) ∧ Sub h h' ∧ ∀ i ∈ sp, h i = none) := fun hbg g ha => by
      rw [scan_none hbg] at hsc
      have hs := ha.1
      rw [hsc]
      rcases ha.2 with rfl | ⟨k, k1, rfl, k2⟩
      · exact .same (.refl _) ⟨_, xs, [], rfl, .inl ⟨rfl, rfl⟩, by simpa using hrs, hs, by simp⟩
      · rw [u27] at k2
        exact .same (.refl _) ⟨_, xs, [k], rfl, .inr ⟨k, rfl, k2, rfl⟩, by simpa using hrs, hs, by simpa using k1⟩
    have w0 : IntKind.i64.wrap ((l.length : Int) - (i : Int)) = ((l.length - i : Nat) : Int) := by rw [wr64 _ (by omega)]; omega
    simp -implicitDefEqProofs only [go_sem, ↓reduceIte, Nat.reduceLT, Nat.reduceEqDiff, Nat.reduceAdd, Nat.reduceLeDiff, Nat.reduceMul, Nat.reduceSub, Int.natCast_zero, Int.ofNat_zero, Int.natCast_one, Int.cast_ofNat_Int, bne_self_eq_false, beq_self_eq_true, Int.reduceBEq, Int.reduceBNe, Bool.not_true, Bool.not_false, r0, r4, r5, hb'.len, w0]
    refine .intro (fun e => ?_) (fun e => ?_)
    · have e8 : 8 ≤ l.length - i := by have := of_decide_eq_true e; omega
      have lt : ∀ c : UInt8, c.toNat < 256 := fun c => c.toNat_lt
      have hd : (l.drop i).length = l.length - i := by simp
      obtain ⟨n, hnum⟩ : ∃ n, numL (l.drop i) = n := ⟨_, rfl⟩
      have hnum' : n = l[i].toNat + l[i + 1].toNat * 2 ^ 8 + l[i + 2].toNat * 2 ^ 16 + l[i + 3].toNat * 2 ^ 24 := by
        rw [← hnum]
        unfold numL
        simp [List.getD_eq_getElem?_getD, show i < l.length by omega, show i + 1 < l.length by omega, show i + 2 < l.length by omega, show i + 3 < l.length by omega]
      have hn32 := numL_lt (l.drop i)
      rw [hnum] at hn32
      generalize hc0 : l[i] = c0 at hnum'
      generalize hc1 : l[i + 1] = c1 at hnum'
      generalize hc2 : l[i + 2] = c2 at hnum'
      generalize hc3 : l[i + 3] = c3 at hnum'
      have v := fun c : UInt8 => wr64 (c.toNat : Int) (by have := lt c; omega)
      have a1 : IntKind.i64.wrap ((i : Int) + 1) = ((i + 1 : Nat) : Int) := by rw [wr64 _ (by omega)]; omega
      have a2 : IntKind.i64.wrap ((i : Int) + 2) = ((i + 2 : Nat) : Int) := by rw [wr64 _ (by omega)]; omega
      have a3 : IntKind.i64.wrap ((i : Int) + 3) = ((i + 3 : Nat) : Int) := by rw [wr64 _ (by omega)]; omega
      have s1 := fun K => bshl64 (U := U) (ty := 3) (K := K) c1.toNat 8 .u64 (by decide) (lt _)
      have s2 := fun K => bshl64 (U := U) (ty := 3) (K := K) c2.toNat 16 .u64 (by decide) (lt _)
      have s3 := fun K => bshl64 (U := U) (ty := 3) (K := K) c3.toNat 24 .u64 (by decide) (lt _)
      have o1 := fun K => bor64 (U := U) (ty := 3) (K := K) c0.toNat c1.toNat 8 (by have := lt c0; omega) (by decide) (lt _)
      have o2 := fun K => bor64 (U := U) (ty := 3) (K := K) (c0.toNat + c1.toNat * 2 ^ 8) c2.toNat 16 (by have := lt c0; have := lt c1; omega) (by decide) (lt _)
      have o3 := fun K => bor64 (U := U) (ty := 3) (K := K) (c0.toNat + c1.toNat * 2 ^ 8 + c2.toNat * 2 ^ 16) c3.toNat 24 (by have := lt c0; have := lt c1; have := lt c2; omega) (by decide) (lt _)
      simp only [Int.cast_ofNat_Int] at s1 s2 s3
      simp -implicitDefEqProofs only [go_sem, ↓reduceIte, Nat.reduceLT, Nat.reduceEqDiff, Nat.reduceAdd, Nat.reduceLeDiff, Nat.reduceMul, Nat.reduceSub, Int.natCast_zero, Int.ofNat_zero, Int.natCast_one, Int.cast_ofNat_Int, bne_self_eq_false, beq_self_eq_true, Int.reduceBEq, Int.reduceBNe, Bool.not_true, Bool.not_false, r0, r4, r5, hb'.len, w0]
      refine ⟨.of (by kernel_rfl), ?_⟩
      refine hb'.idx i rfl (by omega) u5 u5a fun p0 hp0 => ?_
      rw [hc0] at hp0
      simp -implicitDefEqProofs only [go_sem, ↓reduceIte, Nat.reduceLT, Nat.reduceEqDiff, Nat.reduceAdd, Nat.reduceLeDiff, Nat.reduceMul, Nat.reduceSub, Int.natCast_zero, Int.ofNat_zero, Int.natCast_one, Int.cast_ofNat_Int, bne_self_eq_false, beq_self_eq_true, Int.reduceBEq, Int.reduceBNe, Bool.not_true, Bool.not_false, r0, r4, r5, hp0 _, v, a1]
      refine hb'.idx (i + 1) rfl (by omega) u5 u5a fun p1 hp1 => ?_
      rw [hc1] at hp1
      simp -implicitDefEqProofs only [go_sem, ↓reduceIte, Nat.reduceLT, Nat.reduceEqDiff, Nat.reduceAdd, Nat.reduceLeDiff, Nat.reduceMul, Nat.reduceSub, Int.natCast_zero, Int.ofNat_zero, Int.natCast_one, Int.cast_ofNat_Int, bne_self_eq_false, beq_self_eq_true, Int.reduceBEq, Int.reduceBNe, Bool.not_true, Bool.not_false, r0, r4, r5, hp1 _, v, ↓s1, ↓o1, a2]
      refine hb'.idx (i + 2) rfl (by omega) u5 u5a fun p2 hp2 => ?_
      rw [hc2] at hp2
      simp -implicitDefEqProofs only [go_sem, ↓reduceIte, Nat.reduceLT, Nat.reduceEqDiff, Nat.reduceAdd, Nat.reduceLeDiff, Nat.reduceMul, Nat.reduceSub, Int.natCast_zero, Int.ofNat_zero, Int.natCast_one, Int.cast_ofNat_Int, bne_self_eq_false, beq_self_eq_true, Int.reduceBEq, Int.reduceBNe, Bool.not_true, Bool.not_false, r0, r4, r5, hp2 _, v, ↓s2, ↓o2, a3]
      refine hb'.idx (i + 3) rfl (by omega) u5 u5a fun p3 hp3 => ?_
      rw [hc3] at hp3
      simp -implicitDefEqProofs only [go_sem, ↓reduceIte, Nat.reduceLT, Nat.reduceEqDiff, Nat.reduceAdd, Nat.reduceLeDiff, Nat.reduceMul, Nat.reduceSub, Int.natCast_zero, Int.ofNat_zero, Int.natCast_one, Int.cast_ofNat_Int, bne_self_eq_false, beq_self_eq_true, Int.reduceBEq, Int.reduceBNe, Bool.not_true, Bool.not_false, r0, r4, r5, hp3 _, v, ↓s3, ↓o3]
      rw [← hnum']
      have w1 : IntKind.i64.wrap (((l.length - i : Nat) : Int) - 8) = ((l.length - i - 8 : Nat) : Int) := by rw [wr64 _ (by omega)]; omega
      by_cases hbad : n < 1 ∨ 8192 < n ∨ l.length - i - 8 < n
      · have hnone : beginsL (l.drop i) = none := by unfold beginsL; rw [if_neg (by omega), hnum, hd, if_pos hbad]
        by_cases c1 : n < 1
        · have t2 : decide ((n : Int) < 1) = true := decide_eq_true (by omega)
          simp -implicitDefEqProofs only [go_sem, ↓reduceIte, Nat.reduceLT, Nat.reduceEqDiff, Nat.reduceAdd, Nat.reduceLeDiff, Nat.reduceMul, Nat.reduceSub, Int.natCast_zero, Int.ofNat_zero, Int.natCast_one, Int.cast_ofNat_Int, bne_self_eq_false, beq_self_eq_true, Int.reduceBEq, Int.reduceBNe, Bool.not_true, Bool.not_false, r0, r4, r5, hb'.len, w0, w1, t2]
          exact fin hnone _ ha
        · have t2 : decide ((n : Int) < 1) = false := decide_eq_false (by omega)
          by_cases c2 : 8192 < n
          · have t3 : decide ((8192 : Int) < (n : Int)) = true := decide_eq_true (by omega)
            simp -implicitDefEqProofs only [go_sem, ↓reduceIte, Nat.reduceLT, Nat.reduceEqDiff, Nat.reduceAdd, Nat.reduceLeDiff, Nat.reduceMul, Nat.reduceSub, Int.natCast_zero, Int.ofNat_zero, Int.natCast_one, Int.cast_ofNat_Int, bne_self_eq_false, beq_self_eq_true, Int.reduceBEq, Int.reduceBNe, Bool.not_true, Bool.not_false, r0, r4, r5, hb'.len, w0, w1, t2, t3]
            exact fin hnone _ ha
          · have t3 : decide ((8192 : Int) < (n : Int)) = false := decide_eq_false (by omega)
            have t4 : decide (((l.length - i - 8 : Nat) : Int) < (n : Int)) = true := decide_eq_true (by omega)
            simp -implicitDefEqProofs only [go_sem, ↓reduceIte, Nat.reduceLT, Nat.reduceEqDiff, Nat.reduceAdd, Nat.reduceLeDiff, Nat.reduceMul, Nat.reduceSub, Int.natCast_zero, Int.ofNat_zero, Int.natCast_one, Int.cast_ofNat_Int, bne_self_eq_false, beq_self_eq_true, Int.reduceBEq, Int.reduceBNe, Bool.not_true, Bool.not_false, r0, r4, r5, hb'.len, w0, w1, t2, t3, t4]
            exact fin hnone _ ha
      · have t2 : decide ((n : Int) < 1) = false := decide_eq_false (by omega)
        have t3 : decide ((8192 : Int) < (n : Int)) = false := decide_eq_false (by omega)
        have t4 : decide (((l.length - i - 8 : Nat) : Int) < (n : Int)) = false := decide_eq_false (by omega)
        have a8 : IntKind.i64.wrap ((i : Int) + 8) = ((i + 8 : Nat) : Int) := by rw [wr64 _ (by omega)]; omega
        have a8n : IntKind.i64.wrap (((i + 8 : Nat) : Int) + (n : Int)) = ((i + 8 + n : Nat) : Int) := by rw [wr64 _ (by omega)]; omega
        simp -implicitDefEqProofs only [go_sem, ↓reduceIte, Nat.reduceLT, Nat.reduceEqDiff, Nat.reduceAdd, Nat.reduceLeDiff, Nat.reduceMul, Nat.reduceSub, Int.natCast_zero, Int.ofNat_zero, Int.natCast_one, Int.cast_ofNat_Int, bne_self_eq_false, beq_self_eq_true, Int.reduceBEq, Int.reduceBNe, Bool.not_true, Bool.not_false, r0, r4, r5, hb'.len, w0, w1, t2, t3, t4, a8, a8n]
        refine hb'.cut (m := ((i + 8 : Nat) : Int)) (m2 := ((i + 8 + n : Nat) : Int)) (x := .i64) (x2 := .i64) (i + 8) (i + 8 + n) ?_ rfl ?_ rfl (by omega) (by omega) u5 fun z0 hz0 => ?_
        · simp -implicitDefEqProofs only [go_sem, ↓reduceIte, Nat.reduceLT, Nat.reduceEqDiff, Nat.reduceAdd, Nat.reduceLeDiff, Nat.reduceMul, Nat.reduceSub, Int.natCast_zero, Int.ofNat_zero, Int.natCast_one, Int.cast_ofNat_Int, bne_self_eq_false, beq_self_eq_true, Int.reduceBEq, Int.reduceBNe, Bool.not_true, Bool.not_false, r0, r4, r5]
        · simp -implicitDefEqProofs only [go_sem, ↓reduceIte, Nat.reduceLT, Nat.reduceEqDiff, Nat.reduceAdd, Nat.reduceLeDiff, Nat.reduceMul, Nat.reduceSub, Int.natCast_zero, Int.ofNat_zero, Int.natCast_one, Int.cast_ofNat_Int, bne_self_eq_false, beq_self_eq_true, Int.reduceBEq, Int.reduceBNe, Bool.not_true, Bool.not_false, r0, r4, r5]
        rw [Nat.add_sub_cancel_left, ← List.drop_drop] at hz0
        obtain ⟨p, hp⟩ : ∃ p, ((l.drop i).drop 8).take n = p := ⟨_, rfl⟩
        rw [hp] at hz0
        have hpl : p.length = n := by rw [← hp, List.length_take, List.length_drop, hd]; omega
        simp -implicitDefEqProofs only [go_sem, ↓reduceIte, Nat.reduceLT, Nat.reduceEqDiff, Nat.reduceAdd, Nat.reduceLeDiff, Nat.reduceMul, Nat.reduceSub, Int.natCast_zero, Int.ofNat_zero, Int.natCast_one, Int.cast_ofNat_Int, bne_self_eq_false, beq_self_eq_true, Int.reduceBEq, Int.reduceBNe, Bool.not_true, Bool.not_false, r0, r4, r5, hz0.src u5, List.length_map]
        refine ⟨by omega, .acc fun z1 h2 hz1a hk2 => ?_⟩
        have hs2 := hz1a.1
        have hz1q := hz1a.row
        rw [List.nil_append] at hz1a hz1q
        have hz1 : By h2 z1 p := hz1a.bytes
        simp -implicitDefEqProofs only [go_sem, ↓reduceIte, Nat.reduceLT, Nat.reduceEqDiff, Nat.reduceAdd, Nat.reduceLeDiff, Nat.reduceMul, Nat.reduceSub, Int.natCast_zero, Int.ofNat_zero, Int.natCast_one, Int.cast_ofNat_Int, bne_self_eq_false, beq_self_eq_true, Int.reduceBEq, Int.reduceBNe, Bool.not_true, Bool.not_false, r0, r4, r5]
        refine (rframe_ok z1 p h2 hz1 (by omega)).sthen fun h3 hs3 => ?_
        have hF : By h3 (.sl ((frame p).map byteA) .no) (frame p) := .sl _ _
        generalize AV.sl ((frame p).map byteA) .no = y8 at hF
        have hb3 := (hb'.sub hs2).sub hs3
        have hFl := frame_length p
        simp -implicitDefEqProofs only [go_sem, ↓reduceIte, Nat.reduceLT, Nat.reduceEqDiff, Nat.reduceAdd, Nat.reduceLeDiff, Nat.reduceMul, Nat.reduceSub, Int.natCast_zero, Int.ofNat_zero, Int.natCast_one, Int.cast_ofNat_Int, bne_self_eq_false, beq_self_eq_true, Int.reduceBEq, Int.reduceBNe, Bool.not_true, Bool.not_false, r0, r4, r5]
        refine .intro (fun m ρ h'' => h'' = h3 ∧ ∃ (j : Nat), 4 ≤ j ∧ j ≤ 8 ∧ m = 8 - j ∧ lk ρ 0 = some y ∧ lk ρ 4 = some z ∧ lk ρ 5 = some (.v (.int .i64 (i : Nat))) ∧ lk ρ 6 = some (.v (.int .i64 (n : Nat))) ∧ lk ρ 7 = some z1 ∧ lk ρ 8 = some y8 ∧ lk ρ 10 = some (.v (.int .i64 (j : Nat))) ∧
          lk ρ 9 = some (.v (.bool (decide (((frame p).take j).drop 4 = ((l.drop i).take j).drop 4))))) (8 - 4) ?_ ?_
        · refine ⟨rfl, 4, by omega, by omega, rfl, ?_, ?_, ?_, ?_, ?_, ?_, ?_, ?_⟩ <;> simp -implicitDefEqProofs only [go_sem, ↓reduceIte, Nat.reduceLT, Nat.reduceEqDiff, Nat.reduceAdd, Nat.reduceLeDiff, Nat.reduceMul, Nat.reduceSub, Int.natCast_zero, Int.ofNat_zero, Int.natCast_one, Int.cast_ofNat_Int, bne_self_eq_false, beq_self_eq_true, Int.reduceBEq, Int.reduceBNe, Bool.not_true, Bool.not_false, r0, r4, r5]
          simp
        · rintro m ρ h'' ⟨rfl, j, j4, j8, rfl, q0, q4, q5, q6, q7, q8, q10, q9⟩
          rcases Nat.lt_or_ge j 8 with jlt | jge
          · have t5 : decide ((j : Int) < 8) = true := decide_eq_true (by omega)
            have aj : IntKind.i64.wrap ((i : Int) + (j : Int)) = ((i + j : Nat) : Int) := by rw [wr64 _ (by omega)]; omega
            have j1 : IntKind.i64.wrap ((j : Int) + 1) = ((j + 1 : Nat) : Int) := by rw [wr64 _ (by omega)]; omega
            have sF : ((frame p).take (j + 1)).drop 4 = ((frame p).take j).drop 4 ++ [(frame p)[j]'(by omega)] := by
              rw [List.take_succ_eq_append_getElem (by omega), List.drop_append_of_le_length (by simp; omega)]
            have sL : ((l.drop i).take (j + 1)).drop 4 = ((l.drop i).take j).drop 4 ++ [l[i + j]'(by omega)] := by
              rw [List.take_succ_eq_append_getElem (by simp; omega), List.drop_append_of_le_length (by simp; omega)]
              simp
            have hlen : (((frame p).take j).drop 4).length = (((l.drop i).take j).drop 4).length := by simp; omega
            by_cases hok : ((frame p).take j).drop 4 = ((l.drop i).take j).drop 4
            · rw [decide_eq_true hok] at q9
              simp -implicitDefEqProofs only [go_sem, ↓reduceIte, Nat.reduceLT, Nat.reduceEqDiff, Nat.reduceAdd, Nat.reduceLeDiff, Nat.reduceMul, Nat.reduceSub, Int.natCast_zero, Int.ofNat_zero, Int.natCast_one, Int.cast_ofNat_Int, bne_self_eq_false, beq_self_eq_true, Int.reduceBEq, Int.reduceBNe, Bool.not_true, Bool.not_false, q0, q4, q5, q6, q7, q8, q10, q9, t5]
              refine ⟨.of (by kernel_rfl), ?_⟩
              refine hF.idx j rfl (by omega) u5 u5a fun pa hpa => ?_
              simp -implicitDefEqProofs only [go_sem, ↓reduceIte, Nat.reduceLT, Nat.reduceEqDiff, Nat.reduceAdd, Nat.reduceLeDiff, Nat.reduceMul, Nat.reduceSub, Int.natCast_zero, Int.ofNat_zero, Int.natCast_one, Int.cast_ofNat_Int, bne_self_eq_false, beq_self_eq_true, Int.reduceBEq, Int.reduceBNe, Bool.not_true, Bool.not_false, q0, q4, q5, q6, q7, q8, q10, q9, t5, hpa _, aj]
              refine hb3.idx (i + j) rfl (by omega) u5 u5a fun pb hpb => ?_
              simp -implicitDefEqProofs only [go_sem, ↓reduceIte, Nat.reduceLT, Nat.reduceEqDiff, Nat.reduceAdd, Nat.reduceLeDiff, Nat.reduceMul, Nat.reduceSub, Int.natCast_zero, Int.ofNat_zero, Int.natCast_one, Int.cast_ofNat_Int, bne_self_eq_false, beq_self_eq_true, Int.reduceBEq, Int.reduceBNe, Bool.not_true, Bool.not_false, q0, q4, q5, q6, q7, q8, q10, q9, t5, hpb _, j1]
              have hdec : ((((frame p)[j]'(by omega)).toNat : Int) == ((l[i + j]'(by omega)).toNat : Int)) = decide (((frame p).take (j + 1)).drop 4 = ((l.drop i).take (j + 1)).drop 4) := by
                rw [sF, sL, hok, Bool.eq_iff_iff, beq_iff_eq, decide_eq_true_iff, List.append_right_inj, List.cons.injEq]
                simp only [and_true]
                rw [← UInt8.toNat_inj]; omega
              rw [hdec]
              refine ⟨_, ?_, rfl, j + 1, by omega, by omega, rfl, ?_, ?_, ?_, ?_, ?_, ?_, ?_, ?_⟩
              · omega
              all_goals simp -implicitDefEqProofs only [go_sem, ↓reduceIte, Nat.reduceLT, Nat.reduceEqDiff, Nat.reduceAdd, Nat.reduceLeDiff, Nat.reduceMul, Nat.reduceSub, Int.natCast_zero, Int.ofNat_zero, Int.natCast_one, Int.cast_ofNat_Int, bne_self_eq_false, beq_self_eq_true, Int.reduceBEq, Int.reduceBNe, Bool.not_true, Bool.not_false, q0, q4, q5, q6, q7, q8, q10, q9, j1]
            · rw [decide_eq_false hok] at q9
              simp -implicitDefEqProofs only [go_sem, ↓reduceIte, Nat.reduceLT, Nat.reduceEqDiff, Nat.reduceAdd, Nat.reduceLeDiff, Nat.reduceMul, Nat.reduceSub, Int.natCast_zero, Int.ofNat_zero, Int.natCast_one, Int.cast_ofNat_Int, bne_self_eq_false, beq_self_eq_true, Int.reduceBEq, Int.reduceBNe, Bool.not_true, Bool.not_false, q0, q4, q5, q6, q7, q8, q10, q9, t5]
              refine ⟨.of (by kernel_rfl), ?_⟩
              simp -implicitDefEqProofs only [go_sem, ↓reduceIte, Nat.reduceLT, Nat.reduceEqDiff, Nat.reduceAdd, Nat.reduceLeDiff, Nat.reduceMul, Nat.reduceSub, Int.natCast_zero, Int.ofNat_zero, Int.natCast_one, Int.cast_ofNat_Int, bne_self_eq_false, beq_self_eq_true, Int.reduceBEq, Int.reduceBNe, Bool.not_true, Bool.not_false, q0, q4, q5, q6, q7, q8, q10, q9, t5, j1]
              have hdec : decide (((frame p).take (j + 1)).drop 4 = ((l.drop i).take (j + 1)).drop 4) = false := by
                rw [decide_eq_false_iff_not, sF, sL]
                intro hh
                exact hok (List.append_inj hh hlen).1
              refine ⟨_, ?_, rfl, j + 1, by omega, by omega, rfl, ?_, ?_, ?_, ?_, ?_, ?_, ?_, ?_⟩
              · omega
              all_goals simp -implicitDefEqProofs only [go_sem, ↓reduceIte, Nat.reduceLT, Nat.reduceEqDiff, Nat.reduceAdd, Nat.reduceLeDiff, Nat.reduceMul, Nat.reduceSub, Int.natCast_zero, Int.ofNat_zero, Int.natCast_one, Int.cast_ofNat_Int, bne_self_eq_false, beq_self_eq_true, Int.reduceBEq, Int.reduceBNe, Bool.not_true, Bool.not_false, q0, q4, q5, q6, q7, q8, q10, q9, j1, hdec]
          · obtain rfl : j = 8 := by omega
            have t5 : decide ((8 : Int) < 8) = false := by decide
            rw [rframe_four] at q9
            have hcn := (crc p).isLt
            by_cases hok : (crc p).toNat = numL ((l.drop i).drop 4)
            · rw [decide_eq_true ((rfour_eq _ _ hcn (by omega)).2 hok)] at q9
              have hbg : beginsL (l.drop i) = some p := by
                unfold beginsL
                rw [if_neg (by omega), hnum, hd, if_neg hbad, hp, if_pos hok]
              have hsc' := scan_drop hsc hbg
              have a8' : IntKind.i64.wrap (((i + 8 : Nat) : Int) + (n : Int)) = ((i + (8 + p.length) : Nat) : Int) := by rw [a8n]; omega
              simp -implicitDefEqProofs only [go_sem, ↓reduceIte, Nat.reduceLT, Nat.reduceEqDiff, Nat.reduceAdd, Nat.reduceLeDiff, Nat.reduceMul, Nat.reduceSub, Int.natCast_zero, Int.ofNat_zero, Int.natCast_one, Int.cast_ofNat_Int, bne_self_eq_false, beq_self_eq_true, Int.reduceBEq, Int.reduceBNe, Bool.not_true, Bool.not_false, q0, q4, q5, q6, q7, q8, q10, q9, t5, hz1.fit, hz1.cells]
              refine ((ha.sub hs2).sub hs3).app (v := .sl [z1] .full) (zs := [z1]) (by rw [u27]; decide) (by rw [u27b]; decide) (fun k hk => hk) (by rw [u27]; exact (hrs noHeap).sized) (by rw [u27]; obtain ⟨qq, rfl⟩ := hz1q; simp [Sized, AV.cells]) (by rw [u27b]; have := (hrs noHeap).1; simp; omega) fun z' h4 ha' hk' => ?_
              simp -implicitDefEqProofs only [go_sem, ↓reduceIte, Nat.reduceLT, Nat.reduceEqDiff, Nat.reduceAdd, Nat.reduceLeDiff, Nat.reduceMul, Nat.reduceSub, Int.natCast_zero, Int.ofNat_zero, Int.natCast_one, Int.cast_ofNat_Int, bne_self_eq_false, beq_self_eq_true, Int.reduceBEq, Int.reduceBNe, Bool.not_true, Bool.not_false, q0, q4, q5, q6, q7, q8, q10, q9, t5, a8, a8']
              refine ⟨_, ?_, i + (8 + p.length), ps ++ [p], xs ++ [z1], z', ha', fun g => ?_, hk.trans (hs2.keepObj.trans (hs3.keepObj.trans hk')), by simp; omega, by omega, rfl, hsc', ?_, ?_, ?_⟩
              · omega
              · refine rows_snoc (hrs g) ?_
                obtain ⟨qq, rfl⟩ := hz1q
                exact .sl _ _
              all_goals simp -implicitDefEqProofs only [go_sem, ↓reduceIte, Nat.reduceLT, Nat.reduceEqDiff, Nat.reduceAdd, Nat.reduceLeDiff, Nat.reduceMul, Nat.reduceSub, Int.natCast_zero, Int.ofNat_zero, Int.natCast_one, Int.cast_ofNat_Int, bne_self_eq_false, beq_self_eq_true, Int.reduceBEq, Int.reduceBNe, Bool.not_true, Bool.not_false, q0, q4, q5, q6, q7, q8, q10, q9, a8, a8']
            · rw [decide_eq_false (fun hh => hok ((rfour_eq _ _ hcn (by omega)).1 hh))] at q9
              have hbg : beginsL (l.drop i) = none := by
                unfold beginsL
                rw [if_neg (by omega), hnum, hd, if_neg hbad, hp, if_neg hok]
              simp -implicitDefEqProofs only [go_sem, ↓reduceIte, Nat.reduceLT, Nat.reduceEqDiff, Nat.reduceAdd, Nat.reduceLeDiff, Nat.reduceMul, Nat.reduceSub, Int.natCast_zero, Int.ofNat_zero, Int.natCast_one, Int.cast_ofNat_Int, bne_self_eq_false, beq_self_eq_true, Int.reduceBEq, Int.reduceBNe, Bool.not_true, Bool.not_false, q0, q4, q5, q6, q7, q8, q10, q9, t5]
              exact fin hbg _ ((ha.sub hs2).sub hs3)
    · have e8 : l.length - i < 8 := by have := of_decide_eq_false e; omega
      simp -implicitDefEqProofs only [go_sem, ↓reduceIte, Nat.reduceLT, Nat.reduceEqDiff, Nat.reduceAdd, Nat.reduceLeDiff, Nat.reduceMul, Nat.reduceSub, Int.natCast_zero, Int.ofNat_zero, Int.natCast_one, Int.cast_ofNat_Int, bne_self_eq_false, beq_self_eq_true, Int.reduceBEq, Int.reduceBNe, Bool.not_true, Bool.not_false, r0, r4, r5, hb'.len, w0]
      exact fin (beginsL_short _ (by simp; omega)) _ ha

end Go.Proofs.Ytidpcjblciompaa

/- Rows with room behind them. -/
set_option linter.unusedSimpArgs false
set_option linter.unusedVariables false
namespace Go.Proofs.Ytidpcjblciompaa
open Go Go.Ab

theorem zeros_bytes (n : Nat) : zerosA (.v (.int .u8 0)) n 1 = (List.replicate n (0 : UInt8)).map byteA := by
  apply List.ext_getElem
  · simp [zerosA]
  · intro i h1 h2
    simp [zerosA, byteA, AV.cells, Nat.mod_one]
theorem subPut0 {h h' : Heap} {id : Nat} (hs : Sub h h') (hid : h id = none) (k : Option Blk) : Sub h (upd h' id k) := fun j b hj => by
  rw [upd_other _ _ (fun e => by subst e; rw [hid] at hj; cases hj)]
  exact hs _ _ hj
theorem over_bytes (a b c : List UInt8) (x : List UInt8) (hx : x.length = b.length) : over ((a ++ (b ++ c)).map byteA) a.length (x.map byteA) = (a ++ (x ++ c)).map byteA := by
  simp only [over, List.map_append, List.length_map]
  rw [List.take_left' (by simp), List.append_assoc, hx]
  congr 2
  rw [List.drop_append, List.drop_eq_nil_of_le (by simp)]
  simp

theorem roomy_ok (y : AV) (l : List UInt8) (m : UInt8) (h : Heap) (hb : By h y l) (hl : l.length ≤ 1000000) :
    FnOK Try.prog 29 [y, byteA m] h fun r h' => ∃ id, h id = none ∧ r = .oa id 0 (l.length + 80) ∧ h' id = some (.obj ((l ++ List.replicate 80 m).map byteA) 5) ∧ Sub h h' := by
  refine FnOK.body hU hm Try.func29 rfl (by kernel_rfl) 27 rfl [.tmp 4] rfl (Nat.le_of_ble_eq_true rfl) (fun hwf => ?_)
  have w1 : IntKind.i64.wrap ((l.length : Int) + 80) = ((l.length + 80 : Nat) : Int) := by rw [wr64 _ (by omega)]; omega
  simp -implicitDefEqProofs only [go_sem, ↓reduceIte, Nat.reduceLT, Nat.reduceEqDiff, Nat.reduceAdd, Nat.reduceLeDiff, Nat.reduceMul, Nat.reduceSub, Int.natCast_zero, Int.ofNat_zero, Int.natCast_one, Int.cast_ofNat_Int, bne_self_eq_false, beq_self_eq_true, Int.reduceBEq, Int.reduceBNe, Bool.not_true, Bool.not_false, hb.len, w1]
  refine ⟨by omega, by simp only [lim]; omega, by omega, fun id hid => ?_⟩
  rw [zeros_bytes]
  have hs0 : Sub h (upd h id (some (.obj ((List.replicate (l.length + 80) (0 : UInt8)).map byteA) 5))) := subPut0 (Sub.refl h) hid _
  have hg : (upd h id (some (Blk.obj ((List.replicate (l.length + 80) (0 : UInt8)).map byteA) 5))) id = some (.obj ((List.replicate (l.length + 80) (0 : UInt8)).map byteA) 5) := upd_same ..
  generalize upd h id (some (Blk.obj ((List.replicate (l.length + 80) (0 : UInt8)).map byteA) 5)) = g at hs0 hg
  have hb1 := hb.sub hs0
  simp -implicitDefEqProofs only [go_sem, ↓reduceIte, Nat.reduceLT, Nat.reduceEqDiff, Nat.reduceAdd, Nat.reduceLeDiff, Nat.reduceMul, Nat.reduceSub, Int.natCast_zero, Int.ofNat_zero, Int.natCast_one, Int.cast_ofNat_Int, bne_self_eq_false, beq_self_eq_true, Int.reduceBEq, Int.reduceBNe, Bool.not_true, Bool.not_false, hb1.src u5, hg]
  refine ⟨by omega, by simp, ?_⟩
  have ho : List.map byteA l ++ List.map byteA (List.drop l.length (List.replicate (l.length + 80) 0)) = (l ++ List.replicate 80 0).map byteA := by
    rw [List.drop_replicate, Nat.add_sub_cancel_left, ← List.map_append]
  rw [ho]
  have hs1 := subPut0 hs0 hid (some (.obj ((l ++ List.replicate 80 0).map byteA) 5))
  have hg1 : (upd g id (some (.obj ((l ++ List.replicate 80 0).map byteA) 5))) id = some (.obj ((l ++ List.replicate 80 0).map byteA) 5) := upd_same ..
  generalize upd g id (some (.obj ((l ++ List.replicate 80 0).map byteA) 5)) = g1 at hs1 hg1
  have hb2 := hb.sub hs1
  simp -implicitDefEqProofs only [go_sem, ↓reduceIte, Nat.reduceLT, Nat.reduceEqDiff, Nat.reduceAdd, Nat.reduceLeDiff, Nat.reduceMul, Nat.reduceSub, Int.natCast_zero, Int.ofNat_zero, Int.natCast_one, Int.cast_ofNat_Int, bne_self_eq_false, beq_self_eq_true, Int.reduceBEq, Int.reduceBNe, Bool.not_true, Bool.not_false, hb2.len]
  refine .intro (fun k ρ h' => ∃ (i : Nat), Sub h h' ∧ h' id = some (.obj ((l ++ (List.replicate i m ++ List.replicate (80 - i) 0)).map byteA) 5) ∧ i ≤ 80 ∧ k = 80 - i ∧ lk ρ 1 = some (byteA m) ∧ lk ρ 5 = some (.oa id 0 (l.length + 80)) ∧ lk ρ 6 = some (.v (.int .i64 (l.length + i : Nat)))) (80 - 0) ?_ ?_
  · refine ⟨0, hs1, by simpa using hg1, by omega, rfl, ?_, ?_, ?_⟩ <;> simp -implicitDefEqProofs only [go_sem, ↓reduceIte, Nat.reduceLT, Nat.reduceEqDiff, Nat.reduceAdd, Nat.reduceLeDiff, Nat.reduceMul, Nat.reduceSub, Int.natCast_zero, Int.ofNat_zero, Int.natCast_one, Int.cast_ofNat_Int, bne_self_eq_false, beq_self_eq_true, Int.reduceBEq, Int.reduceBNe, Bool.not_true, Bool.not_false]
  · rintro k ρ h' ⟨i, hs, hi, hi1, rfl, r1, r5, r6⟩
    by_cases hc : i < 80
    · have t1 : decide (((l.length + i : Nat) : Int) < ((l.length + 80 : Nat) : Int)) = true := decide_eq_true (by omega)
      have w2 : IntKind.i64.wrap (((l.length + i : Nat) : Int) + 1) = ((l.length + (i + 1) : Nat) : Int) := by rw [wr64 _ (by omega)]; omega
      simp -implicitDefEqProofs only [go_sem, ↓reduceIte, Nat.reduceLT, Nat.reduceEqDiff, Nat.reduceAdd, Nat.reduceLeDiff, Nat.reduceMul, Nat.reduceSub, Int.natCast_zero, Int.ofNat_zero, Int.natCast_one, Int.cast_ofNat_Int, bne_self_eq_false, beq_self_eq_true, Int.reduceBEq, Int.reduceBNe, Bool.not_true, Bool.not_false, r1, r5, r6, t1]
      refine ⟨by omega, by omega, ?_⟩
      rw [hi]
      have hst : List.take (l.length + i) (List.map byteA (l ++ (List.replicate i m ++ List.replicate (80 - i) 0))) ++ [byteA m] ++ List.drop (l.length + i + 1) (List.map byteA (l ++ (List.replicate i m ++ List.replicate (80 - i) 0))) = (l ++ (List.replicate (i + 1) m ++ List.replicate (80 - (i + 1)) 0)).map byteA := by
        have := over_bytes (l ++ List.replicate i m) [0] (List.replicate (80 - (i + 1)) 0) [m] rfl
        rw [over, List.length_append, List.length_replicate] at this
        rw [show 80 - i = 80 - (i + 1) + 1 by omega, List.replicate_succ (n := 80 - (i + 1)), List.replicate_succ' (n := i)]
        simpa only [List.append_assoc, List.singleton_append, List.map_cons, List.map_nil, List.length_singleton] using this
      simp only [bindO_some, objL_eq, Nat.mul_one]
      refine ⟨by simp; omega, ?_⟩
      rw [w2]
      refine ⟨_, ?_, i + 1, subPut0 hs hid _, ?_, by omega, rfl, ?_, ?_, ?_⟩
      · omega
      · rw [upd_same]
        exact congrArg (fun z => some (Blk.obj z 5)) hst
      all_goals simp -implicitDefEqProofs only [go_sem, ↓reduceIte, Nat.reduceLT, Nat.reduceEqDiff, Nat.reduceAdd, Nat.reduceLeDiff, Nat.reduceMul, Nat.reduceSub, Int.natCast_zero, Int.ofNat_zero, Int.natCast_one, Int.cast_ofNat_Int, bne_self_eq_false, beq_self_eq_true, Int.reduceBEq, Int.reduceBNe, Bool.not_true, Bool.not_false, r1, r5, r6]
    · obtain rfl : i = 80 := by omega
      have t1 : decide (((l.length + 80 : Nat) : Int) < ((l.length + 80 : Nat) : Int)) = false := decide_eq_false (by omega)
      simp -implicitDefEqProofs only [go_sem, ↓reduceIte, Nat.reduceLT, Nat.reduceEqDiff, Nat.reduceAdd, Nat.reduceLeDiff, Nat.reduceMul, Nat.reduceSub, Int.natCast_zero, Int.ofNat_zero, Int.natCast_one, Int.cast_ofNat_Int, bne_self_eq_false, beq_self_eq_true, Int.reduceBEq, Int.reduceBNe, Bool.not_true, Bool.not_false, r1, r5, r6, t1]
      refine .same (.refl _) ⟨id, hid, rfl, ?_, hs⟩
      rw [hi]; simp only [Nat.sub_self, List.replicate_zero, List.append_nil]

theorem intact_ok (l : List UInt8) (m : UInt8) (h : Heap) (y : AV) (id : Nat) (hb : By h y l) (hid : h id = some (.obj ((l ++ List.replicate 80 m).map byteA) 5)) (hl : l.length ≤ 1000000) :
    FnOK Try.prog 31 [.oa id 0 (l.length + 80), y, byteA m] h fun r h' => r = .v (.bool true) ∧ h' = h := by
  refine FnOK.body hU hm Try.func31 rfl (by kernel_rfl) 37 rfl [.tmp 6] rfl (Nat.le_of_ble_eq_true rfl) (fun hwf => ?_)
  have hF : By h (.oa id 0 (l.length + 80)) (l ++ List.replicate 80 m) := by
    have : l.length + 80 = (l ++ List.replicate 80 m).length := by simp
    rw [this]
    exact .oa hid (by simp) (by rw [List.drop_zero]; exact List.take_of_length_le (by simp))
  have w1 : IntKind.i64.wrap ((l.length : Int) + 80) = ((l.length + 80 : Nat) : Int) := by rw [wr64 _ (by omega)]; omega
  have t1 : (((l.length + 80 : Nat) : Int) != ((l.length + 80 : Nat) : Int)) = false := by simp
  generalize AV.oa id 0 (l.length + 80) = x at hF
  have hFl : (l ++ List.replicate 80 m).length = l.length + 80 := by simp
  have hlen := hF.len 5
  rw [hFl] at hlen
  simp -implicitDefEqProofs only [go_sem, ↓reduceIte, Nat.reduceLT, Nat.reduceEqDiff, Nat.reduceAdd, Nat.reduceLeDiff, Nat.reduceMul, Nat.reduceSub, Int.natCast_zero, Int.ofNat_zero, Int.natCast_one, Int.cast_ofNat_Int, bne_self_eq_false, beq_self_eq_true, Int.reduceBEq, Int.reduceBNe, Bool.not_true, Bool.not_false, hlen, hb.len, w1, t1]
  refine hF.take (m := (l.length : Nat)) (x := .i64) l.length ?_ rfl (by omega) u5 fun z hz => ?_
  · simp -implicitDefEqProofs only [go_sem, ↓reduceIte, Nat.reduceLT, Nat.reduceEqDiff, Nat.reduceAdd, Nat.reduceLeDiff, Nat.reduceMul, Nat.reduceSub, Int.natCast_zero, Int.ofNat_zero, Int.natCast_one, Int.cast_ofNat_Int, bne_self_eq_false, beq_self_eq_true, Int.reduceBEq, Int.reduceBNe, Bool.not_true, Bool.not_false]
  rw [List.take_left] at hz
  simp -implicitDefEqProofs only [go_sem, ↓reduceIte, Nat.reduceLT, Nat.reduceEqDiff, Nat.reduceAdd, Nat.reduceLeDiff, Nat.reduceMul, Nat.reduceSub, Int.natCast_zero, Int.ofNat_zero, Int.natCast_one, Int.cast_ofNat_Int, bne_self_eq_false, beq_self_eq_true, Int.reduceBEq, Int.reduceBNe, Bool.not_true, Bool.not_false]
  refine (same_ok z y l l h hz hb (by omega)).pthen ?_
  simp -implicitDefEqProofs only [go_sem, ↓reduceIte, Nat.reduceLT, Nat.reduceEqDiff, Nat.reduceAdd, Nat.reduceLeDiff, Nat.reduceMul, Nat.reduceSub, Int.natCast_zero, Int.ofNat_zero, Int.natCast_one, Int.cast_ofNat_Int, bne_self_eq_false, beq_self_eq_true, Int.reduceBEq, Int.reduceBNe, Bool.not_true, Bool.not_false, decide_true, hb.len]
  refine .intro (fun k ρ h' => h' = h ∧ ∃ (i : Nat), i ≤ 80 ∧ k = 80 - i ∧ lk ρ 0 = some x ∧ lk ρ 2 = some (byteA m) ∧ lk ρ 7 = some (.v (.int .i64 (l.length + i : Nat)))) (80 - 0) ?_ ?_
  · refine ⟨rfl, 0, by omega, rfl, ?_, ?_, ?_⟩ <;> simp -implicitDefEqProofs only [go_sem, ↓reduceIte, Nat.reduceLT, Nat.reduceEqDiff, Nat.reduceAdd, Nat.reduceLeDiff, Nat.reduceMul, Nat.reduceSub, Int.natCast_zero, Int.ofNat_zero, Int.natCast_one, Int.cast_ofNat_Int, bne_self_eq_false, beq_self_eq_true, Int.reduceBEq, Int.reduceBNe, Bool.not_true, Bool.not_false]
  · rintro k ρ h' ⟨rfl, i, hi1, rfl, r0, r2, r7⟩
    by_cases hc : i < 80
    · have t1 : decide (((l.length + i : Nat) : Int) < ((l.length + 80 : Nat) : Int)) = true := decide_eq_true (by omega)
      have w2 : IntKind.i64.wrap (((l.length + i : Nat) : Int) + 1) = ((l.length + (i + 1) : Nat) : Int) := by rw [wr64 _ (by omega)]; omega
      simp -implicitDefEqProofs only [go_sem, ↓reduceIte, Nat.reduceLT, Nat.reduceEqDiff, Nat.reduceAdd, Nat.reduceLeDiff, Nat.reduceMul, Nat.reduceSub, Int.natCast_zero, Int.ofNat_zero, Int.natCast_one, Int.cast_ofNat_Int, bne_self_eq_false, beq_self_eq_true, Int.reduceBEq, Int.reduceBNe, Bool.not_true, Bool.not_false, r0, r2, r7, t1, hlen]
      refine hF.idx (l.length + i) rfl (by omega) u5 u5a fun p hp => ?_
      have e : (l ++ List.replicate 80 m)[l.length + i]'(by omega) = m := by
        rw [List.getElem_append_right (by omega)]; simp only [List.getElem_replicate]
      rw [e] at hp
      have t2 : ((m.toNat : Int) != (m.toNat : Int)) = false := by simp
      simp -implicitDefEqProofs only [go_sem, ↓reduceIte, Nat.reduceLT, Nat.reduceEqDiff, Nat.reduceAdd, Nat.reduceLeDiff, Nat.reduceMul, Nat.reduceSub, Int.natCast_zero, Int.ofNat_zero, Int.natCast_one, Int.cast_ofNat_Int, bne_self_eq_false, beq_self_eq_true, Int.reduceBEq, Int.reduceBNe, Bool.not_true, Bool.not_false, r0, r2, r7, t1, hlen, hp _, t2, w2]
      refine ⟨_, ?_, rfl, i + 1, by omega, rfl, ?_, ?_, ?_⟩
      · omega
      all_goals simp -implicitDefEqProofs only [go_sem, ↓reduceIte, Nat.reduceLT, Nat.reduceEqDiff, Nat.reduceAdd, Nat.reduceLeDiff, Nat.reduceMul, Nat.reduceSub, Int.natCast_zero, Int.ofNat_zero, Int.natCast_one, Int.cast_ofNat_Int, bne_self_eq_false, beq_self_eq_true, Int.reduceBEq, Int.reduceBNe, Bool.not_true, Bool.not_false, r0, r2, r7, w2]
    · obtain rfl : i = 80 := by omega
      have t1 : decide (((l.length + 80 : Nat) : Int) < ((l.length + 80 : Nat) : Int)) = false := decide_eq_false (by omega)
      simp -implicitDefEqProofs only [go_sem, ↓reduceIte, Nat.reduceLT, Nat.reduceEqDiff, Nat.reduceAdd, Nat.reduceLeDiff, Nat.reduceMul, Nat.reduceSub, Int.natCast_zero, Int.ofNat_zero, Int.natCast_one, Int.cast_ofNat_Int, bne_self_eq_false, beq_self_eq_true, Int.reduceBEq, Int.reduceBNe, Bool.not_true, Bool.not_false, r0, r2, r7, t1, hlen]
      exact .same (.refl _) ⟨rfl, rfl⟩
end Go.Proofs.Ytidpcjblciompaa

/- A literal of bytes that is converted to its own type: the model marks its end. -/
set_option linter.unusedSimpArgs false
set_option linter.unusedVariables false
namespace Go.Ab
open Go

section
variable {P : Program} {U : TypeId → TI} {n : Nat} {ρ : Env} {h : Heap}

/-- A literal of bytes, and its conversion. -/
def litC (U : TypeId → TI) (n : Nat) (ρ : Env) (o o' : Oper) (K : Env → Prop) : Prop := match o.dst, o.op, o'.op with
  | some d, .buildSlice ty len parts, .convert s s' (.tmp t) => o.guard = none ∧ o'.guard = none ∧ s = ty ∧ s' = ty ∧ t = d ∧ d < n ∧ dstOK n o'.dst = true ∧ match (U ty).k with
    | .slice e => (U e).k = .int .u8 ∧ (U e).sz = 1 ∧ 0 < len ∧ len ≤ 4096 ∧ parts.toList.map (·.1) = List.range len ∧ withvs ρ (parts.toList.map (·.2)) fun xs => fits 1 xs ∧ K (put (put ρ (some d) (.sl xs .full)) o'.dst (.sl xs .full))
    | _ => False
  | _, _, _ => False

/-- A row of operations, literals that are converted among them. -/
def vcOpsC (P : Program) (U : TypeId → TI) (n : Nat) (all : List Oper) : List Bool → List Oper → Env → Heap → (Env → Heap → Prop) → Prop
  | true :: bs, o :: o' :: r, ρ, h, K => litC U n ρ o o' fun ρ => vcOpsC P U n all bs r ρ h K
  | false :: bs, o :: r, ρ, h, K => dstOK n o.dst = true ∧ o.guard = none ∧ vcOp P U ρ h o (KOp (fun ρ h => vcOpsC P U n all bs r ρ h K) ρ o.dst)
  | [], l, ρ, h, K => vcOps P U n all l ρ h K
  | _, _, _, _, _ => False

section
variable (all : List Oper) (bs : List Bool) (r : List Oper) (K : Env → Heap → Prop)
@[go_sem ↓] theorem c_pair (o o' : Oper) : vcOpsC P U n all (true :: bs) (o :: o' :: r) ρ h K = litC U n ρ o o' fun ρ => vcOpsC P U n all bs r ρ h K := rfl
def KOpC (P : Program) (U : TypeId → TI) (n : Nat) (all : List Oper) (bs : List Bool) (r : List Oper) (K : Env → Heap → Prop) (ρ : Env) (d : Option Tmp) (x : AV) (h : Heap) : Prop := vcOpsC P U n all bs r (put ρ d x) h K
@[go_sem ↓] theorem KOpC_eq (d : Option Tmp) (x : AV) : KOpC P U n all bs r K ρ d x h = vcOpsC P U n all bs r (put ρ d x) h K := rfl
@[go_sem ↓] theorem c_one (d : Option Tmp) (op : Op) (t : TypeId) (p : String) (a : Array Edge) : vcOpsC P U n all (false :: bs) (⟨d, op, t, p, a, none⟩ :: r) ρ h K = (dstOK n d = true ∧ vcOp P U ρ h ⟨d, op, t, p, a, none⟩ (KOpC P U n all bs r K ρ d)) := by
  simp only [vcOpsC, true_and]
  rfl
@[go_sem ↓] theorem c_rest (l : List Oper) : vcOpsC P U n all [] l ρ h K = vcOps P U n all l ρ h K := by cases l <;> rfl
@[go_sem ↓] theorem c_lit (d : Nat) (d' : Option Tmp) (ty : TypeId) (len : Nat) (parts : List (Nat × Operand)) (t t' : TypeId) (p p' : String) (a a' : Array Edge) (k : Env → Prop) : litC U n ρ ⟨some d, .buildSlice ty len parts.toArray, t, p, a, none⟩ ⟨d', .convert ty ty (.tmp d), t', p', a', none⟩ k =
    (d < n ∧ dstOK n d' = true ∧ match (U ty).k with
    | .slice e => (U e).k = .int .u8 ∧ (U e).sz = 1 ∧ 0 < len ∧ len ≤ 4096 ∧ parts.map (·.1) = List.range len ∧ withvs ρ (parts.map (·.2)) fun xs => fits 1 xs ∧ k (put (put ρ (some d) (.sl xs .full)) d' (.sl xs .full))
    | _ => False) := by
  simp only [litC, true_and]
end
theorem lit_run (hU : ∀ t, AgreeT P U t) {o o' : Oper} {K : Env → Prop} (hk : litC U n ρ o o' K) {c : Cx} {a : Act} (g : Good c) (he : EnvSat c n ρ a) :
    o.guard = none ∧ o'.guard = none ∧ ∃ u c1 c2, (execOp a.eval o).run P c.w = .ok (.value u) c1 ∧ (execOp (a.put o.dst u).eval o').run P c1 = .ok (.value u) c2.w ∧ Good c2 ∧ Ext c c2 ∧ c2.h = c.h ∧
      ∃ ρ', EnvSat c2 n ρ' ((a.put o.dst u).put o'.dst u) ∧ K ρ' := by
  unfold litC at hk
  split at hk
  case h_2 => exact hk.elim
  rename_i d ty len parts s s' t hdst hop hop'
  obtain ⟨g1, g2, e1, e2, e3, hdn, hdo, hk⟩ := hk
  subst e1; subst e2; subst e3
  refine ⟨g1, g2, ?_⟩
  have hd := (hU s').desc
  split at hk
  case h_2 => exact hk.elim
  rename_i e hty
  rw [hty] at hd
  obtain ⟨h8, hsz, hlen0, hle, hidx, hp⟩ := hk
  have hd8 := (hU e).desc
  rw [h8] at hd8
  obtain ⟨xs, hxs, hft, hk⟩ := withvs_elim hp
  have hz : (U e).sz ≠ 0 := by omega
  obtain ⟨hl1, hl2⟩ := evs_rep he _ _ hxs
  obtain ⟨i, hi1, hi2, _, z, hz1, hz2, _⟩ := (hU e).info hz
  rw [← hsz] at hft
  have hplen : parts.toList.length = len := by have := congrArg List.length hidx; simpa using this
  have hxlen : xs.length = len := by rw [← hl1]; simpa using hplen
  let vs : List Value := parts.toList.map (fun p => a.eval p.2)
  have hvlen : vs.length = len := by simp [vs]; simpa using hplen
  have hv : ∀ i (h1 : i < xs.length) (h2 : i < vs.length), Rep c xs[i] vs[i] := fun i h1 h2 => by
    have := hl2 i (by simp; simpa [vs] using h2) h1
    simpa [vs] using this
  have hvs : ∀ v ∈ vs, v.cells.size = (U e).sz := fun v hv' => by
    obtain ⟨i, hi, rfl⟩ := List.mem_iff_getElem.1 hv'
    exact ((hv i (by omega) hi).fits (fits_mem hft i (by omega))).1
  obtain ⟨r, h1, h2, h3, _⟩ := fill_row (U e).sz vs 0 ((Array.range (len * (U e).sz)).map (fun j => (if len * (U e).sz = 0 then #[] else z.cells)[j % (if len * (U e).sz = 0 then #[] else z.cells).size]!)) hvs (by simp [hvlen])
  have hparts : (parts.map fun (i, x) => (i, a.eval x)).toList = (List.range' 0 vs.length).zip vs := by
    rw [hvlen, ← List.range_eq_range', ← hidx]
    simp only [Array.toList_map, vs]
    rw [List.zip_map', List.map_eq_map_iff]
    intro p hp; rfl
  rw [← hparts] at h1
  have h0 : ¬ (len * (U e).sz = 0) := by rw [hsz]; omega
  have hrun : (execOp a.eval o).run P c.w = .ok (.value (.slice (some ⟨c.w.heap.size, 0, none⟩) len len)) (c.w.alloc (.cells r e)) := by
    simp only [h0, if_false] at h1
    have hz0 : (zeroValue e).run P c.w = .ok z c.w := by simp [zeroValue, typeInfo, hi1, hz1]
    have h24 : ¬ (len * (U e).sz > 2 ^ 24) := by rw [hsz]; omega
    simp only [execOp, hop, Instr.buildSlice, Sem.run_bind, run_underlying hd, sizeOf_run hU hz, Result.andThen_ok, h24, h0, if_false, hz0, Sem.run_pure]
    rw [h1]
    simp [newRow]
    try rfl
  have hsize : r.size = len := by rw [h2, hsz]; simp
  have hev : (a.put o.dst (.slice (some ⟨c.w.heap.size, 0, none⟩) len len)).eval (.tmp t) = .slice (some ⟨c.w.heap.size, 0, none⟩) len len := by
    rw [hdst]
    have : t < a.tmps.size := by rw [he.size]; exact hdn
    simp [Act.eval, Act.put, this]
  let c2 : Cx := { c with w := c.w.alloc (.cells r e (r.size, r.size + 1)) }
  have hfr : (c.w.alloc (.cells r e)).freeze { block := c.w.heap.size, off := r.size } 1 = c.w.alloc (.cells r e (r.size, r.size + 1)) := by
    unfold World.freeze World.alloc
    rw [if_neg (by decide)]
    simp only
    congr 1
    apply Array.ext
    · simp
    · intro i h1 h2
      simp only [Array.getElem_modify]
      by_cases hi : i = c.w.heap.size
      · subst hi; simp
      · simp at h1
        have : i < c.w.heap.size := by omega
        rw [if_neg (fun hh => hi hh.symm)]
        simp [Array.getElem_push, this]
  have hrun2 : (execOp (a.put o.dst (.slice (some ⟨c.w.heap.size, 0, none⟩) len len)).eval o').run P (c.w.alloc (.cells r e)) = .ok (.value (.slice (some ⟨c.w.heap.size, 0, none⟩) len len)) c2.w := by
    have hsh : (c.w.alloc (.cells r e)).shape? c.w.heap.size = some (e, r.size) := by
      unfold World.shape?
      rw [heap_alloc_new]
    rw [← show _ = c2.w from hfr]
    simp only [execOp, hop', hev, convert, Sem.run_bind, run_underlying hd, Result.andThen_ok, run_underlying hd8]
    simp [markStringish, shape, freeze, hsh, Sem.run]
  have hrep : Rep c2 (.sl xs .full) (.slice (some ⟨c.w.heap.size, 0, none⟩) len len) := by
    have := slNew g e (r.size, r.size + 1) r xs (U e).sz len (fun i j => r.getD (i * (U e).sz + j) undef) (by omega) (by simp only [lim]; omega)
      (fun i hi => by
        have := (hv i hi (by omega)).fits (fits_mem hft i hi)
        exact this.2.1) (fun i j hi hj => by
        have hlt : i * (U e).sz + j < r.size := by
          rw [hsz] at hj ⊢; omega
        simp [hlt]) (fun i hi j hj => by
        have hf := (hv i hi (by omega)).fits (fits_mem hft i hi)
        have hj' : j < (U e).sz := by rw [← hf.2.1]; exact hj
        have := h3 i (by omega) j hj'
        rw [Nat.zero_add] at this
        rw [this]
        exact hf.2.2.1 j hj) (fun i j hi hj => by
        have hf := (hv i hi (by omega)).fits (fits_mem hft i hi)
        have := h3 i (by omega) j hj
        rw [Nat.zero_add] at this
        rw [this]
        exact hf.2.2.2 j hj) .full (.inr ⟨rfl, hxlen.symm⟩)
    rwa [hxlen] at this
  refine ⟨_, _, c2, hrun, hrun2, g.alloc _, Ext.alloc _ _, rfl, _, ?_, hk⟩
  have he2 : EnvSat c2 n ρ a := he.mono (Ext.alloc c _)
  rw [hdst]
  exact (he2.put (d := some t) (by simpa [dstOK] using hdn) hrep).put hdo hrep

theorem vcOpsC_sound (hU : ∀ t, AgreeT P U t) {all : List Oper} {K : Exit → Env → Heap → Prop} (c0 : Cx) : ∀ (bs : List Bool) (l : List Oper) (ρ : Env) (h : Heap), vcOpsC P U n all bs l ρ h (K .normal) →
    ∀ c a, Ext c0 c → Sub h c.h → Good c → EnvSat c n ρ a → wpList P all.toArray (WPK n K c0) l a c.w
  | true :: bs, o :: o' :: r, ρ, h, hk, c, a, hE, hs, g, he => by
    simp only [vcOpsC] at hk
    obtain ⟨g1, g2, u, w1, c2, r1, r2, gd, hE2, hh, ρ', he', hK⟩ := lit_run hU hk g he
    unfold wpList
    rw [if_pos (by simp [Region.wanted, g1])]
    left
    unfold Oper.wp
    rw [r1]
    simp only [Oper.upon]
    unfold wpList
    rw [if_pos (by simp [Region.wanted, g2])]
    left
    unfold Oper.wp
    rw [r2]
    simp only [Oper.upon]
    exact vcOpsC_sound hU c0 bs r ρ' h hK c2 _ (hE.trans hE2) (by rw [hh]; exact hs) gd he'
  | false :: bs, o :: os, ρ, h, hk, c, a, hE, hs, g, he => by
    simp only [vcOpsC] at hk
    obtain ⟨hd, hg, hk⟩ := hk
    unfold wpList
    rw [if_pos (by simp [Region.wanted, hg])]
    left
    have hu := vcOp_sound hU hk hs g he
    have next : ∀ u w', Comes1 c (KOp (fun ρ h => vcOpsC P U n all bs os ρ h (K .normal)) ρ o.dst) u w' → wpList P all.toArray (WPK n K c0) os (a.put o.dst u) w' := by
      rintro u w' ⟨c', x, h', rfl, g', hE', hr, hs', hK⟩
      exact vcOpsC_sound hU c0 bs os _ h' hK c' _ (hE.trans hE') hs' g' ((he.mono hE').put hd hr)
    unfold Oper.wp
    generalize (execOp a.eval o).run P c.w = r at hu
    cases r with
    | ok nx w' =>
      cases nx <;> simp only [Upon1] at hu <;> simp only [Oper.upon]
      case value u => exact next u w' hu
      case skip => exact next undef w' hu
      case enter f args =>
        obtain ⟨rfl, hc⟩ := hu
        exact hc.mono fun e w'' ⟨u, he, hcm⟩ => by subst he; exact next u w'' hcm
    | halt x w' => exact hu.elim
  | [], l, ρ, h, hk, c, a, hE, hs, g, he => by
    cases l <;> exact vcOps_sound hU c0 _ ρ h (by simpa only [vcOpsC] using hk) c a hE hs g he
  | true :: bs, [], ρ, h, hk, c, a, hE, hs, g, he => by simp [vcOpsC] at hk
  | true :: bs, [o], ρ, h, hk, c, a, hE, hs, g, he => by simp [vcOpsC] at hk
  | false :: bs, [], ρ, h, hk, c, a, hE, hs, g, he => by simp [vcOpsC] at hk

theorem WP.opsC (hU : ∀ t, AgreeT P U t) (bs : List Bool) {id : Nat} {ops : Array Oper} {K : Exit → Env → Heap → Prop} (hk : vcOpsC P U n ops.toList bs ops.toList ρ h (K .normal)) : WP P n (.region id ops false) ρ h K := by
  intro cx a h1 h2 h3
  have := vcOpsC_sound hU cx bs ops.toList ρ h hk cx a (.refl _) h1 h2 h3
  have e : ops.toList.toArray = ops := by simp
  rw [e] at this
  exact wp_region_list this

/-- A contract out of the body, by the code's own meaning. -/
theorem FnOK.of_wp {f : FuncId} {fn : Func} {c : Code} {args : List AV} {Q : AV → Heap → Prop} (hU : ∀ t, AgreeT P U t) (hf : P.funcs[f]? = some fn) (hb : fn.body = some c)
    (hn : (fn.name == "runtime.NumGoroutine") = false) (m : Nat) (hm' : fn.ntmps = m) (rs : List ResultVar) (hr : fn.results.toList = rs) (hl : args.length ≤ m)
    (hk : WP P m c (envOf args) h (bodyK U rs Q)) : FnOK P f args h Q := by
  subst hm'; subst hr
  exact FnOK.of_wp0 hU hf hb hn hl fun _ => hk
end
end Go.Ab

/- The law JournalRuns. -/
set_option linter.unusedSimpArgs false
set_option linter.unusedVariables false
namespace Go.Proofs.Ytidpcjblciompaa
open Go Go.Ab

theorem runs_scan : scan (frame [97] ++ frame [98, 99] ++ [1, 0]) = ([[97], [98, 99]], 19) := by
  have h := scan_frames [[97], [98, 99]] [1, 0] (by simp)
  rw [scan_none (l := [1, 0]) (beginsL_short _ (by decide))] at h
  have e : frames [[97], [98, 99]] = frame [97] ++ frame [98, 99] := by simp [frames]
  rw [e] at h
  rw [h]
  simp [frame_length]

set_option maxRecDepth 20000 in
theorem journalRuns_ok (h : Heap) : FnOK Try.prog 6 [] h fun r h' => r = .v (.bool true) ∧ Sub h h' := by
  refine FnOK.of_wp hU Try.func6 rfl (by kernel_rfl) 31 rfl [.tmp 0] rfl (Nat.le_of_ble_eq_true rfl) ?_
  refine WP.seq (vcCode_sound hU hm _ _ _ _ ?_)
  simp -implicitDefEqProofs only [go_sem, ↓reduceIte, Nat.reduceLT, Nat.reduceEqDiff, Nat.reduceAdd, Nat.reduceLeDiff, Nat.reduceMul, Nat.reduceSub, Int.natCast_zero, Int.ofNat_zero, Int.natCast_one, Int.cast_ofNat_Int, bne_self_eq_false, beq_self_eq_true, Int.reduceBEq, Int.reduceBNe, Bool.not_true, Bool.not_false]
  show WP _ _ _ _ _ _
  refine WP.seq (WP.opsC hU [false, true, false, false, true, false, false, false, false, false] ?_)
  simp -implicitDefEqProofs only [go_sem, ↓reduceIte, Nat.reduceLT, Nat.reduceEqDiff, Nat.reduceAdd, Nat.reduceLeDiff, Nat.reduceMul, Nat.reduceSub, Int.natCast_zero, Int.ofNat_zero, Int.natCast_one, Int.cast_ofNat_Int, bne_self_eq_false, beq_self_eq_true, Int.reduceBEq, Int.reduceBNe, Bool.not_true, Bool.not_false, List.range, List.range.loop]
  refine (frame_ok _ [97] h (.inl ⟨.full, rfl⟩) (by decide)).sthen fun h1 hs1 => ?_
  simp -implicitDefEqProofs only [go_sem, ↓reduceIte, Nat.reduceLT, Nat.reduceEqDiff, Nat.reduceAdd, Nat.reduceLeDiff, Nat.reduceMul, Nat.reduceSub, Int.natCast_zero, Int.ofNat_zero, Int.natCast_one, Int.cast_ofNat_Int, bne_self_eq_false, beq_self_eq_true, Int.reduceBEq, Int.reduceBNe, Bool.not_true, Bool.not_false]
  refine ⟨by rw [frame_length]; decide, .acc fun z1 h2 ha1 hk1 => ?_⟩
  rw [List.nil_append] at ha1
  simp -implicitDefEqProofs only [go_sem, ↓reduceIte, Nat.reduceLT, Nat.reduceEqDiff, Nat.reduceAdd, Nat.reduceLeDiff, Nat.reduceMul, Nat.reduceSub, Int.natCast_zero, Int.ofNat_zero, Int.natCast_one, Int.cast_ofNat_Int, bne_self_eq_false, beq_self_eq_true, Int.reduceBEq, Int.reduceBNe, Bool.not_true, Bool.not_false, List.range, List.range.loop]
  refine (frame_ok _ [98, 99] h2 (.inl ⟨.full, rfl⟩) (by decide)).sthen fun h3 hs3 => ?_
  simp -implicitDefEqProofs only [go_sem, ↓reduceIte, Nat.reduceLT, Nat.reduceEqDiff, Nat.reduceAdd, Nat.reduceLeDiff, Nat.reduceMul, Nat.reduceSub, Int.natCast_zero, Int.ofNat_zero, Int.natCast_one, Int.cast_ofNat_Int, bne_self_eq_false, beq_self_eq_true, Int.reduceBEq, Int.reduceBNe, Bool.not_true, Bool.not_false]
  refine (ha1.sub hs3).app (zs := (frame [98, 99]).map byteA) (by rw [u5]; decide) (by rw [u5b]; decide) (fun k hk => hk) (by rw [u5, Sized_bytes]; trivial) (by rw [u5, Sized_bytes]; trivial) (by rw [u5b, List.length_map, List.length_map, frame_length, frame_length]; decide) fun z2 h4 ha2 hk2 => ?_
  rw [← List.map_append] at ha2
  simp -implicitDefEqProofs only [go_sem, ↓reduceIte, Nat.reduceLT, Nat.reduceEqDiff, Nat.reduceAdd, Nat.reduceLeDiff, Nat.reduceMul, Nat.reduceSub, Int.natCast_zero, Int.ofNat_zero, Int.natCast_one, Int.cast_ofNat_Int, bne_self_eq_false, beq_self_eq_true, Int.reduceBEq, Int.reduceBNe, Bool.not_true, Bool.not_false]
  refine ha2.app (zs := [byteA 1, byteA 0]) (by rw [u5]; decide) (by rw [u5b]; decide) (fun k hk => hk) (by rw [u5, Sized_bytes]; trivial) (by rw [u5]; simp [Sized, byteA, AV.cells]) (by rw [u5b, List.length_map, List.length_append, frame_length, frame_length]; decide) fun z3 h5 ha3 hk3 => ?_
  rw [show (frame [97] ++ frame [98, 99]).map byteA ++ [byteA 1, byteA 0] = (frame [97] ++ frame [98, 99] ++ [1, 0]).map byteA by simp] at ha3
  have hsub : Sub h h5 := hs1.trans ha3.1
  have hz3 : By h5 z3 (frame [97] ++ frame [98, 99] ++ [1, 0]) := ha3.bytes
  clear ha1 ha2 ha3
  simp -implicitDefEqProofs only [go_sem, ↓reduceIte, Nat.reduceLT, Nat.reduceEqDiff, Nat.reduceAdd, Nat.reduceLeDiff, Nat.reduceMul, Nat.reduceSub, Int.natCast_zero, Int.ofNat_zero, Int.natCast_one, Int.cast_ofNat_Int, bne_self_eq_false, beq_self_eq_true, Int.reduceBEq, Int.reduceBNe, Bool.not_true, Bool.not_false]
  show WP _ _ _ _ _ _
  refine WP.seq (vcCode_sound hU hm _ _ _ _ ?_)
  simp -implicitDefEqProofs only [go_sem, ↓reduceIte, Nat.reduceLT, Nat.reduceEqDiff, Nat.reduceAdd, Nat.reduceLeDiff, Nat.reduceMul, Nat.reduceSub, Int.natCast_zero, Int.ofNat_zero, Int.natCast_one, Int.cast_ofNat_Int, bne_self_eq_false, beq_self_eq_true, Int.reduceBEq, Int.reduceBNe, Bool.not_true, Bool.not_false]
  refine (scan_ok z3 _ h5 hz3 (by rw [List.length_append, List.length_append, frame_length, frame_length]; decide)).mono fun r h6 ⟨z, sp, e1, hg, hs6, hsp⟩ => ?_
  rw [runs_scan] at e1 hg
  subst e1
  simp -implicitDefEqProofs only [go_sem, ↓reduceIte, Nat.reduceLT, Nat.reduceEqDiff, Nat.reduceAdd, Nat.reduceLeDiff, Nat.reduceMul, Nat.reduceSub, Int.natCast_zero, Int.ofNat_zero, Int.natCast_one, Int.cast_ofNat_Int, bne_self_eq_false, beq_self_eq_true, Int.reduceBEq, Int.reduceBNe, Bool.not_true, Bool.not_false]
  show WP _ _ _ _ _ _
  refine WP.seq (WP.opsC hU [false, true, true] ?_)
  obtain ⟨q, rfl⟩ : ∃ q, z = .sl ([[97], [98, 99]].map rowA) q := by
    rcases hg with ⟨rfl, _⟩ | ⟨k, rfl, _⟩ <;> exact ⟨_, rfl⟩
  have hw : ∀ (h : Heap), Ab.Rows 5 h [.sl [.v (.int .u8 97)] .full, .sl [.v (.int .u8 98), .v (.int .u8 99)] .full] [[97], [98, 99]] := fun h => .cons (.inl ⟨.full, rfl⟩) (.cons (.inl ⟨.full, rfl⟩) .nil)
  simp -implicitDefEqProofs only [go_sem, ↓reduceIte, Nat.reduceLT, Nat.reduceEqDiff, Nat.reduceAdd, Nat.reduceLeDiff, Nat.reduceMul, Nat.reduceSub, Int.natCast_zero, Int.ofNat_zero, Int.natCast_one, Int.cast_ofNat_Int, bne_self_eq_false, beq_self_eq_true, Int.reduceBEq, Int.reduceBNe, Bool.not_true, Bool.not_false, List.range, List.range.loop]
  refine (rows_ok (.sl [] .no) (.sl [] .no) _ _ q .full [[97], [98, 99]] [[97], [98, 99]] h6 (rows_of _ h6) (hw h6) (by decide) (by decide)).pthen ?_
  rw [decide_eq_true rfl]
  simp -implicitDefEqProofs only [go_sem, ↓reduceIte, Nat.reduceLT, Nat.reduceEqDiff, Nat.reduceAdd, Nat.reduceLeDiff, Nat.reduceMul, Nat.reduceSub, Int.natCast_zero, Int.ofNat_zero, Int.natCast_one, Int.cast_ofNat_Int, bne_self_eq_false, beq_self_eq_true, Int.reduceBEq, Int.reduceBNe, Bool.not_true, Bool.not_false]
  show WP _ _ _ _ _ _
  refine vcCode_sound hU hm _ _ _ _ ?_
  simp -implicitDefEqProofs only [go_sem, ↓reduceIte, Nat.reduceLT, Nat.reduceEqDiff, Nat.reduceAdd, Nat.reduceLeDiff, Nat.reduceMul, Nat.reduceSub, Int.natCast_zero, Int.ofNat_zero, Int.natCast_one, Int.cast_ofNat_Int, bne_self_eq_false, beq_self_eq_true, Int.reduceBEq, Int.reduceBNe, Bool.not_true, Bool.not_false]
  exact .same (.refl _) ⟨rfl, hsub.trans hs6⟩
theorem journalRuns_law : FnOK Try.prog 6 [] noHeap fun r _ => r = .v (.bool true) := (journalRuns_ok noHeap).mono fun _ _ h => h.1
end Go.Proofs.Ytidpcjblciompaa

/- Cuts: what is known at a place is laid down once, for all ways that lead there. -/
set_option linter.unusedSimpArgs false
set_option linter.unusedVariables false
namespace Go.Ab
open Go

section
variable {P : Program} {U : TypeId → TI} {n : Nat} {ρ : Env} {h : Heap}

/-- At the end I holds; other ways out lead to K. -/
def KCut (I : Env → Heap → Prop) (K : Exit → Env → Heap → Prop) : Exit → Env → Heap → Prop := KSeq I K
@[go_sem ↓] theorem KCut_ret (I : Env → Heap → Prop) (K : Exit → Env → Heap → Prop) : KCut I K .ret ρ h = K .ret ρ h := rfl
@[go_sem ↓] theorem KCut_exit (I : Env → Heap → Prop) (K : Exit → Env → Heap → Prop) (i : Nat) : KCut I K (.exit i) ρ h = K (.exit i) ρ h := rfl
@[go_sem ↓] theorem KCut_goto (I : Env → Heap → Prop) (K : Exit → Env → Heap → Prop) (i : Nat) : KCut I K (.goto i) ρ h = K (.goto i) ρ h := rfl
theorem KCut.at {I : Env → Heap → Prop} {K : Exit → Env → Heap → Prop} (hi : I ρ h) : KCut I K .normal ρ h := hi

theorem WP.cut {c d : Code} {K : Exit → Env → Heap → Prop} (I : Env → Heap → Prop) (hc : WP P n c ρ h (KCut I K)) (hd : ∀ ρ h, I ρ h → WP P n d ρ h K) : WP P n (.seq c d) ρ h K :=
  WP.seq (hc.weaken fun e ρ h hk => by
    cases e with
    | normal => exact hd ρ h hk
    | _ => exact hk)
theorem WP.vc (hU : ∀ t, AgreeT P U t) (hm : P.follows .mixedOrders = true) {c : Code} {K : Exit → Env → Heap → Prop} (hk : vcCode P U n c ρ h K) : WP P n c ρ h K := vcCode_sound hU hm c ρ h K hk
/-- What comes behind the first part: the rest as it is. -/
def KNext (P : Program) (n : Nat) (d : Code) (K : Exit → Env → Heap → Prop) : Exit → Env → Heap → Prop := KSeq (WP P n d · · K) K
@[go_sem ↓] theorem KNext_normal (d : Code) (K : Exit → Env → Heap → Prop) : KNext P n d K .normal ρ h = WP P n d ρ h K := rfl
@[go_sem ↓] theorem KNext_ret (d : Code) (K : Exit → Env → Heap → Prop) : KNext P n d K .ret ρ h = K .ret ρ h := rfl
@[go_sem ↓] theorem KNext_exit (d : Code) (K : Exit → Env → Heap → Prop) (i : Nat) : KNext P n d K (.exit i) ρ h = K (.exit i) ρ h := rfl
@[go_sem ↓] theorem KNext_goto (d : Code) (K : Exit → Env → Heap → Prop) (i : Nat) : KNext P n d K (.goto i) ρ h = K (.goto i) ρ h := rfl
/-- The first part by its conditions; the rest as it is. -/
theorem WP.one (hU : ∀ t, AgreeT P U t) (hm : P.follows .mixedOrders = true) {c d : Code} {K : Exit → Env → Heap → Prop} (hk : vcCode P U n c ρ h (KNext P n d K)) : WP P n (.seq c d) ρ h K := WP.seq (vcCode_sound hU hm c ρ h _ hk)

/-- Into the first part. -/
theorem WP.into {c d : Code} {K : Exit → Env → Heap → Prop} (hc : WP P n c ρ h (KNext P n d K)) : WP P n (.seq c d) ρ h K := WP.seq hc
/-- A loop. -/
theorem WP.rounds {c : Code} {K : Exit → Env → Heap → Prop} (I : Nat → Env → Heap → Prop) (m : Nat) (h0 : I m ρ h) (round : ∀ m ρ h, I m ρ h → WP P n c ρ h (KRound I m K)) : WP P n (.loop c) ρ h K := WP.loop I m h0 round

theorem ApFull.wr {h0 : Heap} {tb : TypeId} {m : List UInt8} {Q : AV → Heap → Prop} (hs : Sub h0 h) (hz : (U tb).sz = 1) (hf : (U tb).zero = byteA 0) (hk : ∀ y' h', Wr tb h0 h' y' m → Q y' h') : ApFull U h [] (m.map byteA) tb Q := by
  refine ⟨fun hn => ?_, fun hn => .oa hz (by rw [hf]; simp [fit, byteA, Value.oneCell']) (by rw [hf]; rfl) (noAgg_bytes m) fun id k hid => ?_⟩
  · have : m = [] := by simpa using hn
    subst this
    exact hk _ _ (.nil hs)
  · refine hk _ _ ⟨hs.new hid _, .inr ⟨id, _, hs.none hid, by simp, upd_same .., by simp, ?_⟩⟩
    simp [List.take_append_of_le_length]
@[go_sem high] theorem bx8 (x y : UInt8) (ty : TypeId) (K : AV → Prop) : binA U .xor ty (.v (.int .u8 (x.toNat : Int))) (.v (.int .u8 (y.toNat : Int))) K = K (.v (.int .u8 ((x ^^^ y).toNat : Int))) := by
  rw [b_xor]
  congr 3
  have e : ∀ z : UInt8, BitVec.ofInt IntKind.u8.bits (z.toNat : Int) = z.toBitVec := fun z => by
    show BitVec.ofInt 8 (z.toNat : Int) = z.toBitVec
    rw [ofInt_nat]
    apply BitVec.eq_of_toNat_eq
    have := z.toNat_lt
    simp
  rw [e, e]
  show IntKind.u8.wrap (((x.toBitVec ^^^ y.toBitVec).toNat : Nat) : Int) = _
  rw [w8]
  simp
end
end Go.Ab

/- The law JournalScans. -/
set_option linter.unusedSimpArgs false
set_option linter.unusedVariables false
namespace Go.Proofs.Ytidpcjblciompaa
open Go Go.Ab

theorem scan_ps (l : List UInt8) : (scan l).1.length ≤ l.length ∧ ∀ p ∈ (scan l).1, p.length ≤ 8192 := by
  induction hn : l.length using Nat.strongRecOn generalizing l with
  | _ n ih =>
    cases hb : beginsL l with
    | none => rw [scan_none hb]; exact ⟨Nat.zero_le _, fun p hp => by cases hp⟩
    | some p =>
      have hl := beginsL_len hb
      rw [scan_some hb]
      obtain ⟨i1, i2⟩ := ih (l.drop (8 + p.length)).length (by rw [List.length_drop]; omega) _ rfl
      rw [List.length_drop] at i1
      refine ⟨by simp only [List.length_cons]; omega, fun q hq => ?_⟩
      rcases List.mem_cons.1 hq with rfl | hq
      · omega
      · exact i2 q hq
theorem GrowAt.row {h : Heap} {y : AV} {xs : List AV} {sp : List Nat} (hg : GrowAt h y xs sp) : ∃ q, y = .sl xs q := by
  rcases hg with ⟨rfl, _⟩ | ⟨k, rfl, _⟩ <;> exact ⟨_, rfl⟩
theorem u5z : (U 5).zero = byteA 0 := by simp only [go_sem]; rfl

set_option maxRecDepth 20000 in
theorem journalScans_ok (b : List UInt8) (ls : List (List UInt8)) (at_ : Int) (to : UInt8) (hl : ls.length ≤ maxLen) (hb : b.length ≤ maxLen) (hls : ∀ p ∈ ls, p.length ≤ maxLen) (b1 : i64B at_) (h : Heap) :
    FnOK Try.prog 7 [.sl (b.map byteA) .no, .sl (ls.map rowA) .no, iA at_, byteA to] h fun r _ => r = .v (.bool true) := by
  unfold maxLen at hl hb hls
  refine FnOK.of_wp hU Try.func7 rfl (by kernel_rfl) 92 rfl [.tmp 8] rfl (Nat.le_of_ble_eq_true rfl) ?_
  refine .one hU hm ?_
  simp -implicitDefEqProofs only [go_sem, ↓reduceIte, Nat.reduceLT, Nat.reduceEqDiff, Nat.reduceAdd, Nat.reduceLeDiff, Nat.reduceMul, Nat.reduceSub, Int.natCast_zero, Int.ofNat_zero, Int.natCast_one, Int.cast_ofNat_Int, bne_self_eq_false, beq_self_eq_true, Int.reduceBEq, Int.reduceBNe, Bool.not_true, Bool.not_false]
  show WP _ _ _ _ _ _
  refine .cut (fun ρ g => ∃ z, Wr 5 h g z (b.take (min b.length 60)) ∧ lk ρ 1 = some (.sl (ls.map rowA) .no) ∧ lk ρ 2 = some (iA at_) ∧ lk ρ 3 = some (byteA to) ∧ lk ρ 9 = some z) (.vc hU hm ?_) ?_
  · have m60 : (if (60 : Int) < (b.length : Int) then (60 : Int) else (b.length : Int)) = ((min b.length 60 : Nat) : Int) := by split <;> omega
    simp -implicitDefEqProofs only [go_sem, ↓reduceIte, Nat.reduceLT, Nat.reduceEqDiff, Nat.reduceAdd, Nat.reduceLeDiff, Nat.reduceMul, Nat.reduceSub, Int.natCast_zero, Int.ofNat_zero, Int.natCast_one, Int.cast_ofNat_Int, bne_self_eq_false, beq_self_eq_true, Int.reduceBEq, Int.reduceBNe, Bool.not_true, Bool.not_false, List.length_map, m60]
    refine ⟨by omega, by omega, by simp; omega, .wr (.refl h) u5 u5z fun z h1 hw => ?_⟩
    simp -implicitDefEqProofs only [go_sem, ↓reduceIte, Nat.reduceLT, Nat.reduceEqDiff, Nat.reduceAdd, Nat.reduceLeDiff, Nat.reduceMul, Nat.reduceSub, Int.natCast_zero, Int.ofNat_zero, Int.natCast_one, Int.cast_ofNat_Int, bne_self_eq_false, beq_self_eq_true, Int.reduceBEq, Int.reduceBNe, Bool.not_true, Bool.not_false]
    refine ⟨z, hw, ?_, ?_, ?_, ?_⟩ <;> simp -implicitDefEqProofs only [go_sem, ↓reduceIte, Nat.reduceLT, Nat.reduceEqDiff, Nat.reduceAdd, Nat.reduceLeDiff, Nat.reduceMul, Nat.reduceSub, Int.natCast_zero, Int.ofNat_zero, Int.natCast_one, Int.cast_ofNat_Int, bne_self_eq_false, beq_self_eq_true, Int.reduceBEq, Int.reduceBNe, Bool.not_true, Bool.not_false]
  rintro ρ g ⟨z, hz, r1, r2, r3, r9⟩
  refine .cut (fun ρ g => ∃ z own, Wr 5 h g z own ∧ own.length ≤ 60 + 68 * 8 ∧ lk ρ 2 = some (iA at_) ∧ lk ρ 3 = some (byteA to) ∧ lk ρ 9 = some z) (.vc hU hm ?_) ?_
  · simp -implicitDefEqProofs only [go_sem, ↓reduceIte, Nat.reduceLT, Nat.reduceEqDiff, Nat.reduceAdd, Nat.reduceLeDiff, Nat.reduceMul, Nat.reduceSub, Int.natCast_zero, Int.ofNat_zero, Int.natCast_one, Int.cast_ofNat_Int, bne_self_eq_false, beq_self_eq_true, Int.reduceBEq, Int.reduceBNe, Bool.not_true, Bool.not_false]
    refine .intro (fun m ρ g => ∃ (i : Nat) (z : AV) (own : List UInt8), Wr 5 h g z own ∧ own.length ≤ 60 + 68 * i ∧ i ≤ 8 ∧ i ≤ ls.length ∧ m = ls.length - i ∧ lk ρ 1 = some (.sl (ls.map rowA) .no) ∧ lk ρ 2 = some (iA at_) ∧ lk ρ 3 = some (byteA to) ∧ lk ρ 9 = some z ∧ lk ρ 10 = some (.v (.int .i64 i))) (ls.length - 0) ?_ ?_
    · refine ⟨0, z, _, hz, by rw [List.length_take]; omega, by omega, by omega, rfl, ?_, ?_, ?_, ?_, ?_⟩ <;> simp -implicitDefEqProofs only [go_sem, ↓reduceIte, Nat.reduceLT, Nat.reduceEqDiff, Nat.reduceAdd, Nat.reduceLeDiff, Nat.reduceMul, Nat.reduceSub, Int.natCast_zero, Int.ofNat_zero, Int.natCast_one, Int.cast_ofNat_Int, bne_self_eq_false, beq_self_eq_true, Int.reduceBEq, Int.reduceBNe, Bool.not_true, Bool.not_false, r1, r2, r3, r9]
    · rintro m ρ g ⟨i, z, own, hw, ho, hi8, hi, rfl, r1, r2, r3, r9, r10⟩
      by_cases hc : i < ls.length ∧ i < 8
      · obtain ⟨hc1, hc2⟩ := hc
        have d1 : decide ((i : Int) < (ls.length : Int)) = true := decide_eq_true (by omega)
        have d2 : decide ((i : Int) < 8) = true := decide_eq_true (by omega)
        have w1 : IntKind.i64.wrap ((i : Int) + 1) = ((i + 1 : Nat) : Int) := by rw [wr64 _ (by omega)]; omega
        simp -implicitDefEqProofs only [go_sem, ↓reduceIte, Nat.reduceLT, Nat.reduceEqDiff, Nat.reduceAdd, Nat.reduceLeDiff, Nat.reduceMul, Nat.reduceSub, Int.natCast_zero, Int.ofNat_zero, Int.natCast_one, Int.cast_ofNat_Int, bne_self_eq_false, beq_self_eq_true, Int.reduceBEq, Int.reduceBNe, Bool.not_true, Bool.not_false, r1, r2, r3, r9, r10, List.length_map, d1, d2]
        refine .calls noHeap [0, 1, 2, 3, 4, 5, 6, 7, 8, 9, 10, 11, 12, 13, 14] (fun _ _ h => by cases h) (by kernel_rfl) rfl ?_
        simp -implicitDefEqProofs only [go_sem, ↓reduceIte, Nat.reduceLT, Nat.reduceEqDiff, Nat.reduceAdd, Nat.reduceLeDiff, Nat.reduceMul, Nat.reduceSub, Int.natCast_zero, Int.ofNat_zero, Int.natCast_one, Int.cast_ofNat_Int, bne_self_eq_false, beq_self_eq_true, Int.reduceBEq, Int.reduceBNe, Bool.not_true, Bool.not_false, r1, r2, r3, r9, r10, List.length_map, d1, d2]
        obtain ⟨p, hp⟩ : ∃ p, ls[i] = p := ⟨_, rfl⟩
        have hpl := hls _ (List.getElem_mem hc1)
        rw [hp] at hpl
        refine .at i (by simpa using hc1) (by rw [get_map]; rfl) ?_
        simp -implicitDefEqProofs only [go_sem, ↓reduceIte, Nat.reduceLT, Nat.reduceEqDiff, Nat.reduceAdd, Nat.reduceLeDiff, Nat.reduceMul, Nat.reduceSub, Int.natCast_zero, Int.ofNat_zero, Int.natCast_one, Int.cast_ofNat_Int, bne_self_eq_false, beq_self_eq_true, Int.reduceBEq, Int.reduceBNe, Bool.not_true, Bool.not_false, r1, r2, r3, r9, r10, List.length_map, get_map, hp, rowA]
        refine .at i (by simpa using hc1) (by rw [get_map]; rfl) ?_
        have m60 : (if (60 : Int) < (p.length : Int) then (60 : Int) else (p.length : Int)) = ((min p.length 60 : Nat) : Int) := by split <;> omega
        simp -implicitDefEqProofs only [go_sem, ↓reduceIte, Nat.reduceLT, Nat.reduceEqDiff, Nat.reduceAdd, Nat.reduceLeDiff, Nat.reduceMul, Nat.reduceSub, Int.natCast_zero, Int.ofNat_zero, Int.natCast_one, Int.cast_ofNat_Int, bne_self_eq_false, beq_self_eq_true, Int.reduceBEq, Int.reduceBNe, Bool.not_true, Bool.not_false, r1, r2, r3, r9, r10, List.length_map, get_map, hp, rowA, m60]
        refine ⟨by omega, by omega, ?_⟩
        have hql : (p.take (min p.length 60)).length ≤ 60 := by rw [List.length_take]; omega
        obtain ⟨q, hq⟩ : ∃ q, p.take (min p.length 60) = q := ⟨_, rfl⟩
        rw [hq] at hql ⊢
        refine (rframe_ok _ q g (.sl _ _) (by omega)).sthen fun g1 hs1 => ?_
        have hw1 := hw.sub hs1
        have hfl := frame_length q
        refine ⟨fun _ _ h => (by cases h), ?_⟩
        simp -implicitDefEqProofs only [go_sem, ↓reduceIte, Nat.reduceLT, Nat.reduceEqDiff, Nat.reduceAdd, Nat.reduceLeDiff, Nat.reduceMul, Nat.reduceSub, Int.natCast_zero, Int.ofNat_zero, Int.natCast_one, Int.cast_ofNat_Int, bne_self_eq_false, beq_self_eq_true, Int.reduceBEq, Int.reduceBNe, Bool.not_true, Bool.not_false, r1, r2, r3, r9, r10]
        refine hw1.app u5 u5b u5z (m := frame q) (fun k hk => hk) (by omega) fun z2 g2 hw2 => ?_
        refine ⟨fun _ _ h => (by cases h), ?_⟩
        simp -implicitDefEqProofs only [go_sem, ↓reduceIte, Nat.reduceLT, Nat.reduceEqDiff, Nat.reduceAdd, Nat.reduceLeDiff, Nat.reduceMul, Nat.reduceSub, Int.natCast_zero, Int.ofNat_zero, Int.natCast_one, Int.cast_ofNat_Int, bne_self_eq_false, beq_self_eq_true, Int.reduceBEq, Int.reduceBNe, Bool.not_true, Bool.not_false, r1, r2, r3, r9, r10, w1]
        refine ⟨_, ?_, i + 1, z2, own ++ frame q, hw2, by rw [List.length_append]; omega, by omega, by omega, rfl, ?_, ?_, ?_, ?_, ?_⟩
        · omega
        all_goals simp -implicitDefEqProofs only [go_sem, ↓reduceIte, Nat.reduceLT, Nat.reduceEqDiff, Nat.reduceAdd, Nat.reduceLeDiff, Nat.reduceMul, Nat.reduceSub, Int.natCast_zero, Int.ofNat_zero, Int.natCast_one, Int.cast_ofNat_Int, bne_self_eq_false, beq_self_eq_true, Int.reduceBEq, Int.reduceBNe, Bool.not_true, Bool.not_false, r1, r2, r3, r9, r10, w1]
      · have exit : (decide ((i : Int) < (ls.length : Int)) = false) ∨ (decide ((i : Int) < (ls.length : Int)) = true ∧ decide ((i : Int) < 8) = false) := by
          by_cases h1 : i < ls.length
          · exact .inr ⟨decide_eq_true (by omega), decide_eq_false (by omega)⟩
          · exact .inl (decide_eq_false (by omega))
        rcases exit with d1 | ⟨d1, d2⟩
        · simp -implicitDefEqProofs only [go_sem, ↓reduceIte, Nat.reduceLT, Nat.reduceEqDiff, Nat.reduceAdd, Nat.reduceLeDiff, Nat.reduceMul, Nat.reduceSub, Int.natCast_zero, Int.ofNat_zero, Int.natCast_one, Int.cast_ofNat_Int, bne_self_eq_false, beq_self_eq_true, Int.reduceBEq, Int.reduceBNe, Bool.not_true, Bool.not_false, r1, r2, r3, r9, r10, List.length_map, d1]
          refine ⟨z, own, hw, by omega, ?_, ?_, ?_⟩ <;> simp -implicitDefEqProofs only [go_sem, ↓reduceIte, Nat.reduceLT, Nat.reduceEqDiff, Nat.reduceAdd, Nat.reduceLeDiff, Nat.reduceMul, Nat.reduceSub, Int.natCast_zero, Int.ofNat_zero, Int.natCast_one, Int.cast_ofNat_Int, bne_self_eq_false, beq_self_eq_true, Int.reduceBEq, Int.reduceBNe, Bool.not_true, Bool.not_false, r2, r3, r9]
        · simp -implicitDefEqProofs only [go_sem, ↓reduceIte, Nat.reduceLT, Nat.reduceEqDiff, Nat.reduceAdd, Nat.reduceLeDiff, Nat.reduceMul, Nat.reduceSub, Int.natCast_zero, Int.ofNat_zero, Int.natCast_one, Int.cast_ofNat_Int, bne_self_eq_false, beq_self_eq_true, Int.reduceBEq, Int.reduceBNe, Bool.not_true, Bool.not_false, r1, r2, r3, r9, r10, List.length_map, d1, d2]
          refine ⟨z, own, hw, by omega, ?_, ?_, ?_⟩ <;> simp -implicitDefEqProofs only [go_sem, ↓reduceIte, Nat.reduceLT, Nat.reduceEqDiff, Nat.reduceAdd, Nat.reduceLeDiff, Nat.reduceMul, Nat.reduceSub, Int.natCast_zero, Int.ofNat_zero, Int.natCast_one, Int.cast_ofNat_Int, bne_self_eq_false, beq_self_eq_true, Int.reduceBEq, Int.reduceBNe, Bool.not_true, Bool.not_false, r2, r3, r9]
  rintro ρ g ⟨z, own, hw, ho, r2, r3, r9⟩
  refine .cut (fun ρ g => ∃ z own, By g z own ∧ own.length ≤ 60 + 68 * 8 ∧ lk ρ 9 = some z) (.vc hU hm ?_) ?_
  · have hb := hw.bytes
    simp -implicitDefEqProofs only [go_sem, ↓reduceIte, Nat.reduceLT, Nat.reduceEqDiff, Nat.reduceAdd, Nat.reduceLeDiff, Nat.reduceMul, Nat.reduceSub, Int.natCast_zero, Int.ofNat_zero, Int.natCast_one, Int.cast_ofNat_Int, bne_self_eq_false, beq_self_eq_true, Int.reduceBEq, Int.reduceBNe, Bool.not_true, Bool.not_false, r2, r3, r9, hb.len]
    refine .intro (fun e => ?_) (fun e => ?_)
    · have h0 : 0 < own.length := by have := of_decide_eq_true e; omega
      have w1 : IntKind.i64.wrap ((own.length : Int) - 1) = ((own.length - 1 : Nat) : Int) := by rw [wr64 _ (by omega)]; omega
      simp -implicitDefEqProofs only [go_sem, ↓reduceIte, Nat.reduceLT, Nat.reduceEqDiff, Nat.reduceAdd, Nat.reduceLeDiff, Nat.reduceMul, Nat.reduceSub, Int.natCast_zero, Int.ofNat_zero, Int.natCast_one, Int.cast_ofNat_Int, bne_self_eq_false, beq_self_eq_true, Int.reduceBEq, Int.reduceBNe, Bool.not_true, Bool.not_false, r2, r3, r9, hb.len, w1]
      refine (within_ok at_ 0 ((own.length - 1 : Nat) : Int) g b1 (by omega) (by omega) (by omega)).mono fun r g1 ⟨e1, k, k1, k2, e2⟩ => ?_
      subst e1; subst e2
      obtain ⟨k, rfl⟩ := Int.eq_ofNat_of_zero_le k1
      have hk : k < own.length := by omega
      simp -implicitDefEqProofs only [go_sem, ↓reduceIte, Nat.reduceLT, Nat.reduceEqDiff, Nat.reduceAdd, Nat.reduceLeDiff, Nat.reduceMul, Nat.reduceSub, Int.natCast_zero, Int.ofNat_zero, Int.natCast_one, Int.cast_ofNat_Int, bne_self_eq_false, beq_self_eq_true, Int.reduceBEq, Int.reduceBNe, Bool.not_true, Bool.not_false, r2, r3, r9, hb.len]
      refine hb.idx k rfl hk u5 u5a fun p hp => ?_
      simp -implicitDefEqProofs only [go_sem, ↓reduceIte, Nat.reduceLT, Nat.reduceEqDiff, Nat.reduceAdd, Nat.reduceLeDiff, Nat.reduceMul, Nat.reduceSub, Int.natCast_zero, Int.ofNat_zero, Int.natCast_one, Int.cast_ofNat_Int, bne_self_eq_false, beq_self_eq_true, Int.reduceBEq, Int.reduceBNe, Bool.not_true, Bool.not_false, r2, r3, r9, hb.len, hp _]
      refine hw.put u5 k hk fun id cs q0 q1 q2 q3 q4 => ?_
      have hn := (Wr.put2 (c := own[k] ^^^ to) hw.1 q1 q2 q3 q4 hk).bytes
      simp -implicitDefEqProofs only [go_sem, ↓reduceIte, Nat.reduceLT, Nat.reduceEqDiff, Nat.reduceAdd, Nat.reduceLeDiff, Nat.reduceMul, Nat.reduceSub, Int.natCast_zero, Int.ofNat_zero, Int.natCast_one, Int.cast_ofNat_Int, bne_self_eq_false, beq_self_eq_true, Int.reduceBEq, Int.reduceBNe, Bool.not_true, Bool.not_false, r2, r3, r9, hb.len, q2]
      refine ⟨by omega, _, _, hn, by rw [List.length_set]; exact ho, ?_⟩
      simp -implicitDefEqProofs only [go_sem, ↓reduceIte, Nat.reduceLT, Nat.reduceEqDiff, Nat.reduceAdd, Nat.reduceLeDiff, Nat.reduceMul, Nat.reduceSub, Int.natCast_zero, Int.ofNat_zero, Int.natCast_one, Int.cast_ofNat_Int, bne_self_eq_false, beq_self_eq_true, Int.reduceBEq, Int.reduceBNe, Bool.not_true, Bool.not_false, r9, q0]
    · simp -implicitDefEqProofs only [go_sem, ↓reduceIte, Nat.reduceLT, Nat.reduceEqDiff, Nat.reduceAdd, Nat.reduceLeDiff, Nat.reduceMul, Nat.reduceSub, Int.natCast_zero, Int.ofNat_zero, Int.natCast_one, Int.cast_ofNat_Int, bne_self_eq_false, beq_self_eq_true, Int.reduceBEq, Int.reduceBNe, Bool.not_true, Bool.not_false, r2, r3, r9, hb.len]
      refine ⟨z, own, hb, ho, ?_⟩
      simp -implicitDefEqProofs only [go_sem, ↓reduceIte, Nat.reduceLT, Nat.reduceEqDiff, Nat.reduceAdd, Nat.reduceLeDiff, Nat.reduceMul, Nat.reduceSub, Int.natCast_zero, Int.ofNat_zero, Int.natCast_one, Int.cast_ofNat_Int, bne_self_eq_false, beq_self_eq_true, Int.reduceBEq, Int.reduceBNe, Bool.not_true, Bool.not_false, r9]
  rintro ρ g ⟨z, own, hb, ho, r9⟩
  refine .vc hU hm ?_
  simp -implicitDefEqProofs only [go_sem, ↓reduceIte, Nat.reduceLT, Nat.reduceEqDiff, Nat.reduceAdd, Nat.reduceLeDiff, Nat.reduceMul, Nat.reduceSub, Int.natCast_zero, Int.ofNat_zero, Int.natCast_one, Int.cast_ofNat_Int, bne_self_eq_false, beq_self_eq_true, Int.reduceBEq, Int.reduceBNe, Bool.not_true, Bool.not_false, r9]
  refine (roomy_ok z own 3 g hb (by omega)).mono fun r g1 ⟨id, i1, e1, i2, s1⟩ => ?_
  subst e1
  have hF : By g1 (.oa id 0 (own.length + 80)) (own ++ List.replicate 80 3) := by
    have : own.length + 80 = (own ++ List.replicate 80 3).length := by simp
    rw [this]
    exact .oa i2 (by simp) (by rw [List.drop_zero]; exact List.take_of_length_le (by simp))
  have hb1 := hb.sub s1
  have hlen : own.length ≤ 1000000 := by omega
  have hit := fun (g : Heap) (hg : Ab.Sub g1 g) => intact_ok own 3 g z id (hb1.sub hg) (hg _ _ i2) hlen
  obtain ⟨X, hX⟩ : ∃ X, AV.oa id 0 (own.length + 80) = X := ⟨_, rfl⟩
  rw [hX] at hF hit ⊢
  simp -implicitDefEqProofs only [go_sem, ↓reduceIte, Nat.reduceLT, Nat.reduceEqDiff, Nat.reduceAdd, Nat.reduceLeDiff, Nat.reduceMul, Nat.reduceSub, Int.natCast_zero, Int.ofNat_zero, Int.natCast_one, Int.cast_ofNat_Int, bne_self_eq_false, beq_self_eq_true, Int.reduceBEq, Int.reduceBNe, Bool.not_true, Bool.not_false, r9, hb1.len]
  refine hF.take (m := (own.length : Nat)) (x := .i64) own.length ?_ rfl (by rw [List.length_append]; omega) u5 fun z2 hz2 => ?_
  · simp -implicitDefEqProofs only [go_sem, ↓reduceIte, Nat.reduceLT, Nat.reduceEqDiff, Nat.reduceAdd, Nat.reduceLeDiff, Nat.reduceMul, Nat.reduceSub, Int.natCast_zero, Int.ofNat_zero, Int.natCast_one, Int.cast_ofNat_Int, bne_self_eq_false, beq_self_eq_true, Int.reduceBEq, Int.reduceBNe, Bool.not_true, Bool.not_false]
  rw [List.take_left] at hz2
  simp -implicitDefEqProofs only [go_sem, ↓reduceIte, Nat.reduceLT, Nat.reduceEqDiff, Nat.reduceAdd, Nat.reduceLeDiff, Nat.reduceMul, Nat.reduceSub, Int.natCast_zero, Int.ofNat_zero, Int.natCast_one, Int.cast_ofNat_Int, bne_self_eq_false, beq_self_eq_true, Int.reduceBEq, Int.reduceBNe, Bool.not_true, Bool.not_false, r9]
  obtain ⟨c1, c2⟩ := scan_ps own
  refine (scan_ok z2 own g1 hz2 (by omega)).mono fun r g2 ⟨x, sp, e1, hg, s2, _⟩ => ?_
  subst e1
  have hb2 := hb1.sub s2
  simp -implicitDefEqProofs only [go_sem, ↓reduceIte, Nat.reduceLT, Nat.reduceEqDiff, Nat.reduceAdd, Nat.reduceLeDiff, Nat.reduceMul, Nat.reduceSub, Int.natCast_zero, Int.ofNat_zero, Int.natCast_one, Int.cast_ofNat_Int, bne_self_eq_false, beq_self_eq_true, Int.reduceBEq, Int.reduceBNe, Bool.not_true, Bool.not_false, r9]
  refine (rscan_ok z own g2 hb2 (by omega)).mono fun r g3 ⟨y, ys, sp2, e1, hg2, hys, s3, _⟩ => ?_
  subst e1
  obtain ⟨qx, rfl⟩ := hg.row
  obtain ⟨qy, rfl⟩ := hg2.row
  simp -implicitDefEqProofs only [go_sem, ↓reduceIte, Nat.reduceLT, Nat.reduceEqDiff, Nat.reduceAdd, Nat.reduceLeDiff, Nat.reduceMul, Nat.reduceSub, Int.natCast_zero, Int.ofNat_zero, Int.natCast_one, Int.cast_ofNat_Int, bne_self_eq_false, beq_self_eq_true, Int.reduceBEq, Int.reduceBNe, Bool.not_true, Bool.not_false, r9]
  refine (rows_ok (.sl [] .no) (.sl [] .no) _ _ qx qy _ _ g3 (rows_of _ g3) (hys g3) (by omega) (fun p hp => by have := c2 p hp; omega)).pthen ?_
  rw [decide_eq_true rfl]
  simp -implicitDefEqProofs only [go_sem, ↓reduceIte, Nat.reduceLT, Nat.reduceEqDiff, Nat.reduceAdd, Nat.reduceLeDiff, Nat.reduceMul, Nat.reduceSub, Int.natCast_zero, Int.ofNat_zero, Int.natCast_one, Int.cast_ofNat_Int, bne_self_eq_false, beq_self_eq_true, Int.reduceBEq, Int.reduceBNe, Bool.not_true, Bool.not_false, r9]
  refine (hit g3 (s2.trans s3)).pthen ?_
  simp -implicitDefEqProofs only [go_sem, ↓reduceIte, Nat.reduceLT, Nat.reduceEqDiff, Nat.reduceAdd, Nat.reduceLeDiff, Nat.reduceMul, Nat.reduceSub, Int.natCast_zero, Int.ofNat_zero, Int.natCast_one, Int.cast_ofNat_Int, bne_self_eq_false, beq_self_eq_true, Int.reduceBEq, Int.reduceBNe, Bool.not_true, Bool.not_false, r9]
  refine (journalRuns_ok g3).sthen fun g4 _ => ?_
  simp -implicitDefEqProofs only [go_sem, ↓reduceIte, Nat.reduceLT, Nat.reduceEqDiff, Nat.reduceAdd, Nat.reduceLeDiff, Nat.reduceMul, Nat.reduceSub, Int.natCast_zero, Int.ofNat_zero, Int.natCast_one, Int.cast_ofNat_Int, bne_self_eq_false, beq_self_eq_true, Int.reduceBEq, Int.reduceBNe, Bool.not_true, Bool.not_false, r9]
  exact .same (.refl _) rfl

theorem journalScans_law (x0 x1 x2 x3 : AV) (d0 : Dat U 27 x0) (d1 : Dat U 38 x1) (d2 : Dat U 3 x2) (d3 : Dat U 5 x3) : FnOK Try.prog 7 [x0, x1, x2, x3] noHeap fun r _ => r = .v (.bool true) := by
  obtain ⟨b, rfl, h0⟩ := d0.bytes rfl rfl
  obtain ⟨ls, rfl, h1, h2⟩ := d1.list (f := rowA) (p := fun l => l.length ≤ maxLen) rfl fun y hy => hy.bytes rfl rfl
  obtain ⟨n, rfl, hn⟩ := d2.i64 rfl
  obtain ⟨c, rfl⟩ := d3.u8 rfl
  exact journalScans_ok b ls n c h1 h0 h2 hn noHeap
end Go.Proofs.Ytidpcjblciompaa
