/- The law CasesStates: pack 6 of its texts. -/
import Derived.Test.YtnhelgnmadbpgaaGreatDoorPk1
import Derived.Test.YtnhelgnmadbpgaaGreatDoorPk2
import Derived.Test.YtnhelgnmadbpgaaGreatDoorPk3
import Derived.Test.YtnhelgnmadbpgaaGreatDoorPk4
import Derived.Test.YtnhelgnmadbpgaaGreatDoorPk5
set_option linter.unusedSimpArgs false
set_option linter.unusedVariables false
namespace Go.Proofs.YtnhelgnmadbpgaaGreatDoor
open Go Go.Ab Go.Bf
theorem uz_n : (U 172).sz = 7 := by simp only [go_sem]
theorem ub_n : (U 172).bytes = 72 := by simp only [go_sem]
theorem sized_n (l : List NodeD) : Sized 7 (l.map nodeA) := fun z hz => by
  obtain ⟨c, _, rfl⟩ := List.mem_map.1 hz; rfl
set_option maxRecDepth 20000 in
theorem expr_s (f : Nat) (ih : EH (exprF f) f) : EH (exprF (f + 1)) (f + 1) := fun st l hw hf hl G K id y ha => by
  refine FnOK.body hU hm Tryz.func200 rfl (by kernel_rfl) 52 rfl [.tmp 4, .tmp 5] rfl (Nat.le_of_ble_eq_true rfl) (fun hwf => ?_)
  simp -implicitDefEqProofs only [go_sem]
  intro i6 hi6
  have n6 := ne_upd hi6
  have hK6 : K i6 = none := by rw [upd_other _ _ n6] at hi6; exact hi6
  have c6 : ∀ (f : Heap) (x y : Option Blk), upd (upd f id x) i6 y = upd (upd f i6 y) id x := fun f x y => upd_comm f x y n6.symm
  have gi6 : upd G id none i6 = none := by
    cases hk : upd G id none i6 with
    | none => rfl
    | some b => rw [ha.1 _ _ hk] at hi6; cases hi6
  have hac := acc_grow ha hi6 (some (.obj [.v (.int .i64 0), .v (.int .i64 0), .v (.int .i64 0), .s [], .v (.int .i64 0), .s [], .v (.bool false)] 172))
  simp -implicitDefEqProofs only [go_sem, c6]
  refine (here_ok st hw).run ?_
  simp -implicitDefEqProofs only [go_sem, c6, tokA]
  intro i7 hi7
  have n7 := ne_upd hi7
  have hi7' := hi7
  rw [upd_other _ _ n7] at hi7'
  have n76 := ne_upd hi7'
  have m76 : ¬ i7 = i6 := n76
  have m67 : ¬ i6 = i7 := fun e => n76 e.symm
  have hK7 : K i7 = none := by rw [upd_other _ _ n76] at hi7'; exact hi7'
  have c7 : ∀ (f : Heap) (x y : Option Blk), upd (upd f id x) i7 y = upd (upd f i7 y) id x := fun f x y => upd_comm f x y n7.symm
  have e6 : upd (upd G id none) i6 (some (.obj [.v (.int .i64 0), .v (.int .i64 0), .v (.int .i64 0), .s [], .v (.int .i64 0), .s [], .v (.bool false)] 172)) = upd (upd G i6 (some (.obj [.v (.int .i64 0), .v (.int .i64 0), .v (.int .i64 0), .s [], .v (.int .i64 0), .s [], .v (.bool false)] 172))) id none := c6 G none _
  have hac7 : ∀ k, Acc U 172 (upd (upd G i6 (some (.obj [.v (.int .i64 0), .v (.int .i64 0), .v (.int .i64 0), .s [], .v (.int .i64 0), .s [], .v (.bool false)] 172))) id none) (upd (upd (upd K i6 (some (.obj [.v (.int .i64 0), .v (.int .i64 0), .v (.int .i64 0), .s [], .v (.int .i64 0), .s [], .v (.bool false)] 172))) i7 k) id (some (PO st))) y (l.map nodeA) := fun k => by
    have := hac.sub (Sub.upd_new (k := k) (by rw [c6]; exact hi7))
    rw [e6, c6 K, c7] at this
    exact this
  have hsG : Sub (upd G id none) (upd (upd G i6 (some (.obj [.v (.int .i64 0), .v (.int .i64 0), .v (.int .i64 0), .s [], .v (.int .i64 0), .s [], .v (.bool false)] 172))) id none) := by
    rw [← e6]; exact Sub.upd_new gi6
  have g6 : upd (upd G i6 (some (.obj [.v (.int .i64 0), .v (.int .i64 0), .v (.int .i64 0), .s [], .v (.int .i64 0), .s [], .v (.bool false)] 172))) id none i6 = some (.obj [.v (.int .i64 0), .v (.int .i64 0), .v (.int .i64 0), .s [], .v (.int .i64 0), .s [], .v (.bool false)] 172) := by rw [← e6, upd_same]
  simp -implicitDefEqProofs only [go_sem, c6, c7, upd_ne, n6, n7, m76, m67]
  refine (take_ok st [40] hw).run ?_
  have hacX : ∀ tk NB st', Acc U 172 (upd G id none) (upd (upd (upd (upd K i6 (some (.obj [.v (.int .i64 0), .v (.int .i64 0), .v (.int .i64 0), .s [], .v (.int .i64 0), .s [], .v (.bool false)] 172))) i7 tk) i6 NB) id (some (PO st'))) y (l.map nodeA) := fun tk NB st' => by
    have := (acc_step (acc_less hsG (hac7 tk)) st').put gi6 ((upd_other _ _ n6).trans ((upd_other _ _ m67).trans (upd_same ..))) NB
    rw [c6] at this
    exact this
  obtain ⟨⟨⟨lh, n⟩, sth⟩, eh⟩ : ∃ x, headG (exprF f) st l = x := ⟨_, rfl⟩
  obtain ⟨hha, hhl⟩ := headG_ok (exprF_ok f) st l hw
  rw [eh] at hha hhl
  simp only at hha hhl
  have hwp := hha.1.2.2
  have hwq := hha.1.1
  have hpl := hha.2.2
  have hdec : decide ((32 : Int) < ((lh.length + 1 : Nat) : Int)) = decide (32 < lh.length + 1) := by
    by_cases h : 32 < lh.length + 1
    · simp only [h, decide_true]; exact decide_eq_true (by omega)
    · simp only [h, decide_false]; exact decide_eq_false (by omega)
  cases d0 : isD st [40]
  · have et : takeD st [40] = (false, st) := by simp [takeD, d0]
    rw [et]
    cases d1 : ((hereD st).kind == 1)
    · have en : headG (exprF f) st l = ((l, ⟨1, (valueP st).1, ⟨0, [], false⟩⟩), (valueP st).2) := by
        have : (hereD st).kind ≠ 1 := by simpa using d1
        simp [headG, d0, this]
      simp -implicitDefEqProofs only [go_sem, c6, c7, upd_ne, n6, n7, m76, m67, d1]
      refine (value_p st hw).run ?_
      rw [en] at eh
      injection eh with eh1 eh2
      injection eh1 with eh3 eh4
      subst eh2
      subst eh3
      subst eh4
      simp -implicitDefEqProofs only [go_sem, c6, c7, upd_ne, n6, n7, m76, m67, valA]
      refine (hacX _ _ _).app (zs := [nodeA (⟨1, (valueP st).1, ⟨0, [], false⟩⟩ : NodeD)]) (by rw [uz_n]; decide) (by rw [ub_n]; decide) (fun k hk => hk) (by rw [uz_n]; exact sized_n _) (by rw [uz_n]; exact sized_n [(⟨1, (valueP st).1, ⟨0, [], false⟩⟩ : NodeD)]) (by rw [ub_n]; simp; omega) fun y3 H3 hy3 hk3 => ?_
      have hH3 : H3 id = some (PO (valueP st).2) := hk3 _ _ _ (upd_same ..)
      have hb3 : H3 i6 = some (.obj [.v (.int .i64 (⟨1, (valueP st).1, ⟨0, [], false⟩⟩ : NodeD).op), .v (.int .i64 (⟨1, (valueP st).1, ⟨0, [], false⟩⟩ : NodeD).val.kind), .v (.int .i64 (⟨1, (valueP st).1, ⟨0, [], false⟩⟩ : NodeD).val.n), .s (⟨1, (valueP st).1, ⟨0, [], false⟩⟩ : NodeD).val.s, .v (.int .i64 (⟨1, (valueP st).1, ⟨0, [], false⟩⟩ : NodeD).attr.cat), .s (⟨1, (valueP st).1, ⟨0, [], false⟩⟩ : NodeD).attr.name, .v (.bool (⟨1, (valueP st).1, ⟨0, [], false⟩⟩ : NodeD).attr.must)] 172) := hk3 _ _ _ ((upd_other _ _ n6).trans (upd_same ..))
      simp -implicitDefEqProofs only [go_sem, hy3.len, List.length_append, List.length_map, List.length_cons, List.length_nil, Nat.zero_add, hdec]
      refine (limit_ok (valueP st).2 _ hha.1).go hH3 ?_
      simp -implicitDefEqProofs only [go_sem, upd_ne, n6, hb3]
      refine ⟨.of (by kernel_rfl), ?_⟩
      have efin : exprF (f + 1) st l = ((l ++ [(⟨1, (valueP st).1, ⟨0, [], false⟩⟩ : NodeD)], (⟨1, (valueP st).1, ⟨0, [], false⟩⟩ : NodeD).op == 2), limitD (valueP st).2 (decide (32 < l.length + 1))) := by simp only [exprF, en]
      exact .mk (.tup [y3, .v (.bool ((⟨1, (valueP st).1, ⟨0, [], false⟩⟩ : NodeD).op == 2))]) (.refl _) (.refl _) ⟨y3, by rw [efin], by rw [efin]; exact upd_same .., by rw [efin, List.map_append]; exact hy3.put (upd_same ..) hH3 _⟩
    · have k1 : (hereD st).kind = 1 := by simpa using d1
      cases d2 : ((hereD st).s == [116, 114, 117, 101])
      · have k2 : (hereD st).s ≠ trueT := by unfold trueT; simpa using d2
        cases d3 : ((hereD st).s == [102, 97, 108, 115, 101])
        · have k3 : (hereD st).s ≠ falseT := by unfold falseT; simpa using d3
          have en : headG (exprF f) st l = ((l, ⟨2, ⟨0, 0, []⟩, (attrP st).1⟩), (attrP st).2) := by simp [headG, d0, k1, k2, k3]
          simp -implicitDefEqProofs only [go_sem, c6, c7, upd_ne, n6, n7, m76, m67, d1, d2, d3, Bool.not_false]
          refine (attr_p st hw).run ?_
          rw [en] at eh
          injection eh with eh1 eh2
          injection eh1 with eh3 eh4
          subst eh2
          subst eh3
          subst eh4
          simp -implicitDefEqProofs only [go_sem, c6, c7, upd_ne, n6, n7, m76, m67, attrA]
          refine (hacX _ _ _).app (zs := [nodeA (⟨2, ⟨0, 0, []⟩, (attrP st).1⟩ : NodeD)]) (by rw [uz_n]; decide) (by rw [ub_n]; decide) (fun k hk => hk) (by rw [uz_n]; exact sized_n _) (by rw [uz_n]; exact sized_n [(⟨2, ⟨0, 0, []⟩, (attrP st).1⟩ : NodeD)]) (by rw [ub_n]; simp; omega) fun y3 H3 hy3 hk3 => ?_
          have hH3 : H3 id = some (PO (attrP st).2) := hk3 _ _ _ (upd_same ..)
          have hb3 : H3 i6 = some (.obj [.v (.int .i64 (⟨2, ⟨0, 0, []⟩, (attrP st).1⟩ : NodeD).op), .v (.int .i64 (⟨2, ⟨0, 0, []⟩, (attrP st).1⟩ : NodeD).val.kind), .v (.int .i64 (⟨2, ⟨0, 0, []⟩, (attrP st).1⟩ : NodeD).val.n), .s (⟨2, ⟨0, 0, []⟩, (attrP st).1⟩ : NodeD).val.s, .v (.int .i64 (⟨2, ⟨0, 0, []⟩, (attrP st).1⟩ : NodeD).attr.cat), .s (⟨2, ⟨0, 0, []⟩, (attrP st).1⟩ : NodeD).attr.name, .v (.bool (⟨2, ⟨0, 0, []⟩, (attrP st).1⟩ : NodeD).attr.must)] 172) := hk3 _ _ _ ((upd_other _ _ n6).trans (upd_same ..))
          simp -implicitDefEqProofs only [go_sem, hy3.len, List.length_append, List.length_map, List.length_cons, List.length_nil, Nat.zero_add, hdec]
          refine (limit_ok (attrP st).2 _ hha.1).go hH3 ?_
          simp -implicitDefEqProofs only [go_sem, upd_ne, n6, hb3]
          refine ⟨.of (by kernel_rfl), ?_⟩
          have efin : exprF (f + 1) st l = ((l ++ [(⟨2, ⟨0, 0, []⟩, (attrP st).1⟩ : NodeD)], (⟨2, ⟨0, 0, []⟩, (attrP st).1⟩ : NodeD).op == 2), limitD (attrP st).2 (decide (32 < l.length + 1))) := by simp only [exprF, en]
          exact .mk (.tup [y3, .v (.bool ((⟨2, ⟨0, 0, []⟩, (attrP st).1⟩ : NodeD).op == 2))]) (.refl _) (.refl _) ⟨y3, by rw [efin], by rw [efin]; exact upd_same .., by rw [efin, List.map_append]; exact hy3.put (upd_same ..) hH3 _⟩
        · have k3 : (hereD st).s = falseT := by unfold falseT; simpa using d3
          have en : headG (exprF f) st l = ((l, ⟨1, (valueP st).1, ⟨0, [], false⟩⟩), (valueP st).2) := by simp [headG, d0, k1, k2, k3]
          simp -implicitDefEqProofs only [go_sem, c6, c7, upd_ne, n6, n7, m76, m67, d1, d2, d3, Bool.not_false, Bool.not_true]
          refine (value_p st hw).run ?_
          rw [en] at eh
          injection eh with eh1 eh2
          injection eh1 with eh3 eh4
          subst eh2
          subst eh3
          subst eh4
          simp -implicitDefEqProofs only [go_sem, c6, c7, upd_ne, n6, n7, m76, m67, valA]
          refine (hacX _ _ _).app (zs := [nodeA (⟨1, (valueP st).1, ⟨0, [], false⟩⟩ : NodeD)]) (by rw [uz_n]; decide) (by rw [ub_n]; decide) (fun k hk => hk) (by rw [uz_n]; exact sized_n _) (by rw [uz_n]; exact sized_n [(⟨1, (valueP st).1, ⟨0, [], false⟩⟩ : NodeD)]) (by rw [ub_n]; simp; omega) fun y3 H3 hy3 hk3 => ?_
          have hH3 : H3 id = some (PO (valueP st).2) := hk3 _ _ _ (upd_same ..)
          have hb3 : H3 i6 = some (.obj [.v (.int .i64 (⟨1, (valueP st).1, ⟨0, [], false⟩⟩ : NodeD).op), .v (.int .i64 (⟨1, (valueP st).1, ⟨0, [], false⟩⟩ : NodeD).val.kind), .v (.int .i64 (⟨1, (valueP st).1, ⟨0, [], false⟩⟩ : NodeD).val.n), .s (⟨1, (valueP st).1, ⟨0, [], false⟩⟩ : NodeD).val.s, .v (.int .i64 (⟨1, (valueP st).1, ⟨0, [], false⟩⟩ : NodeD).attr.cat), .s (⟨1, (valueP st).1, ⟨0, [], false⟩⟩ : NodeD).attr.name, .v (.bool (⟨1, (valueP st).1, ⟨0, [], false⟩⟩ : NodeD).attr.must)] 172) := hk3 _ _ _ ((upd_other _ _ n6).trans (upd_same ..))
          simp -implicitDefEqProofs only [go_sem, hy3.len, List.length_append, List.length_map, List.length_cons, List.length_nil, Nat.zero_add, hdec]
          refine (limit_ok (valueP st).2 _ hha.1).go hH3 ?_
          simp -implicitDefEqProofs only [go_sem, upd_ne, n6, hb3]
          refine ⟨.of (by kernel_rfl), ?_⟩
          have efin : exprF (f + 1) st l = ((l ++ [(⟨1, (valueP st).1, ⟨0, [], false⟩⟩ : NodeD)], (⟨1, (valueP st).1, ⟨0, [], false⟩⟩ : NodeD).op == 2), limitD (valueP st).2 (decide (32 < l.length + 1))) := by simp only [exprF, en]
          exact .mk (.tup [y3, .v (.bool ((⟨1, (valueP st).1, ⟨0, [], false⟩⟩ : NodeD).op == 2))]) (.refl _) (.refl _) ⟨y3, by rw [efin], by rw [efin]; exact upd_same .., by rw [efin, List.map_append]; exact hy3.put (upd_same ..) hH3 _⟩
      · have k2 : (hereD st).s = trueT := by unfold trueT; simpa using d2
        have en : headG (exprF f) st l = ((l, ⟨1, (valueP st).1, ⟨0, [], false⟩⟩), (valueP st).2) := by simp [headG, d0, k1, k2]
        simp -implicitDefEqProofs only [go_sem, c6, c7, upd_ne, n6, n7, m76, m67, d1, d2, Bool.not_true]
        refine (value_p st hw).run ?_
        rw [en] at eh
        injection eh with eh1 eh2
        injection eh1 with eh3 eh4
        subst eh2
        subst eh3
        subst eh4
        simp -implicitDefEqProofs only [go_sem, c6, c7, upd_ne, n6, n7, m76, m67, valA]
        refine (hacX _ _ _).app (zs := [nodeA (⟨1, (valueP st).1, ⟨0, [], false⟩⟩ : NodeD)]) (by rw [uz_n]; decide) (by rw [ub_n]; decide) (fun k hk => hk) (by rw [uz_n]; exact sized_n _) (by rw [uz_n]; exact sized_n [(⟨1, (valueP st).1, ⟨0, [], false⟩⟩ : NodeD)]) (by rw [ub_n]; simp; omega) fun y3 H3 hy3 hk3 => ?_
        have hH3 : H3 id = some (PO (valueP st).2) := hk3 _ _ _ (upd_same ..)
        have hb3 : H3 i6 = some (.obj [.v (.int .i64 (⟨1, (valueP st).1, ⟨0, [], false⟩⟩ : NodeD).op), .v (.int .i64 (⟨1, (valueP st).1, ⟨0, [], false⟩⟩ : NodeD).val.kind), .v (.int .i64 (⟨1, (valueP st).1, ⟨0, [], false⟩⟩ : NodeD).val.n), .s (⟨1, (valueP st).1, ⟨0, [], false⟩⟩ : NodeD).val.s, .v (.int .i64 (⟨1, (valueP st).1, ⟨0, [], false⟩⟩ : NodeD).attr.cat), .s (⟨1, (valueP st).1, ⟨0, [], false⟩⟩ : NodeD).attr.name, .v (.bool (⟨1, (valueP st).1, ⟨0, [], false⟩⟩ : NodeD).attr.must)] 172) := hk3 _ _ _ ((upd_other _ _ n6).trans (upd_same ..))
        simp -implicitDefEqProofs only [go_sem, hy3.len, List.length_append, List.length_map, List.length_cons, List.length_nil, Nat.zero_add, hdec]
        refine (limit_ok (valueP st).2 _ hha.1).go hH3 ?_
        simp -implicitDefEqProofs only [go_sem, upd_ne, n6, hb3]
        refine ⟨.of (by kernel_rfl), ?_⟩
        have efin : exprF (f + 1) st l = ((l ++ [(⟨1, (valueP st).1, ⟨0, [], false⟩⟩ : NodeD)], (⟨1, (valueP st).1, ⟨0, [], false⟩⟩ : NodeD).op == 2), limitD (valueP st).2 (decide (32 < l.length + 1))) := by simp only [exprF, en]
        exact .mk (.tup [y3, .v (.bool ((⟨1, (valueP st).1, ⟨0, [], false⟩⟩ : NodeD).op == 2))]) (.refl _) (.refl _) ⟨y3, by rw [efin], by rw [efin]; exact upd_same .., by rw [efin, List.map_append]; exact hy3.put (upd_same ..) hH3 _⟩
  · have et : takeD st [40] = (true, nextD st) := by simp [takeD, d0]
    have h1 := ah_next hw (isD_kind d0)
    have hnp : (nextD st).pos = st.pos + 1 := rfl
    have hnt : (nextD st).ts = st.ts := rfl
    rw [et]
    simp -implicitDefEqProofs only [go_sem, c6, c7]
    have ef : funcG (exprF f) (nextD st) l = ((lh, n), sth) := by rw [← eh]; simp [headG, d0]
    have hfx := function_x (exprF_ok f) ih (nextD st) l h1.1 (by rw [hnt]; omega) (by omega)
    simp only [ef] at hfx
    refine hfx.run (acc_step (hac7 _) _) fun y2 K2 hac2 => ?_
    have k6 := hac2.1 _ _ g6
    rw [upd_other _ _ n6] at k6
    simp -implicitDefEqProofs only [go_sem, c6, c7, upd_ne, n6, n7, k6, nodeA, valA, attrA]
    have hac3 := (acc_less hsG hac2).put gi6 ((upd_other _ _ n6).trans k6) (some (.obj [.v (.int .i64 n.op), .v (.int .i64 n.val.kind), .v (.int .i64 n.val.n), .s n.val.s, .v (.int .i64 n.attr.cat), .s n.attr.name, .v (.bool n.attr.must)] 172))
    rw [c6] at hac3
    refine (hac3).app (zs := [nodeA n]) (by rw [uz_n]; decide) (by rw [ub_n]; decide) (fun k hk => hk) (by rw [uz_n]; exact sized_n _) (by rw [uz_n]; exact sized_n [n]) (by rw [ub_n]; simp; omega) fun y3 H3 hy3 hk3 => ?_
    have hH3 : H3 id = some (PO sth) := hk3 _ _ _ (upd_same ..)
    have hb3 : H3 i6 = some (.obj [.v (.int .i64 n.op), .v (.int .i64 n.val.kind), .v (.int .i64 n.val.n), .s n.val.s, .v (.int .i64 n.attr.cat), .s n.attr.name, .v (.bool n.attr.must)] 172) := hk3 _ _ _ ((upd_other _ _ n6).trans (upd_same ..))
    simp -implicitDefEqProofs only [go_sem, hy3.len, List.length_append, List.length_map, List.length_cons, List.length_nil, Nat.zero_add, hdec]
    refine (limit_ok sth _ hha.1).go hH3 ?_
    simp -implicitDefEqProofs only [go_sem, upd_ne, n6, hb3]
    refine ⟨.of (by kernel_rfl), ?_⟩
    have efin : exprF (f + 1) st l = ((lh ++ [n], n.op == 2), limitD sth (decide (32 < lh.length + 1))) := by simp only [exprF, eh]
    exact .mk (.tup [y3, .v (.bool (n.op == 2))]) (.refl _) (.refl _) ⟨y3, by rw [efin], by rw [efin]; exact upd_same .., by rw [efin, List.map_append]; exact hy3.put (upd_same ..) hH3 _⟩
theorem expr_x : ∀ f, EH (exprF f) f
  | 0 => fun st l hw hf _ => absurd hw.1 (by omega)
  | f + 1 => expr_s f (expr_x f)
end Go.Proofs.YtnhelgnmadbpgaaGreatDoor

set_option linter.unusedSimpArgs false
set_option linter.unusedVariables false
namespace Go.Proofs.YtnhelgnmadbpgaaGreatDoor
open Go Go.Ab Go.Bf
theorem fnok_loose {P : Program} {f : FuncId} {args : List AV} {h : Heap} {Q Q' : AV → Heap → Prop} (hf : FnOK P f args h Q) (hq : ∀ x h1, Q x h1 → ∃ y h2, Weak x y ∧ Sub h2 h1 ∧ Q' y h2) : FnOK P f args h Q' :=
  fun c vs h1 h2 h3 h4 => (hf c vs h1 h2 h3 h4).mono fun u w' ⟨c', x, h', g1, g2, g3, g4, g5, g6⟩ => by
    obtain ⟨y, h'', k1, k2, k3⟩ := hq x h' g6
    exact ⟨c', y, h'', g1, g2, g3, g4.weak k1, k2.trans g5, k3⟩
def flat : AV → AV
  | .sl xs _ => .sl xs .no
  | x => x
theorem weak_flat (xs : List AV) : Weak (.agg xs) (.agg (xs.map flat)) := .agg _ _ (by simp) fun i h1 h2 => by
  rw [List.getElem_map]
  cases xs[i] <;> first | exact .refl _ | exact .sl _ _
theorem operand_p (st : PS) (hw : WfP st) : PC 188 [.sl [] .full, .v (.bool false)] st (condA (operG (exprF st.ts.length) st [] false).1) (operG (exprF st.ts.length) st [] false).2 := .of fun G id => by
  have hx := operand_x (exprF_ok st.ts.length) (expr_x st.ts.length) st [] false hw (by omega) (by simp)
  refine fnok_loose (hx G G id (.sl [] .full) (.full (base_start G id _))) fun r h1 ⟨y', e1, e2, e3⟩ => ⟨_, upd G id (some (PO (operG (exprF st.ts.length) st [] false).2)), ?_, base_end e3.1 e2, rfl, rfl⟩
  subst e1
  exact e3.weak
set_option maxRecDepth 20000 in
theorem rule_p (deny : Bool) (st : PS) (hw : WfP st) : PC 162 [.v (.bool deny)] st (ruleA (ruleP deny st).1) (ruleP deny st).2 := .of fun G id => by
  have h1 := ah_name hw
  have h2 := ah_tgt h1.1
  have h3 := ah_cond h2.1
  have h4 := ah_obls h3.1
  have ht := tgt_p _ h1.1
  simp only [tgtA] at ht
  refine FnOK.body hU hm Tryz.func162 rfl (by kernel_rfl) 23 rfl [.cell 4 169] rfl (Nat.le_of_ble_eq_true rfl) (fun hwf => ?_)
  simp -implicitDefEqProofs only [go_sem]
  intro i4 hi4
  have n4 := ne_upd hi4
  have hG4 : G i4 = none := by rw [upd_other _ _ n4] at hi4; exact hi4
  have c4 : ∀ (f : Heap) (x y : Option Blk), upd (upd f id x) i4 y = upd (upd f i4 y) id x := fun f x y => upd_comm f x y n4.symm
  simp -implicitDefEqProofs only [go_sem, c4]
  refine (pname_ok st hw).run ?_
  simp -implicitDefEqProofs only [go_sem, c4]
  refine ht.run ?_
  simp -implicitDefEqProofs only [go_sem, c4]
  intro i5 hi5
  have n5 := ne_upd hi5
  have hi5' := hi5
  rw [upd_other _ _ n5] at hi5'
  have n54 := ne_upd hi5'
  have m54 : ¬ i5 = i4 := n54
  have m45 : ¬ i4 = i5 := n54.symm
  have hG5 : G i5 = none := by rw [upd_other _ _ n54] at hi5'; exact hi5'
  have c5 : ∀ (f : Heap) (x y : Option Blk), upd (upd f id x) i5 y = upd (upd f i5 y) id x := fun f x y => upd_comm f x y n5.symm
  have c45 : ∀ (f : Heap) (x y : Option Blk), upd (upd f i5 x) i4 y = upd (upd f i4 y) i5 x := fun f x y => upd_comm f x y n54
  simp -implicitDefEqProofs only [go_sem, c4, c5, c45, upd_ne, n4, n5, m54, m45]
  refine (take_ok _ ifT h2.1).run ?_
  cases d0 : isD (tgtP (nameP st).2).2 ifT
  · have et : takeD (tgtP (nameP st).2).2 ifT = (false, (tgtP (nameP st).2).2) := by simp [takeD, d0]
    have ec : condP (tgtP (nameP st).2).2 = ([], (tgtP (nameP st).2).2) := by simp [condP, d0]
    have er : ruleP deny st = (⟨(nameP st).1, deny, (tgtP (nameP st).2).1, [], (oblsP (tgtP (nameP st).2).2).1⟩, mustD (oblsP (tgtP (nameP st).2).2).2 [59]) := by simp only [ruleP, ec]
    rw [ec] at h4
    have ho := duties_p _ h2.1
    simp only [oblsA] at ho
    rw [et]
    simp -implicitDefEqProofs only [go_sem, c4, c5, c45, upd_ne, n4, n5, m54, m45]
    refine ho.run ?_
    simp -implicitDefEqProofs only [go_sem, c4, c5, c45, upd_ne, n4, n5, m54, m45]
    refine (must_ok _ [59] h4.1).run ?_
    simp -implicitDefEqProofs only [go_sem, c4, c5, c45, upd_ne, n4, n5, m54, m45]
    exact .mk (h' := upd G id (some (PO (mustD (oblsP (tgtP (nameP st).2).2).2 [59])))) (ruleA ⟨(nameP st).1, deny, (tgtP (nameP st).2).1, [], (oblsP (tgtP (nameP st).2).2).1⟩) (weak_flat _) (Sub.both (by repeat (first | exact .refl _ | refine Sub.put ?_ (by assumption) _)) _ _) ⟨by rw [er], by rw [er]⟩
  · have et : takeD (tgtP (nameP st).2).2 ifT = (true, nextD (tgtP (nameP st).2).2) := by simp [takeD, d0]
    obtain ⟨⟨cn, stc⟩, ec⟩ : ∃ x, condP (tgtP (nameP st).2).2 = x := ⟨_, rfl⟩
    have er : ruleP deny st = (⟨(nameP st).1, deny, (tgtP (nameP st).2).1, cn, (oblsP stc).1⟩, mustD (oblsP stc).2 [59]) := by simp only [ruleP, ec]
    have hcnd := operand_p (nextD (tgtP (nameP st).2).2) (ah_next h2.1 (isD_kind d0)).1
    have ec2 : operG (exprF (nextD (tgtP (nameP st).2).2).ts.length) (nextD (tgtP (nameP st).2).2) [] false = (cn, stc) := by rw [← ec]; simp only [condP, d0, if_true]; rfl
    rw [ec2] at hcnd
    simp only [condA] at hcnd
    rw [ec] at h3 h4
    have ho := duties_p _ h3.1
    simp only [oblsA] at ho
    rw [et]
    simp -implicitDefEqProofs only [go_sem, c4, c5, c45, upd_ne, n4, n5, m54, m45]
    refine hcnd.run ?_
    simp -implicitDefEqProofs only [go_sem, c4, c5, c45, upd_ne, n4, n5, m54, m45]
    refine ho.run ?_
    simp -implicitDefEqProofs only [go_sem, c4, c5, c45, upd_ne, n4, n5, m54, m45]
    refine (must_ok _ [59] h4.1).run ?_
    simp -implicitDefEqProofs only [go_sem, c4, c5, c45, upd_ne, n4, n5, m54, m45]
    exact .mk (h' := upd G id (some (PO (mustD (oblsP stc).2 [59])))) (ruleA ⟨(nameP st).1, deny, (tgtP (nameP st).2).1, cn, (oblsP stc).1⟩) (weak_flat _) (Sub.both (by repeat (first | exact .refl _ | refine Sub.put ?_ (by assumption) _)) _ _) ⟨by rw [er], by rw [er]⟩
end Go.Proofs.YtnhelgnmadbpgaaGreatDoor

set_option linter.unusedSimpArgs false
set_option linter.unusedVariables false
namespace Go.Proofs.YtnhelgnmadbpgaaGreatDoor
open Go Go.Ab Go.Bf
theorem uz_r : (U 169).sz = 5 := by simp only [go_sem]
theorem ub_r : (U 169).bytes = 96 := by simp only [go_sem]
theorem sized_r (l : List RuleD) : Sized 5 (l.map ruleA) := fun z hz => by
  obtain ⟨c, _, rfl⟩ := List.mem_map.1 hz; rfl
set_option maxRecDepth 20000 in
theorem some_p (st : PS) (hw : WfP st) (hr : st.rules ≤ 64) : PC 121 [] st (.sl ((someF 17 st []).1.map ruleA) .no) (someF 17 st []).2 := .of fun G id => by
  obtain ⟨M, eM⟩ : ∃ M, someF 17 st [] = M := ⟨_, rfl⟩
  rw [eM]
  refine FnOK.body hU hm Tryz.func121 rfl (by kernel_rfl) 51 rfl [.tmp 2] rfl (Nat.le_of_ble_eq_true rfl) (fun hwf => ?_)
  simp -implicitDefEqProofs only [go_sem]
  have hB : upd G id none id = none := upd_same ..
  refine .intro (fun m ρ H => ∃ (f : Nat) (st' : PS) (l : List RuleD) (y : AV), H id = some (PO st') ∧ Acc U 169 (upd G id none) H y (l.map ruleA) ∧ Ah st st' ∧ st'.rules ≤ 64 ∧ someF f st' l = M ∧ f + l.length = 17 ∧ l.length ≤ 16 ∧ m = f ∧ lk ρ 0 = some (.ptr id 0) ∧ lk ρ 3 = some y) 17 ?_ ?_
  · refine ⟨17, st, [], .sl ([].map ruleA) .full, upd_same .., .full (base_start G id _), .refl hw, hr, eM, by simp, by simp, rfl, ?_, ?_⟩ <;> simp -implicitDefEqProofs only [go_sem] <;> rfl
  · rintro m ρ H ⟨f, st', l, y, hH, hy, ha, hru, hfin, hf, hll, rfl, r0, r3⟩
    have hlen := ha.1.2.2
    have hpos := ha.1.1
    obtain ⟨g, rfl⟩ : ∃ g, m = g + 1 := ⟨m - 1, by omega⟩
    simp -implicitDefEqProofs only [go_sem, r0, r3]
    refine (is_ok st' permitT ha.1).go hH ?_
    rw [upd_self hH]
    have fin : isD st' permitT = false → isD st' denyT = false → (l, st') = M := fun d1 d2 => by
      rw [← hfin]; simp [someF, d1, d2]
    have rest : isD st' permitT = true ∨ isD st' denyT = true → True := fun _ => trivial
    cases d1 : isD st' permitT
    · simp -implicitDefEqProofs only [go_sem, r0, r3]
      refine (is_ok st' denyT ha.1).go hH ?_
      rw [upd_self hH]
      cases d2 : isD st' denyT
      · simp -implicitDefEqProofs only [go_sem, r0, r3]
        have e := fin d1 d2
        exact .mk (h' := upd G id (some (PO M.2))) (.sl (M.1.map ruleA) .no) (by rw [← e]; exact hy.weak) (by rw [← e]; exact base_end hy.1 hH) ⟨rfl, rfl⟩
      · have hd : isD st' permitT = true ∨ isD st' denyT = true := by first | exact .inl d1 | exact .inr d2
        have eb := (isD_or hd).1
        have ek := (isD_or hd).2
        have db : (st'.bad != 0) = false := by simp [eb]
        have gP := hH
        unfold PO at gP
        have lim : l.length = 16 ∨ st'.rules = 64 → (l, limitD st' true) = M := fun h => by
          rw [← hfin]; simp only [someF, if_pos hd, if_pos h]
        have hdl : limitD st' true = wrongD st' 6 (hereD st').pos := rfl
        have hlb : ((limitD st' true).bad != 0) = true := by rw [hdl]; simp [wrongD, eb]
        cases dA : ((l.length : Int) == 16)
        · cases dB : ((st'.rules : Int) == 64)
          · have nA : l.length ≠ 16 := fun e => by rw [e] at dA; simp at dA
            have nB : st'.rules ≠ 64 := fun e => by rw [e] at dB; simp at dB
            have hno : ¬ (l.length = 16 ∨ st'.rules = 64) := fun h => h.elim nA nB
            simp only [someF, if_pos hd, if_neg hno] at hfin
            simp -implicitDefEqProofs only [go_sem, r0, r3, hy.len, List.length_map, dA, gP, dB]
            refine (limit_ok st' false ha.1).go hH ?_
            rw [show limitD st' false = st' from rfl, upd_self hH]
            have w1 : IntKind.i64.wrap ((st'.rules : Int) + 1) = ((st'.rules + 1 : Nat) : Int) := by rw [wr64 _ (by omega)]; omega
            have w2 : IntKind.i64.wrap ((st'.pos : Int) + 1) = ((st'.pos + 1 : Nat) : Int) := by rw [wr64 _ (by omega)]; omega
            simp -implicitDefEqProofs only [go_sem, r0, r3, gP, db, w1]
            have hwr : WfP { st' with rules := st'.rules + 1 } := ha.1
            refine (is_ok { st' with rules := st'.rules + 1 } denyT hwr).go (upd_same ..) ?_
            rw [upd_upd]
            have g2 : upd H id (some (PO { st' with rules := st'.rules + 1 })) id = some (.obj [.sl (st'.ts.map tokA) .no, .v (.int .i64 st'.pos), .v (.int .i64 (st'.rules + 1 : Nat)), .v (.int .i64 st'.bad), .v (.int .i64 st'.place)] 141) := upd_same ..
            simp -implicitDefEqProofs only [go_sem, r0, r3, g2, w2]
            have h2 : Ah st' { nextD st' with rules := st'.rules + 1 } := ah_rules ha.1 ek
            have h3 := ah_rule (isD st' denyT) h2.1
            have hrp := rule_p (isD st' denyT) { nextD st' with rules := st'.rules + 1 } h2.1
            have hr3 := (rch_pos (rch_rule (isD st' denyT) { nextD st' with rules := st'.rules + 1 })).2.2
            obtain ⟨x, st2, e2⟩ : ∃ x st2, ruleP (isD st' denyT) { nextD st' with rules := st'.rules + 1 } = (x, st2) := ⟨_, _, rfl⟩
            rw [e2] at hfin hrp h3 hr3
            simp only [ruleA] at hrp hfin h3 hr3
            refine hrp.go (upd_same ..) ?_
            rw [upd_upd]
            simp -implicitDefEqProofs only [go_sem, r0, r3]
            refine (hy.put hB hH _).app (zs := [ruleA x]) (by rw [uz_r]; decide) (by rw [ub_r]; decide) (fun k hk => hk) (by rw [uz_r]; exact sized_r l) (by rw [uz_r]; exact sized_r [x]) (by rw [ub_r]; simp; omega) fun y' H2 hy' hk2 => ?_
            have hH2 : H2 id = some (PO st2) := hk2 _ _ _ (upd_same ..)
            simp -implicitDefEqProofs only [go_sem, r0, r3]
            refine ⟨_, ?_, g, st2, l ++ [x], y', hH2, by rw [List.map_append]; exact hy', (ha.trans h2).trans h3, by omega, hfin, by simp; omega, by simp; omega, rfl, ?_, ?_⟩
            · omega
            all_goals simp -implicitDefEqProofs only [go_sem, r0, r3]
          · have nB : st'.rules = 64 := by have : (st'.rules : Int) = 64 := by simpa using dB
                                           omega
            have e := lim (.inr nB)
            simp -implicitDefEqProofs only [go_sem, r0, r3, hy.len, List.length_map, dA, gP, dB]
            refine (limit_ok st' true ha.1).go hH ?_
            have g3 : upd H id (some (PO (limitD st' true))) id = some (PO (limitD st' true)) := upd_same ..
            unfold PO at g3
            simp -implicitDefEqProofs only [go_sem, r0, r3, g3, hlb, PO]
            exact .mk (h' := upd G id (some (PO M.2))) (.sl (M.1.map ruleA) .no) (by rw [← e]; exact hy.weak) (by rw [← e]; exact base_end (hy.put hB hH _).1 (upd_same ..)) ⟨rfl, rfl⟩
        · have nA : l.length = 16 := by have : (l.length : Int) = 16 := by simpa using dA
                                        omega
          have e := lim (.inl nA)
          simp -implicitDefEqProofs only [go_sem, r0, r3, hy.len, List.length_map, dA, gP]
          refine (limit_ok st' true ha.1).go hH ?_
          have g3 : upd H id (some (PO (limitD st' true))) id = some (PO (limitD st' true)) := upd_same ..
          unfold PO at g3
          simp -implicitDefEqProofs only [go_sem, r0, r3, g3, hlb, PO]
          exact .mk (h' := upd G id (some (PO M.2))) (.sl (M.1.map ruleA) .no) (by rw [← e]; exact hy.weak) (by rw [← e]; exact base_end (hy.put hB hH _).1 (upd_same ..)) ⟨rfl, rfl⟩
    · have hd : isD st' permitT = true ∨ isD st' denyT = true := by first | exact .inl d1 | exact .inr d2
      have eb := (isD_or hd).1
      have ek := (isD_or hd).2
      have db : (st'.bad != 0) = false := by simp [eb]
      have gP := hH
      unfold PO at gP
      have lim : l.length = 16 ∨ st'.rules = 64 → (l, limitD st' true) = M := fun h => by
        rw [← hfin]; simp only [someF, if_pos hd, if_pos h]
      have hdl : limitD st' true = wrongD st' 6 (hereD st').pos := rfl
      have hlb : ((limitD st' true).bad != 0) = true := by rw [hdl]; simp [wrongD, eb]
      cases dA : ((l.length : Int) == 16)
      · cases dB : ((st'.rules : Int) == 64)
        · have nA : l.length ≠ 16 := fun e => by rw [e] at dA; simp at dA
          have nB : st'.rules ≠ 64 := fun e => by rw [e] at dB; simp at dB
          have hno : ¬ (l.length = 16 ∨ st'.rules = 64) := fun h => h.elim nA nB
          simp only [someF, if_pos hd, if_neg hno] at hfin
          simp -implicitDefEqProofs only [go_sem, r0, r3, hy.len, List.length_map, dA, gP, dB]
          refine (limit_ok st' false ha.1).go hH ?_
          rw [show limitD st' false = st' from rfl, upd_self hH]
          have w1 : IntKind.i64.wrap ((st'.rules : Int) + 1) = ((st'.rules + 1 : Nat) : Int) := by rw [wr64 _ (by omega)]; omega
          have w2 : IntKind.i64.wrap ((st'.pos : Int) + 1) = ((st'.pos + 1 : Nat) : Int) := by rw [wr64 _ (by omega)]; omega
          simp -implicitDefEqProofs only [go_sem, r0, r3, gP, db, w1]
          have hwr : WfP { st' with rules := st'.rules + 1 } := ha.1
          refine (is_ok { st' with rules := st'.rules + 1 } denyT hwr).go (upd_same ..) ?_
          rw [upd_upd]
          have g2 : upd H id (some (PO { st' with rules := st'.rules + 1 })) id = some (.obj [.sl (st'.ts.map tokA) .no, .v (.int .i64 st'.pos), .v (.int .i64 (st'.rules + 1 : Nat)), .v (.int .i64 st'.bad), .v (.int .i64 st'.place)] 141) := upd_same ..
          simp -implicitDefEqProofs only [go_sem, r0, r3, g2, w2]
          have h2 : Ah st' { nextD st' with rules := st'.rules + 1 } := ah_rules ha.1 ek
          have h3 := ah_rule (isD st' denyT) h2.1
          have hrp := rule_p (isD st' denyT) { nextD st' with rules := st'.rules + 1 } h2.1
          have hr3 := (rch_pos (rch_rule (isD st' denyT) { nextD st' with rules := st'.rules + 1 })).2.2
          obtain ⟨x, st2, e2⟩ : ∃ x st2, ruleP (isD st' denyT) { nextD st' with rules := st'.rules + 1 } = (x, st2) := ⟨_, _, rfl⟩
          rw [e2] at hfin hrp h3 hr3
          simp only [ruleA] at hrp hfin h3 hr3
          refine hrp.go (upd_same ..) ?_
          rw [upd_upd]
          simp -implicitDefEqProofs only [go_sem, r0, r3]
          refine (hy.put hB hH _).app (zs := [ruleA x]) (by rw [uz_r]; decide) (by rw [ub_r]; decide) (fun k hk => hk) (by rw [uz_r]; exact sized_r l) (by rw [uz_r]; exact sized_r [x]) (by rw [ub_r]; simp; omega) fun y' H2 hy' hk2 => ?_
          have hH2 : H2 id = some (PO st2) := hk2 _ _ _ (upd_same ..)
          simp -implicitDefEqProofs only [go_sem, r0, r3]
          refine ⟨_, ?_, g, st2, l ++ [x], y', hH2, by rw [List.map_append]; exact hy', (ha.trans h2).trans h3, by omega, hfin, by simp; omega, by simp; omega, rfl, ?_, ?_⟩
          · omega
          all_goals simp -implicitDefEqProofs only [go_sem, r0, r3]
        · have nB : st'.rules = 64 := by have : (st'.rules : Int) = 64 := by simpa using dB
                                         omega
          have e := lim (.inr nB)
          simp -implicitDefEqProofs only [go_sem, r0, r3, hy.len, List.length_map, dA, gP, dB]
          refine (limit_ok st' true ha.1).go hH ?_
          have g3 : upd H id (some (PO (limitD st' true))) id = some (PO (limitD st' true)) := upd_same ..
          unfold PO at g3
          simp -implicitDefEqProofs only [go_sem, r0, r3, g3, hlb, PO]
          exact .mk (h' := upd G id (some (PO M.2))) (.sl (M.1.map ruleA) .no) (by rw [← e]; exact hy.weak) (by rw [← e]; exact base_end (hy.put hB hH _).1 (upd_same ..)) ⟨rfl, rfl⟩
      · have nA : l.length = 16 := by have : (l.length : Int) = 16 := by simpa using dA
                                      omega
        have e := lim (.inl nA)
        simp -implicitDefEqProofs only [go_sem, r0, r3, hy.len, List.length_map, dA, gP]
        refine (limit_ok st' true ha.1).go hH ?_
        have g3 : upd H id (some (PO (limitD st' true))) id = some (PO (limitD st' true)) := upd_same ..
        unfold PO at g3
        simp -implicitDefEqProofs only [go_sem, r0, r3, g3, hlb, PO]
        exact .mk (h' := upd G id (some (PO M.2))) (.sl (M.1.map ruleA) .no) (by rw [← e]; exact hy.weak) (by rw [← e]; exact base_end (hy.put hB hH _).1 (upd_same ..)) ⟨rfl, rfl⟩
end Go.Proofs.YtnhelgnmadbpgaaGreatDoor

set_option linter.unusedSimpArgs false
set_option linter.unusedVariables false
namespace Go.Proofs.YtnhelgnmadbpgaaGreatDoor
open Go Go.Ab Go.Bf
theorem uz_k : (U 32).sz = 7 := by simp only [go_sem]
theorem ub_k : (U 32).bytes = 128 := by simp only [go_sem]
theorem sized_k (l : List PolD) : Sized 7 (l.map polA) := fun z hz => by
  obtain ⟨c, _, rfl⟩ := List.mem_map.1 hz
  cases c; rfl
set_option maxRecDepth 20000 in
theorem kids_p (pol : PoF) (d : Nat) (hd5 : d ≤ 5) (hp : ∀ st, WfP st → st.rules ≤ 64 → d ≤ 4 → PC 82 [.v (.int .i64 d)] st (polA (pol st).1) (pol st).2) (hpa : ∀ st, WfP st → Ah st (pol st).2) (hpr : ∀ st, RchR st (pol st).2)
    (st : PS) (hw : WfP st) (hr : st.rules ≤ 64) : PC 120 [.v (.int .i64 d)] st (.sl ((kidsF pol (decide ((4 : Int) < (d : Int))) 17 st []).1.map polA) .no) (kidsF pol (decide ((4 : Int) < (d : Int))) 17 st []).2 := .of fun G id => by
  obtain ⟨M, eM⟩ : ∃ M, kidsF pol (decide ((4 : Int) < (d : Int))) 17 st [] = M := ⟨_, rfl⟩
  rw [eM]
  refine FnOK.body hU hm Tryz.func120 rfl (by kernel_rfl) 33 rfl [.tmp 4] rfl (Nat.le_of_ble_eq_true rfl) (fun hwf => ?_)
  simp -implicitDefEqProofs only [go_sem]
  have hB : upd G id none id = none := upd_same ..
  refine .intro (fun m ρ H => ∃ (f : Nat) (st' : PS) (l : List PolD) (y : AV), H id = some (PO st') ∧ Acc U 32 (upd G id none) H y (l.map polA) ∧ Ah st st' ∧ st'.rules ≤ 64 ∧ kidsF pol (decide ((4 : Int) < (d : Int))) f st' l = M ∧ f + l.length = 17 ∧ l.length ≤ 16 ∧ m = f ∧ lk ρ 0 = some (.ptr id 0) ∧ lk ρ 1 = some (.v (.int .i64 d)) ∧ lk ρ 5 = some y) 17 ?_ ?_
  · refine ⟨17, st, [], .sl ([].map polA) .full, upd_same .., .full (base_start G id _), .refl hw, hr, eM, by simp, by simp, rfl, ?_, ?_, ?_⟩ <;> simp -implicitDefEqProofs only [go_sem] <;> rfl
  · rintro m ρ H ⟨f, st', l, y, hH, hy, ha, hru, hfin, hf, hll, rfl, r0, r1, r5⟩
    have hlen := ha.1.2.2
    have hpos := ha.1.1
    obtain ⟨g, rfl⟩ : ∃ g, m = g + 1 := ⟨m - 1, by omega⟩
    simp -implicitDefEqProofs only [go_sem, r0, r1, r5]
    refine (is_ok st' policyT ha.1).go hH ?_
    rw [upd_self hH]
    have fin : isD st' policyT = false → isD st' setT = false → (l, st') = M := fun d1 d2 => by
      rw [← hfin]; simp [kidsF, d1, d2]
    cases d1 : isD st' policyT
    · simp -implicitDefEqProofs only [go_sem, r0, r1, r5]
      refine (is_ok st' setT ha.1).go hH ?_
      rw [upd_self hH]
      cases d2 : isD st' setT
      · simp -implicitDefEqProofs only [go_sem, r0, r1, r5]
        have e := fin d1 d2
        exact .mk (h' := upd G id (some (PO M.2))) (.sl (M.1.map polA) .no) (by rw [← e]; exact hy.weak) (by rw [← e]; exact base_end hy.1 hH) ⟨rfl, rfl⟩
      · have hd : isD st' policyT = true ∨ isD st' setT = true := by first | exact .inl d1 | exact .inr d2
        have eb := (isD_or hd).1
        have ek := (isD_or hd).2
        have db : (st'.bad != 0) = false := by simp [eb]
        have gP := hH
        unfold PO at gP
        have lim : l.length = 16 ∨ decide ((4 : Int) < (d : Int)) = true → (l, limitD st' true) = M := fun h => by
          rw [← hfin]; simp only [kidsF, if_pos hd, if_pos h]
        have hdl : limitD st' true = wrongD st' 6 (hereD st').pos := rfl
        have hlb : ((limitD st' true).bad != 0) = true := by rw [hdl]; simp [wrongD, eb]
        cases dA : ((l.length : Int) == 16)
        · cases dB : decide ((4 : Int) < (d : Int))
          · have nA : l.length ≠ 16 := fun e => by rw [e] at dA; simp at dA
            have hno : ¬ (l.length = 16 ∨ decide ((4 : Int) < (d : Int)) = true) := fun h => h.elim nA (fun e => by rw [dB] at e; cases e)
            simp only [kidsF, if_pos hd, if_neg hno] at hfin
            rw [dB] at hfin
            have hd4 : d ≤ 4 := by have := of_decide_eq_false dB; omega
            simp -implicitDefEqProofs only [go_sem, r0, r1, r5, hy.len, List.length_map, dA, gP, dB]
            refine (limit_ok st' false ha.1).go hH ?_
            rw [show limitD st' false = st' from rfl, upd_self hH]
            have h3 := hpa st' ha.1
            have hrp := hp st' ha.1 hru hd4
            have hr3 := rules_pol (hpr st') hru
            obtain ⟨x, st2, e2⟩ : ∃ x st2, pol st' = (x, st2) := ⟨_, _, rfl⟩
            rw [e2] at hfin hrp h3 hr3
            obtain ⟨pid, pset, palg, ptgt, prules, pkids, pobls⟩ := x
            simp only [polA] at hrp hfin h3 hr3
            simp -implicitDefEqProofs only [go_sem, r0, r1, r5, gP, db]
            refine hrp.go hH ?_
            simp -implicitDefEqProofs only [go_sem, r0, r1, r5]
            refine (hy.put hB hH _).app (zs := [polA ⟨pid, pset, palg, ptgt, prules, pkids, pobls⟩]) (by rw [uz_k]; decide) (by rw [ub_k]; decide) (fun k hk => hk) (by rw [uz_k]; exact sized_k l) (by rw [uz_k]; exact sized_k [⟨pid, pset, palg, ptgt, prules, pkids, pobls⟩]) (by rw [ub_k]; simp; omega) fun y' H2 hy' hk2 => ?_
            have hH2 : H2 id = some (PO st2) := hk2 _ _ _ (upd_same ..)
            simp -implicitDefEqProofs only [go_sem, r0, r1, r5]
            refine ⟨_, ?_, g, st2, l ++ [⟨pid, pset, palg, ptgt, prules, pkids, pobls⟩], y', hH2, by rw [List.map_append]; exact hy', ha.trans h3, hr3, hfin, by simp; omega, by simp; omega, rfl, ?_, ?_, ?_⟩
            · omega
            all_goals simp -implicitDefEqProofs only [go_sem, r0, r1, r5]
          · have e := lim (.inr dB)
            simp -implicitDefEqProofs only [go_sem, r0, r1, r5, hy.len, List.length_map, dA, gP, dB]
            refine (limit_ok st' true ha.1).go hH ?_
            have g3 : upd H id (some (PO (limitD st' true))) id = some (PO (limitD st' true)) := upd_same ..
            unfold PO at g3
            simp -implicitDefEqProofs only [go_sem, r0, r1, r5, g3, hlb, PO]
            exact .mk (h' := upd G id (some (PO M.2))) (.sl (M.1.map polA) .no) (by rw [← e]; exact hy.weak) (by rw [← e]; exact base_end (hy.put hB hH _).1 (upd_same ..)) ⟨rfl, rfl⟩
        · have nA : l.length = 16 := by have : (l.length : Int) = 16 := by simpa using dA
                                        omega
          have e := lim (.inl nA)
          simp -implicitDefEqProofs only [go_sem, r0, r1, r5, hy.len, List.length_map, dA, gP]
          refine (limit_ok st' true ha.1).go hH ?_
          have g3 : upd H id (some (PO (limitD st' true))) id = some (PO (limitD st' true)) := upd_same ..
          unfold PO at g3
          simp -implicitDefEqProofs only [go_sem, r0, r1, r5, g3, hlb, PO]
          exact .mk (h' := upd G id (some (PO M.2))) (.sl (M.1.map polA) .no) (by rw [← e]; exact hy.weak) (by rw [← e]; exact base_end (hy.put hB hH _).1 (upd_same ..)) ⟨rfl, rfl⟩
    · have hd : isD st' policyT = true ∨ isD st' setT = true := by first | exact .inl d1 | exact .inr d2
      have eb := (isD_or hd).1
      have ek := (isD_or hd).2
      have db : (st'.bad != 0) = false := by simp [eb]
      have gP := hH
      unfold PO at gP
      have lim : l.length = 16 ∨ decide ((4 : Int) < (d : Int)) = true → (l, limitD st' true) = M := fun h => by
        rw [← hfin]; simp only [kidsF, if_pos hd, if_pos h]
      have hdl : limitD st' true = wrongD st' 6 (hereD st').pos := rfl
      have hlb : ((limitD st' true).bad != 0) = true := by rw [hdl]; simp [wrongD, eb]
      cases dA : ((l.length : Int) == 16)
      · cases dB : decide ((4 : Int) < (d : Int))
        · have nA : l.length ≠ 16 := fun e => by rw [e] at dA; simp at dA
          have hno : ¬ (l.length = 16 ∨ decide ((4 : Int) < (d : Int)) = true) := fun h => h.elim nA (fun e => by rw [dB] at e; cases e)
          simp only [kidsF, if_pos hd, if_neg hno] at hfin
          rw [dB] at hfin
          have hd4 : d ≤ 4 := by have := of_decide_eq_false dB; omega
          simp -implicitDefEqProofs only [go_sem, r0, r1, r5, hy.len, List.length_map, dA, gP, dB]
          refine (limit_ok st' false ha.1).go hH ?_
          rw [show limitD st' false = st' from rfl, upd_self hH]
          have h3 := hpa st' ha.1
          have hrp := hp st' ha.1 hru hd4
          have hr3 := rules_pol (hpr st') hru
          obtain ⟨x, st2, e2⟩ : ∃ x st2, pol st' = (x, st2) := ⟨_, _, rfl⟩
          rw [e2] at hfin hrp h3 hr3
          obtain ⟨pid, pset, palg, ptgt, prules, pkids, pobls⟩ := x
          simp only [polA] at hrp hfin h3 hr3
          simp -implicitDefEqProofs only [go_sem, r0, r1, r5, gP, db]
          refine hrp.go hH ?_
          simp -implicitDefEqProofs only [go_sem, r0, r1, r5]
          refine (hy.put hB hH _).app (zs := [polA ⟨pid, pset, palg, ptgt, prules, pkids, pobls⟩]) (by rw [uz_k]; decide) (by rw [ub_k]; decide) (fun k hk => hk) (by rw [uz_k]; exact sized_k l) (by rw [uz_k]; exact sized_k [⟨pid, pset, palg, ptgt, prules, pkids, pobls⟩]) (by rw [ub_k]; simp; omega) fun y' H2 hy' hk2 => ?_
          have hH2 : H2 id = some (PO st2) := hk2 _ _ _ (upd_same ..)
          simp -implicitDefEqProofs only [go_sem, r0, r1, r5]
          refine ⟨_, ?_, g, st2, l ++ [⟨pid, pset, palg, ptgt, prules, pkids, pobls⟩], y', hH2, by rw [List.map_append]; exact hy', ha.trans h3, hr3, hfin, by simp; omega, by simp; omega, rfl, ?_, ?_, ?_⟩
          · omega
          all_goals simp -implicitDefEqProofs only [go_sem, r0, r1, r5]
        · have e := lim (.inr dB)
          simp -implicitDefEqProofs only [go_sem, r0, r1, r5, hy.len, List.length_map, dA, gP, dB]
          refine (limit_ok st' true ha.1).go hH ?_
          have g3 : upd H id (some (PO (limitD st' true))) id = some (PO (limitD st' true)) := upd_same ..
          unfold PO at g3
          simp -implicitDefEqProofs only [go_sem, r0, r1, r5, g3, hlb, PO]
          exact .mk (h' := upd G id (some (PO M.2))) (.sl (M.1.map polA) .no) (by rw [← e]; exact hy.weak) (by rw [← e]; exact base_end (hy.put hB hH _).1 (upd_same ..)) ⟨rfl, rfl⟩
      · have nA : l.length = 16 := by have : (l.length : Int) = 16 := by simpa using dA
                                      omega
        have e := lim (.inl nA)
        simp -implicitDefEqProofs only [go_sem, r0, r1, r5, hy.len, List.length_map, dA, gP]
        refine (limit_ok st' true ha.1).go hH ?_
        have g3 : upd H id (some (PO (limitD st' true))) id = some (PO (limitD st' true)) := upd_same ..
        unfold PO at g3
        simp -implicitDefEqProofs only [go_sem, r0, r1, r5, g3, hlb, PO]
        exact .mk (h' := upd G id (some (PO M.2))) (.sl (M.1.map polA) .no) (by rw [← e]; exact hy.weak) (by rw [← e]; exact base_end (hy.put hB hH _).1 (upd_same ..)) ⟨rfl, rfl⟩
end Go.Proofs.YtnhelgnmadbpgaaGreatDoor

set_option linter.unusedSimpArgs false
set_option linter.unusedVariables false
namespace Go.Proofs.YtnhelgnmadbpgaaGreatDoor
open Go Go.Ab Go.Bf
set_option maxRecDepth 20000 in
theorem policy_s (r : Nat) (d : Nat) (hrd : r + d = 4) (hp : ∀ st, WfP st → st.rules ≤ 64 → d + 1 ≤ 4 → PC 82 [.v (.int .i64 (d + 1 : Nat))] st (polA (polF r st).1) (polF r st).2) (st : PS) (hw : WfP st) (hr : st.rules ≤ 64) :
    PC 82 [.v (.int .i64 d)] st (polA (polF (r + 1) st).1) (polF (r + 1) st).2 := .of fun G id => by
  have h1 := ah_among kindWs hw
  have h2 := ah_name h1.1
  have h3 := ah_among algWs h2.1
  have h4 := ah_tgt h3.1
  have h5 : Ah _ (headP st).2 := ah_must [123] h4.1
  have ht := tgt_p _ h3.1
  simp only [tgtA] at ht
  have hrh := rules_pol (rch_head st).big hr
  have hset : (headP st).1.1 = ((amongD st kindWs).1 == 2) := rfl
  have w1 : IntKind.i64.wrap ((d : Int) + 1) = ((d + 1 : Nat) : Int) := by rw [wr64 _ (by omega)]; omega
  have hdp : (r == 0) = decide ((4 : Int) < ((d + 1 : Nat) : Int)) := by
    by_cases h : r = 0
    · rw [decide_eq_true (by omega), h]; rfl
    · rw [decide_eq_false (by omega)]; simpa using h
  have hk := kids_p (polF r) (d + 1) (by omega) hp (fun _ h => ah_pol r _ h) (rch_pol r) _ h5.1 hrh
  have hs := some_p _ h5.1 hrh
  refine FnOK.body hU hm Tryz.func82 rfl (by kernel_rfl) 39 rfl [.cell 4 32] rfl (Nat.le_of_ble_eq_true rfl) (fun hwf => ?_)
  simp -implicitDefEqProofs only [go_sem]
  intro i4 hi4
  have n4 := ne_upd hi4
  have hG4 : G i4 = none := by rw [upd_other _ _ n4] at hi4; exact hi4
  have c4 : ∀ (f : Heap) (x y : Option Blk), upd (upd f id x) i4 y = upd (upd f i4 y) id x := fun f x y => upd_comm f x y n4.symm
  simp -implicitDefEqProofs only [go_sem, c4]
  intro i5 hi5
  have n5 := ne_upd hi5
  have hi5' := hi5
  rw [upd_other _ _ n5] at hi5'
  have n54 := ne_upd hi5'
  have m54 : ¬ i5 = i4 := n54
  have m45 : ¬ i4 = i5 := n54.symm
  have hG5 : G i5 = none := by rw [upd_other _ _ n54] at hi5'; exact hi5'
  have c5 : ∀ (f : Heap) (x y : Option Blk), upd (upd f id x) i5 y = upd (upd f i5 y) id x := fun f x y => upd_comm f x y n5.symm
  have c45 : ∀ (f : Heap) (x y : Option Blk), upd (upd f i5 x) i4 y = upd (upd f i4 y) i5 x := fun f x y => upd_comm f x y n54
  simp -implicitDefEqProofs only [go_sem, c4, c5, c45, upd_ne, n4, n5, m54, m45]
  refine (among_ok st kindWs .full (by decide) hw).run ?_
  simp -implicitDefEqProofs only [go_sem, c4, c5, c45, upd_ne, n4, n5, m54, m45]
  refine (pname_ok _ h1.1).run ?_
  simp -implicitDefEqProofs only [go_sem, c4, c5, c45, upd_ne, n4, n5, m54, m45]
  refine (among_ok _ algWs .full (by decide) h2.1).run ?_
  simp -implicitDefEqProofs only [go_sem, c4, c5, c45, upd_ne, n4, n5, m54, m45]
  refine ht.run ?_
  simp -implicitDefEqProofs only [go_sem, c4, c5, c45, upd_ne, n4, n5, m54, m45]
  refine (must_ok _ [123] h4.1).run ?_
  cases ds : ((amongD st kindWs).1 == 2)
  · rw [ds] at hset
    simp -implicitDefEqProofs only [go_sem, c4, c5, c45, upd_ne, n4, n5, m54, m45, ds]
    have eb : bodyP (polF r) (r == 0) (headP st).1.1 (headP st).2 = (((someF 17 (headP st).2 []).1, []), (someF 17 (headP st).2 []).2) := by simp [bodyP, hset]
    have hb := ah_body (fun _ h => ah_pol r _ h) (r == 0) (headP st).1.1 h5.1
    obtain ⟨⟨rl, stb⟩, er⟩ : ∃ x, someF 17 (headP st).2 [] = x := ⟨_, rfl⟩
    rw [er] at eb hs
    rw [eb] at hb
    have ho := duties_p _ (ah_must [125] hb.1).1
    simp only [oblsA] at ho hs
    refine hs.run ?_
    simp -implicitDefEqProofs only [go_sem, c4, c5, c45, upd_ne, n4, n5, m54, m45]
    refine (must_ok _ [125] hb.1).run ?_
    simp -implicitDefEqProofs only [go_sem, c4, c5, c45, upd_ne, n4, n5, m54, m45]
    refine ho.run ?_
    simp -implicitDefEqProofs only [go_sem, c4, c5, c45, upd_ne, n4, n5, m54, m45]
    have efin : polF (r + 1) st = (.mk (headP st).1.2.1 false (headP st).1.2.2.1 (headP st).1.2.2.2 rl [] (oblsP (mustD stb [125])).1, (oblsP (mustD stb [125])).2) := by simp only [polF, eb]; rw [hset]
    exact .mk (h' := upd G id (some (PO (oblsP (mustD stb [125])).2))) (polA (.mk (headP st).1.2.1 false (headP st).1.2.2.1 (headP st).1.2.2.2 rl [] (oblsP (mustD stb [125])).1)) (weak_flat _) (Sub.both (by repeat (first | exact .refl _ | refine Sub.put ?_ (by assumption) _)) _ _) ⟨by rw [efin], by rw [efin]⟩
  · rw [ds] at hset
    simp -implicitDefEqProofs only [go_sem, c4, c5, c45, upd_ne, n4, n5, m54, m45, ds, w1]
    have eb : bodyP (polF r) (r == 0) (headP st).1.1 (headP st).2 = (([], (kidsF (polF r) (r == 0) 17 (headP st).2 []).1), (kidsF (polF r) (r == 0) 17 (headP st).2 []).2) := by simp [bodyP, hset]
    have hb := ah_body (fun _ h => ah_pol r _ h) (r == 0) (headP st).1.1 h5.1
    rw [← hdp] at hk
    obtain ⟨⟨kl, stb⟩, er⟩ : ∃ x, kidsF (polF r) (r == 0) 17 (headP st).2 [] = x := ⟨_, rfl⟩
    rw [er] at eb hk
    rw [eb] at hb
    have ho := duties_p _ (ah_must [125] hb.1).1
    simp only [oblsA] at ho hk
    refine hk.run ?_
    simp -implicitDefEqProofs only [go_sem, c4, c5, c45, upd_ne, n4, n5, m54, m45]
    refine (must_ok _ [125] hb.1).run ?_
    simp -implicitDefEqProofs only [go_sem, c4, c5, c45, upd_ne, n4, n5, m54, m45]
    refine ho.run ?_
    simp -implicitDefEqProofs only [go_sem, c4, c5, c45, upd_ne, n4, n5, m54, m45]
    have efin : polF (r + 1) st = (.mk (headP st).1.2.1 true (headP st).1.2.2.1 (headP st).1.2.2.2 [] kl (oblsP (mustD stb [125])).1, (oblsP (mustD stb [125])).2) := by simp only [polF, eb]; rw [hset]
    exact .mk (h' := upd G id (some (PO (oblsP (mustD stb [125])).2))) (polA (.mk (headP st).1.2.1 true (headP st).1.2.2.1 (headP st).1.2.2.2 [] kl (oblsP (mustD stb [125])).1)) (by simp only [polA, kidsA_eq]; exact weak_flat _) (Sub.both (by repeat (first | exact .refl _ | refine Sub.put ?_ (by assumption) _)) _ _) ⟨by rw [efin], by rw [efin]⟩
theorem policy_p : ∀ (r d : Nat), r + d = 4 → ∀ st, WfP st → st.rules ≤ 64 → PC 82 [.v (.int .i64 d)] st (polA (polF (r + 1) st).1) (polF (r + 1) st).2
  | 0, d, hrd => fun st hw hr => policy_s 0 d hrd (fun _ _ _ h => absurd h (by omega)) st hw hr
  | r + 1, d, hrd => fun st hw hr => policy_s (r + 1) d hrd (fun st hw hr _ => policy_p r (d + 1) (by omega) st hw hr) st hw hr
end Go.Proofs.YtnhelgnmadbpgaaGreatDoor

set_option linter.unusedSimpArgs false
set_option linter.unusedVariables false
namespace Go.Proofs.YtnhelgnmadbpgaaGreatDoor
open Go Go.Ab Go.Bf
theorem anyOf_ok (l : List (List MatchD)) (h : Heap) : FnOK Tryz.prog 179 [anyA l] h fun r h' => r = .v (.int .i64 (anyE l)) ∧ h' = h := by
  refine FnOK.body hU hm Tryz.func179 rfl (by kernel_rfl) 25 rfl [.tmp 2] rfl (Nat.le_of_ble_eq_true rfl) (fun hwf => ?_)
  simp -implicitDefEqProofs only [go_sem, anyA, List.length_map]
  refine (many_ok _ _).pthen ?_
  cases d1 : (manyE l.length != 0)
  case true =>
    have e1 : manyE l.length ≠ 0 := by simpa using d1
    simp -implicitDefEqProofs only [go_sem, d1]
    exact .same (.refl _) ⟨by simp [anyE, e1, oneOr], rfl⟩
  have e1 : manyE l.length = 0 := by simpa using d1
  have hlen := manyE_le e1
  simp -implicitDefEqProofs only [go_sem, d1, List.length_map]
  refine .intro (fun m ρ h' => Ab.Sub h h' ∧ ∃ i : Nat, i ≤ l.length ∧ m = l.length - i ∧ firstE allE (l.take i) = 0 ∧ lk ρ 13 = some (anyA l) ∧ lk ρ 14 = some (.v (.int .i64 l.length)) ∧ lk ρ 15 = some (.v (.int .i64 i))) l.length ?_ ?_
  · refine ⟨.refl _, 0, by omega, rfl, rfl, ?_, ?_, ?_⟩ <;> simp -implicitDefEqProofs only [go_sem, anyA]
  · rintro m ρ h' ⟨hs, i, hi, rfl, hc, r12, r13, r14⟩
    simp -implicitDefEqProofs only [go_sem, r12, r13, r14]
    refine .intro (fun e => ?_) (fun e => ?_)
    · have hlt : i < l.length := Int.ofNat_lt.1 (of_decide_eq_true e)
      have w1 : IntKind.i64.wrap ((i : Int) + 1) = ((i + 1 : Nat) : Int) := by rw [wr64 _ (by omega)]; omega
      simp -implicitDefEqProofs only [go_sem, r12, r13, r14, anyA]
      refine .at i (by simpa using hlt) (by rw [List.getElem_map]; rfl) ?_
      simp -implicitDefEqProofs only [go_sem, r12, r13, r14, List.getElem_map, allA]
      refine (allOf_ok l[i] _).pthen ?_
      cases d2 : (allE l[i] != 0)
      · have e2 : allE l[i] = 0 := by simpa using d2
        simp -implicitDefEqProofs only [go_sem, r12, r13, r14, d2, w1]
        refine ⟨_, ?_, hs, i + 1, by omega, rfl, firstE_take hlt hc e2, ?_, ?_, ?_⟩
        · omega
        all_goals simp -implicitDefEqProofs only [go_sem, r12, r13, r14, w1, anyA]
      · have e2 : allE l[i] ≠ 0 := by simpa using d2
        simp -implicitDefEqProofs only [go_sem, r12, r13, r14, d2]
        refine .mk _ (.refl _) hs ⟨?_, rfl⟩
        simp [anyE, e1, firstE_at hlt hc e2, oneOr]
    · have hge : i = l.length := by have := of_decide_eq_false e; omega
      subst hge
      rw [List.take_length] at hc
      simp -implicitDefEqProofs only [go_sem, r12, r13, r14]
      exact .mk _ (.refl _) hs ⟨by simp [anyE, e1, hc, oneOr], rfl⟩
theorem target_ok (l : TgtD) (h : Heap) : FnOK Tryz.prog 149 [tgtA l] h fun r h' => r = .v (.int .i64 (tgtE l)) ∧ h' = h := by
  refine FnOK.body hU hm Tryz.func149 rfl (by kernel_rfl) 21 rfl [.tmp 2] rfl (Nat.le_of_ble_eq_true rfl) (fun hwf => ?_)
  cases d1 : decide (8 < (l.length : Int))
  case true =>
    have e1 : 8 < l.length := by have := of_decide_eq_true d1; omega
    simp -implicitDefEqProofs only [go_sem, tgtA, List.length_map, d1]
    exact .same (.refl _) ⟨by simp [tgtE, e1, oneOr], rfl⟩
  have e1 : ¬ 8 < l.length := by have := of_decide_eq_false d1; omega
  simp -implicitDefEqProofs only [go_sem, d1, tgtA, List.length_map]
  refine .intro (fun m ρ h' => Ab.Sub h h' ∧ ∃ i : Nat, i ≤ l.length ∧ m = l.length - i ∧ firstE anyE (l.take i) = 0 ∧ lk ρ 9 = some (tgtA l) ∧ lk ρ 10 = some (.v (.int .i64 l.length)) ∧ lk ρ 11 = some (.v (.int .i64 i))) l.length ?_ ?_
  · refine ⟨.refl _, 0, by omega, rfl, rfl, ?_, ?_, ?_⟩ <;> simp -implicitDefEqProofs only [go_sem, tgtA]
  · rintro m ρ h' ⟨hs, i, hi, rfl, hc, r12, r13, r14⟩
    simp -implicitDefEqProofs only [go_sem, r12, r13, r14]
    refine .intro (fun e => ?_) (fun e => ?_)
    · have hlt : i < l.length := Int.ofNat_lt.1 (of_decide_eq_true e)
      have w1 : IntKind.i64.wrap ((i : Int) + 1) = ((i + 1 : Nat) : Int) := by rw [wr64 _ (by omega)]; omega
      simp -implicitDefEqProofs only [go_sem, r12, r13, r14, tgtA]
      refine .at i (by simpa using hlt) (by rw [List.getElem_map]; rfl) ?_
      simp -implicitDefEqProofs only [go_sem, r12, r13, r14, List.getElem_map, anyA]
      refine (anyOf_ok l[i] _).pthen ?_
      cases d2 : (anyE l[i] != 0)
      · have e2 : anyE l[i] = 0 := by simpa using d2
        simp -implicitDefEqProofs only [go_sem, r12, r13, r14, d2, w1]
        refine ⟨_, ?_, hs, i + 1, by omega, rfl, firstE_take hlt hc e2, ?_, ?_, ?_⟩
        · omega
        all_goals simp -implicitDefEqProofs only [go_sem, r12, r13, r14, w1, tgtA]
      · have e2 : anyE l[i] ≠ 0 := by simpa using d2
        simp -implicitDefEqProofs only [go_sem, r12, r13, r14, d2]
        refine .mk _ (.refl _) hs ⟨?_, rfl⟩
        simp [tgtE, e1, firstE_at hlt hc e2, oneOr]
    · have hge : i = l.length := by have := of_decide_eq_false e; omega
      subst hge
      rw [List.take_length] at hc
      simp -implicitDefEqProofs only [go_sem, r12, r13, r14]
      exact .mk _ (.refl _) hs ⟨by simp [tgtE, e1, hc, oneOr], rfl⟩
theorem obls_ok (l : List OblD) (h : Heap) : FnOK Tryz.prog 150 [oblsA l] h fun r h' => r = .v (.int .i64 (oblsE l)) ∧ h' = h := by
  refine FnOK.body hU hm Tryz.func150 rfl (by kernel_rfl) 39 rfl [.tmp 2] rfl (Nat.le_of_ble_eq_true rfl) (fun hwf => ?_)
  cases d1 : decide (8 < (l.length : Int))
  case true =>
    have e1 : 8 < l.length := by have := of_decide_eq_true d1; omega
    simp -implicitDefEqProofs only [go_sem, oblsA, List.length_map, d1]
    exact .same (.refl _) ⟨by simp [oblsE, e1, oneOr], rfl⟩
  have e1 : ¬ 8 < l.length := by have := of_decide_eq_false d1; omega
  simp -implicitDefEqProofs only [go_sem, d1, oblsA, List.length_map]
  refine .intro (fun m ρ h' => Ab.Sub h h' ∧ ∃ i : Nat, i ≤ l.length ∧ m = l.length - i ∧ (l.take i).all oblOK = true ∧ lk ρ 8 = some (oblsA l) ∧ lk ρ 9 = some (.v (.int .i64 l.length)) ∧ lk ρ 10 = some (.v (.int .i64 i))) l.length ?_ ?_
  · refine ⟨.refl _, 0, by omega, rfl, rfl, ?_, ?_, ?_⟩ <;> simp -implicitDefEqProofs only [go_sem, oblsA]
  · rintro m ρ h' ⟨hs, i, hi, rfl, hc, r12, r13, r14⟩
    simp -implicitDefEqProofs only [go_sem, r12, r13, r14]
    refine .intro (fun e => ?_) (fun e => ?_)
    · have hlt : i < l.length := Int.ofNat_lt.1 (of_decide_eq_true e)
      have w1 : IntKind.i64.wrap ((i : Int) + 1) = ((i + 1 : Nat) : Int) := by rw [wr64 _ (by omega)]; omega
      simp -implicitDefEqProofs only [go_sem, r12, r13, r14, oblsA]
      refine .at i (by simpa using hlt) (by rw [List.getElem_map]; rfl) ?_
      simp -implicitDefEqProofs only [go_sem, r12, r13, r14, List.getElem_map, oblA]
      intro id hid
      have bad : oblOK l[i] = false → oblsE l = 1 := fun hb => by
        have : l.all oblOK = false := List.all_eq_false.2 ⟨_, List.getElem_mem hlt, by simp [hb]⟩
        simp [oblsE, e1, this]
      cases c1 : decide (l[i].on < 1)
      case true =>
        simp -implicitDefEqProofs only [go_sem, r12, r13, r14, c1]
        exact .mk _ (.refl _) (hs.new hid _) ⟨by rw [bad (by have := of_decide_eq_true c1; simp [oblOK]; omega)]; rfl, rfl⟩
      cases c2 : decide (2 < l[i].on)
      case true =>
        simp -implicitDefEqProofs only [go_sem, r12, r13, r14, c1, c2]
        exact .mk _ (.refl _) (hs.new hid _) ⟨by rw [bad (by have := of_decide_eq_true c2; simp [oblOK]; omega)]; rfl, rfl⟩
      cases c3 : decide (l[i].kind < 1)
      case true =>
        simp -implicitDefEqProofs only [go_sem, r12, r13, r14, c1, c2, c3]
        exact .mk _ (.refl _) (hs.new hid _) ⟨by rw [bad (by have := of_decide_eq_true c3; simp [oblOK]; omega)]; rfl, rfl⟩
      cases c4 : decide (4 < l[i].kind)
      case true =>
        simp -implicitDefEqProofs only [go_sem, r12, r13, r14, c1, c2, c3, c4]
        exact .mk _ (.refl _) (hs.new hid _) ⟨by rw [bad (by have := of_decide_eq_true c4; simp [oblOK]; omega)]; rfl, rfl⟩
      simp -implicitDefEqProofs only [go_sem, r12, r13, r14, c1, c2, c3, c4]
      refine (name_ok _ _).pthen ?_
      cases d2 : nameOK l[i].arg
      · simp -implicitDefEqProofs only [go_sem, r12, r13, r14, d2]
        exact .mk _ (.refl _) (hs.new hid _) ⟨by rw [bad (by simp [oblOK, d2])]; rfl, rfl⟩
      · simp -implicitDefEqProofs only [go_sem, r12, r13, r14, d2, w1]
        refine ⟨_, ?_, hs.new hid _, i + 1, by omega, rfl, ?_, ?_, ?_, ?_⟩
        · omega
        · have f1 := of_decide_eq_false c1
          have f2 := of_decide_eq_false c2
          have f3 := of_decide_eq_false c3
          have f4 := of_decide_eq_false c4
          rw [List.take_succ_eq_append_getElem hlt, List.all_append, hc]; simp [oblOK, d2]; omega
        all_goals simp -implicitDefEqProofs only [go_sem, r12, r13, r14, w1, oblsA]
    · have hge : i = l.length := by have := of_decide_eq_false e; omega
      subst hge
      rw [List.take_length] at hc
      simp -implicitDefEqProofs only [go_sem, r12, r13, r14]
      exact .mk _ (.refl _) hs ⟨by simp [oblsE, e1, hc, oneOr], rfl⟩
end Go.Proofs.YtnhelgnmadbpgaaGreatDoor

set_option linter.unusedSimpArgs false
set_option linter.unusedVariables false
namespace Go.Proofs.YtnhelgnmadbpgaaGreatDoor
open Go Go.Ab Go.Bf
theorem wants_ok (op : Int) (h : Heap) : FnOK Tryz.prog 193 [.v (.int .i64 op)] h fun r h' => r = (match wantsD op with
    | none => .tup [.sl [] .no, .v (.bool false)]
    | some w => .tup [.sl (w.map boolA) .no, .v (.bool true)]) ∧ h' = h := by
  refine FnOK.body hU hm Tryz.func193 rfl (by kernel_rfl) 35 rfl [.tmp 2, .tmp 3] rfl (Nat.le_of_ble_eq_true rfl) (fun hwf => ?_)
  cases k1 : (op == 1)
  case true =>
    have e1 : op = 1 := by simpa using k1
    simp -implicitDefEqProofs only [go_sem, k1]
    exact .mk _ (weak_strip _) (.refl _) ⟨by simp [wantsD, e1, oneOr, strip, stripL, boolA], rfl⟩
  have n1 : op ≠ 1 := by simpa using k1
  cases k2 : (op == 2)
  case true =>
    have e1 : op = 2 := by simpa using k2
    simp -implicitDefEqProofs only [go_sem, k1, k2]
    exact .mk _ (weak_strip _) (.refl _) ⟨by simp [wantsD, e1, oneOr, strip, stripL, boolA], rfl⟩
  have n2 : op ≠ 2 := by simpa using k2
  cases k3 : (op == 3)
  case true =>
    have e1 : op = 3 := by simpa using k3
    simp -implicitDefEqProofs only [go_sem, k1, k2, k3]
    exact .mk _ (weak_strip _) (.refl _) ⟨by simp [wantsD, e1, oneOr, strip, stripL, boolA], rfl⟩
  have n3 : op ≠ 3 := by simpa using k3
  cases k4 : (op == 4)
  case true =>
    have e1 : op = 4 := by simpa using k4
    simp -implicitDefEqProofs only [go_sem, k1, k2, k3, k4]
    exact .mk _ (weak_strip _) (.refl _) ⟨by simp [wantsD, e1, oneOr, strip, stripL, boolA], rfl⟩
  have n4 : op ≠ 4 := by simpa using k4
  cases k5 : (op == 5)
  case true =>
    have e1 : op = 5 := by simpa using k5
    simp -implicitDefEqProofs only [go_sem, k1, k2, k3, k4, k5]
    exact .mk _ (weak_strip _) (.refl _) ⟨by simp [wantsD, e1, oneOr, strip, stripL, boolA], rfl⟩
  have n5 : op ≠ 5 := by simpa using k5
  cases k11 : (op == 11)
  case true =>
    have e1 : op = 11 := by simpa using k11
    simp -implicitDefEqProofs only [go_sem, k1, k2, k3, k4, k5, k11]
    exact .mk _ (weak_strip _) (.refl _) ⟨by simp [wantsD, e1, oneOr, strip, stripL, boolA], rfl⟩
  have n11 : op ≠ 11 := by simpa using k11
  cases k6 : decide (6 ≤ op)
  · have n6 := of_decide_eq_false k6
    simp -implicitDefEqProofs only [go_sem, k1, k2, k3, k4, k5, k11, k6]
    exact .mk _ (weak_strip _) (.refl _) ⟨by simp [wantsD, n1, n2, n3, n4, n5, n11, n6, oneOr, strip, stripL, boolA], rfl⟩
  cases k13 : decide (op ≤ 13)
  · have n13 := of_decide_eq_false k13
    simp -implicitDefEqProofs only [go_sem, k1, k2, k3, k4, k5, k11, k6, k13]
    exact .mk _ (weak_strip _) (.refl _) ⟨by simp [wantsD, n1, n2, n3, n4, n5, n11, n13, oneOr, strip, stripL, boolA], rfl⟩
  have n6 := of_decide_eq_true k6
  have n13 := of_decide_eq_true k13
  simp -implicitDefEqProofs only [go_sem, k1, k2, k3, k4, k5, k11, k6, k13]
  exact .mk _ (weak_strip _) (.refl _) ⟨by simp [wantsD, n1, n2, n3, n4, n5, n11, n6, n13, oneOr, strip, stripL, boolA], rfl⟩
theorem fields_ok (n : NodeD) (h : Heap) : FnOK Tryz.prog 194 [nodeA n] h fun r h' => r = .v (.bool (fieldsOK n)) ∧ h' = h := by
  refine FnOK.body hU hm Tryz.func194 rfl (by kernel_rfl) 37 rfl [.tmp 2] rfl (Nat.le_of_ble_eq_true rfl) (fun hwf => ?_)
  simp -implicitDefEqProofs only [go_sem, nodeA]
  intro id hid
  have fa : ∀ x y z : Bool, (x && (y && (z && true))) = (x && (y && (z && true))) := fun _ _ _ => rfl
  cases k1 : (n.op == 1)
  case true =>
    have e1 : n.op = 1 := by simpa using k1
    simp -implicitDefEqProofs only [go_sem, k1]
    refine (valRight_ok n.val _).pthen ?_
    cases d0 : valOK n.val
    · simp -implicitDefEqProofs only [go_sem, d0]
      exact .mk _ (.refl _) (.upd_new hid) ⟨by simp [fieldsOK, e1, d0, oneOr], rfl⟩
    · simp -implicitDefEqProofs only [go_sem, d0]
      exact .mk _ (.refl _) (.upd_new hid) ⟨by simp [fieldsOK, e1, d0, oneOr, zeroAt], rfl⟩
  have n1 : n.op ≠ 1 := by simpa using k1
  cases k2 : (n.op == 2)
  case true =>
    have e1 : n.op = 2 := by simpa using k2
    simp -implicitDefEqProofs only [go_sem, k1, k2]
    refine (attr_ok n.attr _).pthen ?_
    cases d0 : attrOK n.attr
    · simp -implicitDefEqProofs only [go_sem, d0]
      exact .mk _ (.refl _) (.upd_new hid) ⟨by simp [fieldsOK, e1, d0, oneOr], rfl⟩
    · simp -implicitDefEqProofs only [go_sem, d0]
      exact .mk _ (.refl _) (.upd_new hid) ⟨by simp [fieldsOK, e1, d0, oneOr, zeroV], rfl⟩
  have n2 : n.op ≠ 2 := by simpa using k2
  cases d0 : zeroV n.val
  · have d1 := d0
    unfold zeroV at d1
    simp -implicitDefEqProofs only [go_sem, k1, k2, d1]
    exact .mk _ (.refl _) (.upd_new hid) ⟨by simp [fieldsOK, n1, n2, d0, oneOr], rfl⟩
  · have d1 := d0
    unfold zeroV at d1
    simp -implicitDefEqProofs only [go_sem, k1, k2, d1]
    exact .mk _ (.refl _) (.upd_new hid) ⟨by simp [fieldsOK, n1, n2, d0, oneOr, zeroAt], rfl⟩
end Go.Proofs.YtnhelgnmadbpgaaGreatDoor

set_option linter.unusedSimpArgs false
set_option linter.unusedVariables false
namespace Go.Proofs.YtnhelgnmadbpgaaGreatDoor
open Go Go.Ab Go.Bf
theorem u4 : (U 4).sz = 1 := by simp only [go_sem]
theorem u4a : (U 4).k.agg = false := by simp only [go_sem]
theorem u4b : (U 4).bytes = 1 := by simp only [go_sem]
theorem u4f : fit (U 4).zero 1 := by simp only [go_sem]
theorem u4n : isAggA (U 4).zero = false := by simp only [go_sem]
theorem b_one (l : List Bool) : One (l.map boolA) := One.map (fun _ => rfl) l
theorem step_ok (y : AV) (st : List Bool) (n : NodeD) (h0 h : Heap) (hy : WrA 4 h0 h y (st.map boolA)) (hl : st.length ≤ 1000000) :
    FnOK Tryz.prog 180 [y, nodeA n] h fun r h' => ∃ z, r = .tup [z, .v (.bool (stepD st n).isSome)] ∧ match stepD st n with
      | none => Ab.Sub h0 h'
      | some st' => WrA 4 h0 h' z (st'.map boolA) := by
  refine FnOK.body hU hm Tryz.func180 rfl (by kernel_rfl) 60 rfl [.tmp 4, .tmp 5] rfl (Nat.le_of_ble_eq_true rfl) (fun hwf => ?_)
  simp -implicitDefEqProofs only [go_sem, nodeA]
  intro id hid
  simp -implicitDefEqProofs only [go_sem]
  have hyb := hy.base hid (some (.obj [.v (.int .i64 n.op), .v (.int .i64 n.val.kind), .v (.int .i64 n.val.n), .s n.val.s, .v (.int .i64 n.attr.cat), .s n.attr.name, .v (.bool n.attr.must)] 172))
  have hw := wants_ok n.op (upd h id (some (.obj [.v (.int .i64 n.op), .v (.int .i64 n.val.kind), .v (.int .i64 n.val.n), .s n.val.s, .v (.int .i64 n.attr.cat), .s n.attr.name, .v (.bool n.attr.must)] 172)))
  cases hwd : wantsD n.op with
  | none =>
    rw [hwd] at hw
    have hst : stepD st n = none := by simp [stepD, hwd]
    refine hw.pthen ?_
    simp -implicitDefEqProofs only [go_sem]
    exact .mk _ (.refl _) (.upd_new hid) ⟨_, by rw [hst]; rfl, by rw [hst]; exact hy.1⟩
  | some w =>
    rw [hwd] at hw
    have hwl : w.length ≤ 2 := by
      unfold wantsD at hwd
      repeat' split at hwd
      all_goals first | (cases hwd; simp; done) | (cases hwd)
    refine hw.pthen ?_
    simp -implicitDefEqProofs only [go_sem]
    refine (fields_ok n _).pthen ?_
    cases d1 : fieldsOK n
    · have hst : stepD st n = none := by simp [stepD, hwd, d1]
      simp -implicitDefEqProofs only [go_sem, d1]
      exact .mk _ (.refl _) (.upd_new hid) ⟨_, by rw [hst]; rfl, by rw [hst]; exact hy.1⟩
    cases d2 : decide ((st.length : Int) < (w.length : Int))
    case true =>
      have e2 : ¬ w.length ≤ st.length := by have := of_decide_eq_true d2; omega
      have hst : stepD st n = none := by simp [stepD, hwd, d1, e2]
      simp -implicitDefEqProofs only [go_sem, d1, hyb.len, List.length_map, d2]
      exact .mk _ (.refl _) (.upd_new hid) ⟨_, by rw [hst]; rfl, by rw [hst]; exact hy.1⟩
    have e2 : w.length ≤ st.length := by have := of_decide_eq_false d2; omega
    have w1 : IntKind.i64.wrap ((st.length : Int) - (w.length : Int)) = ((st.length - w.length : Nat) : Int) := by rw [wr64 _ (by omega)]; omega
    obtain ⟨hb, ehb⟩ : ∃ hb, upd h id (some (.obj [.v (.int .i64 n.op), .v (.int .i64 n.val.kind), .v (.int .i64 n.val.n), .s n.val.s, .v (.int .i64 n.attr.cat), .s n.attr.name, .v (.bool n.attr.must)] 172)) = hb := ⟨_, rfl⟩
    have hbid : hb id = some (.obj [.v (.int .i64 n.op), .v (.int .i64 n.val.kind), .v (.int .i64 n.val.n), .s n.val.s, .v (.int .i64 n.attr.cat), .s n.attr.name, .v (.bool n.attr.must)] 172) := by rw [← ehb]; exact upd_same ..
    have hsub : Ab.Sub h hb := by rw [← ehb]; exact .upd_new hid
    rw [ehb] at hyb ⊢
    simp -implicitDefEqProofs only [go_sem, d1, hyb.len, List.length_map, d2, w1]
    refine .intro (fun m ρ h' => h' = hb ∧ ∃ i : Nat, i ≤ w.length ∧ m = w.length - i ∧ (∀ j, j < i → st[st.length - w.length + j]? = w[j]?) ∧ lk ρ 0 = some y ∧ lk ρ 3 = some (.ptr id 0) ∧ lk ρ 8 = some (.v (.int .i64 ((st.length - w.length : Nat) : Int))) ∧ lk ρ 36 = some (.sl (w.map boolA) .no) ∧ lk ρ 37 = some (.v (.int .i64 w.length)) ∧ lk ρ 38 = some (.v (.int .i64 i))) w.length ?_ ?_
    · refine ⟨rfl, 0, by omega, rfl, fun j hj => (by omega), ?_, ?_, ?_, ?_, ?_, ?_⟩ <;> simp -implicitDefEqProofs only [go_sem]
    · rintro m ρ h' ⟨rfl, i, hi, rfl, hc, r0, r3, r8, r36, r37, r38⟩
      simp -implicitDefEqProofs only [go_sem, r0, r3, r8, r36, r37, r38]
      refine .intro (fun e => ?_) (fun e => ?_)
      · have hlt : i < w.length := Int.ofNat_lt.1 (of_decide_eq_true e)
        have w2 : IntKind.i64.wrap ((i : Int) + 1) = ((i + 1 : Nat) : Int) := by rw [wr64 _ (by omega)]; omega
        have w3 : IntKind.i64.wrap (((st.length - w.length : Nat) : Int) + (i : Int)) = ((st.length - w.length + i : Nat) : Int) := by rw [wr64 _ (by omega)]; omega
        have hlt2 : st.length - w.length + i < st.length := by omega
        simp -implicitDefEqProofs only [go_sem, r0, r3, r8, r36, r37, r38]
        refine .at i (by simpa using hlt) (by rw [List.getElem_map]; rfl) ?_
        simp -implicitDefEqProofs only [go_sem, r0, r3, r8, r36, r37, r38, List.getElem_map, boolA, w3]
        refine hyb.idx (b_one st) (st.length - w.length + i) rfl (by simpa using hlt2) u4 u4a fun p hp => ?_
        simp -implicitDefEqProofs only [go_sem, r0, r3, r8, r36, r37, r38, hp _, List.getElem_map, boolA]
        cases d3 : (st[st.length - w.length + i] == w[i])
        · have hst : stepD st n = none := by
            have : st.drop (st.length - w.length) ≠ w := fun hh => by
              have := congrArg (fun q => q[i]?) hh
              simp only [List.getElem?_drop, List.getElem?_eq_getElem hlt, List.getElem?_eq_getElem hlt2, Option.some.injEq] at this
              rw [this] at d3; simp at d3
            simp [stepD, hwd, this]
          simp -implicitDefEqProofs only [go_sem, r0, r3, r8, r36, r37, r38, d3]
          exact .mk _ (.refl _) hsub ⟨_, by rw [hst]; rfl, by rw [hst]; exact hy.1⟩
        · simp -implicitDefEqProofs only [go_sem, r0, r3, r8, r36, r37, r38, d3, w2]
          refine ⟨_, ?_, rfl, i + 1, by omega, rfl, fun j hj => ?_, ?_, ?_, ?_, ?_, ?_, ?_⟩
          · omega
          · by_cases hji : j = i
            · subst hji
              rw [List.getElem?_eq_getElem hlt2, List.getElem?_eq_getElem hlt]
              simpa using d3
            · exact hc j (by omega)
          all_goals simp -implicitDefEqProofs only [go_sem, r0, r3, r8, r36, r37, r38, w2]
      · have hge : i = w.length := by have := of_decide_eq_false e; omega
        subst hge
        have hdrop : st.drop (st.length - w.length) = w := by
          apply List.ext_getElem?
          intro j
          rw [List.getElem?_drop]
          by_cases hj : j < w.length
          · exact hc j hj
          · rw [List.getElem?_eq_none (by omega), List.getElem?_eq_none (by omega)]
        have hst : stepD st n = some (st.take (st.length - w.length) ++ [n.op == 2]) := by
          simp [stepD, hwd, d1, e2, hdrop]
        simp -implicitDefEqProofs only [go_sem, r0, r3, r8, r36, r37, r38]
        refine .calls (hm1 id _) [0, 1, 2, 3, 4, 5, 6, 7, 8, 9] (.hm1 hbid) (by kernel_rfl) rfl ?_
        simp -implicitDefEqProofs only [go_sem, r0, r3, r8, r36, r37, r38]
        refine hyb.cut (x := .i64) (st.length - w.length) (by simp -implicitDefEqProofs only [go_sem, r0, r3, r8]) rfl (by simp) u4 fun z hz => ?_
        rw [← List.map_take] at hz
        simp -implicitDefEqProofs only [go_sem, r0, r3, r8, r36, r37, r38, hm1_same]
        refine hz.app (zs := [.v (.bool (n.op == 2))]) (b_one _) (b_one [n.op == 2]) u4 (by rw [u4b]; decide) u4f u4n (fun k hk => hk) (by rw [u4b]; simp; omega) fun z' h2 hz' => ?_
        refine ⟨fun j b hj => ((Sub.hm1 (upd_same ..)).trans hz'.1) j b hj, ?_⟩
        simp -implicitDefEqProofs only [go_sem, r0, r3, r8]
        have hz2 := hz'.less (Sub.upd_new (hy.1.none hid))
        refine .same (.refl _) ⟨z', by rw [hst]; rfl, ?_⟩
        rw [hst]
        simp only [List.map_append]
        exact hz2
theorem condE_none {l : List NodeD} (h : l.length ≤ 32) (hs : stepsD [] l = none) : exprE l = 1 := by
  simp [exprE, hs, Nat.not_lt.2 h]
theorem stepsD_split (st : List Bool) : ∀ (l : List NodeD) (i : Nat), stepsD st l = (match stepsD st (l.take i) with
    | none => none
    | some st' => stepsD st' (l.drop i))
  | [], i => by simp [stepsD]
  | n :: r, 0 => by simp [stepsD]
  | n :: r, i + 1 => by
    simp only [List.take_succ_cons, List.drop_succ_cons, stepsD]
    cases stepD st n with
    | none => rfl
    | some st' => simp only; exact stepsD_split st' r i
theorem stepsD_length (st st' : List Bool) (l : List NodeD) (h : stepsD st l = some st') : st'.length ≤ st.length + l.length := by
  induction l generalizing st with
  | nil => simp only [stepsD, Option.some.injEq] at h; subst h; simp
  | cons n r ih =>
    simp only [stepsD] at h
    cases hs : stepD st n with
    | none => rw [hs] at h; cases h
    | some s2 =>
      rw [hs] at h
      have := ih s2 h
      unfold stepD at hs
      split at hs
      · cases hs
      · split at hs
        · cases hs
          simp at this ⊢
          omega
        · cases hs
theorem expr_ok (l : List NodeD) (h : Heap) : FnOK Tryz.prog 151 [condA l] h fun r h' => r = .v (.int .i64 (exprE l)) ∧ h' = h := by
  refine FnOK.body hU hm Tryz.func151 rfl (by kernel_rfl) 38 rfl [.tmp 2] rfl (Nat.le_of_ble_eq_true rfl) (fun hwf => ?_)
  cases d1 : decide (32 < (l.length : Int))
  case true =>
    have e1 : 32 < l.length := by have := of_decide_eq_true d1; omega
    simp -implicitDefEqProofs only [go_sem, condA, List.length_map, d1]
    exact .same (.refl _) ⟨by simp [exprE, e1, oneOr], rfl⟩
  have e1 : l.length ≤ 32 := by have := of_decide_eq_false d1; omega
  simp -implicitDefEqProofs only [go_sem, condA, List.length_map, d1]
  refine .intro (fun m ρ h' => ∃ (i : Nat) (y : AV) (st : List Bool), WrA 4 h h' y (st.map boolA) ∧ stepsD [] (l.take i) = some st ∧ i ≤ l.length ∧ m = l.length - i ∧
    lk ρ 0 = some (condA l) ∧ lk ρ 3 = some y ∧ lk ρ 10 = some (condA l) ∧ lk ρ 11 = some (.v (.int .i64 l.length)) ∧ lk ρ 12 = some (.v (.int .i64 i))) l.length ?_ ?_
  · refine ⟨0, _, [], .nil (.refl _), rfl, by omega, rfl, ?_, ?_, ?_, ?_, ?_⟩ <;> simp -implicitDefEqProofs only [go_sem, condA]
  · rintro m ρ h' ⟨i, y, st, hy, hst, hi, rfl, r0, r3, r10, r11, r12⟩
    have hsl := stepsD_length _ _ _ hst
    have hsl : st.length ≤ i := by simpa [Nat.min_eq_left hi] using hsl
    simp -implicitDefEqProofs only [go_sem, r0, r3, r10, r11, r12]
    refine .intro (fun e => ?_) (fun e => ?_)
    · have hlt : i < l.length := Int.ofNat_lt.1 (of_decide_eq_true e)
      have w1 : IntKind.i64.wrap ((i : Int) + 1) = ((i + 1 : Nat) : Int) := by rw [wr64 _ (by omega)]; omega
      have hnx : stepsD [] (l.take (i + 1)) = stepD st l[i] := by
        rw [stepsD_split [] _ i, List.take_take, Nat.min_eq_left (by omega), hst, List.take_succ_eq_append_getElem hlt, List.drop_append_of_le_length (by simp; omega), List.drop_of_length_le (by simp; omega)]
        simp only [List.nil_append, stepsD]
        cases stepD st l[i] <;> rfl
      simp -implicitDefEqProofs only [go_sem, r0, r3, r10, r11, r12, condA]
      refine .at i (by simpa using hlt) (by rw [List.getElem_map]; rfl) ?_
      simp -implicitDefEqProofs only [go_sem, r0, r3, r10, r11, r12, List.getElem_map, nodeA]
      intro id hid
      simp -implicitDefEqProofs only [go_sem, r0, r3, r10, r11, r12]
      have hyb := hy.sub (Sub.upd_new (k := some (.obj [.v (.int .i64 l[i].op), .v (.int .i64 l[i].val.kind), .v (.int .i64 l[i].val.n), .s l[i].val.s, .v (.int .i64 l[i].attr.cat), .s l[i].attr.name, .v (.bool l[i].attr.must)] 172)) hid)
      refine (step_ok y st l[i] h _ hyb (by omega)).mono fun r h2 ⟨z, e2, hz⟩ => ?_
      subst e2
      cases hsd : stepD st l[i] with
      | none =>
        rw [hsd] at hz
        simp -implicitDefEqProofs only [go_sem, r0, r3, r10, r11, r12, Option.isSome_none]
        refine .mk _ (.refl _) hz ⟨?_, rfl⟩
        rw [condE_none e1 (by rw [stepsD_split [] l (i + 1), hnx, hsd])]; rfl
      | some st' =>
        rw [hsd] at hz hnx
        simp -implicitDefEqProofs only [go_sem, r0, r3, r10, r11, r12, Option.isSome_some, w1]
        refine ⟨_, ?_, i + 1, z, st', hz, hnx, by omega, rfl, ?_, ?_, ?_, ?_, ?_⟩
        · omega
        all_goals simp -implicitDefEqProofs only [go_sem, r0, r3, r10, r11, r12, w1, condA]
    · have hge : i = l.length := by have := of_decide_eq_false e; omega
      subst hge
      rw [List.take_length] at hst
      have he : exprE l = if l = [] ∨ st = [false] then 0 else 1 := by
        simp only [exprE, hst]
        rw [if_neg (by omega)]
      cases d2 : decide (0 < (l.length : Int))
      · have e2 : l = [] := by have := of_decide_eq_false d2; exact List.length_eq_zero_iff.1 (by omega)
        simp -implicitDefEqProofs only [go_sem, r0, r3, r10, r11, r12, condA, List.length_map, d2]
        exact .mk _ (.refl _) hy.1 ⟨by rw [he, if_pos (.inl e2)]; rfl, rfl⟩
      have e2 : l ≠ [] := by rintro rfl; simp at d2
      cases d3 : ((st.length : Int) != 1)
      case true =>
        have e3 : st ≠ [false] := by rintro rfl; simp at d3
        simp -implicitDefEqProofs only [go_sem, r0, r3, r10, r11, r12, condA, List.length_map, d2, hy.len, d3]
        exact .mk _ (.refl _) hy.1 ⟨by rw [he, if_neg (by simp [e2, e3])]; rfl, rfl⟩
      have e3 : st.length = 1 := by
        have : (st.length : Int) = 1 := by simpa using d3
        omega
      obtain ⟨b, rfl⟩ := List.length_eq_one_iff.1 e3
      simp -implicitDefEqProofs only [go_sem, r0, r3, r10, r11, r12, condA, List.length_map, d2, hy.len, d3]
      refine hy.idx (b_one [b]) 0 rfl (by simp) u4 u4a fun p hp => ?_
      simp -implicitDefEqProofs only [go_sem, r0, r3, r10, r11, r12, hp _, List.getElem_map, boolA, List.getElem_cons_zero]
      cases b
      · simp -implicitDefEqProofs only [go_sem, r0, r3, r10, r11, r12]
        exact .mk _ (.refl _) hy.1 ⟨by rw [he, if_pos (.inr rfl)]; rfl, rfl⟩
      · simp -implicitDefEqProofs only [go_sem, r0, r3, r10, r11, r12]
        exact .mk _ (.refl _) hy.1 ⟨by rw [he, if_neg (by simp [e2])]; rfl, rfl⟩
end Go.Proofs.YtnhelgnmadbpgaaGreatDoor

set_option linter.unusedSimpArgs false
set_option linter.unusedVariables false
namespace Go.Proofs.YtnhelgnmadbpgaaGreatDoor
open Go Go.Ab Go.Bf
def Keeps (S : List Nat) (h h' : Heap) : Prop := ∀ j k, j ∉ S → h j = some k → h' j = some k
theorem Keeps.refl (S : List Nat) (h : Heap) : Keeps S h h := fun _ _ _ e => e
theorem Keeps.trans {S : List Nat} {a b c : Heap} (x : Keeps S a b) (y : Keeps S b c) : Keeps S a c := fun j k hj e => y j k hj (x j k hj e)
theorem Keeps.of {S : List Nat} {a b : Heap} (x : Ab.Sub a b) : Keeps S a b := fun j k _ e => x j k e
theorem Keeps.upd {S : List Nat} {a : Heap} {i : Nat} {b : Option Blk} (hi : i ∈ S) : Keeps S a (Ab.upd a i b) := fun j k hj e => by
  rw [upd_other _ _ (fun e => hj (by rw [e]; exact hi))]; exact e
def WalkAt (h : Heap) (idw mid : Nat) (m : MetD) : Prop := h idw = some (.obj [.mp mid, .v (.int .i64 m.rules)] 133) ∧ h mid = some (.mp (setA m.met)) ∧ (∀ l ∈ m.met, l.length ≤ 16) ∧ m.rules ≤ 64
theorem WalkAt.ne {h : Heap} {idw mid : Nat} {m : MetD} (hw : WalkAt h idw mid m) : idw ≠ mid := fun e => by
  have h1 := hw.1; have h2 := hw.2.1
  rw [e, h2] at h1; cases h1
theorem WalkAt.keep {h h' : Heap} {idw mid : Nat} {m : MetD} (hw : WalkAt h idw mid m) (hs : Ab.Sub h h') : WalkAt h' idw mid m := ⟨hs _ _ hw.1, hs _ _ hw.2.1, hw.2.2⟩
theorem u158 : (U 241).sz = 0 := by simp only [go_sem]
theorem nameOK_len {s : Txt} (h : nameOK s = true) : s.length ≤ 16 := by
  simp [nameOK] at h; exact h.2
theorem meetD_none {m : MetD} {s : Txt} (h : s ∈ m.met ∨ nameOK s = false) : meetD m s = none := by
  unfold meetD
  rw [if_neg]
  rintro ⟨h1, h2⟩
  rcases h with h | h
  · exact h1 h
  · rw [h] at h2; cases h2
theorem wname_ok (idw mid : Nat) (m : MetD) (s : Txt) (h : Heap) (hw : WalkAt h idw mid m) : FnOK Tryz.prog 148 [.ptr idw 0, .s s] h fun r h' => match meetD m s with
    | none => r = .v (.bool false) ∧ Ab.Sub h h'
    | some m' => r = .v (.bool true) ∧ Keeps [idw, mid] h h' ∧ WalkAt h' idw mid m' := by
  refine FnOK.body hU hm Tryz.func148 rfl (by kernel_rfl) 28 rfl [.tmp 4] rfl (Nat.le_of_ble_eq_true rfl) (fun hwf => ?_)
  obtain ⟨w1, w2, w3, w4⟩ := hw
  have hlen : s.length ≤ maxLen := by
    have := hwf (.s s) (by simp)
    simp only [wfA, wf1, lim] at this
    unfold maxLen; omega
  have hkeys : KeysA .str (setA m.met) := keysA_set fun l hl => by have := w3 l hl; unfold maxLen; omega
  simp -implicitDefEqProofs only [go_sem, w1, w2, u158]
  refine ⟨hlen, .inr (by simp only [go_sem]), hkeys, ?_⟩
  rw [lookM_set _ _ u158]
  simp -implicitDefEqProofs only [go_sem, w1, w2]
  intro idv hidv
  simp -implicitDefEqProofs only [go_sem]
  cases d1 : decide (s ∈ m.met)
  case true =>
    have hm := meetD_none (.inl (of_decide_eq_true d1))
    simp -implicitDefEqProofs only [go_sem, d1]
    rw [hm]
    exact .mk _ (.refl _) (.upd_new hidv) ⟨rfl, .refl _⟩
  have e1 := of_decide_eq_false d1
  simp -implicitDefEqProofs only [go_sem, d1]
  refine (name_ok _ _).pthen ?_
  cases d2 : nameOK s
  · have hm := meetD_none (m := m) (.inr d2)
    simp -implicitDefEqProofs only [go_sem, d1, d2]
    rw [hm]
    exact .mk _ (.refl _) (.upd_new hidv) ⟨rfl, .refl _⟩
  have hm : meetD m s = some ⟨m.met ++ [s], m.rules⟩ := by simp [meetD, e1, d2]
  have hne := WalkAt.ne ⟨w1, w2, w3, w4⟩
  have n1 : idw ≠ idv := fun e => by rw [e, hidv] at w1; cases w1
  have n2 : mid ≠ idv := fun e => by rw [e, hidv] at w2; cases w2
  have w1' : upd h idv (some (.obj [] 241)) idw = some (.obj [.mp mid, .v (.int .i64 m.rules)] 133) := by rw [upd_other _ _ n1]; exact w1
  have w2' : upd h idv (some (.obj [] 241)) mid = some (.mp (setA m.met)) := by rw [upd_other _ _ n2]; exact w2
  simp -implicitDefEqProofs only [go_sem, d1, d2, w1', w2']
  refine ⟨hlen, hkeys, ?_⟩
  rw [setM_new e1]
  rw [hm]
  refine .same (.refl _) ⟨rfl, (Keeps.of (.upd_new hidv)).trans (.upd (by simp)), ?_, ?_, ?_, w4⟩
  · rw [upd_other _ _ hne]; exact w1'
  · rw [upd_same]
  · intro l hl
    rcases List.mem_append.1 hl with hl | hl
    · exact w3 l hl
    · rw [List.mem_singleton.1 hl]; exact nameOK_len d2
theorem wrule_ok (idw mid : Nat) (m : MetD) (r : RuleD) (h : Heap) (hw : WalkAt h idw mid m) : FnOK Tryz.prog 114 [.ptr idw 0, ruleA r] h fun x h' => x = .v (.int .i64 (ruleW m r).err) ∧ Keeps [idw, mid] h h' ∧ ∀ m', ruleW m r = .ok m' → WalkAt h' idw mid m' := by
  refine FnOK.body hU hm Tryz.func114 rfl (by kernel_rfl) 39 rfl [.tmp 4] rfl (Nat.le_of_ble_eq_true rfl) (fun hwf => ?_)
  simp -implicitDefEqProofs only [go_sem, ruleA, tgtA, condA, oblsA]
  intro id hid
  have n1 : idw ≠ id := fun e => by have := hw.1; rw [e, hid] at this; cases this
  have n2 : mid ≠ id := fun e => by have := hw.2.1; rw [e, hid] at this; cases this
  have hwb := hw.keep (Sub.upd_new (k := some (.obj [.s r.id, .v (.bool r.deny), .sl (r.tgt.map anyA) .no, .sl (r.cond.map nodeA) .no, .sl (r.obls.map oblA) .no] 169)) hid)
  have hk0 : Keeps [idw, mid] h (upd h id (some (.obj [.s r.id, .v (.bool r.deny), .sl (r.tgt.map anyA) .no, .sl (r.cond.map nodeA) .no, .sl (r.obls.map oblA) .no] 169))) := .of (.upd_new hid)
  simp -implicitDefEqProofs only [go_sem]
  obtain ⟨hb, ehb⟩ : ∃ hb, upd h id (some (.obj [.s r.id, .v (.bool r.deny), .sl (r.tgt.map anyA) .no, .sl (r.cond.map nodeA) .no, .sl (r.obls.map oblA) .no] 169)) = hb := ⟨_, rfl⟩
  have hbid : hb id = some (.obj [.s r.id, .v (.bool r.deny), .sl (r.tgt.map anyA) .no, .sl (r.cond.map nodeA) .no, .sl (r.obls.map oblA) .no] 169) := by rw [← ehb]; exact upd_same ..
  rw [ehb] at hwb hk0 ⊢
  refine (wname_ok idw mid m r.id hb hwb).mono fun x h2 hx => ?_
  cases hm : meetD m r.id with
  | none =>
    rw [hm] at hx
    obtain ⟨rfl, hs⟩ := hx
    have hr : ruleW m r = .bad 1 := by simp [ruleW, hm]
    simp -implicitDefEqProofs only [go_sem]
    exact .same (.refl _) ⟨by rw [hr]; rfl, hk0.trans (.of hs), fun m' h' => by rw [hr] at h'; cases h'⟩
  | some m1 =>
    rw [hm] at hx
    obtain ⟨rfl, hk, hw2⟩ := hx
    have g2 := hw2.1
    have hle := hw2.2.2.2
    have hid2 : h2 id = some (.obj [.s r.id, .v (.bool r.deny), .sl (r.tgt.map anyA) .no, .sl (r.cond.map nodeA) .no, .sl (r.obls.map oblA) .no] 169) := hk id _ (by simp [n1.symm, n2.symm]) hbid
    have w1 : IntKind.i64.wrap ((m1.rules : Int) + 1) = ((m1.rules + 1 : Nat) : Int) := by rw [wr64 _ (by omega)]; omega
    have hk3 : Keeps [idw, mid] h (upd h2 idw (some (.obj [.mp mid, .v (.int .i64 ((m1.rules + 1 : Nat) : Int))] 133))) := (hk0.trans hk).trans (.upd (by simp))
    have hid3 : upd h2 idw (some (.obj [.mp mid, .v (.int .i64 ((m1.rules + 1 : Nat) : Int))] 133)) id = some (.obj [.s r.id, .v (.bool r.deny), .sl (r.tgt.map anyA) .no, .sl (r.cond.map nodeA) .no, .sl (r.obls.map oblA) .no] 169) := by
      rw [upd_other _ _ n1.symm]; exact hid2
    cases d1 : decide (64 < ((m1.rules + 1 : Nat) : Int))
    case true =>
      have e1 : m1.rules + 1 > 64 := by have := of_decide_eq_true d1; omega
      have hr : ruleW m r = .bad 6 := by simp [ruleW, hm, e1]
      simp -implicitDefEqProofs only [go_sem, g2, w1, d1]
      exact .same (.refl _) ⟨by rw [hr]; rfl, hk3, fun m' h' => by rw [hr] at h'; cases h'⟩
    have e1 : ¬ m1.rules + 1 > 64 := by have := of_decide_eq_false d1; omega
    have hr : ruleW m r = need (tgtE r.tgt) (need (exprE r.cond) (need (oblsE r.obls) (.ok ⟨m1.met, m1.rules + 1⟩))) := by simp [ruleW, hm, e1]
    simp -implicitDefEqProofs only [go_sem, g2, w1, d1, hid3]
    refine (target_ok r.tgt _).pthen ?_
    cases d2 : (tgtE r.tgt != 0)
    case true =>
      have e2 : tgtE r.tgt ≠ 0 := by simpa using d2
      have hr : ruleW m r = .bad (tgtE r.tgt) := by rw [hr]; simp [need, e2]
      simp -implicitDefEqProofs only [go_sem, d2]
      exact .same (.refl _) ⟨by rw [hr]; rfl, hk3, fun m' h' => by rw [hr] at h'; cases h'⟩
    have e2 : tgtE r.tgt = 0 := by simpa using d2
    rw [need, if_pos e2] at hr
    simp -implicitDefEqProofs only [go_sem, d2, hid3]
    refine (expr_ok r.cond _).pthen ?_
    cases d3 : (exprE r.cond != 0)
    case true =>
      have e3 : exprE r.cond ≠ 0 := by simpa using d3
      have hr : ruleW m r = .bad (exprE r.cond) := by rw [hr]; simp [need, e3]
      simp -implicitDefEqProofs only [go_sem, d3]
      exact .same (.refl _) ⟨by rw [hr]; rfl, hk3, fun m' h' => by rw [hr] at h'; cases h'⟩
    have e3 : exprE r.cond = 0 := by simpa using d3
    rw [need, if_pos e3] at hr
    simp -implicitDefEqProofs only [go_sem, d3, hid3]
    refine (obls_ok r.obls _).pthen ?_
    simp -implicitDefEqProofs only [go_sem]
    by_cases e4 : oblsE r.obls = 0
    · rw [need, if_pos e4] at hr
      refine .same (.refl _) ⟨by rw [hr, e4]; rfl, hk3, fun m' h' => ?_⟩
      rw [hr] at h'
      cases h'
      refine ⟨upd_same .., ?_, hw2.2.2.1, by show m1.rules + 1 ≤ 64; omega⟩
      rw [upd_other _ _ hw2.ne.symm]; exact hw2.2.1
    · rw [need, if_neg e4] at hr
      exact .same (.refl _) ⟨by rw [hr]; rfl, hk3, fun m' h' => by rw [hr] at h'; cases h'⟩
end Go.Proofs.YtnhelgnmadbpgaaGreatDoor

set_option linter.unusedSimpArgs false
set_option linter.unusedVariables false
namespace Go.Proofs.YtnhelgnmadbpgaaGreatDoor
open Go Go.Ab Go.Bf
theorem headW_none {m : MetD} {id : Txt} {set : Bool} {alg : Int} {tgt : TgtD} {nr nk : Nat} {obls : List OblD} (h : meetD m id = none) : headW m id set alg tgt nr nk obls = .bad 1 := by
  simp [headW, h]
theorem whead_ok (idw mid : Nat) (m : MetD) (id : Txt) (set : Bool) (alg : Int) (tgt : TgtD) (rules : List RuleD) (kids : List PolD) (obls : List OblD) (h : Heap) (hw : WalkAt h idw mid m) :
    FnOK Tryz.prog 113 [.ptr idw 0, polA (.mk id set alg tgt rules kids obls)] h fun x h' => x = .v (.int .i64 (headW m id set alg tgt rules.length kids.length obls).err) ∧ Keeps [idw, mid] h h' ∧ ∀ m', headW m id set alg tgt rules.length kids.length obls = .ok m' → WalkAt h' idw mid m' := by
  refine FnOK.body hU hm Tryz.func113 rfl (by kernel_rfl) 68 rfl [.tmp 4] rfl (Nat.le_of_ble_eq_true rfl) (fun hwf => ?_)
  simp -implicitDefEqProofs only [go_sem, polA, tgtA, oblsA]
  intro ip hip
  have n1 : idw ≠ ip := fun e => by have := hw.1; rw [e, hip] at this; cases this
  have n2 : mid ≠ ip := fun e => by have := hw.2.1; rw [e, hip] at this; cases this
  have hwb := hw.keep (Sub.upd_new (k := some (.obj [.s id, .v (.bool set), .v (.int .i64 alg), .sl (tgt.map anyA) .no, .sl (rules.map ruleA) .no, .sl (kidsA kids) .no, .sl (obls.map oblA) .no] 32)) hip)
  have hk0 : Keeps [idw, mid] h (upd h ip (some (.obj [.s id, .v (.bool set), .v (.int .i64 alg), .sl (tgt.map anyA) .no, .sl (rules.map ruleA) .no, .sl (kidsA kids) .no, .sl (obls.map oblA) .no] 32))) := .of (.upd_new hip)
  simp -implicitDefEqProofs only [go_sem]
  obtain ⟨hb, ehb⟩ : ∃ hb, upd h ip (some (.obj [.s id, .v (.bool set), .v (.int .i64 alg), .sl (tgt.map anyA) .no, .sl (rules.map ruleA) .no, .sl (kidsA kids) .no, .sl (obls.map oblA) .no] 32)) = hb := ⟨_, rfl⟩
  have hbip : hb ip = some (.obj [.s id, .v (.bool set), .v (.int .i64 alg), .sl (tgt.map anyA) .no, .sl (rules.map ruleA) .no, .sl (kidsA kids) .no, .sl (obls.map oblA) .no] 32) := by rw [← ehb]; exact upd_same ..
  rw [ehb] at hwb hk0 ⊢
  refine (wname_ok idw mid m id hb hwb).mono fun x h2 hx => ?_
  cases hm : meetD m id with
  | none =>
    rw [hm] at hx
    obtain ⟨rfl, hs⟩ := hx
    simp -implicitDefEqProofs only [go_sem]
    exact .same (.refl _) ⟨by rw [headW_none hm]; rfl, hk0.trans (.of hs), fun m' h' => by rw [headW_none hm] at h'; cases h'⟩
  | some m1 =>
    rw [hm] at hx
    obtain ⟨rfl, hk, hw2⟩ := hx
    have hip2 : h2 ip = some (.obj [.s id, .v (.bool set), .v (.int .i64 alg), .sl (tgt.map anyA) .no, .sl (rules.map ruleA) .no, .sl (kidsA kids) .no, .sl (obls.map oblA) .no] 32) := hk ip _ (by simp [n1.symm, n2.symm]) hbip
    have hkk := hk0.trans hk
    have bad : ∀ e, headW m id set alg tgt rules.length kids.length obls = .bad e → (.v (.int .i64 e) : AV) = .v (.int .i64 (headW m id set alg tgt rules.length kids.length obls).err) ∧ Keeps [idw, mid] h h2 ∧ ∀ m', headW m id set alg tgt rules.length kids.length obls = .ok m' → WalkAt h2 idw mid m' :=
      fun e he => ⟨by rw [he]; rfl, hkk, fun m' h' => by rw [he] at h'; cases h'⟩
    cases d1 : decide (alg < 1)
    case true =>
      have e1 := of_decide_eq_true d1
      simp -implicitDefEqProofs only [go_sem, d1, hip2]
      exact .same (.refl _) (bad 1 (by simp [headW, hm, e1]))
    cases d2 : decide (6 < alg)
    case true =>
      have e2 := of_decide_eq_true d2
      simp -implicitDefEqProofs only [go_sem, d1, d2, hip2]
      exact .same (.refl _) (bad 1 (by simp [headW, hm, e2]))
    have e1 : ¬ (alg < 1 ∨ alg > 6) := by have := of_decide_eq_false d1; have := of_decide_eq_false d2; omega
    have tail : ∀ (z : Unit), ¬ (set = true ∧ rules.length > 0 ∨ set = false ∧ (kids.length > 0 ∨ alg = 4)) → headW m id set alg tgt rules.length kids.length obls = need (tgtE tgt) (need (oblsE obls) (if rules.length > 16 ∨ kids.length > 16 then .bad 6 else .ok m1)) := fun _ hh => by
      simp only [headW, hm]
      rw [if_neg e1, if_neg hh]
    cases set
    · cases d4 : decide (0 < (kids.length : Int))
      case true =>
        have f4 : 0 < kids.length := by have := of_decide_eq_true d4; omega
        simp -implicitDefEqProofs only [go_sem, d1, d2, hip2, kidsA_eq, List.length_map, d4]
        exact .same (.refl _) (bad 1 (by simp [headW, hm, e1, f4]))
      have g4 : ¬ 0 < kids.length := by have := of_decide_eq_false d4; omega
      cases d5 : (alg == 4)
      case true =>
        have f5 : alg = 4 := by simpa using d5
        simp -implicitDefEqProofs only [go_sem, d1, d2, hip2, kidsA_eq, List.length_map, d4, d5]
        exact .same (.refl _) (bad 1 (by simp [headW, hm, f5]))
      have g5 : alg ≠ 4 := by simpa using d5
      simp -implicitDefEqProofs only [go_sem, d1, d2, hip2, kidsA_eq, List.length_map, d4, d5]
      have e3 := tail () (by simp [g4, g5])
      refine (target_ok tgt _).pthen ?_
      cases t1 : (tgtE tgt != 0)
      case true =>
        have f1 : tgtE tgt ≠ 0 := by simpa using t1
        simp -implicitDefEqProofs only [go_sem, t1]
        exact .same (.refl _) (bad _ (by rw [e3]; simp [need, f1]))
      have f1 : tgtE tgt = 0 := by simpa using t1
      simp -implicitDefEqProofs only [go_sem, t1, hip2]
      refine (obls_ok obls _).pthen ?_
      cases t2 : (oblsE obls != 0)
      case true =>
        have f2 : oblsE obls ≠ 0 := by simpa using t2
        simp -implicitDefEqProofs only [go_sem, t2]
        exact .same (.refl _) (bad _ (by rw [e3]; simp [need, f1, f2]))
      have f2 : oblsE obls = 0 := by simpa using t2
      cases t3 : decide (16 < (rules.length : Int))
      case true =>
        have f3 : 16 < rules.length := by have := of_decide_eq_true t3; omega
        simp -implicitDefEqProofs only [go_sem, t2, hip2, List.length_map, t3]
        exact .same (.refl _) (bad _ (by rw [e3]; simp [need, f1, f2, f3]))
      have f3 : ¬ 16 < rules.length := by have := of_decide_eq_false t3; omega
      cases t4 : decide (16 < (kids.length : Int))
      case true =>
        have f4 : 16 < kids.length := by have := of_decide_eq_true t4; omega
        simp -implicitDefEqProofs only [go_sem, t2, hip2, List.length_map, t3, kidsA_eq, t4]
        exact .same (.refl _) (bad _ (by rw [e3]; simp [need, f1, f2, f4]))
      have f4 : ¬ 16 < kids.length := by have := of_decide_eq_false t4; omega
      simp -implicitDefEqProofs only [go_sem, t2, hip2, List.length_map, t3, kidsA_eq, t4]
      have e4 : headW m id false alg tgt rules.length kids.length obls = .ok m1 := by rw [e3]; simp [need, f1, f2, f3, f4]
      exact .same (.refl _) ⟨by rw [e4]; rfl, hkk, fun m' h' => by rw [e4] at h'; cases h'; exact hw2⟩
    · cases d3 : decide (0 < (rules.length : Int))
      case true =>
        have f3 : 0 < rules.length := by have := of_decide_eq_true d3; omega
        simp -implicitDefEqProofs only [go_sem, d1, d2, hip2, List.length_map, d3]
        exact .same (.refl _) (bad 1 (by simp [headW, hm, e1, f3]))
      have g3 : ¬ 0 < rules.length := by have := of_decide_eq_false d3; omega
      simp -implicitDefEqProofs only [go_sem, d1, d2, hip2, List.length_map, d3]
      have e3 := tail () (by simp [g3])
      refine (target_ok tgt _).pthen ?_
      cases t1 : (tgtE tgt != 0)
      case true =>
        have f1 : tgtE tgt ≠ 0 := by simpa using t1
        simp -implicitDefEqProofs only [go_sem, t1]
        exact .same (.refl _) (bad _ (by rw [e3]; simp [need, f1]))
      have f1 : tgtE tgt = 0 := by simpa using t1
      simp -implicitDefEqProofs only [go_sem, t1, hip2]
      refine (obls_ok obls _).pthen ?_
      cases t2 : (oblsE obls != 0)
      case true =>
        have f2 : oblsE obls ≠ 0 := by simpa using t2
        simp -implicitDefEqProofs only [go_sem, t2]
        exact .same (.refl _) (bad _ (by rw [e3]; simp [need, f1, f2]))
      have f2 : oblsE obls = 0 := by simpa using t2
      cases t3 : decide (16 < (rules.length : Int))
      case true =>
        have f3 : 16 < rules.length := by have := of_decide_eq_true t3; omega
        simp -implicitDefEqProofs only [go_sem, t2, hip2, List.length_map, t3]
        exact .same (.refl _) (bad _ (by rw [e3]; simp [need, f1, f2, f3]))
      have f3 : ¬ 16 < rules.length := by have := of_decide_eq_false t3; omega
      cases t4 : decide (16 < (kids.length : Int))
      case true =>
        have f4 : 16 < kids.length := by have := of_decide_eq_true t4; omega
        simp -implicitDefEqProofs only [go_sem, t2, hip2, List.length_map, t3, kidsA_eq, t4]
        exact .same (.refl _) (bad _ (by rw [e3]; simp [need, f1, f2, f4]))
      have f4 : ¬ 16 < kids.length := by have := of_decide_eq_false t4; omega
      simp -implicitDefEqProofs only [go_sem, t2, hip2, List.length_map, t3, kidsA_eq, t4]
      have e4 : headW m id true alg tgt rules.length kids.length obls = .ok m1 := by rw [e3]; simp [need, f1, f2, f3, f4]
      exact .same (.refl _) ⟨by rw [e4]; rfl, hkk, fun m' h' => by rw [e4] at h'; cases h'; exact hw2⟩
end Go.Proofs.YtnhelgnmadbpgaaGreatDoor

set_option linter.unusedSimpArgs false
set_option linter.unusedVariables false
namespace Go.Proofs.YtnhelgnmadbpgaaGreatDoor
open Go Go.Ab Go.Bf
theorem polA_len (k : PolD) : (polA k).cells.length = 7 := by
  cases k; simp [polA, AV.cells]
theorem polW_deep {m : MetD} {d : Nat} {p : PolD} (h : 4 < d) : polW m d p = .bad 6 := by
  cases p; simp [polW, h]
theorem polW_head {m : MetD} {d : Nat} {id : Txt} {set : Bool} {alg : Int} {tgt : TgtD} {rules : List RuleD} {kids : List PolD} {obls : List OblD} {e : Int} (h : ¬ 4 < d)
    (hh : headW m id set alg tgt rules.length kids.length obls = .bad e) : polW m d (.mk id set alg tgt rules kids obls) = .bad e := by
  simp [polW, h, hh]
theorem polW_rules {m m1 : MetD} {d : Nat} {id : Txt} {set : Bool} {alg : Int} {tgt : TgtD} {rules : List RuleD} {kids : List PolD} {obls : List OblD} {e : Int} (h : ¬ 4 < d)
    (hh : headW m id set alg tgt rules.length kids.length obls = .ok m1) (hr : rulesW m1 rules = .bad e) : polW m d (.mk id set alg tgt rules kids obls) = .bad e := by
  simp [polW, h, hh, hr]
theorem polW_kids {m m1 m2 : MetD} {d : Nat} {id : Txt} {set : Bool} {alg : Int} {tgt : TgtD} {rules : List RuleD} {kids : List PolD} {obls : List OblD} (h : ¬ 4 < d)
    (hh : headW m id set alg tgt rules.length kids.length obls = .ok m1) (hr : rulesW m1 rules = .ok m2) : polW m d (.mk id set alg tgt rules kids obls) = kidsW m2 (d + 1) kids := by
  simp [polW, h, hh, hr]
theorem polW_bad : ∀ (n d : Nat) (m : MetD) (p : PolD) (e : Int), d + n = 5 → polW m d p = .bad e → e ≠ 0
  | 0, d, m, p, e, hd, h => by rw [polW_deep (by omega)] at h; cases h; decide
  | n + 1, d, m, .mk id set alg tgt rules kids obls, e, hd, h => by
    by_cases h4 : 4 < d
    · rw [polW_deep h4] at h; cases h; decide
    cases hh : headW m id set alg tgt rules.length kids.length obls with
    | bad e' => rw [polW_head h4 hh] at h; cases h; exact headW_bad hh
    | ok m1 =>
      cases hr : rulesW m1 rules with
      | bad e' =>
        rw [polW_rules h4 hh hr] at h; cases h
        clear hh hd
        induction rules generalizing m1 with
        | nil => cases hr
        | cons r l ih =>
          simp only [rulesW] at hr
          cases hx : ruleW m1 r with
          | bad x => rw [hx] at hr; cases hr; exact ruleW_bad hx
          | ok m2 => rw [hx] at hr; exact ih m2 hr
      | ok m2 =>
        rw [polW_kids h4 hh hr] at h
        have ih := fun m p e => polW_bad n (d + 1) m p e (by omega)
        clear hh hr
        induction kids generalizing m2 with
        | nil => cases h
        | cons k l ihk =>
          simp only [kidsW] at h
          cases hx : polW m2 (d + 1) k with
          | bad x => rw [hx] at h; cases h; exact ih _ _ _ hx
          | ok m3 => rw [hx] at h; exact ihk m3 h
theorem need_ok {e : Int} {w : Went} {m : MetD} (h : need e w = .ok m) : e = 0 ∧ w = .ok m := by
  unfold need at h
  split at h
  · exact ⟨by assumption, h⟩
  · cases h
theorem headW_ok {m m1 : MetD} {id : Txt} {set : Bool} {alg : Int} {tgt : TgtD} {nr nk : Nat} {obls : List OblD} (h : headW m id set alg tgt nr nk obls = .ok m1) :
    meetD m id = some m1 ∧ 1 ≤ alg ∧ alg ≤ 6 ∧ (set = true → nr = 0) ∧ (set = false → nk = 0 ∧ alg ≠ 4) ∧ tgtE tgt = 0 ∧ oblsE obls = 0 ∧ nr ≤ 16 ∧ nk ≤ 16 := by
  unfold headW at h
  split at h
  · cases h
  rename_i m2 hm
  split at h
  · cases h
  split at h
  · cases h
  rename_i h1 h2
  obtain ⟨h3, h⟩ := need_ok h
  obtain ⟨h4, h⟩ := need_ok h
  split at h
  · cases h
  cases h
  have h5 : (set = true → nr = 0) ∧ (set = false → nk = 0 ∧ alg ≠ 4) := by
    cases set <;> simp at h2 ⊢ <;> omega
  exact ⟨hm, by omega, by omega, h5.1, h5.2, h3, h4, by omega, by omega⟩
theorem wpol_ok : ∀ (n d : Nat), d + n = 5 → ∀ (idw mid : Nat) (m : MetD) (p : PolD) (h : Heap), WalkAt h idw mid m →
    FnOK Tryz.prog 79 [.ptr idw 0, polA p, .v (.int .i64 d)] h fun x h' => x = .v (.int .i64 (polW m d p).err) ∧ Keeps [idw, mid] h h' ∧ ∀ m', polW m d p = .ok m' → WalkAt h' idw mid m'
  | n, d, hd, idw, mid, m, .mk id set alg tgt rules kids obls, h, hw => by
    refine FnOK.body hU hm Tryz.func79 rfl (by kernel_rfl) 52 rfl [.tmp 6] rfl (Nat.le_of_ble_eq_true rfl) (fun hwf => ?_)
    simp -implicitDefEqProofs only [go_sem, polA, tgtA, oblsA]
    intro ip hip
    have n1 : idw ≠ ip := fun e => by have := hw.1; rw [e, hip] at this; cases this
    have n2 : mid ≠ ip := fun e => by have := hw.2.1; rw [e, hip] at this; cases this
    have hwb := hw.keep (Sub.upd_new (k := some (.obj [.s id, .v (.bool set), .v (.int .i64 alg), .sl (tgt.map anyA) .no, .sl (rules.map ruleA) .no, .sl (kidsA kids) .no, .sl (obls.map oblA) .no] 32)) hip)
    have hk0 : Keeps [idw, mid] h (upd h ip (some (.obj [.s id, .v (.bool set), .v (.int .i64 alg), .sl (tgt.map anyA) .no, .sl (rules.map ruleA) .no, .sl (kidsA kids) .no, .sl (obls.map oblA) .no] 32))) := .of (.upd_new hip)
    obtain ⟨hb, ehb⟩ : ∃ hb, upd h ip (some (.obj [.s id, .v (.bool set), .v (.int .i64 alg), .sl (tgt.map anyA) .no, .sl (rules.map ruleA) .no, .sl (kidsA kids) .no, .sl (obls.map oblA) .no] 32)) = hb := ⟨_, rfl⟩
    have hbip : hb ip = some (.obj [.s id, .v (.bool set), .v (.int .i64 alg), .sl (tgt.map anyA) .no, .sl (rules.map ruleA) .no, .sl (kidsA kids) .no, .sl (obls.map oblA) .no] 32) := by rw [← ehb]; exact upd_same ..
    rw [ehb] at hwb hk0 ⊢
    cases d0 : decide (4 < (d : Int))
    case true =>
      have e0 : 4 < d := by have := of_decide_eq_true d0; omega
      simp -implicitDefEqProofs only [go_sem, d0]
      exact .same (.refl _) ⟨by rw [polW_deep e0]; rfl, hk0, fun m' h' => by rw [polW_deep e0] at h'; cases h'⟩
    have e0 : ¬ 4 < d := by have := of_decide_eq_false d0; omega
    simp -implicitDefEqProofs only [go_sem, d0, hbip]
    have hhead := whead_ok idw mid m id set alg tgt rules kids obls hb hwb
    simp only [polA, tgtA, oblsA] at hhead
    refine hhead.mono fun x h2 ⟨ex, hk, hw2⟩ => ?_
    subst ex
    have hk2 := hk0.trans hk
    cases hh : headW m id set alg tgt rules.length kids.length obls with
    | bad e =>
      have hne := headW_bad hh
      have t1 : (e != 0) = true := by simpa using hne
      simp -implicitDefEqProofs only [go_sem, Went.err, t1]
      exact .same (.refl _) ⟨by rw [polW_head e0 hh]; rfl, hk2, fun m' h' => by rw [polW_head e0 hh] at h'; cases h'⟩
    | ok m1 =>
      have hw2 := hw2 _ hh
      have hle := (headW_ok hh).2.2.2.2.2.2.2
      have hip2 := hk ip _ (by simp [n1.symm, n2.symm]) hbip
      simp -implicitDefEqProofs only [go_sem, Went.err, hip2, List.length_map]
      refine .intro (fun k ρ h' => ∃ (i : Nat) (mi : MetD), i ≤ rules.length ∧ k = rules.length - i ∧ rulesW m1 (rules.take i) = .ok mi ∧ Keeps [idw, mid] h h' ∧ WalkAt h' idw mid mi ∧
        h' ip = some (.obj [.s id, .v (.bool set), .v (.int .i64 alg), .sl (tgt.map anyA) .no, .sl (rules.map ruleA) .no, .sl (kidsA kids) .no, .sl (obls.map oblA) .no] 32) ∧
        lk ρ 0 = some (.ptr idw 0) ∧ lk ρ 2 = some (.v (.int .i64 d)) ∧ lk ρ 4 = some (.ptr ip 0) ∧ lk ρ 23 = some (.sl (rules.map ruleA) .no) ∧ lk ρ 24 = some (.v (.int .i64 rules.length)) ∧ lk ρ 25 = some (.v (.int .i64 i))) rules.length ?_ ?_
      · refine ⟨0, m1, by omega, rfl, rfl, hk2, hw2, hip2, ?_, ?_, ?_, ?_, ?_, ?_⟩ <;> simp -implicitDefEqProofs only [go_sem]
      · rintro k ρ h' ⟨i, mi, hi, rfl, hri, hki, hwi, hipi, r0, r2, r4, r23, r24, r25⟩
        simp -implicitDefEqProofs only [go_sem, r0, r2, r4, r23, r24, r25]
        refine .intro (fun e => ?_) (fun e => ?_)
        · have hlt : i < rules.length := Int.ofNat_lt.1 (of_decide_eq_true e)
          have w1 : IntKind.i64.wrap ((i : Int) + 1) = ((i + 1 : Nat) : Int) := by rw [wr64 _ (by omega)]; omega
          simp -implicitDefEqProofs only [go_sem, r0, r2, r4, r23, r24, r25]
          refine .at i (by simpa using hlt) (by rw [List.getElem_map]; rfl) ?_
          simp -implicitDefEqProofs only [go_sem, r0, r2, r4, r23, r24, r25, List.getElem_map, ruleA]
          intro ir hir
          have hrl := wrule_ok idw mid mi rules[i] _ (hwi.keep (Sub.upd_new (k := some (.obj [.s rules[i].id, .v (.bool rules[i].deny), tgtA rules[i].tgt, condA rules[i].cond, oblsA rules[i].obls] 169)) hir))
          simp only [ruleA] at hrl
          simp -implicitDefEqProofs only [go_sem, r0, r2, r4, r23, r24, r25]
          refine hrl.mono fun x h3 ⟨ex, hk3, hw3⟩ => ?_
          subst ex
          have hk4 := (hki.trans (.of (Sub.upd_new hir))).trans hk3
          have hip3 := hk3 ip _ (by simp [n1.symm, n2.symm]) ((Sub.upd_new hir) _ _ hipi)
          cases hx : ruleW mi rules[i] with
          | bad x =>
            have t1 : (x != 0) = true := by simpa using ruleW_bad hx
            simp -implicitDefEqProofs only [go_sem, r0, r2, r4, r23, r24, r25, Went.err, t1]
            have hp := polW_rules (d := d) (kids := kids) e0 hh (rulesW_stop hlt hri hx)
            exact .same (.refl _) ⟨by rw [hp]; rfl, hk4, fun m' h' => by rw [hp] at h'; cases h'⟩
          | ok m3 =>
            simp -implicitDefEqProofs only [go_sem, r0, r2, r4, r23, r24, r25, Went.err, w1]
            refine ⟨_, ?_, i + 1, m3, by omega, rfl, by rw [rulesW_next hlt hri, hx], hk4, hw3 _ hx, hip3, ?_, ?_, ?_, ?_, ?_, ?_⟩
            · omega
            all_goals simp -implicitDefEqProofs only [go_sem, r0, r2, r4, r23, r24, r25, w1]
        · have hge : i = rules.length := by have := of_decide_eq_false e; omega
          subst hge
          rw [List.take_length] at hri
          have hpk := polW_kids (d := d) (kids := kids) e0 hh hri
          simp -implicitDefEqProofs only [go_sem, r0, r2, r4, r23, r24, r25, hipi, kidsA_eq, List.length_map]
          refine .intro (fun k ρ h' => ∃ (i : Nat) (mj : MetD), i ≤ kids.length ∧ k = kids.length - i ∧ kidsW mi (d + 1) (kids.take i) = .ok mj ∧ Keeps [idw, mid] h h' ∧ WalkAt h' idw mid mj ∧
            lk ρ 0 = some (.ptr idw 0) ∧ lk ρ 2 = some (.v (.int .i64 d)) ∧ lk ρ 37 = some (.sl (kids.map polA) .no) ∧ lk ρ 38 = some (.v (.int .i64 kids.length)) ∧ lk ρ 39 = some (.v (.int .i64 i))) kids.length ?_ ?_
          · refine ⟨0, mi, by omega, rfl, rfl, hki, hwi, ?_, ?_, ?_, ?_, ?_⟩ <;> simp -implicitDefEqProofs only [go_sem, r0, r2, r4]
          · rintro k ρ h' ⟨i, mj, hi, rfl, hkj, hki, hwi, r0, r2, r37, r38, r39⟩
            simp -implicitDefEqProofs only [go_sem, r0, r2, r37, r38, r39]
            refine .intro (fun e => ?_) (fun e => ?_)
            · have hlt : i < kids.length := Int.ofNat_lt.1 (of_decide_eq_true e)
              have w1 : IntKind.i64.wrap ((i : Int) + 1) = ((i + 1 : Nat) : Int) := by rw [wr64 _ (by omega)]; omega
              have w2 : IntKind.i64.wrap ((d : Int) + 1) = ((d + 1 : Nat) : Int) := by rw [wr64 _ (by omega)]; omega
              obtain ⟨n', rfl⟩ : ∃ n', n = n' + 1 := ⟨n - 1, by omega⟩
              have hrec := wpol_ok n' (d + 1) (by omega) idw mid mj kids[i]
              cases hki' : kids[i] with
              | mk kid kset kalg ktgt krules kkids kobls =>
              rw [hki'] at hrec
              simp only [polA, tgtA, oblsA] at hrec
              simp -implicitDefEqProofs only [go_sem, r0, r2, r37, r38, r39]
              refine .at i (by simpa using hlt) (by rw [List.getElem_map]; exact polA_len _) ?_
              simp -implicitDefEqProofs only [go_sem, r0, r2, r37, r38, r39, List.getElem_map, hki', polA, tgtA, oblsA]
              intro ir hir
              simp -implicitDefEqProofs only [go_sem, r0, r2, r37, r38, r39, w2]
              refine (hrec _ (hwi.keep (Sub.upd_new hir))).mono fun x h3 ⟨ex, hk3, hw3⟩ => ?_
              subst ex
              have hk4 := (hki.trans (.of (Sub.upd_new hir))).trans hk3
              cases hx : polW mj (d + 1) (.mk kid kset kalg ktgt krules kkids kobls) with
              | bad x =>
                have t1 : (x != 0) = true := by simpa using polW_bad n' (d + 1) _ _ _ (by omega) hx
                simp -implicitDefEqProofs only [go_sem, r0, r2, r37, r38, r39, Went.err, t1]
                have hp := kidsW_stop hlt hkj (by rw [hki']; exact hx)
                exact .same (.refl _) ⟨by rw [hpk, hp]; rfl, hk4, fun m' h' => by rw [hpk, hp] at h'; cases h'⟩
              | ok m3 =>
                simp -implicitDefEqProofs only [go_sem, r0, r2, r37, r38, r39, Went.err, w1]
                refine ⟨_, ?_, i + 1, m3, by omega, rfl, by rw [kidsW_next hlt hkj, hki', hx], hk4, hw3 _ hx, ?_, ?_, ?_, ?_, ?_⟩
                · omega
                all_goals simp -implicitDefEqProofs only [go_sem, r0, r2, r37, r38, r39, w1]
            · have hge : i = kids.length := by have := of_decide_eq_false e; omega
              subst hge
              rw [List.take_length] at hkj
              simp -implicitDefEqProofs only [go_sem, r0, r2, r37, r38, r39]
              exact .same (.refl _) ⟨by rw [hpk, hkj]; rfl, hki, fun m' h' => by rw [hpk, hkj] at h'; cases h'; exact hwi⟩
theorem ne_new {h : Heap} {i j : Nat} {b : Blk} (e : upd h i (some b) j = none) : j ≠ i := fun hh => by
  subst hh; rw [upd_same] at e; cases e
theorem right_ok (p : PolD) (h : Heap) : FnOK Tryz.prog 41 [polA p] h fun r h' => r = .v (.int .i64 (rightE p)) ∧ h' = h := by
  cases p with
  | mk id set alg tgt rules kids obls =>
  refine FnOK.body hU hm Tryz.func41 rfl (by kernel_rfl) 10 rfl [.tmp 2] rfl (Nat.le_of_ble_eq_true rfl) (fun hwf => ?_)
  simp -implicitDefEqProofs only [go_sem, polA, tgtA, oblsA]
  intro ip hip
  simp -implicitDefEqProofs only [go_sem]
  intro im him
  simp -implicitDefEqProofs only [go_sem]
  intro iw hiw
  have n1 := ne_new him
  have n2 := ne_new hiw
  have hiw1 := hiw
  rw [upd_other _ _ n2] at hiw1
  have n3 := ne_new hiw1
  have s1 : Ab.Sub h (upd (upd (upd h ip (some (.obj [.s id, .v (.bool set), .v (.int .i64 alg), .sl (tgt.map anyA) .no, .sl (rules.map ruleA) .no, .sl (kidsA kids) .no, .sl (obls.map oblA) .no] 32))) im (some (.mp []))) iw (some (.obj [.mp im, .v (.int .i64 0)] 133))) :=
    ((Sub.upd_new hip).trans (.upd_new him)).trans (.upd_new hiw)
  obtain ⟨h3, e3⟩ : ∃ h3, upd (upd (upd h ip (some (.obj [.s id, .v (.bool set), .v (.int .i64 alg), .sl (tgt.map anyA) .no, .sl (rules.map ruleA) .no, .sl (kidsA kids) .no, .sl (obls.map oblA) .no] 32))) im (some (.mp []))) iw (some (.obj [.mp im, .v (.int .i64 0)] 133)) = h3 := ⟨_, rfl⟩
  have g1 : h3 ip = some (.obj [.s id, .v (.bool set), .v (.int .i64 alg), .sl (tgt.map anyA) .no, .sl (rules.map ruleA) .no, .sl (kidsA kids) .no, .sl (obls.map oblA) .no] 32) := by
    rw [← e3, upd_other _ _ n3.symm, upd_other _ _ n1.symm, upd_same]
  have g2 : WalkAt h3 iw im ⟨[], 0⟩ := by
    refine ⟨by rw [← e3, upd_same]; rfl, by rw [← e3, upd_other _ _ n2.symm, upd_same]; rfl, fun l hl => (by cases hl), by decide⟩
  have hi0 : h im = none := by rw [upd_other _ _ n1] at him; exact him
  have hw0 : h iw = none := by rw [upd_other _ _ n3] at hiw1; exact hiw1
  simp -implicitDefEqProofs only [go_sem]
  rw [e3] at s1 ⊢
  simp -implicitDefEqProofs only [go_sem, g1]
  have hp := wpol_ok 4 1 rfl iw im ⟨[], 0⟩ (.mk id set alg tgt rules kids obls) h3 g2
  simp only [polA, tgtA, oblsA, Int.ofNat_one, Int.cast_ofNat_Int] at hp
  refine hp.mono fun x h4 ⟨ex, hk, _⟩ => ?_
  subst ex
  simp -implicitDefEqProofs only [go_sem]
  refine .mk _ (.refl _) (fun j k hj => ?_) ⟨rfl, rfl⟩
  refine hk j k ?_ (s1 _ _ hj)
  simp only [List.mem_cons, List.not_mem_nil, or_false, not_or]
  exact ⟨fun e => (by rw [e, hw0] at hj; cases hj), fun e => (by rw [e, hi0] at hj; cases hj)⟩
end Go.Proofs.YtnhelgnmadbpgaaGreatDoor

set_option linter.unusedSimpArgs false
set_option linter.unusedVariables false
namespace Go.Proofs.YtnhelgnmadbpgaaGreatDoor
open Go Go.Ab Go.Bf
def parsedA (x : PolD × Int × Int) : AV := .tup [polA x.1, .v (.int .i64 x.2.1), .v (.int .i64 x.2.2)]
theorem weak_flat3 (a b c : AV) (h : Weak a b) (d : AV) : Weak (.tup [a, c, d]) (.tup [b, c, d]) := .tup _ _ rfl fun i h1 h2 => by
  rcases i with _ | _ | _ | i
  · exact h
  · exact .refl _
  · exact .refl _
  · simp at h1; omega
set_option maxRecDepth 20000 in
theorem parse_ok (s : Txt) (h : Heap) (he : ErrT h) : FnOK Tryz.prog 44 [.s s] h fun r h' => r = parsedA (parseD s) ∧ h' = h := by
  refine FnOK.body hU hm Tryz.func44 rfl (by kernel_rfl) 61 rfl [.cell 2 32, .tmp 3, .tmp 4] rfl (Nat.le_of_ble_eq_true rfl) (fun hwf => ?_)
  simp -implicitDefEqProofs only [go_sem]
  intro i2 hi2
  simp -implicitDefEqProofs only [go_sem]
  refine (all_tok_ok s _ (he.sub (.upd_new hi2))).pthen ?_
  cases el : lexD s with
  | bad e a =>
    have e1 := lexD_bad el
    have d1 : (e != 0) = true := by
      have : e ≠ 0 := by rcases e1.1 with h | h <;> rw [h] <;> decide
      simpa using this
    have efin : parseD s = (zeroP, e, a) := by simp only [parseD, el]
    simp -implicitDefEqProofs only [go_sem, lexR, d1]
    rw [efin]
    exact .mk (h' := h) (parsedA (zeroP, e, a)) (weak_flat3 _ _ _ (weak_flat _) _) (.upd_new hi2) ⟨rfl, rfl⟩
  | ok ts =>
    have efin : parseD s = parseT s ts := by simp only [parseD, el]
    have hw := wfP_start el 0 0 0
    have hpol := policy_p 3 1 rfl ⟨ts, 0, 0, 0, 0⟩ hw (Nat.zero_le _)
    have hap := ah_pol 4 ⟨ts, 0, 0, 0, 0⟩ hw
    obtain ⟨⟨⟨pid, pset, palg, ptgt, prules, pkids, pobls⟩, st1⟩, ep⟩ : ∃ x, polF 4 ⟨ts, 0, 0, 0, 0⟩ = x := ⟨_, rfl⟩
    rw [show 3 + 1 = 4 from rfl, ep] at hpol
    rw [ep] at hap
    simp only [polA] at hpol hap
    simp only [parseT, ep] at efin
    simp -implicitDefEqProofs only [go_sem, lexR]
    intro i8 hi8
    have n8 := ne_upd hi8
    have m82 : ¬ i8 = i2 := n8
    have m28 : ¬ i2 = i8 := fun e => n8 e.symm
    have hh8 : h i8 = none := by rw [upd_other _ _ n8] at hi8; exact hi8
    simp -implicitDefEqProofs only [go_sem, upd_ne, m82, m28]
    refine hpol.go (upd_same ..) ?_
    rw [upd_upd]
    simp -implicitDefEqProofs only [go_sem, upd_ne, m82, m28]
    intro i9 hi9
    have n9 := ne_upd hi9
    have hi9' := hi9
    rw [upd_other _ _ n9] at hi9'
    have n92 := ne_upd hi9'
    have m92 : ¬ i9 = i2 := n92
    have m29 : ¬ i2 = i9 := fun e => n92 e.symm
    have m98 : ¬ i9 = i8 := n9
    have m89 : ¬ i8 = i9 := fun e => n9 e.symm
    have hh9 : h i9 = none := by rw [upd_other _ _ n92] at hi9'; exact hi9'
    have c9 : ∀ (f : Heap) (x y : Option Blk), upd (upd f i8 x) i9 y = upd (upd f i9 y) i8 x := fun f x y => upd_comm f x y n9.symm
    simp -implicitDefEqProofs only [go_sem, c9, upd_ne, m82, m28, m92, m29, m98, m89]
    refine (here_ok st1 hap.1).run ?_
    have subs : ∀ x y z, Sub h (upd (upd (upd h i2 x) i9 y) i8 z) := fun x y z => ((Sub.upd_new hi2).put hh9 _).put hh8 _
    cases d1 : ((hereD st1).kind != 7)
    · have k1 : (hereD st1).kind = 7 := by simpa using d1
      have e2 : (if (hereD st1).kind = 7 then st1 else stuckD st1) = st1 := if_pos k1
      simp -implicitDefEqProofs only [go_sem, c9, tokA, d1, upd_ne, m82, m28, m92, m29, m98, m89]
      cases db : ((st1).bad == 0)
      · have eb : (st1).bad ≠ 0 := by simpa using db
        simp -implicitDefEqProofs only [go_sem, c9, upd_ne, m82, m28, m92, m29, m98, m89, PO, db]
        have eend : endP s (.mk pid pset palg ptgt prules pkids pobls, st1) = st1 := by
          unfold endP; simp only [e2]; rw [if_neg (fun h => eb h.1)]
        have hbb : (st1).bad ≠ 0 := eb
        have dn : ((st1).bad != 0) = true := by simpa using hbb
        simp -implicitDefEqProofs only [go_sem, c9, upd_ne, m82, m28, m92, m29, m98, m89, PO, dn]
        refine .calls (hm1 i8 (PO (st1))) [0, 1, 2, 3, 4, 5, 6, 7, 8, 9, 10, 11] (.hm1 (upd_same ..)) (by kernel_rfl) rfl ?_
        simp -implicitDefEqProofs only [go_sem, c9, upd_ne, m82, m28, m92, m29, m98, m89, PO, hm1_same]
        refine ⟨.hm1 ((upd_other _ _ n8).trans (upd_same ..)), ?_⟩
        have efin2 : parseD s = (zeroP, (st1).bad, (st1).place) := by rw [efin, if_neg (by rw [eend]; exact hbb), eend]
        rw [efin2]
        exact .mk (h' := h) (parsedA (zeroP, (st1).bad, (st1).place)) (weak_flat3 _ _ _ (weak_flat _) _) (Sub.put (subs _ _ _) hi2 _) ⟨rfl, rfl⟩
      · have eb : (st1).bad = 0 := by simpa using db
        simp -implicitDefEqProofs only [go_sem, c9, upd_ne, m82, m28, m92, m29, m98, m89, PO, db]
        refine (right_ok (.mk pid pset palg ptgt prules pkids pobls) _).pthen ?_
        cases dr : (rightE (.mk pid pset palg ptgt prules pkids pobls) != 0)
        · have er : rightE (.mk pid pset palg ptgt prules pkids pobls) = 0 := by simpa using dr
          have dn : ((st1).bad != 0) = false := by simpa using eb
          simp -implicitDefEqProofs only [go_sem, c9, upd_ne, m82, m28, m92, m29, m98, m89, PO, dr, dn]
          have eend : endP s (.mk pid pset palg ptgt prules pkids pobls, st1) = st1 := by
            unfold endP; simp only [e2]; rw [if_neg (fun h => h.2 er)]
          have efin2 : parseD s = (.mk pid pset palg ptgt prules pkids pobls, 0, 0) := by rw [efin, if_pos (by rw [eend]; exact eb)]
          rw [efin2]
          exact .mk (h' := h) (parsedA (.mk pid pset palg ptgt prules pkids pobls, 0, 0)) (weak_flat3 _ _ _ (weak_flat _) _) (Sub.put (subs _ _ _) hi2 _) ⟨rfl, rfl⟩
        · have er : rightE (.mk pid pset palg ptgt prules pkids pobls) ≠ 0 := by simpa using dr
          simp -implicitDefEqProofs only [go_sem, c9, upd_ne, m82, m28, m92, m29, m98, m89, PO, dr]
          refine (wrong_ok (st1) 5 s.length).run ?_
          have eend : endP s (.mk pid pset palg ptgt prules pkids pobls, st1) = wrongD (st1) 5 s.length := by
            unfold endP; simp only [e2]; rw [if_pos ⟨eb, er⟩]
          have hwb : wrongD (st1) 5 s.length = { (st1) with bad := 5, place := s.length } := by rw [wrongD, if_pos eb]
          have hbb : (wrongD (st1) 5 s.length).bad ≠ 0 := by rw [hwb]; show (5 : Int) ≠ 0; decide
          have dn : ((wrongD (st1) 5 s.length).bad != 0) = true := by simpa using hbb
          simp -implicitDefEqProofs only [go_sem, c9, upd_ne, m82, m28, m92, m29, m98, m89, PO, dn]
          refine .calls (hm1 i8 (PO (wrongD (st1) 5 s.length))) [0, 1, 2, 3, 4, 5, 6, 7, 8, 9, 10, 11] (.hm1 (upd_same ..)) (by kernel_rfl) rfl ?_
          simp -implicitDefEqProofs only [go_sem, c9, upd_ne, m82, m28, m92, m29, m98, m89, PO, hm1_same]
          refine ⟨.hm1 ((upd_other _ _ n8).trans (upd_same ..)), ?_⟩
          have efin2 : parseD s = (zeroP, (wrongD (st1) 5 s.length).bad, (wrongD (st1) 5 s.length).place) := by rw [efin, if_neg (by rw [eend]; exact hbb), eend]
          rw [efin2]
          exact .mk (h' := h) (parsedA (zeroP, (wrongD (st1) 5 s.length).bad, (wrongD (st1) 5 s.length).place)) (weak_flat3 _ _ _ (weak_flat _) _) (Sub.put (subs _ _ _) hi2 _) ⟨rfl, rfl⟩
    · have k1 : (hereD st1).kind ≠ 7 := by simpa using d1
      have e2 : (if (hereD st1).kind = 7 then st1 else stuckD st1) = stuckD st1 := if_neg k1
      simp -implicitDefEqProofs only [go_sem, c9, tokA, d1, upd_ne, m82, m28, m92, m29, m98, m89]
      refine (stuck_ok st1 hap.1).run ?_
      simp -implicitDefEqProofs only [go_sem, c9, upd_ne, m82, m28, m92, m29, m98, m89]
      cases db : ((stuckD st1).bad == 0)
      · have eb : (stuckD st1).bad ≠ 0 := by simpa using db
        simp -implicitDefEqProofs only [go_sem, c9, upd_ne, m82, m28, m92, m29, m98, m89, PO, db]
        have eend : endP s (.mk pid pset palg ptgt prules pkids pobls, st1) = stuckD st1 := by
          unfold endP; simp only [e2]; rw [if_neg (fun h => eb h.1)]
        have hbb : (stuckD st1).bad ≠ 0 := eb
        have dn : ((stuckD st1).bad != 0) = true := by simpa using hbb
        simp -implicitDefEqProofs only [go_sem, c9, upd_ne, m82, m28, m92, m29, m98, m89, PO, dn]
        refine .calls (hm1 i8 (PO (stuckD st1))) [0, 1, 2, 3, 4, 5, 6, 7, 8, 9, 10, 11] (.hm1 (upd_same ..)) (by kernel_rfl) rfl ?_
        simp -implicitDefEqProofs only [go_sem, c9, upd_ne, m82, m28, m92, m29, m98, m89, PO, hm1_same]
        refine ⟨.hm1 ((upd_other _ _ n8).trans (upd_same ..)), ?_⟩
        have efin2 : parseD s = (zeroP, (stuckD st1).bad, (stuckD st1).place) := by rw [efin, if_neg (by rw [eend]; exact hbb), eend]
        rw [efin2]
        exact .mk (h' := h) (parsedA (zeroP, (stuckD st1).bad, (stuckD st1).place)) (weak_flat3 _ _ _ (weak_flat _) _) (Sub.put (subs _ _ _) hi2 _) ⟨rfl, rfl⟩
      · have eb : (stuckD st1).bad = 0 := by simpa using db
        simp -implicitDefEqProofs only [go_sem, c9, upd_ne, m82, m28, m92, m29, m98, m89, PO, db]
        refine (right_ok (.mk pid pset palg ptgt prules pkids pobls) _).pthen ?_
        cases dr : (rightE (.mk pid pset palg ptgt prules pkids pobls) != 0)
        · have er : rightE (.mk pid pset palg ptgt prules pkids pobls) = 0 := by simpa using dr
          have dn : ((stuckD st1).bad != 0) = false := by simpa using eb
          simp -implicitDefEqProofs only [go_sem, c9, upd_ne, m82, m28, m92, m29, m98, m89, PO, dr, dn]
          have eend : endP s (.mk pid pset palg ptgt prules pkids pobls, st1) = stuckD st1 := by
            unfold endP; simp only [e2]; rw [if_neg (fun h => h.2 er)]
          have efin2 : parseD s = (.mk pid pset palg ptgt prules pkids pobls, 0, 0) := by rw [efin, if_pos (by rw [eend]; exact eb)]
          rw [efin2]
          exact .mk (h' := h) (parsedA (.mk pid pset palg ptgt prules pkids pobls, 0, 0)) (weak_flat3 _ _ _ (weak_flat _) _) (Sub.put (subs _ _ _) hi2 _) ⟨rfl, rfl⟩
        · have er : rightE (.mk pid pset palg ptgt prules pkids pobls) ≠ 0 := by simpa using dr
          simp -implicitDefEqProofs only [go_sem, c9, upd_ne, m82, m28, m92, m29, m98, m89, PO, dr]
          refine (wrong_ok (stuckD st1) 5 s.length).run ?_
          have eend : endP s (.mk pid pset palg ptgt prules pkids pobls, st1) = wrongD (stuckD st1) 5 s.length := by
            unfold endP; simp only [e2]; rw [if_pos ⟨eb, er⟩]
          have hwb : wrongD (stuckD st1) 5 s.length = { (stuckD st1) with bad := 5, place := s.length } := by rw [wrongD, if_pos eb]
          have hbb : (wrongD (stuckD st1) 5 s.length).bad ≠ 0 := by rw [hwb]; show (5 : Int) ≠ 0; decide
          have dn : ((wrongD (stuckD st1) 5 s.length).bad != 0) = true := by simpa using hbb
          simp -implicitDefEqProofs only [go_sem, c9, upd_ne, m82, m28, m92, m29, m98, m89, PO, dn]
          refine .calls (hm1 i8 (PO (wrongD (stuckD st1) 5 s.length))) [0, 1, 2, 3, 4, 5, 6, 7, 8, 9, 10, 11] (.hm1 (upd_same ..)) (by kernel_rfl) rfl ?_
          simp -implicitDefEqProofs only [go_sem, c9, upd_ne, m82, m28, m92, m29, m98, m89, PO, hm1_same]
          refine ⟨.hm1 ((upd_other _ _ n8).trans (upd_same ..)), ?_⟩
          have efin2 : parseD s = (zeroP, (wrongD (stuckD st1) 5 s.length).bad, (wrongD (stuckD st1) 5 s.length).place) := by rw [efin, if_neg (by rw [eend]; exact hbb), eend]
          rw [efin2]
          exact .mk (h' := h) (parsedA (zeroP, (wrongD (stuckD st1) 5 s.length).bad, (wrongD (stuckD st1) 5 s.length).place)) (weak_flat3 _ _ _ (weak_flat _) _) (Sub.put (subs _ _ _) hi2 _) ⟨rfl, rfl⟩
end Go.Proofs.YtnhelgnmadbpgaaGreatDoor

set_option linter.unusedSimpArgs false
set_option linter.unusedVariables false
namespace Go.Ab
open Go
theorem OwE.keepb {tb : TypeId} {h0 h h' : Heap} {sz : Nat} {y : AV} {xs : List AV} (hw : OwE tb h0 h sz y xs) (hk : ∀ id, h0 id = Option.none → h id ≠ Option.none → h' id = h id) : OwE tb h0 h' sz y xs :=
  hw.keep fun id e => hk id (hw.nid e).1 (hw.nid e).2.1
end Go.Ab
namespace Go.Proofs.YtnhelgnmadbpgaaGreatDoor
open Go Go.Ab Go.Bf
theorem MyCase.keepb {h0 h h' : Heap} {ys : List AV} {x : AV} {c : CaseD} (hm : MyCase h0 h ys x c) (hk : ∀ id, h0 id = none → h id ≠ none → h' id = h id) : MyCase h0 h' ys x c := by
  obtain ⟨f, l, e, a, b, c, d⟩ := hm
  exact ⟨f, l, e, a.keepb hk, b.keepb hk, c, d⟩
theorem OwnC.keepb {h0 h h' : Heap} {ys : List AV} {y : AV} {cs : List CaseD} {i0 : Nat} (ho : OwnC h0 h ys y cs i0) (hk : ∀ id, h0 id = none → h id ≠ none → h' id = h id) : OwnC h0 h' ys y cs i0 := by
  obtain ⟨xs, a, b, c, d⟩ := ho
  exact ⟨xs, a.keepb hk, b, c, fun h1 h2 => (d h1 h2).keepb hk⟩
theorem OwnS.keepb {h0 h h' : Heap} {x : AV} {s : StoreD} {i0 : Nat} (ho : OwnS h0 h x s i0) (hk : ∀ id, h0 id = none → h id ≠ none → h' id = h id) : OwnS h0 h' x s i0 := by
  obtain ⟨y1, y2, y3, y4, e, a, b, c, d, r⟩ := ho
  exact ⟨y1, y2, y3, y4, e, a.keepb hk, b.keepb hk, c.keepb hk, d.keepb hk, r⟩
theorem OwnC.keepx {h0 h h' : Heap} {ys : List AV} {y z : AV} {cs : List CaseD} {i0 : Nat} (ho : OwnC h0 h ys y cs i0) (hz : z ∈ ys) (hy : apart y z) (hk : ∀ id, h0 id = none → h id ≠ none → nid z ≠ some id → h' id = h id) : OwnC h0 h' ys y cs i0 := by
  obtain ⟨xs, a, b, c, d⟩ := ho
  refine ⟨xs, a.keep fun id e => hk id (a.nid e).1 (a.nid e).2.1 (hy id e), b, c, fun h1 h2 => ?_⟩
  obtain ⟨f, l, e, of, ol, hap, hys⟩ := d h1 h2
  exact ⟨f, l, e, of.keep fun id e => hk id (of.nid e).1 (of.nid e).2.1 ((hys z hz).1 id e), ol.keep fun id e => hk id (ol.nid e).1 (ol.nid e).2.1 ((hys z hz).2 id e), hap, hys⟩
theorem MyCase.frz {g h0 h : Heap} {ys : List AV} {x : AV} {c : CaseD} (hm : MyCase h0 h ys x c) (hg : Ab.Sub g h0) : Frz g h x (caseA c) := by
  obtain ⟨f, l, rfl, a, b, _⟩ := hm
  refine .agg _ _ rfl fun j h1 h2 => ?_
  rcases j with _ | _ | _ | _ | _ | j
  · exact .pure rfl
  · exact .pure rfl
  · exact .pure rfl
  · exact (a.less hg).frz (pureL_map (fun _ => rfl) _)
  · exact (b.less hg).frz (pureL_map (fun _ => rfl) _)
  · simp at h1; omega
theorem frz_cases {g h0 h : Heap} {y : AV} {xs : List AV} {cs : List CaseD} (hw : OwE 63 h0 h 5 y xs) (hg : Ab.Sub g h0) (hn : xs.length = cs.length) (hx : ∀ j (h1 : j < xs.length) (h2 : j < cs.length), Frz g h xs[j] (caseA cs[j])) : Frz g h y (casesA cs) := by
  rcases hw with ⟨rfl, rfl⟩ | ⟨id, h1, hw⟩
  · have : cs = [] := List.length_eq_zero_iff.1 hn.symm
    subst this
    exact .sl [] [] .full rfl (fun i h1 => by cases h1) (fun i h1 => by cases h1)
  · have hsz : ∀ i (h1 : i < xs.length), xs[i].cells.length = 5 := fun i h1 => hw.rd.1 _ (List.getElem_mem h1)
    refine hw.frz (hg.none h1) (by simpa using hn) (fun i h1 h2 => by rw [hsz i h1, List.getElem_map]; rfl) fun i h1 h2 j h3 h4 => ?_
    have h2' : i < cs.length := by simpa using h2
    have hf := hx i h1 h2'
    have key : ∀ x y : AV, Frz g h x y → isAggA y = true → pureB y = true → ∀ j (h3 : j < x.cells.length) (h4 : j < y.cells.length), Frz g h x.cells[j] y.cells[j] := by
      intro x y hf ha hp j h3 h4
      cases hf with
      | keep x hx => exact .pure (pureB_cells hp _ (List.getElem_mem h4))
      | agg xs ys hn hr => exact hr j h3 h4
      | _ => cases ha
    have e : (cs.map caseA)[i]'h2 = caseA cs[i] := List.getElem_map ..
    simp only [e] at h4 ⊢
    exact key _ _ hf rfl (by simp only [caseA, caseC, pureB, pureL, fieldsA, logA, Bool.and_true, Bool.true_and, Bool.and_eq_true]; exact ⟨pureL_map (fun _ => rfl) _, pureL_map (fun _ => rfl) _⟩) j h3 h4
theorem OwnC.frz {g h0 h : Heap} {ys : List AV} {y : AV} {cs : List CaseD} {i0 : Nat} (ho : OwnC h0 h ys y cs i0) (hg : Ab.Sub g h0) : Frz g h y (casesA cs) := by
  obtain ⟨xs, a, b, c, d⟩ := ho
  refine frz_cases a hg b fun j h1 h2 => ?_
  by_cases e : j = i0
  · subst e; exact (d h1 h2).frz hg
  · rw [c j h1 h2 e]; exact frz_case _
theorem polC_frz {g h : Heap} (p : PolD) : ∀ x ∈ polC p, Frz g h x x := fun x hx => by
  refine .pure (pureB_cells (x := polA p) (pure_pol p) x ?_)
  rw [polA_eq]
  exact hx
theorem frz_list {g h : Heap} {xs : List AV} (hx : ∀ x ∈ xs, Frz g h x x) : ∀ i (h1 : i < xs.length) (h2 : i < xs.length), Frz g h xs[i] xs[i] := fun i h1 _ => hx _ (List.getElem_mem h1)
theorem frz_app {g h : Heap} {ps bs cs ds : List AV} (n1 : ps.length = bs.length) (n2 : cs.length = ds.length) (h1 : ∀ i (a : i < ps.length) (b : i < bs.length), Frz g h ps[i] bs[i]) (h2 : ∀ i (a : i < cs.length) (b : i < ds.length), Frz g h cs[i] ds[i]) :
    ∀ i (a : i < (ps ++ cs).length) (b : i < (bs ++ ds).length), Frz g h (ps ++ cs)[i] (bs ++ ds)[i] := fun i a b => by
  by_cases e : i < ps.length
  · rw [List.getElem_append_left e, List.getElem_append_left (by omega)]; exact h1 i e (by omega)
  · rw [List.getElem_append_right (by omega), List.getElem_append_right (by omega)]
    simp only [List.length_append] at a b
    have := h2 (i - ps.length) (by omega) (by omega)
    simp only [n1] at this ⊢
    exact this
theorem frz_store {g h : Heap} {s : StoreD} {y1 y2 y3 y4 : AV} (a : Frz g h y1 (casesA s.cases)) (b : Frz g h y2 (revsA s.reviews)) (c : Frz g h y3 (notsA s.notices)) (d : Frz g h y4 (rolesA s.roles)) :
    Frz g h (.agg ([.v (.int .i64 s.tick), y1, y2, y3, y4] ++ polC s.policy ++ [.v (.int .i64 s.version)])) (storeA s) := by
  refine .agg _ _ (by simp) (frz_app (by simp) rfl (frz_app rfl rfl (fun i h1 h2 => ?_) (frz_list (polC_frz _))) (frz_list fun x hx => by rw [List.mem_singleton.1 hx]; exact .pure rfl))
  rcases i with _ | _ | _ | _ | _ | i
  · exact .pure rfl
  · exact a
  · exact b
  · exact c
  · exact d
  · simp at h1; omega
theorem OwnS.frz {g h0 h : Heap} {x : AV} {s : StoreD} {i0 : Nat} (ho : OwnS h0 h x s i0) (hg : Ab.Sub g h0) : Frz g h x (storeA s) := by
  obtain ⟨y1, y2, y3, y4, rfl, a, b, c, d, r⟩ := ho
  exact frz_store (a.frz hg) ((b.less hg).frz (pureL_map (fun _ => rfl) _)) ((c.less hg).frz (pureL_map (fun _ => rfl) _)) ((d.less hg).frz (pureL_map (fun _ => rfl) _))
theorem OwnC.rd {h0 h : Heap} {ys : List AV} {y : AV} {cs : List CaseD} {i0 : Nat} (ho : OwnC h0 h ys y cs i0) : RdCs h y cs := by
  obtain ⟨xs, a, b, c, d⟩ := ho
  refine ⟨xs, a.rd, b, fun j h1 h2 => ?_⟩
  by_cases e : j = i0
  · subst e
    obtain ⟨f, l, e, a, b, _⟩ := d h1 h2
    exact ⟨f, l, e, a.rd, b.rd⟩
  · rw [c j h1 h2 e]; exact rdC _ _
theorem OwnS.rd {h0 h : Heap} {x : AV} {s : StoreD} {i0 : Nat} (ho : OwnS h0 h x s i0) : RdS h x s := by
  obtain ⟨y1, y2, y3, y4, rfl, a, b, c, d, r⟩ := ho
  exact ⟨y1, y2, y3, y4, rfl, a.rd, b.rd, c.rd, d.rd⟩
end Go.Proofs.YtnhelgnmadbpgaaGreatDoor

set_option linter.unusedSimpArgs false
set_option linter.unusedVariables false
namespace Go.Proofs.YtnhelgnmadbpgaaGreatDoor
open Go Go.Ab Go.Bf
theorem frz_fin {g K : Heap} {S : StoreD} {y1 y2 y3 y4 : AV} {tk ver palg : Int} {pid : Txt} {pset : Bool} {ptgt : TgtD} {prules : List RuleD} {pkids : List PolD} {pobls : List OblD} (h1 : S.tick = tk) (h2 : S.policy = .mk pid pset palg ptgt prules pkids pobls) (h3 : S.version = ver)
    (a : Frz g K y1 (casesA S.cases)) (b : Frz g K y2 (revsA S.reviews)) (c : Frz g K y3 (notsA S.notices)) (d : Frz g K y4 (rolesA S.roles)) :
    Frz g K (.agg [.v (.int .i64 tk), y1, y2, y3, y4, .s pid, .v (.bool pset), .v (.int .i64 palg), tgtA ptgt, .sl (prules.map ruleA) .no, .sl (pkids.map polA) .no, oblsA pobls, .v (.int .i64 ver)]) (storeA S) := by
  have := frz_store a b c d
  rw [h1, h2, h3, show polC (.mk pid pset palg ptgt prules pkids pobls) = [.s pid, .v (.bool pset), .v (.int .i64 palg), tgtA ptgt, .sl (prules.map ruleA) .no, .sl (pkids.map polA) .no, oblsA pobls] by simp [polC, kidsA_eq]] at this
  exact this
theorem frz_rows {g h0 h : Heap} {y : AV} {xs ys : List AV} {cs : List CaseD} (hw : OwE 63 h0 h 5 y xs) (hg : Ab.Sub g h0) (hm : cs.map caseA = ys) (hn : xs.length = ys.length) (hx : ∀ j (a : j < xs.length) (b : j < ys.length), Frz g h xs[j] ys[j]) : Frz g h y (casesA cs) := by
  subst hm
  exact frz_cases hw hg (by simpa using hn) fun j h1 h2 => by have := hx j h1 (by simpa using h2); rw [List.getElem_map] at this; exact this
theorem frz_one {g h : Heap} {x y : AV} (hx : Frz g h x y) : ∀ i (a : i < [x].length) (b : i < [y].length), Frz g h [x][i] [y][i] := fun i a b => by
  obtain rfl : i = 0 := by simpa using a
  exact hx
theorem frz_mod {g H K : Heap} {z : AV} {xs : List AV} {cs : List CaseD} {j : Nat} {X : AV} {F : CaseD → CaseD} (hw : OwE 63 H K 5 z (xs.set j X)) (hg : Ab.Sub g H) (hn : xs.length = cs.length) (hj : j < cs.length) (hlo : ∀ k (h1 : k < xs.length) (h2 : k < cs.length), k ≠ j → xs[k] = caseA cs[k]) (hX : Frz g K X (caseA (F cs[j]))) : Frz g K z (casesA (cs.modify j F)) := by
  refine frz_cases hw hg (by simpa using hn) fun k h1 h2 => ?_
  have h1' : k < xs.length := by simpa using h1
  have h2' : k < cs.length := by simpa using h2
  by_cases e : k = j
  · subst e
    rw [List.getElem_set_self, List.getElem_modify_eq]
    exact hX
  · rw [List.getElem_set_ne (Ne.symm e), List.getElem_modify, if_neg (Ne.symm e), hlo k h1' h2' e]
    exact frz_case _
theorem flat_set {xs : List AV} {j : Nat} (hj : j < xs.length) (x : AV) : flatA (xs.set j x) = flatA (xs.take j) ++ (x.cells ++ flatA (xs.drop (j + 1))) := by
  rw [List.set_eq_take_append_cons_drop, if_pos hj, flatA_app]
  simp [flatA]
theorem flat_at {xs : List AV} {j : Nat} (hj : j < xs.length) : flatA xs = flatA (xs.take j) ++ (xs[j].cells ++ flatA (xs.drop (j + 1))) := by
  rw [← flat_set hj xs[j], List.set_getElem_self]
theorem ready_case {s : StoreD} {o : OpD} (h : readyD s o = 0) (hk : o.kind = 3 ∨ o.kind = 4) : thereD s.cases o.case = true := by
  cases e : thereD s.cases o.case
  · exfalso
    unfold readyD readyCaseD at h
    have : 2 ≤ o.kind ∧ o.kind ≤ 4 := by omega
    have : o.kind ≠ 1 := by omega
    split at h
    · cases h
    · simp only [e, if_true, *, if_false, and_self] at h
      cases h
  · rfl
theorem frz_caseL {g h0 h : Heap} {c : CaseD} {f l : AV} (a : OwE 84 h0 h 4 f (c.fields.map fieldA)) (b : OwE 119 h0 h 3 l (c.log.map hapA)) (hg : Ab.Sub g h0) : Frz g h (.agg [.s c.id, .s c.owner, .s c.state, f, l]) (caseA c) := by
  refine .agg _ _ rfl fun j h1 h2 => ?_
  rcases j with _ | _ | _ | _ | _ | j
  · exact .pure rfl
  · exact .pure rfl
  · exact .pure rfl
  · exact (a.less hg).frz (pureL_map (fun _ => rfl) _)
  · exact (b.less hg).frz (pureL_map (fun _ => rfl) _)
  · simp at h1; omega
set_option maxRecDepth 100000 in
theorem done_ok {h : Heap} {x : AV} {s : StoreD} (hb : RdS h x s) (o : OpD) (hf : Few s) (hp : polE 1 s.policy) (hr : i64 o.review) (ht : i64 s.tick) (hver : 0 ≤ s.version ∧ s.version ≤ 1000000) (he : ErrT h) :
    FnOK Tryz.prog 14 [x, opA o] h fun r h' => r = storeA (doneD parseD s o) ∧ h' = h :=
  FnOK.freeze fun g hg _ => by
  replace hb := hb.sub hg
  replace he := he.sub hg
  obtain ⟨i0, ei0⟩ : ∃ i0, (if o.kind = 1 then s.cases.length else findD s.cases o.case) = i0 := ⟨_, rfl⟩
  have hown := fun (G : Heap) (hG : Ab.Sub g G) => own_ok (hb.sub hG) i0 hf hp
  have hrdy := fun (G : Heap) (hG : Ab.Sub g G) => ready_ok (hb.sub hG) o hf hr ht
  obtain ⟨y1, y2, y3, y4, rfl, hb'⟩ := hb
  cases hpp : s.policy with
  | mk pid pset palg ptgt prules pkids pobls =>
  have hcC : polC (.mk pid pset palg ptgt prules pkids pobls) = [.s pid, .v (.bool pset), .v (.int .i64 palg), tgtA ptgt, .sl (prules.map ruleA) .no, .sl (pkids.map polA) .no, oblsA pobls] := by simp [polC, kidsA_eq]
  rw [hpp, hcC] at hown hrdy
  simp only [opA, opC, List.cons_append, List.nil_append] at hown hrdy
  refine FnOK.body hU hm Tryz.func14 rfl (by kernel_rfl) 138 rfl [.cell 4 34] rfl (Nat.le_of_ble_eq_true rfl) (fun hwf => ?_)
  simp -implicitDefEqProofs only [go_sem, hcC, opA, opC, List.cons_append, List.nil_append]
  intro i2 h2
  simp -implicitDefEqProofs only [go_sem]
  intro i3 h3
  have n32 := ne_upd h3
  have h3' := upd_none h3
  simp -implicitDefEqProofs only [go_sem, upd_ne, n32, n32.symm]
  intro i4 h4
  have n43 := ne_upd h4
  have h4a := upd_none h4
  have n42 := ne_upd h4a
  have h4' := upd_none h4a
  simp -implicitDefEqProofs only [go_sem, upd_ne, n32, n32.symm, n43, n43.symm, n42, n42.symm]
  obtain ⟨H, eH⟩ : ∃ H, upd (upd (upd g i2 (some (.obj [.v (.int .i64 s.tick), y1, y2, y3, y4, .s pid, .v (.bool pset), .v (.int .i64 palg), tgtA ptgt, .sl (prules.map ruleA) .no, .sl (pkids.map polA) .no, oblsA pobls, .v (.int .i64 s.version)] 34))) i3 (some (.obj (opC o) 40))) i4 (some (.obj [.v (.int .i64 0), .sl [] .full, .sl [] .full, .sl [] .full, .sl [] .full, .s [], .v (.bool false), .v (.int .i64 0), .sl [] .full, .sl [] .full, .sl [] .full, .sl [] .full, .v (.int .i64 0)] 34)) = H := ⟨_, rfl⟩
  have hH : Ab.Sub g H := by rw [← eH]; exact (((Sub.refl g).put h2 _).put h3' _).put h4' _
  have g2 : H i2 = some (.obj [.v (.int .i64 s.tick), y1, y2, y3, y4, .s pid, .v (.bool pset), .v (.int .i64 palg), tgtA ptgt, .sl (prules.map ruleA) .no, .sl (pkids.map polA) .no, oblsA pobls, .v (.int .i64 s.version)] 34) := by rw [← eH, upd_other _ _ n42.symm, upd_other _ _ n32.symm, upd_same]
  have g3 : H i3 = some (.obj (opC o) 40) := by rw [← eH, upd_other _ _ n43.symm, upd_same]
  have g4 : H i4 = some (.obj [.v (.int .i64 0), .sl [] .full, .sl [] .full, .sl [] .full, .sl [] .full, .s [], .v (.bool false), .v (.int .i64 0), .sl [] .full, .sl [] .full, .sl [] .full, .sl [] .full, .v (.int .i64 0)] 34) := by rw [← eH, upd_same]
  simp only [opC] at eH g3
  rw [eH]
  clear eH
  refine (hown H hH).mono fun r H1 ⟨hS, s1⟩ => ?_
  obtain ⟨z1, z2, z3, z4, er, hS1⟩ := id hS
  subst er
  rw [hpp, hcC] at hS ⊢
  obtain ⟨hC, w2, w3, w4, a12, a13, a14, a23, a24, a34⟩ := hS1
  obtain ⟨xs, w1, hnx, hlo, hmy⟩ := id hC
  simp -implicitDefEqProofs only [go_sem, List.cons_append, List.nil_append]
  intro i5 h5
  simp -implicitDefEqProofs only [go_sem, w1.rd.fit, w1.rd.cells, w2.rd.fit, w2.rd.cells, w3.rd.fit, w3.rd.cells, w4.rd.fit, w4.rd.cells]
  have q2 := s1 _ _ g2
  have q3 := s1 _ _ g3
  have q4 := s1 _ _ g4
  have n52 : i2 ≠ i5 := fun e => by rw [← e, q2] at h5; cases h5
  have n53 : i3 ≠ i5 := fun e => by rw [← e, q3] at h5; cases h5
  have n54 : i4 ≠ i5 := fun e => by rw [← e, q4] at h5; cases h5
  obtain ⟨K, eK⟩ : ∃ K, upd H1 i5 (some (.obj [.v (.int .i64 s.tick), z1, z2, z3, z4, .s pid, .v (.bool pset), .v (.int .i64 palg), tgtA ptgt, .sl (prules.map ruleA) .no, .sl (pkids.map polA) .no, oblsA pobls, .v (.int .i64 s.version)] 34)) = K := ⟨_, rfl⟩
  have sK : Ab.Sub H1 K := by rw [← eK]; exact .upd_new h5
  have k5 : K i5 = some (.obj [.v (.int .i64 s.tick), z1, z2, z3, z4, .s pid, .v (.bool pset), .v (.int .i64 palg), tgtA ptgt, .sl (prules.map ruleA) .no, .sl (pkids.map polA) .no, oblsA pobls, .v (.int .i64 s.version)] 34) := by rw [← eK, upd_same]
  rw [eK]
  have hz5 : ∀ k, H k = none → H1 k ≠ none → k ≠ i5 := fun k _ hk e => hk (by rw [e]; exact h5)
  have k2 := sK _ _ q2
  have k3 := sK _ _ q3
  have k4 := sK _ _ q4
  clear eK
  have sg : Ab.Sub g K := hH.trans (s1.trans sK)
  simp -implicitDefEqProofs only [go_sem, k2, k3]
  refine (hrdy K sg).pthen ?_
  have g5 : g i5 = none := (hH.trans s1).none h5
  have kK : ∀ k, H1 k ≠ none → K k = H1 k := fun k hk => by
    cases e : H1 k with
    | none => exact (hk e).elim
    | some b => exact sK _ _ e
  have hz4 : ∀ k, H k = none → k ≠ i4 := fun k hk e => by rw [e, g4] at hk; cases hk
  by_cases p0 : readyD s o = 0
  · have d0 : (readyD s o != 0) = false := by simp [p0]
    simp -implicitDefEqProofs only [go_sem, d0]
    simp -implicitDefEqProofs only [go_sem, k5, k3]
    have hSK : OwnS H K (.agg ([.v (.int .i64 s.tick), z1, z2, z3, z4] ++ polC s.policy ++ [.v (.int .i64 s.version)])) s i0 := by
      rw [hpp, hcC]
      exact hS.keepb fun k _ hk => kK k hk
    have hfi := find_ok hSK.rd o.case hf.cases
    rw [hpp, hcC] at hfi
    simp only [List.cons_append, List.nil_append] at hfi
    refine hfi.pthen ?_
    simp -implicitDefEqProofs only [go_sem, k3]
    have hform : formD o = true := by
      cases e : formD o
      · simp [readyD, e] at p0
      · rfl
    have hdone : doneD parseD s o = doD parseD s o := by simp [doneD, p0]
    rw [hdone]
    by_cases p1 : o.kind = 1
    · have k1 : (o.kind == 1) = true := by simp [p1]
      simp -implicitDefEqProofs only [go_sem, k1]
      simp -implicitDefEqProofs only [go_sem, k3]
      intro i8 h8
      have n82 : i2 ≠ i8 := fun e => by rw [← e, k2] at h8; cases h8
      have n83 : i3 ≠ i8 := fun e => by rw [← e, k3] at h8; cases h8
      have n84 : i4 ≠ i8 := fun e => by rw [← e, k4] at h8; cases h8
      have n85 : i5 ≠ i8 := fun e => by rw [← e, k5] at h8; cases h8
      simp -implicitDefEqProofs only [go_sem]
      obtain ⟨K2, eK2⟩ : ∃ K2, upd K i8 (some (.obj [.s o.case, .s o.subj, .s [111, 112, 101, 110], .sl [] .full, .sl [] .full] 63)) = K2 := ⟨_, rfl⟩
      have sK2 : Ab.Sub K K2 := by rw [← eK2]; exact .upd_new h8
      have e8 : K2 i8 = some (.obj [.s o.case, .s o.subj, .s [111, 112, 101, 110], .sl [] .full, .sl [] .full] 63) := by rw [← eK2, upd_same]
      rw [eK2]
      clear eK2
      have m3 := sK2 _ _ k3
      have m4 := sK2 _ _ k4
      have m5 := sK2 _ _ k5
      simp -implicitDefEqProofs only [go_sem, m3, m5]
      have hha := happens_ok (h0 := H) (s := s) z1 z2 z3 z4 (k := i8) (o := 0) (A := []) (B := []) (t := 63) (c := ⟨o.case, o.subj, openT, [], []⟩) (f := .sl [] .full) (l := .sl [] .full) rfl e8 (by decide) (.inl ⟨rfl, rfl⟩) (s1.trans (sK.trans sK2)) (Nat.zero_le _) o.subj [110, 101, 119]
      rw [hpp, hcC] at hha
      simp only [List.cons_append, List.nil_append] at hha
      refine hha.mono fun r K3 ⟨l', ol, e8', fr3, ap3⟩ => ?_
      have kK3 : ∀ k, K2 k ≠ none → k ≠ i8 → K3 k = K2 k := fun k hk hk8 => fr3 k hk hk8 (by simp [nid])
      have m3' : K3 i3 = _ := (kK3 i3 (by rw [m3]; simp) n83).trans m3
      have m4' : K3 i4 = _ := (kK3 i4 (by rw [m4]; simp) n84).trans m4
      have m5' : K3 i5 = _ := (kK3 i5 (by rw [m5]; simp) n85).trans m5
      simp only [caseL, List.append_nil, List.nil_append] at e8'
      simp -implicitDefEqProofs only [go_sem]
      simp -implicitDefEqProofs only [go_sem, m5', e8', ol.rd.fit, ol.rd.cells]
      have kk2 : ∀ k, H1 k ≠ none → K2 k = H1 k := fun k hk => by
        have := kK k hk
        cases e : K k with
        | none => rw [e] at this; exact (hk this.symm).elim
        | some b => rw [sK2 _ _ e, ← e, this]
      have k8 : ∀ k, H1 k ≠ none → k ≠ i8 := fun k hk e => hk (by have := kK k hk; rw [e, h8] at this; rw [e]; exact this.symm)
      have kk3 : ∀ k, H1 k ≠ none → K3 k = H1 k := fun k hk => (kK3 k (by rw [kk2 k hk]; exact hk) (k8 k hk)).trans (kk2 k hk)
      have sH3 : Ab.Sub H1 K3 := fun k b hk => by rw [kk3 k (by rw [hk]; simp)]; exact hk
      have hfl : findD s.cases o.case ≤ s.cases.length := List.findIdx_le_length
      have hfc := hf.cases
      refine (insCase_ok z1 xs (.agg [.s o.case, .s o.subj, .s openT, .sl [] .full, l']) (findD s.cases o.case) H K3 (w1.keepb fun k _ hk => kk3 k hk) (s1.trans sH3) (by omega) (by omega) rfl (by simp [Ab.fit])).mono fun r K4 ⟨ow5, fr4, ap4⟩ => ?_
      have m4'' : K4 i4 = _ := (fr4 i4 (by rw [m4']; simp) (fun e => by have := (w1.nid e).1; rw [g4] at this; cases this)).trans m4'
      have m5'' : K4 i5 = _ := (fr4 i5 (by rw [m5']; simp) (fun e => (w1.nid e).2.1 h5)).trans m5'
      simp -implicitDefEqProofs only [go_sem, m5'', ow5.rd.fit, ow5.rd.cells]
      simp -implicitDefEqProofs only [go_sem, upd_ne, n54, n54.symm, m4'', ow5.rd.fit, ow5.rd.cells, w2.rd.fit, w2.rd.cells, w3.rd.fit, w3.rd.cells, w4.rd.fit, w4.rd.cells]
      have hi0 : i0 = s.cases.length := by rw [← ei0, if_pos p1]
      have hxs : xs = s.cases.map caseA := List.ext_getElem (by simpa using hnx) fun j a b => by rw [hlo j a (by omega) (by omega), List.getElem_map]
      have kk4 : ∀ k, H1 k ≠ none → nid z1 ≠ some k → K4 k = H1 k := fun k hk hz => (fr4 k (by rw [kk3 k hk]; exact hk) hz).trans (kk3 k hk)
      obtain ⟨K5, eK5⟩ : ∃ K5, upd (upd K4 i5 (some (.obj [.v (.int .i64 s.tick), r, z2, z3, z4, .s pid, .v (.bool pset), .v (.int .i64 palg), tgtA ptgt, .sl (prules.map ruleA) .no, .sl (pkids.map polA) .no, oblsA pobls, .v (.int .i64 s.version)] 34))) i4 (some (.obj [.v (.int .i64 s.tick), r, z2, z3, z4, .s pid, .v (.bool pset), .v (.int .i64 palg), tgtA ptgt, .sl (prules.map ruleA) .no, .sl (pkids.map polA) .no, oblsA pobls, .v (.int .i64 s.version)] 34)) = K5 := ⟨_, rfl⟩
      rw [eK5]
      have o5 : ∀ k, k ≠ i4 → k ≠ i5 → K5 k = K4 k := fun k a b => by rw [← eK5, upd_other _ _ a, upd_other _ _ b]
      have kk5 : ∀ k, H k = none → H1 k ≠ none → nid z1 ≠ some k → K5 k = H1 k := fun k a b c => (o5 k (hz4 k a) (hz5 k a b)).trans (kk4 k b c)
      have ow : OwE 63 H K5 5 r (List.take (findD s.cases o.case) xs ++ ([.agg [.s o.case, .s o.subj, .s openT, .sl [] .full, l']] ++ List.drop (findD s.cases o.case) xs)) := ow5.keep fun id e => o5 id (hz4 id (ow5.nid e).1) fun e5 => by
        subst e5
        rcases ap4 _ e with h | h
        · rw [m5'] at h; cases h
        · exact (w1.nid h).2.1 h5
      have ol5 : OwE 119 H K5 3 l' _ := ol.keep fun id e => by
        have h2n : K2 id = none := (ap3 id e).resolve_right (by simp [nid])
        have hz : nid z1 ≠ some id := fun e1 => by
          have := kk2 id (w1.nid e1).2.1
          rw [h2n] at this
          exact (w1.nid e1).2.1 this.symm
        rw [o5 id (hz4 id (ol.nid e).1) (fun e5 => by rw [e5, m5] at h2n; cases h2n), fr4 id (ol.nid e).2.1 hz]
      have hmc : MyCase H K5 [] (.agg [.s o.case, .s o.subj, .s openT, .sl [] .full, l']) (hapD s ⟨o.case, o.subj, openT, [], []⟩ o.subj [110, 101, 119]) := ⟨.sl [] .full, l', rfl, .inl ⟨rfl, rfl⟩, ol5, (fun i e => by cases e), fun y hy => by cases hy⟩
      have sg4 : Ab.Sub g K4 := fun k b hk => by
        have h1 := hH _ _ hk
        have h2 := s1 _ _ h1
        rw [kk4 k (by rw [h2]; simp) (fun e => by have := (w1.nid e).1; rw [h1] at this; cases this)]
        exact h2
      have sg5 : Ab.Sub g K5 := by rw [← eK5]; exact (sg4.put g5 _).put h4' _
      have hdo : doD parseD s o = { s with cases := s.cases.take (findD s.cases o.case) ++ [hapD s ⟨o.case, o.subj, openT, [], []⟩ o.subj [110, 101, 119]] ++ s.cases.drop (findD s.cases o.case) } := by simp [doD, p1]
      refine .mk _ (.refl _) (.refl _) ⟨sg5, storeA (doD parseD s o), ?_, rfl⟩
      rw [hdo]
      refine frz_fin rfl hpp rfl ?_ (((w2.keep fun id e => kk5 id (w2.nid e).1 (w2.nid e).2.1 fun e1 => a12 id e1 e).less hH).frz (pureL_map (fun _ => rfl) _)) (((w3.keep fun id e => kk5 id (w3.nid e).1 (w3.nid e).2.1 fun e1 => a13 id e1 e).less hH).frz (pureL_map (fun _ => rfl) _)) (((w4.keep fun id e => kk5 id (w4.nid e).1 (w4.nid e).2.1 fun e1 => a14 id e1 e).less hH).frz (pureL_map (fun _ => rfl) _))
      refine frz_rows (ys := List.take (findD s.cases o.case) xs ++ ([caseA (hapD s ⟨o.case, o.subj, openT, [], []⟩ o.subj [110, 101, 119])] ++ List.drop (findD s.cases o.case) xs)) ow hH (by rw [hxs]; simp [List.map_take, List.map_drop]) (by simp) ?_
      exact frz_app rfl rfl (frz_list fun x hx => by
          have := List.mem_of_mem_take hx
          rw [hxs] at this
          obtain ⟨c, _, rfl⟩ := List.mem_map.1 this
          exact frz_case c)
        (frz_app rfl rfl (frz_one (hmc.frz hH)) (frz_list fun x hx => by
          have := List.mem_of_mem_drop hx
          rw [hxs] at this
          obtain ⟨c, _, rfl⟩ := List.mem_map.1 this
          exact frz_case c))
    have k1 : (o.kind == 1) = false := by simp [p1]
    have hi0 : i0 = findD s.cases o.case := by rw [← ei0, if_neg p1]
    simp -implicitDefEqProofs only [go_sem, k1]
    by_cases p3 : o.kind = 3
    · have k3' : (o.kind == 3) = true := by simp [p3]
      simp -implicitDefEqProofs only [go_sem, k1, k3']
      have hth := ready_case p0 (.inl p3)
      have hlt := thereD_lt hth
      obtain ⟨j, ej⟩ : ∃ j, findD s.cases o.case = j := ⟨_, rfl⟩
      have hj : j < s.cases.length := by rw [← ej]; exact hlt
      have hjx : j < xs.length := by omega
      rw [ej] at hi0
      subst hi0
      obtain ⟨f, l, ex, of, ol, hap, hys⟩ := hmy hjx hj
      obtain ⟨id1, hg1, o1⟩ := w1.ow (by intro e; rw [e] at hjx; cases hjx)
      have o1' := o1
      obtain ⟨cap, rest, ey, hid, hrl, hcap, hsz⟩ := o1'
      have lA : i0 * 5 = (flatA (xs.take i0)).length := by rw [flatA_length fun z hz => hsz z (List.mem_of_mem_take hz), List.length_take]; omega
      have hidK : K id1 = some (.obj (flatA (xs.take i0) ++ (caseL s.cases[i0] f l ++ (flatA (xs.drop (i0 + 1)) ++ rest))) 63) := by
        rw [sK _ _ hid, flat_at hjx, ex]
        simp [caseL, AV.cells]
      have n14 : id1 ≠ i4 := hz4 id1 hg1
      have n13 : id1 ≠ i3 := fun e => by rw [e, g3] at hg1; cases hg1
      have n15 : id1 ≠ i5 := fun e => o1.none (by rw [e]; exact h5)
      have nf4 : ∀ k, nid f = some k → k ≠ i3 ∧ k ≠ i4 ∧ k ≠ i5 ∧ k ≠ id1 := fun k e => ⟨(fun e' => by have := (of.nid e).1; rw [e', g3] at this; cases this), hz4 k (of.nid e).1, hz5 k (of.nid e).1 (of.nid e).2.1, fun e' => (hys z1 (by simp)).1 k e (by rw [e']; exact o1.nid)⟩
      have nl4 : ∀ k, nid l = some k → k ≠ i3 ∧ k ≠ i4 ∧ k ≠ i5 ∧ k ≠ id1 := fun k e => ⟨(fun e' => by have := (ol.nid e).1; rw [e', g3] at this; cases this), hz4 k (ol.nid e).1, hz5 k (ol.nid e).1 (ol.nid e).2.1, fun e' => (hys z1 (by simp)).2 k e (by rw [e']; exact o1.nid)⟩
      have hff := hf.fields _ (List.getElem_mem hj)
      have hfl := hf.log _ (List.getElem_mem hj)
      rw [ej]
      refine .calls (pick K [i3, i5]) [0, 1, 2, 3, 4, 5, 6, 7, 8] pick_sub (by kernel_rfl) rfl ?_
      simp -implicitDefEqProofs only [go_sem, pick_at (show i3 ∈ [i3, i5] by simp), pick_at (show i5 ∈ [i3, i5] by simp), k3, k5]
      refine (o1.sub sK).idx (U := U) (e := 63) i0 rfl hjx uCase (by decide) ?_
      simp -implicitDefEqProofs only [go_sem, pick_at (show i3 ∈ [i3, i5] by simp), pick_at (show i5 ∈ [i3, i5] by simp), k3, k5]
      refine (show FnOK Tryz.prog 49 [.ptr id1 (i0 * 5), .s o.field, .agg [.v (.int .i64 o.val.kind), .v (.int .i64 o.val.n), .s o.val.s]] K _ from write_ok lA hidK (by decide) (of.sub sK) (s1.trans sK) hff o.field o.val).mono fun r K3 ⟨f', of', e1', fr3, ap3⟩ => ?_
      have kk3 : ∀ k, H1 k ≠ none → k ≠ id1 → nid f ≠ some k → K3 k = H1 k := fun k a b c => (fr3 k (by rw [kK k a]; exact a) b c).trans (kK k a)
      have m3 : K3 i3 = _ := (fr3 i3 (by rw [k3]; simp) n13.symm fun e => (nf4 _ e).1 rfl).trans k3
      have m4 : K3 i4 = _ := (fr3 i4 (by rw [k4]; simp) n14.symm fun e => (nf4 _ e).2.1 rfl).trans k4
      have m5 : K3 i5 = _ := (fr3 i5 (by rw [k5]; simp) n15.symm fun e => (nf4 _ e).2.2.1 rfl).trans k5
      refine ⟨pick_to fun k hk => ?_, ?_⟩
      · simp only [List.mem_cons, List.not_mem_nil, or_false] at hk
        rcases hk with rfl | rfl
        · rw [m3, k3]
        · rw [m5, k5]
      simp -implicitDefEqProofs only [go_sem]
      have sH3 : Ab.Sub H K3 := fun k b hk => by rw [kk3 k (by rw [s1 _ _ hk]; simp) (fun e => by rw [e, hg1] at hk; cases hk) (fun e => by have := (of.nid e).1; rw [hk] at this; cases this)]; exact s1 _ _ hk
      have ol3 : OwE 119 H K3 3 l (s.cases[i0].log.map hapA) := ol.keep fun k e => kk3 k (ol.nid e).2.1 (nl4 k e).2.2.2 (fun e1 => hap k e1 e)
      have hX5 : ∀ y1 y2 : AV, Sized 5 (xs.set i0 (.agg (caseL s.cases[i0] y1 y2))) := fun y1 y2 z hz => by
        rcases List.mem_or_eq_of_mem_set hz with hz | rfl
        · exact hsz z hz
        · rfl
      have mkO : ∀ {G : Heap} {y1 y2 : AV}, G id1 = some (.obj (flatA (xs.take i0) ++ (caseL s.cases[i0] y1 y2 ++ (flatA (xs.drop (i0 + 1)) ++ rest))) 63) → Ow 63 G 5 id1 z1 (xs.set i0 (.agg (caseL s.cases[i0] y1 y2))) := fun {G y1 y2} hG => ⟨cap, rest, by rw [List.length_set]; exact ey, by rw [hG, flat_set hjx]; simp [AV.cells], by rw [List.length_set]; exact hrl, by rw [List.length_set]; exact hcap, hX5 _ _⟩
      have hjs : ∀ x : AV, i0 < (xs.set i0 x).length := fun x => by rw [List.length_set]; exact hjx
      refine .calls (pick K3 [i3, i5]) [0, 1, 2, 3, 4, 5, 6, 7] pick_sub (by kernel_rfl) rfl ?_
      simp -implicitDefEqProofs only [go_sem, pick_at (show i3 ∈ [i3, i5] by simp), pick_at (show i5 ∈ [i3, i5] by simp), m3, m5]
      refine (mkO e1').idx (U := U) (e := 63) i0 rfl (hjs _) uCase (by decide) ?_
      simp -implicitDefEqProofs only [go_sem, pick_at (show i3 ∈ [i3, i5] by simp), pick_at (show i5 ∈ [i3, i5] by simp), m3, m5]
      have hha := happens_ok (h0 := H) (h := K3) (s := s) z1 z2 z3 z4 (k := id1) (c := s.cases[i0]) (f := f') (l := l) lA e1' (by decide) ol3 sH3 hfl o.subj [119, 114, 105, 116, 101]
      rw [hpp, hcC] at hha
      simp only [List.cons_append, List.nil_append] at hha
      refine hha.mono fun r K4 ⟨l', ol', e1'', fr4, ap4⟩ => ?_
      have m3' : K4 i3 = _ := (fr4 i3 (by rw [m3]; simp) n13.symm fun e => (nl4 _ e).1 rfl).trans m3
      have m4' : K4 i4 = _ := (fr4 i4 (by rw [m4]; simp) n14.symm fun e => (nl4 _ e).2.1 rfl).trans m4
      have m5' : K4 i5 = _ := (fr4 i5 (by rw [m5]; simp) n15.symm fun e => (nl4 _ e).2.2.1 rfl).trans m5
      refine ⟨pick_to fun k hk => ?_, ?_⟩
      · simp only [List.mem_cons, List.not_mem_nil, or_false] at hk
        rcases hk with rfl | rfl
        · rw [m3', m3]
        · rw [m5', m5]
      simp -implicitDefEqProofs only [go_sem]
      simp -implicitDefEqProofs only [go_sem, m5', m4', w1.rd.fit, w1.rd.cells, w2.rd.fit, w2.rd.cells, w3.rd.fit, w3.rd.cells, w4.rd.fit, w4.rd.cells]
      obtain ⟨K5, eK5⟩ : ∃ K5, upd K4 i4 (some (.obj [.v (.int .i64 s.tick), z1, z2, z3, z4, .s pid, .v (.bool pset), .v (.int .i64 palg), tgtA ptgt, .sl (prules.map ruleA) .no, .sl (pkids.map polA) .no, oblsA pobls, .v (.int .i64 s.version)] 34)) = K5 := ⟨_, rfl⟩
      rw [eK5]
      have o5 : ∀ k, k ≠ i4 → K5 k = K4 k := fun k a => by rw [← eK5, upd_other _ _ a]
      have kk5 : ∀ k, H k = none → H1 k ≠ none → k ≠ id1 → nid f ≠ some k → nid l ≠ some k → K5 k = H1 k := fun k a b c d e => by
        have h3 := kk3 k b c d
        rw [o5 k (hz4 k a), fr4 k (by rw [h3]; exact b) c e, h3]
      have of5 : OwE 84 H K5 4 f' _ := of'.keep fun id e => by
        have h3 := (of'.nid e).2.1
        have n1 : id ≠ id1 := fun e' => by
          rcases ap3 id e with h | h
          · rw [e', hidK] at h; cases h
          · exact (nf4 id h).2.2.2 e'
        have n2 : nid l ≠ some id := fun e' => by
          rcases ap3 id e with h | h
          · have := kK id (ol.nid e').2.1; rw [h] at this; exact (ol.nid e').2.1 this.symm
          · exact hap id h e'
        rw [o5 id (hz4 id (of'.nid e).1), fr4 id h3 n1 n2]
      have ol5 : OwE 119 H K5 3 l' _ := ol'.keep fun id e => o5 id (hz4 id (ol'.nid e).1)
      have sg4 : Ab.Sub g K4 := fun k b hk => by
        have h1 := hH _ _ hk
        rw [fr4 k (by rw [sH3 _ _ h1]; simp) (fun e => by rw [e, hg1] at h1; cases h1) (fun e => by have := (ol.nid e).1; rw [h1] at this; cases this)]
        exact sH3 _ _ h1
      have sg5 : Ab.Sub g K5 := by rw [← eK5]; exact sg4.put h4' _
      have n1' : nid z1 = some id1 := o1.nid
      have hdo : doD parseD s o = { s with cases := s.cases.modify i0 fun c => hapD s { c with fields := writeD c.fields o.field o.val } o.subj [119, 114, 105, 116, 101] } := by simp [doD, p3, ej]
      refine .mk _ (.refl _) (.refl _) ⟨sg5, storeA (doD parseD s o), ?_, rfl⟩
      rw [hdo]
      refine frz_fin rfl hpp rfl ?_ (((w2.keep fun id e => kk5 id (w2.nid e).1 (w2.nid e).2.1 (fun e1 => a12 id1 n1' (by rw [← e1]; exact e)) (fun e1 => (hys z2 (by simp)).1 id e1 e) (fun e1 => (hys z2 (by simp)).2 id e1 e)).less hH).frz (pureL_map (fun _ => rfl) _)) (((w3.keep fun id e => kk5 id (w3.nid e).1 (w3.nid e).2.1 (fun e1 => a13 id1 n1' (by rw [← e1]; exact e)) (fun e1 => (hys z3 (by simp)).1 id e1 e) (fun e1 => (hys z3 (by simp)).2 id e1 e)).less hH).frz (pureL_map (fun _ => rfl) _)) (((w4.keep fun id e => kk5 id (w4.nid e).1 (w4.nid e).2.1 (fun e1 => a14 id1 n1' (by rw [← e1]; exact e)) (fun e1 => (hys z4 (by simp)).1 id e1 e) (fun e1 => (hys z4 (by simp)).2 id e1 e)).less hH).frz (pureL_map (fun _ => rfl) _))
      exact frz_mod (X := .agg (caseL s.cases[i0] f' l')) (.inr ⟨id1, hg1, mkO ((o5 id1 n14).trans e1'')⟩) hH hnx hj (fun k h1 h2 hk => hlo k h1 h2 hk) (frz_caseL (c := hapD s { s.cases[i0] with fields := writeD s.cases[i0].fields o.field o.val } o.subj [119, 114, 105, 116, 101]) of5 ol5 hH)
    have k3' : (o.kind == 3) = false := by simp [p3]
    simp -implicitDefEqProofs only [go_sem, k1, k3']
    by_cases p4 : o.kind = 4
    · have k4' : (o.kind == 4) = true := by simp [p4]
      simp -implicitDefEqProofs only [go_sem, k1, k3', k4']
      have hth := ready_case p0 (.inr p4)
      have hlt := thereD_lt hth
      obtain ⟨j, ej⟩ : ∃ j, findD s.cases o.case = j := ⟨_, rfl⟩
      have hj : j < s.cases.length := by rw [← ej]; exact hlt
      have hjx : j < xs.length := by omega
      rw [ej] at hi0
      subst hi0
      obtain ⟨f, l, ex, of, ol, hap, hys⟩ := hmy hjx hj
      obtain ⟨id1, hg1, o1⟩ := w1.ow (by intro e; rw [e] at hjx; cases hjx)
      have o1' := o1
      obtain ⟨cap, rest, ey, hid, hrl, hcap, hsz⟩ := o1'
      have lA : i0 * 5 = (flatA (xs.take i0)).length := by rw [flatA_length fun z hz => hsz z (List.mem_of_mem_take hz), List.length_take]; omega
      have hidK : K id1 = some (.obj (flatA (xs.take i0) ++ (caseL s.cases[i0] f l ++ (flatA (xs.drop (i0 + 1)) ++ rest))) 63) := by
        rw [sK _ _ hid, flat_at hjx, ex]
        simp [caseL, AV.cells]
      have n14 : id1 ≠ i4 := hz4 id1 hg1
      have n13 : id1 ≠ i3 := fun e => by rw [e, g3] at hg1; cases hg1
      have n15 : id1 ≠ i5 := fun e => o1.none (by rw [e]; exact h5)
      have nf4 : ∀ k, nid f = some k → k ≠ i3 ∧ k ≠ i4 ∧ k ≠ i5 ∧ k ≠ id1 := fun k e => ⟨(fun e' => by have := (of.nid e).1; rw [e', g3] at this; cases this), hz4 k (of.nid e).1, hz5 k (of.nid e).1 (of.nid e).2.1, fun e' => (hys z1 (by simp)).1 k e (by rw [e']; exact o1.nid)⟩
      have nl4 : ∀ k, nid l = some k → k ≠ i3 ∧ k ≠ i4 ∧ k ≠ i5 ∧ k ≠ id1 := fun k e => ⟨(fun e' => by have := (ol.nid e).1; rw [e', g3] at this; cases this), hz4 k (ol.nid e).1, hz5 k (ol.nid e).1 (ol.nid e).2.1, fun e' => (hys z1 (by simp)).2 k e (by rw [e']; exact o1.nid)⟩
      have hff := hf.fields _ (List.getElem_mem hj)
      have hfl := hf.log _ (List.getElem_mem hj)
      rw [ej]
      simp -implicitDefEqProofs only [go_sem, k5, k3]
      refine (o1.sub sK).idx (U := U) (e := 63) i0 rfl hjx uCase (by decide) ?_
      simp -implicitDefEqProofs only [go_sem, k5, k3, hidK]
      have e2 : List.take (i0 * 5 + 2) (flatA (xs.take i0) ++ (caseL s.cases[i0] f l ++ (flatA (xs.drop (i0 + 1)) ++ rest))) ++ [.s o.to] ++ List.drop (i0 * 5 + 2 + 1) (flatA (xs.take i0) ++ (caseL s.cases[i0] f l ++ (flatA (xs.drop (i0 + 1)) ++ rest))) = flatA (xs.take i0) ++ (caseL { s.cases[i0] with state := o.to } f l ++ (flatA (xs.drop (i0 + 1)) ++ rest)) := by
        have := mid_put (A := flatA (xs.take i0) ++ [.s s.cases[i0].id, .s s.cases[i0].owner]) (B := [.s s.cases[i0].state]) (C := f :: l :: (flatA (xs.drop (i0 + 1)) ++ rest)) (X := [.s o.to]) (k := i0 * 5 + 2) (m := 1) (by rw [lA]; simp) rfl rfl
        simp only [caseL, List.append_assoc, List.cons_append, List.nil_append] at this ⊢
        exact this
      rw [e2]
      obtain ⟨K3, eK3⟩ : ∃ K3, upd K id1 (some (.obj (flatA (xs.take i0) ++ (caseL { s.cases[i0] with state := o.to } f l ++ (flatA (xs.drop (i0 + 1)) ++ rest))) 63)) = K3 := ⟨_, rfl⟩
      rw [eK3]
      refine ⟨by simp only [List.length_append, ← lA, caseL, List.length_cons, List.length_nil]; omega, ?_⟩
      have e1' : K3 id1 = some (.obj (flatA (xs.take i0) ++ (caseL { s.cases[i0] with state := o.to } f l ++ (flatA (xs.drop (i0 + 1)) ++ rest))) 63) := by rw [← eK3, upd_same]
      have fr3 : ∀ k, K k ≠ none → k ≠ id1 → nid f ≠ some k → K3 k = K k := fun k _ hk _ => by rw [← eK3, upd_other _ _ hk]
      have ap3 : ∀ k, nid f = some k → K k = none ∨ nid f = some k := fun k hk => .inr hk
      have kk3 : ∀ k, H1 k ≠ none → k ≠ id1 → nid f ≠ some k → K3 k = H1 k := fun k a b c => (fr3 k (by rw [kK k a]; exact a) b c).trans (kK k a)
      have m3 : K3 i3 = _ := (fr3 i3 (by rw [k3]; simp) n13.symm fun e => (nf4 _ e).1 rfl).trans k3
      have m4 : K3 i4 = _ := (fr3 i4 (by rw [k4]; simp) n14.symm fun e => (nf4 _ e).2.1 rfl).trans k4
      have m5 : K3 i5 = _ := (fr3 i5 (by rw [k5]; simp) n15.symm fun e => (nf4 _ e).2.2.1 rfl).trans k5
      obtain ⟨f', of', ef'⟩ : ∃ f', OwE 84 H K3 4 f' (s.cases[i0].fields.map fieldA) ∧ f = f' := ⟨f, of.keep fun k e => by rw [← eK3, upd_other _ _ (nf4 k e).2.2.2, kK k (of.nid e).2.1], rfl⟩
      rw [ef'] at e1'
      replace ap3 : ∀ k, nid f' = some k → K k = none ∨ nid f = some k := by rw [← ef']; exact ap3
      have sH3 : Ab.Sub H K3 := fun k b hk => by rw [kk3 k (by rw [s1 _ _ hk]; simp) (fun e => by rw [e, hg1] at hk; cases hk) (fun e => by have := (of.nid e).1; rw [hk] at this; cases this)]; exact s1 _ _ hk
      have ol3 : OwE 119 H K3 3 l (s.cases[i0].log.map hapA) := ol.keep fun k e => kk3 k (ol.nid e).2.1 (nl4 k e).2.2.2 (fun e1 => hap k e1 e)
      have hX5 : ∀ y1 y2 : AV, Sized 5 (xs.set i0 (.agg (caseL ({ s.cases[i0] with state := o.to } : CaseD) y1 y2))) := fun y1 y2 z hz => by
        rcases List.mem_or_eq_of_mem_set hz with hz | rfl
        · exact hsz z hz
        · rfl
      have mkO : ∀ {G : Heap} {y1 y2 : AV}, G id1 = some (.obj (flatA (xs.take i0) ++ (caseL ({ s.cases[i0] with state := o.to } : CaseD) y1 y2 ++ (flatA (xs.drop (i0 + 1)) ++ rest))) 63) → Ow 63 G 5 id1 z1 (xs.set i0 (.agg (caseL ({ s.cases[i0] with state := o.to } : CaseD) y1 y2))) := fun {G y1 y2} hG => ⟨cap, rest, by rw [List.length_set]; exact ey, by rw [hG, flat_set hjx]; simp [AV.cells], by rw [List.length_set]; exact hrl, by rw [List.length_set]; exact hcap, hX5 _ _⟩
      have hjs : ∀ x : AV, i0 < (xs.set i0 x).length := fun x => by rw [List.length_set]; exact hjx
      refine .calls (pick K3 [i3, i5]) [0, 1, 2, 3, 4, 5, 6, 7, 8, 9] pick_sub (by kernel_rfl) rfl ?_
      simp -implicitDefEqProofs only [go_sem, pick_at (show i3 ∈ [i3, i5] by simp), pick_at (show i5 ∈ [i3, i5] by simp), m3, m5]
      refine (mkO e1').idx (U := U) (e := 63) i0 rfl (hjs _) uCase (by decide) ?_
      simp -implicitDefEqProofs only [go_sem, pick_at (show i3 ∈ [i3, i5] by simp), pick_at (show i5 ∈ [i3, i5] by simp), m3, m5]
      have hha := happens_ok (h0 := H) (h := K3) (s := s) z1 z2 z3 z4 (k := id1) (c := ({ s.cases[i0] with state := o.to } : CaseD)) (f := f') (l := l) lA e1' (by decide) ol3 sH3 hfl o.subj o.to
      rw [hpp, hcC] at hha
      simp only [List.cons_append, List.nil_append] at hha
      refine hha.mono fun r K4 ⟨l', ol', e1'', fr4, ap4⟩ => ?_
      have m3' : K4 i3 = _ := (fr4 i3 (by rw [m3]; simp) n13.symm fun e => (nl4 _ e).1 rfl).trans m3
      have m4' : K4 i4 = _ := (fr4 i4 (by rw [m4]; simp) n14.symm fun e => (nl4 _ e).2.1 rfl).trans m4
      have m5' : K4 i5 = _ := (fr4 i5 (by rw [m5]; simp) n15.symm fun e => (nl4 _ e).2.2.1 rfl).trans m5
      refine ⟨pick_to fun k hk => ?_, ?_⟩
      · simp only [List.mem_cons, List.not_mem_nil, or_false] at hk
        rcases hk with rfl | rfl
        · rw [m3', m3]
        · rw [m5', m5]
      simp -implicitDefEqProofs only [go_sem]
      simp -implicitDefEqProofs only [go_sem, m5', m4', w1.rd.fit, w1.rd.cells, w2.rd.fit, w2.rd.cells, w3.rd.fit, w3.rd.cells, w4.rd.fit, w4.rd.cells]
      obtain ⟨K5, eK5⟩ : ∃ K5, upd K4 i4 (some (.obj [.v (.int .i64 s.tick), z1, z2, z3, z4, .s pid, .v (.bool pset), .v (.int .i64 palg), tgtA ptgt, .sl (prules.map ruleA) .no, .sl (pkids.map polA) .no, oblsA pobls, .v (.int .i64 s.version)] 34)) = K5 := ⟨_, rfl⟩
      rw [eK5]
      have o5 : ∀ k, k ≠ i4 → K5 k = K4 k := fun k a => by rw [← eK5, upd_other _ _ a]
      have kk5 : ∀ k, H k = none → H1 k ≠ none → k ≠ id1 → nid f ≠ some k → nid l ≠ some k → K5 k = H1 k := fun k a b c d e => by
        have h3 := kk3 k b c d
        rw [o5 k (hz4 k a), fr4 k (by rw [h3]; exact b) c e, h3]
      have of5 : OwE 84 H K5 4 f' _ := of'.keep fun id e => by
        have h3 := (of'.nid e).2.1
        have n1 : id ≠ id1 := fun e' => by
          rcases ap3 id e with h | h
          · rw [e', hidK] at h; cases h
          · exact (nf4 id h).2.2.2 e'
        have n2 : nid l ≠ some id := fun e' => by
          rcases ap3 id e with h | h
          · have := kK id (ol.nid e').2.1; rw [h] at this; exact (ol.nid e').2.1 this.symm
          · exact hap id h e'
        rw [o5 id (hz4 id (of'.nid e).1), fr4 id h3 n1 n2]
      have ol5 : OwE 119 H K5 3 l' _ := ol'.keep fun id e => o5 id (hz4 id (ol'.nid e).1)
      have sg4 : Ab.Sub g K4 := fun k b hk => by
        have h1 := hH _ _ hk
        rw [fr4 k (by rw [sH3 _ _ h1]; simp) (fun e => by rw [e, hg1] at h1; cases h1) (fun e => by have := (ol.nid e).1; rw [h1] at this; cases this)]
        exact sH3 _ _ h1
      have sg5 : Ab.Sub g K5 := by rw [← eK5]; exact sg4.put h4' _
      have n1' : nid z1 = some id1 := o1.nid
      have hdo : doD parseD s o = { s with cases := s.cases.modify i0 fun c => hapD s { c with state := o.to } o.subj o.to } := by simp [doD, p4, ej]
      refine .mk _ (.refl _) (.refl _) ⟨sg5, storeA (doD parseD s o), ?_, rfl⟩
      rw [hdo]
      refine frz_fin rfl hpp rfl ?_ (((w2.keep fun id e => kk5 id (w2.nid e).1 (w2.nid e).2.1 (fun e1 => a12 id1 n1' (by rw [← e1]; exact e)) (fun e1 => (hys z2 (by simp)).1 id e1 e) (fun e1 => (hys z2 (by simp)).2 id e1 e)).less hH).frz (pureL_map (fun _ => rfl) _)) (((w3.keep fun id e => kk5 id (w3.nid e).1 (w3.nid e).2.1 (fun e1 => a13 id1 n1' (by rw [← e1]; exact e)) (fun e1 => (hys z3 (by simp)).1 id e1 e) (fun e1 => (hys z3 (by simp)).2 id e1 e)).less hH).frz (pureL_map (fun _ => rfl) _)) (((w4.keep fun id e => kk5 id (w4.nid e).1 (w4.nid e).2.1 (fun e1 => a14 id1 n1' (by rw [← e1]; exact e)) (fun e1 => (hys z4 (by simp)).1 id e1 e) (fun e1 => (hys z4 (by simp)).2 id e1 e)).less hH).frz (pureL_map (fun _ => rfl) _))
      exact frz_mod (X := .agg (caseL ({ s.cases[i0] with state := o.to } : CaseD) f' l')) (.inr ⟨id1, hg1, mkO ((o5 id1 n14).trans e1'')⟩) hH hnx hj (fun k h1 h2 hk => hlo k h1 h2 hk) (frz_caseL (c := hapD s { s.cases[i0] with state := o.to } o.subj o.to) of5 ol5 hH)
    have k4' : (o.kind == 4) = false := by simp [p4]
    simp -implicitDefEqProofs only [go_sem, k1, k3', k4']
    have kkK : ∀ k, H k = none → H1 k ≠ none → K k = H1 k := fun k _ b => kK k b
    by_cases p5 : o.kind = 5
    · have k5' : (o.kind == 5) = true := by simp [p5]
      simp -implicitDefEqProofs only [go_sem, k1, k3', k4', k5']
      have hrv : 0 < o.review := by
        simp only [formD, takesD, Bool.and_eq_true] at hform
        simpa [okD, p5] using hform.2.1.2
      obtain ⟨n, en⟩ : ∃ n : Nat, o.review = ((n : Nat) : Int) + 1 := ⟨(o.review - 1).toNat, by omega⟩
      have w5 : IntKind.i64.wrap (o.review - 1) = ((n : Nat) : Int) := by rw [wr64 _ (by have := hr.2; omega)]; omega
      have hn5 : n < s.reviews.length := by
        have : readyCloseD s o = 0 := by simpa [readyD, hform, p5] using p0
        unfold readyCloseD at this
        have e1 : revAt s.reviews o.review = s.reviews[n]? := by unfold revAt; rw [if_pos (by omega), show (o.review - 1).toNat = n by omega]
        rw [e1] at this
        by_cases hlt : n < s.reviews.length
        · exact hlt
        · rw [List.getElem?_eq_none (by omega)] at this; cases this
      have hnm : n < (s.reviews.map revA).length := by simpa using hn5
      obtain ⟨id2, hg2, o2⟩ := w2.ow (by intro e; rw [e] at hnm; cases hnm)
      have o2' := o2
      obtain ⟨cap, rest, ey, hid, hrl, hcap, hsz⟩ := o2'
      have n24 : id2 ≠ i4 := hz4 id2 hg2
      have n25 : id2 ≠ i5 := hz5 id2 hg2 o2.none
      have hidK := sK _ _ hid
      simp -implicitDefEqProofs only [go_sem, k5, k3, w5]
      refine (o2.sub sK).idx (U := U) (e := 105) n rfl hnm (by simp only [go_sem]) (by decide) ?_
      simp -implicitDefEqProofs only [go_sem, k5, k3, w5, hidK]
      have e2 : List.take (n * 7 + 6) (flatA (s.reviews.map revA) ++ rest) ++ [.v (.bool false)] ++ List.drop (n * 7 + 6 + 1) (flatA (s.reviews.map revA) ++ rest) = flatA ((s.reviews.modify n fun r => { r with isOpen := false }).map revA) ++ rest := by
        refine (put_flat hsz n hnm 6 [.v (.bool false)] (Nat.le_of_ble_eq_true rfl)).trans ?_
        congr 2
        refine List.ext_getElem (by simp) fun j h1 h2 => ?_
        by_cases e : j = n
        · subst e; simp [List.getElem_modify, revA, AV.cells, Ab.over]
        · rw [List.getElem_set_ne (Ne.symm e)]; simp [List.getElem_modify, Ne.symm e]
      rw [e2]
      refine ⟨by rw [List.length_append, flatA_length hsz]; omega, ?_⟩
      have k5b : ∀ b, upd K id2 b i5 = _ := fun b => (upd_other _ _ n25.symm).trans k5
      have k4b : ∀ b, upd K id2 b i4 = _ := fun b => (upd_other _ _ n24.symm).trans k4
      simp -implicitDefEqProofs only [go_sem, k5b, k4b, w1.rd.fit, w1.rd.cells, w2.rd.fit, w2.rd.cells, w3.rd.fit, w3.rd.cells, w4.rd.fit, w4.rd.cells]
      have hdo : doD parseD s o = { s with reviews := s.reviews.modify n fun r => { r with isOpen := false } } := by simp [doD, p5, en]
      have kz : ∀ a b k, H k = none → H1 k ≠ none → nid z2 ≠ some k → upd (upd K id2 a) i4 b k = H1 k := fun a b k c d e => by rw [upd_other _ _ (hz4 k c), upd_other _ _ (fun e' => e (by rw [e']; exact o2.nid)), kK k d]
      refine .mk _ (.refl _) (.refl _) ⟨(Sub.put (i := id2) sg (hH.none hg2) _).put h4' _, storeA (doD parseD s o), ?_, rfl⟩
      rw [hdo]
      refine frz_fin rfl hpp rfl ((hC.keepx (z := z2) (by simp) a12 (kz _ _)).frz hH) (OwE.frz (xs := (s.reviews.modify n fun r => { r with isOpen := false }).map revA) (.inr ⟨id2, hH.none hg2, cap, rest, by rw [ey]; simp, by rw [upd_other _ _ n24, upd_same], by rw [hrl]; simp, by simpa using hcap, sized_map (f := revA) (n := 7) (fun _ => rfl) _⟩) (pureL_map (fun _ => rfl) _)) (((w3.keep fun id e => kz _ _ id (w3.nid e).1 (w3.nid e).2.1 fun e1 => a23 id e1 e).less hH).frz (pureL_map (fun _ => rfl) _)) (((w4.keep fun id e => kz _ _ id (w4.nid e).1 (w4.nid e).2.1 fun e1 => a24 id e1 e).less hH).frz (pureL_map (fun _ => rfl) _))
    have k5' : (o.kind == 5) = false := by simp [p5]
    simp -implicitDefEqProofs only [go_sem, k1, k3', k4', k5']
    by_cases p6 : o.kind = 6
    · have k6' : (o.kind == 6) = true := by simp [p6]
      simp -implicitDefEqProofs only [go_sem, k1, k3', k4', k5', k6']
      simp -implicitDefEqProofs only [go_sem, k5, k3]
      have hha6 := has_ok hSK.rd o.case o.field (Nat.le_trans hf.roles (by decide))
      rw [hpp, hcC] at hha6
      simp only [List.cons_append, List.nil_append] at hha6
      refine hha6.pthen ?_
      cases dha : hasD s.roles ⟨o.case, o.field⟩
      · simp -implicitDefEqProofs only [go_sem, dha]
        simp -implicitDefEqProofs only [go_sem, k5, k3]
        have hap1 : Rd K 2 (.sl [roleA ⟨o.case, o.field⟩] .full) [roleA ⟨o.case, o.field⟩] := .sl (by intro z hz; rw [List.mem_singleton.1 hz]; rfl) .full
        have hfr := hf.roles
        refine OwE.app (U := U) (tb := 75) (w4.sub sK) (s1.trans sK) hap1 (by simp only [go_sem]) (by decide) (by simp only [go_sem, ne_eq, not_false_eq_true]) (by simp only [go_sem]) (by simp) (by simp only [go_sem, List.length_cons, List.length_nil, List.length_map]; omega) fun id4 y' K3 g4' hor hw ho2 => ?_
        have hor' : K id4 = none ∨ nid z4 = some id4 := by
          rcases hor with hor | ⟨l, c, ey⟩
          · exact .inl hor
          · exact .inr (by rw [ey]; rfl)
        have n44 : i4 ≠ id4 := fun e => by rw [← e, g4] at g4'; cases g4'
        have n45 : i5 ≠ id4 := fun e => by
          rcases hor' with hor | hor
          · rw [← e, k5] at hor; cases hor
          · exact (w4.nid hor).2.1 (by rw [← e]; exact h5)
        have m4 : K3 i4 = _ := (ho2 i4 n44).trans k4
        have m5 : K3 i5 = _ := (ho2 i5 n45).trans k5
        simp -implicitDefEqProofs only [go_sem, m5, hw.rd.fit, hw.rd.cells]
        simp -implicitDefEqProofs only [go_sem, upd_ne, n54, n54.symm, m4, hw.rd.fit, hw.rd.cells, w1.rd.fit, w1.rd.cells, w2.rd.fit, w2.rd.cells, w3.rd.fit, w3.rd.cells, w4.rd.fit, w4.rd.cells]
        have hdo : doD parseD s o = { s with roles := s.roles ++ [⟨o.case, o.field⟩] } := by simp [doD, p6, dha]
        have gid4 : g id4 = none := hH.none g4'
        have kz : ∀ a b k, H k = none → H1 k ≠ none → nid z4 ≠ some k → upd (upd K3 i5 a) i4 b k = H1 k := fun a b k c d e => by
          have : k ≠ id4 := fun e' => by
            rcases hor' with hor | hor
            · have := kK k d; rw [e', hor] at this; exact d (by rw [e']; exact this.symm)
            · exact e (by rw [e']; exact hor)
          rw [upd_other _ _ (hz4 k c), upd_other _ _ (hz5 k c d), ho2 k this, kK k d]
        have sg3 : Ab.Sub g K3 := fun k b hk => by rw [ho2 k (fun e => by rw [e, gid4] at hk; cases hk)]; exact sg _ _ hk
        refine .mk _ (.refl _) (.refl _) ⟨(sg3.put g5 _).put h4' _, storeA (doD parseD s o), ?_, rfl⟩
        rw [hdo]
        refine frz_fin rfl hpp rfl ((hC.keepx (z := z4) (by simp) a14 (kz _ _)).frz hH) (((w2.keep fun id e => kz _ _ id (w2.nid e).1 (w2.nid e).2.1 fun e1 => a24 id e e1).less hH).frz (pureL_map (fun _ => rfl) _)) (((w3.keep fun id e => kz _ _ id (w3.nid e).1 (w3.nid e).2.1 fun e1 => a34 id e e1).less hH).frz (pureL_map (fun _ => rfl) _)) ?_
        have hw' : OwE 75 g K3 2 y' ((s.roles ++ [(⟨o.case, o.field⟩ : RoleD)]).map roleA) := by rw [List.map_append]; exact .inr ⟨id4, gid4, hw⟩
        refine (hw'.keep fun id e => ?_).frz (pureL_map (fun _ => rfl) _)
        have : id = id4 := by have := hw.nid; rw [e] at this; exact Option.some.inj this
        rw [this, upd_other _ _ n44.symm, upd_other _ _ n45.symm]
      · simp -implicitDefEqProofs only [go_sem, dha]
        simp -implicitDefEqProofs only [go_sem, k5, k4, w1.rd.fit, w1.rd.cells, w2.rd.fit, w2.rd.cells, w3.rd.fit, w3.rd.cells, w4.rd.fit, w4.rd.cells]
        have hdo : doD parseD s o = s := by simp [doD, p6, dha]
        rw [hdo]
        refine .mk _ (.refl _) (.refl _) ⟨sg.put h4' _, _, (hS.keepb fun k hk hk1 => ?_).frz hH, rfl⟩
        rw [upd_other _ _ (hz4 k hk), kK k hk1]
    have k6' : (o.kind == 6) = false := by simp [p6]
    simp -implicitDefEqProofs only [go_sem, k1, k3', k4', k5', k6']
    by_cases p7 : o.kind = 7
    · have k7' : (o.kind == 7) = true := by simp [p7]
      simp -implicitDefEqProofs only [go_sem, k1, k3', k4', k5', k6', k7']
      simp -implicitDefEqProofs only [go_sem, k3]
      refine (parse_ok o.text _ (he.sub sg)).pthen ?_
      obtain ⟨⟨pp, e, a⟩, epp⟩ : ∃ x, parseD o.text = x := ⟨_, rfl⟩
      obtain ⟨qid, qset, qalg, qtgt, qrules, qkids, qobls⟩ := pp
      rw [epp]
      simp -implicitDefEqProofs only [go_sem, parsedA, polA, kidsA_eq]
      intro i9 h9
      have n95 : i5 ≠ i9 := fun e => by rw [← e, k5] at h9; cases h9
      have n94 : i4 ≠ i9 := fun e => by rw [← e, k4] at h9; cases h9
      simp -implicitDefEqProofs only [go_sem]
      have g9 : g i9 = none := sg.none h9
      have sg9 : ∀ b, Ab.Sub g (upd K i9 b) := fun b => sg.put g9 b
      have hz9 : ∀ k, H1 k ≠ none → k ≠ i9 := fun k hk e => hk (by have := kK k hk; rw [e, h9] at this; rw [e]; exact this.symm)
      by_cases pe : e = 0
      · have de : (e == 0) = true := by simp [pe]
        have wv : IntKind.i64.wrap (s.version + 1) = s.version + 1 := wr64 _ (by omega)
        simp -implicitDefEqProofs only [go_sem, de]
        simp -implicitDefEqProofs only [go_sem, upd_ne, n95, n95.symm, n94, n94.symm, n54, n54.symm, k5, k4, wv]
        have hdo : doD parseD s o = { s with policy := .mk qid qset qalg qtgt qrules qkids qobls, version := s.version + 1 } := by simp [doD, p7, epp, pe]
        have kz : ∀ a b c k, H k = none → H1 k ≠ none → upd (upd (upd K i9 a) i5 b) i4 c k = H1 k := fun a b c k d e => by rw [upd_other _ _ (hz4 k d), upd_other _ _ (hz5 k d e), upd_other _ _ (hz9 k e), kK k e]
        refine .mk _ (.refl _) (.refl _) ⟨((sg9 _).put g5 _).put h4' _, storeA (doD parseD s o), ?_, rfl⟩
        rw [hdo]
        exact frz_fin rfl rfl rfl ((hC.keepb (kz _ _ _)).frz hH) (((w2.keepb (kz _ _ _)).less hH).frz (pureL_map (fun _ => rfl) _)) (((w3.keepb (kz _ _ _)).less hH).frz (pureL_map (fun _ => rfl) _)) (((w4.keepb (kz _ _ _)).less hH).frz (pureL_map (fun _ => rfl) _))
      · have de : (e == 0) = false := by simp [pe]
        simp -implicitDefEqProofs only [go_sem, de]
        simp -implicitDefEqProofs only [go_sem, upd_ne, n95, n95.symm, n94, n94.symm, n54, n54.symm, k5, k4, w1.rd.fit, w1.rd.cells, w2.rd.fit, w2.rd.cells, w3.rd.fit, w3.rd.cells, w4.rd.fit, w4.rd.cells]
        have hdo : doD parseD s o = s := by simp [doD, p7, epp, pe]
        rw [hdo]
        refine .mk _ (.refl _) (.refl _) ⟨(sg9 _).put h4' _, _, (hS.keepb fun k hk hk1 => ?_).frz hH, rfl⟩
        rw [upd_other _ _ (hz4 k hk), upd_other _ _ (hz9 k hk1), kK k hk1]
    have k7' : (o.kind == 7) = false := by simp [p7]
    simp -implicitDefEqProofs only [go_sem, k1, k3', k4', k5', k6', k7']
    by_cases p8 : o.kind = 8
    · have k8' : (o.kind == 8) = true := by simp [p8]
      simp -implicitDefEqProofs only [go_sem, k1, k3', k4', k5', k6', k7', k8']
      have hrv : 0 < o.review ∧ o.review ≤ 1099511627776 := by
        simp only [formD, takesD, Bool.and_eq_true] at hform
        simpa [okD, p8] using hform.2.1.2
      have htk : ¬ s.tick > 1099511627776 - o.review := by
        intro hgt
        simp [readyD, hform, p8, hgt] at p0
      have w8 : IntKind.i64.wrap (s.tick + o.review) = s.tick + o.review := wr64 _ (by have := ht.1; omega)
      simp -implicitDefEqProofs only [go_sem, k5, k3, w8]
      simp -implicitDefEqProofs only [go_sem, upd_ne, n54, n54.symm, k4, w1.rd.fit, w1.rd.cells, w2.rd.fit, w2.rd.cells, w3.rd.fit, w3.rd.cells, w4.rd.fit, w4.rd.cells]
      have hdo : doD parseD s o = { s with tick := s.tick + o.review } := by simp [doD, p8]
      have kz : ∀ a b k, H k = none → H1 k ≠ none → upd (upd K i5 a) i4 b k = H1 k := fun a b k c d => by rw [upd_other _ _ (hz4 k c), upd_other _ _ (hz5 k c d), kK k d]
      refine .mk _ (.refl _) (.refl _) ⟨(sg.put g5 _).put h4' _, storeA (doD parseD s o), ?_, rfl⟩
      rw [hdo]
      exact frz_fin rfl hpp rfl ((hC.keepb (kz _ _)).frz hH) (((w2.keepb (kz _ _)).less hH).frz (pureL_map (fun _ => rfl) _)) (((w3.keepb (kz _ _)).less hH).frz (pureL_map (fun _ => rfl) _)) (((w4.keepb (kz _ _)).less hH).frz (pureL_map (fun _ => rfl) _))
    have k8' : (o.kind == 8) = false := by simp [p8]
    simp -implicitDefEqProofs only [go_sem, k1, k3', k4', k5', k6', k7', k8']
    simp -implicitDefEqProofs only [go_sem, k5, k4, w1.rd.fit, w1.rd.cells, w2.rd.fit, w2.rd.cells, w3.rd.fit, w3.rd.cells, w4.rd.fit, w4.rd.cells]
    have hdo : doD parseD s o = s := by simp [doD, p1, p3, p4, p5, p6, p7, p8]
    rw [hdo]
    refine .mk _ (.refl _) (.refl _) ⟨sg.put h4' _, _, (hS.keepb fun k hk hk1 => ?_).frz hH, rfl⟩
    rw [upd_other _ _ (hz4 k hk), kK k hk1]
  · have d0 : (readyD s o != 0) = true := by simp [p0]
    simp -implicitDefEqProofs only [go_sem, d0]
    simp -implicitDefEqProofs only [go_sem, k5, k4, w1.rd.fit, w1.rd.cells, w2.rd.fit, w2.rd.cells, w3.rd.fit, w3.rd.cells, w4.rd.fit, w4.rd.cells]
    have hdone : doneD parseD s o = s := by simp [doneD, p0]
    rw [hdone]
    refine .mk _ (.refl _) (.refl _) ⟨sg.put h4' _, _, (hS.keepb fun k hk hk1 => ?_).frz hH, rfl⟩
    rw [upd_other _ _ (hz4 k hk), kK k hk1]
end Go.Proofs.YtnhelgnmadbpgaaGreatDoor

set_option linter.unusedSimpArgs false
set_option linter.unusedVariables false
namespace Go.Bf
def leastT : Txt := [112, 111, 108, 105, 99, 121, 32, 111, 112, 101, 110, 32, 112, 101, 114, 109, 105, 116, 117, 110, 108, 101, 115, 115, 32, 123, 32, 125]
def leastP : PolD := .mk openT false 6 [] [] [] []
def newD : StoreD := ⟨0, [], [], [], [], leastP, 0⟩
end Go.Bf
namespace Go.Proofs.YtnhelgnmadbpgaaGreatDoor
open Go Go.Ab Go.Bf
theorem upd_comm' {H : Heap} {i j : Nat} {a b : Option Blk} (c : Option Blk) (h : i ≠ j) : upd (upd (upd H i a) j b) i c = upd (upd H i c) j b := by
  funext k
  by_cases e : k = i
  · rw [e, upd_same, upd_other _ _ h, upd_same]
  · rw [upd_other _ _ e]
    by_cases e2 : k = j
    · rw [e2, upd_same, upd_same]
    · rw [upd_other _ _ e2, upd_other _ _ e2, upd_other _ _ e, upd_other _ _ e]
theorem least_is : parseD leastT = (leastP, 0, 0) := by kernel_rfl
theorem least_polE : polE 1 leastP := by
  unfold leastP polE
  exact ⟨by decide, by decide, by decide, by decide, fun h => (by cases h), fun _ => ⟨rfl, by decide⟩, rfl, rfl, by decide, by decide, fun r hr => (by cases hr), trivial⟩
theorem few_new : Few newD := ⟨by decide, fun c hc => (by cases hc), fun c hc => (by cases hc), by decide, by decide, by decide⟩
theorem new_ok (h : Heap) (he : ErrT h) : FnOK Tryz.prog 13 [] h fun r h' => r = storeA newD ∧ h' = h :=
  FnOK.freeze fun g hg _ => by
  replace he := he.sub hg
  refine FnOK.body hU hm Tryz.func13 rfl (by kernel_rfl) 11 rfl [.cell 0 34] rfl (Nat.le_of_ble_eq_true rfl) (fun hwf => ?_)
  simp -implicitDefEqProofs only [go_sem]
  intro i1 h1
  simp -implicitDefEqProofs only [go_sem]
  refine (parse_ok leastT _ (he.sub (.upd_new h1))).pthen ?_
  rw [least_is]
  simp -implicitDefEqProofs only [go_sem, parsedA, leastP, polA, tgtA, oblsA, kidsA, openT, List.map_nil]
  intro i2 h2
  have n21 := ne_upd h2
  have n2 := upd_none h2
  simp -implicitDefEqProofs only [go_sem, upd_ne, n21, n21.symm]
  refine .mk _ (.refl _) (.refl _) ⟨?_, storeA newD, frz_fin (S := newD) rfl rfl rfl frz_empty frz_empty frz_empty frz_empty, rfl⟩
  rw [upd_comm' _ n21.symm]
  exact ((Sub.refl g).put h1 _).put n2 _
theorem id_ok (s : Txt) (h : Heap) : FnOK Tryz.prog 50 [.s s] h fun r h' => r = valA (idV s) ∧ h' = h := by
  refine FnOK.body hU hm Tryz.func50 rfl (by kernel_rfl) 5 rfl [.cell 2 38] rfl (Nat.le_of_ble_eq_true rfl) (fun hwf => ?_)
  simp -implicitDefEqProofs only [go_sem]
  intro i1 h1
  simp -implicitDefEqProofs only [go_sem]
  exact .mk _ (.refl _) (.upd_new h1) ⟨rfl, rfl⟩
theorem given_ok (cat : Int) (name : Txt) (xs : List AV) (q : Perm) (h : Heap) : FnOK Tryz.prog 51 [.v (.int .i64 cat), .s name, .sl xs q] h fun r h' => r = .agg [.v (.int .i64 cat), .s name, .sl xs q] ∧ h' = h := by
  refine FnOK.body hU hm Tryz.func51 rfl (by kernel_rfl) 11 rfl [.cell 6 43] rfl (Nat.le_of_ble_eq_true rfl) (fun hwf => ?_)
  simp -implicitDefEqProofs only [go_sem]
  intro i1 h1
  simp -implicitDefEqProofs only [go_sem]
  exact .mk _ (.refl _) (.upd_new h1) ⟨rfl, rfl⟩
theorem lgiven_ok (cat : Int) (name : Txt) (k n : Int) (s : Txt) (h : Heap) : FnOK Tryz.prog 15 [.v (.int .i64 cat), .s name, .v (.int .i64 k), .v (.int .i64 n), .s s] h fun r h' => r = .agg [.v (.int .i64 cat), .s name, .sl [valA ⟨k, n, s⟩] .full] ∧ h' = h := by
  refine FnOK.body hU hm Tryz.func15 rfl (by kernel_rfl) 19 rfl [.cell 10 43] rfl (Nat.le_of_ble_eq_true rfl) (fun hwf => ?_)
  simp -implicitDefEqProofs only [go_sem]
  intro i1 h1
  simp -implicitDefEqProofs only [go_sem]
  exact .mk _ (.refl _) (.upd_new h1) ⟨rfl, rfl⟩
theorem ixHap_ok {α : Type} (y : AV) (xs : List AV) (ds : List α) (q : α → Bool) (g : FuncId) (cap : List AV) (h : Heap) (hb : Rd h 3 y xs) (hn : xs.length = ds.length) (hl : xs.length ≤ 1000000000) (hx : ∀ x ∈ xs, isAggA x = true)
    (hp : ∀ i (h1 : i < xs.length) (h2 : i < ds.length), FnOK Tryz.prog g (xs[i] :: cap) h fun r h' => r = .v (.bool (q ds[i])) ∧ h' = h) :
    FnOK Tryz.prog 166 [y, .fn g cap] h fun r h' => r = .v (.int .i64 (ixD q ds)) ∧ h' = h := by
  refine FnOK.body hU hm Tryz.func166 rfl (by kernel_rfl) 19 rfl [.tmp 4] rfl (Nat.le_of_ble_eq_true rfl) (fun hwf => ?_)
  simp -implicitDefEqProofs only [go_sem, hb.len]
  refine .intro (fun m ρ h' => h' = h ∧ ∃ i : Nat, i ≤ xs.length ∧ m = xs.length - i ∧ (∀ j (hj : j < i) (h2 : j < ds.length), q ds[j] = false) ∧ lk ρ 0 = some y ∧ lk ρ 1 = some (.fn g cap) ∧ lk ρ 7 = some (.v (.int .i64 xs.length)) ∧ lk ρ 8 = some (.v (.int .i64 i))) xs.length ?_ ?_
  · refine ⟨rfl, 0, by omega, rfl, fun j hj => (by omega), ?_, ?_, ?_, ?_⟩ <;> simp -implicitDefEqProofs only [go_sem]
  · rintro m ρ h' ⟨rfl, i, hi, rfl, hc, r0, r1, r7, r8⟩
    simp -implicitDefEqProofs only [go_sem, r0, r1, r7, r8]
    refine .intro (fun e => ?_) (fun e => ?_)
    · have hlt : i < xs.length := Int.ofNat_lt.1 (of_decide_eq_true e)
      have hlt2 : i < ds.length := by omega
      have w1 : IntKind.i64.wrap ((i : Int) + 1) = ((i + 1 : Nat) : Int) := by rw [wr64 _ (by omega)]; omega
      simp -implicitDefEqProofs only [go_sem, r0, r1, r7, r8]
      refine hb.idx (e := 119) i rfl hlt (by simp only [go_sem]) (by decide) fun p hp1 => ?_
      have hld := hp1.all (U := U) (ty := 119) (by simp only [go_sem]) (by simp only [go_sem]; exact hb.1 _ (List.getElem_mem hlt)) (by simp only [go_sem]; rw [hx _ (List.getElem_mem hlt)])
      simp -implicitDefEqProofs only [go_sem, r0, r1, r7, r8, hld]
      refine (show FnOK Tryz.prog g (xs[i] :: cap) _ _ from hp i hlt hlt2).pthen ?_
      cases d1 : q ds[i]
      · simp -implicitDefEqProofs only [go_sem, r0, r1, r7, r8, w1]
        refine ⟨_, ?_, rfl, i + 1, by omega, rfl, fun j hj h2 => ?_, ?_, ?_, ?_, ?_⟩
        · omega
        · by_cases hji : j = i
          · subst hji; exact d1
          · exact hc j (by omega) h2
        all_goals simp -implicitDefEqProofs only [go_sem, r0, r1, r7, r8, w1]
      · simp -implicitDefEqProofs only [go_sem, r0, r1, r7, r8]
        exact .same (.refl _) ⟨by rw [ixD_at hlt2 d1 fun j hj => hc j hj (by omega)]; rfl, rfl⟩
    · have hge : i = xs.length := by have := of_decide_eq_false e; omega
      simp -implicitDefEqProofs only [go_sem, r0, r1, r7, r8]
      exact .same (.refl _) ⟨by rw [ixD_none fun j hj => hc j (by omega) hj]; rfl, rfl⟩
theorem took1_ok {h : Heap} (x : HapD) {k : Nat} {subj : Txt} (hk : h k = some (.obj [.s subj] 9)) : FnOK Tryz.prog 132 [hapA x, .ptr k 0] h fun r h' => r = .v (.bool (x.actor == subj)) ∧ h' = h := by
  refine FnOK.body hU hm Tryz.func132 rfl (by kernel_rfl) 8 rfl [.tmp 3] rfl (Nat.le_of_ble_eq_true rfl) (fun hwf => ?_)
  simp -implicitDefEqProofs only [go_sem, hapA]
  intro i1 h1
  have n1 : k ≠ i1 := fun e => by subst e; rw [hk] at h1; cases h1
  simp -implicitDefEqProofs only [go_sem, upd_ne, n1, n1.symm, hk]
  exact .mk _ (.refl _) (.upd_new h1) ⟨rfl, rfl⟩
theorem any_ix {α : Type} (q : α → Bool) (l : List α) : decide ((0 : Int) ≤ ixD q l) = l.any q := by
  unfold ixD
  by_cases h : l.findIdx q < l.length
  · rw [if_pos h, decide_eq_true (by omega)]
    exact (List.any_eq_true.2 ⟨_, List.getElem_mem h, List.findIdx_getElem (w := h)⟩).symm
  · rw [if_neg h]
    have e : l.findIdx q = l.length := by
      have : l.findIdx q ≤ l.length := List.findIdx_le_length
      omega
    have := List.findIdx_eq_length.1 e
    rw [decide_eq_false (by decide)]
    exact (List.any_eq_false.2 fun x hx => by rw [this x hx]; decide).symm
theorem hasHap_ok (y : AV) (ds : List HapD) (q : HapD → Bool) (g : FuncId) (cap : List AV) (h : Heap) (hb : Rd h 3 y (ds.map hapA)) (hl : ds.length ≤ 1000000000)
    (hp : ∀ i (h2 : i < ds.length), FnOK Tryz.prog g (hapA ds[i] :: cap) h fun r h' => r = .v (.bool (q ds[i])) ∧ h' = h) :
    FnOK Tryz.prog 131 [y, .fn g cap] h fun r h' => r = .v (.bool (ds.any q)) ∧ h' = h := by
  refine FnOK.body hU hm Tryz.func131 rfl (by kernel_rfl) 9 rfl [.tmp 4] rfl (Nat.le_of_ble_eq_true rfl) (fun hwf => ?_)
  simp -implicitDefEqProofs only [go_sem]
  refine (ixHap_ok y _ ds q g cap h hb (by simp) (by simpa using hl) (agg_map (fun _ => rfl) _) fun i a b => by rw [List.getElem_map]; exact hp i b).pthen ?_
  simp -implicitDefEqProofs only [go_sem, any_ix]
  exact .same (.refl _) ⟨rfl, rfl⟩
theorem took_ok {h : Heap} {x : AV} {c : CaseD} (hb : RdC h x c) (subj : Txt) (hl : c.log.length ≤ 1000000000) : FnOK Tryz.prog 97 [x, .s subj] h fun r h' => r = valA (tookD c.log subj) ∧ h' = h := by
  obtain ⟨f, l, rfl, hf, hlg⟩ := hb
  refine FnOK.body hU hm Tryz.func97 rfl (by kernel_rfl) 13 rfl [.cell 4 38] rfl (Nat.le_of_ble_eq_true rfl) (fun hwf => ?_)
  simp -implicitDefEqProofs only [go_sem]
  intro i1 h1
  simp -implicitDefEqProofs only [go_sem]
  intro i2 h2
  have n21 := ne_upd h2
  have n2 := upd_none h2
  simp -implicitDefEqProofs only [go_sem, upd_ne, n21, n21.symm]
  intro i3 h3
  have n32 := ne_upd h3
  have h3' := upd_none h3
  have n31 := ne_upd h3'
  have n3 := upd_none h3'
  simp -implicitDefEqProofs only [go_sem, upd_ne, n21, n21.symm, n31, n31.symm, n32, n32.symm]
  intro i4 h4
  have n43 := ne_upd h4
  have h4' := upd_none h4
  have n42 := ne_upd h4'
  have h4'' := upd_none h4'
  have n41 := ne_upd h4''
  have n4 := upd_none h4''
  have hs : ∀ a b d e, Ab.Sub h (upd (upd (upd (upd h i1 a) i2 b) i3 d) i4 e) := fun a b d e => ((((Sub.refl h).put h1 a).put n2 b).put n3 d).put n4 e
  simp -implicitDefEqProofs only [go_sem, upd_ne, n21, n21.symm, n31, n31.symm, n32, n32.symm, n41, n41.symm, n42, n42.symm, n43, n43.symm]
  refine (hasHap_ok l c.log (fun x => x.actor == subj) _ [.ptr i2 0] _ (hlg.sub (hs _ _ _ _)) hl fun i b => took1_ok _ (by simp only [upd_ne, n42.symm, n32.symm, upd_same', not_false_eq_true])).pthen ?_
  cases d1 : c.log.any fun x => x.actor == subj
  · simp -implicitDefEqProofs only [go_sem, upd_ne, n21, n21.symm, n31, n31.symm, n32, n32.symm, n41, n41.symm, n42, n42.symm, n43, n43.symm, d1]
    exact .mk _ (.refl _) (by repeat' first | exact .refl _ | (refine Sub.put ?_ (by assumption) _)) ⟨by simp [tookD, d1, valA, oneOr], rfl⟩
  · simp -implicitDefEqProofs only [go_sem, upd_ne, n21, n21.symm, n31, n31.symm, n32, n32.symm, n41, n41.symm, n42, n42.symm, n43, n43.symm, d1]
    exact .mk _ (.refl _) (by repeat' first | exact .refl _ | (refine Sub.put ?_ (by assumption) _)) ⟨by simp [tookD, d1, valA, oneOr], rfl⟩
end Go.Proofs.YtnhelgnmadbpgaaGreatDoor

set_option linter.unusedSimpArgs false
set_option linter.unusedVariables false
namespace Go.Proofs.YtnhelgnmadbpgaaGreatDoor
open Go Go.Ab Go.Bf
def givQ (g : GivD) (q : Perm) : AV := .agg [.v (.int .i64 g.cat), .s g.name, .sl (g.bag.map valA) q]
def GRow (ys : List AV) (gs : List GivD) : Prop := ys.length = gs.length ∧ ∀ j (h1 : j < ys.length) (h2 : j < gs.length), ∃ q, ys[j] = givQ gs[j] q
theorem GRow.sized {ys : List AV} {gs : List GivD} (h : GRow ys gs) : Sized 3 ys := fun z hz => by
  obtain ⟨i, hi, rfl⟩ := List.mem_iff_getElem.1 hz
  obtain ⟨q, e⟩ := h.2 i hi (by rw [← h.1]; exact hi)
  rw [e]; rfl
theorem GRow.nil : GRow [] [] := ⟨rfl, fun j h => by cases h⟩
theorem GRow.one (g : GivD) (q : Perm) : GRow [givQ g q] [g] := ⟨rfl, fun j h1 h2 => by
  obtain rfl : j = 0 := by simpa using h1
  exact ⟨q, rfl⟩⟩
theorem GRow.app {ys zs : List AV} {gs ks : List GivD} (h : GRow ys gs) (k : GRow zs ks) : GRow (ys ++ zs) (gs ++ ks) := ⟨by simp [h.1, k.1], fun j h1 h2 => by
  have hl := h.1
  by_cases e : j < ys.length
  · rw [List.getElem_append_left e, List.getElem_append_left (by omega)]; exact h.2 j e (by omega)
  · rw [List.getElem_append_right (by omega), List.getElem_append_right (by omega)]
    simp only [List.length_append] at h1 h2
    obtain ⟨q, e'⟩ := k.2 (j - ys.length) (by omega) (by omega)
    exact ⟨q, by rw [e']; simp only [hl]⟩⟩
theorem GRow.weak {ys : List AV} {gs : List GivD} (h : GRow ys gs) (q : Perm) : Weak (.sl ys q) (givsA gs) := by
  refine .deep _ _ q (by simp [h.1]) (fun k h1 h2 => ?_) fun k h1 h2 j h3 h4 => ?_
  · obtain ⟨q', e'⟩ := h.2 k h1 (by rw [← h.1]; exact h1)
    rw [e', List.getElem_map]; rfl
  · obtain ⟨q', e'⟩ := h.2 k h1 (by rw [← h.1]; exact h1)
    simp only [e', List.getElem_map]
    simp only [e', givQ, AV.cells] at h3
    simp only [givQ, givA, AV.cells]
    rcases j with _ | _ | _ | j
    · exact .refl _
    · exact .refl _
    · exact .sl _ _
    · simp at h3; omega
theorem GRow.givs (gs : List GivD) : GRow (gs.map givA) gs := ⟨by simp, fun j h1 h2 => ⟨.no, by rw [List.getElem_map]; rfl⟩⟩
theorem uGiven : (U 43).sz = 3 := by simp only [go_sem]
theorem sized_one (g : GivD) (q : Perm) : Sized 3 [givQ g q] := fun z hz => by rw [List.mem_singleton.1 hz]; rfl
def headGs (c : CaseD) (subj : Txt) : List GivD := [⟨3, idT, [idV c.id]⟩, ⟨3, [111, 119, 110, 101, 114], [idV c.owner]⟩, ⟨3, [115, 116, 97, 116, 101], [idV c.state]⟩, ⟨3, [101, 118, 101, 110, 116, 115], [⟨2, c.log.length, []⟩]⟩, ⟨3, [116, 111, 111, 107], [tookD c.log subj]⟩]
def lastGs (c : CaseD) : List GivD := match c.log.getLast? with
  | some x => [⟨3, [108, 97, 115, 116], [idV x.actor]⟩]
  | none => []
def fieldGs (l : List FieldD) : List GivD := (l.filter fun f => decide (f.name.length ≤ 14)).map fun f => ⟨3, [102, 95] ++ f.name, [f.val]⟩
theorem fieldGs_succ (l : List FieldD) (i : Nat) (h : i < l.length) : fieldGs (l.take (i + 1)) = fieldGs (l.take i) ++ (if l[i].name.length ≤ 14 then [⟨3, [102, 95] ++ l[i].name, [l[i].val]⟩] else []) := by
  unfold fieldGs
  rw [List.take_succ_eq_append_getElem h, List.filter_append, List.map_append]
  congr 1
  by_cases hh : l[i].name.length ≤ 14 <;> simp [hh]
theorem askCaseD_eq (c : CaseD) (subj : Txt) : askCaseD c subj = headGs c subj ++ lastGs c ++ fieldGs c.fields := rfl
set_option maxRecDepth 100000 in
theorem askCase_ok {h : Heap} (c : CaseD) (subj : Txt) (hl : c.log.length ≤ 1000000) (hlf : c.fields.length ≤ 1000000) : FnOK Tryz.prog 52 [caseA c, .s subj] h fun r h' => r = givsA (askCaseD c subj) ∧ h' = h := by
  refine FnOK.body hU hm Tryz.func52 rfl (by kernel_rfl) 77 rfl [.tmp 4] rfl (Nat.le_of_ble_eq_true rfl) (fun hwf => ?_)
  simp -implicitDefEqProofs only [go_sem, caseA, caseC, fieldsA, logA]
  intro i1 h1
  simp -implicitDefEqProofs only [go_sem]
  refine .quiet (by kernel_rfl) ?_
  simp -implicitDefEqProofs only [go_sem]
  refine ⟨_, id_ok _ _, ?_⟩
  simp -implicitDefEqProofs only [go_sem, valA, idV]
  refine ⟨_, given_ok _ _ _ _ _, ?_⟩
  simp -implicitDefEqProofs only [go_sem, valA, idV]
  refine ⟨_, id_ok _ _, ?_⟩
  simp -implicitDefEqProofs only [go_sem, valA, idV]
  refine ⟨_, given_ok _ _ _ _ _, ?_⟩
  simp -implicitDefEqProofs only [go_sem, valA, idV]
  refine ⟨_, id_ok _ _, ?_⟩
  simp -implicitDefEqProofs only [go_sem, valA, idV]
  refine ⟨_, given_ok _ _ _ _ _, ?_⟩
  simp -implicitDefEqProofs only [go_sem, valA, idV]
  refine ⟨_, given_ok _ _ _ _ _, ?_⟩
  simp -implicitDefEqProofs only [go_sem, valA, idV]
  refine ⟨_, took_ok (show RdC _ (.agg [.s c.id, .s c.owner, .s c.state, .sl (c.fields.map fieldA) .no, .sl (c.log.map hapA) .no]) c from rdC _ c) subj (by omega), ?_⟩
  simp -implicitDefEqProofs only [go_sem, valA]
  refine ⟨_, given_ok _ _ _ _ _, ?_⟩
  simp -implicitDefEqProofs only [go_sem, valA, List.length_map]
  have hs1 : ∀ b, Ab.Sub h (upd h i1 b) := fun b => (Sub.refl h).put h1 b
  have hrow5 : GRow [.agg [.v (.int .i64 3), .s [105, 100], .sl [.agg [.v (.int .i64 5), .v (.int .i64 0), .s c.id]] .full], .agg [.v (.int .i64 3), .s [111, 119, 110, 101, 114], .sl [.agg [.v (.int .i64 5), .v (.int .i64 0), .s c.owner]] .full], .agg [.v (.int .i64 3), .s [115, 116, 97, 116, 101], .sl [.agg [.v (.int .i64 5), .v (.int .i64 0), .s c.state]] .full], .agg [.v (.int .i64 3), .s [101, 118, 101, 110, 116, 115], .sl [.agg [.v (.int .i64 2), .v (.int .i64 c.log.length), .s []]] .full], .agg [.v (.int .i64 3), .s [116, 111, 111, 107], .sl [valA (tookD c.log subj)] .full]] (headGs c subj) := (GRow.one ⟨3, idT, [idV c.id]⟩ .full).app ((GRow.one ⟨3, [111, 119, 110, 101, 114], [idV c.owner]⟩ .full).app ((GRow.one ⟨3, [115, 116, 97, 116, 101], [idV c.state]⟩ .full).app ((GRow.one ⟨3, [101, 118, 101, 110, 116, 115], [⟨2, c.log.length, []⟩]⟩ .full).app (GRow.one ⟨3, [116, 111, 111, 107], [tookD c.log subj]⟩ .full))))
  simp only [valA] at hrow5
  cases d1 : decide ((0 : Int) < (c.log.length : Int))
  · have hl0 : c.log = [] := List.length_eq_zero_iff.1 (by have := of_decide_eq_false d1; omega)
    simp -implicitDefEqProofs only [go_sem, d1]
    simp -implicitDefEqProofs only [go_sem, List.length_map]
    refine .intro (fun m ρ H => ∃ (i : Nat) (y : AV) (ys : List AV), Acc U 43 h H y ys ∧ H i1 = some (.obj [.s c.id, .s c.owner, .s c.state, .sl (c.fields.map fieldA) .no, .sl (c.log.map hapA) .no] 63) ∧ GRow ys (headGs c subj ++ fieldGs (c.fields.take i)) ∧ i ≤ c.fields.length ∧ m = c.fields.length - i ∧ lk ρ 5 = some y ∧ lk ρ 2 = some (.ptr i1 0) ∧ lk ρ 55 = some (.sl (c.fields.map fieldA) .no) ∧ lk ρ 56 = some (.v (.int .i64 c.fields.length)) ∧ lk ρ 57 = some (.v (.int .i64 i))) c.fields.length ?_ ?_
    · refine ⟨0, _, _, .full (hs1 _), upd_same .., (by have := hrow5; simpa [fieldGs] using this), by omega, rfl, ?_, ?_, ?_, ?_, ?_⟩ <;> simp -implicitDefEqProofs only [go_sem]
    · rintro m ρ H ⟨i, y, ys, hy, g1, hrow, hi, rfl, r5, r2, r55, r56, r57⟩
      simp -implicitDefEqProofs only [go_sem, r5, r2, r55, r56, r57]
      refine .intro (fun e => ?_) (fun e => ?_)
      · have hlt : i < c.fields.length := Int.ofNat_lt.1 (of_decide_eq_true e)
        have w1 : IntKind.i64.wrap ((i : Int) + 1) = ((i + 1 : Nat) : Int) := by rw [wr64 _ (by omega)]; omega
        simp -implicitDefEqProofs only [go_sem, r5, r2, r55, r56, r57]
        refine .at i (by simpa using hlt) (by rw [List.getElem_map]; rfl) ?_
        simp -implicitDefEqProofs only [go_sem, r5, r2, r55, r56, r57, List.getElem_map, fieldA]
        intro i8 h8
        have n81 : i1 ≠ i8 := fun e => by rw [← e, g1] at h8; cases h8
        simp -implicitDefEqProofs only [go_sem, upd_ne, n81, n81.symm, r5, r2, r55, r56, r57]
        cases d2 : decide ((c.fields[i].name.length : Int) ≤ 14)
        · simp -implicitDefEqProofs only [go_sem, upd_ne, n81, n81.symm, r5, r2, r55, r56, r57, d2, w1]
          have hskip : fieldGs (c.fields.take (i + 1)) = fieldGs (c.fields.take i) := by
            have : ¬ c.fields[i].name.length ≤ 14 := by have := of_decide_eq_false d2; omega
            rw [fieldGs_succ _ _ hlt, if_neg this, List.append_nil]
          refine ⟨_, ?_, i + 1, y, ys, hy.sub (.upd_new h8), (upd_other _ _ n81).trans g1, by rw [hskip]; exact hrow, by omega, rfl, ?_, ?_, ?_, ?_, ?_⟩
          · omega
          all_goals simp -implicitDefEqProofs only [go_sem, r5, r2, r55, r56, r57, w1]
        · simp -implicitDefEqProofs only [go_sem, upd_ne, n81, n81.symm, r5, r2, r55, r56, r57, d2, w1]
          have h14 : c.fields[i].name.length ≤ 14 := by have := of_decide_eq_true d2; omega
          refine ⟨by have : (1000 : Nat) < lim := (by decide); omega, ?_⟩
          refine (given_ok _ _ _ _ _).pthen ?_
          simp -implicitDefEqProofs only [go_sem, upd_ne, n81, n81.symm, r5, r2, r55, r56, r57, d2, w1]
          refine (hy.sub (.upd_new h8)).app (zs := [givQ ⟨3, [102, 95] ++ c.fields[i].name, [c.fields[i].val]⟩ .full]) (by rw [uGiven]; decide) (by simp only [go_sem, ne_eq, not_false_eq_true]) (fun k hk => (Rd.sl (sized_one _ _) .full : Rd _ 3 _ _).src uGiven hk) (by rw [uGiven]; exact hrow.sized) (by rw [uGiven]; exact sized_one _ _) (by
            have hln : (fieldGs (c.fields.take i)).length ≤ i := by unfold fieldGs; rw [List.length_map]; exact Nat.le_trans (List.length_filter_le _ _) (by rw [List.length_take]; omega)
            simp only [go_sem, hrow.1, List.length_cons, List.length_nil, List.length_append, headGs]; omega) fun y' H' hy' kp => ?_
          simp -implicitDefEqProofs only [go_sem, upd_ne, n81, n81.symm, r5, r2, r55, r56, r57, d2, w1]
          refine ⟨_, ?_, i + 1, y', _, hy', kp _ _ _ ((upd_other _ _ n81).trans g1), by rw [fieldGs_succ _ _ hlt, if_pos h14, ← List.append_assoc]; exact hrow.app (GRow.one _ _), by omega, rfl, ?_, ?_, ?_, ?_, ?_⟩
          · omega
          all_goals simp -implicitDefEqProofs only [go_sem, r5, r2, r55, r56, r57, w1]
      · have hge : i = c.fields.length := by have := of_decide_eq_false e; omega
        subst hge
        rw [List.take_length] at hrow
        obtain ⟨q, rfl⟩ := hy.row
        simp -implicitDefEqProofs only [go_sem, r5, r2, r55, r56, r57]
        exact .mk (givsA (askCaseD c subj)) (show Weak (.sl ys q) _ by rw [askCaseD_eq, lastGs, hl0]; simpa using hrow.weak q) hy.1 ⟨rfl, rfl⟩
  · have hl1 : 0 < c.log.length := by have := of_decide_eq_true d1; omega
    simp -implicitDefEqProofs only [go_sem, d1]
    have w0 : IntKind.i64.wrap ((c.log.length : Int) - 1) = ((c.log.length - 1 : Nat) : Int) := by rw [wr64 _ (by omega)]; omega
    simp -implicitDefEqProofs only [go_sem, w0]
    refine .at (c.log.length - 1) (by simp; omega) (by rw [List.getElem_map]; rfl) ?_
    simp -implicitDefEqProofs only [go_sem, List.getElem_map, hapA]
    rw [if_neg (fun hh => hh.1)]
    refine (id_ok _ _).pthen ?_
    simp -implicitDefEqProofs only [go_sem, valA, idV]
    refine (given_ok _ _ _ _ _).pthen ?_
    simp -implicitDefEqProofs only [go_sem, valA, idV]
    have hgl : c.log.getLast? = some c.log[c.log.length - 1] := by rw [List.getLast?_eq_getElem?, List.getElem?_eq_getElem (by omega)]
    have hlast : GRow [.agg [.v (.int .i64 3), .s [108, 97, 115, 116], .sl [.agg [.v (.int .i64 5), .v (.int .i64 0), .s c.log[c.log.length - 1].actor]] .full]] (lastGs c) := by
      unfold lastGs
      rw [hgl]
      exact GRow.one ⟨3, [108, 97, 115, 116], [idV c.log[c.log.length - 1].actor]⟩ .full
    refine .accs (hs1 _) fun y0 H0 hy0 kp0 => ?_
    simp -implicitDefEqProofs only [go_sem, kp0 _ _ _ (upd_same ..), List.length_map]
    refine .intro (fun m ρ H => ∃ (i : Nat) (y : AV) (ys : List AV), Acc U 43 h H y ys ∧ H i1 = some (.obj [.s c.id, .s c.owner, .s c.state, .sl (c.fields.map fieldA) .no, .sl (c.log.map hapA) .no] 63) ∧ GRow ys ((headGs c subj ++ lastGs c) ++ fieldGs (c.fields.take i)) ∧ i ≤ c.fields.length ∧ m = c.fields.length - i ∧ lk ρ 5 = some y ∧ lk ρ 2 = some (.ptr i1 0) ∧ lk ρ 55 = some (.sl (c.fields.map fieldA) .no) ∧ lk ρ 56 = some (.v (.int .i64 c.fields.length)) ∧ lk ρ 57 = some (.v (.int .i64 i))) c.fields.length ?_ ?_
    · refine ⟨0, _, _, hy0, kp0 _ _ _ (upd_same ..), (by have := hrow5.app hlast; simpa [fieldGs] using this), by omega, rfl, ?_, ?_, ?_, ?_, ?_⟩ <;> simp -implicitDefEqProofs only [go_sem]
    · rintro m ρ H ⟨i, y, ys, hy, g1, hrow, hi, rfl, r5, r2, r55, r56, r57⟩
      simp -implicitDefEqProofs only [go_sem, r5, r2, r55, r56, r57]
      refine .intro (fun e => ?_) (fun e => ?_)
      · have hlt : i < c.fields.length := Int.ofNat_lt.1 (of_decide_eq_true e)
        have w1 : IntKind.i64.wrap ((i : Int) + 1) = ((i + 1 : Nat) : Int) := by rw [wr64 _ (by omega)]; omega
        simp -implicitDefEqProofs only [go_sem, r5, r2, r55, r56, r57]
        refine .at i (by simpa using hlt) (by rw [List.getElem_map]; rfl) ?_
        simp -implicitDefEqProofs only [go_sem, r5, r2, r55, r56, r57, List.getElem_map, fieldA]
        intro i8 h8
        have n81 : i1 ≠ i8 := fun e => by rw [← e, g1] at h8; cases h8
        simp -implicitDefEqProofs only [go_sem, upd_ne, n81, n81.symm, r5, r2, r55, r56, r57]
        cases d2 : decide ((c.fields[i].name.length : Int) ≤ 14)
        · simp -implicitDefEqProofs only [go_sem, upd_ne, n81, n81.symm, r5, r2, r55, r56, r57, d2, w1]
          have hskip : fieldGs (c.fields.take (i + 1)) = fieldGs (c.fields.take i) := by
            have : ¬ c.fields[i].name.length ≤ 14 := by have := of_decide_eq_false d2; omega
            rw [fieldGs_succ _ _ hlt, if_neg this, List.append_nil]
          refine ⟨_, ?_, i + 1, y, ys, hy.sub (.upd_new h8), (upd_other _ _ n81).trans g1, by rw [hskip]; exact hrow, by omega, rfl, ?_, ?_, ?_, ?_, ?_⟩
          · omega
          all_goals simp -implicitDefEqProofs only [go_sem, r5, r2, r55, r56, r57, w1]
        · simp -implicitDefEqProofs only [go_sem, upd_ne, n81, n81.symm, r5, r2, r55, r56, r57, d2, w1]
          have h14 : c.fields[i].name.length ≤ 14 := by have := of_decide_eq_true d2; omega
          refine ⟨by have : (1000 : Nat) < lim := (by decide); omega, ?_⟩
          refine (given_ok _ _ _ _ _).pthen ?_
          simp -implicitDefEqProofs only [go_sem, upd_ne, n81, n81.symm, r5, r2, r55, r56, r57, d2, w1]
          refine (hy.sub (.upd_new h8)).app (zs := [givQ ⟨3, [102, 95] ++ c.fields[i].name, [c.fields[i].val]⟩ .full]) (by rw [uGiven]; decide) (by simp only [go_sem, ne_eq, not_false_eq_true]) (fun k hk => (Rd.sl (sized_one _ _) .full : Rd _ 3 _ _).src uGiven hk) (by rw [uGiven]; exact hrow.sized) (by rw [uGiven]; exact sized_one _ _) (by
            have hln : (fieldGs (c.fields.take i)).length ≤ i := by unfold fieldGs; rw [List.length_map]; exact Nat.le_trans (List.length_filter_le _ _) (by rw [List.length_take]; omega)
            simp only [go_sem, hrow.1, List.length_cons, List.length_nil, List.length_append, headGs, lastGs, hgl]; omega) fun y' H' hy' kp => ?_
          simp -implicitDefEqProofs only [go_sem, upd_ne, n81, n81.symm, r5, r2, r55, r56, r57, d2, w1]
          refine ⟨_, ?_, i + 1, y', _, hy', kp _ _ _ ((upd_other _ _ n81).trans g1), by rw [fieldGs_succ _ _ hlt, if_pos h14, ← List.append_assoc]; exact hrow.app (GRow.one _ _), by omega, rfl, ?_, ?_, ?_, ?_, ?_⟩
          · omega
          all_goals simp -implicitDefEqProofs only [go_sem, r5, r2, r55, r56, r57, w1]
      · have hge : i = c.fields.length := by have := of_decide_eq_false e; omega
        subst hge
        rw [List.take_length] at hrow
        obtain ⟨q, rfl⟩ := hy.row
        simp -implicitDefEqProofs only [go_sem, r5, r2, r55, r56, r57]
        exact .mk (givsA (askCaseD c subj)) (show Weak (.sl ys q) _ by rw [askCaseD_eq]; exact hrow.weak q) hy.1 ⟨rfl, rfl⟩
end Go.Proofs.YtnhelgnmadbpgaaGreatDoor

set_option linter.unusedSimpArgs false
set_option linter.unusedVariables false
namespace Go.Proofs.YtnhelgnmadbpgaaGreatDoor
open Go Go.Ab Go.Bf
theorem rolesOf_yes {l : List RoleD} {subj : Txt} {i : Nat} (h : i < l.length) (h1 : l[i].subj = subj) (h2 : (rolesOf (l.take i) subj).length < 16) : rolesOf (l.take (i + 1)) subj = rolesOf (l.take i) subj ++ [idV l[i].role] := by
  unfold rolesOf at h2 ⊢
  rw [List.take_succ_eq_append_getElem h, List.filter_append, List.map_append]
  rw [List.length_take] at h2
  have hl : (((l.take i).filter fun r => r.subj == subj).map fun r => idV r.role).length < 16 := by omega
  rw [List.take_append, List.take_of_length_le (by omega), List.filter_cons, List.filter_nil, if_pos (by simp [h1])]
  congr 1
  rw [List.take_of_length_le (by simp; simp at hl; omega)]; rfl
theorem rolesOf_no {l : List RoleD} {subj : Txt} {i : Nat} (h : i < l.length) (h1 : l[i].subj ≠ subj ∨ ¬ (rolesOf (l.take i) subj).length < 16) : rolesOf (l.take (i + 1)) subj = rolesOf (l.take i) subj := by
  unfold rolesOf at h1 ⊢
  rw [List.take_succ_eq_append_getElem h, List.filter_append, List.map_append, List.take_append]
  by_cases hs : l[i].subj = subj
  · have h2 := h1.resolve_left (fun h => h hs)
    rw [List.length_take] at h2
    rw [show 16 - (((l.take i).filter fun r => r.subj == subj).map fun r => idV r.role).length = 0 by omega, List.take_zero, List.append_nil]
  · rw [List.filter_cons, List.filter_nil, if_neg (by simpa using hs)]
    simp
theorem rolesOf_le (l : List RoleD) (subj : Txt) : (rolesOf l subj).length ≤ 16 := by unfold rolesOf; rw [List.length_take]; omega
def askHead (s : StoreD) (o : OpD) : List GivD := [⟨1, idT, [idV o.subj]⟩, ⟨1, [114, 111, 108, 101], rolesOf s.roles o.subj⟩, ⟨2, [110, 97, 109, 101], [idV (actionD o.kind)]⟩]
theorem few_case {s : StoreD} (hf : Few s) (id : Txt) : (caseD s.cases id).log.length ≤ 1000000 ∧ (caseD s.cases id).fields.length ≤ 1000000 := by
  cases e : thereD s.cases id
  · rw [caseD_no e]; exact ⟨Nat.zero_le _, Nat.zero_le _⟩
  · rw [caseD_at e]; exact ⟨hf.log _ (List.getElem_mem _), hf.fields _ (List.getElem_mem _)⟩
theorem askCase_len (c : CaseD) (subj : Txt) : (askCaseD c subj).length ≤ 6 + c.fields.length := by
  rw [askCaseD_eq, List.length_append, List.length_append]
  have h1 : (lastGs c).length ≤ 1 := by unfold lastGs; split <;> simp
  have h2 : (fieldGs c.fields).length ≤ c.fields.length := by unfold fieldGs; rw [List.length_map]; exact List.length_filter_le _ _
  have h3 : (headGs c subj).length = 5 := rfl
  omega
theorem hsub_none {h G : Heap} {i : Nat} (hs : Ab.Sub h G) (hi : G i = none) : h i = none := hs.none hi
theorem uValue : (U 38).sz = 3 := by simp only [go_sem]
set_option maxRecDepth 100000 in
theorem ask_ok {h : Heap} {x : AV} {s : StoreD} (hb : RdS h x s) (o : OpD) (hf : Few s) (hk : i64 o.kind) : FnOK Tryz.prog 17 [x, opA o] h fun r h' => r = givsA (askD s o) ∧ h' = h := by
  have hca := fun (G : Heap) (hG : Ab.Sub h G) => case_ok (hb.sub hG) o.case hf
  obtain ⟨y1, y2, y3, y4, rfl, ⟨xs, hc, hn, hcs⟩, h2, h3, h4⟩ := hb
  cases hpp : s.policy with
  | mk pid pset palg ptgt prules pkids pobls =>
  have hcC : polC (.mk pid pset palg ptgt prules pkids pobls) = [.s pid, .v (.bool pset), .v (.int .i64 palg), tgtA ptgt, .sl (prules.map ruleA) .no, .sl (pkids.map polA) .no, oblsA pobls] := by simp [polC, kidsA_eq]
  rw [hpp, hcC] at hca
  simp only [List.cons_append, List.nil_append] at hca
  have hfr := hf.roles
  refine FnOK.body hU hm Tryz.func17 rfl (by kernel_rfl) 99 rfl [.tmp 4] rfl (Nat.le_of_ble_eq_true rfl) (fun hwf => ?_)
  simp -implicitDefEqProofs only [go_sem, hcC, opA, opC, List.cons_append, List.nil_append]
  intro i1 h1
  simp -implicitDefEqProofs only [go_sem]
  intro i2 h2'
  have n21 := ne_upd h2'
  have n2 := upd_none h2'
  simp -implicitDefEqProofs only [go_sem, upd_ne, n21, n21.symm, h4.len, List.length_map]
  obtain ⟨H, eH⟩ : ∃ H, upd (upd h i1 (some (.obj [.v (.int .i64 s.tick), y1, y2, y3, y4, .s pid, .v (.bool pset), .v (.int .i64 palg), tgtA ptgt, .sl (prules.map ruleA) .no, .sl (pkids.map polA) .no, oblsA pobls, .v (.int .i64 s.version)] 34))) i2 (some (.obj (opC o) 40)) = H := ⟨_, rfl⟩
  have hH : Ab.Sub h H := by rw [← eH]; exact ((Sub.refl h).put h1 _).put n2 _
  have g1 : H i1 = some (.obj [.v (.int .i64 s.tick), y1, y2, y3, y4, .s pid, .v (.bool pset), .v (.int .i64 palg), tgtA ptgt, .sl (prules.map ruleA) .no, .sl (pkids.map polA) .no, oblsA pobls, .v (.int .i64 s.version)] 34) := by rw [← eH, upd_other _ _ n21.symm, upd_same]
  have g2 : H i2 = some (.obj (opC o) 40) := by rw [← eH, upd_same]
  simp only [opC] at eH g2
  rw [eH]
  clear eH
  refine .intro (fun m ρ G => ∃ (i : Nat) (y : AV), Acc U 38 H G y ((rolesOf (s.roles.take i) o.subj).map valA) ∧ i ≤ s.roles.length ∧ m = s.roles.length - i ∧ lk ρ 5 = some y ∧ lk ρ 2 = some (.ptr i1 0) ∧ lk ρ 3 = some (.ptr i2 0) ∧ lk ρ 12 = some y4 ∧ lk ρ 13 = some (.v (.int .i64 s.roles.length)) ∧ lk ρ 14 = some (.v (.int .i64 i))) s.roles.length ?_ ?_
  · refine ⟨0, _, .full (.refl _), by omega, rfl, ?_, ?_, ?_, ?_, ?_, ?_⟩ <;> simp -implicitDefEqProofs only [go_sem, rolesOf, List.take_zero, List.filter_nil, List.map_nil]
  · rintro m ρ G ⟨i, y, hy, hi, rfl, r5, r2, r3, r12, r13, r14⟩
    have k1 := hy.1 _ _ g1
    have k2 := hy.1 _ _ g2
    simp -implicitDefEqProofs only [go_sem, r5, r2, r3, r12, r13, r14]
    refine .intro (fun e => ?_) (fun e => ?_)
    · have hlt : i < s.roles.length := Int.ofNat_lt.1 (of_decide_eq_true e)
      have w1 : IntKind.i64.wrap ((i : Int) + 1) = ((i + 1 : Nat) : Int) := by rw [wr64 _ (by omega)]; omega
      simp -implicitDefEqProofs only [go_sem, r5, r2, r3, r12, r13, r14]
      refine (h4.sub (hH.trans hy.1)).idx (e := 75) i rfl (by simpa using hlt) uRole (by decide) fun p hp1 => ?_
      have hld := hp1.all (U := U) (ty := 75) (by simp only [go_sem]) (by rw [uRole, List.getElem_map]; rfl) (by simp only [go_sem]; rw [List.getElem_map]; rfl)
      simp -implicitDefEqProofs only [go_sem, r5, r2, r3, r12, r13, r14, hld, List.getElem_map, roleA]
      intro i7 h7
      have n71 : i1 ≠ i7 := fun e => by rw [← e, k1] at h7; cases h7
      have n72 : i2 ≠ i7 := fun e => by rw [← e, k2] at h7; cases h7
      simp -implicitDefEqProofs only [go_sem, upd_ne, n71, n71.symm, n72, n72.symm, k1, k2, r5, r2, r3, r12, r13, r14]
      have hy7 := hy.sub (.upd_new h7 (k := some (.obj [.s s.roles[i].subj, .s s.roles[i].role] 75)))
      have lr := rolesOf_le (s.roles.take i) o.subj
      cases d1 : (s.roles[i].subj == o.subj)
      · have p1 : s.roles[i].subj ≠ o.subj := by simpa using d1
        simp -implicitDefEqProofs only [go_sem, upd_ne, n71, n71.symm, n72, n72.symm, k1, k2, r5, r2, r3, r12, r13, r14, d1, w1]
        refine ⟨_, ?_, i + 1, y, by rw [rolesOf_no hlt (.inl p1)]; exact hy7, by omega, rfl, ?_, ?_, ?_, ?_, ?_, ?_⟩
        · omega
        all_goals simp -implicitDefEqProofs only [go_sem, r5, r2, r3, r12, r13, r14, w1]
      · have p1 : s.roles[i].subj = o.subj := by simpa using d1
        simp -implicitDefEqProofs only [go_sem, upd_ne, n71, n71.symm, n72, n72.symm, k1, k2, r5, r2, r3, r12, r13, r14, d1, hy.len, List.length_map]
        cases d2 : decide (((rolesOf (s.roles.take i) o.subj).length : Int) < 16)
        · have p2 : ¬ (rolesOf (s.roles.take i) o.subj).length < 16 := by have := of_decide_eq_false d2; omega
          simp -implicitDefEqProofs only [go_sem, upd_ne, n71, n71.symm, n72, n72.symm, k1, k2, r5, r2, r3, r12, r13, r14, d1, d2, hy.len, List.length_map, w1]
          refine ⟨_, ?_, i + 1, y, by rw [rolesOf_no hlt (.inr p2)]; exact hy7, by omega, rfl, ?_, ?_, ?_, ?_, ?_, ?_⟩
          · omega
          all_goals simp -implicitDefEqProofs only [go_sem, r5, r2, r3, r12, r13, r14, w1]
        · have p2 : (rolesOf (s.roles.take i) o.subj).length < 16 := by have := of_decide_eq_true d2; omega
          simp -implicitDefEqProofs only [go_sem, upd_ne, n71, n71.symm, n72, n72.symm, k1, k2, r5, r2, r3, r12, r13, r14, d1, d2, hy.len, List.length_map, w1]
          refine (id_ok _ _).pthen ?_
          simp -implicitDefEqProofs only [go_sem, upd_ne, n71, n71.symm, n72, n72.symm, k1, k2, r5, r2, r3, r12, r13, r14, valA, idV]
          refine hy7.app (zs := [valA (idV s.roles[i].role)]) (by rw [uValue]; decide) (by simp only [go_sem, ne_eq, not_false_eq_true]) (fun k hk => (Rd.sl (fun z hz => by rw [List.mem_singleton.1 hz]; rfl) .full : Rd _ 3 _ _).src uValue hk) (by rw [uValue]; exact sized_map (f := valA) (fun _ => rfl) _) (by rw [uValue]; exact sized_map (f := valA) (fun _ => rfl) [idV s.roles[i].role]) (by simp only [go_sem, List.length_map, List.length_cons, List.length_nil]; omega) fun y' H' hy' kp => ?_
          simp -implicitDefEqProofs only [go_sem, upd_ne, n71, n71.symm, n72, n72.symm, k1, k2, r5, r2, r3, r12, r13, r14, w1]
          refine ⟨_, ?_, i + 1, y', by rw [rolesOf_yes hlt p1 p2, List.map_append]; exact hy', by omega, rfl, ?_, ?_, ?_, ?_, ?_, ?_⟩
          · omega
          all_goals simp -implicitDefEqProofs only [go_sem, r5, r2, r3, r12, r13, r14, w1]
    · have hge : i = s.roles.length := by have := of_decide_eq_false e; omega
      subst hge
      rw [List.take_length] at hy
      simp -implicitDefEqProofs only [go_sem, r5, r2, r3, r12, r13, r14]
      obtain ⟨q5, rfl⟩ := hy.row
      refine .quiet (by kernel_rfl) ?_
      simp -implicitDefEqProofs only [go_sem, k1, k2, r2, r3, r5]
      refine ⟨_, id_ok _ _, ?_⟩
      simp -implicitDefEqProofs only [go_sem, k1, k2, r2, r3, r5, valA, idV]
      refine ⟨_, given_ok _ _ _ _ _, ?_⟩
      simp -implicitDefEqProofs only [go_sem, k1, k2, r2, r3, r5, valA, idV]
      refine ⟨_, given_ok _ _ _ _ _, ?_⟩
      simp -implicitDefEqProofs only [go_sem, k1, k2, r2, r3, r5, valA, idV]
      refine ⟨_, action_ok _ hk _, ?_⟩
      simp -implicitDefEqProofs only [go_sem, k1, k2, r2, r3, r5, valA, idV]
      refine ⟨_, id_ok _ _, ?_⟩
      simp -implicitDefEqProofs only [go_sem, k1, k2, r2, r3, r5, valA, idV]
      refine ⟨_, given_ok _ _ _ _ _, ?_⟩
      simp -implicitDefEqProofs only [go_sem, k1, k2, r2, r3, r5, valA, idV]
      have hak := fun (G : Heap) => askCase_ok (h := G) (caseD s.cases o.case) o.subj (few_case hf o.case).1 (few_case hf o.case).2
      simp only [caseA, caseC, fieldsA, logA] at hak
      have hakl := askCase_len (caseD s.cases o.case) o.subj
      have hakf := (few_case hf o.case).2
      have hr0 : GRow [.agg [.v (.int .i64 1), .s [105, 100], .sl [.agg [.v (.int .i64 5), .v (.int .i64 0), .s o.subj]] .full], .agg [.v (.int .i64 1), .s [114, 111, 108, 101], .sl ((rolesOf s.roles o.subj).map valA) q5], .agg [.v (.int .i64 2), .s [110, 97, 109, 101], .sl [.agg [.v (.int .i64 5), .v (.int .i64 0), .s (actionD o.kind)]] .full]] (askHead s o) := (GRow.one ⟨1, idT, [idV o.subj]⟩ .full).app ((GRow.one ⟨1, [114, 111, 108, 101], rolesOf s.roles o.subj⟩ q5).app (GRow.one ⟨2, [110, 97, 109, 101], [idV (actionD o.kind)]⟩ .full))
      by_cases pf : o.field = []
      · have df : (o.field == ([] : Txt)) = true := by simp [pf]
        simp -implicitDefEqProofs only [go_sem, k1, k2, r2, r3, df]
        by_cases pt : o.to = []
        · have dt : (o.to == ([] : Txt)) = true := by simp [pt]
          simp -implicitDefEqProofs only [go_sem, k1, k2, r2, r3, dt]
          refine (given_ok _ _ _ _ _).pthen ?_
          simp -implicitDefEqProofs only [go_sem, k1, k2, r2, r3, valA, idV]
          refine .accs hy.1 fun y1 G1 hy1 kp1 => ?_
          have k1_1 := kp1 _ _ _ k1
          have k2_1 := kp1 _ _ _ k2
          have hr1 := hr0.app (GRow.one (⟨4, [110, 111, 119], [⟨4, s.tick, []⟩]⟩ : GivD) .full)
          simp -implicitDefEqProofs only [go_sem, k1_1, k2_1, r2, r3]
          refine (hca _ (hH.trans hy1.1)).pthen ?_
          simp -implicitDefEqProofs only [go_sem, k1_1, k2_1, r2, r3, caseA, caseC, fieldsA, logA]
          intro i20 h20
          have n21 : i1 ≠ i20 := fun e => by rw [← e, k1_1] at h20; cases h20
          have n22 : i2 ≠ i20 := fun e => by rw [← e, k2_1] at h20; cases h20
          simp -implicitDefEqProofs only [go_sem, upd_ne, n21, n21.symm, n22, n22.symm, k1_1, k2_1, r2, r3]
          obtain ⟨q2, eq2⟩ := hy1.row
          cases dth : thereD s.cases o.case
          · simp -implicitDefEqProofs only [go_sem, upd_ne, n21, n21.symm, n22, n22.symm, k1_1, k2_1, r2, r3, dth]
            exact .mk (givsA (askD s o)) (show Weak y1 _ by rw [eq2, show askD s o = (askHead s o ++ [(⟨4, [110, 111, 119], [⟨4, s.tick, []⟩]⟩ : GivD)]) by simp [askD, askHead, dth, pf, pt]]; exact hr1.weak q2) ((hH.trans hy1.1).put (hsub_none (hH.trans hy1.1) h20) _) ⟨rfl, rfl⟩
          · simp -implicitDefEqProofs only [go_sem, upd_ne, n21, n21.symm, n22, n22.symm, k1_1, k2_1, r2, r3, dth]
            by_cases p6 : o.kind = 6
            · have d6 : (o.kind != 6) = false := by simp [p6]
              simp -implicitDefEqProofs only [go_sem, upd_ne, n21, n21.symm, n22, n22.symm, k1_1, k2_1, r2, r3, dth, d6]
              exact .mk (givsA (askD s o)) (show Weak y1 _ by rw [eq2, show askD s o = (askHead s o ++ [(⟨4, [110, 111, 119], [⟨4, s.tick, []⟩]⟩ : GivD)]) by simp [askD, askHead, dth, p6, pf, pt]]; exact hr1.weak q2) ((hH.trans hy1.1).put (hsub_none (hH.trans hy1.1) h20) _) ⟨rfl, rfl⟩
            · have d6 : (o.kind != 6) = true := by simp [p6]
              simp -implicitDefEqProofs only [go_sem, upd_ne, n21, n21.symm, n22, n22.symm, k1_1, k2_1, r2, r3, dth, d6]
              refine (hak _).pthen ?_
              simp -implicitDefEqProofs only [go_sem, upd_ne, n21, n21.symm, n22, n22.symm, k1_1, k2_1, r2, r3, dth, d6, givsA]
              refine (hy1.sub (.upd_new h20)).app (zs := (askCaseD (caseD s.cases o.case) o.subj).map givA) (by rw [uGiven]; decide) (by simp only [go_sem, ne_eq, not_false_eq_true]) (fun k hk => (rd_map givA 3 (fun _ => rfl) _ _).src uGiven hk) (by rw [uGiven]; exact hr1.sized) (by rw [uGiven]; exact sized_map (f := givA) (fun _ => rfl) _) (by simp only [go_sem, hr1.1, List.length_append, List.length_map, askHead, List.length_cons, List.length_nil] <;> omega) fun yz Gz hyz kpz => ?_
              simp -implicitDefEqProofs only [go_sem, upd_ne, n21, n21.symm, n22, n22.symm, k1_1, k2_1, r2, r3, dth, d6]
              obtain ⟨qz, eqz⟩ := hyz.row
              exact .mk (givsA (askD s o)) (show Weak yz _ by rw [eqz, show askD s o = (askHead s o ++ [(⟨4, [110, 111, 119], [⟨4, s.tick, []⟩]⟩ : GivD)]) ++ askCaseD (caseD s.cases o.case) o.subj by simp [askD, askHead, dth, p6, pf, pt]]; exact (hr1.app (GRow.givs _)).weak qz) (hH.trans hyz.1) ⟨rfl, rfl⟩
        · have dt : (o.to == ([] : Txt)) = false := by simp [pt]
          simp -implicitDefEqProofs only [go_sem, k1, k2, r2, r3, dt]
          refine (id_ok _ _).pthen ?_
          simp -implicitDefEqProofs only [go_sem, k1, k2, r2, r3, valA, idV]
          refine (given_ok _ _ _ _ _).pthen ?_
          simp -implicitDefEqProofs only [go_sem, k1, k2, r2, r3, valA, idV]
          refine .accs hy.1 fun y3 G3 hy3 kp3 => ?_
          have k1_3 := kp3 _ _ _ k1
          have k2_3 := kp3 _ _ _ k2
          have hr3 := hr0.app (GRow.one (⟨2, [116, 111], [idV o.to]⟩ : GivD) .full)
          simp -implicitDefEqProofs only [go_sem, k1_3, k2_3, r2, r3]
          refine (given_ok _ _ _ _ _).pthen ?_
          simp -implicitDefEqProofs only [go_sem, k1_3, k2_3, r2, r3, valA, idV]
          refine hy3.app (zs := [givQ (⟨4, [110, 111, 119], [⟨4, s.tick, []⟩]⟩) .full]) (by rw [uGiven]; decide) (by simp only [go_sem, ne_eq, not_false_eq_true]) (fun k hk => (Rd.sl (sized_one _ _) .full : Rd _ 3 _ _).src uGiven hk) (by rw [uGiven]; exact hr3.sized) (by rw [uGiven]; exact sized_one _ _) (by simp only [go_sem, hr3.1, List.length_append, askHead, List.length_cons, List.length_nil] <;> omega) fun y4 G4 hy4 kp4 => ?_
          have k1_4 := kp4 _ _ _ k1_3
          have k2_4 := kp4 _ _ _ k2_3
          have hr4 := hr3.app (GRow.one (⟨4, [110, 111, 119], [⟨4, s.tick, []⟩]⟩ : GivD) .full)
          simp -implicitDefEqProofs only [go_sem, k1_4, k2_4, r2, r3]
          refine (hca _ (hH.trans hy4.1)).pthen ?_
          simp -implicitDefEqProofs only [go_sem, k1_4, k2_4, r2, r3, caseA, caseC, fieldsA, logA]
          intro i50 h50
          have n51 : i1 ≠ i50 := fun e => by rw [← e, k1_4] at h50; cases h50
          have n52 : i2 ≠ i50 := fun e => by rw [← e, k2_4] at h50; cases h50
          simp -implicitDefEqProofs only [go_sem, upd_ne, n51, n51.symm, n52, n52.symm, k1_4, k2_4, r2, r3]
          obtain ⟨q5, eq5⟩ := hy4.row
          cases dth : thereD s.cases o.case
          · simp -implicitDefEqProofs only [go_sem, upd_ne, n51, n51.symm, n52, n52.symm, k1_4, k2_4, r2, r3, dth]
            exact .mk (givsA (askD s o)) (show Weak y4 _ by rw [eq5, show askD s o = ((askHead s o ++ [(⟨2, [116, 111], [idV o.to]⟩ : GivD)]) ++ [(⟨4, [110, 111, 119], [⟨4, s.tick, []⟩]⟩ : GivD)]) by simp [askD, askHead, dth, pf, pt]]; exact hr4.weak q5) ((hH.trans hy4.1).put (hsub_none (hH.trans hy4.1) h50) _) ⟨rfl, rfl⟩
          · simp -implicitDefEqProofs only [go_sem, upd_ne, n51, n51.symm, n52, n52.symm, k1_4, k2_4, r2, r3, dth]
            by_cases p6 : o.kind = 6
            · have d6 : (o.kind != 6) = false := by simp [p6]
              simp -implicitDefEqProofs only [go_sem, upd_ne, n51, n51.symm, n52, n52.symm, k1_4, k2_4, r2, r3, dth, d6]
              exact .mk (givsA (askD s o)) (show Weak y4 _ by rw [eq5, show askD s o = ((askHead s o ++ [(⟨2, [116, 111], [idV o.to]⟩ : GivD)]) ++ [(⟨4, [110, 111, 119], [⟨4, s.tick, []⟩]⟩ : GivD)]) by simp [askD, askHead, dth, p6, pf, pt]]; exact hr4.weak q5) ((hH.trans hy4.1).put (hsub_none (hH.trans hy4.1) h50) _) ⟨rfl, rfl⟩
            · have d6 : (o.kind != 6) = true := by simp [p6]
              simp -implicitDefEqProofs only [go_sem, upd_ne, n51, n51.symm, n52, n52.symm, k1_4, k2_4, r2, r3, dth, d6]
              refine (hak _).pthen ?_
              simp -implicitDefEqProofs only [go_sem, upd_ne, n51, n51.symm, n52, n52.symm, k1_4, k2_4, r2, r3, dth, d6, givsA]
              refine (hy4.sub (.upd_new h50)).app (zs := (askCaseD (caseD s.cases o.case) o.subj).map givA) (by rw [uGiven]; decide) (by simp only [go_sem, ne_eq, not_false_eq_true]) (fun k hk => (rd_map givA 3 (fun _ => rfl) _ _).src uGiven hk) (by rw [uGiven]; exact hr4.sized) (by rw [uGiven]; exact sized_map (f := givA) (fun _ => rfl) _) (by simp only [go_sem, hr4.1, List.length_append, List.length_map, askHead, List.length_cons, List.length_nil] <;> omega) fun yz Gz hyz kpz => ?_
              simp -implicitDefEqProofs only [go_sem, upd_ne, n51, n51.symm, n52, n52.symm, k1_4, k2_4, r2, r3, dth, d6]
              obtain ⟨qz, eqz⟩ := hyz.row
              exact .mk (givsA (askD s o)) (show Weak yz _ by rw [eqz, show askD s o = ((askHead s o ++ [(⟨2, [116, 111], [idV o.to]⟩ : GivD)]) ++ [(⟨4, [110, 111, 119], [⟨4, s.tick, []⟩]⟩ : GivD)]) ++ askCaseD (caseD s.cases o.case) o.subj by simp [askD, askHead, dth, p6, pf, pt]]; exact (hr4.app (GRow.givs _)).weak qz) (hH.trans hyz.1) ⟨rfl, rfl⟩
      · have df : (o.field == ([] : Txt)) = false := by simp [pf]
        simp -implicitDefEqProofs only [go_sem, k1, k2, r2, r3, df]
        refine (id_ok _ _).pthen ?_
        simp -implicitDefEqProofs only [go_sem, k1, k2, r2, r3, valA, idV]
        refine (given_ok _ _ _ _ _).pthen ?_
        simp -implicitDefEqProofs only [go_sem, k1, k2, r2, r3, valA, idV]
        refine .accs hy.1 fun y6 G6 hy6 kp6 => ?_
        have k1_6 := kp6 _ _ _ k1
        have k2_6 := kp6 _ _ _ k2
        have hr6 := hr0.app (GRow.one (⟨2, [102, 105, 101, 108, 100], [idV o.field]⟩ : GivD) .full)
        simp -implicitDefEqProofs only [go_sem, k1_6, k2_6, r2, r3]
        by_cases pt : o.to = []
        · have dt : (o.to == ([] : Txt)) = true := by simp [pt]
          simp -implicitDefEqProofs only [go_sem, k1_6, k2_6, r2, r3, dt]
          refine (given_ok _ _ _ _ _).pthen ?_
          simp -implicitDefEqProofs only [go_sem, k1_6, k2_6, r2, r3, valA, idV]
          refine hy6.app (zs := [givQ (⟨4, [110, 111, 119], [⟨4, s.tick, []⟩]⟩) .full]) (by rw [uGiven]; decide) (by simp only [go_sem, ne_eq, not_false_eq_true]) (fun k hk => (Rd.sl (sized_one _ _) .full : Rd _ 3 _ _).src uGiven hk) (by rw [uGiven]; exact hr6.sized) (by rw [uGiven]; exact sized_one _ _) (by simp only [go_sem, hr6.1, List.length_append, askHead, List.length_cons, List.length_nil] <;> omega) fun y7 G7 hy7 kp7 => ?_
          have k1_7 := kp7 _ _ _ k1_6
          have k2_7 := kp7 _ _ _ k2_6
          have hr7 := hr6.app (GRow.one (⟨4, [110, 111, 119], [⟨4, s.tick, []⟩]⟩ : GivD) .full)
          simp -implicitDefEqProofs only [go_sem, k1_7, k2_7, r2, r3]
          refine (hca _ (hH.trans hy7.1)).pthen ?_
          simp -implicitDefEqProofs only [go_sem, k1_7, k2_7, r2, r3, caseA, caseC, fieldsA, logA]
          intro i80 h80
          have n81 : i1 ≠ i80 := fun e => by rw [← e, k1_7] at h80; cases h80
          have n82 : i2 ≠ i80 := fun e => by rw [← e, k2_7] at h80; cases h80
          simp -implicitDefEqProofs only [go_sem, upd_ne, n81, n81.symm, n82, n82.symm, k1_7, k2_7, r2, r3]
          obtain ⟨q8, eq8⟩ := hy7.row
          cases dth : thereD s.cases o.case
          · simp -implicitDefEqProofs only [go_sem, upd_ne, n81, n81.symm, n82, n82.symm, k1_7, k2_7, r2, r3, dth]
            exact .mk (givsA (askD s o)) (show Weak y7 _ by rw [eq8, show askD s o = ((askHead s o ++ [(⟨2, [102, 105, 101, 108, 100], [idV o.field]⟩ : GivD)]) ++ [(⟨4, [110, 111, 119], [⟨4, s.tick, []⟩]⟩ : GivD)]) by simp [askD, askHead, dth, pf, pt]]; exact hr7.weak q8) ((hH.trans hy7.1).put (hsub_none (hH.trans hy7.1) h80) _) ⟨rfl, rfl⟩
          · simp -implicitDefEqProofs only [go_sem, upd_ne, n81, n81.symm, n82, n82.symm, k1_7, k2_7, r2, r3, dth]
            by_cases p6 : o.kind = 6
            · have d6 : (o.kind != 6) = false := by simp [p6]
              simp -implicitDefEqProofs only [go_sem, upd_ne, n81, n81.symm, n82, n82.symm, k1_7, k2_7, r2, r3, dth, d6]
              exact .mk (givsA (askD s o)) (show Weak y7 _ by rw [eq8, show askD s o = ((askHead s o ++ [(⟨2, [102, 105, 101, 108, 100], [idV o.field]⟩ : GivD)]) ++ [(⟨4, [110, 111, 119], [⟨4, s.tick, []⟩]⟩ : GivD)]) by simp [askD, askHead, dth, p6, pf, pt]]; exact hr7.weak q8) ((hH.trans hy7.1).put (hsub_none (hH.trans hy7.1) h80) _) ⟨rfl, rfl⟩
            · have d6 : (o.kind != 6) = true := by simp [p6]
              simp -implicitDefEqProofs only [go_sem, upd_ne, n81, n81.symm, n82, n82.symm, k1_7, k2_7, r2, r3, dth, d6]
              refine (hak _).pthen ?_
              simp -implicitDefEqProofs only [go_sem, upd_ne, n81, n81.symm, n82, n82.symm, k1_7, k2_7, r2, r3, dth, d6, givsA]
              refine (hy7.sub (.upd_new h80)).app (zs := (askCaseD (caseD s.cases o.case) o.subj).map givA) (by rw [uGiven]; decide) (by simp only [go_sem, ne_eq, not_false_eq_true]) (fun k hk => (rd_map givA 3 (fun _ => rfl) _ _).src uGiven hk) (by rw [uGiven]; exact hr7.sized) (by rw [uGiven]; exact sized_map (f := givA) (fun _ => rfl) _) (by simp only [go_sem, hr7.1, List.length_append, List.length_map, askHead, List.length_cons, List.length_nil] <;> omega) fun yz Gz hyz kpz => ?_
              simp -implicitDefEqProofs only [go_sem, upd_ne, n81, n81.symm, n82, n82.symm, k1_7, k2_7, r2, r3, dth, d6]
              obtain ⟨qz, eqz⟩ := hyz.row
              exact .mk (givsA (askD s o)) (show Weak yz _ by rw [eqz, show askD s o = ((askHead s o ++ [(⟨2, [102, 105, 101, 108, 100], [idV o.field]⟩ : GivD)]) ++ [(⟨4, [110, 111, 119], [⟨4, s.tick, []⟩]⟩ : GivD)]) ++ askCaseD (caseD s.cases o.case) o.subj by simp [askD, askHead, dth, p6, pf, pt]]; exact (hr7.app (GRow.givs _)).weak qz) (hH.trans hyz.1) ⟨rfl, rfl⟩
        · have dt : (o.to == ([] : Txt)) = false := by simp [pt]
          simp -implicitDefEqProofs only [go_sem, k1_6, k2_6, r2, r3, dt]
          refine (id_ok _ _).pthen ?_
          simp -implicitDefEqProofs only [go_sem, k1_6, k2_6, r2, r3, valA, idV]
          refine (given_ok _ _ _ _ _).pthen ?_
          simp -implicitDefEqProofs only [go_sem, k1_6, k2_6, r2, r3, valA, idV]
          refine hy6.app (zs := [givQ (⟨2, [116, 111], [idV o.to]⟩) .full]) (by rw [uGiven]; decide) (by simp only [go_sem, ne_eq, not_false_eq_true]) (fun k hk => (Rd.sl (sized_one _ _) .full : Rd _ 3 _ _).src uGiven hk) (by rw [uGiven]; exact hr6.sized) (by rw [uGiven]; exact sized_one _ _) (by simp only [go_sem, hr6.1, List.length_append, askHead, List.length_cons, List.length_nil] <;> omega) fun y9 G9 hy9 kp9 => ?_
          have k1_9 := kp9 _ _ _ k1_6
          have k2_9 := kp9 _ _ _ k2_6
          have hr9 := hr6.app (GRow.one (⟨2, [116, 111], [idV o.to]⟩ : GivD) .full)
          simp -implicitDefEqProofs only [go_sem, k1_9, k2_9, r2, r3]
          refine (given_ok _ _ _ _ _).pthen ?_
          simp -implicitDefEqProofs only [go_sem, k1_9, k2_9, r2, r3, valA, idV]
          refine hy9.app (zs := [givQ (⟨4, [110, 111, 119], [⟨4, s.tick, []⟩]⟩) .full]) (by rw [uGiven]; decide) (by simp only [go_sem, ne_eq, not_false_eq_true]) (fun k hk => (Rd.sl (sized_one _ _) .full : Rd _ 3 _ _).src uGiven hk) (by rw [uGiven]; exact hr9.sized) (by rw [uGiven]; exact sized_one _ _) (by simp only [go_sem, hr9.1, List.length_append, askHead, List.length_cons, List.length_nil] <;> omega) fun y10 G10 hy10 kp10 => ?_
          have k1_10 := kp10 _ _ _ k1_9
          have k2_10 := kp10 _ _ _ k2_9
          have hr10 := hr9.app (GRow.one (⟨4, [110, 111, 119], [⟨4, s.tick, []⟩]⟩ : GivD) .full)
          simp -implicitDefEqProofs only [go_sem, k1_10, k2_10, r2, r3]
          refine (hca _ (hH.trans hy10.1)).pthen ?_
          simp -implicitDefEqProofs only [go_sem, k1_10, k2_10, r2, r3, caseA, caseC, fieldsA, logA]
          intro i110 h110
          have n111 : i1 ≠ i110 := fun e => by rw [← e, k1_10] at h110; cases h110
          have n112 : i2 ≠ i110 := fun e => by rw [← e, k2_10] at h110; cases h110
          simp -implicitDefEqProofs only [go_sem, upd_ne, n111, n111.symm, n112, n112.symm, k1_10, k2_10, r2, r3]
          obtain ⟨q11, eq11⟩ := hy10.row
          cases dth : thereD s.cases o.case
          · simp -implicitDefEqProofs only [go_sem, upd_ne, n111, n111.symm, n112, n112.symm, k1_10, k2_10, r2, r3, dth]
            exact .mk (givsA (askD s o)) (show Weak y10 _ by rw [eq11, show askD s o = (((askHead s o ++ [(⟨2, [102, 105, 101, 108, 100], [idV o.field]⟩ : GivD)]) ++ [(⟨2, [116, 111], [idV o.to]⟩ : GivD)]) ++ [(⟨4, [110, 111, 119], [⟨4, s.tick, []⟩]⟩ : GivD)]) by simp [askD, askHead, dth, pf, pt]]; exact hr10.weak q11) ((hH.trans hy10.1).put (hsub_none (hH.trans hy10.1) h110) _) ⟨rfl, rfl⟩
          · simp -implicitDefEqProofs only [go_sem, upd_ne, n111, n111.symm, n112, n112.symm, k1_10, k2_10, r2, r3, dth]
            by_cases p6 : o.kind = 6
            · have d6 : (o.kind != 6) = false := by simp [p6]
              simp -implicitDefEqProofs only [go_sem, upd_ne, n111, n111.symm, n112, n112.symm, k1_10, k2_10, r2, r3, dth, d6]
              exact .mk (givsA (askD s o)) (show Weak y10 _ by rw [eq11, show askD s o = (((askHead s o ++ [(⟨2, [102, 105, 101, 108, 100], [idV o.field]⟩ : GivD)]) ++ [(⟨2, [116, 111], [idV o.to]⟩ : GivD)]) ++ [(⟨4, [110, 111, 119], [⟨4, s.tick, []⟩]⟩ : GivD)]) by simp [askD, askHead, dth, p6, pf, pt]]; exact hr10.weak q11) ((hH.trans hy10.1).put (hsub_none (hH.trans hy10.1) h110) _) ⟨rfl, rfl⟩
            · have d6 : (o.kind != 6) = true := by simp [p6]
              simp -implicitDefEqProofs only [go_sem, upd_ne, n111, n111.symm, n112, n112.symm, k1_10, k2_10, r2, r3, dth, d6]
              refine (hak _).pthen ?_
              simp -implicitDefEqProofs only [go_sem, upd_ne, n111, n111.symm, n112, n112.symm, k1_10, k2_10, r2, r3, dth, d6, givsA]
              refine (hy10.sub (.upd_new h110)).app (zs := (askCaseD (caseD s.cases o.case) o.subj).map givA) (by rw [uGiven]; decide) (by simp only [go_sem, ne_eq, not_false_eq_true]) (fun k hk => (rd_map givA 3 (fun _ => rfl) _ _).src uGiven hk) (by rw [uGiven]; exact hr10.sized) (by rw [uGiven]; exact sized_map (f := givA) (fun _ => rfl) _) (by simp only [go_sem, hr10.1, List.length_append, List.length_map, askHead, List.length_cons, List.length_nil] <;> omega) fun yz Gz hyz kpz => ?_
              simp -implicitDefEqProofs only [go_sem, upd_ne, n111, n111.symm, n112, n112.symm, k1_10, k2_10, r2, r3, dth, d6]
              obtain ⟨qz, eqz⟩ := hyz.row
              exact .mk (givsA (askD s o)) (show Weak yz _ by rw [eqz, show askD s o = (((askHead s o ++ [(⟨2, [102, 105, 101, 108, 100], [idV o.field]⟩ : GivD)]) ++ [(⟨2, [116, 111], [idV o.to]⟩ : GivD)]) ++ [(⟨4, [110, 111, 119], [⟨4, s.tick, []⟩]⟩ : GivD)]) ++ askCaseD (caseD s.cases o.case) o.subj by simp [askD, askHead, dth, p6, pf, pt]]; exact (hr10.app (GRow.givs _)).weak qz) (hH.trans hyz.1) ⟨rfl, rfl⟩
end Go.Proofs.YtnhelgnmadbpgaaGreatDoor

set_option linter.unusedSimpArgs false
set_option linter.unusedVariables false
namespace Go.Bf
open Go Go.Ab
def eqVal (a b : ValD) : Bool := a.kind == b.kind && (a.n == b.n && a.s == b.s)
def eqL {α : Type} (f : α → α → Bool) : List α → List α → Bool
  | [], [] => true
  | x :: a, y :: b => f x y && eqL f a b
  | _, _ => false
theorem eqL_true {α : Type} {f : α → α → Bool} : ∀ {a b : List α}, a.length = b.length → (∀ j (h1 : j < a.length) (h2 : j < b.length), f a[j] b[j] = true) → eqL f a b = true
  | [], [], _, _ => rfl
  | x :: a, y :: b, hl, h => by
    simp only [eqL, Bool.and_eq_true]
    exact ⟨h 0 (by simp) (by simp), eqL_true (by simpa using hl) fun j h1 h2 => h (j + 1) (by simpa using h1) (by simpa using h2)⟩
theorem eqL_len {α : Type} {f : α → α → Bool} : ∀ {a b : List α}, a.length ≠ b.length → eqL f a b = false
  | [], [], h => (h rfl).elim
  | [], _ :: _, _ => rfl
  | _ :: _, [], _ => rfl
  | x :: a, y :: b, h => by
    simp only [eqL]
    rw [eqL_len (fun e => h (by simp [e])), Bool.and_false]
theorem eqL_at {α : Type} {f : α → α → Bool} : ∀ {a b : List α} (j : Nat) (h1 : j < a.length) (h2 : j < b.length), f a[j] b[j] = false → eqL f a b = false
  | x :: a, y :: b, 0, _, _, h => by simp only [List.getElem_cons_zero] at h; simp [eqL, h]
  | x :: a, y :: b, j + 1, h1, h2, h => by
    simp only [eqL]
    rw [eqL_at j (by simpa using h1) (by simpa using h2) (by simpa using h), Bool.and_false]
end Go.Bf
namespace Go.Proofs.YtnhelgnmadbpgaaGreatDoor
open Go Go.Ab Go.Bf
end Go.Proofs.YtnhelgnmadbpgaaGreatDoor

set_option linter.unusedSimpArgs false
set_option linter.unusedVariables false
namespace Go.Bf
open Go Go.Ab
end Go.Bf
namespace Go.Proofs.YtnhelgnmadbpgaaGreatDoor
open Go Go.Ab Go.Bf
theorem sameValue_ok (a b : List ValD) (q1 q2 : Perm) (h : Heap) : FnOK Tryz.prog 40 [.sl (a.map valA) q1, .sl (b.map valA) q2] h fun r h' => r = .v (.bool (eqL eqVal a b)) ∧ h' = h := by
  refine FnOK.body hU hm Tryz.func40 rfl (by kernel_rfl) 26 rfl [.tmp 4] rfl (Nat.le_of_ble_eq_true rfl) (fun hwf => ?_)
  cases d1 : ((a.length : Int) != (b.length : Int))
  case true =>
    have e1 : a.length ≠ b.length := by
      intro e; rw [e] at d1; simp at d1
    simp -implicitDefEqProofs only [go_sem, List.length_map, d1]
    exact .same (.refl _) ⟨by rw [eqL_len e1]; rfl, rfl⟩
  have e1 : a.length = b.length := by have : (a.length : Int) = b.length := by simpa using d1
                                      omega
  simp -implicitDefEqProofs only [go_sem, List.length_map, d1]
  refine .intro (fun m ρ h' => Ab.Sub h h' ∧ ∃ i : Nat, i ≤ a.length ∧ m = a.length - i ∧ (∀ j (h1 : j < a.length) (h2 : j < b.length), j < i → eqVal a[j] b[j] = true) ∧ lk ρ 0 = some (.sl (a.map valA) q1) ∧ lk ρ 1 = some (.sl (b.map valA) q2) ∧ lk ρ 5 = some (.v (.int .i64 i))) a.length ?_ ?_
  · refine ⟨.refl _, 0, by omega, rfl, fun j _ _ hj => (by omega), ?_, ?_, ?_⟩ <;> simp -implicitDefEqProofs only [go_sem]
  · rintro m ρ h' ⟨hs, i, hi, rfl, hc, r0, r1, r5⟩
    simp -implicitDefEqProofs only [go_sem, r0, r1, r5, List.length_map]
    refine .intro (fun e => ?_) (fun e => ?_)
    · have hlt : i < a.length := Int.ofNat_lt.1 (of_decide_eq_true e)
      have hlt2 : i < b.length := by omega
      have w1 : IntKind.i64.wrap ((i : Int) + 1) = ((i + 1 : Nat) : Int) := by
        have := hwf (.sl (a.map valA) q1) (by simp)
        simp only [wfA, wf1, lim, List.length_map] at this
        rw [wr64 _ (by omega)]; omega
      simp -implicitDefEqProofs only [go_sem, r0, r1, r5, List.length_map]
      refine ⟨.of (by kernel_rfl), ?_⟩
      refine .at i (by simpa using hlt) (by rw [List.getElem_map]; rfl) ?_
      simp -implicitDefEqProofs only [go_sem, r0, r1, r5, List.getElem_map, valA]
      refine .at i (by simpa using hlt2) (by rw [List.getElem_map]; rfl) ?_
      simp -implicitDefEqProofs only [go_sem, r0, r1, r5, List.getElem_map, valA]
      cases d3 : eqVal a[i] b[i]
      · have d4 := d3
        simp only [eqVal] at d4
        simp -implicitDefEqProofs only [go_sem, r0, r1, r5, d4]
        exact .mk _ (.refl _) hs ⟨by rw [eqL_at i hlt hlt2 d3]; rfl, rfl⟩
      · have d4 := d3
        simp only [eqVal] at d4
        simp -implicitDefEqProofs only [go_sem, r0, r1, r5, d4, w1]
        refine ⟨_, ?_, hs, i + 1, by omega, rfl, fun j h1 h2 hj => ?_, ?_, ?_, ?_⟩
        · omega
        · by_cases hji : j = i
          · subst hji; exact d3
          · exact hc j h1 h2 (by omega)
        all_goals simp -implicitDefEqProofs only [go_sem, r0, r1, r5, w1]
    · have hge : i = a.length := by have := of_decide_eq_false e; omega
      subst hge
      simp -implicitDefEqProofs only [go_sem, r0, r1, r5]
      exact .mk _ (.refl _) hs ⟨by rw [eqL_true e1 fun j h1 h2 => hc j h1 h2 h1]; rfl, rfl⟩
end Go.Proofs.YtnhelgnmadbpgaaGreatDoor
