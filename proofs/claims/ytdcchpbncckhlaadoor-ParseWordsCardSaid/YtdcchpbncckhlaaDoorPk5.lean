/- The law ParseWords: pack 5 of its texts. -/
import Derived.Test.YtdcchpbncckhlaaDoorPk1
import Derived.Test.YtdcchpbncckhlaaDoorPk2
import Derived.Test.YtdcchpbncckhlaaDoorPk3
import Derived.Test.YtdcchpbncckhlaaDoorPk4
/- The parser's small steps. -/
set_option linter.unusedSimpArgs false
set_option linter.unusedVariables false
namespace Go.Proofs.YtdcchpbncckhlaaDoor
open Go Go.Ab Go.Bf

def PO (st : PS) : Blk := .obj [.sl (st.ts.map tokA) .no, .v (.int .i64 st.pos), .v (.int .i64 st.rules), .v (.int .i64 st.bad), .v (.int .i64 st.place)] 94
def PC (f : FuncId) (args : List AV) (st : PS) (R : AV) (st' : PS) : Prop := ∀ (h : Heap) (id : Nat), h id = some (PO st) → FnOK Tryd.prog f (.ptr id 0 :: args) h fun r h' => r = R ∧ h' = upd h id (some (PO st'))
theorem PC.go {f : FuncId} {args : List AV} {st st' : PS} {R : AV} (hc : PC f args st R st') {h : Heap} {id : Nat} {Q : AV → Heap → Prop} (hid : h id = some (PO st)) (k : Q R (upd h id (some (PO st')))) : FnOK Tryd.prog f (.ptr id 0 :: args) h Q :=
  (hc h id hid).mono fun r h' ⟨e1, e2⟩ => by subst e1; subst e2; exact k
theorem upd_self {h : Heap} {id : Nat} {b : Option Blk} (e : h id = b) : upd h id b = h := by
  funext j
  by_cases hj : j = id
  · subst hj; rw [upd_same, e]
  · rw [upd_other _ _ hj]

theorem wrong_ok (st : PS) (e p : Int) : PC 52 [.v (.int .i64 e), .v (.int .i64 p)] st (.tup []) (wrongD st e p) := fun h id hid => by
  refine FnOK.body hU hm Tryd.func52 rfl (by kernel_rfl) 19 rfl [] rfl (Nat.le_of_ble_eq_true rfl) (fun hwf => ?_)
  have g := hid
  unfold PO at g
  cases d1 : (st.bad == 0)
  · have e1 : st.bad ≠ 0 := by simpa using d1
    simp -implicitDefEqProofs only [go_sem, ↓reduceIte, Nat.reduceLT, Nat.reduceEqDiff, Nat.reduceAdd, Nat.reduceLeDiff, Nat.reduceMul, Nat.reduceSub, Int.natCast_zero, Int.ofNat_zero, Int.natCast_one, Int.cast_ofNat_Int, bne_self_eq_false, beq_self_eq_true, Int.reduceBEq, Int.reduceBNe, Bool.not_true, Bool.not_false, g, d1]
    exact .mk _ (.refl _) (.refl _) ⟨rfl, by rw [wrongD, if_neg e1, upd_self hid]⟩
  · have e1 : st.bad = 0 := by simpa using d1
    simp -implicitDefEqProofs only [go_sem, ↓reduceIte, Nat.reduceLT, Nat.reduceEqDiff, Nat.reduceAdd, Nat.reduceLeDiff, Nat.reduceMul, Nat.reduceSub, Int.natCast_zero, Int.ofNat_zero, Int.natCast_one, Int.cast_ofNat_Int, bne_self_eq_false, beq_self_eq_true, Int.reduceBEq, Int.reduceBNe, Bool.not_true, Bool.not_false, g, d1]
    exact .mk _ (.refl _) (.refl _) ⟨rfl, by rw [wrongD, if_pos e1]; rfl⟩
theorem here_ok (st : PS) (hw : WfP st) : PC 50 [] st (tokA (hereD st)) st := fun h id hid => by
  refine FnOK.body hU hm Tryd.func50 rfl (by kernel_rfl) 13 rfl [.cell 2 97] rfl (Nat.le_of_ble_eq_true rfl) (fun hwf => ?_)
  have g := hid
  unfold PO at g
  simp -implicitDefEqProofs only [go_sem, ↓reduceIte, Nat.reduceLT, Nat.reduceEqDiff, Nat.reduceAdd, Nat.reduceLeDiff, Nat.reduceMul, Nat.reduceSub, Int.natCast_zero, Int.ofNat_zero, Int.natCast_one, Int.cast_ofNat_Int, bne_self_eq_false, beq_self_eq_true, Int.reduceBEq, Int.reduceBNe, Bool.not_true, Bool.not_false]
  intro i2 hi2
  have n2 : id ≠ i2 := fun e => by rw [e, hi2] at hid; cases hid
  simp -implicitDefEqProofs only [go_sem, ↓reduceIte, Nat.reduceLT, Nat.reduceEqDiff, Nat.reduceAdd, Nat.reduceLeDiff, Nat.reduceMul, Nat.reduceSub, Int.natCast_zero, Int.ofNat_zero, Int.natCast_one, Int.cast_ofNat_Int, bne_self_eq_false, beq_self_eq_true, Int.reduceBEq, Int.reduceBNe, Bool.not_true, Bool.not_false, g, upd_ne, n2]
  refine ⟨.of (by kernel_rfl), ?_⟩
  refine .at st.pos (by simpa using hw.1) (by rw [List.getElem_map]; rfl) ?_
  simp -implicitDefEqProofs only [go_sem, ↓reduceIte, Nat.reduceLT, Nat.reduceEqDiff, Nat.reduceAdd, Nat.reduceLeDiff, Nat.reduceMul, Nat.reduceSub, Int.natCast_zero, Int.ofNat_zero, Int.natCast_one, Int.cast_ofNat_Int, bne_self_eq_false, beq_self_eq_true, Int.reduceBEq, Int.reduceBNe, Bool.not_true, Bool.not_false, g, upd_ne, n2, List.getElem_map, tokA]
  refine .mk _ (.refl _) (.upd_new hi2) ⟨by rw [hereD_eq hw.1]; rfl, (upd_self hid).symm⟩

theorem stuck_ok (st : PS) (hw : WfP st) : PC 51 [] st (.tup []) (stuckD st) := fun h id hid => by
  refine FnOK.body hU hm Tryd.func51 rfl (by kernel_rfl) 7 rfl [] rfl (Nat.le_of_ble_eq_true rfl) (fun hwf => ?_)
  simp -implicitDefEqProofs only [go_sem, ↓reduceIte, Nat.reduceLT, Nat.reduceEqDiff, Nat.reduceAdd, Nat.reduceLeDiff, Nat.reduceMul, Nat.reduceSub, Int.natCast_zero, Int.ofNat_zero, Int.natCast_one, Int.cast_ofNat_Int, bne_self_eq_false, beq_self_eq_true, Int.reduceBEq, Int.reduceBNe, Bool.not_true, Bool.not_false]
  refine (here_ok st hw).go hid ?_
  rw [upd_self hid]
  simp -implicitDefEqProofs only [go_sem, ↓reduceIte, Nat.reduceLT, Nat.reduceEqDiff, Nat.reduceAdd, Nat.reduceLeDiff, Nat.reduceMul, Nat.reduceSub, Int.natCast_zero, Int.ofNat_zero, Int.natCast_one, Int.cast_ofNat_Int, bne_self_eq_false, beq_self_eq_true, Int.reduceBEq, Int.reduceBNe, Bool.not_true, Bool.not_false, tokA]
  refine (wrong_ok st 5 _).go hid ?_
  simp -implicitDefEqProofs only [go_sem, ↓reduceIte, Nat.reduceLT, Nat.reduceEqDiff, Nat.reduceAdd, Nat.reduceLeDiff, Nat.reduceMul, Nat.reduceSub, Int.natCast_zero, Int.ofNat_zero, Int.natCast_one, Int.cast_ofNat_Int, bne_self_eq_false, beq_self_eq_true, Int.reduceBEq, Int.reduceBNe, Bool.not_true, Bool.not_false]
  exact .mk _ (.refl _) (.refl _) ⟨rfl, rfl⟩

theorem limit_ok (st : PS) (b : Bool) (hw : WfP st) : PC 110 [.v (.bool b)] st (.tup []) (limitD st b) := fun h id hid => by
  refine FnOK.body hU hm Tryd.func110 rfl (by kernel_rfl) 10 rfl [] rfl (Nat.le_of_ble_eq_true rfl) (fun hwf => ?_)
  cases b
  · simp -implicitDefEqProofs only [go_sem, ↓reduceIte, Nat.reduceLT, Nat.reduceEqDiff, Nat.reduceAdd, Nat.reduceLeDiff, Nat.reduceMul, Nat.reduceSub, Int.natCast_zero, Int.ofNat_zero, Int.natCast_one, Int.cast_ofNat_Int, bne_self_eq_false, beq_self_eq_true, Int.reduceBEq, Int.reduceBNe, Bool.not_true, Bool.not_false]
    exact .mk _ (.refl _) (.refl _) ⟨rfl, (upd_self hid).symm⟩
  simp -implicitDefEqProofs only [go_sem, ↓reduceIte, Nat.reduceLT, Nat.reduceEqDiff, Nat.reduceAdd, Nat.reduceLeDiff, Nat.reduceMul, Nat.reduceSub, Int.natCast_zero, Int.ofNat_zero, Int.natCast_one, Int.cast_ofNat_Int, bne_self_eq_false, beq_self_eq_true, Int.reduceBEq, Int.reduceBNe, Bool.not_true, Bool.not_false]
  refine (here_ok st hw).go hid ?_
  rw [upd_self hid]
  simp -implicitDefEqProofs only [go_sem, ↓reduceIte, Nat.reduceLT, Nat.reduceEqDiff, Nat.reduceAdd, Nat.reduceLeDiff, Nat.reduceMul, Nat.reduceSub, Int.natCast_zero, Int.ofNat_zero, Int.natCast_one, Int.cast_ofNat_Int, bne_self_eq_false, beq_self_eq_true, Int.reduceBEq, Int.reduceBNe, Bool.not_true, Bool.not_false, tokA]
  refine (wrong_ok st 6 _).go hid ?_
  simp -implicitDefEqProofs only [go_sem, ↓reduceIte, Nat.reduceLT, Nat.reduceEqDiff, Nat.reduceAdd, Nat.reduceLeDiff, Nat.reduceMul, Nat.reduceSub, Int.natCast_zero, Int.ofNat_zero, Int.natCast_one, Int.cast_ofNat_Int, bne_self_eq_false, beq_self_eq_true, Int.reduceBEq, Int.reduceBNe, Bool.not_true, Bool.not_false]
  exact .mk _ (.refl _) (.refl _) ⟨rfl, rfl⟩

theorem is_ok (st : PS) (s : Txt) (hw : WfP st) : PC 111 [.s s] st (.v (.bool (isD st s))) st := fun h id hid => by
  refine FnOK.body hU hm Tryd.func111 rfl (by kernel_rfl) 29 rfl [.tmp 4] rfl (Nat.le_of_ble_eq_true rfl) (fun hwf => ?_)
  have g := hid
  unfold PO at g
  simp -implicitDefEqProofs only [go_sem, ↓reduceIte, Nat.reduceLT, Nat.reduceEqDiff, Nat.reduceAdd, Nat.reduceLeDiff, Nat.reduceMul, Nat.reduceSub, Int.natCast_zero, Int.ofNat_zero, Int.natCast_one, Int.cast_ofNat_Int, bne_self_eq_false, beq_self_eq_true, Int.reduceBEq, Int.reduceBNe, Bool.not_true, Bool.not_false]
  refine (here_ok st hw).go hid ?_
  rw [upd_self hid]
  simp -implicitDefEqProofs only [go_sem, ↓reduceIte, Nat.reduceLT, Nat.reduceEqDiff, Nat.reduceAdd, Nat.reduceLeDiff, Nat.reduceMul, Nat.reduceSub, Int.natCast_zero, Int.ofNat_zero, Int.natCast_one, Int.cast_ofNat_Int, bne_self_eq_false, beq_self_eq_true, Int.reduceBEq, Int.reduceBNe, Bool.not_true, Bool.not_false, tokA]
  intro i2 hi2
  have n2 : id ≠ i2 := fun e => by rw [e, hi2] at hid; cases hid
  cases d1 : (st.bad == 0) <;> cases d2 : ((hereD st).s == s) <;> cases d3 : ((hereD st).kind == 1) <;> cases d4 : ((hereD st).kind == 6)
  all_goals
    simp -implicitDefEqProofs only [go_sem, ↓reduceIte, Nat.reduceLT, Nat.reduceEqDiff, Nat.reduceAdd, Nat.reduceLeDiff, Nat.reduceMul, Nat.reduceSub, Int.natCast_zero, Int.ofNat_zero, Int.natCast_one, Int.cast_ofNat_Int, bne_self_eq_false, beq_self_eq_true, Int.reduceBEq, Int.reduceBNe, Bool.not_true, Bool.not_false, g, upd_ne, n2, d1, d2, d3, d4]
    exact .mk _ (.refl _) (.upd_new hi2) ⟨by simp only [isD, d1, d2, d3, d4]; rfl, rfl⟩

theorem take_ok (st : PS) (s : Txt) (hw : WfP st) : PC 108 [.s s] st (.v (.bool (takeD st s).1)) (takeD st s).2 := fun h id hid => by
  refine FnOK.body hU hm Tryd.func108 rfl (by kernel_rfl) 18 rfl [.tmp 4] rfl (Nat.le_of_ble_eq_true rfl) (fun hwf => ?_)
  have g := hid
  unfold PO at g
  simp -implicitDefEqProofs only [go_sem, ↓reduceIte, Nat.reduceLT, Nat.reduceEqDiff, Nat.reduceAdd, Nat.reduceLeDiff, Nat.reduceMul, Nat.reduceSub, Int.natCast_zero, Int.ofNat_zero, Int.natCast_one, Int.cast_ofNat_Int, bne_self_eq_false, beq_self_eq_true, Int.reduceBEq, Int.reduceBNe, Bool.not_true, Bool.not_false]
  refine (is_ok st s hw).go hid ?_
  rw [upd_self hid]
  cases d1 : isD st s
  · have e : takeD st s = (false, st) := by simp [takeD, d1]
    simp -implicitDefEqProofs only [go_sem, ↓reduceIte, Nat.reduceLT, Nat.reduceEqDiff, Nat.reduceAdd, Nat.reduceLeDiff, Nat.reduceMul, Nat.reduceSub, Int.natCast_zero, Int.ofNat_zero, Int.natCast_one, Int.cast_ofNat_Int, bne_self_eq_false, beq_self_eq_true, Int.reduceBEq, Int.reduceBNe, Bool.not_true, Bool.not_false, d1]
    exact .mk _ (.refl _) (.refl _) ⟨by rw [e]; rfl, by rw [e, upd_self hid]⟩
  · have e : takeD st s = (true, nextD st) := by simp [takeD, d1]
    have w1 : IntKind.i64.wrap ((st.pos : Int) + 1) = ((st.pos + 1 : Nat) : Int) := by have := hw.1; have := hw.2.2; rw [wr64 _ (by omega)]; omega
    simp -implicitDefEqProofs only [go_sem, ↓reduceIte, Nat.reduceLT, Nat.reduceEqDiff, Nat.reduceAdd, Nat.reduceLeDiff, Nat.reduceMul, Nat.reduceSub, Int.natCast_zero, Int.ofNat_zero, Int.natCast_one, Int.cast_ofNat_Int, bne_self_eq_false, beq_self_eq_true, Int.reduceBEq, Int.reduceBNe, Bool.not_true, Bool.not_false, g, d1, w1]
    exact .mk _ (.refl _) (.refl _) ⟨by rw [e]; rfl, by rw [e]; rfl⟩

theorem PO_same (h : Heap) (id : Nat) (st : PS) : upd h id (some (PO st)) id = some (PO st) := upd_same ..

theorem must_ok (st : PS) (s : Txt) (hw : WfP st) : PC 82 [.s s] st (.tup []) (mustD st s) := fun h id hid => by
  refine FnOK.body hU hm Tryd.func82 rfl (by kernel_rfl) 10 rfl [] rfl (Nat.le_of_ble_eq_true rfl) (fun hwf => ?_)
  simp -implicitDefEqProofs only [go_sem, ↓reduceIte, Nat.reduceLT, Nat.reduceEqDiff, Nat.reduceAdd, Nat.reduceLeDiff, Nat.reduceMul, Nat.reduceSub, Int.natCast_zero, Int.ofNat_zero, Int.natCast_one, Int.cast_ofNat_Int, bne_self_eq_false, beq_self_eq_true, Int.reduceBEq, Int.reduceBNe, Bool.not_true, Bool.not_false]
  refine (take_ok st s hw).go hid ?_
  cases d1 : isD st s
  · have e : takeD st s = (false, st) := by simp [takeD, d1]
    rw [e, upd_self hid]
    simp -implicitDefEqProofs only [go_sem, ↓reduceIte, Nat.reduceLT, Nat.reduceEqDiff, Nat.reduceAdd, Nat.reduceLeDiff, Nat.reduceMul, Nat.reduceSub, Int.natCast_zero, Int.ofNat_zero, Int.natCast_one, Int.cast_ofNat_Int, bne_self_eq_false, beq_self_eq_true, Int.reduceBEq, Int.reduceBNe, Bool.not_true, Bool.not_false]
    refine (stuck_ok st hw).go hid ?_
    simp -implicitDefEqProofs only [go_sem, ↓reduceIte, Nat.reduceLT, Nat.reduceEqDiff, Nat.reduceAdd, Nat.reduceLeDiff, Nat.reduceMul, Nat.reduceSub, Int.natCast_zero, Int.ofNat_zero, Int.natCast_one, Int.cast_ofNat_Int, bne_self_eq_false, beq_self_eq_true, Int.reduceBEq, Int.reduceBNe, Bool.not_true, Bool.not_false]
    exact .mk _ (.refl _) (.refl _) ⟨rfl, by simp [mustD, d1]⟩
  · have e : takeD st s = (true, nextD st) := by simp [takeD, d1]
    rw [e]
    simp -implicitDefEqProofs only [go_sem, ↓reduceIte, Nat.reduceLT, Nat.reduceEqDiff, Nat.reduceAdd, Nat.reduceLeDiff, Nat.reduceMul, Nat.reduceSub, Int.natCast_zero, Int.ofNat_zero, Int.natCast_one, Int.cast_ofNat_Int, bne_self_eq_false, beq_self_eq_true, Int.reduceBEq, Int.reduceBNe, Bool.not_true, Bool.not_false]
    exact .mk _ (.refl _) (.refl _) ⟨rfl, by simp [mustD, d1]⟩

theorem pname_ok (st : PS) (hw : WfP st) : PC 80 [] st (.s (nameP st).1) (nameP st).2 := fun h id hid => by
  refine FnOK.body hU hm Tryd.func80 rfl (by kernel_rfl) 25 rfl [.tmp 2] rfl (Nat.le_of_ble_eq_true rfl) (fun hwf => ?_)
  have g := hid
  unfold PO at g
  have w1 : IntKind.i64.wrap ((st.pos : Int) + 1) = ((st.pos + 1 : Nat) : Int) := by have := hw.1; have := hw.2.2; rw [wr64 _ (by omega)]; omega
  simp -implicitDefEqProofs only [go_sem, ↓reduceIte, Nat.reduceLT, Nat.reduceEqDiff, Nat.reduceAdd, Nat.reduceLeDiff, Nat.reduceMul, Nat.reduceSub, Int.natCast_zero, Int.ofNat_zero, Int.natCast_one, Int.cast_ofNat_Int, bne_self_eq_false, beq_self_eq_true, Int.reduceBEq, Int.reduceBNe, Bool.not_true, Bool.not_false]
  refine (here_ok st hw).go hid ?_
  rw [upd_self hid]
  simp -implicitDefEqProofs only [go_sem, ↓reduceIte, Nat.reduceLT, Nat.reduceEqDiff, Nat.reduceAdd, Nat.reduceLeDiff, Nat.reduceMul, Nat.reduceSub, Int.natCast_zero, Int.ofNat_zero, Int.natCast_one, Int.cast_ofNat_Int, bne_self_eq_false, beq_self_eq_true, Int.reduceBEq, Int.reduceBNe, Bool.not_true, Bool.not_false, tokA]
  intro i2 hi2
  have n2 : id ≠ i2 := fun e => by rw [e, hi2] at hid; cases hid
  cases d1 : ((hereD st).kind != 1)
  case true =>
    have e1 : (hereD st).kind ≠ 1 := by simpa using d1
    have en : nameP st = ([], stuckD st) := by simp [nameP, e1]
    simp -implicitDefEqProofs only [go_sem, ↓reduceIte, Nat.reduceLT, Nat.reduceEqDiff, Nat.reduceAdd, Nat.reduceLeDiff, Nat.reduceMul, Nat.reduceSub, Int.natCast_zero, Int.ofNat_zero, Int.natCast_one, Int.cast_ofNat_Int, bne_self_eq_false, beq_self_eq_true, Int.reduceBEq, Int.reduceBNe, Bool.not_true, Bool.not_false, g, upd_ne, n2, d1]
    have hid2 : upd h i2 (some (.obj [.v (.int .i64 (hereD st).kind), .v (.int .i64 (hereD st).pos), .v (.int .i64 (hereD st).n), .s (hereD st).s] 97)) id = some (PO st) := by rw [upd_other _ _ n2]; exact hid
    refine (stuck_ok st hw).go hid2 ?_
    have hb : (stuckD st).bad ≠ 0 := by
      unfold stuckD wrongD; split
      · show (5 : Int) ≠ 0; decide
      · assumption
    have d2 : ((stuckD st).bad != 0) = true := by simpa using hb
    simp -implicitDefEqProofs only [go_sem, ↓reduceIte, Nat.reduceLT, Nat.reduceEqDiff, Nat.reduceAdd, Nat.reduceLeDiff, Nat.reduceMul, Nat.reduceSub, Int.natCast_zero, Int.ofNat_zero, Int.natCast_one, Int.cast_ofNat_Int, bne_self_eq_false, beq_self_eq_true, Int.reduceBEq, Int.reduceBNe, Bool.not_true, Bool.not_false, PO, d2]
    exact .mk _ (.refl _) (Sub.both (.upd_new hi2) _ _) ⟨by rw [en]; rfl, by rw [en]; try rfl⟩
  have e1 : (hereD st).kind = 1 := by simpa using d1
  cases d2 : (st.bad != 0)
  case true =>
    have e2 : st.bad ≠ 0 := by simpa using d2
    have en : nameP st = ([], st) := by simp [nameP, e1, e2]
    simp -implicitDefEqProofs only [go_sem, ↓reduceIte, Nat.reduceLT, Nat.reduceEqDiff, Nat.reduceAdd, Nat.reduceLeDiff, Nat.reduceMul, Nat.reduceSub, Int.natCast_zero, Int.ofNat_zero, Int.natCast_one, Int.cast_ofNat_Int, bne_self_eq_false, beq_self_eq_true, Int.reduceBEq, Int.reduceBNe, Bool.not_true, Bool.not_false, g, upd_ne, n2, d1, d2]
    exact .mk _ (.refl _) (.upd_new hi2) ⟨by rw [en]; rfl, by rw [en]; exact (upd_self hid).symm⟩
  have e2 : st.bad = 0 := by simpa using d2
  have en : nameP st = ((hereD st).s, nextD st) := by simp [nameP, e1, e2]
  simp -implicitDefEqProofs only [go_sem, ↓reduceIte, Nat.reduceLT, Nat.reduceEqDiff, Nat.reduceAdd, Nat.reduceLeDiff, Nat.reduceMul, Nat.reduceSub, Int.natCast_zero, Int.ofNat_zero, Int.natCast_one, Int.cast_ofNat_Int, bne_self_eq_false, beq_self_eq_true, Int.reduceBEq, Int.reduceBNe, Bool.not_true, Bool.not_false, g, upd_ne, n2, n2.symm, d1, d2, w1]
  exact .mk _ (.refl _) (Sub.both (.upd_new hi2) _ _) ⟨by rw [en]; rfl, by rw [en]; try rfl⟩

theorem PC.run {f : FuncId} {args : List AV} {st st' : PS} {R : AV} (hc : PC f args st R st') {G : Heap} {id : Nat} {Q : AV → Heap → Prop} (k : Q R (upd G id (some (PO st')))) : FnOK Tryd.prog f (.ptr id 0 :: args) (upd G id (some (PO st))) Q :=
  hc.go (upd_same ..) (by rw [upd_upd]; exact k)
theorem PC.of {f : FuncId} {args : List AV} {st st' : PS} {R : AV} (hk : ∀ (G : Heap) (id : Nat), FnOK Tryd.prog f (.ptr id 0 :: args) (upd G id (some (PO st))) fun r h' => r = R ∧ h' = upd G id (some (PO st'))) : PC f args st R st' := fun h id hid => by
  have := hk h id
  rw [upd_self hid] at this
  exact this
theorem upd_comm {α : Type} (f : Nat → α) {i j : Nat} (x y : α) (h : i ≠ j) : upd (upd f i x) j y = upd (upd f j y) i x := by
  funext k
  by_cases hi : k = i
  · subst hi; rw [upd_other _ _ h, upd_same, upd_same]
  · by_cases hj : k = j
    · subst hj; rw [upd_same, upd_other _ _ hi, upd_same]
    · rw [upd_other _ _ hj, upd_other _ _ hi, upd_other _ _ hi, upd_other _ _ hj]

theorem idxT_lt {s : Txt} : ∀ {ws : List Txt} {i : Nat}, idxT s ws = some i → i < ws.length
  | w :: r, i, h => by
    simp only [idxT] at h
    split at h
    · cases h; simp
    · cases hr : idxT s r with
      | none => rw [hr] at h; cases h
      | some j => rw [hr] at h; cases h; have := idxT_lt hr; simp; omega
theorem idxT_at {s : Txt} : ∀ {ws : List Txt} (i : Nat) (hi : i < ws.length), (∀ j (hj : j < ws.length), j < i → ws[j] ≠ s) → ws[i] = s → idxT s ws = some i
  | w :: r, 0, _, _, h => by simp only [List.getElem_cons_zero] at h; simp [idxT, h]
  | w :: r, i + 1, hi, hb, h => by
    have h0 := hb 0 (by simp) (by omega)
    simp only [List.getElem_cons_zero] at h0
    simp only [idxT, if_neg h0]
    rw [idxT_at i (by simpa using hi) (fun j hj hlt => by have := hb (j + 1) (by simpa using hj) (by omega); simpa using this) (by simpa using h)]
    rfl
theorem idxT_none {s : Txt} : ∀ {ws : List Txt}, (∀ j (hj : j < ws.length), ws[j] ≠ s) → idxT s ws = none
  | [], _ => rfl
  | w :: r, hb => by
    have h0 := hb 0 (by simp)
    simp only [List.getElem_cons_zero] at h0
    simp only [idxT, if_neg h0]
    rw [idxT_none (fun j hj => by have := hb (j + 1) (by simpa using hj); simpa using this)]
    rfl
def idxI (o : Option Nat) : Int := match o with
  | some i => i
  | none => -1
theorem indexT_ok (ws : List Txt) (q : Perm) (s : Txt) (hl : ws.length ≤ 1000) (h : Heap) : FnOK Tryd.prog 107 [.sl (ws.map AV.s) q, .s s] h fun r h' => r = .v (.int .i64 (idxI (idxT s ws))) ∧ h' = h := by
  refine FnOK.body hU hm Tryd.func107 rfl (by kernel_rfl) 19 rfl [.tmp 4] rfl (Nat.le_of_ble_eq_true rfl) (fun hwf => ?_)
  simp -implicitDefEqProofs only [go_sem, ↓reduceIte, Nat.reduceLT, Nat.reduceEqDiff, Nat.reduceAdd, Nat.reduceLeDiff, Nat.reduceMul, Nat.reduceSub, Int.natCast_zero, Int.ofNat_zero, Int.natCast_one, Int.cast_ofNat_Int, bne_self_eq_false, beq_self_eq_true, Int.reduceBEq, Int.reduceBNe, Bool.not_true, Bool.not_false, List.length_map]
  refine .intro (fun m ρ h' => h' = h ∧ ∃ i : Nat, i ≤ ws.length ∧ m = ws.length - i ∧ (∀ j (hj : j < ws.length), j < i → ws[j] ≠ s) ∧ lk ρ 0 = some (.sl (ws.map AV.s) q) ∧ lk ρ 1 = some (.s s) ∧ lk ρ 7 = some (.v (.int .i64 ws.length)) ∧ lk ρ 8 = some (.v (.int .i64 i))) ws.length ?_ ?_
  · refine ⟨rfl, 0, by omega, rfl, fun j _ hj => (by omega), ?_, ?_, ?_, ?_⟩ <;> simp -implicitDefEqProofs only [go_sem, ↓reduceIte, Nat.reduceLT, Nat.reduceEqDiff, Nat.reduceAdd, Nat.reduceLeDiff, Nat.reduceMul, Nat.reduceSub, Int.natCast_zero, Int.ofNat_zero, Int.natCast_one, Int.cast_ofNat_Int, bne_self_eq_false, beq_self_eq_true, Int.reduceBEq, Int.reduceBNe, Bool.not_true, Bool.not_false]
  · rintro m ρ h' ⟨rfl, i, hi, rfl, hc, r0, r1, r7, r8⟩
    simp -implicitDefEqProofs only [go_sem, ↓reduceIte, Nat.reduceLT, Nat.reduceEqDiff, Nat.reduceAdd, Nat.reduceLeDiff, Nat.reduceMul, Nat.reduceSub, Int.natCast_zero, Int.ofNat_zero, Int.natCast_one, Int.cast_ofNat_Int, bne_self_eq_false, beq_self_eq_true, Int.reduceBEq, Int.reduceBNe, Bool.not_true, Bool.not_false, r0, r1, r7, r8]
    refine .intro (fun e => ?_) (fun e => ?_)
    · have hlt : i < ws.length := Int.ofNat_lt.1 (of_decide_eq_true e)
      have w1 : IntKind.i64.wrap ((i : Int) + 1) = ((i + 1 : Nat) : Int) := by rw [wr64 _ (by omega)]; omega
      simp -implicitDefEqProofs only [go_sem, ↓reduceIte, Nat.reduceLT, Nat.reduceEqDiff, Nat.reduceAdd, Nat.reduceLeDiff, Nat.reduceMul, Nat.reduceSub, Int.natCast_zero, Int.ofNat_zero, Int.natCast_one, Int.cast_ofNat_Int, bne_self_eq_false, beq_self_eq_true, Int.reduceBEq, Int.reduceBNe, Bool.not_true, Bool.not_false, r0, r1, r7, r8]
      refine .at i (by simpa using hlt) (by rw [List.getElem_map]; rfl) ?_
      cases d1 : (s == ws[i])
      · have e1 : ws[i] ≠ s := by intro e; rw [e] at d1; simp at d1
        simp -implicitDefEqProofs only [go_sem, ↓reduceIte, Nat.reduceLT, Nat.reduceEqDiff, Nat.reduceAdd, Nat.reduceLeDiff, Nat.reduceMul, Nat.reduceSub, Int.natCast_zero, Int.ofNat_zero, Int.natCast_one, Int.cast_ofNat_Int, bne_self_eq_false, beq_self_eq_true, Int.reduceBEq, Int.reduceBNe, Bool.not_true, Bool.not_false, r0, r1, r7, r8, List.getElem_map, d1, w1]
        refine ⟨_, ?_, rfl, i + 1, by omega, rfl, fun j hj hji => ?_, ?_, ?_, ?_, ?_⟩
        · omega
        · by_cases e : j = i
          · subst e; exact e1
          · exact hc j hj (by omega)
        all_goals simp -implicitDefEqProofs only [go_sem, ↓reduceIte, Nat.reduceLT, Nat.reduceEqDiff, Nat.reduceAdd, Nat.reduceLeDiff, Nat.reduceMul, Nat.reduceSub, Int.natCast_zero, Int.ofNat_zero, Int.natCast_one, Int.cast_ofNat_Int, bne_self_eq_false, beq_self_eq_true, Int.reduceBEq, Int.reduceBNe, Bool.not_true, Bool.not_false, r0, r1, r7, r8, w1]
      · have e1 : ws[i] = s := by have : s = ws[i] := by simpa using d1
                                  exact this.symm
        simp -implicitDefEqProofs only [go_sem, ↓reduceIte, Nat.reduceLT, Nat.reduceEqDiff, Nat.reduceAdd, Nat.reduceLeDiff, Nat.reduceMul, Nat.reduceSub, Int.natCast_zero, Int.ofNat_zero, Int.natCast_one, Int.cast_ofNat_Int, bne_self_eq_false, beq_self_eq_true, Int.reduceBEq, Int.reduceBNe, Bool.not_true, Bool.not_false, r0, r1, r7, r8, List.getElem_map, d1]
        exact .same (.refl _) ⟨by rw [idxT_at i hlt hc e1]; rfl, rfl⟩
    · have hge : i = ws.length := by have := of_decide_eq_false e; omega
      subst hge
      simp -implicitDefEqProofs only [go_sem, ↓reduceIte, Nat.reduceLT, Nat.reduceEqDiff, Nat.reduceAdd, Nat.reduceLeDiff, Nat.reduceMul, Nat.reduceSub, Int.natCast_zero, Int.ofNat_zero, Int.natCast_one, Int.cast_ofNat_Int, bne_self_eq_false, beq_self_eq_true, Int.reduceBEq, Int.reduceBNe, Bool.not_true, Bool.not_false, r0, r1, r7, r8]
      exact .same (.refl _) ⟨by rw [idxT_none fun j hj => hc j hj hj]; rfl, rfl⟩

theorem among_ok (st : PS) (ws : List Txt) (q : Perm) (hl : ws.length ≤ 1000) (hw : WfP st) : PC 79 [.sl (ws.map AV.s) q] st (.v (.int .i64 (amongD st ws).1)) (amongD st ws).2 := .of fun G id => by
  refine FnOK.body hU hm Tryd.func79 rfl (by kernel_rfl) 28 rfl [.tmp 4] rfl (Nat.le_of_ble_eq_true rfl) (fun hwf => ?_)
  simp -implicitDefEqProofs only [go_sem, ↓reduceIte, Nat.reduceLT, Nat.reduceEqDiff, Nat.reduceAdd, Nat.reduceLeDiff, Nat.reduceMul, Nat.reduceSub, Int.natCast_zero, Int.ofNat_zero, Int.natCast_one, Int.cast_ofNat_Int, bne_self_eq_false, beq_self_eq_true, Int.reduceBEq, Int.reduceBNe, Bool.not_true, Bool.not_false]
  refine (here_ok st hw).run ?_
  simp -implicitDefEqProofs only [go_sem, ↓reduceIte, Nat.reduceLT, Nat.reduceEqDiff, Nat.reduceAdd, Nat.reduceLeDiff, Nat.reduceMul, Nat.reduceSub, Int.natCast_zero, Int.ofNat_zero, Int.natCast_one, Int.cast_ofNat_Int, bne_self_eq_false, beq_self_eq_true, Int.reduceBEq, Int.reduceBNe, Bool.not_true, Bool.not_false, tokA]
  intro i2 hi2
  have n2 := ne_upd hi2
  have hG2 : G i2 = none := by rw [upd_other _ _ n2] at hi2; exact hi2
  have c2 : ∀ (f : Heap) (x y : Option Blk), upd (upd f id x) i2 y = upd (upd f i2 y) id x := fun f x y => upd_comm f x y n2.symm
  cases d1 : ((hereD st).kind == 1)
  · have e1 : (hereD st).kind ≠ 1 := by simpa using d1
    have en : amongD st ws = (0, stuckD st) := by unfold amongD; split <;> simp [e1]
    simp -implicitDefEqProofs only [go_sem, ↓reduceIte, Nat.reduceLT, Nat.reduceEqDiff, Nat.reduceAdd, Nat.reduceLeDiff, Nat.reduceMul, Nat.reduceSub, Int.natCast_zero, Int.ofNat_zero, Int.natCast_one, Int.cast_ofNat_Int, bne_self_eq_false, beq_self_eq_true, Int.reduceBEq, Int.reduceBNe, Bool.not_true, Bool.not_false, c2, upd_ne, n2, d1]
    refine (stuck_ok st hw).run ?_
    simp -implicitDefEqProofs only [go_sem, ↓reduceIte, Nat.reduceLT, Nat.reduceEqDiff, Nat.reduceAdd, Nat.reduceLeDiff, Nat.reduceMul, Nat.reduceSub, Int.natCast_zero, Int.ofNat_zero, Int.natCast_one, Int.cast_ofNat_Int, bne_self_eq_false, beq_self_eq_true, Int.reduceBEq, Int.reduceBNe, Bool.not_true, Bool.not_false]
    exact .mk _ (.refl _) (Sub.both (.upd_new hG2) _ _) ⟨by rw [en]; rfl, by rw [en]⟩
  have e1 : (hereD st).kind = 1 := by simpa using d1
  simp -implicitDefEqProofs only [go_sem, ↓reduceIte, Nat.reduceLT, Nat.reduceEqDiff, Nat.reduceAdd, Nat.reduceLeDiff, Nat.reduceMul, Nat.reduceSub, Int.natCast_zero, Int.ofNat_zero, Int.natCast_one, Int.cast_ofNat_Int, bne_self_eq_false, beq_self_eq_true, Int.reduceBEq, Int.reduceBNe, Bool.not_true, Bool.not_false, c2, upd_ne, n2, d1]
  refine (indexT_ok ws q _ hl _).pthen ?_
  cases ei : idxT (hereD st).s ws with
  | none =>
    have en : amongD st ws = (0, stuckD st) := by simp [amongD, ei]
    have dm : decide ((0 : Int) ≤ -1) = false := by decide
    simp -implicitDefEqProofs only [go_sem, ↓reduceIte, Nat.reduceLT, Nat.reduceEqDiff, Nat.reduceAdd, Nat.reduceLeDiff, Nat.reduceMul, Nat.reduceSub, Int.natCast_zero, Int.ofNat_zero, Int.natCast_one, Int.cast_ofNat_Int, bne_self_eq_false, beq_self_eq_true, Int.reduceBEq, Int.reduceBNe, Bool.not_true, Bool.not_false, idxI, dm]
    refine (stuck_ok st hw).run ?_
    simp -implicitDefEqProofs only [go_sem, ↓reduceIte, Nat.reduceLT, Nat.reduceEqDiff, Nat.reduceAdd, Nat.reduceLeDiff, Nat.reduceMul, Nat.reduceSub, Int.natCast_zero, Int.ofNat_zero, Int.natCast_one, Int.cast_ofNat_Int, bne_self_eq_false, beq_self_eq_true, Int.reduceBEq, Int.reduceBNe, Bool.not_true, Bool.not_false]
    exact .mk _ (.refl _) (Sub.both (.upd_new hG2) _ _) ⟨by rw [en]; rfl, by rw [en]⟩
  | some i =>
    have hil := idxT_lt ei
    have d2 : decide (0 ≤ (i : Int)) = true := by simp
    have w1 : IntKind.i64.wrap ((i : Int) + 1) = ((i : Int) + 1) := by rw [wr64 _ (by omega)]
    simp -implicitDefEqProofs only [go_sem, ↓reduceIte, Nat.reduceLT, Nat.reduceEqDiff, Nat.reduceAdd, Nat.reduceLeDiff, Nat.reduceMul, Nat.reduceSub, Int.natCast_zero, Int.ofNat_zero, Int.natCast_one, Int.cast_ofNat_Int, bne_self_eq_false, beq_self_eq_true, Int.reduceBEq, Int.reduceBNe, Bool.not_true, Bool.not_false, idxI, d2, upd_ne, n2]
    refine (take_ok st _ hw).run ?_
    cases d3 : (st.bad == 0)
    · have e3 : st.bad ≠ 0 := by simpa using d3
      have et : takeD st (hereD st).s = (false, st) := by simp [takeD, isD, d3]
      have en : amongD st ws = (0, stuckD st) := by simp [amongD, ei, e3]
      rw [et]
      simp -implicitDefEqProofs only [go_sem, ↓reduceIte, Nat.reduceLT, Nat.reduceEqDiff, Nat.reduceAdd, Nat.reduceLeDiff, Nat.reduceMul, Nat.reduceSub, Int.natCast_zero, Int.ofNat_zero, Int.natCast_one, Int.cast_ofNat_Int, bne_self_eq_false, beq_self_eq_true, Int.reduceBEq, Int.reduceBNe, Bool.not_true, Bool.not_false]
      refine (stuck_ok st hw).run ?_
      simp -implicitDefEqProofs only [go_sem, ↓reduceIte, Nat.reduceLT, Nat.reduceEqDiff, Nat.reduceAdd, Nat.reduceLeDiff, Nat.reduceMul, Nat.reduceSub, Int.natCast_zero, Int.ofNat_zero, Int.natCast_one, Int.cast_ofNat_Int, bne_self_eq_false, beq_self_eq_true, Int.reduceBEq, Int.reduceBNe, Bool.not_true, Bool.not_false]
      exact .mk _ (.refl _) (Sub.both (.upd_new hG2) _ _) ⟨by rw [en]; rfl, by rw [en]⟩
    · have e3 : st.bad = 0 := by simpa using d3
      have et : takeD st (hereD st).s = (true, nextD st) := by simp [takeD, isD, e3, e1]
      have en : amongD st ws = ((i : Int) + 1, nextD st) := by simp [amongD, ei, e3, e1]
      rw [et]
      simp -implicitDefEqProofs only [go_sem, ↓reduceIte, Nat.reduceLT, Nat.reduceEqDiff, Nat.reduceAdd, Nat.reduceLeDiff, Nat.reduceMul, Nat.reduceSub, Int.natCast_zero, Int.ofNat_zero, Int.natCast_one, Int.cast_ofNat_Int, bne_self_eq_false, beq_self_eq_true, Int.reduceBEq, Int.reduceBNe, Bool.not_true, Bool.not_false, w1]
      exact .mk _ (.refl _) (Sub.both (.upd_new hG2) _ _) ⟨by rw [en]; rfl, by rw [en]⟩
end Go.Proofs.YtdcchpbncckhlaaDoor

/- The parser: attributes, values, matches. -/
set_option linter.unusedSimpArgs false
set_option linter.unusedVariables false
namespace Go.Proofs.YtdcchpbncckhlaaDoor
open Go Go.Ab Go.Bf

theorem attr_p (st : PS) (hw : WfP st) : PC 148 [] st (attrA (attrP st).1) (attrP st).2 := .of fun G id => by
  have h1 := ah_among catWs hw
  have h2 := ah_must [46] h1.1
  have h3 := ah_name h2.1
  refine FnOK.body hU hm Tryd.func148 rfl (by kernel_rfl) 17 rfl [.cell 2 23] rfl (Nat.le_of_ble_eq_true rfl) (fun hwf => ?_)
  simp -implicitDefEqProofs only [go_sem, ↓reduceIte, Nat.reduceLT, Nat.reduceEqDiff, Nat.reduceAdd, Nat.reduceLeDiff, Nat.reduceMul, Nat.reduceSub, Int.natCast_zero, Int.ofNat_zero, Int.natCast_one, Int.cast_ofNat_Int, bne_self_eq_false, beq_self_eq_true, Int.reduceBEq, Int.reduceBNe, Bool.not_true, Bool.not_false]
  intro i2 hi2
  have n2 := ne_upd hi2
  have hG2 : G i2 = none := by rw [upd_other _ _ n2] at hi2; exact hi2
  have c2 : ∀ (f : Heap) (x y : Option Blk), upd (upd f id x) i2 y = upd (upd f i2 y) id x := fun f x y => upd_comm f x y n2.symm
  simp -implicitDefEqProofs only [go_sem, ↓reduceIte, Nat.reduceLT, Nat.reduceEqDiff, Nat.reduceAdd, Nat.reduceLeDiff, Nat.reduceMul, Nat.reduceSub, Int.natCast_zero, Int.ofNat_zero, Int.natCast_one, Int.cast_ofNat_Int, bne_self_eq_false, beq_self_eq_true, Int.reduceBEq, Int.reduceBNe, Bool.not_true, Bool.not_false, c2]
  intro i3 hi3
  have n3 := ne_upd hi3
  have hi3' := hi3
  rw [upd_other _ _ n3] at hi3'
  have n32 := ne_upd hi3'
  have hG3 : G i3 = none := by rw [upd_other _ _ n32] at hi3'; exact hi3'
  have c3 : ∀ (f : Heap) (x y : Option Blk), upd (upd f id x) i3 y = upd (upd f i3 y) id x := fun f x y => upd_comm f x y n3.symm
  have c23 : ∀ (f : Heap) (x y : Option Blk), upd (upd f i3 x) i2 y = upd (upd f i2 y) i3 x := fun f x y => upd_comm f x y n32
  have m32 : ¬ i3 = i2 := n32
  have m23 : ¬ i2 = i3 := n32.symm
  simp -implicitDefEqProofs only [go_sem, ↓reduceIte, Nat.reduceLT, Nat.reduceEqDiff, Nat.reduceAdd, Nat.reduceLeDiff, Nat.reduceMul, Nat.reduceSub, Int.natCast_zero, Int.ofNat_zero, Int.natCast_one, Int.cast_ofNat_Int, bne_self_eq_false, beq_self_eq_true, Int.reduceBEq, Int.reduceBNe, Bool.not_true, Bool.not_false, c2, c3, c23]
  refine (among_ok st catWs .full (by decide) hw).run ?_
  simp -implicitDefEqProofs only [go_sem, ↓reduceIte, Nat.reduceLT, Nat.reduceEqDiff, Nat.reduceAdd, Nat.reduceLeDiff, Nat.reduceMul, Nat.reduceSub, Int.natCast_zero, Int.ofNat_zero, Int.natCast_one, Int.cast_ofNat_Int, bne_self_eq_false, beq_self_eq_true, Int.reduceBEq, Int.reduceBNe, Bool.not_true, Bool.not_false, c2, c3, c23, upd_ne, n2, n3, m32, m23]
  refine (must_ok _ [46] h1.1).run ?_
  simp -implicitDefEqProofs only [go_sem, ↓reduceIte, Nat.reduceLT, Nat.reduceEqDiff, Nat.reduceAdd, Nat.reduceLeDiff, Nat.reduceMul, Nat.reduceSub, Int.natCast_zero, Int.ofNat_zero, Int.natCast_one, Int.cast_ofNat_Int, bne_self_eq_false, beq_self_eq_true, Int.reduceBEq, Int.reduceBNe, Bool.not_true, Bool.not_false, c2, c3, c23, upd_ne, n2, n3, m32, m23]
  refine (pname_ok _ h2.1).run ?_
  simp -implicitDefEqProofs only [go_sem, ↓reduceIte, Nat.reduceLT, Nat.reduceEqDiff, Nat.reduceAdd, Nat.reduceLeDiff, Nat.reduceMul, Nat.reduceSub, Int.natCast_zero, Int.ofNat_zero, Int.natCast_one, Int.cast_ofNat_Int, bne_self_eq_false, beq_self_eq_true, Int.reduceBEq, Int.reduceBNe, Bool.not_true, Bool.not_false, c2, c3, c23, upd_ne, n2, n3, m32, m23]
  refine (take_ok _ [33] h3.1).run ?_
  simp -implicitDefEqProofs only [go_sem, ↓reduceIte, Nat.reduceLT, Nat.reduceEqDiff, Nat.reduceAdd, Nat.reduceLeDiff, Nat.reduceMul, Nat.reduceSub, Int.natCast_zero, Int.ofNat_zero, Int.natCast_one, Int.cast_ofNat_Int, bne_self_eq_false, beq_self_eq_true, Int.reduceBEq, Int.reduceBNe, Bool.not_true, Bool.not_false, c2, c3, c23, upd_ne, n2, n3, m32, m23]
  exact .mk _ (.refl _) (Sub.both (by repeat (first | exact .refl _ | refine Sub.put ?_ (by assumption) _)) _ _) ⟨rfl, rfl⟩

set_option maxRecDepth 20000 in
theorem value_p (st : PS) (hw : WfP st) : PC 149 [] st (valA (valueP st).1) (valueP st).2 := .of fun G id => by
  refine FnOK.body hU hm Tryd.func149 rfl (by kernel_rfl) 56 rfl [.cell 2 25] rfl (Nat.le_of_ble_eq_true rfl) (fun hwf => ?_)
  have w1 : IntKind.i64.wrap ((st.pos : Int) + 1) = ((st.pos + 1 : Nat) : Int) := by have := hw.1; have := hw.2.2; rw [wr64 _ (by omega)]; omega
  simp -implicitDefEqProofs only [go_sem, ↓reduceIte, Nat.reduceLT, Nat.reduceEqDiff, Nat.reduceAdd, Nat.reduceLeDiff, Nat.reduceMul, Nat.reduceSub, Int.natCast_zero, Int.ofNat_zero, Int.natCast_one, Int.cast_ofNat_Int, bne_self_eq_false, beq_self_eq_true, Int.reduceBEq, Int.reduceBNe, Bool.not_true, Bool.not_false]
  intro i2 hi2
  have n2 := ne_upd hi2
  have hG2 : G i2 = none := by rw [upd_other _ _ n2] at hi2; exact hi2
  have c2 : ∀ (f : Heap) (x y : Option Blk), upd (upd f id x) i2 y = upd (upd f i2 y) id x := fun f x y => upd_comm f x y n2.symm
  simp -implicitDefEqProofs only [go_sem, ↓reduceIte, Nat.reduceLT, Nat.reduceEqDiff, Nat.reduceAdd, Nat.reduceLeDiff, Nat.reduceMul, Nat.reduceSub, Int.natCast_zero, Int.ofNat_zero, Int.natCast_one, Int.cast_ofNat_Int, bne_self_eq_false, beq_self_eq_true, Int.reduceBEq, Int.reduceBNe, Bool.not_true, Bool.not_false, c2]
  refine (here_ok st hw).run ?_
  simp -implicitDefEqProofs only [go_sem, ↓reduceIte, Nat.reduceLT, Nat.reduceEqDiff, Nat.reduceAdd, Nat.reduceLeDiff, Nat.reduceMul, Nat.reduceSub, Int.natCast_zero, Int.ofNat_zero, Int.natCast_one, Int.cast_ofNat_Int, bne_self_eq_false, beq_self_eq_true, Int.reduceBEq, Int.reduceBNe, Bool.not_true, Bool.not_false, tokA]
  intro i3 hi3
  have n3 := ne_upd hi3
  have hi3' := hi3
  rw [upd_other _ _ n3] at hi3'
  have n32 := ne_upd hi3'
  have hG3 : G i3 = none := by rw [upd_other _ _ n32] at hi3'; exact hi3'
  have c3 : ∀ (f : Heap) (x y : Option Blk), upd (upd f id x) i3 y = upd (upd f i3 y) id x := fun f x y => upd_comm f x y n3.symm
  have c23 : ∀ (f : Heap) (x y : Option Blk), upd (upd f i3 x) i2 y = upd (upd f i2 y) i3 x := fun f x y => upd_comm f x y n32
  have m32 : ¬ i3 = i2 := n32
  have m23 : ¬ i2 = i3 := n32.symm
  simp -implicitDefEqProofs only [go_sem, ↓reduceIte, Nat.reduceLT, Nat.reduceEqDiff, Nat.reduceAdd, Nat.reduceLeDiff, Nat.reduceMul, Nat.reduceSub, Int.natCast_zero, Int.ofNat_zero, Int.natCast_one, Int.cast_ofNat_Int, bne_self_eq_false, beq_self_eq_true, Int.reduceBEq, Int.reduceBNe, Bool.not_true, Bool.not_false, c2, c3, c23, upd_ne, n2, n3, m32, m23]
  intro i4 hi4
  have n4 := ne_upd hi4
  have hi4' := hi4
  rw [upd_other _ _ n4] at hi4'
  have n43 := ne_upd hi4'
  have hi4'' := hi4'
  rw [upd_other _ _ n43] at hi4''
  have n42 := ne_upd hi4''
  have hG4 : G i4 = none := by rw [upd_other _ _ n42] at hi4''; exact hi4''
  have c4 : ∀ (f : Heap) (x y : Option Blk), upd (upd f id x) i4 y = upd (upd f i4 y) id x := fun f x y => upd_comm f x y n4.symm
  have c24 : ∀ (f : Heap) (x y : Option Blk), upd (upd f i4 x) i2 y = upd (upd f i2 y) i4 x := fun f x y => upd_comm f x y n42
  have c34 : ∀ (f : Heap) (x y : Option Blk), upd (upd f i4 x) i3 y = upd (upd f i3 y) i4 x := fun f x y => upd_comm f x y n43
  have m42 : ¬ i4 = i2 := n42
  have m24 : ¬ i2 = i4 := n42.symm
  have m43 : ¬ i4 = i3 := n43
  have m34 : ¬ i3 = i4 := n43.symm
  cases k2 : ((hereD st).kind == 2)
  case true =>
    have e2 : (hereD st).kind = 2 := by simpa using k2
    have ev : valueV st = (⟨2, (hereD st).n, (hereD st).s⟩, st) := by simp [valueV, e2]
    cases kb : (st.bad != 0)
    · have eb : st.bad = 0 := by simpa using kb
      have en : valueP st = (⟨2, (hereD st).n, (hereD st).s⟩, nextD st) := by simp [valueP, ev, eb]
      simp -implicitDefEqProofs only [go_sem, ↓reduceIte, Nat.reduceLT, Nat.reduceEqDiff, Nat.reduceAdd, Nat.reduceLeDiff, Nat.reduceMul, Nat.reduceSub, Int.natCast_zero, Int.ofNat_zero, Int.natCast_one, Int.cast_ofNat_Int, bne_self_eq_false, beq_self_eq_true, Int.reduceBEq, Int.reduceBNe, Bool.not_true, Bool.not_false, c2, c3, c4, c23, c24, c34, upd_ne, n2, n3, n4, m32, m23, m42, m24, m43, m34, k2, PO, kb, w1]
      exact .mk (h' := upd G id (some (PO (valueP st).2))) _ (.refl _) (by rw [en]; exact Sub.both (by repeat (first | exact .refl _ | refine Sub.put ?_ (by assumption) _)) _ _) ⟨by rw [en]; rfl, rfl⟩
    · have eb : st.bad ≠ 0 := by simpa using kb
      have en : valueP st = (⟨0, 0, []⟩, st) := by simp [valueP, ev, eb]
      simp -implicitDefEqProofs only [go_sem, ↓reduceIte, Nat.reduceLT, Nat.reduceEqDiff, Nat.reduceAdd, Nat.reduceLeDiff, Nat.reduceMul, Nat.reduceSub, Int.natCast_zero, Int.ofNat_zero, Int.natCast_one, Int.cast_ofNat_Int, bne_self_eq_false, beq_self_eq_true, Int.reduceBEq, Int.reduceBNe, Bool.not_true, Bool.not_false, c2, c3, c4, c23, c24, c34, upd_ne, n2, n3, n4, m32, m23, m42, m24, m43, m34, k2, PO, kb, w1]
      exact .mk (h' := upd G id (some (PO (valueP st).2))) _ (.refl _) (by rw [en]; exact Sub.both (by repeat (first | exact .refl _ | refine Sub.put ?_ (by assumption) _)) _ _) ⟨by rw [en]; rfl, rfl⟩
  have e2 : (hereD st).kind ≠ 2 := by simpa using k2
  cases k3 : ((hereD st).kind == 3)
  case true =>
    have e3 : (hereD st).kind = 3 := by simpa using k3
    have ev : valueV st = (⟨4, (hereD st).n, (hereD st).s⟩, st) := by simp [valueV, e3]
    cases kb : (st.bad != 0)
    · have eb : st.bad = 0 := by simpa using kb
      have en : valueP st = (⟨4, (hereD st).n, (hereD st).s⟩, nextD st) := by simp [valueP, ev, eb]
      simp -implicitDefEqProofs only [go_sem, ↓reduceIte, Nat.reduceLT, Nat.reduceEqDiff, Nat.reduceAdd, Nat.reduceLeDiff, Nat.reduceMul, Nat.reduceSub, Int.natCast_zero, Int.ofNat_zero, Int.natCast_one, Int.cast_ofNat_Int, bne_self_eq_false, beq_self_eq_true, Int.reduceBEq, Int.reduceBNe, Bool.not_true, Bool.not_false, c2, c3, c4, c23, c24, c34, upd_ne, n2, n3, n4, m32, m23, m42, m24, m43, m34, k2, k3, PO, kb, w1]
      exact .mk (h' := upd G id (some (PO (valueP st).2))) _ (.refl _) (by rw [en]; exact Sub.both (by repeat (first | exact .refl _ | refine Sub.put ?_ (by assumption) _)) _ _) ⟨by rw [en]; rfl, rfl⟩
    · have eb : st.bad ≠ 0 := by simpa using kb
      have en : valueP st = (⟨0, 0, []⟩, st) := by simp [valueP, ev, eb]
      simp -implicitDefEqProofs only [go_sem, ↓reduceIte, Nat.reduceLT, Nat.reduceEqDiff, Nat.reduceAdd, Nat.reduceLeDiff, Nat.reduceMul, Nat.reduceSub, Int.natCast_zero, Int.ofNat_zero, Int.natCast_one, Int.cast_ofNat_Int, bne_self_eq_false, beq_self_eq_true, Int.reduceBEq, Int.reduceBNe, Bool.not_true, Bool.not_false, c2, c3, c4, c23, c24, c34, upd_ne, n2, n3, n4, m32, m23, m42, m24, m43, m34, k2, k3, PO, kb, w1]
      exact .mk (h' := upd G id (some (PO (valueP st).2))) _ (.refl _) (by rw [en]; exact Sub.both (by repeat (first | exact .refl _ | refine Sub.put ?_ (by assumption) _)) _ _) ⟨by rw [en]; rfl, rfl⟩
  have e3 : (hereD st).kind ≠ 3 := by simpa using k3
  cases k4 : ((hereD st).kind == 4)
  case true =>
    have e4 : (hereD st).kind = 4 := by simpa using k4
    have ev : valueV st = (⟨5, (hereD st).n, (hereD st).s⟩, st) := by simp [valueV, e4]
    cases kb : (st.bad != 0)
    · have eb : st.bad = 0 := by simpa using kb
      have en : valueP st = (⟨5, (hereD st).n, (hereD st).s⟩, nextD st) := by simp [valueP, ev, eb]
      simp -implicitDefEqProofs only [go_sem, ↓reduceIte, Nat.reduceLT, Nat.reduceEqDiff, Nat.reduceAdd, Nat.reduceLeDiff, Nat.reduceMul, Nat.reduceSub, Int.natCast_zero, Int.ofNat_zero, Int.natCast_one, Int.cast_ofNat_Int, bne_self_eq_false, beq_self_eq_true, Int.reduceBEq, Int.reduceBNe, Bool.not_true, Bool.not_false, c2, c3, c4, c23, c24, c34, upd_ne, n2, n3, n4, m32, m23, m42, m24, m43, m34, k2, k3, k4, PO, kb, w1]
      exact .mk (h' := upd G id (some (PO (valueP st).2))) _ (.refl _) (by rw [en]; exact Sub.both (by repeat (first | exact .refl _ | refine Sub.put ?_ (by assumption) _)) _ _) ⟨by rw [en]; rfl, rfl⟩
    · have eb : st.bad ≠ 0 := by simpa using kb
      have en : valueP st = (⟨0, 0, []⟩, st) := by simp [valueP, ev, eb]
      simp -implicitDefEqProofs only [go_sem, ↓reduceIte, Nat.reduceLT, Nat.reduceEqDiff, Nat.reduceAdd, Nat.reduceLeDiff, Nat.reduceMul, Nat.reduceSub, Int.natCast_zero, Int.ofNat_zero, Int.natCast_one, Int.cast_ofNat_Int, bne_self_eq_false, beq_self_eq_true, Int.reduceBEq, Int.reduceBNe, Bool.not_true, Bool.not_false, c2, c3, c4, c23, c24, c34, upd_ne, n2, n3, n4, m32, m23, m42, m24, m43, m34, k2, k3, k4, PO, kb, w1]
      exact .mk (h' := upd G id (some (PO (valueP st).2))) _ (.refl _) (by rw [en]; exact Sub.both (by repeat (first | exact .refl _ | refine Sub.put ?_ (by assumption) _)) _ _) ⟨by rw [en]; rfl, rfl⟩
  have e4 : (hereD st).kind ≠ 4 := by simpa using k4
  cases k5 : ((hereD st).kind == 5)
  case true =>
    have e5 : (hereD st).kind = 5 := by simpa using k5
    have ev : valueV st = (⟨3, (hereD st).n, (hereD st).s⟩, st) := by simp [valueV, e5]
    cases kb : (st.bad != 0)
    · have eb : st.bad = 0 := by simpa using kb
      have en : valueP st = (⟨3, (hereD st).n, (hereD st).s⟩, nextD st) := by simp [valueP, ev, eb]
      simp -implicitDefEqProofs only [go_sem, ↓reduceIte, Nat.reduceLT, Nat.reduceEqDiff, Nat.reduceAdd, Nat.reduceLeDiff, Nat.reduceMul, Nat.reduceSub, Int.natCast_zero, Int.ofNat_zero, Int.natCast_one, Int.cast_ofNat_Int, bne_self_eq_false, beq_self_eq_true, Int.reduceBEq, Int.reduceBNe, Bool.not_true, Bool.not_false, c2, c3, c4, c23, c24, c34, upd_ne, n2, n3, n4, m32, m23, m42, m24, m43, m34, k2, k3, k4, k5, PO, kb, w1]
      exact .mk (h' := upd G id (some (PO (valueP st).2))) _ (.refl _) (by rw [en]; exact Sub.both (by repeat (first | exact .refl _ | refine Sub.put ?_ (by assumption) _)) _ _) ⟨by rw [en]; rfl, rfl⟩
    · have eb : st.bad ≠ 0 := by simpa using kb
      have en : valueP st = (⟨0, 0, []⟩, st) := by simp [valueP, ev, eb]
      simp -implicitDefEqProofs only [go_sem, ↓reduceIte, Nat.reduceLT, Nat.reduceEqDiff, Nat.reduceAdd, Nat.reduceLeDiff, Nat.reduceMul, Nat.reduceSub, Int.natCast_zero, Int.ofNat_zero, Int.natCast_one, Int.cast_ofNat_Int, bne_self_eq_false, beq_self_eq_true, Int.reduceBEq, Int.reduceBNe, Bool.not_true, Bool.not_false, c2, c3, c4, c23, c24, c34, upd_ne, n2, n3, n4, m32, m23, m42, m24, m43, m34, k2, k3, k4, k5, PO, kb, w1]
      exact .mk (h' := upd G id (some (PO (valueP st).2))) _ (.refl _) (by rw [en]; exact Sub.both (by repeat (first | exact .refl _ | refine Sub.put ?_ (by assumption) _)) _ _) ⟨by rw [en]; rfl, rfl⟩
  have e5 : (hereD st).kind ≠ 5 := by simpa using k5
  simp -implicitDefEqProofs only [go_sem, ↓reduceIte, Nat.reduceLT, Nat.reduceEqDiff, Nat.reduceAdd, Nat.reduceLeDiff, Nat.reduceMul, Nat.reduceSub, Int.natCast_zero, Int.ofNat_zero, Int.natCast_one, Int.cast_ofNat_Int, bne_self_eq_false, beq_self_eq_true, Int.reduceBEq, Int.reduceBNe, Bool.not_true, Bool.not_false, c2, c3, c4, c23, c24, c34, upd_ne, n2, n3, n4, m32, m23, m42, m24, m43, m34, k2, k3, k4, k5]
  refine (is_ok st trueT hw).run ?_
  cases kt : isD st trueT
  case true =>
    have ev : valueV st = (⟨1, 1, []⟩, st) := by simp [valueV, e2, e3, e4, e5, kt]
    cases kb : (st.bad != 0)
    · have eb : st.bad = 0 := by simpa using kb
      have en : valueP st = (⟨1, 1, []⟩, nextD st) := by simp [valueP, ev, eb]
      simp -implicitDefEqProofs only [go_sem, ↓reduceIte, Nat.reduceLT, Nat.reduceEqDiff, Nat.reduceAdd, Nat.reduceLeDiff, Nat.reduceMul, Nat.reduceSub, Int.natCast_zero, Int.ofNat_zero, Int.natCast_one, Int.cast_ofNat_Int, bne_self_eq_false, beq_self_eq_true, Int.reduceBEq, Int.reduceBNe, Bool.not_true, Bool.not_false, c2, c3, c4, c23, c24, c34, upd_ne, n2, n3, n4, m32, m23, m42, m24, m43, m34, k2, k3, k4, k5, kt, PO, kb, w1]
      exact .mk (h' := upd G id (some (PO (valueP st).2))) _ (.refl _) (by rw [en]; exact Sub.both (by repeat (first | exact .refl _ | refine Sub.put ?_ (by assumption) _)) _ _) ⟨by rw [en]; rfl, rfl⟩
    · have eb : st.bad ≠ 0 := by simpa using kb
      have en : valueP st = (⟨0, 0, []⟩, st) := by simp [valueP, ev, eb]
      simp -implicitDefEqProofs only [go_sem, ↓reduceIte, Nat.reduceLT, Nat.reduceEqDiff, Nat.reduceAdd, Nat.reduceLeDiff, Nat.reduceMul, Nat.reduceSub, Int.natCast_zero, Int.ofNat_zero, Int.natCast_one, Int.cast_ofNat_Int, bne_self_eq_false, beq_self_eq_true, Int.reduceBEq, Int.reduceBNe, Bool.not_true, Bool.not_false, c2, c3, c4, c23, c24, c34, upd_ne, n2, n3, n4, m32, m23, m42, m24, m43, m34, k2, k3, k4, k5, kt, PO, kb, w1]
      exact .mk (h' := upd G id (some (PO (valueP st).2))) _ (.refl _) (by rw [en]; exact Sub.both (by repeat (first | exact .refl _ | refine Sub.put ?_ (by assumption) _)) _ _) ⟨by rw [en]; rfl, rfl⟩
  simp -implicitDefEqProofs only [go_sem, ↓reduceIte, Nat.reduceLT, Nat.reduceEqDiff, Nat.reduceAdd, Nat.reduceLeDiff, Nat.reduceMul, Nat.reduceSub, Int.natCast_zero, Int.ofNat_zero, Int.natCast_one, Int.cast_ofNat_Int, bne_self_eq_false, beq_self_eq_true, Int.reduceBEq, Int.reduceBNe, Bool.not_true, Bool.not_false, c2, c3, c4, c23, c24, c34, upd_ne, n2, n3, n4, m32, m23, m42, m24, m43, m34, k2, k3, k4, k5, kt]
  refine (is_ok st falseT hw).run ?_
  cases kf : isD st falseT
  case true =>
    have ev : valueV st = (⟨1, 0, []⟩, st) := by simp [valueV, e2, e3, e4, e5, kt, kf]
    cases kb : (st.bad != 0)
    · have eb : st.bad = 0 := by simpa using kb
      have en : valueP st = (⟨1, 0, []⟩, nextD st) := by simp [valueP, ev, eb]
      simp -implicitDefEqProofs only [go_sem, ↓reduceIte, Nat.reduceLT, Nat.reduceEqDiff, Nat.reduceAdd, Nat.reduceLeDiff, Nat.reduceMul, Nat.reduceSub, Int.natCast_zero, Int.ofNat_zero, Int.natCast_one, Int.cast_ofNat_Int, bne_self_eq_false, beq_self_eq_true, Int.reduceBEq, Int.reduceBNe, Bool.not_true, Bool.not_false, c2, c3, c4, c23, c24, c34, upd_ne, n2, n3, n4, m32, m23, m42, m24, m43, m34, k2, k3, k4, k5, kt, kf, PO, kb, w1]
      exact .mk (h' := upd G id (some (PO (valueP st).2))) _ (.refl _) (by rw [en]; exact Sub.both (by repeat (first | exact .refl _ | refine Sub.put ?_ (by assumption) _)) _ _) ⟨by rw [en]; rfl, rfl⟩
    · have eb : st.bad ≠ 0 := by simpa using kb
      have en : valueP st = (⟨0, 0, []⟩, st) := by simp [valueP, ev, eb]
      simp -implicitDefEqProofs only [go_sem, ↓reduceIte, Nat.reduceLT, Nat.reduceEqDiff, Nat.reduceAdd, Nat.reduceLeDiff, Nat.reduceMul, Nat.reduceSub, Int.natCast_zero, Int.ofNat_zero, Int.natCast_one, Int.cast_ofNat_Int, bne_self_eq_false, beq_self_eq_true, Int.reduceBEq, Int.reduceBNe, Bool.not_true, Bool.not_false, c2, c3, c4, c23, c24, c34, upd_ne, n2, n3, n4, m32, m23, m42, m24, m43, m34, k2, k3, k4, k5, kt, kf, PO, kb, w1]
      exact .mk (h' := upd G id (some (PO (valueP st).2))) _ (.refl _) (by rw [en]; exact Sub.both (by repeat (first | exact .refl _ | refine Sub.put ?_ (by assumption) _)) _ _) ⟨by rw [en]; rfl, rfl⟩
  have ev : valueV st = (⟨0, (hereD st).n, (hereD st).s⟩, stuckD st) := by simp [valueV, e2, e3, e4, e5, kt, kf]
  have en : valueP st = (⟨0, 0, []⟩, stuckD st) := by simp [valueP, ev, stuck_bad]
  have kb : ((stuckD st).bad != 0) = true := by simpa using stuck_bad st
  simp -implicitDefEqProofs only [go_sem, ↓reduceIte, Nat.reduceLT, Nat.reduceEqDiff, Nat.reduceAdd, Nat.reduceLeDiff, Nat.reduceMul, Nat.reduceSub, Int.natCast_zero, Int.ofNat_zero, Int.natCast_one, Int.cast_ofNat_Int, bne_self_eq_false, beq_self_eq_true, Int.reduceBEq, Int.reduceBNe, Bool.not_true, Bool.not_false, c2, c3, c4, c23, c24, c34, upd_ne, n2, n3, n4, m32, m23, m42, m24, m43, m34, k2, k3, k4, k5, kt, kf]
  refine (stuck_ok st hw).run ?_
  simp -implicitDefEqProofs only [go_sem, ↓reduceIte, Nat.reduceLT, Nat.reduceEqDiff, Nat.reduceAdd, Nat.reduceLeDiff, Nat.reduceMul, Nat.reduceSub, Int.natCast_zero, Int.ofNat_zero, Int.natCast_one, Int.cast_ofNat_Int, bne_self_eq_false, beq_self_eq_true, Int.reduceBEq, Int.reduceBNe, Bool.not_true, Bool.not_false, c2, c3, c4, c23, c24, c34, upd_ne, n2, n3, n4, m32, m23, m42, m24, m43, m34, k2, k3, k4, k5, kt, kf, PO, kb]
  exact .mk (h' := upd G id (some (PO (valueP st).2))) _ (.refl _) (by rw [en]; exact Sub.both (by repeat (first | exact .refl _ | refine Sub.put ?_ (by assumption) _)) _ _) ⟨by rw [en]; rfl, rfl⟩
end Go.Proofs.YtdcchpbncckhlaaDoor

/- The parser: matches, rows of them, targets. -/
set_option linter.unusedSimpArgs false
set_option linter.unusedVariables false
namespace Go.Proofs.YtdcchpbncckhlaaDoor
open Go Go.Ab Go.Bf

def opsT : List Txt := [[61], [60], [62]]
theorem opP_at {st : PS} (i : Nat) (hi : i < opsT.length) (hb : ∀ j (hj : j < opsT.length), j < i → isD st opsT[j] = false) (h : isD st opsT[i] = true) : opP st = ((i : Int) + 1, nextD st) := by
  have h3 : i < 3 := hi
  rcases (by omega : i = 0 ∨ i = 1 ∨ i = 2) with rfl | rfl | rfl
  · simp only [opP, show isD st [61] = true from h, if_true]; rfl
  · simp only [opP, show isD st [61] = false from hb 0 (by decide) (by decide), show isD st [60] = true from h, if_true]; rfl
  · simp only [opP, show isD st [61] = false from hb 0 (by decide) (by decide), show isD st [60] = false from hb 1 (by decide) (by decide), show isD st [62] = true from h, if_true]; rfl
theorem opP_none {st : PS} (hb : ∀ j (hj : j < opsT.length), isD st opsT[j] = false) : opP st = (0, stuckD st) := by
  simp only [opP, show isD st [61] = false from hb 0 (by decide), show isD st [60] = false from hb 1 (by decide), show isD st [62] = false from hb 2 (by decide)]; rfl

set_option maxRecDepth 20000 in
theorem match_p (st : PS) (hw : WfP st) : PC 135 [] st (matchA (matchP st).1) (matchP st).2 := .of fun G id => by
  have h1 := ah_attr hw
  obtain ⟨a, st1, e1⟩ : ∃ a st1, attrP st = (a, st1) := ⟨_, _, rfl⟩
  have hat := attr_p st hw
  rw [e1] at h1 hat
  simp only at h1 hat
  refine FnOK.body hU hm Tryd.func135 rfl (by kernel_rfl) 32 rfl [.cell 2 27] rfl (Nat.le_of_ble_eq_true rfl) (fun hwf => ?_)
  simp -implicitDefEqProofs only [go_sem, ↓reduceIte, Nat.reduceLT, Nat.reduceEqDiff, Nat.reduceAdd, Nat.reduceLeDiff, Nat.reduceMul, Nat.reduceSub, Int.natCast_zero, Int.ofNat_zero, Int.natCast_one, Int.cast_ofNat_Int, bne_self_eq_false, beq_self_eq_true, Int.reduceBEq, Int.reduceBNe, Bool.not_true, Bool.not_false]
  intro i2 hi2
  have n2 := ne_upd hi2
  have hG2 : G i2 = none := by rw [upd_other _ _ n2] at hi2; exact hi2
  have c2 : ∀ (f : Heap) (x y : Option Blk), upd (upd f id x) i2 y = upd (upd f i2 y) id x := fun f x y => upd_comm f x y n2.symm
  simp -implicitDefEqProofs only [go_sem, ↓reduceIte, Nat.reduceLT, Nat.reduceEqDiff, Nat.reduceAdd, Nat.reduceLeDiff, Nat.reduceMul, Nat.reduceSub, Int.natCast_zero, Int.ofNat_zero, Int.natCast_one, Int.cast_ofNat_Int, bne_self_eq_false, beq_self_eq_true, Int.reduceBEq, Int.reduceBNe, Bool.not_true, Bool.not_false, c2]
  refine hat.run ?_
  simp -implicitDefEqProofs only [go_sem, ↓reduceIte, Nat.reduceLT, Nat.reduceEqDiff, Nat.reduceAdd, Nat.reduceLeDiff, Nat.reduceMul, Nat.reduceSub, Int.natCast_zero, Int.ofNat_zero, Int.natCast_one, Int.cast_ofNat_Int, bne_self_eq_false, beq_self_eq_true, Int.reduceBEq, Int.reduceBNe, Bool.not_true, Bool.not_false, attrA]
  intro i3 hi3
  have n3 := ne_upd hi3
  have hi3' := hi3
  rw [upd_other _ _ n3] at hi3'
  have n32 := ne_upd hi3'
  have hG3 : G i3 = none := by rw [upd_other _ _ n32] at hi3'; exact hi3'
  have c3 : ∀ (f : Heap) (x y : Option Blk), upd (upd f id x) i3 y = upd (upd f i3 y) id x := fun f x y => upd_comm f x y n3.symm
  have c23 : ∀ (f : Heap) (x y : Option Blk), upd (upd f i3 x) i2 y = upd (upd f i2 y) i3 x := fun f x y => upd_comm f x y n32
  have m32 : ¬ i3 = i2 := n32
  have m23 : ¬ i2 = i3 := n32.symm
  simp -implicitDefEqProofs only [go_sem, ↓reduceIte, Nat.reduceLT, Nat.reduceEqDiff, Nat.reduceAdd, Nat.reduceLeDiff, Nat.reduceMul, Nat.reduceSub, Int.natCast_zero, Int.ofNat_zero, Int.natCast_one, Int.cast_ofNat_Int, bne_self_eq_false, beq_self_eq_true, Int.reduceBEq, Int.reduceBNe, Bool.not_true, Bool.not_false, c2, c3, c23, upd_ne, n2, n3, m32, m23, attrA]
  refine .intro (fun m ρ H => H = upd (upd (upd G i2 (some (.obj [.v (.int .i64 0), .s [], .v (.bool false), .v (.int .i64 0), .v (.int .i64 0), .v (.int .i64 0), .s []] 27))) i3 (some (.obj [.v (.int .i64 a.cat), .s a.name, .v (.bool a.must), .v (.int .i64 0), .v (.int .i64 0), .v (.int .i64 0), .s []] 27))) id (some (PO st1)) ∧
    ∃ i : Nat, i ≤ 3 ∧ m = 3 - i ∧ (∀ j (hj : j < opsT.length), j < i → isD st1 opsT[j] = false) ∧ lk ρ 0 = some (.ptr id 0) ∧ lk ρ 2 = some (.ptr i2 0) ∧ lk ρ 3 = some (.ptr i3 0) ∧ lk ρ 9 = some (.sl (opsT.map AV.s) .full) ∧ lk ρ 10 = some (.v (.int .i64 3)) ∧ lk ρ 11 = some (.v (.int .i64 i))) 3 ?_ ?_
  · refine ⟨rfl, 0, by omega, rfl, fun j _ hj => (by omega), ?_, ?_, ?_, ?_, ?_, ?_⟩ <;> simp -implicitDefEqProofs only [go_sem, ↓reduceIte, Nat.reduceLT, Nat.reduceEqDiff, Nat.reduceAdd, Nat.reduceLeDiff, Nat.reduceMul, Nat.reduceSub, Int.natCast_zero, Int.ofNat_zero, Int.natCast_one, Int.cast_ofNat_Int, bne_self_eq_false, beq_self_eq_true, Int.reduceBEq, Int.reduceBNe, Bool.not_true, Bool.not_false] <;> rfl
  · rintro m ρ H ⟨rfl, i, hi, rfl, hb, r0, r2, r3, r9, r10, r11⟩
    simp -implicitDefEqProofs only [go_sem, ↓reduceIte, Nat.reduceLT, Nat.reduceEqDiff, Nat.reduceAdd, Nat.reduceLeDiff, Nat.reduceMul, Nat.reduceSub, Int.natCast_zero, Int.ofNat_zero, Int.natCast_one, Int.cast_ofNat_Int, bne_self_eq_false, beq_self_eq_true, Int.reduceBEq, Int.reduceBNe, Bool.not_true, Bool.not_false, r0, r2, r3, r9, r10, r11]
    refine .intro (fun e => ?_) (fun e => ?_)
    · have hlt : i < 3 := by have := of_decide_eq_true e; omega
      have hlo : i < opsT.length := hlt
      have w1 : IntKind.i64.wrap ((i : Int) + 1) = ((i + 1 : Nat) : Int) := by rw [wr64 _ (by omega)]; omega
      have w2 : IntKind.i64.wrap (1 + (i : Int)) = ((i : Int) + 1) := by rw [wr64 _ (by omega)]; omega
      simp -implicitDefEqProofs only [go_sem, ↓reduceIte, Nat.reduceLT, Nat.reduceEqDiff, Nat.reduceAdd, Nat.reduceLeDiff, Nat.reduceMul, Nat.reduceSub, Int.natCast_zero, Int.ofNat_zero, Int.natCast_one, Int.cast_ofNat_Int, bne_self_eq_false, beq_self_eq_true, Int.reduceBEq, Int.reduceBNe, Bool.not_true, Bool.not_false, r0, r2, r3, r9, r10, r11]
      refine .at i (by simpa using hlo) (by rw [List.getElem_map]; rfl) ?_
      simp -implicitDefEqProofs only [go_sem, ↓reduceIte, Nat.reduceLT, Nat.reduceEqDiff, Nat.reduceAdd, Nat.reduceLeDiff, Nat.reduceMul, Nat.reduceSub, Int.natCast_zero, Int.ofNat_zero, Int.natCast_one, Int.cast_ofNat_Int, bne_self_eq_false, beq_self_eq_true, Int.reduceBEq, Int.reduceBNe, Bool.not_true, Bool.not_false, r0, r2, r3, r9, r10, r11, List.getElem_map]
      refine (take_ok st1 opsT[i] h1.1).run ?_
      cases d1 : isD st1 opsT[i]
      · have et : takeD st1 opsT[i] = (false, st1) := by simp [takeD, d1]
        rw [et]
        simp -implicitDefEqProofs only [go_sem, ↓reduceIte, Nat.reduceLT, Nat.reduceEqDiff, Nat.reduceAdd, Nat.reduceLeDiff, Nat.reduceMul, Nat.reduceSub, Int.natCast_zero, Int.ofNat_zero, Int.natCast_one, Int.cast_ofNat_Int, bne_self_eq_false, beq_self_eq_true, Int.reduceBEq, Int.reduceBNe, Bool.not_true, Bool.not_false, r0, r2, r3, r9, r10, r11, w1]
        refine ⟨_, ?_, rfl, i + 1, by omega, rfl, fun j hj hji => ?_, ?_, ?_, ?_, ?_, ?_, ?_⟩
        · omega
        · by_cases e : j = i
          · subst e; exact d1
          · exact hb j hj (by omega)
        all_goals simp -implicitDefEqProofs only [go_sem, ↓reduceIte, Nat.reduceLT, Nat.reduceEqDiff, Nat.reduceAdd, Nat.reduceLeDiff, Nat.reduceMul, Nat.reduceSub, Int.natCast_zero, Int.ofNat_zero, Int.natCast_one, Int.cast_ofNat_Int, bne_self_eq_false, beq_self_eq_true, Int.reduceBEq, Int.reduceBNe, Bool.not_true, Bool.not_false, r0, r2, r3, r9, r10, r11, w1]
      · have et : takeD st1 opsT[i] = (true, nextD st1) := by simp [takeD, d1]
        have eo := opP_at i hlo hb d1
        have h2 : Ah st1 (nextD st1) := ah_next h1.1 (isD_kind d1)
        have en : matchP st = (⟨a, (i : Int) + 1, (valueP (nextD st1)).1⟩, (valueP (nextD st1)).2) := by simp [matchP, e1, eo]
        have d2 : (((i : Int) + 1) == 0) = false := by simp; omega
        rw [et]
        simp -implicitDefEqProofs only [go_sem, ↓reduceIte, Nat.reduceLT, Nat.reduceEqDiff, Nat.reduceAdd, Nat.reduceLeDiff, Nat.reduceMul, Nat.reduceSub, Int.natCast_zero, Int.ofNat_zero, Int.natCast_one, Int.cast_ofNat_Int, bne_self_eq_false, beq_self_eq_true, Int.reduceBEq, Int.reduceBNe, Bool.not_true, Bool.not_false, c2, c3, c23, upd_ne, n2, n3, m32, m23, attrA, r0, r2, r3, r9, r10, r11, w2, d2]
        refine (value_p (nextD st1) h2.1).run ?_
        simp -implicitDefEqProofs only [go_sem, ↓reduceIte, Nat.reduceLT, Nat.reduceEqDiff, Nat.reduceAdd, Nat.reduceLeDiff, Nat.reduceMul, Nat.reduceSub, Int.natCast_zero, Int.ofNat_zero, Int.natCast_one, Int.cast_ofNat_Int, bne_self_eq_false, beq_self_eq_true, Int.reduceBEq, Int.reduceBNe, Bool.not_true, Bool.not_false, c2, c3, c23, upd_ne, n2, n3, m32, m23, attrA, valA, r0, r2, r3]
        exact .mk (h' := upd G id (some (PO (matchP st).2))) _ (.refl _) (by rw [en]; exact Sub.both (by repeat (first | exact .refl _ | refine Sub.put ?_ (by assumption) _)) _ _) ⟨by rw [en]; rfl, rfl⟩
    · have hge : i = 3 := by have := of_decide_eq_false e; omega
      subst hge
      have eo := opP_none fun j hj => hb j hj hj
      have h2 : Ah st1 (stuckD st1) := ah_stuck h1.1
      have en : matchP st = (⟨a, 0, (valueP (stuckD st1)).1⟩, (valueP (stuckD st1)).2) := by simp [matchP, e1, eo]
      simp -implicitDefEqProofs only [go_sem, ↓reduceIte, Nat.reduceLT, Nat.reduceEqDiff, Nat.reduceAdd, Nat.reduceLeDiff, Nat.reduceMul, Nat.reduceSub, Int.natCast_zero, Int.ofNat_zero, Int.natCast_one, Int.cast_ofNat_Int, bne_self_eq_false, beq_self_eq_true, Int.reduceBEq, Int.reduceBNe, Bool.not_true, Bool.not_false, r0, r2, r3, r9, r10, r11, c2, c3, c23, upd_ne, n2, n3, m32, m23, attrA]
      refine (stuck_ok st1 h1.1).run ?_
      simp -implicitDefEqProofs only [go_sem, ↓reduceIte, Nat.reduceLT, Nat.reduceEqDiff, Nat.reduceAdd, Nat.reduceLeDiff, Nat.reduceMul, Nat.reduceSub, Int.natCast_zero, Int.ofNat_zero, Int.natCast_one, Int.cast_ofNat_Int, bne_self_eq_false, beq_self_eq_true, Int.reduceBEq, Int.reduceBNe, Bool.not_true, Bool.not_false, c2, c3, c23, upd_ne, n2, n3, m32, m23, attrA, r0, r2, r3, r9, r10, r11]
      refine (value_p (stuckD st1) h2.1).run ?_
      simp -implicitDefEqProofs only [go_sem, ↓reduceIte, Nat.reduceLT, Nat.reduceEqDiff, Nat.reduceAdd, Nat.reduceLeDiff, Nat.reduceMul, Nat.reduceSub, Int.natCast_zero, Int.ofNat_zero, Int.natCast_one, Int.cast_ofNat_Int, bne_self_eq_false, beq_self_eq_true, Int.reduceBEq, Int.reduceBNe, Bool.not_true, Bool.not_false, c2, c3, c23, upd_ne, n2, n3, m32, m23, attrA, valA, r0, r2, r3]
      exact .mk (h' := upd G id (some (PO (matchP st).2))) _ (.refl _) (by rw [en]; exact Sub.both (by repeat (first | exact .refl _ | refine Sub.put ?_ (by assumption) _)) _ _) ⟨by rw [en]; rfl, rfl⟩
end Go.Proofs.YtdcchpbncckhlaaDoor

/- The parser: rows of matches, targets. -/
set_option linter.unusedSimpArgs false
set_option linter.unusedVariables false
namespace Go.Proofs.YtdcchpbncckhlaaDoor
open Go Go.Ab Go.Bf

theorem uz_m : (U 27).sz = 7 := by simp only [go_sem]
theorem ub_m : (U 27).bytes = 72 := by simp only [go_sem]
theorem sized_m (l : List MatchD) : Sized 7 (l.map matchA) := fun z hz => by
  obtain ⟨c, _, rfl⟩ := List.mem_map.1 hz; rfl
theorem uz_a : (U 28).sz = 1 := by simp only [go_sem]
theorem ub_a : (U 28).bytes = 24 := by simp only [go_sem]
theorem sized_a (l : List (List MatchD)) : Sized 1 (l.map allA) := fun z hz => by
  obtain ⟨c, _, rfl⟩ := List.mem_map.1 hz; rfl
theorem uz_y : (U 29).sz = 1 := by simp only [go_sem]
theorem ub_y : (U 29).bytes = 24 := by simp only [go_sem]
theorem sized_y (l : List (List (List MatchD))) : Sized 1 (l.map anyA) := fun z hz => by
  obtain ⟨c, _, rfl⟩ := List.mem_map.1 hz; rfl

theorem all_p (st : PS) (hw : WfP st) : PC 123 [] st (allA (allP st).1) (allP st).2 := .of fun G id => by
  have h1 := ah_match hw
  have hm1 := match_p st hw
  obtain ⟨x0, st1, e1⟩ : ∃ x0 st1, matchP st = (x0, st1) := ⟨_, _, rfl⟩
  have ep : manyF matchP [44] 8 st.ts.length st1 [x0] = allP st := by simp only [allP, e1]
  rw [e1] at h1 hm1
  simp only [matchA] at h1 hm1
  refine FnOK.body hU hm Tryd.func123 rfl (by kernel_rfl) 20 rfl [.tmp 2] rfl (Nat.le_of_ble_eq_true rfl) (fun hwf => ?_)
  simp -implicitDefEqProofs only [go_sem, ↓reduceIte, Nat.reduceLT, Nat.reduceEqDiff, Nat.reduceAdd, Nat.reduceLeDiff, Nat.reduceMul, Nat.reduceSub, Int.natCast_zero, Int.ofNat_zero, Int.natCast_one, Int.cast_ofNat_Int, bne_self_eq_false, beq_self_eq_true, Int.reduceBEq, Int.reduceBNe, Bool.not_true, Bool.not_false]
  refine hm1.run ?_
  simp -implicitDefEqProofs only [go_sem, ↓reduceIte, Nat.reduceLT, Nat.reduceEqDiff, Nat.reduceAdd, Nat.reduceLeDiff, Nat.reduceMul, Nat.reduceSub, Int.natCast_zero, Int.ofNat_zero, Int.natCast_one, Int.cast_ofNat_Int, bne_self_eq_false, beq_self_eq_true, Int.reduceBEq, Int.reduceBNe, Bool.not_true, Bool.not_false]
  have hB : upd G id none id = none := upd_same ..
  refine .intro (fun m ρ H => ∃ (f : Nat) (st' : PS) (l : List _) (y : AV), H id = some (PO st') ∧ Acc U 27 (upd G id none) H y (l.map matchA) ∧ Ah st1 st' ∧ manyF matchP [44] 8 f st' l = allP st ∧ st1.ts.length ≤ f + st'.pos ∧ l.length ≤ st'.pos + 1 ∧ m = st1.ts.length - st'.pos ∧ lk ρ 0 = some (.ptr id 0) ∧ lk ρ 3 = some y) (st1.ts.length - st1.pos) ?_ ?_
  · refine ⟨st.ts.length, st1, [x0], .sl ([x0].map matchA) .full, upd_same .., .full (base_start G id _), .refl h1.1, ep, by rw [h1.2.1]; omega, by simp, rfl, ?_, ?_⟩ <;> simp -implicitDefEqProofs only [go_sem, ↓reduceIte, Nat.reduceLT, Nat.reduceEqDiff, Nat.reduceAdd, Nat.reduceLeDiff, Nat.reduceMul, Nat.reduceSub, Int.natCast_zero, Int.ofNat_zero, Int.natCast_one, Int.cast_ofNat_Int, bne_self_eq_false, beq_self_eq_true, Int.reduceBEq, Int.reduceBNe, Bool.not_true, Bool.not_false] <;> rfl
  · rintro m ρ H ⟨f, st', l, y, hH, hy, ha, hfin, hf, hll, rfl, r0, r3⟩
    have hlen := ha.1.2.2
    have hpos := ha.1.1
    have htl := ha.2.1
    simp -implicitDefEqProofs only [go_sem, ↓reduceIte, Nat.reduceLT, Nat.reduceEqDiff, Nat.reduceAdd, Nat.reduceLeDiff, Nat.reduceMul, Nat.reduceSub, Int.natCast_zero, Int.ofNat_zero, Int.natCast_one, Int.cast_ofNat_Int, bne_self_eq_false, beq_self_eq_true, Int.reduceBEq, Int.reduceBNe, Bool.not_true, Bool.not_false, r0, r3]
    refine (take_ok st' [44] ha.1).go hH ?_
    cases d1 : isD st' [44]
    · have et : takeD st' [44] = (false, st') := by simp [takeD, d1]
      have ef : manyF matchP [44] 8 f st' l = (l, st') := by cases f <;> simp [manyF, d1]
      rw [et, upd_self hH]
      rw [ef] at hfin
      simp -implicitDefEqProofs only [go_sem, ↓reduceIte, Nat.reduceLT, Nat.reduceEqDiff, Nat.reduceAdd, Nat.reduceLeDiff, Nat.reduceMul, Nat.reduceSub, Int.natCast_zero, Int.ofNat_zero, Int.natCast_one, Int.cast_ofNat_Int, bne_self_eq_false, beq_self_eq_true, Int.reduceBEq, Int.reduceBNe, Bool.not_true, Bool.not_false, r0, r3]
      exact .mk (h' := upd G id (some (PO (allP st).2))) (allA l) hy.weak (by rw [← hfin]; exact base_end hy.1 hH) ⟨by rw [← hfin], rfl⟩
    · have et : takeD st' [44] = (true, nextD st') := by simp [takeD, d1]
      obtain ⟨g, rfl⟩ : ∃ g, f = g + 1 := ⟨f - 1, by rw [htl] at hpos; omega⟩
      simp only [manyF, d1, if_true] at hfin
      have h2 := ah_next ha.1 (isD_kind d1)
      have hone := match_p (nextD st') h2.1
      have h3 := (fun _ h => ah_match h : ∀ st, WfP st → Ah st (matchP st).2) _ h2.1
      obtain ⟨x, st2, e2⟩ : ∃ x st2, matchP (nextD st') = (x, st2) := ⟨_, _, rfl⟩
      rw [e2] at hfin hone h3
      simp only [matchA] at hfin hone h3
      have hdec : decide ((8 : Int) < ((l.length + 1 : Nat) : Int)) = decide (8 < l.length + 1) := by
        by_cases h : 8 < l.length + 1
        · simp only [h, decide_true]; exact decide_eq_true (by omega)
        · simp only [h, decide_false]; exact decide_eq_false (by omega)
      have h4 := ah_limit (decide (8 < l.length + 1)) h3.1
      have hnp : (nextD st').pos = st'.pos + 1 := rfl
      have hp3 := h3.2.2
      have hp4 := h4.2.2
      rw [et]
      simp -implicitDefEqProofs only [go_sem, ↓reduceIte, Nat.reduceLT, Nat.reduceEqDiff, Nat.reduceAdd, Nat.reduceLeDiff, Nat.reduceMul, Nat.reduceSub, Int.natCast_zero, Int.ofNat_zero, Int.natCast_one, Int.cast_ofNat_Int, bne_self_eq_false, beq_self_eq_true, Int.reduceBEq, Int.reduceBNe, Bool.not_true, Bool.not_false, r0, r3]
      refine hone.run ?_
      simp -implicitDefEqProofs only [go_sem, ↓reduceIte, Nat.reduceLT, Nat.reduceEqDiff, Nat.reduceAdd, Nat.reduceLeDiff, Nat.reduceMul, Nat.reduceSub, Int.natCast_zero, Int.ofNat_zero, Int.natCast_one, Int.cast_ofNat_Int, bne_self_eq_false, beq_self_eq_true, Int.reduceBEq, Int.reduceBNe, Bool.not_true, Bool.not_false, r0, r3]
      refine (hy.put hB hH _).app (zs := [matchA x]) (by rw [uz_m]; decide) (by rw [ub_m]; decide) (fun k hk => hk) (by rw [uz_m]; exact sized_m l) (by rw [uz_m]; exact sized_m [x]) (by rw [ub_m]; simp; omega) fun y' H2 hy' hk2 => ?_
      have hH2 : H2 id = some (PO st2) := hk2 _ _ _ (upd_same ..)
      simp -implicitDefEqProofs only [go_sem, ↓reduceIte, Nat.reduceLT, Nat.reduceEqDiff, Nat.reduceAdd, Nat.reduceLeDiff, Nat.reduceMul, Nat.reduceSub, Int.natCast_zero, Int.ofNat_zero, Int.natCast_one, Int.cast_ofNat_Int, bne_self_eq_false, beq_self_eq_true, Int.reduceBEq, Int.reduceBNe, Bool.not_true, Bool.not_false, r0, r3, hy'.len, List.length_append, List.length_map, List.length_cons, List.length_nil, Nat.zero_add, hdec]
      refine (limit_ok st2 _ h3.1).go hH2 ?_
      simp -implicitDefEqProofs only [go_sem, ↓reduceIte, Nat.reduceLT, Nat.reduceEqDiff, Nat.reduceAdd, Nat.reduceLeDiff, Nat.reduceMul, Nat.reduceSub, Int.natCast_zero, Int.ofNat_zero, Int.natCast_one, Int.cast_ofNat_Int, bne_self_eq_false, beq_self_eq_true, Int.reduceBEq, Int.reduceBNe, Bool.not_true, Bool.not_false, r0, r3]
      refine ⟨_, ?_, g, limitD st2 (decide (8 < l.length + 1)), l ++ [x], y', upd_same .., by rw [List.map_append]; exact hy'.put hB hH2 _, (((ha.trans h2).trans h3).trans h4), hfin, by omega, by simp; omega, rfl, ?_, ?_⟩
      · have : st1.ts.length = st'.ts.length := by rw [htl]
        omega
      all_goals simp -implicitDefEqProofs only [go_sem, ↓reduceIte, Nat.reduceLT, Nat.reduceEqDiff, Nat.reduceAdd, Nat.reduceLeDiff, Nat.reduceMul, Nat.reduceSub, Int.natCast_zero, Int.ofNat_zero, Int.natCast_one, Int.cast_ofNat_Int, bne_self_eq_false, beq_self_eq_true, Int.reduceBEq, Int.reduceBNe, Bool.not_true, Bool.not_false, r0, r3]

theorem any_p (st : PS) (hw : WfP st) : PC 109 [] st (anyA (anyP st).1) (anyP st).2 := .of fun G id => by
  have h0 := ah_must [40] hw
  have h1 := ah_all h0.1
  have hm1 := all_p _ h0.1
  obtain ⟨x0, st1, e1⟩ : ∃ x0 st1, allP (mustD st [40]) = (x0, st1) := ⟨_, _, rfl⟩
  obtain ⟨M, eM⟩ : ∃ M, manyF allP orT 8 st.ts.length st1 [x0] = M := ⟨_, rfl⟩
  have epp : (M.1, mustD M.2 [41]) = anyP st := by simp only [anyP, e1, eM]
  rw [e1] at h1 hm1
  simp only [allA] at h1 hm1
  refine FnOK.body hU hm Tryd.func109 rfl (by kernel_rfl) 24 rfl [.tmp 2] rfl (Nat.le_of_ble_eq_true rfl) (fun hwf => ?_)
  simp -implicitDefEqProofs only [go_sem, ↓reduceIte, Nat.reduceLT, Nat.reduceEqDiff, Nat.reduceAdd, Nat.reduceLeDiff, Nat.reduceMul, Nat.reduceSub, Int.natCast_zero, Int.ofNat_zero, Int.natCast_one, Int.cast_ofNat_Int, bne_self_eq_false, beq_self_eq_true, Int.reduceBEq, Int.reduceBNe, Bool.not_true, Bool.not_false]
  refine (must_ok st [40] hw).run ?_
  simp -implicitDefEqProofs only [go_sem, ↓reduceIte, Nat.reduceLT, Nat.reduceEqDiff, Nat.reduceAdd, Nat.reduceLeDiff, Nat.reduceMul, Nat.reduceSub, Int.natCast_zero, Int.ofNat_zero, Int.natCast_one, Int.cast_ofNat_Int, bne_self_eq_false, beq_self_eq_true, Int.reduceBEq, Int.reduceBNe, Bool.not_true, Bool.not_false]
  refine hm1.run ?_
  simp -implicitDefEqProofs only [go_sem, ↓reduceIte, Nat.reduceLT, Nat.reduceEqDiff, Nat.reduceAdd, Nat.reduceLeDiff, Nat.reduceMul, Nat.reduceSub, Int.natCast_zero, Int.ofNat_zero, Int.natCast_one, Int.cast_ofNat_Int, bne_self_eq_false, beq_self_eq_true, Int.reduceBEq, Int.reduceBNe, Bool.not_true, Bool.not_false]
  have hB : upd G id none id = none := upd_same ..
  refine .intro (fun m ρ H => ∃ (f : Nat) (st' : PS) (l : List _) (y : AV), H id = some (PO st') ∧ Acc U 28 (upd G id none) H y (l.map allA) ∧ Ah st1 st' ∧ manyF allP orT 8 f st' l = M ∧ st1.ts.length ≤ f + st'.pos ∧ l.length ≤ st'.pos + 1 ∧ m = st1.ts.length - st'.pos ∧ lk ρ 0 = some (.ptr id 0) ∧ lk ρ 3 = some y) (st1.ts.length - st1.pos) ?_ ?_
  · refine ⟨st.ts.length, st1, [x0], .sl ([x0].map allA) .full, upd_same .., .full (base_start G id _), .refl h1.1, eM, by rw [h1.2.1, h0.2.1]; omega, by simp, rfl, ?_, ?_⟩ <;> simp -implicitDefEqProofs only [go_sem, ↓reduceIte, Nat.reduceLT, Nat.reduceEqDiff, Nat.reduceAdd, Nat.reduceLeDiff, Nat.reduceMul, Nat.reduceSub, Int.natCast_zero, Int.ofNat_zero, Int.natCast_one, Int.cast_ofNat_Int, bne_self_eq_false, beq_self_eq_true, Int.reduceBEq, Int.reduceBNe, Bool.not_true, Bool.not_false] <;> rfl
  · rintro m ρ H ⟨f, st', l, y, hH, hy, ha, hfin, hf, hll, rfl, r0, r3⟩
    have hlen := ha.1.2.2
    have hpos := ha.1.1
    have htl := ha.2.1
    simp -implicitDefEqProofs only [go_sem, ↓reduceIte, Nat.reduceLT, Nat.reduceEqDiff, Nat.reduceAdd, Nat.reduceLeDiff, Nat.reduceMul, Nat.reduceSub, Int.natCast_zero, Int.ofNat_zero, Int.natCast_one, Int.cast_ofNat_Int, bne_self_eq_false, beq_self_eq_true, Int.reduceBEq, Int.reduceBNe, Bool.not_true, Bool.not_false, r0, r3]
    refine (take_ok st' orT ha.1).go hH ?_
    cases d1 : isD st' orT
    · have et : takeD st' orT = (false, st') := by simp [takeD, d1]
      have ef : manyF allP orT 8 f st' l = (l, st') := by cases f <;> simp [manyF, d1]
      rw [et, upd_self hH]
      rw [ef] at hfin
      simp -implicitDefEqProofs only [go_sem, ↓reduceIte, Nat.reduceLT, Nat.reduceEqDiff, Nat.reduceAdd, Nat.reduceLeDiff, Nat.reduceMul, Nat.reduceSub, Int.natCast_zero, Int.ofNat_zero, Int.natCast_one, Int.cast_ofNat_Int, bne_self_eq_false, beq_self_eq_true, Int.reduceBEq, Int.reduceBNe, Bool.not_true, Bool.not_false, r0, r3]
      refine (must_ok st' [41] ha.1).go hH ?_
      simp -implicitDefEqProofs only [go_sem, ↓reduceIte, Nat.reduceLT, Nat.reduceEqDiff, Nat.reduceAdd, Nat.reduceLeDiff, Nat.reduceMul, Nat.reduceSub, Int.natCast_zero, Int.ofNat_zero, Int.natCast_one, Int.cast_ofNat_Int, bne_self_eq_false, beq_self_eq_true, Int.reduceBEq, Int.reduceBNe, Bool.not_true, Bool.not_false, r0, r3]
      exact .mk (h' := upd G id (some (PO (anyP st).2))) (anyA l) hy.weak (by rw [← epp, ← hfin]; exact base_end (hy.1.put hB _) (upd_same ..)) ⟨by rw [← epp, ← hfin], rfl⟩
    · have et : takeD st' orT = (true, nextD st') := by simp [takeD, d1]
      obtain ⟨g, rfl⟩ : ∃ g, f = g + 1 := ⟨f - 1, by rw [htl] at hpos; omega⟩
      simp only [manyF, d1, if_true] at hfin
      have h2 := ah_next ha.1 (isD_kind d1)
      have hone := all_p (nextD st') h2.1
      have h3 := (fun _ h => ah_all h : ∀ st, WfP st → Ah st (allP st).2) _ h2.1
      obtain ⟨x, st2, e2⟩ : ∃ x st2, allP (nextD st') = (x, st2) := ⟨_, _, rfl⟩
      rw [e2] at hfin hone h3
      simp only [allA] at hfin hone h3
      have hdec : decide ((8 : Int) < ((l.length + 1 : Nat) : Int)) = decide (8 < l.length + 1) := by
        by_cases h : 8 < l.length + 1
        · simp only [h, decide_true]; exact decide_eq_true (by omega)
        · simp only [h, decide_false]; exact decide_eq_false (by omega)
      have h4 := ah_limit (decide (8 < l.length + 1)) h3.1
      have hnp : (nextD st').pos = st'.pos + 1 := rfl
      have hp3 := h3.2.2
      have hp4 := h4.2.2
      rw [et]
      simp -implicitDefEqProofs only [go_sem, ↓reduceIte, Nat.reduceLT, Nat.reduceEqDiff, Nat.reduceAdd, Nat.reduceLeDiff, Nat.reduceMul, Nat.reduceSub, Int.natCast_zero, Int.ofNat_zero, Int.natCast_one, Int.cast_ofNat_Int, bne_self_eq_false, beq_self_eq_true, Int.reduceBEq, Int.reduceBNe, Bool.not_true, Bool.not_false, r0, r3]
      refine hone.run ?_
      simp -implicitDefEqProofs only [go_sem, ↓reduceIte, Nat.reduceLT, Nat.reduceEqDiff, Nat.reduceAdd, Nat.reduceLeDiff, Nat.reduceMul, Nat.reduceSub, Int.natCast_zero, Int.ofNat_zero, Int.natCast_one, Int.cast_ofNat_Int, bne_self_eq_false, beq_self_eq_true, Int.reduceBEq, Int.reduceBNe, Bool.not_true, Bool.not_false, r0, r3]
      refine (hy.put hB hH _).app (zs := [allA x]) (by rw [uz_a]; decide) (by rw [ub_a]; decide) (fun k hk => hk) (by rw [uz_a]; exact sized_a l) (by rw [uz_a]; exact sized_a [x]) (by rw [ub_a]; simp; omega) fun y' H2 hy' hk2 => ?_
      have hH2 : H2 id = some (PO st2) := hk2 _ _ _ (upd_same ..)
      simp -implicitDefEqProofs only [go_sem, ↓reduceIte, Nat.reduceLT, Nat.reduceEqDiff, Nat.reduceAdd, Nat.reduceLeDiff, Nat.reduceMul, Nat.reduceSub, Int.natCast_zero, Int.ofNat_zero, Int.natCast_one, Int.cast_ofNat_Int, bne_self_eq_false, beq_self_eq_true, Int.reduceBEq, Int.reduceBNe, Bool.not_true, Bool.not_false, r0, r3, hy'.len, List.length_append, List.length_map, List.length_cons, List.length_nil, Nat.zero_add, hdec]
      refine (limit_ok st2 _ h3.1).go hH2 ?_
      simp -implicitDefEqProofs only [go_sem, ↓reduceIte, Nat.reduceLT, Nat.reduceEqDiff, Nat.reduceAdd, Nat.reduceLeDiff, Nat.reduceMul, Nat.reduceSub, Int.natCast_zero, Int.ofNat_zero, Int.natCast_one, Int.cast_ofNat_Int, bne_self_eq_false, beq_self_eq_true, Int.reduceBEq, Int.reduceBNe, Bool.not_true, Bool.not_false, r0, r3]
      refine ⟨_, ?_, g, limitD st2 (decide (8 < l.length + 1)), l ++ [x], y', upd_same .., by rw [List.map_append]; exact hy'.put hB hH2 _, (((ha.trans h2).trans h3).trans h4), hfin, by omega, by simp; omega, rfl, ?_, ?_⟩
      · have : st1.ts.length = st'.ts.length := by rw [htl]
        omega
      all_goals simp -implicitDefEqProofs only [go_sem, ↓reduceIte, Nat.reduceLT, Nat.reduceEqDiff, Nat.reduceAdd, Nat.reduceLeDiff, Nat.reduceMul, Nat.reduceSub, Int.natCast_zero, Int.ofNat_zero, Int.natCast_one, Int.cast_ofNat_Int, bne_self_eq_false, beq_self_eq_true, Int.reduceBEq, Int.reduceBNe, Bool.not_true, Bool.not_false, r0, r3]

theorem tgt_p (st : PS) (hw : WfP st) : PC 81 [] st (tgtA (tgtP st).1) (tgtP st).2 := .of fun G id => by
  refine FnOK.body hU hm Tryd.func81 rfl (by kernel_rfl) 23 rfl [.tmp 2] rfl (Nat.le_of_ble_eq_true rfl) (fun hwf => ?_)
  simp -implicitDefEqProofs only [go_sem, ↓reduceIte, Nat.reduceLT, Nat.reduceEqDiff, Nat.reduceAdd, Nat.reduceLeDiff, Nat.reduceMul, Nat.reduceSub, Int.natCast_zero, Int.ofNat_zero, Int.natCast_one, Int.cast_ofNat_Int, bne_self_eq_false, beq_self_eq_true, Int.reduceBEq, Int.reduceBNe, Bool.not_true, Bool.not_false]
  refine (take_ok st whenT hw).run ?_
  cases d0 : isD st whenT
  · have et : takeD st whenT = (false, st) := by simp [takeD, d0]
    have ep : tgtP st = ([], st) := by simp [tgtP, d0]
    rw [et]
    simp -implicitDefEqProofs only [go_sem, ↓reduceIte, Nat.reduceLT, Nat.reduceEqDiff, Nat.reduceAdd, Nat.reduceLeDiff, Nat.reduceMul, Nat.reduceSub, Int.natCast_zero, Int.ofNat_zero, Int.natCast_one, Int.cast_ofNat_Int, bne_self_eq_false, beq_self_eq_true, Int.reduceBEq, Int.reduceBNe, Bool.not_true, Bool.not_false]
    exact .mk (h' := upd G id (some (PO (tgtP st).2))) (tgtA []) (.sl _ _) (by rw [ep]; exact .refl _) ⟨by rw [ep], rfl⟩
  have et : takeD st whenT = (true, nextD st) := by simp [takeD, d0]
  have h0 := ah_next hw (isD_kind d0)
  have h1 := ah_any h0.1
  have hm1 := any_p _ h0.1
  obtain ⟨x0, st1, e1⟩ : ∃ x0 st1, anyP (nextD st) = (x0, st1) := ⟨_, _, rfl⟩
  obtain ⟨M, eM⟩ : ∃ M, manyF anyP andT 8 st.ts.length st1 [x0] = M := ⟨_, rfl⟩
  have ep : M = tgtP st := by simp only [tgtP, d0, if_true, e1, eM]
  rw [e1] at h1 hm1
  simp only [anyA] at h1 hm1
  rw [et]
  simp -implicitDefEqProofs only [go_sem, ↓reduceIte, Nat.reduceLT, Nat.reduceEqDiff, Nat.reduceAdd, Nat.reduceLeDiff, Nat.reduceMul, Nat.reduceSub, Int.natCast_zero, Int.ofNat_zero, Int.natCast_one, Int.cast_ofNat_Int, bne_self_eq_false, beq_self_eq_true, Int.reduceBEq, Int.reduceBNe, Bool.not_true, Bool.not_false]
  refine hm1.run ?_
  simp -implicitDefEqProofs only [go_sem, ↓reduceIte, Nat.reduceLT, Nat.reduceEqDiff, Nat.reduceAdd, Nat.reduceLeDiff, Nat.reduceMul, Nat.reduceSub, Int.natCast_zero, Int.ofNat_zero, Int.natCast_one, Int.cast_ofNat_Int, bne_self_eq_false, beq_self_eq_true, Int.reduceBEq, Int.reduceBNe, Bool.not_true, Bool.not_false]
  have hB : upd G id none id = none := upd_same ..
  refine .intro (fun m ρ H => ∃ (f : Nat) (st' : PS) (l : List _) (y : AV), H id = some (PO st') ∧ Acc U 29 (upd G id none) H y (l.map anyA) ∧ Ah st1 st' ∧ manyF anyP andT 8 f st' l = M ∧ st1.ts.length ≤ f + st'.pos ∧ l.length ≤ st'.pos + 1 ∧ m = st1.ts.length - st'.pos ∧ lk ρ 0 = some (.ptr id 0) ∧ lk ρ 3 = some y) (st1.ts.length - st1.pos) ?_ ?_
  · refine ⟨st.ts.length, st1, [x0], .sl ([x0].map anyA) .full, upd_same .., .full (base_start G id _), .refl h1.1, eM, by rw [h1.2.1, h0.2.1]; omega, by simp, rfl, ?_, ?_⟩ <;> simp -implicitDefEqProofs only [go_sem, ↓reduceIte, Nat.reduceLT, Nat.reduceEqDiff, Nat.reduceAdd, Nat.reduceLeDiff, Nat.reduceMul, Nat.reduceSub, Int.natCast_zero, Int.ofNat_zero, Int.natCast_one, Int.cast_ofNat_Int, bne_self_eq_false, beq_self_eq_true, Int.reduceBEq, Int.reduceBNe, Bool.not_true, Bool.not_false] <;> rfl
  · rintro m ρ H ⟨f, st', l, y, hH, hy, ha, hfin, hf, hll, rfl, r0, r3⟩
    have hlen := ha.1.2.2
    have hpos := ha.1.1
    have htl := ha.2.1
    simp -implicitDefEqProofs only [go_sem, ↓reduceIte, Nat.reduceLT, Nat.reduceEqDiff, Nat.reduceAdd, Nat.reduceLeDiff, Nat.reduceMul, Nat.reduceSub, Int.natCast_zero, Int.ofNat_zero, Int.natCast_one, Int.cast_ofNat_Int, bne_self_eq_false, beq_self_eq_true, Int.reduceBEq, Int.reduceBNe, Bool.not_true, Bool.not_false, r0, r3]
    refine (take_ok st' andT ha.1).go hH ?_
    cases d1 : isD st' andT
    · have et : takeD st' andT = (false, st') := by simp [takeD, d1]
      have ef : manyF anyP andT 8 f st' l = (l, st') := by cases f <;> simp [manyF, d1]
      rw [et, upd_self hH]
      rw [ef] at hfin
      simp -implicitDefEqProofs only [go_sem, ↓reduceIte, Nat.reduceLT, Nat.reduceEqDiff, Nat.reduceAdd, Nat.reduceLeDiff, Nat.reduceMul, Nat.reduceSub, Int.natCast_zero, Int.ofNat_zero, Int.natCast_one, Int.cast_ofNat_Int, bne_self_eq_false, beq_self_eq_true, Int.reduceBEq, Int.reduceBNe, Bool.not_true, Bool.not_false, r0, r3]
      exact .mk (h' := upd G id (some (PO (tgtP st).2))) (tgtA l) hy.weak (by rw [← ep, ← hfin]; exact base_end hy.1 hH) ⟨by rw [← ep, ← hfin], rfl⟩
    · have et : takeD st' andT = (true, nextD st') := by simp [takeD, d1]
      obtain ⟨g, rfl⟩ : ∃ g, f = g + 1 := ⟨f - 1, by rw [htl] at hpos; omega⟩
      simp only [manyF, d1, if_true] at hfin
      have h2 := ah_next ha.1 (isD_kind d1)
      have hone := any_p (nextD st') h2.1
      have h3 := (fun _ h => ah_any h : ∀ st, WfP st → Ah st (anyP st).2) _ h2.1
      obtain ⟨x, st2, e2⟩ : ∃ x st2, anyP (nextD st') = (x, st2) := ⟨_, _, rfl⟩
      rw [e2] at hfin hone h3
      simp only [anyA] at hfin hone h3
      have hdec : decide ((8 : Int) < ((l.length + 1 : Nat) : Int)) = decide (8 < l.length + 1) := by
        by_cases h : 8 < l.length + 1
        · simp only [h, decide_true]; exact decide_eq_true (by omega)
        · simp only [h, decide_false]; exact decide_eq_false (by omega)
      have h4 := ah_limit (decide (8 < l.length + 1)) h3.1
      have hnp : (nextD st').pos = st'.pos + 1 := rfl
      have hp3 := h3.2.2
      have hp4 := h4.2.2
      rw [et]
      simp -implicitDefEqProofs only [go_sem, ↓reduceIte, Nat.reduceLT, Nat.reduceEqDiff, Nat.reduceAdd, Nat.reduceLeDiff, Nat.reduceMul, Nat.reduceSub, Int.natCast_zero, Int.ofNat_zero, Int.natCast_one, Int.cast_ofNat_Int, bne_self_eq_false, beq_self_eq_true, Int.reduceBEq, Int.reduceBNe, Bool.not_true, Bool.not_false, r0, r3]
      refine hone.run ?_
      simp -implicitDefEqProofs only [go_sem, ↓reduceIte, Nat.reduceLT, Nat.reduceEqDiff, Nat.reduceAdd, Nat.reduceLeDiff, Nat.reduceMul, Nat.reduceSub, Int.natCast_zero, Int.ofNat_zero, Int.natCast_one, Int.cast_ofNat_Int, bne_self_eq_false, beq_self_eq_true, Int.reduceBEq, Int.reduceBNe, Bool.not_true, Bool.not_false, r0, r3]
      refine (hy.put hB hH _).app (zs := [anyA x]) (by rw [uz_y]; decide) (by rw [ub_y]; decide) (fun k hk => hk) (by rw [uz_y]; exact sized_y l) (by rw [uz_y]; exact sized_y [x]) (by rw [ub_y]; simp; omega) fun y' H2 hy' hk2 => ?_
      have hH2 : H2 id = some (PO st2) := hk2 _ _ _ (upd_same ..)
      simp -implicitDefEqProofs only [go_sem, ↓reduceIte, Nat.reduceLT, Nat.reduceEqDiff, Nat.reduceAdd, Nat.reduceLeDiff, Nat.reduceMul, Nat.reduceSub, Int.natCast_zero, Int.ofNat_zero, Int.natCast_one, Int.cast_ofNat_Int, bne_self_eq_false, beq_self_eq_true, Int.reduceBEq, Int.reduceBNe, Bool.not_true, Bool.not_false, r0, r3, hy'.len, List.length_append, List.length_map, List.length_cons, List.length_nil, Nat.zero_add, hdec]
      refine (limit_ok st2 _ h3.1).go hH2 ?_
      simp -implicitDefEqProofs only [go_sem, ↓reduceIte, Nat.reduceLT, Nat.reduceEqDiff, Nat.reduceAdd, Nat.reduceLeDiff, Nat.reduceMul, Nat.reduceSub, Int.natCast_zero, Int.ofNat_zero, Int.natCast_one, Int.cast_ofNat_Int, bne_self_eq_false, beq_self_eq_true, Int.reduceBEq, Int.reduceBNe, Bool.not_true, Bool.not_false, r0, r3]
      refine ⟨_, ?_, g, limitD st2 (decide (8 < l.length + 1)), l ++ [x], y', upd_same .., by rw [List.map_append]; exact hy'.put hB hH2 _, (((ha.trans h2).trans h3).trans h4), hfin, by omega, by simp; omega, rfl, ?_, ?_⟩
      · have : st1.ts.length = st'.ts.length := by rw [htl]
        omega
      all_goals simp -implicitDefEqProofs only [go_sem, ↓reduceIte, Nat.reduceLT, Nat.reduceEqDiff, Nat.reduceAdd, Nat.reduceLeDiff, Nat.reduceMul, Nat.reduceSub, Int.natCast_zero, Int.ofNat_zero, Int.natCast_one, Int.cast_ofNat_Int, bne_self_eq_false, beq_self_eq_true, Int.reduceBEq, Int.reduceBNe, Bool.not_true, Bool.not_false, r0, r3]
end Go.Proofs.YtdcchpbncckhlaaDoor

/- The parser: what functions are of; duties. -/
set_option linter.unusedSimpArgs false
set_option linter.unusedVariables false
namespace Go.Proofs.YtdcchpbncckhlaaDoor
open Go Go.Ab Go.Bf

theorem operands_ok (op : Int) (h : Heap) : FnOK Tryd.prog 156 [.v (.int .i64 op)] h fun r h' => r = .sl ((opers op).map boolA) .no ∧ h' = h := by
  refine FnOK.body hU hm Tryd.func156 rfl (by kernel_rfl) 15 rfl [.tmp 2] rfl (Nat.le_of_ble_eq_true rfl) (fun hwf => ?_)
  cases k3 : (op == 3) <;> cases k4 : (op == 4) <;> cases k5 : (op == 5) <;> cases k11 : (op == 11)
  all_goals
    simp -implicitDefEqProofs only [go_sem, ↓reduceIte, Nat.reduceLT, Nat.reduceEqDiff, Nat.reduceAdd, Nat.reduceLeDiff, Nat.reduceMul, Nat.reduceSub, Int.natCast_zero, Int.ofNat_zero, Int.natCast_one, Int.cast_ofNat_Int, bne_self_eq_false, beq_self_eq_true, Int.reduceBEq, Int.reduceBNe, Bool.not_true, Bool.not_false, k3, k4, k5, k11]
    simp only [beq_iff_eq, beq_eq_false_iff_ne] at k3 k4 k5 k11
    refine .mk _ (.sl _ _) (.refl _) ⟨?_, rfl⟩
    simp [opers, k3, k4, k5, k11, boolA]

theorem uz_o : (U 40).sz = 3 := by simp only [go_sem]
theorem ub_o : (U 40).bytes = 32 := by simp only [go_sem]
theorem sized_o (l : List OblD) : Sized 3 (l.map oblA) := fun z hz => by
  obtain ⟨c, _, rfl⟩ := List.mem_map.1 hz; rfl

set_option maxRecDepth 20000 in
theorem duties_p (st : PS) (hw : WfP st) : PC 85 [] st (oblsA (oblsP st).1) (oblsP st).2 := .of fun G id => by
  obtain ⟨M, eM⟩ : ∃ M, oblsP st = M := ⟨_, rfl⟩
  have eM2 : manyF oblP onceT 8 st.ts.length st [] = M := eM
  refine FnOK.body hU hm Tryd.func85 rfl (by kernel_rfl) 28 rfl [.tmp 2] rfl (Nat.le_of_ble_eq_true rfl) (fun hwf => ?_)
  simp -implicitDefEqProofs only [go_sem, ↓reduceIte, Nat.reduceLT, Nat.reduceEqDiff, Nat.reduceAdd, Nat.reduceLeDiff, Nat.reduceMul, Nat.reduceSub, Int.natCast_zero, Int.ofNat_zero, Int.natCast_one, Int.cast_ofNat_Int, bne_self_eq_false, beq_self_eq_true, Int.reduceBEq, Int.reduceBNe, Bool.not_true, Bool.not_false]
  have hB : upd G id none id = none := upd_same ..
  refine .intro (fun m ρ H => ∃ (f : Nat) (st' : PS) (l : List OblD) (y : AV), H id = some (PO st') ∧ Acc U 40 (upd G id none) H y (l.map oblA) ∧ Ah st st' ∧ manyF oblP onceT 8 f st' l = M ∧ st.ts.length ≤ f + st'.pos ∧ l.length ≤ st'.pos + 1 ∧ m = st.ts.length - st'.pos ∧ lk ρ 0 = some (.ptr id 0) ∧ lk ρ 3 = some y) (st.ts.length - st.pos) ?_ ?_
  · refine ⟨st.ts.length, st, [], .sl ([].map oblA) .full, upd_same .., .full (base_start G id _), .refl hw, eM2, by omega, by simp, rfl, ?_, ?_⟩ <;> simp -implicitDefEqProofs only [go_sem, ↓reduceIte, Nat.reduceLT, Nat.reduceEqDiff, Nat.reduceAdd, Nat.reduceLeDiff, Nat.reduceMul, Nat.reduceSub, Int.natCast_zero, Int.ofNat_zero, Int.natCast_one, Int.cast_ofNat_Int, bne_self_eq_false, beq_self_eq_true, Int.reduceBEq, Int.reduceBNe, Bool.not_true, Bool.not_false] <;> rfl
  · rintro m ρ H ⟨f, st', l, y, hH, hy, ha, hfin, hf, hll, rfl, r0, r3⟩
    have hlen := ha.1.2.2
    have hpos := ha.1.1
    have htl := ha.2.1
    simp -implicitDefEqProofs only [go_sem, ↓reduceIte, Nat.reduceLT, Nat.reduceEqDiff, Nat.reduceAdd, Nat.reduceLeDiff, Nat.reduceMul, Nat.reduceSub, Int.natCast_zero, Int.ofNat_zero, Int.natCast_one, Int.cast_ofNat_Int, bne_self_eq_false, beq_self_eq_true, Int.reduceBEq, Int.reduceBNe, Bool.not_true, Bool.not_false, r0, r3]
    refine (take_ok st' onceT ha.1).go hH ?_
    cases d1 : isD st' onceT
    · have et : takeD st' onceT = (false, st') := by simp [takeD, d1]
      have ef : manyF oblP onceT 8 f st' l = (l, st') := by cases f <;> simp [manyF, d1]
      rw [et, upd_self hH]
      rw [ef] at hfin
      simp -implicitDefEqProofs only [go_sem, ↓reduceIte, Nat.reduceLT, Nat.reduceEqDiff, Nat.reduceAdd, Nat.reduceLeDiff, Nat.reduceMul, Nat.reduceSub, Int.natCast_zero, Int.ofNat_zero, Int.natCast_one, Int.cast_ofNat_Int, bne_self_eq_false, beq_self_eq_true, Int.reduceBEq, Int.reduceBNe, Bool.not_true, Bool.not_false, r0, r3]
      exact .mk (h' := upd G id (some (PO (oblsP st).2))) (oblsA l) hy.weak (by rw [eM, ← hfin]; exact base_end hy.1 hH) ⟨by rw [eM, ← hfin], rfl⟩
    · have et : takeD st' onceT = (true, nextD st') := by simp [takeD, d1]
      obtain ⟨g, rfl⟩ : ∃ g, f = g + 1 := ⟨f - 1, by rw [htl] at hpos; omega⟩
      simp only [manyF, d1, if_true] at hfin
      have h2 := ah_next ha.1 (isD_kind d1)
      have ho1 := ah_among onWs h2.1
      have ho2 := ah_among dutyWs ho1.1
      have ho3 := ah_name ho2.1
      have h3 : Ah (nextD st') (oblP (nextD st')).2 := ah_obl h2.1
      have hdec : decide ((8 : Int) < ((l.length + 1 : Nat) : Int)) = decide (8 < l.length + 1) := by
        by_cases h : 8 < l.length + 1
        · simp only [h, decide_true]; exact decide_eq_true (by omega)
        · simp only [h, decide_false]; exact decide_eq_false (by omega)
      have h4 := ah_limit (decide (8 < l.length + 1)) h3.1
      have hnp : (nextD st').pos = st'.pos + 1 := rfl
      have hp3 := h3.2.2
      have hp4 := h4.2.2
      have eX : (oblP (nextD st')) = (⟨(amongD (nextD st') onWs).1, (amongD (amongD (nextD st') onWs).2 dutyWs).1, (nameP (amongD (amongD (nextD st') onWs).2 dutyWs).2).1⟩, (nameP (amongD (amongD (nextD st') onWs).2 dutyWs).2).2) := rfl
      obtain ⟨x, st2, e2⟩ : ∃ x st2, oblP (nextD st') = (x, st2) := ⟨_, _, rfl⟩
      rw [et]
      simp -implicitDefEqProofs only [go_sem, ↓reduceIte, Nat.reduceLT, Nat.reduceEqDiff, Nat.reduceAdd, Nat.reduceLeDiff, Nat.reduceMul, Nat.reduceSub, Int.natCast_zero, Int.ofNat_zero, Int.natCast_one, Int.cast_ofNat_Int, bne_self_eq_false, beq_self_eq_true, Int.reduceBEq, Int.reduceBNe, Bool.not_true, Bool.not_false, r0, r3]
      intro i4 hi4
      have n4 := ne_upd hi4
      have hH4 : H i4 = none := by rw [upd_other _ _ n4] at hi4; exact hi4
      have c4 : ∀ (f : Heap) (x y : Option Blk), upd (upd f id x) i4 y = upd (upd f i4 y) id x := fun f x y => upd_comm f x y n4.symm
      simp -implicitDefEqProofs only [go_sem, ↓reduceIte, Nat.reduceLT, Nat.reduceEqDiff, Nat.reduceAdd, Nat.reduceLeDiff, Nat.reduceMul, Nat.reduceSub, Int.natCast_zero, Int.ofNat_zero, Int.natCast_one, Int.cast_ofNat_Int, bne_self_eq_false, beq_self_eq_true, Int.reduceBEq, Int.reduceBNe, Bool.not_true, Bool.not_false, r0, r3, c4]
      refine (among_ok _ onWs .full (by decide) h2.1).run ?_
      simp -implicitDefEqProofs only [go_sem, ↓reduceIte, Nat.reduceLT, Nat.reduceEqDiff, Nat.reduceAdd, Nat.reduceLeDiff, Nat.reduceMul, Nat.reduceSub, Int.natCast_zero, Int.ofNat_zero, Int.natCast_one, Int.cast_ofNat_Int, bne_self_eq_false, beq_self_eq_true, Int.reduceBEq, Int.reduceBNe, Bool.not_true, Bool.not_false, r0, r3, c4, upd_ne, n4]
      refine (among_ok _ dutyWs .full (by decide) ho1.1).run ?_
      simp -implicitDefEqProofs only [go_sem, ↓reduceIte, Nat.reduceLT, Nat.reduceEqDiff, Nat.reduceAdd, Nat.reduceLeDiff, Nat.reduceMul, Nat.reduceSub, Int.natCast_zero, Int.ofNat_zero, Int.natCast_one, Int.cast_ofNat_Int, bne_self_eq_false, beq_self_eq_true, Int.reduceBEq, Int.reduceBNe, Bool.not_true, Bool.not_false, r0, r3, c4, upd_ne, n4]
      refine (pname_ok _ ho2.1).run ?_
      simp -implicitDefEqProofs only [go_sem, ↓reduceIte, Nat.reduceLT, Nat.reduceEqDiff, Nat.reduceAdd, Nat.reduceLeDiff, Nat.reduceMul, Nat.reduceSub, Int.natCast_zero, Int.ofNat_zero, Int.natCast_one, Int.cast_ofNat_Int, bne_self_eq_false, beq_self_eq_true, Int.reduceBEq, Int.reduceBNe, Bool.not_true, Bool.not_false, r0, r3, c4, upd_ne, n4]
      rw [e2] at hfin h3 h4 hp3 hp4
      simp only at hfin h3 h4 hp3 hp4
      have ex1 : x = (oblP (nextD st')).1 := by rw [e2]
      have ex2 : st2 = (nameP (amongD (amongD (nextD st') onWs).2 dutyWs).2).2 := by
        have : st2 = (oblP (nextD st')).2 := by rw [e2]
        exact this
      rw [← ex2]
      refine ((hy.sub (Sub.upd_new (k := _) hH4)).put hB (by rw [upd_other _ _ n4.symm]; exact hH) _).app (zs := [oblA x]) (by rw [uz_o]; decide) (by rw [ub_o]; decide) (fun k hk => by rw [ex1] at hk; exact hk) (by rw [uz_o]; exact sized_o l) (by rw [uz_o]; exact sized_o [x]) (by rw [ub_o]; simp; omega) fun y' H2 hy' hk2 => ?_
      have hH2 : H2 id = some (PO st2) := hk2 _ _ _ (upd_same ..)
      simp -implicitDefEqProofs only [go_sem, ↓reduceIte, Nat.reduceLT, Nat.reduceEqDiff, Nat.reduceAdd, Nat.reduceLeDiff, Nat.reduceMul, Nat.reduceSub, Int.natCast_zero, Int.ofNat_zero, Int.natCast_one, Int.cast_ofNat_Int, bne_self_eq_false, beq_self_eq_true, Int.reduceBEq, Int.reduceBNe, Bool.not_true, Bool.not_false, r0, r3, hy'.len, List.length_append, List.length_map, List.length_cons, List.length_nil, Nat.zero_add, hdec]
      refine (limit_ok st2 _ h3.1).go hH2 ?_
      simp -implicitDefEqProofs only [go_sem, ↓reduceIte, Nat.reduceLT, Nat.reduceEqDiff, Nat.reduceAdd, Nat.reduceLeDiff, Nat.reduceMul, Nat.reduceSub, Int.natCast_zero, Int.ofNat_zero, Int.natCast_one, Int.cast_ofNat_Int, bne_self_eq_false, beq_self_eq_true, Int.reduceBEq, Int.reduceBNe, Bool.not_true, Bool.not_false, r0, r3]
      refine ⟨_, ?_, g, limitD st2 (decide (8 < l.length + 1)), l ++ [x], y', upd_same .., by rw [List.map_append]; exact hy'.put hB hH2 _, (((ha.trans h2).trans h3).trans h4), hfin, by omega, by simp; omega, rfl, ?_, ?_⟩
      · have : st.ts.length = st'.ts.length := by rw [htl]
        omega
      all_goals simp -implicitDefEqProofs only [go_sem, ↓reduceIte, Nat.reduceLT, Nat.reduceEqDiff, Nat.reduceAdd, Nat.reduceLeDiff, Nat.reduceMul, Nat.reduceSub, Int.natCast_zero, Int.ofNat_zero, Int.natCast_one, Int.cast_ofNat_Int, bne_self_eq_false, beq_self_eq_true, Int.reduceBEq, Int.reduceBNe, Bool.not_true, Bool.not_false, r0, r3]
end Go.Proofs.YtdcchpbncckhlaaDoor

/- The parser: expressions. -/
set_option linter.unusedSimpArgs false
set_option linter.unusedVariables false
namespace Go.Proofs.YtdcchpbncckhlaaDoor
open Go Go.Ab Go.Bf

theorem acc_less {U : TypeId → TI} {e : TypeId} {B B' H : Heap} {y : AV} {xs : List AV} (hs : Sub B B') (ha : Acc U e B' H y xs) : Acc U e B H y xs := by
  obtain ⟨h1, rfl | ⟨k, i1, rfl, i2⟩⟩ := ha
  · exact ⟨hs.trans h1, .inl rfl⟩
  · refine ⟨hs.trans h1, .inr ⟨k, ?_, rfl, i2⟩⟩
    cases hk : B k with
    | none => rfl
    | some b => rw [hs _ _ hk] at i1; cases i1
theorem acc_grow {U : TypeId → TI} {e : TypeId} {B H : Heap} {y : AV} {xs : List AV} (ha : Acc U e B H y xs) {i : Nat} (hi : H i = none) (b : Option Blk) : Acc U e (upd B i b) (upd H i b) y xs := by
  obtain ⟨h1, rfl | ⟨k, i1, rfl, i2⟩⟩ := ha
  · exact ⟨h1.both _ _, .inl rfl⟩
  · have hne : k ≠ i := fun hh => by subst hh; rw [hi] at i2; cases i2
    exact ⟨h1.both _ _, .inr ⟨k, by rw [upd_other _ _ hne]; exact i1, rfl, by rw [upd_other _ _ hne]; exact i2⟩⟩
theorem acc_step {U : TypeId → TI} {e : TypeId} {G K : Heap} {id : Nat} {st : PS} {y : AV} {xs : List AV} (ha : Acc U e (upd G id none) (upd K id (some (PO st))) y xs) (st' : PS) : Acc U e (upd G id none) (upd K id (some (PO st'))) y xs := by
  have := ha.put (id := id) (upd_same ..) (cs := _) (t := _) (upd_same ..) (some (PO st'))
  rw [upd_upd] at this
  exact this

def XC (f : FuncId) (args : List AV) (st : PS) (l : List NodeD) (mk : AV → AV) (st' : PS) (l' : List NodeD) : Prop :=
  ∀ (G K : Heap) (id : Nat) (y : AV), Acc U 33 (upd G id none) (upd K id (some (PO st))) y (l.map nodeA) → FnOK Tryd.prog f (.ptr id 0 :: y :: args) (upd K id (some (PO st))) fun r h' => ∃ y', r = mk y' ∧ h' id = some (PO st') ∧ Acc U 33 (upd G id none) h' y' (l'.map nodeA)
theorem XC.run {f : FuncId} {args : List AV} {st st' : PS} {l l' : List NodeD} {mk : AV → AV} (hc : XC f args st l mk st' l') {G K : Heap} {id : Nat} {y : AV} {Q : AV → Heap → Prop} (ha : Acc U 33 (upd G id none) (upd K id (some (PO st))) y (l.map nodeA))
    (k : ∀ y' K', Acc U 33 (upd G id none) (upd K' id (some (PO st'))) y' (l'.map nodeA) → Q (mk y') (upd K' id (some (PO st')))) : FnOK Tryd.prog f (.ptr id 0 :: y :: args) (upd K id (some (PO st))) Q :=
  (hc G K id y ha).mono fun r h' ⟨y', e1, e2, e3⟩ => by
    subst e1
    have := k y' h' (by rw [upd_self e2]; exact e3)
    rwa [upd_self e2] at this

def EH (ex : ExF) (f : Nat) : Prop := ∀ st l, WfP st → st.ts.length ≤ f + st.pos → l.length ≤ 2 * st.pos + 1 → XC 136 [] st l (fun y => .tup [y, .v (.bool (ex st l).1.2)]) (ex st l).2 (ex st l).1.1

theorem among_rng (st : PS) (ws : List Txt) : 0 ≤ (amongD st ws).1 ∧ (amongD st ws).1 ≤ ws.length := by
  unfold amongD
  cases ei : idxT (hereD st).s ws with
  | none => simp
  | some i =>
    have := idxT_lt ei
    simp only
    split <;> simp <;> omega

theorem operand_x {ex : ExF} (ho : ExOK ex) {f : Nat} (he : EH ex f) (st : PS) (l : List NodeD) (b : Bool) (hw : WfP st) (hf : st.ts.length ≤ f + st.pos) (hl : l.length ≤ 2 * st.pos + 1) : XC 124 [.v (.bool b)] st l (fun y => y) (operG ex st l b).2 (operG ex st l b).1 := fun G K id y ha => by
  refine FnOK.body hU hm Tryd.func124 rfl (by kernel_rfl) 25 rfl [.tmp 6] rfl (Nat.le_of_ble_eq_true rfl) (fun hwf => ?_)
  simp -implicitDefEqProofs only [go_sem, ↓reduceIte, Nat.reduceLT, Nat.reduceEqDiff, Nat.reduceAdd, Nat.reduceLeDiff, Nat.reduceMul, Nat.reduceSub, Int.natCast_zero, Int.ofNat_zero, Int.natCast_one, Int.cast_ofNat_Int, bne_self_eq_false, beq_self_eq_true, Int.reduceBEq, Int.reduceBNe, Bool.not_true, Bool.not_false]
  refine (here_ok st hw).run ?_
  simp -implicitDefEqProofs only [go_sem, ↓reduceIte, Nat.reduceLT, Nat.reduceEqDiff, Nat.reduceAdd, Nat.reduceLeDiff, Nat.reduceMul, Nat.reduceSub, Int.natCast_zero, Int.ofNat_zero, Int.natCast_one, Int.cast_ofNat_Int, bne_self_eq_false, beq_self_eq_true, Int.reduceBEq, Int.reduceBNe, Bool.not_true, Bool.not_false, tokA]
  refine (he st l hw hf hl).run ha fun y' K' ha' => ?_
  cases db : ((ex st l).1.2 == b)
  · have e1 : (ex st l).1.2 ≠ b := by simpa using db
    have en : operG ex st l b = ((ex st l).1.1, wrongD (ex st l).2 5 (hereD st).pos) := by simp [operG, e1]
    simp -implicitDefEqProofs only [go_sem, ↓reduceIte, Nat.reduceLT, Nat.reduceEqDiff, Nat.reduceAdd, Nat.reduceLeDiff, Nat.reduceMul, Nat.reduceSub, Int.natCast_zero, Int.ofNat_zero, Int.natCast_one, Int.cast_ofNat_Int, bne_self_eq_false, beq_self_eq_true, Int.reduceBEq, Int.reduceBNe, Bool.not_true, Bool.not_false, db, Bool.not_false]
    refine (wrong_ok _ 5 _).run ?_
    simp -implicitDefEqProofs only [go_sem, ↓reduceIte, Nat.reduceLT, Nat.reduceEqDiff, Nat.reduceAdd, Nat.reduceLeDiff, Nat.reduceMul, Nat.reduceSub, Int.natCast_zero, Int.ofNat_zero, Int.natCast_one, Int.cast_ofNat_Int, bne_self_eq_false, beq_self_eq_true, Int.reduceBEq, Int.reduceBNe, Bool.not_true, Bool.not_false]
    exact .mk (h' := upd K' id (some (PO (wrongD (ex st l).2 5 (hereD st).pos)))) y' (.refl _) (.refl _) ⟨y', rfl, by rw [en]; exact upd_same .., by rw [en]; exact acc_step ha' _⟩
  · have e1 : (ex st l).1.2 = b := by simpa using db
    have en : operG ex st l b = ((ex st l).1.1, (ex st l).2) := by simp [operG, e1]
    simp -implicitDefEqProofs only [go_sem, ↓reduceIte, Nat.reduceLT, Nat.reduceEqDiff, Nat.reduceAdd, Nat.reduceLeDiff, Nat.reduceMul, Nat.reduceSub, Int.natCast_zero, Int.ofNat_zero, Int.natCast_one, Int.cast_ofNat_Int, bne_self_eq_false, beq_self_eq_true, Int.reduceBEq, Int.reduceBNe, Bool.not_true, Bool.not_false, db, Bool.not_true]
    exact .mk (h' := upd K' id (some (PO (ex st l).2))) y' (.refl _) (.refl _) ⟨y', rfl, by rw [en]; exact upd_same .., by rw [en]; exact ha'⟩

set_option maxRecDepth 20000 in
theorem function_x {ex : ExF} (ho : ExOK ex) {f : Nat} (he : EH ex f) (st : PS) (l : List NodeD) (hw : WfP st) (hf : st.ts.length ≤ f + st.pos) (hl : l.length + 1 ≤ 2 * st.pos) : XC 150 [] st l (fun y => .tup [y, nodeA (funcG ex st l).1.2]) (funcG ex st l).2 (funcG ex st l).1.1 := fun G K id y ha => by
  have h1 := ah_among fnWs hw
  have hrg := among_rng st fnWs
  have hfl : fnWs.length = 11 := rfl
  have w2 : IntKind.i64.wrap (2 + (amongD st fnWs).1) = 2 + (amongD st fnWs).1 := by rw [wr64 _ (by omega)]
  refine FnOK.body hU hm Tryd.func150 rfl (by kernel_rfl) 36 rfl [.tmp 4, .cell 5 33] rfl (Nat.le_of_ble_eq_true rfl) (fun hwf => ?_)
  simp -implicitDefEqProofs only [go_sem, ↓reduceIte, Nat.reduceLT, Nat.reduceEqDiff, Nat.reduceAdd, Nat.reduceLeDiff, Nat.reduceMul, Nat.reduceSub, Int.natCast_zero, Int.ofNat_zero, Int.natCast_one, Int.cast_ofNat_Int, bne_self_eq_false, beq_self_eq_true, Int.reduceBEq, Int.reduceBNe, Bool.not_true, Bool.not_false]
  intro i5 hi5
  have n5 := ne_upd hi5
  have hK5 : K i5 = none := by rw [upd_other _ _ n5] at hi5; exact hi5
  have c5 : ∀ (f : Heap) (x y : Option Blk), upd (upd f id x) i5 y = upd (upd f i5 y) id x := fun f x y => upd_comm f x y n5.symm
  simp -implicitDefEqProofs only [go_sem, ↓reduceIte, Nat.reduceLT, Nat.reduceEqDiff, Nat.reduceAdd, Nat.reduceLeDiff, Nat.reduceMul, Nat.reduceSub, Int.natCast_zero, Int.ofNat_zero, Int.natCast_one, Int.cast_ofNat_Int, bne_self_eq_false, beq_self_eq_true, Int.reduceBEq, Int.reduceBNe, Bool.not_true, Bool.not_false, c5]
  refine (among_ok _ fnWs .full (by decide) hw).run ?_
  simp -implicitDefEqProofs only [go_sem, ↓reduceIte, Nat.reduceLT, Nat.reduceEqDiff, Nat.reduceAdd, Nat.reduceLeDiff, Nat.reduceMul, Nat.reduceSub, Int.natCast_zero, Int.ofNat_zero, Int.natCast_one, Int.cast_ofNat_Int, bne_self_eq_false, beq_self_eq_true, Int.reduceBEq, Int.reduceBNe, Bool.not_true, Bool.not_false, w2, c5]
  intro i6 hi6
  have n6 := ne_upd hi6
  have c6 : ∀ (f : Heap) (x y : Option Blk), upd (upd f id x) i6 y = upd (upd f i6 y) id x := fun f x y => upd_comm f x y n6.symm
  have hi6' := hi6
  rw [upd_other _ _ n6] at hi6'
  have n65 := ne_upd hi6'
  have hK6 : K i6 = none := by rw [upd_other _ _ n65] at hi6'; exact hi6'
  simp -implicitDefEqProofs only [go_sem, ↓reduceIte, Nat.reduceLT, Nat.reduceEqDiff, Nat.reduceAdd, Nat.reduceLeDiff, Nat.reduceMul, Nat.reduceSub, Int.natCast_zero, Int.ofNat_zero, Int.natCast_one, Int.cast_ofNat_Int, bne_self_eq_false, beq_self_eq_true, Int.reduceBEq, Int.reduceBNe, Bool.not_true, Bool.not_false, w2, c5, c6, upd_ne, n5, n6]
  refine (operands_ok _ _).pthen ?_
  simp -implicitDefEqProofs only [go_sem, ↓reduceIte, Nat.reduceLT, Nat.reduceEqDiff, Nat.reduceAdd, Nat.reduceLeDiff, Nat.reduceMul, Nat.reduceSub, Int.natCast_zero, Int.ofNat_zero, Int.natCast_one, Int.cast_ofNat_Int, bne_self_eq_false, beq_self_eq_true, Int.reduceBEq, Int.reduceBNe, Bool.not_true, Bool.not_false, w2, c5, c6, upd_ne, n5, n6]
  have h5f := ha
  obtain ⟨bs, ebs⟩ : ∃ bs, opers (2 + (amongD st fnWs).1) = bs := ⟨_, rfl⟩
  obtain ⟨M, eM⟩ : ∃ M, opersG ex bs (amongD st fnWs).2 l = M := ⟨_, rfl⟩
  have hb2 : bs.length ≤ 2 := by rw [← ebs]; exact opers_le _
  have hMr : funcG ex st l = ((M.1, ⟨2 + (amongD st fnWs).1, ⟨0, 0, []⟩, ⟨0, [], false⟩⟩), mustD M.2 [41]) := by simp only [funcG, ebs, eM]
  obtain ⟨st1, es1⟩ : ∃ st1, (amongD st fnWs).2 = st1 := ⟨_, rfl⟩
  have hac0 := acc_grow (acc_grow (acc_step ha st1) (by rw [upd_other _ _ n5]; exact hK5) (some (.obj [.v (.int .i64 0), .v (.int .i64 0), .v (.int .i64 0), .s [], .v (.int .i64 0), .s [], .v (.bool false)] 33))) (by rw [upd_other _ _ n65, upd_other _ _ n6]; exact hK6) (some (.obj [.v (.int .i64 (2 + (amongD st fnWs).1)), .v (.int .i64 0), .v (.int .i64 0), .s [], .v (.int .i64 0), .s [], .v (.bool false)] 33))
  simp only [c5, c6] at hac0
  obtain ⟨G', eG⟩ : ∃ G', G' = upd (upd G i5 (some (.obj [.v (.int .i64 0), .v (.int .i64 0), .v (.int .i64 0), .s [], .v (.int .i64 0), .s [], .v (.bool false)] 33))) i6 (some (.obj [.v (.int .i64 (2 + (amongD st fnWs).1)), .v (.int .i64 0), .v (.int .i64 0), .s [], .v (.int .i64 0), .s [], .v (.bool false)] 33)) := ⟨_, rfl⟩
  have g5 : upd G' id none i5 = some (.obj [.v (.int .i64 0), .v (.int .i64 0), .v (.int .i64 0), .s [], .v (.int .i64 0), .s [], .v (.bool false)] 33) := by rw [eG, upd_other _ _ n5, upd_other _ _ (Ne.symm n65), upd_same]
  have g6 : upd G' id none i6 = some (.obj [.v (.int .i64 (2 + (amongD st fnWs).1)), .v (.int .i64 0), .v (.int .i64 0), .s [], .v (.int .i64 0), .s [], .v (.bool false)] 33) := by rw [eG, upd_other _ _ n6, upd_same]
  rw [← eG] at hac0
  have gi5 : upd G id none i5 = none := by
    cases hk : upd G id none i5 with
    | none => rfl
    | some b => rw [ha.1 _ _ hk] at hi5; cases hi5
  have hsG : Sub (upd G id none) (upd G' id none) := fun k b hk => by
    have hs1 := ha.1 k b hk
    have hk5 : k ≠ i5 := fun e => by rw [e, hi5] at hs1; cases hs1
    have hk6 : k ≠ i6 := fun e => by
      rw [e, upd_other _ _ n6, hK6] at hs1; cases hs1
    by_cases hkid : k = id
    · subst hkid; rw [upd_same] at hk; cases hk
    · rw [upd_other _ _ hkid] at hk ⊢
      rw [eG, upd_other _ _ hk6, upd_other _ _ hk5]; exact hk
  simp only [es1, ebs] at h1 eM ⊢
  refine .intro (fun m ρ H => ∃ (i : Nat) (st' : PS) (l' : List NodeD) (y' : AV) (K' : Heap), H = upd K' id (some (PO st')) ∧ Acc U 33 (upd G' id none) (upd K' id (some (PO st'))) y' (l'.map nodeA) ∧ Ah st1 st' ∧ i ≤ bs.length ∧ opersG ex (bs.drop i) st' l' = M ∧ l'.length + 1 ≤ 2 * st'.pos + i ∧ m = bs.length - i ∧ lk ρ 0 = some (.ptr id 0) ∧ lk ρ 1 = some y' ∧ lk ρ 5 = some (.ptr i5 0) ∧ lk ρ 6 = some (.ptr i6 0) ∧ lk ρ 16 = some (.sl (bs.map boolA) .no) ∧ lk ρ 17 = some (.v (.int .i64 bs.length)) ∧ lk ρ 18 = some (.v (.int .i64 i))) bs.length ?_ ?_
  · refine ⟨0, st1, l, y, _, rfl, hac0, .refl h1.1, by omega, by simpa using eM, by have := h1.2.2; omega, rfl, ?_, ?_, ?_, ?_, ?_, ?_, ?_⟩ <;> simp -implicitDefEqProofs only [go_sem, ↓reduceIte, Nat.reduceLT, Nat.reduceEqDiff, Nat.reduceAdd, Nat.reduceLeDiff, Nat.reduceMul, Nat.reduceSub, Int.natCast_zero, Int.ofNat_zero, Int.natCast_one, Int.cast_ofNat_Int, bne_self_eq_false, beq_self_eq_true, Int.reduceBEq, Int.reduceBNe, Bool.not_true, Bool.not_false] <;> (try rfl) <;> simp
  · rintro m ρ H ⟨i, st', l', y', K', rfl, hac, hah, hi, hfin, hll, rfl, r0, r1, r5, r6, r16, r17, r18⟩
    simp -implicitDefEqProofs only [go_sem, ↓reduceIte, Nat.reduceLT, Nat.reduceEqDiff, Nat.reduceAdd, Nat.reduceLeDiff, Nat.reduceMul, Nat.reduceSub, Int.natCast_zero, Int.ofNat_zero, Int.natCast_one, Int.cast_ofNat_Int, bne_self_eq_false, beq_self_eq_true, Int.reduceBEq, Int.reduceBNe, Bool.not_true, Bool.not_false, r0, r1, r5, r6, r16, r17, r18]
    have k6 : upd K' id (some (PO st')) i6 = some (.obj [.v (.int .i64 (2 + (amongD st fnWs).1)), .v (.int .i64 0), .v (.int .i64 0), .s [], .v (.int .i64 0), .s [], .v (.bool false)] 33) := hac.1 _ _ g6
    have k5 : upd K' id (some (PO st')) i5 = some (.obj [.v (.int .i64 0), .v (.int .i64 0), .v (.int .i64 0), .s [], .v (.int .i64 0), .s [], .v (.bool false)] 33) := hac.1 _ _ g5
    rw [upd_other _ _ n6] at k6
    rw [upd_other _ _ n5] at k5
    refine .intro (fun e => ?_) (fun e => ?_)
    · have hlt : i < bs.length := Int.ofNat_lt.1 (of_decide_eq_true e)
      simp -implicitDefEqProofs only [go_sem, ↓reduceIte, Nat.reduceLT, Nat.reduceEqDiff, Nat.reduceAdd, Nat.reduceLeDiff, Nat.reduceMul, Nat.reduceSub, Int.natCast_zero, Int.ofNat_zero, Int.natCast_one, Int.cast_ofNat_Int, bne_self_eq_false, beq_self_eq_true, Int.reduceBEq, Int.reduceBNe, Bool.not_true, Bool.not_false, r0, r1, r5, r6, r16, r17, r18]
      refine .at i (by simpa using hlt) (by rw [List.getElem_map]; rfl) ?_
      cases db : (st'.bad != 0)
      · have e1 : st'.bad = 0 := by simpa using db
        rw [List.drop_eq_getElem_cons hlt] at hfin
        simp only [opersG, e1, if_true] at hfin
        simp -implicitDefEqProofs only [go_sem, ↓reduceIte, Nat.reduceLT, Nat.reduceEqDiff, Nat.reduceAdd, Nat.reduceLeDiff, Nat.reduceMul, Nat.reduceSub, Int.natCast_zero, Int.ofNat_zero, Int.natCast_one, Int.cast_ofNat_Int, bne_self_eq_false, beq_self_eq_true, Int.reduceBEq, Int.reduceBNe, Bool.not_true, Bool.not_false, r0, r1, r5, r6, r16, r17, r18, List.getElem_map, boolA, PO, db]
        have hpl := hah.2.2
        refine (operand_x ho he st' l' bs[i] hah.1 (by rw [hah.2.1, h1.2.1]; have := h1.2.2; omega) (by omega)).run hac fun y2 K2 hac2 => ?_
        obtain ⟨q1, q2⟩ := operG_ok ho st' l' bs[i] hah.1
        have w1 : IntKind.i64.wrap ((i : Int) + 1) = ((i + 1 : Nat) : Int) := by rw [wr64 _ (by omega)]; omega
        simp -implicitDefEqProofs only [go_sem, ↓reduceIte, Nat.reduceLT, Nat.reduceEqDiff, Nat.reduceAdd, Nat.reduceLeDiff, Nat.reduceMul, Nat.reduceSub, Int.natCast_zero, Int.ofNat_zero, Int.natCast_one, Int.cast_ofNat_Int, bne_self_eq_false, beq_self_eq_true, Int.reduceBEq, Int.reduceBNe, Bool.not_true, Bool.not_false, r0, r1, r5, r6, r16, r17, r18, w1]
        refine ⟨_, ?_, i + 1, (operG ex st' l' bs[i]).2, (operG ex st' l' bs[i]).1, y2, K2, rfl, hac2, hah.trans q1, hlt, hfin, by omega, rfl, ?_⟩
        · omega
        refine ⟨?_, ?_, ?_, ?_, ?_, ?_, ?_⟩
        all_goals simp -implicitDefEqProofs only [go_sem, ↓reduceIte, Nat.reduceLT, Nat.reduceEqDiff, Nat.reduceAdd, Nat.reduceLeDiff, Nat.reduceMul, Nat.reduceSub, Int.natCast_zero, Int.ofNat_zero, Int.natCast_one, Int.cast_ofNat_Int, bne_self_eq_false, beq_self_eq_true, Int.reduceBEq, Int.reduceBNe, Bool.not_true, Bool.not_false, r0, r1, r5, r6, r16, r17, r18, w1]
      · have e1 : st'.bad ≠ 0 := by simpa using db
        have hfin2 : (l', st') = M := by
          rw [← hfin, List.drop_eq_getElem_cons hlt]
          simp [opersG, e1]
        clear hfin
        have hfin := hfin2
        simp -implicitDefEqProofs only [go_sem, ↓reduceIte, Nat.reduceLT, Nat.reduceEqDiff, Nat.reduceAdd, Nat.reduceLeDiff, Nat.reduceMul, Nat.reduceSub, Int.natCast_zero, Int.ofNat_zero, Int.natCast_one, Int.cast_ofNat_Int, bne_self_eq_false, beq_self_eq_true, Int.reduceBEq, Int.reduceBNe, Bool.not_true, Bool.not_false, r0, r1, r5, r6, r16, r17, r18, List.getElem_map, boolA, PO, db]
        refine (must_ok _ [41] hah.1).run ?_
        simp -implicitDefEqProofs only [go_sem, ↓reduceIte, Nat.reduceLT, Nat.reduceEqDiff, Nat.reduceAdd, Nat.reduceLeDiff, Nat.reduceMul, Nat.reduceSub, Int.natCast_zero, Int.ofNat_zero, Int.natCast_one, Int.cast_ofNat_Int, bne_self_eq_false, beq_self_eq_true, Int.reduceBEq, Int.reduceBNe, Bool.not_true, Bool.not_false, r0, r1, r5, r6, r16, r17, r18, upd_ne, n5, n6, k5, k6]
        refine ⟨.of (by kernel_rfl), ?_⟩
        exact .mk (.tup [y', nodeA ⟨2 + (amongD st fnWs).1, ⟨0, 0, []⟩, ⟨0, [], false⟩⟩]) (.refl _) (.refl _) ⟨y', by rw [hMr], by rw [hMr, ← hfin]; exact (upd_other _ _ (Ne.symm n5)).trans (upd_same ..), by rw [hMr, ← hfin]; exact (acc_less hsG (acc_step hac (mustD st' [41]))).put gi5 ((upd_other _ _ n5).trans k5) _⟩
    · have hge : i = bs.length := by have := of_decide_eq_false e; omega
      subst hge
      rw [List.drop_length] at hfin
      simp only [opersG] at hfin
      simp -implicitDefEqProofs only [go_sem, ↓reduceIte, Nat.reduceLT, Nat.reduceEqDiff, Nat.reduceAdd, Nat.reduceLeDiff, Nat.reduceMul, Nat.reduceSub, Int.natCast_zero, Int.ofNat_zero, Int.natCast_one, Int.cast_ofNat_Int, bne_self_eq_false, beq_self_eq_true, Int.reduceBEq, Int.reduceBNe, Bool.not_true, Bool.not_false, r0, r1, r5, r6, r16, r17, r18]
      refine (must_ok _ [41] hah.1).run ?_
      simp -implicitDefEqProofs only [go_sem, ↓reduceIte, Nat.reduceLT, Nat.reduceEqDiff, Nat.reduceAdd, Nat.reduceLeDiff, Nat.reduceMul, Nat.reduceSub, Int.natCast_zero, Int.ofNat_zero, Int.natCast_one, Int.cast_ofNat_Int, bne_self_eq_false, beq_self_eq_true, Int.reduceBEq, Int.reduceBNe, Bool.not_true, Bool.not_false, r0, r1, r5, r6, r16, r17, r18, upd_ne, n5, n6, k5, k6]
      refine ⟨.of (by kernel_rfl), ?_⟩
      exact .mk (.tup [y', nodeA ⟨2 + (amongD st fnWs).1, ⟨0, 0, []⟩, ⟨0, [], false⟩⟩]) (.refl _) (.refl _) ⟨y', by rw [hMr], by rw [hMr, ← hfin]; exact (upd_other _ _ (Ne.symm n5)).trans (upd_same ..), by rw [hMr, ← hfin]; exact (acc_less hsG (acc_step hac (mustD st' [41]))).put gi5 ((upd_other _ _ n5).trans k5) _⟩
end Go.Proofs.YtdcchpbncckhlaaDoor

/- The parser: expressions within expressions. -/
set_option linter.unusedSimpArgs false
set_option linter.unusedVariables false
namespace Go.Proofs.YtdcchpbncckhlaaDoor
open Go Go.Ab Go.Bf

theorem uz_n : (U 33).sz = 7 := by simp only [go_sem]
theorem ub_n : (U 33).bytes = 72 := by simp only [go_sem]
theorem sized_n (l : List NodeD) : Sized 7 (l.map nodeA) := fun z hz => by
  obtain ⟨c, _, rfl⟩ := List.mem_map.1 hz; rfl

set_option maxRecDepth 20000 in
theorem expr_s (f : Nat) (ih : EH (exprF f) f) : EH (exprF (f + 1)) (f + 1) := fun st l hw hf hl G K id y ha => by
  refine FnOK.body hU hm Tryd.func136 rfl (by kernel_rfl) 52 rfl [.tmp 4, .tmp 5] rfl (Nat.le_of_ble_eq_true rfl) (fun hwf => ?_)
  simp -implicitDefEqProofs only [go_sem, ↓reduceIte, Nat.reduceLT, Nat.reduceEqDiff, Nat.reduceAdd, Nat.reduceLeDiff, Nat.reduceMul, Nat.reduceSub, Int.natCast_zero, Int.ofNat_zero, Int.natCast_one, Int.cast_ofNat_Int, bne_self_eq_false, beq_self_eq_true, Int.reduceBEq, Int.reduceBNe, Bool.not_true, Bool.not_false]
  intro i6 hi6
  have n6 := ne_upd hi6
  have hK6 : K i6 = none := by rw [upd_other _ _ n6] at hi6; exact hi6
  have c6 : ∀ (f : Heap) (x y : Option Blk), upd (upd f id x) i6 y = upd (upd f i6 y) id x := fun f x y => upd_comm f x y n6.symm
  have gi6 : upd G id none i6 = none := by
    cases hk : upd G id none i6 with
    | none => rfl
    | some b => rw [ha.1 _ _ hk] at hi6; cases hi6
  have hac := acc_grow ha hi6 (some (.obj [.v (.int .i64 0), .v (.int .i64 0), .v (.int .i64 0), .s [], .v (.int .i64 0), .s [], .v (.bool false)] 33))
  simp -implicitDefEqProofs only [go_sem, ↓reduceIte, Nat.reduceLT, Nat.reduceEqDiff, Nat.reduceAdd, Nat.reduceLeDiff, Nat.reduceMul, Nat.reduceSub, Int.natCast_zero, Int.ofNat_zero, Int.natCast_one, Int.cast_ofNat_Int, bne_self_eq_false, beq_self_eq_true, Int.reduceBEq, Int.reduceBNe, Bool.not_true, Bool.not_false, c6]
  refine (here_ok st hw).run ?_
  simp -implicitDefEqProofs only [go_sem, ↓reduceIte, Nat.reduceLT, Nat.reduceEqDiff, Nat.reduceAdd, Nat.reduceLeDiff, Nat.reduceMul, Nat.reduceSub, Int.natCast_zero, Int.ofNat_zero, Int.natCast_one, Int.cast_ofNat_Int, bne_self_eq_false, beq_self_eq_true, Int.reduceBEq, Int.reduceBNe, Bool.not_true, Bool.not_false, c6, tokA]
  intro i7 hi7
  have n7 := ne_upd hi7
  have hi7' := hi7
  rw [upd_other _ _ n7] at hi7'
  have n76 := ne_upd hi7'
  have m76 : ¬ i7 = i6 := n76
  have m67 : ¬ i6 = i7 := fun e => n76 e.symm
  have hK7 : K i7 = none := by rw [upd_other _ _ n76] at hi7'; exact hi7'
  have c7 : ∀ (f : Heap) (x y : Option Blk), upd (upd f id x) i7 y = upd (upd f i7 y) id x := fun f x y => upd_comm f x y n7.symm
  have e6 : upd (upd G id none) i6 (some (.obj [.v (.int .i64 0), .v (.int .i64 0), .v (.int .i64 0), .s [], .v (.int .i64 0), .s [], .v (.bool false)] 33)) = upd (upd G i6 (some (.obj [.v (.int .i64 0), .v (.int .i64 0), .v (.int .i64 0), .s [], .v (.int .i64 0), .s [], .v (.bool false)] 33))) id none := c6 G none _
  have hac7 : ∀ k, Acc U 33 (upd (upd G i6 (some (.obj [.v (.int .i64 0), .v (.int .i64 0), .v (.int .i64 0), .s [], .v (.int .i64 0), .s [], .v (.bool false)] 33))) id none) (upd (upd (upd K i6 (some (.obj [.v (.int .i64 0), .v (.int .i64 0), .v (.int .i64 0), .s [], .v (.int .i64 0), .s [], .v (.bool false)] 33))) i7 k) id (some (PO st))) y (l.map nodeA) := fun k => by
    have := hac.sub (Sub.upd_new (k := k) (by rw [c6]; exact hi7))
    rw [e6, c6 K, c7] at this
    exact this
  have hsG : Sub (upd G id none) (upd (upd G i6 (some (.obj [.v (.int .i64 0), .v (.int .i64 0), .v (.int .i64 0), .s [], .v (.int .i64 0), .s [], .v (.bool false)] 33))) id none) := by
    rw [← e6]; exact Sub.upd_new gi6
  have g6 : upd (upd G i6 (some (.obj [.v (.int .i64 0), .v (.int .i64 0), .v (.int .i64 0), .s [], .v (.int .i64 0), .s [], .v (.bool false)] 33))) id none i6 = some (.obj [.v (.int .i64 0), .v (.int .i64 0), .v (.int .i64 0), .s [], .v (.int .i64 0), .s [], .v (.bool false)] 33) := by rw [← e6, upd_same]
  simp -implicitDefEqProofs only [go_sem, ↓reduceIte, Nat.reduceLT, Nat.reduceEqDiff, Nat.reduceAdd, Nat.reduceLeDiff, Nat.reduceMul, Nat.reduceSub, Int.natCast_zero, Int.ofNat_zero, Int.natCast_one, Int.cast_ofNat_Int, bne_self_eq_false, beq_self_eq_true, Int.reduceBEq, Int.reduceBNe, Bool.not_true, Bool.not_false, c6, c7, upd_ne, n6, n7, m76, m67]
  refine (take_ok st [40] hw).run ?_
  have hacX : ∀ tk NB st', Acc U 33 (upd G id none) (upd (upd (upd (upd K i6 (some (.obj [.v (.int .i64 0), .v (.int .i64 0), .v (.int .i64 0), .s [], .v (.int .i64 0), .s [], .v (.bool false)] 33))) i7 tk) i6 NB) id (some (PO st'))) y (l.map nodeA) := fun tk NB st' => by
    have := (acc_step (acc_less hsG (hac7 tk)) st').put gi6 ((upd_other _ _ n6).trans ((upd_other _ _ m67).trans (upd_same ..))) NB
    rw [c6] at this
    exact this
  obtain ⟨⟨⟨lh, n⟩, sth⟩, eh⟩ : ∃ x, headG (exprF f) st l = x := ⟨_, rfl⟩
  obtain ⟨hha, hhl⟩ := headG_ok (exprF_ok f) st l hw
  rw [eh] at hha hhl
  simp only at hha hhl
  have hwp := hha.1.2.2
  have hwq := hha.1.1
  have hpl := hha.2.2
  have hdec : decide ((32 : Int) < ((lh.length + 1 : Nat) : Int)) = decide (32 < lh.length + 1) := by
    by_cases h : 32 < lh.length + 1
    · simp only [h, decide_true]; exact decide_eq_true (by omega)
    · simp only [h, decide_false]; exact decide_eq_false (by omega)
  cases d0 : isD st [40]
  · have et : takeD st [40] = (false, st) := by simp [takeD, d0]
    rw [et]
    cases d1 : ((hereD st).kind == 1)
    · have en : headG (exprF f) st l = ((l, ⟨1, (valueP st).1, ⟨0, [], false⟩⟩), (valueP st).2) := by
        have : (hereD st).kind ≠ 1 := by simpa using d1
        simp [headG, d0, this]
      simp -implicitDefEqProofs only [go_sem, ↓reduceIte, Nat.reduceLT, Nat.reduceEqDiff, Nat.reduceAdd, Nat.reduceLeDiff, Nat.reduceMul, Nat.reduceSub, Int.natCast_zero, Int.ofNat_zero, Int.natCast_one, Int.cast_ofNat_Int, bne_self_eq_false, beq_self_eq_true, Int.reduceBEq, Int.reduceBNe, Bool.not_true, Bool.not_false, c6, c7, upd_ne, n6, n7, m76, m67, d1]
      refine (value_p st hw).run ?_
      rw [en] at eh
      injection eh with eh1 eh2
      injection eh1 with eh3 eh4
      subst eh2
      subst eh3
      subst eh4
      simp -implicitDefEqProofs only [go_sem, ↓reduceIte, Nat.reduceLT, Nat.reduceEqDiff, Nat.reduceAdd, Nat.reduceLeDiff, Nat.reduceMul, Nat.reduceSub, Int.natCast_zero, Int.ofNat_zero, Int.natCast_one, Int.cast_ofNat_Int, bne_self_eq_false, beq_self_eq_true, Int.reduceBEq, Int.reduceBNe, Bool.not_true, Bool.not_false, c6, c7, upd_ne, n6, n7, m76, m67, valA]
      refine (hacX _ _ _).app (zs := [nodeA (⟨1, (valueP st).1, ⟨0, [], false⟩⟩ : NodeD)]) (by rw [uz_n]; decide) (by rw [ub_n]; decide) (fun k hk => hk) (by rw [uz_n]; exact sized_n _) (by rw [uz_n]; exact sized_n [(⟨1, (valueP st).1, ⟨0, [], false⟩⟩ : NodeD)]) (by rw [ub_n]; simp; omega) fun y3 H3 hy3 hk3 => ?_
      have hH3 : H3 id = some (PO (valueP st).2) := hk3 _ _ _ (upd_same ..)
      have hb3 : H3 i6 = some (.obj [.v (.int .i64 (⟨1, (valueP st).1, ⟨0, [], false⟩⟩ : NodeD).op), .v (.int .i64 (⟨1, (valueP st).1, ⟨0, [], false⟩⟩ : NodeD).val.kind), .v (.int .i64 (⟨1, (valueP st).1, ⟨0, [], false⟩⟩ : NodeD).val.n), .s (⟨1, (valueP st).1, ⟨0, [], false⟩⟩ : NodeD).val.s, .v (.int .i64 (⟨1, (valueP st).1, ⟨0, [], false⟩⟩ : NodeD).attr.cat), .s (⟨1, (valueP st).1, ⟨0, [], false⟩⟩ : NodeD).attr.name, .v (.bool (⟨1, (valueP st).1, ⟨0, [], false⟩⟩ : NodeD).attr.must)] 33) := hk3 _ _ _ ((upd_other _ _ n6).trans (upd_same ..))
      simp -implicitDefEqProofs only [go_sem, ↓reduceIte, Nat.reduceLT, Nat.reduceEqDiff, Nat.reduceAdd, Nat.reduceLeDiff, Nat.reduceMul, Nat.reduceSub, Int.natCast_zero, Int.ofNat_zero, Int.natCast_one, Int.cast_ofNat_Int, bne_self_eq_false, beq_self_eq_true, Int.reduceBEq, Int.reduceBNe, Bool.not_true, Bool.not_false, hy3.len, List.length_append, List.length_map, List.length_cons, List.length_nil, Nat.zero_add, hdec]
      refine (limit_ok (valueP st).2 _ hha.1).go hH3 ?_
      simp -implicitDefEqProofs only [go_sem, ↓reduceIte, Nat.reduceLT, Nat.reduceEqDiff, Nat.reduceAdd, Nat.reduceLeDiff, Nat.reduceMul, Nat.reduceSub, Int.natCast_zero, Int.ofNat_zero, Int.natCast_one, Int.cast_ofNat_Int, bne_self_eq_false, beq_self_eq_true, Int.reduceBEq, Int.reduceBNe, Bool.not_true, Bool.not_false, upd_ne, n6, hb3]
      refine ⟨.of (by kernel_rfl), ?_⟩
      have efin : exprF (f + 1) st l = ((l ++ [(⟨1, (valueP st).1, ⟨0, [], false⟩⟩ : NodeD)], (⟨1, (valueP st).1, ⟨0, [], false⟩⟩ : NodeD).op == 2), limitD (valueP st).2 (decide (32 < l.length + 1))) := by simp only [exprF, en]
      exact .mk (.tup [y3, .v (.bool ((⟨1, (valueP st).1, ⟨0, [], false⟩⟩ : NodeD).op == 2))]) (.refl _) (.refl _) ⟨y3, by rw [efin], by rw [efin]; exact upd_same .., by rw [efin, List.map_append]; exact hy3.put (upd_same ..) hH3 _⟩
    · have k1 : (hereD st).kind = 1 := by simpa using d1
      cases d2 : ((hereD st).s == [116, 114, 117, 101])
      · have k2 : (hereD st).s ≠ trueT := by unfold trueT; simpa using d2
        cases d3 : ((hereD st).s == [102, 97, 108, 115, 101])
        · have k3 : (hereD st).s ≠ falseT := by unfold falseT; simpa using d3
          have en : headG (exprF f) st l = ((l, ⟨2, ⟨0, 0, []⟩, (attrP st).1⟩), (attrP st).2) := by simp [headG, d0, k1, k2, k3]
          simp -implicitDefEqProofs only [go_sem, ↓reduceIte, Nat.reduceLT, Nat.reduceEqDiff, Nat.reduceAdd, Nat.reduceLeDiff, Nat.reduceMul, Nat.reduceSub, Int.natCast_zero, Int.ofNat_zero, Int.natCast_one, Int.cast_ofNat_Int, bne_self_eq_false, beq_self_eq_true, Int.reduceBEq, Int.reduceBNe, Bool.not_true, Bool.not_false, c6, c7, upd_ne, n6, n7, m76, m67, d1, d2, d3, Bool.not_false]
          refine (attr_p st hw).run ?_
          rw [en] at eh
          injection eh with eh1 eh2
          injection eh1 with eh3 eh4
          subst eh2
          subst eh3
          subst eh4
          simp -implicitDefEqProofs only [go_sem, ↓reduceIte, Nat.reduceLT, Nat.reduceEqDiff, Nat.reduceAdd, Nat.reduceLeDiff, Nat.reduceMul, Nat.reduceSub, Int.natCast_zero, Int.ofNat_zero, Int.natCast_one, Int.cast_ofNat_Int, bne_self_eq_false, beq_self_eq_true, Int.reduceBEq, Int.reduceBNe, Bool.not_true, Bool.not_false, c6, c7, upd_ne, n6, n7, m76, m67, attrA]
          refine (hacX _ _ _).app (zs := [nodeA (⟨2, ⟨0, 0, []⟩, (attrP st).1⟩ : NodeD)]) (by rw [uz_n]; decide) (by rw [ub_n]; decide) (fun k hk => hk) (by rw [uz_n]; exact sized_n _) (by rw [uz_n]; exact sized_n [(⟨2, ⟨0, 0, []⟩, (attrP st).1⟩ : NodeD)]) (by rw [ub_n]; simp; omega) fun y3 H3 hy3 hk3 => ?_
          have hH3 : H3 id = some (PO (attrP st).2) := hk3 _ _ _ (upd_same ..)
          have hb3 : H3 i6 = some (.obj [.v (.int .i64 (⟨2, ⟨0, 0, []⟩, (attrP st).1⟩ : NodeD).op), .v (.int .i64 (⟨2, ⟨0, 0, []⟩, (attrP st).1⟩ : NodeD).val.kind), .v (.int .i64 (⟨2, ⟨0, 0, []⟩, (attrP st).1⟩ : NodeD).val.n), .s (⟨2, ⟨0, 0, []⟩, (attrP st).1⟩ : NodeD).val.s, .v (.int .i64 (⟨2, ⟨0, 0, []⟩, (attrP st).1⟩ : NodeD).attr.cat), .s (⟨2, ⟨0, 0, []⟩, (attrP st).1⟩ : NodeD).attr.name, .v (.bool (⟨2, ⟨0, 0, []⟩, (attrP st).1⟩ : NodeD).attr.must)] 33) := hk3 _ _ _ ((upd_other _ _ n6).trans (upd_same ..))
          simp -implicitDefEqProofs only [go_sem, ↓reduceIte, Nat.reduceLT, Nat.reduceEqDiff, Nat.reduceAdd, Nat.reduceLeDiff, Nat.reduceMul, Nat.reduceSub, Int.natCast_zero, Int.ofNat_zero, Int.natCast_one, Int.cast_ofNat_Int, bne_self_eq_false, beq_self_eq_true, Int.reduceBEq, Int.reduceBNe, Bool.not_true, Bool.not_false, hy3.len, List.length_append, List.length_map, List.length_cons, List.length_nil, Nat.zero_add, hdec]
          refine (limit_ok (attrP st).2 _ hha.1).go hH3 ?_
          simp -implicitDefEqProofs only [go_sem, ↓reduceIte, Nat.reduceLT, Nat.reduceEqDiff, Nat.reduceAdd, Nat.reduceLeDiff, Nat.reduceMul, Nat.reduceSub, Int.natCast_zero, Int.ofNat_zero, Int.natCast_one, Int.cast_ofNat_Int, bne_self_eq_false, beq_self_eq_true, Int.reduceBEq, Int.reduceBNe, Bool.not_true, Bool.not_false, upd_ne, n6, hb3]
          refine ⟨.of (by kernel_rfl), ?_⟩
          have efin : exprF (f + 1) st l = ((l ++ [(⟨2, ⟨0, 0, []⟩, (attrP st).1⟩ : NodeD)], (⟨2, ⟨0, 0, []⟩, (attrP st).1⟩ : NodeD).op == 2), limitD (attrP st).2 (decide (32 < l.length + 1))) := by simp only [exprF, en]
          exact .mk (.tup [y3, .v (.bool ((⟨2, ⟨0, 0, []⟩, (attrP st).1⟩ : NodeD).op == 2))]) (.refl _) (.refl _) ⟨y3, by rw [efin], by rw [efin]; exact upd_same .., by rw [efin, List.map_append]; exact hy3.put (upd_same ..) hH3 _⟩
        · have k3 : (hereD st).s = falseT := by unfold falseT; simpa using d3
          have en : headG (exprF f) st l = ((l, ⟨1, (valueP st).1, ⟨0, [], false⟩⟩), (valueP st).2) := by simp [headG, d0, k1, k2, k3]
          simp -implicitDefEqProofs only [go_sem, ↓reduceIte, Nat.reduceLT, Nat.reduceEqDiff, Nat.reduceAdd, Nat.reduceLeDiff, Nat.reduceMul, Nat.reduceSub, Int.natCast_zero, Int.ofNat_zero, Int.natCast_one, Int.cast_ofNat_Int, bne_self_eq_false, beq_self_eq_true, Int.reduceBEq, Int.reduceBNe, Bool.not_true, Bool.not_false, c6, c7, upd_ne, n6, n7, m76, m67, d1, d2, d3, Bool.not_false, Bool.not_true]
          refine (value_p st hw).run ?_
          rw [en] at eh
          injection eh with eh1 eh2
          injection eh1 with eh3 eh4
          subst eh2
          subst eh3
          subst eh4
          simp -implicitDefEqProofs only [go_sem, ↓reduceIte, Nat.reduceLT, Nat.reduceEqDiff, Nat.reduceAdd, Nat.reduceLeDiff, Nat.reduceMul, Nat.reduceSub, Int.natCast_zero, Int.ofNat_zero, Int.natCast_one, Int.cast_ofNat_Int, bne_self_eq_false, beq_self_eq_true, Int.reduceBEq, Int.reduceBNe, Bool.not_true, Bool.not_false, c6, c7, upd_ne, n6, n7, m76, m67, valA]
          refine (hacX _ _ _).app (zs := [nodeA (⟨1, (valueP st).1, ⟨0, [], false⟩⟩ : NodeD)]) (by rw [uz_n]; decide) (by rw [ub_n]; decide) (fun k hk => hk) (by rw [uz_n]; exact sized_n _) (by rw [uz_n]; exact sized_n [(⟨1, (valueP st).1, ⟨0, [], false⟩⟩ : NodeD)]) (by rw [ub_n]; simp; omega) fun y3 H3 hy3 hk3 => ?_
          have hH3 : H3 id = some (PO (valueP st).2) := hk3 _ _ _ (upd_same ..)
          have hb3 : H3 i6 = some (.obj [.v (.int .i64 (⟨1, (valueP st).1, ⟨0, [], false⟩⟩ : NodeD).op), .v (.int .i64 (⟨1, (valueP st).1, ⟨0, [], false⟩⟩ : NodeD).val.kind), .v (.int .i64 (⟨1, (valueP st).1, ⟨0, [], false⟩⟩ : NodeD).val.n), .s (⟨1, (valueP st).1, ⟨0, [], false⟩⟩ : NodeD).val.s, .v (.int .i64 (⟨1, (valueP st).1, ⟨0, [], false⟩⟩ : NodeD).attr.cat), .s (⟨1, (valueP st).1, ⟨0, [], false⟩⟩ : NodeD).attr.name, .v (.bool (⟨1, (valueP st).1, ⟨0, [], false⟩⟩ : NodeD).attr.must)] 33) := hk3 _ _ _ ((upd_other _ _ n6).trans (upd_same ..))
          simp -implicitDefEqProofs only [go_sem, ↓reduceIte, Nat.reduceLT, Nat.reduceEqDiff, Nat.reduceAdd, Nat.reduceLeDiff, Nat.reduceMul, Nat.reduceSub, Int.natCast_zero, Int.ofNat_zero, Int.natCast_one, Int.cast_ofNat_Int, bne_self_eq_false, beq_self_eq_true, Int.reduceBEq, Int.reduceBNe, Bool.not_true, Bool.not_false, hy3.len, List.length_append, List.length_map, List.length_cons, List.length_nil, Nat.zero_add, hdec]
          refine (limit_ok (valueP st).2 _ hha.1).go hH3 ?_
          simp -implicitDefEqProofs only [go_sem, ↓reduceIte, Nat.reduceLT, Nat.reduceEqDiff, Nat.reduceAdd, Nat.reduceLeDiff, Nat.reduceMul, Nat.reduceSub, Int.natCast_zero, Int.ofNat_zero, Int.natCast_one, Int.cast_ofNat_Int, bne_self_eq_false, beq_self_eq_true, Int.reduceBEq, Int.reduceBNe, Bool.not_true, Bool.not_false, upd_ne, n6, hb3]
          refine ⟨.of (by kernel_rfl), ?_⟩
          have efin : exprF (f + 1) st l = ((l ++ [(⟨1, (valueP st).1, ⟨0, [], false⟩⟩ : NodeD)], (⟨1, (valueP st).1, ⟨0, [], false⟩⟩ : NodeD).op == 2), limitD (valueP st).2 (decide (32 < l.length + 1))) := by simp only [exprF, en]
          exact .mk (.tup [y3, .v (.bool ((⟨1, (valueP st).1, ⟨0, [], false⟩⟩ : NodeD).op == 2))]) (.refl _) (.refl _) ⟨y3, by rw [efin], by rw [efin]; exact upd_same .., by rw [efin, List.map_append]; exact hy3.put (upd_same ..) hH3 _⟩
      · have k2 : (hereD st).s = trueT := by unfold trueT; simpa using d2
        have en : headG (exprF f) st l = ((l, ⟨1, (valueP st).1, ⟨0, [], false⟩⟩), (valueP st).2) := by simp [headG, d0, k1, k2]
        simp -implicitDefEqProofs only [go_sem, ↓reduceIte, Nat.reduceLT, Nat.reduceEqDiff, Nat.reduceAdd, Nat.reduceLeDiff, Nat.reduceMul, Nat.reduceSub, Int.natCast_zero, Int.ofNat_zero, Int.natCast_one, Int.cast_ofNat_Int, bne_self_eq_false, beq_self_eq_true, Int.reduceBEq, Int.reduceBNe, Bool.not_true, Bool.not_false, c6, c7, upd_ne, n6, n7, m76, m67, d1, d2, Bool.not_true]
        refine (value_p st hw).run ?_
        rw [en] at eh
        injection eh with eh1 eh2
        injection eh1 with eh3 eh4
        subst eh2
        subst eh3
        subst eh4
        simp -implicitDefEqProofs only [go_sem, ↓reduceIte, Nat.reduceLT, Nat.reduceEqDiff, Nat.reduceAdd, Nat.reduceLeDiff, Nat.reduceMul, Nat.reduceSub, Int.natCast_zero, Int.ofNat_zero, Int.natCast_one, Int.cast_ofNat_Int, bne_self_eq_false, beq_self_eq_true, Int.reduceBEq, Int.reduceBNe, Bool.not_true, Bool.not_false, c6, c7, upd_ne, n6, n7, m76, m67, valA]
        refine (hacX _ _ _).app (zs := [nodeA (⟨1, (valueP st).1, ⟨0, [], false⟩⟩ : NodeD)]) (by rw [uz_n]; decide) (by rw [ub_n]; decide) (fun k hk => hk) (by rw [uz_n]; exact sized_n _) (by rw [uz_n]; exact sized_n [(⟨1, (valueP st).1, ⟨0, [], false⟩⟩ : NodeD)]) (by rw [ub_n]; simp; omega) fun y3 H3 hy3 hk3 => ?_
        have hH3 : H3 id = some (PO (valueP st).2) := hk3 _ _ _ (upd_same ..)
        have hb3 : H3 i6 = some (.obj [.v (.int .i64 (⟨1, (valueP st).1, ⟨0, [], false⟩⟩ : NodeD).op), .v (.int .i64 (⟨1, (valueP st).1, ⟨0, [], false⟩⟩ : NodeD).val.kind), .v (.int .i64 (⟨1, (valueP st).1, ⟨0, [], false⟩⟩ : NodeD).val.n), .s (⟨1, (valueP st).1, ⟨0, [], false⟩⟩ : NodeD).val.s, .v (.int .i64 (⟨1, (valueP st).1, ⟨0, [], false⟩⟩ : NodeD).attr.cat), .s (⟨1, (valueP st).1, ⟨0, [], false⟩⟩ : NodeD).attr.name, .v (.bool (⟨1, (valueP st).1, ⟨0, [], false⟩⟩ : NodeD).attr.must)] 33) := hk3 _ _ _ ((upd_other _ _ n6).trans (upd_same ..))
        simp -implicitDefEqProofs only [go_sem, ↓reduceIte, Nat.reduceLT, Nat.reduceEqDiff, Nat.reduceAdd, Nat.reduceLeDiff, Nat.reduceMul, Nat.reduceSub, Int.natCast_zero, Int.ofNat_zero, Int.natCast_one, Int.cast_ofNat_Int, bne_self_eq_false, beq_self_eq_true, Int.reduceBEq, Int.reduceBNe, Bool.not_true, Bool.not_false, hy3.len, List.length_append, List.length_map, List.length_cons, List.length_nil, Nat.zero_add, hdec]
        refine (limit_ok (valueP st).2 _ hha.1).go hH3 ?_
        simp -implicitDefEqProofs only [go_sem, ↓reduceIte, Nat.reduceLT, Nat.reduceEqDiff, Nat.reduceAdd, Nat.reduceLeDiff, Nat.reduceMul, Nat.reduceSub, Int.natCast_zero, Int.ofNat_zero, Int.natCast_one, Int.cast_ofNat_Int, bne_self_eq_false, beq_self_eq_true, Int.reduceBEq, Int.reduceBNe, Bool.not_true, Bool.not_false, upd_ne, n6, hb3]
        refine ⟨.of (by kernel_rfl), ?_⟩
        have efin : exprF (f + 1) st l = ((l ++ [(⟨1, (valueP st).1, ⟨0, [], false⟩⟩ : NodeD)], (⟨1, (valueP st).1, ⟨0, [], false⟩⟩ : NodeD).op == 2), limitD (valueP st).2 (decide (32 < l.length + 1))) := by simp only [exprF, en]
        exact .mk (.tup [y3, .v (.bool ((⟨1, (valueP st).1, ⟨0, [], false⟩⟩ : NodeD).op == 2))]) (.refl _) (.refl _) ⟨y3, by rw [efin], by rw [efin]; exact upd_same .., by rw [efin, List.map_append]; exact hy3.put (upd_same ..) hH3 _⟩
  · have et : takeD st [40] = (true, nextD st) := by simp [takeD, d0]
    have h1 := ah_next hw (isD_kind d0)
    have hnp : (nextD st).pos = st.pos + 1 := rfl
    have hnt : (nextD st).ts = st.ts := rfl
    rw [et]
    simp -implicitDefEqProofs only [go_sem, ↓reduceIte, Nat.reduceLT, Nat.reduceEqDiff, Nat.reduceAdd, Nat.reduceLeDiff, Nat.reduceMul, Nat.reduceSub, Int.natCast_zero, Int.ofNat_zero, Int.natCast_one, Int.cast_ofNat_Int, bne_self_eq_false, beq_self_eq_true, Int.reduceBEq, Int.reduceBNe, Bool.not_true, Bool.not_false, c6, c7]
    have ef : funcG (exprF f) (nextD st) l = ((lh, n), sth) := by rw [← eh]; simp [headG, d0]
    have hfx := function_x (exprF_ok f) ih (nextD st) l h1.1 (by rw [hnt]; omega) (by omega)
    simp only [ef] at hfx
    refine hfx.run (acc_step (hac7 _) _) fun y2 K2 hac2 => ?_
    have k6 := hac2.1 _ _ g6
    rw [upd_other _ _ n6] at k6
    simp -implicitDefEqProofs only [go_sem, ↓reduceIte, Nat.reduceLT, Nat.reduceEqDiff, Nat.reduceAdd, Nat.reduceLeDiff, Nat.reduceMul, Nat.reduceSub, Int.natCast_zero, Int.ofNat_zero, Int.natCast_one, Int.cast_ofNat_Int, bne_self_eq_false, beq_self_eq_true, Int.reduceBEq, Int.reduceBNe, Bool.not_true, Bool.not_false, c6, c7, upd_ne, n6, n7, k6, nodeA, valA, attrA]
    have hac3 := (acc_less hsG hac2).put gi6 ((upd_other _ _ n6).trans k6) (some (.obj [.v (.int .i64 n.op), .v (.int .i64 n.val.kind), .v (.int .i64 n.val.n), .s n.val.s, .v (.int .i64 n.attr.cat), .s n.attr.name, .v (.bool n.attr.must)] 33))
    rw [c6] at hac3
    refine (hac3).app (zs := [nodeA n]) (by rw [uz_n]; decide) (by rw [ub_n]; decide) (fun k hk => hk) (by rw [uz_n]; exact sized_n _) (by rw [uz_n]; exact sized_n [n]) (by rw [ub_n]; simp; omega) fun y3 H3 hy3 hk3 => ?_
    have hH3 : H3 id = some (PO sth) := hk3 _ _ _ (upd_same ..)
    have hb3 : H3 i6 = some (.obj [.v (.int .i64 n.op), .v (.int .i64 n.val.kind), .v (.int .i64 n.val.n), .s n.val.s, .v (.int .i64 n.attr.cat), .s n.attr.name, .v (.bool n.attr.must)] 33) := hk3 _ _ _ ((upd_other _ _ n6).trans (upd_same ..))
    simp -implicitDefEqProofs only [go_sem, ↓reduceIte, Nat.reduceLT, Nat.reduceEqDiff, Nat.reduceAdd, Nat.reduceLeDiff, Nat.reduceMul, Nat.reduceSub, Int.natCast_zero, Int.ofNat_zero, Int.natCast_one, Int.cast_ofNat_Int, bne_self_eq_false, beq_self_eq_true, Int.reduceBEq, Int.reduceBNe, Bool.not_true, Bool.not_false, hy3.len, List.length_append, List.length_map, List.length_cons, List.length_nil, Nat.zero_add, hdec]
    refine (limit_ok sth _ hha.1).go hH3 ?_
    simp -implicitDefEqProofs only [go_sem, ↓reduceIte, Nat.reduceLT, Nat.reduceEqDiff, Nat.reduceAdd, Nat.reduceLeDiff, Nat.reduceMul, Nat.reduceSub, Int.natCast_zero, Int.ofNat_zero, Int.natCast_one, Int.cast_ofNat_Int, bne_self_eq_false, beq_self_eq_true, Int.reduceBEq, Int.reduceBNe, Bool.not_true, Bool.not_false, upd_ne, n6, hb3]
    refine ⟨.of (by kernel_rfl), ?_⟩
    have efin : exprF (f + 1) st l = ((lh ++ [n], n.op == 2), limitD sth (decide (32 < lh.length + 1))) := by simp only [exprF, eh]
    exact .mk (.tup [y3, .v (.bool (n.op == 2))]) (.refl _) (.refl _) ⟨y3, by rw [efin], by rw [efin]; exact upd_same .., by rw [efin, List.map_append]; exact hy3.put (upd_same ..) hH3 _⟩
theorem expr_x : ∀ f, EH (exprF f) f
  | 0 => fun st l hw hf _ => absurd hw.1 (by omega)
  | f + 1 => expr_s f (expr_x f)
end Go.Proofs.YtdcchpbncckhlaaDoor

/- The parser: rules. -/
set_option linter.unusedSimpArgs false
set_option linter.unusedVariables false
namespace Go.Proofs.YtdcchpbncckhlaaDoor
open Go Go.Ab Go.Bf

theorem fnok_loose {P : Program} {f : FuncId} {args : List AV} {h : Heap} {Q Q' : AV → Heap → Prop} (hf : FnOK P f args h Q) (hq : ∀ x h1, Q x h1 → ∃ y h2, Weak x y ∧ Sub h2 h1 ∧ Q' y h2) : FnOK P f args h Q' :=
  ⟨hf.1, fun c vs h1 h2 h3 h4 => (hf.2 c vs h1 h2 h3 h4).mono fun e w' ⟨u, h5, c', x, h', g1, g2, g3, g4, g5, g6⟩ => by
    obtain ⟨y, h'', k1, k2, k3⟩ := hq x h' g6
    exact ⟨u, h5, c', y, h'', g1, g2, g3, g4.weak k1, k2.trans g5, k3⟩⟩

def flat : AV → AV
  | .sl xs _ => .sl xs .no
  | x => x
theorem weak_flat (xs : List AV) : Weak (.agg xs) (.agg (xs.map flat)) := .agg _ _ (by simp) fun i h1 h2 => by
  rw [List.getElem_map]
  cases xs[i] <;> first | exact .refl _ | exact .sl _ _

theorem operand_p (st : PS) (hw : WfP st) : PC 124 [.sl [] .full, .v (.bool false)] st (condA (operG (exprF st.ts.length) st [] false).1) (operG (exprF st.ts.length) st [] false).2 := .of fun G id => by
  have hx := operand_x (exprF_ok st.ts.length) (expr_x st.ts.length) st [] false hw (by omega) (by simp)
  refine fnok_loose (hx G G id (.sl [] .full) (.full (base_start G id _))) fun r h1 ⟨y', e1, e2, e3⟩ => ⟨_, upd G id (some (PO (operG (exprF st.ts.length) st [] false).2)), ?_, base_end e3.1 e2, rfl, rfl⟩
  subst e1
  exact e3.weak

set_option maxRecDepth 20000 in
theorem rule_p (deny : Bool) (st : PS) (hw : WfP st) : PC 112 [.v (.bool deny)] st (ruleA (ruleP deny st).1) (ruleP deny st).2 := .of fun G id => by
  have h1 := ah_name hw
  have h2 := ah_tgt h1.1
  have h3 := ah_cond h2.1
  have h4 := ah_obls h3.1
  have ht := tgt_p _ h1.1
  simp only [tgtA] at ht
  refine FnOK.body hU hm Tryd.func112 rfl (by kernel_rfl) 23 rfl [.cell 4 37] rfl (Nat.le_of_ble_eq_true rfl) (fun hwf => ?_)
  simp -implicitDefEqProofs only [go_sem, ↓reduceIte, Nat.reduceLT, Nat.reduceEqDiff, Nat.reduceAdd, Nat.reduceLeDiff, Nat.reduceMul, Nat.reduceSub, Int.natCast_zero, Int.ofNat_zero, Int.natCast_one, Int.cast_ofNat_Int, bne_self_eq_false, beq_self_eq_true, Int.reduceBEq, Int.reduceBNe, Bool.not_true, Bool.not_false]
  intro i4 hi4
  have n4 := ne_upd hi4
  have hG4 : G i4 = none := by rw [upd_other _ _ n4] at hi4; exact hi4
  have c4 : ∀ (f : Heap) (x y : Option Blk), upd (upd f id x) i4 y = upd (upd f i4 y) id x := fun f x y => upd_comm f x y n4.symm
  simp -implicitDefEqProofs only [go_sem, ↓reduceIte, Nat.reduceLT, Nat.reduceEqDiff, Nat.reduceAdd, Nat.reduceLeDiff, Nat.reduceMul, Nat.reduceSub, Int.natCast_zero, Int.ofNat_zero, Int.natCast_one, Int.cast_ofNat_Int, bne_self_eq_false, beq_self_eq_true, Int.reduceBEq, Int.reduceBNe, Bool.not_true, Bool.not_false, c4]
  refine (pname_ok st hw).run ?_
  simp -implicitDefEqProofs only [go_sem, ↓reduceIte, Nat.reduceLT, Nat.reduceEqDiff, Nat.reduceAdd, Nat.reduceLeDiff, Nat.reduceMul, Nat.reduceSub, Int.natCast_zero, Int.ofNat_zero, Int.natCast_one, Int.cast_ofNat_Int, bne_self_eq_false, beq_self_eq_true, Int.reduceBEq, Int.reduceBNe, Bool.not_true, Bool.not_false, c4]
  refine ht.run ?_
  simp -implicitDefEqProofs only [go_sem, ↓reduceIte, Nat.reduceLT, Nat.reduceEqDiff, Nat.reduceAdd, Nat.reduceLeDiff, Nat.reduceMul, Nat.reduceSub, Int.natCast_zero, Int.ofNat_zero, Int.natCast_one, Int.cast_ofNat_Int, bne_self_eq_false, beq_self_eq_true, Int.reduceBEq, Int.reduceBNe, Bool.not_true, Bool.not_false, c4]
  intro i5 hi5
  have n5 := ne_upd hi5
  have hi5' := hi5
  rw [upd_other _ _ n5] at hi5'
  have n54 := ne_upd hi5'
  have m54 : ¬ i5 = i4 := n54
  have m45 : ¬ i4 = i5 := n54.symm
  have hG5 : G i5 = none := by rw [upd_other _ _ n54] at hi5'; exact hi5'
  have c5 : ∀ (f : Heap) (x y : Option Blk), upd (upd f id x) i5 y = upd (upd f i5 y) id x := fun f x y => upd_comm f x y n5.symm
  have c45 : ∀ (f : Heap) (x y : Option Blk), upd (upd f i5 x) i4 y = upd (upd f i4 y) i5 x := fun f x y => upd_comm f x y n54
  simp -implicitDefEqProofs only [go_sem, ↓reduceIte, Nat.reduceLT, Nat.reduceEqDiff, Nat.reduceAdd, Nat.reduceLeDiff, Nat.reduceMul, Nat.reduceSub, Int.natCast_zero, Int.ofNat_zero, Int.natCast_one, Int.cast_ofNat_Int, bne_self_eq_false, beq_self_eq_true, Int.reduceBEq, Int.reduceBNe, Bool.not_true, Bool.not_false, c4, c5, c45, upd_ne, n4, n5, m54, m45]
  refine (take_ok _ ifT h2.1).run ?_
  cases d0 : isD (tgtP (nameP st).2).2 ifT
  · have et : takeD (tgtP (nameP st).2).2 ifT = (false, (tgtP (nameP st).2).2) := by simp [takeD, d0]
    have ec : condP (tgtP (nameP st).2).2 = ([], (tgtP (nameP st).2).2) := by simp [condP, d0]
    have er : ruleP deny st = (⟨(nameP st).1, deny, (tgtP (nameP st).2).1, [], (oblsP (tgtP (nameP st).2).2).1⟩, mustD (oblsP (tgtP (nameP st).2).2).2 [59]) := by simp only [ruleP, ec]
    rw [ec] at h4
    have ho := duties_p _ h2.1
    simp only [oblsA] at ho
    rw [et]
    simp -implicitDefEqProofs only [go_sem, ↓reduceIte, Nat.reduceLT, Nat.reduceEqDiff, Nat.reduceAdd, Nat.reduceLeDiff, Nat.reduceMul, Nat.reduceSub, Int.natCast_zero, Int.ofNat_zero, Int.natCast_one, Int.cast_ofNat_Int, bne_self_eq_false, beq_self_eq_true, Int.reduceBEq, Int.reduceBNe, Bool.not_true, Bool.not_false, c4, c5, c45, upd_ne, n4, n5, m54, m45]
    refine ho.run ?_
    simp -implicitDefEqProofs only [go_sem, ↓reduceIte, Nat.reduceLT, Nat.reduceEqDiff, Nat.reduceAdd, Nat.reduceLeDiff, Nat.reduceMul, Nat.reduceSub, Int.natCast_zero, Int.ofNat_zero, Int.natCast_one, Int.cast_ofNat_Int, bne_self_eq_false, beq_self_eq_true, Int.reduceBEq, Int.reduceBNe, Bool.not_true, Bool.not_false, c4, c5, c45, upd_ne, n4, n5, m54, m45]
    refine (must_ok _ [59] h4.1).run ?_
    simp -implicitDefEqProofs only [go_sem, ↓reduceIte, Nat.reduceLT, Nat.reduceEqDiff, Nat.reduceAdd, Nat.reduceLeDiff, Nat.reduceMul, Nat.reduceSub, Int.natCast_zero, Int.ofNat_zero, Int.natCast_one, Int.cast_ofNat_Int, bne_self_eq_false, beq_self_eq_true, Int.reduceBEq, Int.reduceBNe, Bool.not_true, Bool.not_false, c4, c5, c45, upd_ne, n4, n5, m54, m45]
    exact .mk (h' := upd G id (some (PO (mustD (oblsP (tgtP (nameP st).2).2).2 [59])))) (ruleA ⟨(nameP st).1, deny, (tgtP (nameP st).2).1, [], (oblsP (tgtP (nameP st).2).2).1⟩) (weak_flat _) (Sub.both (by repeat (first | exact .refl _ | refine Sub.put ?_ (by assumption) _)) _ _) ⟨by rw [er], by rw [er]⟩
  · have et : takeD (tgtP (nameP st).2).2 ifT = (true, nextD (tgtP (nameP st).2).2) := by simp [takeD, d0]
    obtain ⟨⟨cn, stc⟩, ec⟩ : ∃ x, condP (tgtP (nameP st).2).2 = x := ⟨_, rfl⟩
    have er : ruleP deny st = (⟨(nameP st).1, deny, (tgtP (nameP st).2).1, cn, (oblsP stc).1⟩, mustD (oblsP stc).2 [59]) := by simp only [ruleP, ec]
    have hcnd := operand_p (nextD (tgtP (nameP st).2).2) (ah_next h2.1 (isD_kind d0)).1
    have ec2 : operG (exprF (nextD (tgtP (nameP st).2).2).ts.length) (nextD (tgtP (nameP st).2).2) [] false = (cn, stc) := by rw [← ec]; simp only [condP, d0, if_true]; rfl
    rw [ec2] at hcnd
    simp only [condA] at hcnd
    rw [ec] at h3 h4
    have ho := duties_p _ h3.1
    simp only [oblsA] at ho
    rw [et]
    simp -implicitDefEqProofs only [go_sem, ↓reduceIte, Nat.reduceLT, Nat.reduceEqDiff, Nat.reduceAdd, Nat.reduceLeDiff, Nat.reduceMul, Nat.reduceSub, Int.natCast_zero, Int.ofNat_zero, Int.natCast_one, Int.cast_ofNat_Int, bne_self_eq_false, beq_self_eq_true, Int.reduceBEq, Int.reduceBNe, Bool.not_true, Bool.not_false, c4, c5, c45, upd_ne, n4, n5, m54, m45]
    refine hcnd.run ?_
    simp -implicitDefEqProofs only [go_sem, ↓reduceIte, Nat.reduceLT, Nat.reduceEqDiff, Nat.reduceAdd, Nat.reduceLeDiff, Nat.reduceMul, Nat.reduceSub, Int.natCast_zero, Int.ofNat_zero, Int.natCast_one, Int.cast_ofNat_Int, bne_self_eq_false, beq_self_eq_true, Int.reduceBEq, Int.reduceBNe, Bool.not_true, Bool.not_false, c4, c5, c45, upd_ne, n4, n5, m54, m45]
    refine ho.run ?_
    simp -implicitDefEqProofs only [go_sem, ↓reduceIte, Nat.reduceLT, Nat.reduceEqDiff, Nat.reduceAdd, Nat.reduceLeDiff, Nat.reduceMul, Nat.reduceSub, Int.natCast_zero, Int.ofNat_zero, Int.natCast_one, Int.cast_ofNat_Int, bne_self_eq_false, beq_self_eq_true, Int.reduceBEq, Int.reduceBNe, Bool.not_true, Bool.not_false, c4, c5, c45, upd_ne, n4, n5, m54, m45]
    refine (must_ok _ [59] h4.1).run ?_
    simp -implicitDefEqProofs only [go_sem, ↓reduceIte, Nat.reduceLT, Nat.reduceEqDiff, Nat.reduceAdd, Nat.reduceLeDiff, Nat.reduceMul, Nat.reduceSub, Int.natCast_zero, Int.ofNat_zero, Int.natCast_one, Int.cast_ofNat_Int, bne_self_eq_false, beq_self_eq_true, Int.reduceBEq, Int.reduceBNe, Bool.not_true, Bool.not_false, c4, c5, c45, upd_ne, n4, n5, m54, m45]
    exact .mk (h' := upd G id (some (PO (mustD (oblsP stc).2 [59])))) (ruleA ⟨(nameP st).1, deny, (tgtP (nameP st).2).1, cn, (oblsP stc).1⟩) (weak_flat _) (Sub.both (by repeat (first | exact .refl _ | refine Sub.put ?_ (by assumption) _)) _ _) ⟨by rw [er], by rw [er]⟩
end Go.Proofs.YtdcchpbncckhlaaDoor

/- The parser: rows of rules. -/
set_option linter.unusedSimpArgs false
set_option linter.unusedVariables false
namespace Go.Proofs.YtdcchpbncckhlaaDoor
open Go Go.Ab Go.Bf

theorem uz_r : (U 37).sz = 5 := by simp only [go_sem]
theorem ub_r : (U 37).bytes = 96 := by simp only [go_sem]
theorem sized_r (l : List RuleD) : Sized 5 (l.map ruleA) := fun z hz => by
  obtain ⟨c, _, rfl⟩ := List.mem_map.1 hz; rfl

set_option maxRecDepth 20000 in
theorem some_p (st : PS) (hw : WfP st) (hr : st.rules ≤ 64) : PC 84 [] st (.sl ((someF 17 st []).1.map ruleA) .no) (someF 17 st []).2 := .of fun G id => by
  obtain ⟨M, eM⟩ : ∃ M, someF 17 st [] = M := ⟨_, rfl⟩
  rw [eM]
  refine FnOK.body hU hm Tryd.func84 rfl (by kernel_rfl) 51 rfl [.tmp 2] rfl (Nat.le_of_ble_eq_true rfl) (fun hwf => ?_)
  simp -implicitDefEqProofs only [go_sem, ↓reduceIte, Nat.reduceLT, Nat.reduceEqDiff, Nat.reduceAdd, Nat.reduceLeDiff, Nat.reduceMul, Nat.reduceSub, Int.natCast_zero, Int.ofNat_zero, Int.natCast_one, Int.cast_ofNat_Int, bne_self_eq_false, beq_self_eq_true, Int.reduceBEq, Int.reduceBNe, Bool.not_true, Bool.not_false]
  have hB : upd G id none id = none := upd_same ..
  refine .intro (fun m ρ H => ∃ (f : Nat) (st' : PS) (l : List RuleD) (y : AV), H id = some (PO st') ∧ Acc U 37 (upd G id none) H y (l.map ruleA) ∧ Ah st st' ∧ st'.rules ≤ 64 ∧ someF f st' l = M ∧ f + l.length = 17 ∧ l.length ≤ 16 ∧ m = f ∧ lk ρ 0 = some (.ptr id 0) ∧ lk ρ 3 = some y) 17 ?_ ?_
  · refine ⟨17, st, [], .sl ([].map ruleA) .full, upd_same .., .full (base_start G id _), .refl hw, hr, eM, by simp, by simp, rfl, ?_, ?_⟩ <;> simp -implicitDefEqProofs only [go_sem, ↓reduceIte, Nat.reduceLT, Nat.reduceEqDiff, Nat.reduceAdd, Nat.reduceLeDiff, Nat.reduceMul, Nat.reduceSub, Int.natCast_zero, Int.ofNat_zero, Int.natCast_one, Int.cast_ofNat_Int, bne_self_eq_false, beq_self_eq_true, Int.reduceBEq, Int.reduceBNe, Bool.not_true, Bool.not_false] <;> rfl
  · rintro m ρ H ⟨f, st', l, y, hH, hy, ha, hru, hfin, hf, hll, rfl, r0, r3⟩
    have hlen := ha.1.2.2
    have hpos := ha.1.1
    obtain ⟨g, rfl⟩ : ∃ g, m = g + 1 := ⟨m - 1, by omega⟩
    simp -implicitDefEqProofs only [go_sem, ↓reduceIte, Nat.reduceLT, Nat.reduceEqDiff, Nat.reduceAdd, Nat.reduceLeDiff, Nat.reduceMul, Nat.reduceSub, Int.natCast_zero, Int.ofNat_zero, Int.natCast_one, Int.cast_ofNat_Int, bne_self_eq_false, beq_self_eq_true, Int.reduceBEq, Int.reduceBNe, Bool.not_true, Bool.not_false, r0, r3]
    refine (is_ok st' permitT ha.1).go hH ?_
    rw [upd_self hH]
    have fin : isD st' permitT = false → isD st' denyT = false → (l, st') = M := fun d1 d2 => by
      rw [← hfin]; simp [someF, d1, d2]
    have rest : isD st' permitT = true ∨ isD st' denyT = true → True := fun _ => trivial
    cases d1 : isD st' permitT
    · simp -implicitDefEqProofs only [go_sem, ↓reduceIte, Nat.reduceLT, Nat.reduceEqDiff, Nat.reduceAdd, Nat.reduceLeDiff, Nat.reduceMul, Nat.reduceSub, Int.natCast_zero, Int.ofNat_zero, Int.natCast_one, Int.cast_ofNat_Int, bne_self_eq_false, beq_self_eq_true, Int.reduceBEq, Int.reduceBNe, Bool.not_true, Bool.not_false, r0, r3]
      refine (is_ok st' denyT ha.1).go hH ?_
      rw [upd_self hH]
      cases d2 : isD st' denyT
      · simp -implicitDefEqProofs only [go_sem, ↓reduceIte, Nat.reduceLT, Nat.reduceEqDiff, Nat.reduceAdd, Nat.reduceLeDiff, Nat.reduceMul, Nat.reduceSub, Int.natCast_zero, Int.ofNat_zero, Int.natCast_one, Int.cast_ofNat_Int, bne_self_eq_false, beq_self_eq_true, Int.reduceBEq, Int.reduceBNe, Bool.not_true, Bool.not_false, r0, r3]
        have e := fin d1 d2
        exact .mk (h' := upd G id (some (PO M.2))) (.sl (M.1.map ruleA) .no) (by rw [← e]; exact hy.weak) (by rw [← e]; exact base_end hy.1 hH) ⟨rfl, rfl⟩
      · have hd : isD st' permitT = true ∨ isD st' denyT = true := by first | exact .inl d1 | exact .inr d2
        have eb := (isD_or hd).1
        have ek := (isD_or hd).2
        have db : (st'.bad != 0) = false := by simp [eb]
        have gP := hH
        unfold PO at gP
        have lim : l.length = 16 ∨ st'.rules = 64 → (l, limitD st' true) = M := fun h => by
          rw [← hfin]; simp only [someF, if_pos hd, if_pos h]
        have hdl : limitD st' true = wrongD st' 6 (hereD st').pos := rfl
        have hlb : ((limitD st' true).bad != 0) = true := by rw [hdl]; simp [wrongD, eb]
        cases dA : ((l.length : Int) == 16)
        · cases dB : ((st'.rules : Int) == 64)
          · have nA : l.length ≠ 16 := fun e => by rw [e] at dA; simp at dA
            have nB : st'.rules ≠ 64 := fun e => by rw [e] at dB; simp at dB
            have hno : ¬ (l.length = 16 ∨ st'.rules = 64) := fun h => h.elim nA nB
            simp only [someF, if_pos hd, if_neg hno] at hfin
            simp -implicitDefEqProofs only [go_sem, ↓reduceIte, Nat.reduceLT, Nat.reduceEqDiff, Nat.reduceAdd, Nat.reduceLeDiff, Nat.reduceMul, Nat.reduceSub, Int.natCast_zero, Int.ofNat_zero, Int.natCast_one, Int.cast_ofNat_Int, bne_self_eq_false, beq_self_eq_true, Int.reduceBEq, Int.reduceBNe, Bool.not_true, Bool.not_false, r0, r3, hy.len, List.length_map, dA, gP, dB]
            refine (limit_ok st' false ha.1).go hH ?_
            rw [show limitD st' false = st' from rfl, upd_self hH]
            have w1 : IntKind.i64.wrap ((st'.rules : Int) + 1) = ((st'.rules + 1 : Nat) : Int) := by rw [wr64 _ (by omega)]; omega
            have w2 : IntKind.i64.wrap ((st'.pos : Int) + 1) = ((st'.pos + 1 : Nat) : Int) := by rw [wr64 _ (by omega)]; omega
            simp -implicitDefEqProofs only [go_sem, ↓reduceIte, Nat.reduceLT, Nat.reduceEqDiff, Nat.reduceAdd, Nat.reduceLeDiff, Nat.reduceMul, Nat.reduceSub, Int.natCast_zero, Int.ofNat_zero, Int.natCast_one, Int.cast_ofNat_Int, bne_self_eq_false, beq_self_eq_true, Int.reduceBEq, Int.reduceBNe, Bool.not_true, Bool.not_false, r0, r3, gP, db, w1]
            have hwr : WfP { st' with rules := st'.rules + 1 } := ha.1
            refine (is_ok { st' with rules := st'.rules + 1 } denyT hwr).go (upd_same ..) ?_
            rw [upd_upd]
            have g2 : upd H id (some (PO { st' with rules := st'.rules + 1 })) id = some (.obj [.sl (st'.ts.map tokA) .no, .v (.int .i64 st'.pos), .v (.int .i64 (st'.rules + 1 : Nat)), .v (.int .i64 st'.bad), .v (.int .i64 st'.place)] 94) := upd_same ..
            simp -implicitDefEqProofs only [go_sem, ↓reduceIte, Nat.reduceLT, Nat.reduceEqDiff, Nat.reduceAdd, Nat.reduceLeDiff, Nat.reduceMul, Nat.reduceSub, Int.natCast_zero, Int.ofNat_zero, Int.natCast_one, Int.cast_ofNat_Int, bne_self_eq_false, beq_self_eq_true, Int.reduceBEq, Int.reduceBNe, Bool.not_true, Bool.not_false, r0, r3, g2, w2]
            have h2 : Ah st' { nextD st' with rules := st'.rules + 1 } := ah_rules ha.1 ek
            have h3 := ah_rule (isD st' denyT) h2.1
            have hrp := rule_p (isD st' denyT) { nextD st' with rules := st'.rules + 1 } h2.1
            have hr3 := (rch_pos (rch_rule (isD st' denyT) { nextD st' with rules := st'.rules + 1 })).2.2
            obtain ⟨x, st2, e2⟩ : ∃ x st2, ruleP (isD st' denyT) { nextD st' with rules := st'.rules + 1 } = (x, st2) := ⟨_, _, rfl⟩
            rw [e2] at hfin hrp h3 hr3
            simp only [ruleA] at hrp hfin h3 hr3
            refine hrp.go (upd_same ..) ?_
            rw [upd_upd]
            simp -implicitDefEqProofs only [go_sem, ↓reduceIte, Nat.reduceLT, Nat.reduceEqDiff, Nat.reduceAdd, Nat.reduceLeDiff, Nat.reduceMul, Nat.reduceSub, Int.natCast_zero, Int.ofNat_zero, Int.natCast_one, Int.cast_ofNat_Int, bne_self_eq_false, beq_self_eq_true, Int.reduceBEq, Int.reduceBNe, Bool.not_true, Bool.not_false, r0, r3]
            refine (hy.put hB hH _).app (zs := [ruleA x]) (by rw [uz_r]; decide) (by rw [ub_r]; decide) (fun k hk => hk) (by rw [uz_r]; exact sized_r l) (by rw [uz_r]; exact sized_r [x]) (by rw [ub_r]; simp; omega) fun y' H2 hy' hk2 => ?_
            have hH2 : H2 id = some (PO st2) := hk2 _ _ _ (upd_same ..)
            simp -implicitDefEqProofs only [go_sem, ↓reduceIte, Nat.reduceLT, Nat.reduceEqDiff, Nat.reduceAdd, Nat.reduceLeDiff, Nat.reduceMul, Nat.reduceSub, Int.natCast_zero, Int.ofNat_zero, Int.natCast_one, Int.cast_ofNat_Int, bne_self_eq_false, beq_self_eq_true, Int.reduceBEq, Int.reduceBNe, Bool.not_true, Bool.not_false, r0, r3]
            refine ⟨_, ?_, g, st2, l ++ [x], y', hH2, by rw [List.map_append]; exact hy', (ha.trans h2).trans h3, by omega, hfin, by simp; omega, by simp; omega, rfl, ?_, ?_⟩
            · omega
            all_goals simp -implicitDefEqProofs only [go_sem, ↓reduceIte, Nat.reduceLT, Nat.reduceEqDiff, Nat.reduceAdd, Nat.reduceLeDiff, Nat.reduceMul, Nat.reduceSub, Int.natCast_zero, Int.ofNat_zero, Int.natCast_one, Int.cast_ofNat_Int, bne_self_eq_false, beq_self_eq_true, Int.reduceBEq, Int.reduceBNe, Bool.not_true, Bool.not_false, r0, r3]
          · have nB : st'.rules = 64 := by have : (st'.rules : Int) = 64 := by simpa using dB
                                           omega
            have e := lim (.inr nB)
            simp -implicitDefEqProofs only [go_sem, ↓reduceIte, Nat.reduceLT, Nat.reduceEqDiff, Nat.reduceAdd, Nat.reduceLeDiff, Nat.reduceMul, Nat.reduceSub, Int.natCast_zero, Int.ofNat_zero, Int.natCast_one, Int.cast_ofNat_Int, bne_self_eq_false, beq_self_eq_true, Int.reduceBEq, Int.reduceBNe, Bool.not_true, Bool.not_false, r0, r3, hy.len, List.length_map, dA, gP, dB]
            refine (limit_ok st' true ha.1).go hH ?_
            have g3 : upd H id (some (PO (limitD st' true))) id = some (PO (limitD st' true)) := upd_same ..
            unfold PO at g3
            simp -implicitDefEqProofs only [go_sem, ↓reduceIte, Nat.reduceLT, Nat.reduceEqDiff, Nat.reduceAdd, Nat.reduceLeDiff, Nat.reduceMul, Nat.reduceSub, Int.natCast_zero, Int.ofNat_zero, Int.natCast_one, Int.cast_ofNat_Int, bne_self_eq_false, beq_self_eq_true, Int.reduceBEq, Int.reduceBNe, Bool.not_true, Bool.not_false, r0, r3, g3, hlb, PO]
            exact .mk (h' := upd G id (some (PO M.2))) (.sl (M.1.map ruleA) .no) (by rw [← e]; exact hy.weak) (by rw [← e]; exact base_end (hy.put hB hH _).1 (upd_same ..)) ⟨rfl, rfl⟩
        · have nA : l.length = 16 := by have : (l.length : Int) = 16 := by simpa using dA
                                        omega
          have e := lim (.inl nA)
          simp -implicitDefEqProofs only [go_sem, ↓reduceIte, Nat.reduceLT, Nat.reduceEqDiff, Nat.reduceAdd, Nat.reduceLeDiff, Nat.reduceMul, Nat.reduceSub, Int.natCast_zero, Int.ofNat_zero, Int.natCast_one, Int.cast_ofNat_Int, bne_self_eq_false, beq_self_eq_true, Int.reduceBEq, Int.reduceBNe, Bool.not_true, Bool.not_false, r0, r3, hy.len, List.length_map, dA, gP]
          refine (limit_ok st' true ha.1).go hH ?_
          have g3 : upd H id (some (PO (limitD st' true))) id = some (PO (limitD st' true)) := upd_same ..
          unfold PO at g3
          simp -implicitDefEqProofs only [go_sem, ↓reduceIte, Nat.reduceLT, Nat.reduceEqDiff, Nat.reduceAdd, Nat.reduceLeDiff, Nat.reduceMul, Nat.reduceSub, Int.natCast_zero, Int.ofNat_zero, Int.natCast_one, Int.cast_ofNat_Int, bne_self_eq_false, beq_self_eq_true, Int.reduceBEq, Int.reduceBNe, Bool.not_true, Bool.not_false, r0, r3, g3, hlb, PO]
          exact .mk (h' := upd G id (some (PO M.2))) (.sl (M.1.map ruleA) .no) (by rw [← e]; exact hy.weak) (by rw [← e]; exact base_end (hy.put hB hH _).1 (upd_same ..)) ⟨rfl, rfl⟩
    · have hd : isD st' permitT = true ∨ isD st' denyT = true := by first | exact .inl d1 | exact .inr d2
      have eb := (isD_or hd).1
      have ek := (isD_or hd).2
      have db : (st'.bad != 0) = false := by simp [eb]
      have gP := hH
      unfold PO at gP
      have lim : l.length = 16 ∨ st'.rules = 64 → (l, limitD st' true) = M := fun h => by
        rw [← hfin]; simp only [someF, if_pos hd, if_pos h]
      have hdl : limitD st' true = wrongD st' 6 (hereD st').pos := rfl
      have hlb : ((limitD st' true).bad != 0) = true := by rw [hdl]; simp [wrongD, eb]
      cases dA : ((l.length : Int) == 16)
      · cases dB : ((st'.rules : Int) == 64)
        · have nA : l.length ≠ 16 := fun e => by rw [e] at dA; simp at dA
          have nB : st'.rules ≠ 64 := fun e => by rw [e] at dB; simp at dB
          have hno : ¬ (l.length = 16 ∨ st'.rules = 64) := fun h => h.elim nA nB
          simp only [someF, if_pos hd, if_neg hno] at hfin
          simp -implicitDefEqProofs only [go_sem, ↓reduceIte, Nat.reduceLT, Nat.reduceEqDiff, Nat.reduceAdd, Nat.reduceLeDiff, Nat.reduceMul, Nat.reduceSub, Int.natCast_zero, Int.ofNat_zero, Int.natCast_one, Int.cast_ofNat_Int, bne_self_eq_false, beq_self_eq_true, Int.reduceBEq, Int.reduceBNe, Bool.not_true, Bool.not_false, r0, r3, hy.len, List.length_map, dA, gP, dB]
          refine (limit_ok st' false ha.1).go hH ?_
          rw [show limitD st' false = st' from rfl, upd_self hH]
          have w1 : IntKind.i64.wrap ((st'.rules : Int) + 1) = ((st'.rules + 1 : Nat) : Int) := by rw [wr64 _ (by omega)]; omega
          have w2 : IntKind.i64.wrap ((st'.pos : Int) + 1) = ((st'.pos + 1 : Nat) : Int) := by rw [wr64 _ (by omega)]; omega
          simp -implicitDefEqProofs only [go_sem, ↓reduceIte, Nat.reduceLT, Nat.reduceEqDiff, Nat.reduceAdd, Nat.reduceLeDiff, Nat.reduceMul, Nat.reduceSub, Int.natCast_zero, Int.ofNat_zero, Int.natCast_one, Int.cast_ofNat_Int, bne_self_eq_false, beq_self_eq_true, Int.reduceBEq, Int.reduceBNe, Bool.not_true, Bool.not_false, r0, r3, gP, db, w1]
          have hwr : WfP { st' with rules := st'.rules + 1 } := ha.1
          refine (is_ok { st' with rules := st'.rules + 1 } denyT hwr).go (upd_same ..) ?_
          rw [upd_upd]
          have g2 : upd H id (some (PO { st' with rules := st'.rules + 1 })) id = some (.obj [.sl (st'.ts.map tokA) .no, .v (.int .i64 st'.pos), .v (.int .i64 (st'.rules + 1 : Nat)), .v (.int .i64 st'.bad), .v (.int .i64 st'.place)] 94) := upd_same ..
          simp -implicitDefEqProofs only [go_sem, ↓reduceIte, Nat.reduceLT, Nat.reduceEqDiff, Nat.reduceAdd, Nat.reduceLeDiff, Nat.reduceMul, Nat.reduceSub, Int.natCast_zero, Int.ofNat_zero, Int.natCast_one, Int.cast_ofNat_Int, bne_self_eq_false, beq_self_eq_true, Int.reduceBEq, Int.reduceBNe, Bool.not_true, Bool.not_false, r0, r3, g2, w2]
          have h2 : Ah st' { nextD st' with rules := st'.rules + 1 } := ah_rules ha.1 ek
          have h3 := ah_rule (isD st' denyT) h2.1
          have hrp := rule_p (isD st' denyT) { nextD st' with rules := st'.rules + 1 } h2.1
          have hr3 := (rch_pos (rch_rule (isD st' denyT) { nextD st' with rules := st'.rules + 1 })).2.2
          obtain ⟨x, st2, e2⟩ : ∃ x st2, ruleP (isD st' denyT) { nextD st' with rules := st'.rules + 1 } = (x, st2) := ⟨_, _, rfl⟩
          rw [e2] at hfin hrp h3 hr3
          simp only [ruleA] at hrp hfin h3 hr3
          refine hrp.go (upd_same ..) ?_
          rw [upd_upd]
          simp -implicitDefEqProofs only [go_sem, ↓reduceIte, Nat.reduceLT, Nat.reduceEqDiff, Nat.reduceAdd, Nat.reduceLeDiff, Nat.reduceMul, Nat.reduceSub, Int.natCast_zero, Int.ofNat_zero, Int.natCast_one, Int.cast_ofNat_Int, bne_self_eq_false, beq_self_eq_true, Int.reduceBEq, Int.reduceBNe, Bool.not_true, Bool.not_false, r0, r3]
          refine (hy.put hB hH _).app (zs := [ruleA x]) (by rw [uz_r]; decide) (by rw [ub_r]; decide) (fun k hk => hk) (by rw [uz_r]; exact sized_r l) (by rw [uz_r]; exact sized_r [x]) (by rw [ub_r]; simp; omega) fun y' H2 hy' hk2 => ?_
          have hH2 : H2 id = some (PO st2) := hk2 _ _ _ (upd_same ..)
          simp -implicitDefEqProofs only [go_sem, ↓reduceIte, Nat.reduceLT, Nat.reduceEqDiff, Nat.reduceAdd, Nat.reduceLeDiff, Nat.reduceMul, Nat.reduceSub, Int.natCast_zero, Int.ofNat_zero, Int.natCast_one, Int.cast_ofNat_Int, bne_self_eq_false, beq_self_eq_true, Int.reduceBEq, Int.reduceBNe, Bool.not_true, Bool.not_false, r0, r3]
          refine ⟨_, ?_, g, st2, l ++ [x], y', hH2, by rw [List.map_append]; exact hy', (ha.trans h2).trans h3, by omega, hfin, by simp; omega, by simp; omega, rfl, ?_, ?_⟩
          · omega
          all_goals simp -implicitDefEqProofs only [go_sem, ↓reduceIte, Nat.reduceLT, Nat.reduceEqDiff, Nat.reduceAdd, Nat.reduceLeDiff, Nat.reduceMul, Nat.reduceSub, Int.natCast_zero, Int.ofNat_zero, Int.natCast_one, Int.cast_ofNat_Int, bne_self_eq_false, beq_self_eq_true, Int.reduceBEq, Int.reduceBNe, Bool.not_true, Bool.not_false, r0, r3]
        · have nB : st'.rules = 64 := by have : (st'.rules : Int) = 64 := by simpa using dB
                                         omega
          have e := lim (.inr nB)
          simp -implicitDefEqProofs only [go_sem, ↓reduceIte, Nat.reduceLT, Nat.reduceEqDiff, Nat.reduceAdd, Nat.reduceLeDiff, Nat.reduceMul, Nat.reduceSub, Int.natCast_zero, Int.ofNat_zero, Int.natCast_one, Int.cast_ofNat_Int, bne_self_eq_false, beq_self_eq_true, Int.reduceBEq, Int.reduceBNe, Bool.not_true, Bool.not_false, r0, r3, hy.len, List.length_map, dA, gP, dB]
          refine (limit_ok st' true ha.1).go hH ?_
          have g3 : upd H id (some (PO (limitD st' true))) id = some (PO (limitD st' true)) := upd_same ..
          unfold PO at g3
          simp -implicitDefEqProofs only [go_sem, ↓reduceIte, Nat.reduceLT, Nat.reduceEqDiff, Nat.reduceAdd, Nat.reduceLeDiff, Nat.reduceMul, Nat.reduceSub, Int.natCast_zero, Int.ofNat_zero, Int.natCast_one, Int.cast_ofNat_Int, bne_self_eq_false, beq_self_eq_true, Int.reduceBEq, Int.reduceBNe, Bool.not_true, Bool.not_false, r0, r3, g3, hlb, PO]
          exact .mk (h' := upd G id (some (PO M.2))) (.sl (M.1.map ruleA) .no) (by rw [← e]; exact hy.weak) (by rw [← e]; exact base_end (hy.put hB hH _).1 (upd_same ..)) ⟨rfl, rfl⟩
      · have nA : l.length = 16 := by have : (l.length : Int) = 16 := by simpa using dA
                                      omega
        have e := lim (.inl nA)
        simp -implicitDefEqProofs only [go_sem, ↓reduceIte, Nat.reduceLT, Nat.reduceEqDiff, Nat.reduceAdd, Nat.reduceLeDiff, Nat.reduceMul, Nat.reduceSub, Int.natCast_zero, Int.ofNat_zero, Int.natCast_one, Int.cast_ofNat_Int, bne_self_eq_false, beq_self_eq_true, Int.reduceBEq, Int.reduceBNe, Bool.not_true, Bool.not_false, r0, r3, hy.len, List.length_map, dA, gP]
        refine (limit_ok st' true ha.1).go hH ?_
        have g3 : upd H id (some (PO (limitD st' true))) id = some (PO (limitD st' true)) := upd_same ..
        unfold PO at g3
        simp -implicitDefEqProofs only [go_sem, ↓reduceIte, Nat.reduceLT, Nat.reduceEqDiff, Nat.reduceAdd, Nat.reduceLeDiff, Nat.reduceMul, Nat.reduceSub, Int.natCast_zero, Int.ofNat_zero, Int.natCast_one, Int.cast_ofNat_Int, bne_self_eq_false, beq_self_eq_true, Int.reduceBEq, Int.reduceBNe, Bool.not_true, Bool.not_false, r0, r3, g3, hlb, PO]
        exact .mk (h' := upd G id (some (PO M.2))) (.sl (M.1.map ruleA) .no) (by rw [← e]; exact hy.weak) (by rw [← e]; exact base_end (hy.put hB hH _).1 (upd_same ..)) ⟨rfl, rfl⟩
end Go.Proofs.YtdcchpbncckhlaaDoor

/- The parser: kids. -/
set_option linter.unusedSimpArgs false
set_option linter.unusedVariables false
namespace Go.Proofs.YtdcchpbncckhlaaDoor
open Go Go.Ab Go.Bf

theorem uz_k : (U 43).sz = 7 := by simp only [go_sem]
theorem ub_k : (U 43).bytes = 128 := by simp only [go_sem]
theorem sized_k (l : List PolD) : Sized 7 (l.map polA) := fun z hz => by
  obtain ⟨c, _, rfl⟩ := List.mem_map.1 hz
  cases c; rfl

set_option maxRecDepth 20000 in
theorem kids_p (pol : PoF) (d : Nat) (hd5 : d ≤ 5) (hp : ∀ st, WfP st → st.rules ≤ 64 → d ≤ 4 → PC 49 [.v (.int .i64 d)] st (polA (pol st).1) (pol st).2) (hpa : ∀ st, WfP st → Ah st (pol st).2) (hpr : ∀ st, RchR st (pol st).2)
    (st : PS) (hw : WfP st) (hr : st.rules ≤ 64) : PC 83 [.v (.int .i64 d)] st (.sl ((kidsF pol (decide ((4 : Int) < (d : Int))) 17 st []).1.map polA) .no) (kidsF pol (decide ((4 : Int) < (d : Int))) 17 st []).2 := .of fun G id => by
  obtain ⟨M, eM⟩ : ∃ M, kidsF pol (decide ((4 : Int) < (d : Int))) 17 st [] = M := ⟨_, rfl⟩
  rw [eM]
  refine FnOK.body hU hm Tryd.func83 rfl (by kernel_rfl) 33 rfl [.tmp 4] rfl (Nat.le_of_ble_eq_true rfl) (fun hwf => ?_)
  simp -implicitDefEqProofs only [go_sem, ↓reduceIte, Nat.reduceLT, Nat.reduceEqDiff, Nat.reduceAdd, Nat.reduceLeDiff, Nat.reduceMul, Nat.reduceSub, Int.natCast_zero, Int.ofNat_zero, Int.natCast_one, Int.cast_ofNat_Int, bne_self_eq_false, beq_self_eq_true, Int.reduceBEq, Int.reduceBNe, Bool.not_true, Bool.not_false]
  have hB : upd G id none id = none := upd_same ..
  refine .intro (fun m ρ H => ∃ (f : Nat) (st' : PS) (l : List PolD) (y : AV), H id = some (PO st') ∧ Acc U 43 (upd G id none) H y (l.map polA) ∧ Ah st st' ∧ st'.rules ≤ 64 ∧ kidsF pol (decide ((4 : Int) < (d : Int))) f st' l = M ∧ f + l.length = 17 ∧ l.length ≤ 16 ∧ m = f ∧ lk ρ 0 = some (.ptr id 0) ∧ lk ρ 1 = some (.v (.int .i64 d)) ∧ lk ρ 5 = some y) 17 ?_ ?_
  · refine ⟨17, st, [], .sl ([].map polA) .full, upd_same .., .full (base_start G id _), .refl hw, hr, eM, by simp, by simp, rfl, ?_, ?_, ?_⟩ <;> simp -implicitDefEqProofs only [go_sem, ↓reduceIte, Nat.reduceLT, Nat.reduceEqDiff, Nat.reduceAdd, Nat.reduceLeDiff, Nat.reduceMul, Nat.reduceSub, Int.natCast_zero, Int.ofNat_zero, Int.natCast_one, Int.cast_ofNat_Int, bne_self_eq_false, beq_self_eq_true, Int.reduceBEq, Int.reduceBNe, Bool.not_true, Bool.not_false] <;> rfl
  · rintro m ρ H ⟨f, st', l, y, hH, hy, ha, hru, hfin, hf, hll, rfl, r0, r1, r5⟩
    have hlen := ha.1.2.2
    have hpos := ha.1.1
    obtain ⟨g, rfl⟩ : ∃ g, m = g + 1 := ⟨m - 1, by omega⟩
    simp -implicitDefEqProofs only [go_sem, ↓reduceIte, Nat.reduceLT, Nat.reduceEqDiff, Nat.reduceAdd, Nat.reduceLeDiff, Nat.reduceMul, Nat.reduceSub, Int.natCast_zero, Int.ofNat_zero, Int.natCast_one, Int.cast_ofNat_Int, bne_self_eq_false, beq_self_eq_true, Int.reduceBEq, Int.reduceBNe, Bool.not_true, Bool.not_false, r0, r1, r5]
    refine (is_ok st' policyT ha.1).go hH ?_
    rw [upd_self hH]
    have fin : isD st' policyT = false → isD st' setT = false → (l, st') = M := fun d1 d2 => by
      rw [← hfin]; simp [kidsF, d1, d2]
    cases d1 : isD st' policyT
    · simp -implicitDefEqProofs only [go_sem, ↓reduceIte, Nat.reduceLT, Nat.reduceEqDiff, Nat.reduceAdd, Nat.reduceLeDiff, Nat.reduceMul, Nat.reduceSub, Int.natCast_zero, Int.ofNat_zero, Int.natCast_one, Int.cast_ofNat_Int, bne_self_eq_false, beq_self_eq_true, Int.reduceBEq, Int.reduceBNe, Bool.not_true, Bool.not_false, r0, r1, r5]
      refine (is_ok st' setT ha.1).go hH ?_
      rw [upd_self hH]
      cases d2 : isD st' setT
      · simp -implicitDefEqProofs only [go_sem, ↓reduceIte, Nat.reduceLT, Nat.reduceEqDiff, Nat.reduceAdd, Nat.reduceLeDiff, Nat.reduceMul, Nat.reduceSub, Int.natCast_zero, Int.ofNat_zero, Int.natCast_one, Int.cast_ofNat_Int, bne_self_eq_false, beq_self_eq_true, Int.reduceBEq, Int.reduceBNe, Bool.not_true, Bool.not_false, r0, r1, r5]
        have e := fin d1 d2
        exact .mk (h' := upd G id (some (PO M.2))) (.sl (M.1.map polA) .no) (by rw [← e]; exact hy.weak) (by rw [← e]; exact base_end hy.1 hH) ⟨rfl, rfl⟩
      · have hd : isD st' policyT = true ∨ isD st' setT = true := by first | exact .inl d1 | exact .inr d2
        have eb := (isD_or hd).1
        have ek := (isD_or hd).2
        have db : (st'.bad != 0) = false := by simp [eb]
        have gP := hH
        unfold PO at gP
        have lim : l.length = 16 ∨ decide ((4 : Int) < (d : Int)) = true → (l, limitD st' true) = M := fun h => by
          rw [← hfin]; simp only [kidsF, if_pos hd, if_pos h]
        have hdl : limitD st' true = wrongD st' 6 (hereD st').pos := rfl
        have hlb : ((limitD st' true).bad != 0) = true := by rw [hdl]; simp [wrongD, eb]
        cases dA : ((l.length : Int) == 16)
        · cases dB : decide ((4 : Int) < (d : Int))
          · have nA : l.length ≠ 16 := fun e => by rw [e] at dA; simp at dA
            have hno : ¬ (l.length = 16 ∨ decide ((4 : Int) < (d : Int)) = true) := fun h => h.elim nA (fun e => by rw [dB] at e; cases e)
            simp only [kidsF, if_pos hd, if_neg hno] at hfin
            rw [dB] at hfin
            have hd4 : d ≤ 4 := by have := of_decide_eq_false dB; omega
            simp -implicitDefEqProofs only [go_sem, ↓reduceIte, Nat.reduceLT, Nat.reduceEqDiff, Nat.reduceAdd, Nat.reduceLeDiff, Nat.reduceMul, Nat.reduceSub, Int.natCast_zero, Int.ofNat_zero, Int.natCast_one, Int.cast_ofNat_Int, bne_self_eq_false, beq_self_eq_true, Int.reduceBEq, Int.reduceBNe, Bool.not_true, Bool.not_false, r0, r1, r5, hy.len, List.length_map, dA, gP, dB]
            refine (limit_ok st' false ha.1).go hH ?_
            rw [show limitD st' false = st' from rfl, upd_self hH]
            have h3 := hpa st' ha.1
            have hrp := hp st' ha.1 hru hd4
            have hr3 := rules_pol (hpr st') hru
            obtain ⟨x, st2, e2⟩ : ∃ x st2, pol st' = (x, st2) := ⟨_, _, rfl⟩
            rw [e2] at hfin hrp h3 hr3
            obtain ⟨pid, pset, palg, ptgt, prules, pkids, pobls⟩ := x
            simp only [polA] at hrp hfin h3 hr3
            simp -implicitDefEqProofs only [go_sem, ↓reduceIte, Nat.reduceLT, Nat.reduceEqDiff, Nat.reduceAdd, Nat.reduceLeDiff, Nat.reduceMul, Nat.reduceSub, Int.natCast_zero, Int.ofNat_zero, Int.natCast_one, Int.cast_ofNat_Int, bne_self_eq_false, beq_self_eq_true, Int.reduceBEq, Int.reduceBNe, Bool.not_true, Bool.not_false, r0, r1, r5, gP, db]
            refine hrp.go hH ?_
            simp -implicitDefEqProofs only [go_sem, ↓reduceIte, Nat.reduceLT, Nat.reduceEqDiff, Nat.reduceAdd, Nat.reduceLeDiff, Nat.reduceMul, Nat.reduceSub, Int.natCast_zero, Int.ofNat_zero, Int.natCast_one, Int.cast_ofNat_Int, bne_self_eq_false, beq_self_eq_true, Int.reduceBEq, Int.reduceBNe, Bool.not_true, Bool.not_false, r0, r1, r5]
            refine (hy.put hB hH _).app (zs := [polA ⟨pid, pset, palg, ptgt, prules, pkids, pobls⟩]) (by rw [uz_k]; decide) (by rw [ub_k]; decide) (fun k hk => hk) (by rw [uz_k]; exact sized_k l) (by rw [uz_k]; exact sized_k [⟨pid, pset, palg, ptgt, prules, pkids, pobls⟩]) (by rw [ub_k]; simp; omega) fun y' H2 hy' hk2 => ?_
            have hH2 : H2 id = some (PO st2) := hk2 _ _ _ (upd_same ..)
            simp -implicitDefEqProofs only [go_sem, ↓reduceIte, Nat.reduceLT, Nat.reduceEqDiff, Nat.reduceAdd, Nat.reduceLeDiff, Nat.reduceMul, Nat.reduceSub, Int.natCast_zero, Int.ofNat_zero, Int.natCast_one, Int.cast_ofNat_Int, bne_self_eq_false, beq_self_eq_true, Int.reduceBEq, Int.reduceBNe, Bool.not_true, Bool.not_false, r0, r1, r5]
            refine ⟨_, ?_, g, st2, l ++ [⟨pid, pset, palg, ptgt, prules, pkids, pobls⟩], y', hH2, by rw [List.map_append]; exact hy', ha.trans h3, hr3, hfin, by simp; omega, by simp; omega, rfl, ?_, ?_, ?_⟩
            · omega
            all_goals simp -implicitDefEqProofs only [go_sem, ↓reduceIte, Nat.reduceLT, Nat.reduceEqDiff, Nat.reduceAdd, Nat.reduceLeDiff, Nat.reduceMul, Nat.reduceSub, Int.natCast_zero, Int.ofNat_zero, Int.natCast_one, Int.cast_ofNat_Int, bne_self_eq_false, beq_self_eq_true, Int.reduceBEq, Int.reduceBNe, Bool.not_true, Bool.not_false, r0, r1, r5]
          · have e := lim (.inr dB)
            simp -implicitDefEqProofs only [go_sem, ↓reduceIte, Nat.reduceLT, Nat.reduceEqDiff, Nat.reduceAdd, Nat.reduceLeDiff, Nat.reduceMul, Nat.reduceSub, Int.natCast_zero, Int.ofNat_zero, Int.natCast_one, Int.cast_ofNat_Int, bne_self_eq_false, beq_self_eq_true, Int.reduceBEq, Int.reduceBNe, Bool.not_true, Bool.not_false, r0, r1, r5, hy.len, List.length_map, dA, gP, dB]
            refine (limit_ok st' true ha.1).go hH ?_
            have g3 : upd H id (some (PO (limitD st' true))) id = some (PO (limitD st' true)) := upd_same ..
            unfold PO at g3
            simp -implicitDefEqProofs only [go_sem, ↓reduceIte, Nat.reduceLT, Nat.reduceEqDiff, Nat.reduceAdd, Nat.reduceLeDiff, Nat.reduceMul, Nat.reduceSub, Int.natCast_zero, Int.ofNat_zero, Int.natCast_one, Int.cast_ofNat_Int, bne_self_eq_false, beq_self_eq_true, Int.reduceBEq, Int.reduceBNe, Bool.not_true, Bool.not_false, r0, r1, r5, g3, hlb, PO]
            exact .mk (h' := upd G id (some (PO M.2))) (.sl (M.1.map polA) .no) (by rw [← e]; exact hy.weak) (by rw [← e]; exact base_end (hy.put hB hH _).1 (upd_same ..)) ⟨rfl, rfl⟩
        · have nA : l.length = 16 := by have : (l.length : Int) = 16 := by simpa using dA
                                        omega
          have e := lim (.inl nA)
          simp -implicitDefEqProofs only [go_sem, ↓reduceIte, Nat.reduceLT, Nat.reduceEqDiff, Nat.reduceAdd, Nat.reduceLeDiff, Nat.reduceMul, Nat.reduceSub, Int.natCast_zero, Int.ofNat_zero, Int.natCast_one, Int.cast_ofNat_Int, bne_self_eq_false, beq_self_eq_true, Int.reduceBEq, Int.reduceBNe, Bool.not_true, Bool.not_false, r0, r1, r5, hy.len, List.length_map, dA, gP]
          refine (limit_ok st' true ha.1).go hH ?_
          have g3 : upd H id (some (PO (limitD st' true))) id = some (PO (limitD st' true)) := upd_same ..
          unfold PO at g3
          simp -implicitDefEqProofs only [go_sem, ↓reduceIte, Nat.reduceLT, Nat.reduceEqDiff, Nat.reduceAdd, Nat.reduceLeDiff, Nat.reduceMul, Nat.reduceSub, Int.natCast_zero, Int.ofNat_zero, Int.natCast_one, Int.cast_ofNat_Int, bne_self_eq_false, beq_self_eq_true, Int.reduceBEq, Int.reduceBNe, Bool.not_true, Bool.not_false, r0, r1, r5, g3, hlb, PO]
          exact .mk (h' := upd G id (some (PO M.2))) (.sl (M.1.map polA) .no) (by rw [← e]; exact hy.weak) (by rw [← e]; exact base_end (hy.put hB hH _).1 (upd_same ..)) ⟨rfl, rfl⟩
    · have hd : isD st' policyT = true ∨ isD st' setT = true := by first | exact .inl d1 | exact .inr d2
      have eb := (isD_or hd).1
      have ek := (isD_or hd).2
      have db : (st'.bad != 0) = false := by simp [eb]
      have gP := hH
      unfold PO at gP
      have lim : l.length = 16 ∨ decide ((4 : Int) < (d : Int)) = true → (l, limitD st' true) = M := fun h => by
        rw [← hfin]; simp only [kidsF, if_pos hd, if_pos h]
      have hdl : limitD st' true = wrongD st' 6 (hereD st').pos := rfl
      have hlb : ((limitD st' true).bad != 0) = true := by rw [hdl]; simp [wrongD, eb]
      cases dA : ((l.length : Int) == 16)
      · cases dB : decide ((4 : Int) < (d : Int))
        · have nA : l.length ≠ 16 := fun e => by rw [e] at dA; simp at dA
          have hno : ¬ (l.length = 16 ∨ decide ((4 : Int) < (d : Int)) = true) := fun h => h.elim nA (fun e => by rw [dB] at e; cases e)
          simp only [kidsF, if_pos hd, if_neg hno] at hfin
          rw [dB] at hfin
          have hd4 : d ≤ 4 := by have := of_decide_eq_false dB; omega
          simp -implicitDefEqProofs only [go_sem, ↓reduceIte, Nat.reduceLT, Nat.reduceEqDiff, Nat.reduceAdd, Nat.reduceLeDiff, Nat.reduceMul, Nat.reduceSub, Int.natCast_zero, Int.ofNat_zero, Int.natCast_one, Int.cast_ofNat_Int, bne_self_eq_false, beq_self_eq_true, Int.reduceBEq, Int.reduceBNe, Bool.not_true, Bool.not_false, r0, r1, r5, hy.len, List.length_map, dA, gP, dB]
          refine (limit_ok st' false ha.1).go hH ?_
          rw [show limitD st' false = st' from rfl, upd_self hH]
          have h3 := hpa st' ha.1
          have hrp := hp st' ha.1 hru hd4
          have hr3 := rules_pol (hpr st') hru
          obtain ⟨x, st2, e2⟩ : ∃ x st2, pol st' = (x, st2) := ⟨_, _, rfl⟩
          rw [e2] at hfin hrp h3 hr3
          obtain ⟨pid, pset, palg, ptgt, prules, pkids, pobls⟩ := x
          simp only [polA] at hrp hfin h3 hr3
          simp -implicitDefEqProofs only [go_sem, ↓reduceIte, Nat.reduceLT, Nat.reduceEqDiff, Nat.reduceAdd, Nat.reduceLeDiff, Nat.reduceMul, Nat.reduceSub, Int.natCast_zero, Int.ofNat_zero, Int.natCast_one, Int.cast_ofNat_Int, bne_self_eq_false, beq_self_eq_true, Int.reduceBEq, Int.reduceBNe, Bool.not_true, Bool.not_false, r0, r1, r5, gP, db]
          refine hrp.go hH ?_
          simp -implicitDefEqProofs only [go_sem, ↓reduceIte, Nat.reduceLT, Nat.reduceEqDiff, Nat.reduceAdd, Nat.reduceLeDiff, Nat.reduceMul, Nat.reduceSub, Int.natCast_zero, Int.ofNat_zero, Int.natCast_one, Int.cast_ofNat_Int, bne_self_eq_false, beq_self_eq_true, Int.reduceBEq, Int.reduceBNe, Bool.not_true, Bool.not_false, r0, r1, r5]
          refine (hy.put hB hH _).app (zs := [polA ⟨pid, pset, palg, ptgt, prules, pkids, pobls⟩]) (by rw [uz_k]; decide) (by rw [ub_k]; decide) (fun k hk => hk) (by rw [uz_k]; exact sized_k l) (by rw [uz_k]; exact sized_k [⟨pid, pset, palg, ptgt, prules, pkids, pobls⟩]) (by rw [ub_k]; simp; omega) fun y' H2 hy' hk2 => ?_
          have hH2 : H2 id = some (PO st2) := hk2 _ _ _ (upd_same ..)
          simp -implicitDefEqProofs only [go_sem, ↓reduceIte, Nat.reduceLT, Nat.reduceEqDiff, Nat.reduceAdd, Nat.reduceLeDiff, Nat.reduceMul, Nat.reduceSub, Int.natCast_zero, Int.ofNat_zero, Int.natCast_one, Int.cast_ofNat_Int, bne_self_eq_false, beq_self_eq_true, Int.reduceBEq, Int.reduceBNe, Bool.not_true, Bool.not_false, r0, r1, r5]
          refine ⟨_, ?_, g, st2, l ++ [⟨pid, pset, palg, ptgt, prules, pkids, pobls⟩], y', hH2, by rw [List.map_append]; exact hy', ha.trans h3, hr3, hfin, by simp; omega, by simp; omega, rfl, ?_, ?_, ?_⟩
          · omega
          all_goals simp -implicitDefEqProofs only [go_sem, ↓reduceIte, Nat.reduceLT, Nat.reduceEqDiff, Nat.reduceAdd, Nat.reduceLeDiff, Nat.reduceMul, Nat.reduceSub, Int.natCast_zero, Int.ofNat_zero, Int.natCast_one, Int.cast_ofNat_Int, bne_self_eq_false, beq_self_eq_true, Int.reduceBEq, Int.reduceBNe, Bool.not_true, Bool.not_false, r0, r1, r5]
        · have e := lim (.inr dB)
          simp -implicitDefEqProofs only [go_sem, ↓reduceIte, Nat.reduceLT, Nat.reduceEqDiff, Nat.reduceAdd, Nat.reduceLeDiff, Nat.reduceMul, Nat.reduceSub, Int.natCast_zero, Int.ofNat_zero, Int.natCast_one, Int.cast_ofNat_Int, bne_self_eq_false, beq_self_eq_true, Int.reduceBEq, Int.reduceBNe, Bool.not_true, Bool.not_false, r0, r1, r5, hy.len, List.length_map, dA, gP, dB]
          refine (limit_ok st' true ha.1).go hH ?_
          have g3 : upd H id (some (PO (limitD st' true))) id = some (PO (limitD st' true)) := upd_same ..
          unfold PO at g3
          simp -implicitDefEqProofs only [go_sem, ↓reduceIte, Nat.reduceLT, Nat.reduceEqDiff, Nat.reduceAdd, Nat.reduceLeDiff, Nat.reduceMul, Nat.reduceSub, Int.natCast_zero, Int.ofNat_zero, Int.natCast_one, Int.cast_ofNat_Int, bne_self_eq_false, beq_self_eq_true, Int.reduceBEq, Int.reduceBNe, Bool.not_true, Bool.not_false, r0, r1, r5, g3, hlb, PO]
          exact .mk (h' := upd G id (some (PO M.2))) (.sl (M.1.map polA) .no) (by rw [← e]; exact hy.weak) (by rw [← e]; exact base_end (hy.put hB hH _).1 (upd_same ..)) ⟨rfl, rfl⟩
      · have nA : l.length = 16 := by have : (l.length : Int) = 16 := by simpa using dA
                                      omega
        have e := lim (.inl nA)
        simp -implicitDefEqProofs only [go_sem, ↓reduceIte, Nat.reduceLT, Nat.reduceEqDiff, Nat.reduceAdd, Nat.reduceLeDiff, Nat.reduceMul, Nat.reduceSub, Int.natCast_zero, Int.ofNat_zero, Int.natCast_one, Int.cast_ofNat_Int, bne_self_eq_false, beq_self_eq_true, Int.reduceBEq, Int.reduceBNe, Bool.not_true, Bool.not_false, r0, r1, r5, hy.len, List.length_map, dA, gP]
        refine (limit_ok st' true ha.1).go hH ?_
        have g3 : upd H id (some (PO (limitD st' true))) id = some (PO (limitD st' true)) := upd_same ..
        unfold PO at g3
        simp -implicitDefEqProofs only [go_sem, ↓reduceIte, Nat.reduceLT, Nat.reduceEqDiff, Nat.reduceAdd, Nat.reduceLeDiff, Nat.reduceMul, Nat.reduceSub, Int.natCast_zero, Int.ofNat_zero, Int.natCast_one, Int.cast_ofNat_Int, bne_self_eq_false, beq_self_eq_true, Int.reduceBEq, Int.reduceBNe, Bool.not_true, Bool.not_false, r0, r1, r5, g3, hlb, PO]
        exact .mk (h' := upd G id (some (PO M.2))) (.sl (M.1.map polA) .no) (by rw [← e]; exact hy.weak) (by rw [← e]; exact base_end (hy.put hB hH _).1 (upd_same ..)) ⟨rfl, rfl⟩
end Go.Proofs.YtdcchpbncckhlaaDoor

/- The parser: policies. -/
set_option linter.unusedSimpArgs false
set_option linter.unusedVariables false
namespace Go.Proofs.YtdcchpbncckhlaaDoor
open Go Go.Ab Go.Bf

set_option maxRecDepth 20000 in
theorem policy_s (r : Nat) (d : Nat) (hrd : r + d = 4) (hp : ∀ st, WfP st → st.rules ≤ 64 → d + 1 ≤ 4 → PC 49 [.v (.int .i64 (d + 1 : Nat))] st (polA (polF r st).1) (polF r st).2) (st : PS) (hw : WfP st) (hr : st.rules ≤ 64) :
    PC 49 [.v (.int .i64 d)] st (polA (polF (r + 1) st).1) (polF (r + 1) st).2 := .of fun G id => by
  have h1 := ah_among kindWs hw
  have h2 := ah_name h1.1
  have h3 := ah_among algWs h2.1
  have h4 := ah_tgt h3.1
  have h5 : Ah _ (headP st).2 := ah_must [123] h4.1
  have ht := tgt_p _ h3.1
  simp only [tgtA] at ht
  have hrh := rules_pol (rch_head st).big hr
  have hset : (headP st).1.1 = ((amongD st kindWs).1 == 2) := rfl
  have w1 : IntKind.i64.wrap ((d : Int) + 1) = ((d + 1 : Nat) : Int) := by rw [wr64 _ (by omega)]; omega
  have hdp : (r == 0) = decide ((4 : Int) < ((d + 1 : Nat) : Int)) := by
    by_cases h : r = 0
    · rw [decide_eq_true (by omega), h]; rfl
    · rw [decide_eq_false (by omega)]; simpa using h
  have hk := kids_p (polF r) (d + 1) (by omega) hp (fun _ h => ah_pol r _ h) (rch_pol r) _ h5.1 hrh
  have hs := some_p _ h5.1 hrh
  refine FnOK.body hU hm Tryd.func49 rfl (by kernel_rfl) 39 rfl [.cell 4 43] rfl (Nat.le_of_ble_eq_true rfl) (fun hwf => ?_)
  simp -implicitDefEqProofs only [go_sem, ↓reduceIte, Nat.reduceLT, Nat.reduceEqDiff, Nat.reduceAdd, Nat.reduceLeDiff, Nat.reduceMul, Nat.reduceSub, Int.natCast_zero, Int.ofNat_zero, Int.natCast_one, Int.cast_ofNat_Int, bne_self_eq_false, beq_self_eq_true, Int.reduceBEq, Int.reduceBNe, Bool.not_true, Bool.not_false]
  intro i4 hi4
  have n4 := ne_upd hi4
  have hG4 : G i4 = none := by rw [upd_other _ _ n4] at hi4; exact hi4
  have c4 : ∀ (f : Heap) (x y : Option Blk), upd (upd f id x) i4 y = upd (upd f i4 y) id x := fun f x y => upd_comm f x y n4.symm
  simp -implicitDefEqProofs only [go_sem, ↓reduceIte, Nat.reduceLT, Nat.reduceEqDiff, Nat.reduceAdd, Nat.reduceLeDiff, Nat.reduceMul, Nat.reduceSub, Int.natCast_zero, Int.ofNat_zero, Int.natCast_one, Int.cast_ofNat_Int, bne_self_eq_false, beq_self_eq_true, Int.reduceBEq, Int.reduceBNe, Bool.not_true, Bool.not_false, c4]
  intro i5 hi5
  have n5 := ne_upd hi5
  have hi5' := hi5
  rw [upd_other _ _ n5] at hi5'
  have n54 := ne_upd hi5'
  have m54 : ¬ i5 = i4 := n54
  have m45 : ¬ i4 = i5 := n54.symm
  have hG5 : G i5 = none := by rw [upd_other _ _ n54] at hi5'; exact hi5'
  have c5 : ∀ (f : Heap) (x y : Option Blk), upd (upd f id x) i5 y = upd (upd f i5 y) id x := fun f x y => upd_comm f x y n5.symm
  have c45 : ∀ (f : Heap) (x y : Option Blk), upd (upd f i5 x) i4 y = upd (upd f i4 y) i5 x := fun f x y => upd_comm f x y n54
  simp -implicitDefEqProofs only [go_sem, ↓reduceIte, Nat.reduceLT, Nat.reduceEqDiff, Nat.reduceAdd, Nat.reduceLeDiff, Nat.reduceMul, Nat.reduceSub, Int.natCast_zero, Int.ofNat_zero, Int.natCast_one, Int.cast_ofNat_Int, bne_self_eq_false, beq_self_eq_true, Int.reduceBEq, Int.reduceBNe, Bool.not_true, Bool.not_false, c4, c5, c45, upd_ne, n4, n5, m54, m45]
  refine (among_ok st kindWs .full (by decide) hw).run ?_
  simp -implicitDefEqProofs only [go_sem, ↓reduceIte, Nat.reduceLT, Nat.reduceEqDiff, Nat.reduceAdd, Nat.reduceLeDiff, Nat.reduceMul, Nat.reduceSub, Int.natCast_zero, Int.ofNat_zero, Int.natCast_one, Int.cast_ofNat_Int, bne_self_eq_false, beq_self_eq_true, Int.reduceBEq, Int.reduceBNe, Bool.not_true, Bool.not_false, c4, c5, c45, upd_ne, n4, n5, m54, m45]
  refine (pname_ok _ h1.1).run ?_
  simp -implicitDefEqProofs only [go_sem, ↓reduceIte, Nat.reduceLT, Nat.reduceEqDiff, Nat.reduceAdd, Nat.reduceLeDiff, Nat.reduceMul, Nat.reduceSub, Int.natCast_zero, Int.ofNat_zero, Int.natCast_one, Int.cast_ofNat_Int, bne_self_eq_false, beq_self_eq_true, Int.reduceBEq, Int.reduceBNe, Bool.not_true, Bool.not_false, c4, c5, c45, upd_ne, n4, n5, m54, m45]
  refine (among_ok _ algWs .full (by decide) h2.1).run ?_
  simp -implicitDefEqProofs only [go_sem, ↓reduceIte, Nat.reduceLT, Nat.reduceEqDiff, Nat.reduceAdd, Nat.reduceLeDiff, Nat.reduceMul, Nat.reduceSub, Int.natCast_zero, Int.ofNat_zero, Int.natCast_one, Int.cast_ofNat_Int, bne_self_eq_false, beq_self_eq_true, Int.reduceBEq, Int.reduceBNe, Bool.not_true, Bool.not_false, c4, c5, c45, upd_ne, n4, n5, m54, m45]
  refine ht.run ?_
  simp -implicitDefEqProofs only [go_sem, ↓reduceIte, Nat.reduceLT, Nat.reduceEqDiff, Nat.reduceAdd, Nat.reduceLeDiff, Nat.reduceMul, Nat.reduceSub, Int.natCast_zero, Int.ofNat_zero, Int.natCast_one, Int.cast_ofNat_Int, bne_self_eq_false, beq_self_eq_true, Int.reduceBEq, Int.reduceBNe, Bool.not_true, Bool.not_false, c4, c5, c45, upd_ne, n4, n5, m54, m45]
  refine (must_ok _ [123] h4.1).run ?_
  cases ds : ((amongD st kindWs).1 == 2)
  · rw [ds] at hset
    simp -implicitDefEqProofs only [go_sem, ↓reduceIte, Nat.reduceLT, Nat.reduceEqDiff, Nat.reduceAdd, Nat.reduceLeDiff, Nat.reduceMul, Nat.reduceSub, Int.natCast_zero, Int.ofNat_zero, Int.natCast_one, Int.cast_ofNat_Int, bne_self_eq_false, beq_self_eq_true, Int.reduceBEq, Int.reduceBNe, Bool.not_true, Bool.not_false, c4, c5, c45, upd_ne, n4, n5, m54, m45, ds]
    have eb : bodyP (polF r) (r == 0) (headP st).1.1 (headP st).2 = (((someF 17 (headP st).2 []).1, []), (someF 17 (headP st).2 []).2) := by simp [bodyP, hset]
    have hb := ah_body (fun _ h => ah_pol r _ h) (r == 0) (headP st).1.1 h5.1
    obtain ⟨⟨rl, stb⟩, er⟩ : ∃ x, someF 17 (headP st).2 [] = x := ⟨_, rfl⟩
    rw [er] at eb hs
    rw [eb] at hb
    have ho := duties_p _ (ah_must [125] hb.1).1
    simp only [oblsA] at ho hs
    refine hs.run ?_
    simp -implicitDefEqProofs only [go_sem, ↓reduceIte, Nat.reduceLT, Nat.reduceEqDiff, Nat.reduceAdd, Nat.reduceLeDiff, Nat.reduceMul, Nat.reduceSub, Int.natCast_zero, Int.ofNat_zero, Int.natCast_one, Int.cast_ofNat_Int, bne_self_eq_false, beq_self_eq_true, Int.reduceBEq, Int.reduceBNe, Bool.not_true, Bool.not_false, c4, c5, c45, upd_ne, n4, n5, m54, m45]
    refine (must_ok _ [125] hb.1).run ?_
    simp -implicitDefEqProofs only [go_sem, ↓reduceIte, Nat.reduceLT, Nat.reduceEqDiff, Nat.reduceAdd, Nat.reduceLeDiff, Nat.reduceMul, Nat.reduceSub, Int.natCast_zero, Int.ofNat_zero, Int.natCast_one, Int.cast_ofNat_Int, bne_self_eq_false, beq_self_eq_true, Int.reduceBEq, Int.reduceBNe, Bool.not_true, Bool.not_false, c4, c5, c45, upd_ne, n4, n5, m54, m45]
    refine ho.run ?_
    simp -implicitDefEqProofs only [go_sem, ↓reduceIte, Nat.reduceLT, Nat.reduceEqDiff, Nat.reduceAdd, Nat.reduceLeDiff, Nat.reduceMul, Nat.reduceSub, Int.natCast_zero, Int.ofNat_zero, Int.natCast_one, Int.cast_ofNat_Int, bne_self_eq_false, beq_self_eq_true, Int.reduceBEq, Int.reduceBNe, Bool.not_true, Bool.not_false, c4, c5, c45, upd_ne, n4, n5, m54, m45]
    have efin : polF (r + 1) st = (.mk (headP st).1.2.1 false (headP st).1.2.2.1 (headP st).1.2.2.2 rl [] (oblsP (mustD stb [125])).1, (oblsP (mustD stb [125])).2) := by simp only [polF, eb]; rw [hset]
    exact .mk (h' := upd G id (some (PO (oblsP (mustD stb [125])).2))) (polA (.mk (headP st).1.2.1 false (headP st).1.2.2.1 (headP st).1.2.2.2 rl [] (oblsP (mustD stb [125])).1)) (weak_flat _) (Sub.both (by repeat (first | exact .refl _ | refine Sub.put ?_ (by assumption) _)) _ _) ⟨by rw [efin], by rw [efin]⟩
  · rw [ds] at hset
    simp -implicitDefEqProofs only [go_sem, ↓reduceIte, Nat.reduceLT, Nat.reduceEqDiff, Nat.reduceAdd, Nat.reduceLeDiff, Nat.reduceMul, Nat.reduceSub, Int.natCast_zero, Int.ofNat_zero, Int.natCast_one, Int.cast_ofNat_Int, bne_self_eq_false, beq_self_eq_true, Int.reduceBEq, Int.reduceBNe, Bool.not_true, Bool.not_false, c4, c5, c45, upd_ne, n4, n5, m54, m45, ds, w1]
    have eb : bodyP (polF r) (r == 0) (headP st).1.1 (headP st).2 = (([], (kidsF (polF r) (r == 0) 17 (headP st).2 []).1), (kidsF (polF r) (r == 0) 17 (headP st).2 []).2) := by simp [bodyP, hset]
    have hb := ah_body (fun _ h => ah_pol r _ h) (r == 0) (headP st).1.1 h5.1
    rw [← hdp] at hk
    obtain ⟨⟨kl, stb⟩, er⟩ : ∃ x, kidsF (polF r) (r == 0) 17 (headP st).2 [] = x := ⟨_, rfl⟩
    rw [er] at eb hk
    rw [eb] at hb
    have ho := duties_p _ (ah_must [125] hb.1).1
    simp only [oblsA] at ho hk
    refine hk.run ?_
    simp -implicitDefEqProofs only [go_sem, ↓reduceIte, Nat.reduceLT, Nat.reduceEqDiff, Nat.reduceAdd, Nat.reduceLeDiff, Nat.reduceMul, Nat.reduceSub, Int.natCast_zero, Int.ofNat_zero, Int.natCast_one, Int.cast_ofNat_Int, bne_self_eq_false, beq_self_eq_true, Int.reduceBEq, Int.reduceBNe, Bool.not_true, Bool.not_false, c4, c5, c45, upd_ne, n4, n5, m54, m45]
    refine (must_ok _ [125] hb.1).run ?_
    simp -implicitDefEqProofs only [go_sem, ↓reduceIte, Nat.reduceLT, Nat.reduceEqDiff, Nat.reduceAdd, Nat.reduceLeDiff, Nat.reduceMul, Nat.reduceSub, Int.natCast_zero, Int.ofNat_zero, Int.natCast_one, Int.cast_ofNat_Int, bne_self_eq_false, beq_self_eq_true, Int.reduceBEq, Int.reduceBNe, Bool.not_true, Bool.not_false, c4, c5, c45, upd_ne, n4, n5, m54, m45]
    refine ho.run ?_
    simp -implicitDefEqProofs only [go_sem, ↓reduceIte, Nat.reduceLT, Nat.reduceEqDiff, Nat.reduceAdd, Nat.reduceLeDiff, Nat.reduceMul, Nat.reduceSub, Int.natCast_zero, Int.ofNat_zero, Int.natCast_one, Int.cast_ofNat_Int, bne_self_eq_false, beq_self_eq_true, Int.reduceBEq, Int.reduceBNe, Bool.not_true, Bool.not_false, c4, c5, c45, upd_ne, n4, n5, m54, m45]
    have efin : polF (r + 1) st = (.mk (headP st).1.2.1 true (headP st).1.2.2.1 (headP st).1.2.2.2 [] kl (oblsP (mustD stb [125])).1, (oblsP (mustD stb [125])).2) := by simp only [polF, eb]; rw [hset]
    exact .mk (h' := upd G id (some (PO (oblsP (mustD stb [125])).2))) (polA (.mk (headP st).1.2.1 true (headP st).1.2.2.1 (headP st).1.2.2.2 [] kl (oblsP (mustD stb [125])).1)) (by simp only [polA, kidsA_eq]; exact weak_flat _) (Sub.both (by repeat (first | exact .refl _ | refine Sub.put ?_ (by assumption) _)) _ _) ⟨by rw [efin], by rw [efin]⟩

theorem policy_p : ∀ (r d : Nat), r + d = 4 → ∀ st, WfP st → st.rules ≤ 64 → PC 49 [.v (.int .i64 d)] st (polA (polF (r + 1) st).1) (polF (r + 1) st).2
  | 0, d, hrd => fun st hw hr => policy_s 0 d hrd (fun _ _ _ h => absurd h (by omega)) st hw hr
  | r + 1, d, hrd => fun st hw hr => policy_s (r + 1) d hrd (fun st hw hr _ => policy_p r (d + 1) (by omega) st hw hr) st hw hr
end Go.Proofs.YtdcchpbncckhlaaDoor

/- Attributes, values, matches, targets, obligations: which may be. -/
set_option linter.unusedSimpArgs false
set_option linter.unusedVariables false
namespace Go.Proofs.YtdcchpbncckhlaaDoor
open Go Go.Ab Go.Bf

theorem attr_ok (a : AttrD) (h : Heap) : FnOK Tryd.prog 42 [attrA a] h fun r h' => r = .v (.bool (attrOK a)) ∧ h' = h := by
  refine FnOK.body hU hm Tryd.func42 rfl (by kernel_rfl) 16 rfl [.tmp 2] rfl (Nat.le_of_ble_eq_true rfl) (fun hwf => ?_)
  simp -implicitDefEqProofs only [go_sem, ↓reduceIte, Nat.reduceLT, Nat.reduceEqDiff, Nat.reduceAdd, Nat.reduceLeDiff, Nat.reduceMul, Nat.reduceSub, Int.natCast_zero, Int.ofNat_zero, Int.natCast_one, Int.cast_ofNat_Int, bne_self_eq_false, beq_self_eq_true, Int.reduceBEq, Int.reduceBNe, Bool.not_true, Bool.not_false, attrA]
  intro id hid
  cases d1 : decide (1 ≤ a.cat)
  · simp -implicitDefEqProofs only [go_sem, ↓reduceIte, Nat.reduceLT, Nat.reduceEqDiff, Nat.reduceAdd, Nat.reduceLeDiff, Nat.reduceMul, Nat.reduceSub, Int.natCast_zero, Int.ofNat_zero, Int.natCast_one, Int.cast_ofNat_Int, bne_self_eq_false, beq_self_eq_true, Int.reduceBEq, Int.reduceBNe, Bool.not_true, Bool.not_false, d1]
    exact .mk _ (.refl _) (.upd_new hid) ⟨by simp [attrOK, d1, oneOr], rfl⟩
  cases d2 : decide (a.cat ≤ 4)
  · simp -implicitDefEqProofs only [go_sem, ↓reduceIte, Nat.reduceLT, Nat.reduceEqDiff, Nat.reduceAdd, Nat.reduceLeDiff, Nat.reduceMul, Nat.reduceSub, Int.natCast_zero, Int.ofNat_zero, Int.natCast_one, Int.cast_ofNat_Int, bne_self_eq_false, beq_self_eq_true, Int.reduceBEq, Int.reduceBNe, Bool.not_true, Bool.not_false, d1, d2]
    exact .mk _ (.refl _) (.upd_new hid) ⟨by simp [attrOK, d1, d2, oneOr], rfl⟩
  simp -implicitDefEqProofs only [go_sem, ↓reduceIte, Nat.reduceLT, Nat.reduceEqDiff, Nat.reduceAdd, Nat.reduceLeDiff, Nat.reduceMul, Nat.reduceSub, Int.natCast_zero, Int.ofNat_zero, Int.natCast_one, Int.cast_ofNat_Int, bne_self_eq_false, beq_self_eq_true, Int.reduceBEq, Int.reduceBNe, Bool.not_true, Bool.not_false, d1, d2]
  refine (name_ok _ _).pthen ?_
  simp -implicitDefEqProofs only [go_sem, ↓reduceIte, Nat.reduceLT, Nat.reduceEqDiff, Nat.reduceAdd, Nat.reduceLeDiff, Nat.reduceMul, Nat.reduceSub, Int.natCast_zero, Int.ofNat_zero, Int.natCast_one, Int.cast_ofNat_Int, bne_self_eq_false, beq_self_eq_true, Int.reduceBEq, Int.reduceBNe, Bool.not_true, Bool.not_false, d1, d2]
  exact .mk _ (.refl _) (.upd_new hid) ⟨by simp [attrOK, d1, d2, oneOr], rfl⟩

theorem valRight_ok (v : ValD) (h : Heap) : FnOK Tryd.prog 67 [valA v] h fun r h' => r = .v (.bool (valOK v)) ∧ h' = h := by
  refine FnOK.body hU hm Tryd.func67 rfl (by kernel_rfl) 61 rfl [.tmp 2] rfl (Nat.le_of_ble_eq_true rfl) (fun hwf => ?_)
  simp -implicitDefEqProofs only [go_sem, ↓reduceIte, Nat.reduceLT, Nat.reduceEqDiff, Nat.reduceAdd, Nat.reduceLeDiff, Nat.reduceMul, Nat.reduceSub, Int.natCast_zero, Int.ofNat_zero, Int.natCast_one, Int.cast_ofNat_Int, bne_self_eq_false, beq_self_eq_true, Int.reduceBEq, Int.reduceBNe, Bool.not_true, Bool.not_false, valA]
  intro id hid
  cases k1 : (v.kind == 1)
  case true =>
    have e1 : v.kind = 1 := by simpa using k1
    cases d1 : (v.n == 0) <;> cases d2 : (v.n == 1)
    · simp -implicitDefEqProofs only [go_sem, ↓reduceIte, Nat.reduceLT, Nat.reduceEqDiff, Nat.reduceAdd, Nat.reduceLeDiff, Nat.reduceMul, Nat.reduceSub, Int.natCast_zero, Int.ofNat_zero, Int.natCast_one, Int.cast_ofNat_Int, bne_self_eq_false, beq_self_eq_true, Int.reduceBEq, Int.reduceBNe, Bool.not_true, Bool.not_false, k1, d1, d2]
      exact .mk _ (.refl _) (.upd_new hid) ⟨by simp [valOK, e1, d1, d2, oneOr], rfl⟩
    all_goals
      simp -implicitDefEqProofs only [go_sem, ↓reduceIte, Nat.reduceLT, Nat.reduceEqDiff, Nat.reduceAdd, Nat.reduceLeDiff, Nat.reduceMul, Nat.reduceSub, Int.natCast_zero, Int.ofNat_zero, Int.natCast_one, Int.cast_ofNat_Int, bne_self_eq_false, beq_self_eq_true, Int.reduceBEq, Int.reduceBNe, Bool.not_true, Bool.not_false, k1, d1, d2]
      exact .mk _ (.refl _) (.upd_new hid) ⟨by simp [valOK, e1, d1, d2, oneOr], rfl⟩
  have n1 : v.kind ≠ 1 := by simpa using k1
  cases k2 : (v.kind == 2)
  case true =>
    have e1 : v.kind = 2 := by simpa using k2
    simp -implicitDefEqProofs only [go_sem, ↓reduceIte, Nat.reduceLT, Nat.reduceEqDiff, Nat.reduceAdd, Nat.reduceLeDiff, Nat.reduceMul, Nat.reduceSub, Int.natCast_zero, Int.ofNat_zero, Int.natCast_one, Int.cast_ofNat_Int, bne_self_eq_false, beq_self_eq_true, Int.reduceBEq, Int.reduceBNe, Bool.not_true, Bool.not_false, k1, k2]
    exact .mk _ (.refl _) (.upd_new hid) ⟨by simp [valOK, e1, oneOr], rfl⟩
  have n2 : v.kind ≠ 2 := by simpa using k2
  cases k3 : (v.kind == 3)
  case true =>
    have e1 : v.kind = 3 := by simpa using k3
    cases d1 : (v.n == 0)
    all_goals
      simp -implicitDefEqProofs only [go_sem, ↓reduceIte, Nat.reduceLT, Nat.reduceEqDiff, Nat.reduceAdd, Nat.reduceLeDiff, Nat.reduceMul, Nat.reduceSub, Int.natCast_zero, Int.ofNat_zero, Int.natCast_one, Int.cast_ofNat_Int, bne_self_eq_false, beq_self_eq_true, Int.reduceBEq, Int.reduceBNe, Bool.not_true, Bool.not_false, k1, k2, k3, d1]
      exact .mk _ (.refl _) (.upd_new hid) ⟨by simp [valOK, e1, d1, oneOr] <;> omega, rfl⟩
  have n3 : v.kind ≠ 3 := by simpa using k3
  cases k4 : (v.kind == 4)
  case true =>
    have e1 : v.kind = 4 := by simpa using k4
    cases d1 : decide (0 ≤ v.n) <;> cases d2 : decide (v.n ≤ 1099511627776)
    all_goals
      simp -implicitDefEqProofs only [go_sem, ↓reduceIte, Nat.reduceLT, Nat.reduceEqDiff, Nat.reduceAdd, Nat.reduceLeDiff, Nat.reduceMul, Nat.reduceSub, Int.natCast_zero, Int.ofNat_zero, Int.natCast_one, Int.cast_ofNat_Int, bne_self_eq_false, beq_self_eq_true, Int.reduceBEq, Int.reduceBNe, Bool.not_true, Bool.not_false, k1, k2, k3, k4, d1, d2]
      exact .mk _ (.refl _) (.upd_new hid) ⟨by simp [valOK, e1, d1, d2, oneOr], rfl⟩
  have n4 : v.kind ≠ 4 := by simpa using k4
  cases k5 : (v.kind == 5)
  case true =>
    have e1 : v.kind = 5 := by simpa using k5
    cases d1 : (v.n == 0)
    · simp -implicitDefEqProofs only [go_sem, ↓reduceIte, Nat.reduceLT, Nat.reduceEqDiff, Nat.reduceAdd, Nat.reduceLeDiff, Nat.reduceMul, Nat.reduceSub, Int.natCast_zero, Int.ofNat_zero, Int.natCast_one, Int.cast_ofNat_Int, bne_self_eq_false, beq_self_eq_true, Int.reduceBEq, Int.reduceBNe, Bool.not_true, Bool.not_false, k1, k2, k3, k4, k5, d1]
      exact .mk _ (.refl _) (.upd_new hid) ⟨by simp [valOK, e1, d1, oneOr], rfl⟩
    · simp -implicitDefEqProofs only [go_sem, ↓reduceIte, Nat.reduceLT, Nat.reduceEqDiff, Nat.reduceAdd, Nat.reduceLeDiff, Nat.reduceMul, Nat.reduceSub, Int.natCast_zero, Int.ofNat_zero, Int.natCast_one, Int.cast_ofNat_Int, bne_self_eq_false, beq_self_eq_true, Int.reduceBEq, Int.reduceBNe, Bool.not_true, Bool.not_false, k1, k2, k3, k4, k5, d1]
      refine (name_ok _ _).pthen ?_
      simp -implicitDefEqProofs only [go_sem, ↓reduceIte, Nat.reduceLT, Nat.reduceEqDiff, Nat.reduceAdd, Nat.reduceLeDiff, Nat.reduceMul, Nat.reduceSub, Int.natCast_zero, Int.ofNat_zero, Int.natCast_one, Int.cast_ofNat_Int, bne_self_eq_false, beq_self_eq_true, Int.reduceBEq, Int.reduceBNe, Bool.not_true, Bool.not_false, d1]
      exact .mk _ (.refl _) (.upd_new hid) ⟨by simp [valOK, e1, d1, oneOr], rfl⟩
  have n5 : v.kind ≠ 5 := by simpa using k5
  simp -implicitDefEqProofs only [go_sem, ↓reduceIte, Nat.reduceLT, Nat.reduceEqDiff, Nat.reduceAdd, Nat.reduceLeDiff, Nat.reduceMul, Nat.reduceSub, Int.natCast_zero, Int.ofNat_zero, Int.natCast_one, Int.cast_ofNat_Int, bne_self_eq_false, beq_self_eq_true, Int.reduceBEq, Int.reduceBNe, Bool.not_true, Bool.not_false, k1, k2, k3, k4, k5]
  exact .mk _ (.refl _) (.upd_new hid) ⟨by simp [valOK, n1, n2, n3, n4, n5, oneOr], rfl⟩

theorem match_ok (m : MatchD) (h : Heap) : FnOK Tryd.prog 142 [matchA m] h fun r h' => r = .v (.bool (matchOK m)) ∧ h' = h := by
  refine FnOK.body hU hm Tryd.func142 rfl (by kernel_rfl) 21 rfl [.tmp 2] rfl (Nat.le_of_ble_eq_true rfl) (fun hwf => ?_)
  simp -implicitDefEqProofs only [go_sem, ↓reduceIte, Nat.reduceLT, Nat.reduceEqDiff, Nat.reduceAdd, Nat.reduceLeDiff, Nat.reduceMul, Nat.reduceSub, Int.natCast_zero, Int.ofNat_zero, Int.natCast_one, Int.cast_ofNat_Int, bne_self_eq_false, beq_self_eq_true, Int.reduceBEq, Int.reduceBNe, Bool.not_true, Bool.not_false, matchA]
  intro id hid
  simp -implicitDefEqProofs only [go_sem, ↓reduceIte, Nat.reduceLT, Nat.reduceEqDiff, Nat.reduceAdd, Nat.reduceLeDiff, Nat.reduceMul, Nat.reduceSub, Int.natCast_zero, Int.ofNat_zero, Int.natCast_one, Int.cast_ofNat_Int, bne_self_eq_false, beq_self_eq_true, Int.reduceBEq, Int.reduceBNe, Bool.not_true, Bool.not_false]
  refine (attr_ok m.attr _).pthen ?_
  cases d0 : attrOK m.attr
  · simp -implicitDefEqProofs only [go_sem, ↓reduceIte, Nat.reduceLT, Nat.reduceEqDiff, Nat.reduceAdd, Nat.reduceLeDiff, Nat.reduceMul, Nat.reduceSub, Int.natCast_zero, Int.ofNat_zero, Int.natCast_one, Int.cast_ofNat_Int, bne_self_eq_false, beq_self_eq_true, Int.reduceBEq, Int.reduceBNe, Bool.not_true, Bool.not_false, d0]
    exact .mk _ (.refl _) (.upd_new hid) ⟨by simp [matchOK, d0, oneOr], rfl⟩
  cases d1 : decide (1 ≤ m.op)
  · simp -implicitDefEqProofs only [go_sem, ↓reduceIte, Nat.reduceLT, Nat.reduceEqDiff, Nat.reduceAdd, Nat.reduceLeDiff, Nat.reduceMul, Nat.reduceSub, Int.natCast_zero, Int.ofNat_zero, Int.natCast_one, Int.cast_ofNat_Int, bne_self_eq_false, beq_self_eq_true, Int.reduceBEq, Int.reduceBNe, Bool.not_true, Bool.not_false, d0, d1]
    exact .mk _ (.refl _) (.upd_new hid) ⟨by simp [matchOK, d0, d1, oneOr], rfl⟩
  cases d2 : decide (m.op ≤ 3)
  · simp -implicitDefEqProofs only [go_sem, ↓reduceIte, Nat.reduceLT, Nat.reduceEqDiff, Nat.reduceAdd, Nat.reduceLeDiff, Nat.reduceMul, Nat.reduceSub, Int.natCast_zero, Int.ofNat_zero, Int.natCast_one, Int.cast_ofNat_Int, bne_self_eq_false, beq_self_eq_true, Int.reduceBEq, Int.reduceBNe, Bool.not_true, Bool.not_false, d0, d1, d2]
    exact .mk _ (.refl _) (.upd_new hid) ⟨by simp [matchOK, d0, d1, d2, oneOr], rfl⟩
  simp -implicitDefEqProofs only [go_sem, ↓reduceIte, Nat.reduceLT, Nat.reduceEqDiff, Nat.reduceAdd, Nat.reduceLeDiff, Nat.reduceMul, Nat.reduceSub, Int.natCast_zero, Int.ofNat_zero, Int.natCast_one, Int.cast_ofNat_Int, bne_self_eq_false, beq_self_eq_true, Int.reduceBEq, Int.reduceBNe, Bool.not_true, Bool.not_false, d0, d1, d2]
  refine (valRight_ok m.val _).pthen ?_
  simp -implicitDefEqProofs only [go_sem, ↓reduceIte, Nat.reduceLT, Nat.reduceEqDiff, Nat.reduceAdd, Nat.reduceLeDiff, Nat.reduceMul, Nat.reduceSub, Int.natCast_zero, Int.ofNat_zero, Int.natCast_one, Int.cast_ofNat_Int, bne_self_eq_false, beq_self_eq_true, Int.reduceBEq, Int.reduceBNe, Bool.not_true, Bool.not_false, d0, d1, d2]
  exact .mk _ (.refl _) (.upd_new hid) ⟨by simp [matchOK, d0, d1, d2, oneOr], rfl⟩

theorem many_ok (n : Nat) (h : Heap) : FnOK Tryd.prog 129 [.v (.int .i64 n)] h fun r h' => r = .v (.int .i64 (manyE n)) ∧ h' = h := by
  refine FnOK.body hU hm Tryd.func129 rfl (by kernel_rfl) 9 rfl [.tmp 2] rfl (Nat.le_of_ble_eq_true rfl) (fun hwf => ?_)
  cases d1 : ((n : Int) == 0)
  case true =>
    have e1 : n = 0 := by simpa using d1
    simp -implicitDefEqProofs only [go_sem, ↓reduceIte, Nat.reduceLT, Nat.reduceEqDiff, Nat.reduceAdd, Nat.reduceLeDiff, Nat.reduceMul, Nat.reduceSub, Int.natCast_zero, Int.ofNat_zero, Int.natCast_one, Int.cast_ofNat_Int, bne_self_eq_false, beq_self_eq_true, Int.reduceBEq, Int.reduceBNe, Bool.not_true, Bool.not_false, d1]
    exact .same (.refl _) ⟨by simp [manyE, e1, oneOr], rfl⟩
  have e1 : n ≠ 0 := by simpa using d1
  cases d2 : decide (8 < (n : Int))
  · have e2 : ¬ n > 8 := by have := of_decide_eq_false d2; omega
    simp -implicitDefEqProofs only [go_sem, ↓reduceIte, Nat.reduceLT, Nat.reduceEqDiff, Nat.reduceAdd, Nat.reduceLeDiff, Nat.reduceMul, Nat.reduceSub, Int.natCast_zero, Int.ofNat_zero, Int.natCast_one, Int.cast_ofNat_Int, bne_self_eq_false, beq_self_eq_true, Int.reduceBEq, Int.reduceBNe, Bool.not_true, Bool.not_false, d1, d2]
    exact .same (.refl _) ⟨by simp [manyE, e1, e2, oneOr], rfl⟩
  · have e2 : n > 8 := by have := of_decide_eq_true d2; omega
    simp -implicitDefEqProofs only [go_sem, ↓reduceIte, Nat.reduceLT, Nat.reduceEqDiff, Nat.reduceAdd, Nat.reduceLeDiff, Nat.reduceMul, Nat.reduceSub, Int.natCast_zero, Int.ofNat_zero, Int.natCast_one, Int.cast_ofNat_Int, bne_self_eq_false, beq_self_eq_true, Int.reduceBEq, Int.reduceBNe, Bool.not_true, Bool.not_false, d1, d2]
    exact .same (.refl _) ⟨by simp [manyE, e1, e2, oneOr], rfl⟩

theorem manyE_le {n : Nat} (h : manyE n = 0) : 1 ≤ n ∧ n ≤ 8 := by
  unfold manyE at h
  split at h
  · cases h
  · split at h
    · cases h
    · omega

theorem matchA_cells (m : MatchD) : (matchA m).cells.length = 7 := rfl
theorem allOf_ok (l : List MatchD) (h : Heap) : FnOK Tryd.prog 130 [allA l] h fun r h' => r = .v (.int .i64 (allE l)) ∧ h' = h := by
  refine FnOK.body hU hm Tryd.func130 rfl (by kernel_rfl) 22 rfl [.tmp 2] rfl (Nat.le_of_ble_eq_true rfl) (fun hwf => ?_)
  simp -implicitDefEqProofs only [go_sem, ↓reduceIte, Nat.reduceLT, Nat.reduceEqDiff, Nat.reduceAdd, Nat.reduceLeDiff, Nat.reduceMul, Nat.reduceSub, Int.natCast_zero, Int.ofNat_zero, Int.natCast_one, Int.cast_ofNat_Int, bne_self_eq_false, beq_self_eq_true, Int.reduceBEq, Int.reduceBNe, Bool.not_true, Bool.not_false, allA, List.length_map]
  refine (many_ok _ _).pthen ?_
  cases d1 : (manyE l.length != 0)
  case true =>
    have e1 : manyE l.length ≠ 0 := by simpa using d1
    simp -implicitDefEqProofs only [go_sem, ↓reduceIte, Nat.reduceLT, Nat.reduceEqDiff, Nat.reduceAdd, Nat.reduceLeDiff, Nat.reduceMul, Nat.reduceSub, Int.natCast_zero, Int.ofNat_zero, Int.natCast_one, Int.cast_ofNat_Int, bne_self_eq_false, beq_self_eq_true, Int.reduceBEq, Int.reduceBNe, Bool.not_true, Bool.not_false, d1]
    exact .same (.refl _) ⟨by simp [allE, e1, oneOr], rfl⟩
  have e1 : manyE l.length = 0 := by simpa using d1
  have hlen := manyE_le e1
  simp -implicitDefEqProofs only [go_sem, ↓reduceIte, Nat.reduceLT, Nat.reduceEqDiff, Nat.reduceAdd, Nat.reduceLeDiff, Nat.reduceMul, Nat.reduceSub, Int.natCast_zero, Int.ofNat_zero, Int.natCast_one, Int.cast_ofNat_Int, bne_self_eq_false, beq_self_eq_true, Int.reduceBEq, Int.reduceBNe, Bool.not_true, Bool.not_false, d1, List.length_map]
  refine .intro (fun m ρ h' => Ab.Sub h h' ∧ ∃ i : Nat, i ≤ l.length ∧ m = l.length - i ∧ (l.take i).all matchOK = true ∧ lk ρ 12 = some (allA l) ∧ lk ρ 13 = some (.v (.int .i64 l.length)) ∧ lk ρ 14 = some (.v (.int .i64 i))) l.length ?_ ?_
  · refine ⟨.refl _, 0, by omega, rfl, rfl, ?_, ?_, ?_⟩ <;> simp -implicitDefEqProofs only [go_sem, ↓reduceIte, Nat.reduceLT, Nat.reduceEqDiff, Nat.reduceAdd, Nat.reduceLeDiff, Nat.reduceMul, Nat.reduceSub, Int.natCast_zero, Int.ofNat_zero, Int.natCast_one, Int.cast_ofNat_Int, bne_self_eq_false, beq_self_eq_true, Int.reduceBEq, Int.reduceBNe, Bool.not_true, Bool.not_false, allA]
  · rintro m ρ h' ⟨hs, i, hi, rfl, hc, r12, r13, r14⟩
    simp -implicitDefEqProofs only [go_sem, ↓reduceIte, Nat.reduceLT, Nat.reduceEqDiff, Nat.reduceAdd, Nat.reduceLeDiff, Nat.reduceMul, Nat.reduceSub, Int.natCast_zero, Int.ofNat_zero, Int.natCast_one, Int.cast_ofNat_Int, bne_self_eq_false, beq_self_eq_true, Int.reduceBEq, Int.reduceBNe, Bool.not_true, Bool.not_false, r12, r13, r14]
    refine .intro (fun e => ?_) (fun e => ?_)
    · have hlt : i < l.length := Int.ofNat_lt.1 (of_decide_eq_true e)
      have w1 : IntKind.i64.wrap ((i : Int) + 1) = ((i + 1 : Nat) : Int) := by rw [wr64 _ (by omega)]; omega
      simp -implicitDefEqProofs only [go_sem, ↓reduceIte, Nat.reduceLT, Nat.reduceEqDiff, Nat.reduceAdd, Nat.reduceLeDiff, Nat.reduceMul, Nat.reduceSub, Int.natCast_zero, Int.ofNat_zero, Int.natCast_one, Int.cast_ofNat_Int, bne_self_eq_false, beq_self_eq_true, Int.reduceBEq, Int.reduceBNe, Bool.not_true, Bool.not_false, r12, r13, r14, allA]
      refine .at i (by simpa using hlt) (by rw [List.getElem_map]; rfl) ?_
      simp -implicitDefEqProofs only [go_sem, ↓reduceIte, Nat.reduceLT, Nat.reduceEqDiff, Nat.reduceAdd, Nat.reduceLeDiff, Nat.reduceMul, Nat.reduceSub, Int.natCast_zero, Int.ofNat_zero, Int.natCast_one, Int.cast_ofNat_Int, bne_self_eq_false, beq_self_eq_true, Int.reduceBEq, Int.reduceBNe, Bool.not_true, Bool.not_false, r12, r13, r14, List.getElem_map, matchA]
      intro id hid
      simp -implicitDefEqProofs only [go_sem, ↓reduceIte, Nat.reduceLT, Nat.reduceEqDiff, Nat.reduceAdd, Nat.reduceLeDiff, Nat.reduceMul, Nat.reduceSub, Int.natCast_zero, Int.ofNat_zero, Int.natCast_one, Int.cast_ofNat_Int, bne_self_eq_false, beq_self_eq_true, Int.reduceBEq, Int.reduceBNe, Bool.not_true, Bool.not_false, r12, r13, r14]
      refine (match_ok l[i] _).pthen ?_
      cases d2 : matchOK l[i]
      · simp -implicitDefEqProofs only [go_sem, ↓reduceIte, Nat.reduceLT, Nat.reduceEqDiff, Nat.reduceAdd, Nat.reduceLeDiff, Nat.reduceMul, Nat.reduceSub, Int.natCast_zero, Int.ofNat_zero, Int.natCast_one, Int.cast_ofNat_Int, bne_self_eq_false, beq_self_eq_true, Int.reduceBEq, Int.reduceBNe, Bool.not_true, Bool.not_false, r12, r13, r14, d2]
        refine .mk _ (.refl _) (hs.new hid _) ⟨?_, rfl⟩
        have : l.all matchOK = false := List.all_eq_false.2 ⟨_, List.getElem_mem hlt, by simp [d2]⟩
        simp [allE, e1, this, oneOr]
      · simp -implicitDefEqProofs only [go_sem, ↓reduceIte, Nat.reduceLT, Nat.reduceEqDiff, Nat.reduceAdd, Nat.reduceLeDiff, Nat.reduceMul, Nat.reduceSub, Int.natCast_zero, Int.ofNat_zero, Int.natCast_one, Int.cast_ofNat_Int, bne_self_eq_false, beq_self_eq_true, Int.reduceBEq, Int.reduceBNe, Bool.not_true, Bool.not_false, r12, r13, r14, d2, w1]
        refine ⟨_, ?_, hs.new hid _, i + 1, by omega, rfl, ?_, ?_, ?_, ?_⟩
        · omega
        · rw [List.take_succ_eq_append_getElem hlt, List.all_append, hc]; simp [d2]
        all_goals simp -implicitDefEqProofs only [go_sem, ↓reduceIte, Nat.reduceLT, Nat.reduceEqDiff, Nat.reduceAdd, Nat.reduceLeDiff, Nat.reduceMul, Nat.reduceSub, Int.natCast_zero, Int.ofNat_zero, Int.natCast_one, Int.cast_ofNat_Int, bne_self_eq_false, beq_self_eq_true, Int.reduceBEq, Int.reduceBNe, Bool.not_true, Bool.not_false, r12, r13, r14, w1, allA]
    · have hge : i = l.length := by have := of_decide_eq_false e; omega
      subst hge
      rw [List.take_length] at hc
      simp -implicitDefEqProofs only [go_sem, ↓reduceIte, Nat.reduceLT, Nat.reduceEqDiff, Nat.reduceAdd, Nat.reduceLeDiff, Nat.reduceMul, Nat.reduceSub, Int.natCast_zero, Int.ofNat_zero, Int.natCast_one, Int.cast_ofNat_Int, bne_self_eq_false, beq_self_eq_true, Int.reduceBEq, Int.reduceBNe, Bool.not_true, Bool.not_false, r12, r13, r14]
      exact .mk _ (.refl _) hs ⟨by simp [allE, e1, hc, oneOr], rfl⟩
end Go.Proofs.YtdcchpbncckhlaaDoor

/- AnyOfs, targets, obligations: which may be. -/
set_option linter.unusedSimpArgs false
set_option linter.unusedVariables false
namespace Go.Proofs.YtdcchpbncckhlaaDoor
open Go Go.Ab Go.Bf

theorem anyOf_ok (l : List (List MatchD)) (h : Heap) : FnOK Tryd.prog 116 [anyA l] h fun r h' => r = .v (.int .i64 (anyE l)) ∧ h' = h := by
  refine FnOK.body hU hm Tryd.func116 rfl (by kernel_rfl) 25 rfl [.tmp 2] rfl (Nat.le_of_ble_eq_true rfl) (fun hwf => ?_)
  simp -implicitDefEqProofs only [go_sem, ↓reduceIte, Nat.reduceLT, Nat.reduceEqDiff, Nat.reduceAdd, Nat.reduceLeDiff, Nat.reduceMul, Nat.reduceSub, Int.natCast_zero, Int.ofNat_zero, Int.natCast_one, Int.cast_ofNat_Int, bne_self_eq_false, beq_self_eq_true, Int.reduceBEq, Int.reduceBNe, Bool.not_true, Bool.not_false, anyA, List.length_map]
  refine (many_ok _ _).pthen ?_
  cases d1 : (manyE l.length != 0)
  case true =>
    have e1 : manyE l.length ≠ 0 := by simpa using d1
    simp -implicitDefEqProofs only [go_sem, ↓reduceIte, Nat.reduceLT, Nat.reduceEqDiff, Nat.reduceAdd, Nat.reduceLeDiff, Nat.reduceMul, Nat.reduceSub, Int.natCast_zero, Int.ofNat_zero, Int.natCast_one, Int.cast_ofNat_Int, bne_self_eq_false, beq_self_eq_true, Int.reduceBEq, Int.reduceBNe, Bool.not_true, Bool.not_false, d1]
    exact .same (.refl _) ⟨by simp [anyE, e1, oneOr], rfl⟩
  have e1 : manyE l.length = 0 := by simpa using d1
  have hlen := manyE_le e1
  simp -implicitDefEqProofs only [go_sem, ↓reduceIte, Nat.reduceLT, Nat.reduceEqDiff, Nat.reduceAdd, Nat.reduceLeDiff, Nat.reduceMul, Nat.reduceSub, Int.natCast_zero, Int.ofNat_zero, Int.natCast_one, Int.cast_ofNat_Int, bne_self_eq_false, beq_self_eq_true, Int.reduceBEq, Int.reduceBNe, Bool.not_true, Bool.not_false, d1, List.length_map]
  refine .intro (fun m ρ h' => Ab.Sub h h' ∧ ∃ i : Nat, i ≤ l.length ∧ m = l.length - i ∧ firstE allE (l.take i) = 0 ∧ lk ρ 13 = some (anyA l) ∧ lk ρ 14 = some (.v (.int .i64 l.length)) ∧ lk ρ 15 = some (.v (.int .i64 i))) l.length ?_ ?_
  · refine ⟨.refl _, 0, by omega, rfl, rfl, ?_, ?_, ?_⟩ <;> simp -implicitDefEqProofs only [go_sem, ↓reduceIte, Nat.reduceLT, Nat.reduceEqDiff, Nat.reduceAdd, Nat.reduceLeDiff, Nat.reduceMul, Nat.reduceSub, Int.natCast_zero, Int.ofNat_zero, Int.natCast_one, Int.cast_ofNat_Int, bne_self_eq_false, beq_self_eq_true, Int.reduceBEq, Int.reduceBNe, Bool.not_true, Bool.not_false, anyA]
  · rintro m ρ h' ⟨hs, i, hi, rfl, hc, r12, r13, r14⟩
    simp -implicitDefEqProofs only [go_sem, ↓reduceIte, Nat.reduceLT, Nat.reduceEqDiff, Nat.reduceAdd, Nat.reduceLeDiff, Nat.reduceMul, Nat.reduceSub, Int.natCast_zero, Int.ofNat_zero, Int.natCast_one, Int.cast_ofNat_Int, bne_self_eq_false, beq_self_eq_true, Int.reduceBEq, Int.reduceBNe, Bool.not_true, Bool.not_false, r12, r13, r14]
    refine .intro (fun e => ?_) (fun e => ?_)
    · have hlt : i < l.length := Int.ofNat_lt.1 (of_decide_eq_true e)
      have w1 : IntKind.i64.wrap ((i : Int) + 1) = ((i + 1 : Nat) : Int) := by rw [wr64 _ (by omega)]; omega
      simp -implicitDefEqProofs only [go_sem, ↓reduceIte, Nat.reduceLT, Nat.reduceEqDiff, Nat.reduceAdd, Nat.reduceLeDiff, Nat.reduceMul, Nat.reduceSub, Int.natCast_zero, Int.ofNat_zero, Int.natCast_one, Int.cast_ofNat_Int, bne_self_eq_false, beq_self_eq_true, Int.reduceBEq, Int.reduceBNe, Bool.not_true, Bool.not_false, r12, r13, r14, anyA]
      refine .at i (by simpa using hlt) (by rw [List.getElem_map]; rfl) ?_
      simp -implicitDefEqProofs only [go_sem, ↓reduceIte, Nat.reduceLT, Nat.reduceEqDiff, Nat.reduceAdd, Nat.reduceLeDiff, Nat.reduceMul, Nat.reduceSub, Int.natCast_zero, Int.ofNat_zero, Int.natCast_one, Int.cast_ofNat_Int, bne_self_eq_false, beq_self_eq_true, Int.reduceBEq, Int.reduceBNe, Bool.not_true, Bool.not_false, r12, r13, r14, List.getElem_map, allA]
      refine (allOf_ok l[i] _).pthen ?_
      cases d2 : (allE l[i] != 0)
      · have e2 : allE l[i] = 0 := by simpa using d2
        simp -implicitDefEqProofs only [go_sem, ↓reduceIte, Nat.reduceLT, Nat.reduceEqDiff, Nat.reduceAdd, Nat.reduceLeDiff, Nat.reduceMul, Nat.reduceSub, Int.natCast_zero, Int.ofNat_zero, Int.natCast_one, Int.cast_ofNat_Int, bne_self_eq_false, beq_self_eq_true, Int.reduceBEq, Int.reduceBNe, Bool.not_true, Bool.not_false, r12, r13, r14, d2, w1]
        refine ⟨_, ?_, hs, i + 1, by omega, rfl, firstE_take hlt hc e2, ?_, ?_, ?_⟩
        · omega
        all_goals simp -implicitDefEqProofs only [go_sem, ↓reduceIte, Nat.reduceLT, Nat.reduceEqDiff, Nat.reduceAdd, Nat.reduceLeDiff, Nat.reduceMul, Nat.reduceSub, Int.natCast_zero, Int.ofNat_zero, Int.natCast_one, Int.cast_ofNat_Int, bne_self_eq_false, beq_self_eq_true, Int.reduceBEq, Int.reduceBNe, Bool.not_true, Bool.not_false, r12, r13, r14, w1, anyA]
      · have e2 : allE l[i] ≠ 0 := by simpa using d2
        simp -implicitDefEqProofs only [go_sem, ↓reduceIte, Nat.reduceLT, Nat.reduceEqDiff, Nat.reduceAdd, Nat.reduceLeDiff, Nat.reduceMul, Nat.reduceSub, Int.natCast_zero, Int.ofNat_zero, Int.natCast_one, Int.cast_ofNat_Int, bne_self_eq_false, beq_self_eq_true, Int.reduceBEq, Int.reduceBNe, Bool.not_true, Bool.not_false, r12, r13, r14, d2]
        refine .mk _ (.refl _) hs ⟨?_, rfl⟩
        simp [anyE, e1, firstE_at hlt hc e2, oneOr]
    · have hge : i = l.length := by have := of_decide_eq_false e; omega
      subst hge
      rw [List.take_length] at hc
      simp -implicitDefEqProofs only [go_sem, ↓reduceIte, Nat.reduceLT, Nat.reduceEqDiff, Nat.reduceAdd, Nat.reduceLeDiff, Nat.reduceMul, Nat.reduceSub, Int.natCast_zero, Int.ofNat_zero, Int.natCast_one, Int.cast_ofNat_Int, bne_self_eq_false, beq_self_eq_true, Int.reduceBEq, Int.reduceBNe, Bool.not_true, Bool.not_false, r12, r13, r14]
      exact .mk _ (.refl _) hs ⟨by simp [anyE, e1, hc, oneOr], rfl⟩

theorem target_ok (l : TgtD) (h : Heap) : FnOK Tryd.prog 100 [tgtA l] h fun r h' => r = .v (.int .i64 (tgtE l)) ∧ h' = h := by
  refine FnOK.body hU hm Tryd.func100 rfl (by kernel_rfl) 21 rfl [.tmp 2] rfl (Nat.le_of_ble_eq_true rfl) (fun hwf => ?_)
  cases d1 : decide (8 < (l.length : Int))
  case true =>
    have e1 : 8 < l.length := by have := of_decide_eq_true d1; omega
    simp -implicitDefEqProofs only [go_sem, ↓reduceIte, Nat.reduceLT, Nat.reduceEqDiff, Nat.reduceAdd, Nat.reduceLeDiff, Nat.reduceMul, Nat.reduceSub, Int.natCast_zero, Int.ofNat_zero, Int.natCast_one, Int.cast_ofNat_Int, bne_self_eq_false, beq_self_eq_true, Int.reduceBEq, Int.reduceBNe, Bool.not_true, Bool.not_false, tgtA, List.length_map, d1]
    exact .same (.refl _) ⟨by simp [tgtE, e1, oneOr], rfl⟩
  have e1 : ¬ 8 < l.length := by have := of_decide_eq_false d1; omega
  simp -implicitDefEqProofs only [go_sem, ↓reduceIte, Nat.reduceLT, Nat.reduceEqDiff, Nat.reduceAdd, Nat.reduceLeDiff, Nat.reduceMul, Nat.reduceSub, Int.natCast_zero, Int.ofNat_zero, Int.natCast_one, Int.cast_ofNat_Int, bne_self_eq_false, beq_self_eq_true, Int.reduceBEq, Int.reduceBNe, Bool.not_true, Bool.not_false, d1, tgtA, List.length_map]
  refine .intro (fun m ρ h' => Ab.Sub h h' ∧ ∃ i : Nat, i ≤ l.length ∧ m = l.length - i ∧ firstE anyE (l.take i) = 0 ∧ lk ρ 9 = some (tgtA l) ∧ lk ρ 10 = some (.v (.int .i64 l.length)) ∧ lk ρ 11 = some (.v (.int .i64 i))) l.length ?_ ?_
  · refine ⟨.refl _, 0, by omega, rfl, rfl, ?_, ?_, ?_⟩ <;> simp -implicitDefEqProofs only [go_sem, ↓reduceIte, Nat.reduceLT, Nat.reduceEqDiff, Nat.reduceAdd, Nat.reduceLeDiff, Nat.reduceMul, Nat.reduceSub, Int.natCast_zero, Int.ofNat_zero, Int.natCast_one, Int.cast_ofNat_Int, bne_self_eq_false, beq_self_eq_true, Int.reduceBEq, Int.reduceBNe, Bool.not_true, Bool.not_false, tgtA]
  · rintro m ρ h' ⟨hs, i, hi, rfl, hc, r12, r13, r14⟩
    simp -implicitDefEqProofs only [go_sem, ↓reduceIte, Nat.reduceLT, Nat.reduceEqDiff, Nat.reduceAdd, Nat.reduceLeDiff, Nat.reduceMul, Nat.reduceSub, Int.natCast_zero, Int.ofNat_zero, Int.natCast_one, Int.cast_ofNat_Int, bne_self_eq_false, beq_self_eq_true, Int.reduceBEq, Int.reduceBNe, Bool.not_true, Bool.not_false, r12, r13, r14]
    refine .intro (fun e => ?_) (fun e => ?_)
    · have hlt : i < l.length := Int.ofNat_lt.1 (of_decide_eq_true e)
      have w1 : IntKind.i64.wrap ((i : Int) + 1) = ((i + 1 : Nat) : Int) := by rw [wr64 _ (by omega)]; omega
      simp -implicitDefEqProofs only [go_sem, ↓reduceIte, Nat.reduceLT, Nat.reduceEqDiff, Nat.reduceAdd, Nat.reduceLeDiff, Nat.reduceMul, Nat.reduceSub, Int.natCast_zero, Int.ofNat_zero, Int.natCast_one, Int.cast_ofNat_Int, bne_self_eq_false, beq_self_eq_true, Int.reduceBEq, Int.reduceBNe, Bool.not_true, Bool.not_false, r12, r13, r14, tgtA]
      refine .at i (by simpa using hlt) (by rw [List.getElem_map]; rfl) ?_
      simp -implicitDefEqProofs only [go_sem, ↓reduceIte, Nat.reduceLT, Nat.reduceEqDiff, Nat.reduceAdd, Nat.reduceLeDiff, Nat.reduceMul, Nat.reduceSub, Int.natCast_zero, Int.ofNat_zero, Int.natCast_one, Int.cast_ofNat_Int, bne_self_eq_false, beq_self_eq_true, Int.reduceBEq, Int.reduceBNe, Bool.not_true, Bool.not_false, r12, r13, r14, List.getElem_map, anyA]
      refine (anyOf_ok l[i] _).pthen ?_
      cases d2 : (anyE l[i] != 0)
      · have e2 : anyE l[i] = 0 := by simpa using d2
        simp -implicitDefEqProofs only [go_sem, ↓reduceIte, Nat.reduceLT, Nat.reduceEqDiff, Nat.reduceAdd, Nat.reduceLeDiff, Nat.reduceMul, Nat.reduceSub, Int.natCast_zero, Int.ofNat_zero, Int.natCast_one, Int.cast_ofNat_Int, bne_self_eq_false, beq_self_eq_true, Int.reduceBEq, Int.reduceBNe, Bool.not_true, Bool.not_false, r12, r13, r14, d2, w1]
        refine ⟨_, ?_, hs, i + 1, by omega, rfl, firstE_take hlt hc e2, ?_, ?_, ?_⟩
        · omega
        all_goals simp -implicitDefEqProofs only [go_sem, ↓reduceIte, Nat.reduceLT, Nat.reduceEqDiff, Nat.reduceAdd, Nat.reduceLeDiff, Nat.reduceMul, Nat.reduceSub, Int.natCast_zero, Int.ofNat_zero, Int.natCast_one, Int.cast_ofNat_Int, bne_self_eq_false, beq_self_eq_true, Int.reduceBEq, Int.reduceBNe, Bool.not_true, Bool.not_false, r12, r13, r14, w1, tgtA]
      · have e2 : anyE l[i] ≠ 0 := by simpa using d2
        simp -implicitDefEqProofs only [go_sem, ↓reduceIte, Nat.reduceLT, Nat.reduceEqDiff, Nat.reduceAdd, Nat.reduceLeDiff, Nat.reduceMul, Nat.reduceSub, Int.natCast_zero, Int.ofNat_zero, Int.natCast_one, Int.cast_ofNat_Int, bne_self_eq_false, beq_self_eq_true, Int.reduceBEq, Int.reduceBNe, Bool.not_true, Bool.not_false, r12, r13, r14, d2]
        refine .mk _ (.refl _) hs ⟨?_, rfl⟩
        simp [tgtE, e1, firstE_at hlt hc e2, oneOr]
    · have hge : i = l.length := by have := of_decide_eq_false e; omega
      subst hge
      rw [List.take_length] at hc
      simp -implicitDefEqProofs only [go_sem, ↓reduceIte, Nat.reduceLT, Nat.reduceEqDiff, Nat.reduceAdd, Nat.reduceLeDiff, Nat.reduceMul, Nat.reduceSub, Int.natCast_zero, Int.ofNat_zero, Int.natCast_one, Int.cast_ofNat_Int, bne_self_eq_false, beq_self_eq_true, Int.reduceBEq, Int.reduceBNe, Bool.not_true, Bool.not_false, r12, r13, r14]
      exact .mk _ (.refl _) hs ⟨by simp [tgtE, e1, hc, oneOr], rfl⟩

theorem obls_ok (l : List OblD) (h : Heap) : FnOK Tryd.prog 101 [oblsA l] h fun r h' => r = .v (.int .i64 (oblsE l)) ∧ h' = h := by
  refine FnOK.body hU hm Tryd.func101 rfl (by kernel_rfl) 39 rfl [.tmp 2] rfl (Nat.le_of_ble_eq_true rfl) (fun hwf => ?_)
  cases d1 : decide (8 < (l.length : Int))
  case true =>
    have e1 : 8 < l.length := by have := of_decide_eq_true d1; omega
    simp -implicitDefEqProofs only [go_sem, ↓reduceIte, Nat.reduceLT, Nat.reduceEqDiff, Nat.reduceAdd, Nat.reduceLeDiff, Nat.reduceMul, Nat.reduceSub, Int.natCast_zero, Int.ofNat_zero, Int.natCast_one, Int.cast_ofNat_Int, bne_self_eq_false, beq_self_eq_true, Int.reduceBEq, Int.reduceBNe, Bool.not_true, Bool.not_false, oblsA, List.length_map, d1]
    exact .same (.refl _) ⟨by simp [oblsE, e1, oneOr], rfl⟩
  have e1 : ¬ 8 < l.length := by have := of_decide_eq_false d1; omega
  simp -implicitDefEqProofs only [go_sem, ↓reduceIte, Nat.reduceLT, Nat.reduceEqDiff, Nat.reduceAdd, Nat.reduceLeDiff, Nat.reduceMul, Nat.reduceSub, Int.natCast_zero, Int.ofNat_zero, Int.natCast_one, Int.cast_ofNat_Int, bne_self_eq_false, beq_self_eq_true, Int.reduceBEq, Int.reduceBNe, Bool.not_true, Bool.not_false, d1, oblsA, List.length_map]
  refine .intro (fun m ρ h' => Ab.Sub h h' ∧ ∃ i : Nat, i ≤ l.length ∧ m = l.length - i ∧ (l.take i).all oblOK = true ∧ lk ρ 8 = some (oblsA l) ∧ lk ρ 9 = some (.v (.int .i64 l.length)) ∧ lk ρ 10 = some (.v (.int .i64 i))) l.length ?_ ?_
  · refine ⟨.refl _, 0, by omega, rfl, rfl, ?_, ?_, ?_⟩ <;> simp -implicitDefEqProofs only [go_sem, ↓reduceIte, Nat.reduceLT, Nat.reduceEqDiff, Nat.reduceAdd, Nat.reduceLeDiff, Nat.reduceMul, Nat.reduceSub, Int.natCast_zero, Int.ofNat_zero, Int.natCast_one, Int.cast_ofNat_Int, bne_self_eq_false, beq_self_eq_true, Int.reduceBEq, Int.reduceBNe, Bool.not_true, Bool.not_false, oblsA]
  · rintro m ρ h' ⟨hs, i, hi, rfl, hc, r12, r13, r14⟩
    simp -implicitDefEqProofs only [go_sem, ↓reduceIte, Nat.reduceLT, Nat.reduceEqDiff, Nat.reduceAdd, Nat.reduceLeDiff, Nat.reduceMul, Nat.reduceSub, Int.natCast_zero, Int.ofNat_zero, Int.natCast_one, Int.cast_ofNat_Int, bne_self_eq_false, beq_self_eq_true, Int.reduceBEq, Int.reduceBNe, Bool.not_true, Bool.not_false, r12, r13, r14]
    refine .intro (fun e => ?_) (fun e => ?_)
    · have hlt : i < l.length := Int.ofNat_lt.1 (of_decide_eq_true e)
      have w1 : IntKind.i64.wrap ((i : Int) + 1) = ((i + 1 : Nat) : Int) := by rw [wr64 _ (by omega)]; omega
      simp -implicitDefEqProofs only [go_sem, ↓reduceIte, Nat.reduceLT, Nat.reduceEqDiff, Nat.reduceAdd, Nat.reduceLeDiff, Nat.reduceMul, Nat.reduceSub, Int.natCast_zero, Int.ofNat_zero, Int.natCast_one, Int.cast_ofNat_Int, bne_self_eq_false, beq_self_eq_true, Int.reduceBEq, Int.reduceBNe, Bool.not_true, Bool.not_false, r12, r13, r14, oblsA]
      refine .at i (by simpa using hlt) (by rw [List.getElem_map]; rfl) ?_
      simp -implicitDefEqProofs only [go_sem, ↓reduceIte, Nat.reduceLT, Nat.reduceEqDiff, Nat.reduceAdd, Nat.reduceLeDiff, Nat.reduceMul, Nat.reduceSub, Int.natCast_zero, Int.ofNat_zero, Int.natCast_one, Int.cast_ofNat_Int, bne_self_eq_false, beq_self_eq_true, Int.reduceBEq, Int.reduceBNe, Bool.not_true, Bool.not_false, r12, r13, r14, List.getElem_map, oblA]
      intro id hid
      have bad : oblOK l[i] = false → oblsE l = 1 := fun hb => by
        have : l.all oblOK = false := List.all_eq_false.2 ⟨_, List.getElem_mem hlt, by simp [hb]⟩
        simp [oblsE, e1, this]
      cases c1 : decide (l[i].on < 1)
      case true =>
        simp -implicitDefEqProofs only [go_sem, ↓reduceIte, Nat.reduceLT, Nat.reduceEqDiff, Nat.reduceAdd, Nat.reduceLeDiff, Nat.reduceMul, Nat.reduceSub, Int.natCast_zero, Int.ofNat_zero, Int.natCast_one, Int.cast_ofNat_Int, bne_self_eq_false, beq_self_eq_true, Int.reduceBEq, Int.reduceBNe, Bool.not_true, Bool.not_false, r12, r13, r14, c1]
        exact .mk _ (.refl _) (hs.new hid _) ⟨by rw [bad (by have := of_decide_eq_true c1; simp [oblOK]; omega)]; rfl, rfl⟩
      cases c2 : decide (2 < l[i].on)
      case true =>
        simp -implicitDefEqProofs only [go_sem, ↓reduceIte, Nat.reduceLT, Nat.reduceEqDiff, Nat.reduceAdd, Nat.reduceLeDiff, Nat.reduceMul, Nat.reduceSub, Int.natCast_zero, Int.ofNat_zero, Int.natCast_one, Int.cast_ofNat_Int, bne_self_eq_false, beq_self_eq_true, Int.reduceBEq, Int.reduceBNe, Bool.not_true, Bool.not_false, r12, r13, r14, c1, c2]
        exact .mk _ (.refl _) (hs.new hid _) ⟨by rw [bad (by have := of_decide_eq_true c2; simp [oblOK]; omega)]; rfl, rfl⟩
      cases c3 : decide (l[i].kind < 1)
      case true =>
        simp -implicitDefEqProofs only [go_sem, ↓reduceIte, Nat.reduceLT, Nat.reduceEqDiff, Nat.reduceAdd, Nat.reduceLeDiff, Nat.reduceMul, Nat.reduceSub, Int.natCast_zero, Int.ofNat_zero, Int.natCast_one, Int.cast_ofNat_Int, bne_self_eq_false, beq_self_eq_true, Int.reduceBEq, Int.reduceBNe, Bool.not_true, Bool.not_false, r12, r13, r14, c1, c2, c3]
        exact .mk _ (.refl _) (hs.new hid _) ⟨by rw [bad (by have := of_decide_eq_true c3; simp [oblOK]; omega)]; rfl, rfl⟩
      cases c4 : decide (4 < l[i].kind)
      case true =>
        simp -implicitDefEqProofs only [go_sem, ↓reduceIte, Nat.reduceLT, Nat.reduceEqDiff, Nat.reduceAdd, Nat.reduceLeDiff, Nat.reduceMul, Nat.reduceSub, Int.natCast_zero, Int.ofNat_zero, Int.natCast_one, Int.cast_ofNat_Int, bne_self_eq_false, beq_self_eq_true, Int.reduceBEq, Int.reduceBNe, Bool.not_true, Bool.not_false, r12, r13, r14, c1, c2, c3, c4]
        exact .mk _ (.refl _) (hs.new hid _) ⟨by rw [bad (by have := of_decide_eq_true c4; simp [oblOK]; omega)]; rfl, rfl⟩
      simp -implicitDefEqProofs only [go_sem, ↓reduceIte, Nat.reduceLT, Nat.reduceEqDiff, Nat.reduceAdd, Nat.reduceLeDiff, Nat.reduceMul, Nat.reduceSub, Int.natCast_zero, Int.ofNat_zero, Int.natCast_one, Int.cast_ofNat_Int, bne_self_eq_false, beq_self_eq_true, Int.reduceBEq, Int.reduceBNe, Bool.not_true, Bool.not_false, r12, r13, r14, c1, c2, c3, c4]
      refine (name_ok _ _).pthen ?_
      cases d2 : nameOK l[i].arg
      · simp -implicitDefEqProofs only [go_sem, ↓reduceIte, Nat.reduceLT, Nat.reduceEqDiff, Nat.reduceAdd, Nat.reduceLeDiff, Nat.reduceMul, Nat.reduceSub, Int.natCast_zero, Int.ofNat_zero, Int.natCast_one, Int.cast_ofNat_Int, bne_self_eq_false, beq_self_eq_true, Int.reduceBEq, Int.reduceBNe, Bool.not_true, Bool.not_false, r12, r13, r14, d2]
        exact .mk _ (.refl _) (hs.new hid _) ⟨by rw [bad (by simp [oblOK, d2])]; rfl, rfl⟩
      · simp -implicitDefEqProofs only [go_sem, ↓reduceIte, Nat.reduceLT, Nat.reduceEqDiff, Nat.reduceAdd, Nat.reduceLeDiff, Nat.reduceMul, Nat.reduceSub, Int.natCast_zero, Int.ofNat_zero, Int.natCast_one, Int.cast_ofNat_Int, bne_self_eq_false, beq_self_eq_true, Int.reduceBEq, Int.reduceBNe, Bool.not_true, Bool.not_false, r12, r13, r14, d2, w1]
        refine ⟨_, ?_, hs.new hid _, i + 1, by omega, rfl, ?_, ?_, ?_, ?_⟩
        · omega
        · have f1 := of_decide_eq_false c1
          have f2 := of_decide_eq_false c2
          have f3 := of_decide_eq_false c3
          have f4 := of_decide_eq_false c4
          rw [List.take_succ_eq_append_getElem hlt, List.all_append, hc]; simp [oblOK, d2]; omega
        all_goals simp -implicitDefEqProofs only [go_sem, ↓reduceIte, Nat.reduceLT, Nat.reduceEqDiff, Nat.reduceAdd, Nat.reduceLeDiff, Nat.reduceMul, Nat.reduceSub, Int.natCast_zero, Int.ofNat_zero, Int.natCast_one, Int.cast_ofNat_Int, bne_self_eq_false, beq_self_eq_true, Int.reduceBEq, Int.reduceBNe, Bool.not_true, Bool.not_false, r12, r13, r14, w1, oblsA]
    · have hge : i = l.length := by have := of_decide_eq_false e; omega
      subst hge
      rw [List.take_length] at hc
      simp -implicitDefEqProofs only [go_sem, ↓reduceIte, Nat.reduceLT, Nat.reduceEqDiff, Nat.reduceAdd, Nat.reduceLeDiff, Nat.reduceMul, Nat.reduceSub, Int.natCast_zero, Int.ofNat_zero, Int.natCast_one, Int.cast_ofNat_Int, bne_self_eq_false, beq_self_eq_true, Int.reduceBEq, Int.reduceBNe, Bool.not_true, Bool.not_false, r12, r13, r14]
      exact .mk _ (.refl _) hs ⟨by simp [oblsE, e1, hc, oneOr], rfl⟩
end Go.Proofs.YtdcchpbncckhlaaDoor

/- Expressions: which may be. -/
set_option linter.unusedSimpArgs false
set_option linter.unusedVariables false
namespace Go.Proofs.YtdcchpbncckhlaaDoor
open Go Go.Ab Go.Bf

theorem wants_ok (op : Int) (h : Heap) : FnOK Tryd.prog 92 [.v (.int .i64 op)] h fun r h' => r = (match wantsD op with
    | none => .tup [.sl [] .no, .v (.bool false)]
    | some w => .tup [.sl (w.map boolA) .no, .v (.bool true)]) ∧ h' = h := by
  refine FnOK.body hU hm Tryd.func92 rfl (by kernel_rfl) 35 rfl [.tmp 2, .tmp 3] rfl (Nat.le_of_ble_eq_true rfl) (fun hwf => ?_)
  cases k1 : (op == 1)
  case true =>
    have e1 : op = 1 := by simpa using k1
    simp -implicitDefEqProofs only [go_sem, ↓reduceIte, Nat.reduceLT, Nat.reduceEqDiff, Nat.reduceAdd, Nat.reduceLeDiff, Nat.reduceMul, Nat.reduceSub, Int.natCast_zero, Int.ofNat_zero, Int.natCast_one, Int.cast_ofNat_Int, bne_self_eq_false, beq_self_eq_true, Int.reduceBEq, Int.reduceBNe, Bool.not_true, Bool.not_false, k1]
    exact .mk _ (weak_strip _) (.refl _) ⟨by simp [wantsD, e1, oneOr, strip, stripL, boolA], rfl⟩
  have n1 : op ≠ 1 := by simpa using k1
  cases k2 : (op == 2)
  case true =>
    have e1 : op = 2 := by simpa using k2
    simp -implicitDefEqProofs only [go_sem, ↓reduceIte, Nat.reduceLT, Nat.reduceEqDiff, Nat.reduceAdd, Nat.reduceLeDiff, Nat.reduceMul, Nat.reduceSub, Int.natCast_zero, Int.ofNat_zero, Int.natCast_one, Int.cast_ofNat_Int, bne_self_eq_false, beq_self_eq_true, Int.reduceBEq, Int.reduceBNe, Bool.not_true, Bool.not_false, k1, k2]
    exact .mk _ (weak_strip _) (.refl _) ⟨by simp [wantsD, e1, oneOr, strip, stripL, boolA], rfl⟩
  have n2 : op ≠ 2 := by simpa using k2
  cases k3 : (op == 3)
  case true =>
    have e1 : op = 3 := by simpa using k3
    simp -implicitDefEqProofs only [go_sem, ↓reduceIte, Nat.reduceLT, Nat.reduceEqDiff, Nat.reduceAdd, Nat.reduceLeDiff, Nat.reduceMul, Nat.reduceSub, Int.natCast_zero, Int.ofNat_zero, Int.natCast_one, Int.cast_ofNat_Int, bne_self_eq_false, beq_self_eq_true, Int.reduceBEq, Int.reduceBNe, Bool.not_true, Bool.not_false, k1, k2, k3]
    exact .mk _ (weak_strip _) (.refl _) ⟨by simp [wantsD, e1, oneOr, strip, stripL, boolA], rfl⟩
  have n3 : op ≠ 3 := by simpa using k3
  cases k4 : (op == 4)
  case true =>
    have e1 : op = 4 := by simpa using k4
    simp -implicitDefEqProofs only [go_sem, ↓reduceIte, Nat.reduceLT, Nat.reduceEqDiff, Nat.reduceAdd, Nat.reduceLeDiff, Nat.reduceMul, Nat.reduceSub, Int.natCast_zero, Int.ofNat_zero, Int.natCast_one, Int.cast_ofNat_Int, bne_self_eq_false, beq_self_eq_true, Int.reduceBEq, Int.reduceBNe, Bool.not_true, Bool.not_false, k1, k2, k3, k4]
    exact .mk _ (weak_strip _) (.refl _) ⟨by simp [wantsD, e1, oneOr, strip, stripL, boolA], rfl⟩
  have n4 : op ≠ 4 := by simpa using k4
  cases k5 : (op == 5)
  case true =>
    have e1 : op = 5 := by simpa using k5
    simp -implicitDefEqProofs only [go_sem, ↓reduceIte, Nat.reduceLT, Nat.reduceEqDiff, Nat.reduceAdd, Nat.reduceLeDiff, Nat.reduceMul, Nat.reduceSub, Int.natCast_zero, Int.ofNat_zero, Int.natCast_one, Int.cast_ofNat_Int, bne_self_eq_false, beq_self_eq_true, Int.reduceBEq, Int.reduceBNe, Bool.not_true, Bool.not_false, k1, k2, k3, k4, k5]
    exact .mk _ (weak_strip _) (.refl _) ⟨by simp [wantsD, e1, oneOr, strip, stripL, boolA], rfl⟩
  have n5 : op ≠ 5 := by simpa using k5
  cases k11 : (op == 11)
  case true =>
    have e1 : op = 11 := by simpa using k11
    simp -implicitDefEqProofs only [go_sem, ↓reduceIte, Nat.reduceLT, Nat.reduceEqDiff, Nat.reduceAdd, Nat.reduceLeDiff, Nat.reduceMul, Nat.reduceSub, Int.natCast_zero, Int.ofNat_zero, Int.natCast_one, Int.cast_ofNat_Int, bne_self_eq_false, beq_self_eq_true, Int.reduceBEq, Int.reduceBNe, Bool.not_true, Bool.not_false, k1, k2, k3, k4, k5, k11]
    exact .mk _ (weak_strip _) (.refl _) ⟨by simp [wantsD, e1, oneOr, strip, stripL, boolA], rfl⟩
  have n11 : op ≠ 11 := by simpa using k11
  cases k6 : decide (6 ≤ op)
  · have n6 := of_decide_eq_false k6
    simp -implicitDefEqProofs only [go_sem, ↓reduceIte, Nat.reduceLT, Nat.reduceEqDiff, Nat.reduceAdd, Nat.reduceLeDiff, Nat.reduceMul, Nat.reduceSub, Int.natCast_zero, Int.ofNat_zero, Int.natCast_one, Int.cast_ofNat_Int, bne_self_eq_false, beq_self_eq_true, Int.reduceBEq, Int.reduceBNe, Bool.not_true, Bool.not_false, k1, k2, k3, k4, k5, k11, k6]
    exact .mk _ (weak_strip _) (.refl _) ⟨by simp [wantsD, n1, n2, n3, n4, n5, n11, n6, oneOr, strip, stripL, boolA], rfl⟩
  cases k13 : decide (op ≤ 13)
  · have n13 := of_decide_eq_false k13
    simp -implicitDefEqProofs only [go_sem, ↓reduceIte, Nat.reduceLT, Nat.reduceEqDiff, Nat.reduceAdd, Nat.reduceLeDiff, Nat.reduceMul, Nat.reduceSub, Int.natCast_zero, Int.ofNat_zero, Int.natCast_one, Int.cast_ofNat_Int, bne_self_eq_false, beq_self_eq_true, Int.reduceBEq, Int.reduceBNe, Bool.not_true, Bool.not_false, k1, k2, k3, k4, k5, k11, k6, k13]
    exact .mk _ (weak_strip _) (.refl _) ⟨by simp [wantsD, n1, n2, n3, n4, n5, n11, n13, oneOr, strip, stripL, boolA], rfl⟩
  have n6 := of_decide_eq_true k6
  have n13 := of_decide_eq_true k13
  simp -implicitDefEqProofs only [go_sem, ↓reduceIte, Nat.reduceLT, Nat.reduceEqDiff, Nat.reduceAdd, Nat.reduceLeDiff, Nat.reduceMul, Nat.reduceSub, Int.natCast_zero, Int.ofNat_zero, Int.natCast_one, Int.cast_ofNat_Int, bne_self_eq_false, beq_self_eq_true, Int.reduceBEq, Int.reduceBNe, Bool.not_true, Bool.not_false, k1, k2, k3, k4, k5, k11, k6, k13]
  exact .mk _ (weak_strip _) (.refl _) ⟨by simp [wantsD, n1, n2, n3, n4, n5, n11, n6, n13, oneOr, strip, stripL, boolA], rfl⟩

theorem fields_ok (n : NodeD) (h : Heap) : FnOK Tryd.prog 93 [nodeA n] h fun r h' => r = .v (.bool (fieldsOK n)) ∧ h' = h := by
  refine FnOK.body hU hm Tryd.func93 rfl (by kernel_rfl) 37 rfl [.tmp 2] rfl (Nat.le_of_ble_eq_true rfl) (fun hwf => ?_)
  simp -implicitDefEqProofs only [go_sem, ↓reduceIte, Nat.reduceLT, Nat.reduceEqDiff, Nat.reduceAdd, Nat.reduceLeDiff, Nat.reduceMul, Nat.reduceSub, Int.natCast_zero, Int.ofNat_zero, Int.natCast_one, Int.cast_ofNat_Int, bne_self_eq_false, beq_self_eq_true, Int.reduceBEq, Int.reduceBNe, Bool.not_true, Bool.not_false, nodeA]
  intro id hid
  have fa : ∀ x y z : Bool, (x && (y && (z && true))) = (x && (y && (z && true))) := fun _ _ _ => rfl
  cases k1 : (n.op == 1)
  case true =>
    have e1 : n.op = 1 := by simpa using k1
    simp -implicitDefEqProofs only [go_sem, ↓reduceIte, Nat.reduceLT, Nat.reduceEqDiff, Nat.reduceAdd, Nat.reduceLeDiff, Nat.reduceMul, Nat.reduceSub, Int.natCast_zero, Int.ofNat_zero, Int.natCast_one, Int.cast_ofNat_Int, bne_self_eq_false, beq_self_eq_true, Int.reduceBEq, Int.reduceBNe, Bool.not_true, Bool.not_false, k1]
    refine (valRight_ok n.val _).pthen ?_
    cases d0 : valOK n.val
    · simp -implicitDefEqProofs only [go_sem, ↓reduceIte, Nat.reduceLT, Nat.reduceEqDiff, Nat.reduceAdd, Nat.reduceLeDiff, Nat.reduceMul, Nat.reduceSub, Int.natCast_zero, Int.ofNat_zero, Int.natCast_one, Int.cast_ofNat_Int, bne_self_eq_false, beq_self_eq_true, Int.reduceBEq, Int.reduceBNe, Bool.not_true, Bool.not_false, d0]
      exact .mk _ (.refl _) (.upd_new hid) ⟨by simp [fieldsOK, e1, d0, oneOr], rfl⟩
    · simp -implicitDefEqProofs only [go_sem, ↓reduceIte, Nat.reduceLT, Nat.reduceEqDiff, Nat.reduceAdd, Nat.reduceLeDiff, Nat.reduceMul, Nat.reduceSub, Int.natCast_zero, Int.ofNat_zero, Int.natCast_one, Int.cast_ofNat_Int, bne_self_eq_false, beq_self_eq_true, Int.reduceBEq, Int.reduceBNe, Bool.not_true, Bool.not_false, d0]
      exact .mk _ (.refl _) (.upd_new hid) ⟨by simp [fieldsOK, e1, d0, oneOr, zeroAt], rfl⟩
  have n1 : n.op ≠ 1 := by simpa using k1
  cases k2 : (n.op == 2)
  case true =>
    have e1 : n.op = 2 := by simpa using k2
    simp -implicitDefEqProofs only [go_sem, ↓reduceIte, Nat.reduceLT, Nat.reduceEqDiff, Nat.reduceAdd, Nat.reduceLeDiff, Nat.reduceMul, Nat.reduceSub, Int.natCast_zero, Int.ofNat_zero, Int.natCast_one, Int.cast_ofNat_Int, bne_self_eq_false, beq_self_eq_true, Int.reduceBEq, Int.reduceBNe, Bool.not_true, Bool.not_false, k1, k2]
    refine (attr_ok n.attr _).pthen ?_
    cases d0 : attrOK n.attr
    · simp -implicitDefEqProofs only [go_sem, ↓reduceIte, Nat.reduceLT, Nat.reduceEqDiff, Nat.reduceAdd, Nat.reduceLeDiff, Nat.reduceMul, Nat.reduceSub, Int.natCast_zero, Int.ofNat_zero, Int.natCast_one, Int.cast_ofNat_Int, bne_self_eq_false, beq_self_eq_true, Int.reduceBEq, Int.reduceBNe, Bool.not_true, Bool.not_false, d0]
      exact .mk _ (.refl _) (.upd_new hid) ⟨by simp [fieldsOK, e1, d0, oneOr], rfl⟩
    · simp -implicitDefEqProofs only [go_sem, ↓reduceIte, Nat.reduceLT, Nat.reduceEqDiff, Nat.reduceAdd, Nat.reduceLeDiff, Nat.reduceMul, Nat.reduceSub, Int.natCast_zero, Int.ofNat_zero, Int.natCast_one, Int.cast_ofNat_Int, bne_self_eq_false, beq_self_eq_true, Int.reduceBEq, Int.reduceBNe, Bool.not_true, Bool.not_false, d0]
      exact .mk _ (.refl _) (.upd_new hid) ⟨by simp [fieldsOK, e1, d0, oneOr, zeroV], rfl⟩
  have n2 : n.op ≠ 2 := by simpa using k2
  cases d0 : zeroV n.val
  · have d1 := d0
    unfold zeroV at d1
    simp -implicitDefEqProofs only [go_sem, ↓reduceIte, Nat.reduceLT, Nat.reduceEqDiff, Nat.reduceAdd, Nat.reduceLeDiff, Nat.reduceMul, Nat.reduceSub, Int.natCast_zero, Int.ofNat_zero, Int.natCast_one, Int.cast_ofNat_Int, bne_self_eq_false, beq_self_eq_true, Int.reduceBEq, Int.reduceBNe, Bool.not_true, Bool.not_false, k1, k2, d1]
    exact .mk _ (.refl _) (.upd_new hid) ⟨by simp [fieldsOK, n1, n2, d0, oneOr], rfl⟩
  · have d1 := d0
    unfold zeroV at d1
    simp -implicitDefEqProofs only [go_sem, ↓reduceIte, Nat.reduceLT, Nat.reduceEqDiff, Nat.reduceAdd, Nat.reduceLeDiff, Nat.reduceMul, Nat.reduceSub, Int.natCast_zero, Int.ofNat_zero, Int.natCast_one, Int.cast_ofNat_Int, bne_self_eq_false, beq_self_eq_true, Int.reduceBEq, Int.reduceBNe, Bool.not_true, Bool.not_false, k1, k2, d1]
    exact .mk _ (.refl _) (.upd_new hid) ⟨by simp [fieldsOK, n1, n2, d0, oneOr, zeroAt], rfl⟩
end Go.Proofs.YtdcchpbncckhlaaDoor
