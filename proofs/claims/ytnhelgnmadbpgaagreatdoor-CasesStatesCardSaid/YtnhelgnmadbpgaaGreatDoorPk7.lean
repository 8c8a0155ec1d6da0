/- The law CasesStates: pack 7 of its texts. -/
import Derived.Lib.ItoaLen
import Derived.Test.YtnhelgnmadbpgaaGreatDoorPk1
import Derived.Test.YtnhelgnmadbpgaaGreatDoorPk2
import Derived.Test.YtnhelgnmadbpgaaGreatDoorPk3
import Derived.Test.YtnhelgnmadbpgaaGreatDoorPk4
import Derived.Test.YtnhelgnmadbpgaaGreatDoorPk5
import Derived.Test.YtnhelgnmadbpgaaGreatDoorPk6
set_option linter.unusedSimpArgs false
set_option linter.unusedVariables false
namespace Go.Bf
open Go Go.Ab
def eqGiv (g h : GivD) : Bool := g.cat == h.cat && (g.name == h.name && eqL eqVal g.bag h.bag)
def asksD (a b : List GivD) : Bool := decide (a.length = b.length) && a.all fun g => b.any (eqGiv g)
theorem any_succ {α : Type} {q : α → Bool} {l : List α} {i : Nat} (h : i < l.length) : (l.take (i + 1)).any q = ((l.take i).any q || q l[i]) := by
  rw [List.take_succ_eq_append_getElem h, List.any_append]; simp
theorem asksD_true {a b : List GivD} (h1 : a.length = b.length) (h2 : ∀ j (h : j < a.length), b.any (eqGiv a[j]) = true) : asksD a b = true := by
  simp only [asksD, Bool.and_eq_true, decide_eq_true_eq, List.all_eq_true]
  refine ⟨h1, fun g hg => ?_⟩
  obtain ⟨j, hj, rfl⟩ := List.mem_iff_getElem.1 hg
  exact h2 j hj
theorem asksD_len {a b : List GivD} (h1 : a.length ≠ b.length) : asksD a b = false := by simp [asksD, h1]
theorem asksD_at {a b : List GivD} (j : Nat) (h : j < a.length) (h2 : b.any (eqGiv a[j]) = false) : asksD a b = false := by
  simp only [asksD, Bool.and_eq_false_iff]
  exact .inr (List.all_eq_false.2 ⟨_, List.getElem_mem h, by rw [h2]; decide⟩)
end Go.Bf
namespace Go.Proofs.YtnhelgnmadbpgaaGreatDoor
open Go Go.Ab Go.Bf
set_option maxRecDepth 100000 in
theorem asks_ok {xs ys : List AV} {a b : List GivD} (hx : GRow xs a) (hy : GRow ys b) (q1 q2 : Perm) (h : Heap) : FnOK Tryz.prog 16 [.sl xs q1, .sl ys q2] h fun r h' => r = .v (.bool (asksD a b)) ∧ h' = h := by
  have hxl := hx.1
  have hyl := hy.1
  refine FnOK.body hU hm Tryz.func16 rfl (by kernel_rfl) 53 rfl [.tmp 4] rfl (Nat.le_of_ble_eq_true rfl) (fun hwf => ?_)
  have hlx : xs.length < lim := hwf (.sl xs q1) (by simp)
  have hly : ys.length < lim := hwf (.sl ys q2) (by simp)
  simp only [lim] at hlx hly
  cases d1 : ((a.length : Int) != (b.length : Int))
  case true =>
    have e1 : a.length ≠ b.length := by
      intro e; rw [e] at d1; simp at d1
    simp -implicitDefEqProofs only [go_sem, hxl, hyl, d1]
    exact .same (.refl _) ⟨by rw [asksD_len e1]; rfl, rfl⟩
  have e1 : a.length = b.length := by have : (a.length : Int) = b.length := by simpa using d1
                                      omega
  simp -implicitDefEqProofs only [go_sem, hxl, hyl, d1]
  refine .intro (fun m ρ h' => Ab.Sub h h' ∧ ∃ i : Nat, i ≤ a.length ∧ m = a.length - i ∧ (∀ j (h1 : j < a.length), j < i → b.any (eqGiv a[j]) = true) ∧ lk ρ 1 = some (.sl ys q2) ∧ lk ρ 15 = some (.sl xs q1) ∧ lk ρ 16 = some (.v (.int .i64 a.length)) ∧ lk ρ 17 = some (.v (.int .i64 i))) a.length ?_ ?_
  · refine ⟨.refl _, 0, by omega, rfl, fun j _ hj => (by omega), ?_, ?_, ?_, ?_⟩ <;> simp -implicitDefEqProofs only [go_sem]
  · rintro m ρ h' ⟨hs, i, hi, rfl, hc, r1, r15, r16, r17⟩
    simp -implicitDefEqProofs only [go_sem, r1, r15, r16, r17]
    refine .intro (fun e => ?_) (fun e => ?_)
    · have hlt : i < a.length := Int.ofNat_lt.1 (of_decide_eq_true e)
      have hltx : i < xs.length := by omega
      have w1 : IntKind.i64.wrap ((i : Int) + 1) = ((i + 1 : Nat) : Int) := by rw [wr64 _ (by omega)]; omega
      obtain ⟨qi, exi⟩ := hx.2 i hltx hlt
      simp -implicitDefEqProofs only [go_sem, r1, r15, r16, r17]
      refine .at i hltx (by rw [exi]; rfl) ?_
      simp -implicitDefEqProofs only [go_sem, r1, r15, r16, r17, exi, givQ]
      intro i6 h6
      simp -implicitDefEqProofs only [go_sem, r1, r15, r16, r17, hyl]
      refine .intro (fun m ρ G => Ab.Sub h' G ∧ G i6 = some (.obj [.v (.int .i64 a[i].cat), .s a[i].name, .sl (a[i].bag.map valA) qi] 43) ∧ ∃ j : Nat, j ≤ b.length ∧ m = b.length - j ∧ lk ρ 1 = some (.sl ys q2) ∧ lk ρ 15 = some (.sl xs q1) ∧ lk ρ 16 = some (.v (.int .i64 a.length)) ∧ lk ρ 17 = some (.v (.int .i64 i)) ∧ lk ρ 6 = some (.ptr i6 0) ∧ lk ρ 7 = some (.v (.bool ((b.take j).any (eqGiv a[i])))) ∧ lk ρ 21 = some (.sl ys q2) ∧ lk ρ 22 = some (.v (.int .i64 b.length)) ∧ lk ρ 23 = some (.v (.int .i64 j))) b.length ?_ ?_
      · refine ⟨.upd_new h6, upd_same .., 0, by omega, rfl, ?_, ?_, ?_, ?_, ?_, ?_, ?_, ?_, ?_⟩ <;> simp -implicitDefEqProofs only [go_sem, r1, r15, r16, r17, List.take_zero, List.any_nil]
      · rintro m ρ G ⟨hG, g6, j, hj, rfl, r1, r15, r16, r17, r6, r7, r21, r22, r23⟩
        simp -implicitDefEqProofs only [go_sem, r1, r15, r16, r17, r6, r7, r21, r22, r23]
        refine .intro (fun e => ?_) (fun e => ?_)
        · have hlt2 : j < b.length := Int.ofNat_lt.1 (of_decide_eq_true e)
          have hlty : j < ys.length := by omega
          have w2 : IntKind.i64.wrap ((j : Int) + 1) = ((j + 1 : Nat) : Int) := by rw [wr64 _ (by omega)]; omega
          obtain ⟨qj, eyj⟩ := hy.2 j hlty hlt2
          simp -implicitDefEqProofs only [go_sem, r1, r15, r16, r17, r6, r7, r21, r22, r23]
          refine .at j hlty (by rw [eyj]; rfl) ?_
          simp -implicitDefEqProofs only [go_sem, r1, r15, r16, r17, r6, r7, r21, r22, r23, eyj, givQ]
          intro i9 h9
          have n96 : i6 ≠ i9 := fun e => by rw [← e, g6] at h9; cases h9
          simp -implicitDefEqProofs only [go_sem, upd_ne, n96, n96.symm, g6, r1, r15, r16, r17, r6, r7, r21, r22, r23]
          have hG9 : ∀ b, Ab.Sub h' (upd G i9 b) := fun b => hG.put (hG.none h9) b
          have g69 : ∀ b, upd G i9 b i6 = _ := fun b => (upd_other _ _ n96).trans g6
          cases d0 : (b.take j).any (eqGiv a[i])
          · simp -implicitDefEqProofs only [go_sem, upd_ne, n96, n96.symm, g6, r1, r15, r16, r17, r6, r7, r21, r22, r23, d0]
            cases dc : (a[i].cat == b[j].cat)
            · have ef : (b.take (j + 1)).any (eqGiv a[i]) = false := by rw [any_succ hlt2, d0, eqGiv, dc]; rfl
              simp -implicitDefEqProofs only [go_sem, upd_ne, n96, n96.symm, g6, r1, r15, r16, r17, r6, r7, r21, r22, r23, d0, dc, w2]
              refine ⟨_, ?_, hG9 _, g69 _, j + 1, by omega, rfl, ?_, ?_, ?_, ?_, ?_, ?_, ?_, ?_, ?_⟩
              · omega
              all_goals simp -implicitDefEqProofs only [go_sem, r1, r15, r16, r17, r6, r7, r21, r22, r23, ef, w2]
            · simp -implicitDefEqProofs only [go_sem, upd_ne, n96, n96.symm, g6, r1, r15, r16, r17, r6, r7, r21, r22, r23, d0, dc]
              cases dn : (a[i].name == b[j].name)
              · have ef : (b.take (j + 1)).any (eqGiv a[i]) = false := by rw [any_succ hlt2, d0, eqGiv, dc, dn]; rfl
                simp -implicitDefEqProofs only [go_sem, upd_ne, n96, n96.symm, g6, r1, r15, r16, r17, r6, r7, r21, r22, r23, d0, dc, dn, w2]
                refine ⟨_, ?_, hG9 _, g69 _, j + 1, by omega, rfl, ?_, ?_, ?_, ?_, ?_, ?_, ?_, ?_, ?_⟩
                · omega
                all_goals simp -implicitDefEqProofs only [go_sem, r1, r15, r16, r17, r6, r7, r21, r22, r23, ef, w2]
              · simp -implicitDefEqProofs only [go_sem, upd_ne, n96, n96.symm, g6, r1, r15, r16, r17, r6, r7, r21, r22, r23, d0, dc, dn]
                refine (sameValue_ok a[i].bag b[j].bag qi qj _).pthen ?_
                have ef : (b.take (j + 1)).any (eqGiv a[i]) = eqL eqVal a[i].bag b[j].bag := by rw [any_succ hlt2, d0, eqGiv, dc, dn]; rfl
                simp -implicitDefEqProofs only [go_sem, upd_ne, n96, n96.symm, g6, r1, r15, r16, r17, r6, r7, r21, r22, r23, d0, dc, dn, w2]
                refine ⟨_, ?_, hG9 _, g69 _, j + 1, by omega, rfl, ?_, ?_, ?_, ?_, ?_, ?_, ?_, ?_, ?_⟩
                · omega
                all_goals simp -implicitDefEqProofs only [go_sem, r1, r15, r16, r17, r6, r7, r21, r22, r23, ef, w2]
          · have ef : (b.take (j + 1)).any (eqGiv a[i]) = true := by rw [any_succ hlt2, d0]; rfl
            simp -implicitDefEqProofs only [go_sem, upd_ne, n96, n96.symm, g6, r1, r15, r16, r17, r6, r7, r21, r22, r23, d0, w2]
            refine ⟨_, ?_, hG9 _, g69 _, j + 1, by omega, rfl, ?_, ?_, ?_, ?_, ?_, ?_, ?_, ?_, ?_⟩
            · omega
            all_goals simp -implicitDefEqProofs only [go_sem, r1, r15, r16, r17, r6, r7, r21, r22, r23, ef, w2]
        · have hge : j = b.length := by have := of_decide_eq_false e; omega
          subst hge
          rw [List.take_length] at r7
          simp -implicitDefEqProofs only [go_sem, r1, r15, r16, r17, r6, r7, r21, r22, r23]
          cases d0 : b.any (eqGiv a[i])
          · simp -implicitDefEqProofs only [go_sem, r1, r15, r16, r17, r6, r7, r21, r22, r23, d0]
            exact .mk _ (.refl _) (hs.trans hG) ⟨by rw [asksD_at i hlt d0]; rfl, rfl⟩
          · simp -implicitDefEqProofs only [go_sem, r1, r15, r16, r17, r6, r7, r21, r22, r23, d0, w1]
            refine ⟨_, ?_, hs.trans hG, i + 1, by omega, rfl, fun k h1 hk => ?_, ?_, ?_, ?_, ?_⟩
            · omega
            · by_cases hki : k = i
              · subst hki; exact d0
              · exact hc k h1 (by omega)
            all_goals simp -implicitDefEqProofs only [go_sem, r1, r15, r16, r17, r6, r7, r21, r22, r23, w1]
    · have hge : i = a.length := by have := of_decide_eq_false e; omega
      subst hge
      simp -implicitDefEqProofs only [go_sem, r1, r15, r16, r17]
      exact .mk _ (.refl _) hs ⟨by rw [asksD_true e1 fun j h1 => hc j h1 h1]; rfl, rfl⟩
end Go.Proofs.YtnhelgnmadbpgaaGreatDoor

set_option linter.unusedSimpArgs false
set_option linter.unusedVariables false
namespace Go.Bf
def annT : Txt := [97, 110, 110]
def bobT : Txt := [98, 111, 98]
def runO1 : OpD := ⟨1, annT, [99, 49], [], [], zeroVal, 0, [], [], false⟩
def runO2 : OpD := ⟨2, bobT, [99, 49], [120], [], zeroVal, 0, [], [], false⟩
def runS : StoreD := ⟨0, [⟨[99, 49], annT, openT, [], [⟨0, annT, [110, 101, 119]⟩]⟩], [], [], [], leastP, 0⟩
def runG : List GivD := [⟨1, idT, [idV bobT]⟩, ⟨1, [114, 111, 108, 101], []⟩, ⟨2, [110, 97, 109, 101], [idV [114, 101, 97, 100]]⟩, ⟨2, [102, 105, 101, 108, 100], [idV [120]]⟩, ⟨4, [110, 111, 119], [⟨4, 0, []⟩]⟩, ⟨3, idT, [idV [99, 49]]⟩, ⟨3, [111, 119, 110, 101, 114], [idV annT]⟩, ⟨3, [115, 116, 97, 116, 101], [idV openT]⟩, ⟨3, [101, 118, 101, 110, 116, 115], [⟨2, 1, []⟩]⟩, ⟨3, [116, 111, 111, 107], [⟨1, 0, []⟩]⟩, ⟨3, [108, 97, 115, 116], [idV annT]⟩]
end Go.Bf
namespace Go.Proofs.YtnhelgnmadbpgaaGreatDoor
open Go Go.Ab Go.Bf
theorem run_store : doneD parseD newD runO1 = runS := by kernel_rfl
theorem run_asks : asksD (askD runS runO2) runG = true := by kernel_rfl
theorem few_run : Few runS := ⟨by decide, fun c hc => (by rw [List.mem_singleton.1 hc]; decide), fun c hc => (by rw [List.mem_singleton.1 hc]; decide), by decide, by decide, by decide⟩
theorem run_rows : GRow [givQ ⟨1, idT, [idV bobT]⟩ .full, givQ ⟨1, [114, 111, 108, 101], []⟩ .full, givQ ⟨2, [110, 97, 109, 101], [idV [114, 101, 97, 100]]⟩ .full, givQ ⟨2, [102, 105, 101, 108, 100], [idV [120]]⟩ .full, givQ ⟨4, [110, 111, 119], [⟨4, 0, []⟩]⟩ .full, givQ ⟨3, idT, [idV [99, 49]]⟩ .full, givQ ⟨3, [111, 119, 110, 101, 114], [idV annT]⟩ .full, givQ ⟨3, [115, 116, 97, 116, 101], [idV openT]⟩ .full, givQ ⟨3, [101, 118, 101, 110, 116, 115], [⟨2, 1, []⟩]⟩ .full, givQ ⟨3, [116, 111, 111, 107], [⟨1, 0, []⟩]⟩ .full, givQ ⟨3, [108, 97, 115, 116], [idV annT]⟩ .full] runG :=
  ((((((((((GRow.one _ _).app (GRow.one _ _)).app (GRow.one _ _)).app (GRow.one _ _)).app (GRow.one _ _)).app (GRow.one _ _)).app (GRow.one _ _)).app (GRow.one _ _)).app (GRow.one _ _)).app (GRow.one _ _)).app (GRow.one _ _)
set_option maxRecDepth 100000 in
theorem casesRuns_ok (h : Heap) (he : ErrT h) : FnOK Tryz.prog 3 [] h fun r h' => r = .v (.bool true) ∧ h' = h := by
  have hd := fun (G : Heap) (hG : Ab.Sub h G) => done_ok (rdS G newD) runO1 few_new least_polE ⟨by decide, by decide⟩ ⟨by decide, by decide⟩ ⟨by decide, by decide⟩ (he.sub hG)
  have ha := fun (G : Heap) => ask_ok (rdS G runS) runO2 few_run ⟨by decide, by decide⟩
  rw [run_store] at hd
  refine FnOK.body hU hm Tryz.func3 rfl (by kernel_rfl) 23 rfl [.tmp 0] rfl (Nat.le_of_ble_eq_true rfl) (fun hwf => ?_)
  simp -implicitDefEqProofs only [go_sem]
  refine (new_ok _ he).pthen ?_
  simp -implicitDefEqProofs only [go_sem]
  refine (show FnOK Tryz.prog _ [storeA newD, opA runO1] _ _ from hd _ (.refl _)).pthen ?_
  simp -implicitDefEqProofs only [go_sem]
  intro i1 h1
  have es : storeA runS = .agg [.v (.int .i64 0), casesA runS.cases, .sl [] .no, .sl [] .no, .sl [] .no, .s openT, .v (.bool false), .v (.int .i64 6), .sl [] .no, .sl [] .no, .sl [] .no, .sl [] .no, .v (.int .i64 0)] := rfl
  rw [es] at ha ⊢
  have hcs : ∃ l, casesA runS.cases = .sl l .no := ⟨_, rfl⟩
  obtain ⟨lc, elc⟩ := hcs
  rw [elc] at ha ⊢
  simp -implicitDefEqProofs only [go_sem]
  refine (lgiven_ok _ _ _ _ _ _).pthen ?_
  simp -implicitDefEqProofs only [go_sem, valA]
  refine (lgiven_ok _ _ _ _ _ _).pthen ?_
  simp -implicitDefEqProofs only [go_sem, valA]
  refine (lgiven_ok _ _ _ _ _ _).pthen ?_
  simp -implicitDefEqProofs only [go_sem, valA]
  refine (lgiven_ok _ _ _ _ _ _).pthen ?_
  simp -implicitDefEqProofs only [go_sem, valA]
  refine (lgiven_ok _ _ _ _ _ _).pthen ?_
  simp -implicitDefEqProofs only [go_sem, valA]
  refine (lgiven_ok _ _ _ _ _ _).pthen ?_
  simp -implicitDefEqProofs only [go_sem, valA]
  refine (lgiven_ok _ _ _ _ _ _).pthen ?_
  simp -implicitDefEqProofs only [go_sem, valA]
  refine (lgiven_ok _ _ _ _ _ _).pthen ?_
  simp -implicitDefEqProofs only [go_sem, valA]
  refine (lgiven_ok _ _ _ _ _ _).pthen ?_
  simp -implicitDefEqProofs only [go_sem, valA]
  refine (lgiven_ok _ _ _ _ _ _).pthen ?_
  simp -implicitDefEqProofs only [go_sem, valA]
  refine (show FnOK Tryz.prog _ [_, opA runO2] _ _ from ha _).pthen ?_
  simp -implicitDefEqProofs only [go_sem, givsA]
  refine (asks_ok (GRow.givs (askD runS runO2)) run_rows .no .full _).pthen ?_
  simp -implicitDefEqProofs only [go_sem, run_asks]
  exact .mk _ (.refl _) (.upd_new h1) ⟨rfl, rfl⟩
def pow10V : List Value := Lib.pow10Tab.map fun z => Value.int .u64 z
def startH (ev : Value) : Heap := tabH [(3, pow10V), (2, [ev])]
theorem start_err {ev : Value} (hev : ev = .nilIface ∨ ∃ te pe, ev = .iface te pe) : ErrT (startH ev) := ⟨ev, hev, 1, rfl⟩
end Go.Proofs.YtnhelgnmadbpgaaGreatDoor

set_option linter.unusedSimpArgs false
set_option linter.unusedVariables false
namespace Go.Bf
open Go Go.Ab
def withinD (m : Int) (b : Nat) : Nat := (if m.tmod (b + 1) < 0 then m.tmod (b + 1) + (b + 1) else m.tmod (b + 1)).toNat
theorem withinD_le (m : Int) (b : Nat) : withinD m b ≤ b := by
  have t1 := Int.tmod_lt_of_pos m (show (0 : Int) < b + 1 by omega)
  have t2 := Int.lt_tmod_of_pos m (show (0 : Int) < b + 1 by omega)
  unfold withinD
  split <;> omega
end Go.Bf
namespace Go.Proofs.YtnhelgnmadbpgaaGreatDoor
open Go Go.Ab Go.Bf
theorem within_ok (m : Int) (b : Nat) (h : Heap) (hm' : -9223372036854775808 ≤ m ∧ m ≤ 9223372036854775807) (hb : b ≤ 1099511627776) :
    FnOK Tryz.prog 36 [.v (.int .i64 m), .v (.int .i64 0), .v (.int .i64 b)] h fun r h' => r = .v (.int .i64 (withinD m b)) ∧ h' = h := by
  have w0 : IntKind.i64.wrap ((b : Int) - 0) = b := IntWalk.i64_in _ (by omega)
  have w1 : IntKind.i64.wrap (b : Int) = b := IntWalk.i64_in _ (by omega)
  have w2 : IntKind.i64.wrap ((b : Int) + 1) = (b : Int) + 1 := IntWalk.i64_in _ (by omega)
  have t1 := Int.tmod_lt_of_pos m (show 0 < (b : Int) + 1 by omega)
  have t2 := Int.lt_tmod_of_pos m (show 0 < (b : Int) + 1 by omega)
  have hd : (withinD m b : Int) = if m.tmod (b + 1) < 0 then m.tmod (b + 1) + (b + 1) else m.tmod (b + 1) := by
    unfold withinD; split <;> omega
  generalize hq : m.tmod ((b : Int) + 1) = q at t1 t2 hd
  have w3 : IntKind.i64.wrap (q + b) = q + b := IntWalk.i64_in _ (by omega)
  have w4 : IntKind.i64.wrap (q + b - 0) = q + b := by rw [Int.sub_zero]; exact w3
  have w5 : IntKind.i64.wrap (q + b + 1) = q + b + 1 := IntWalk.i64_in _ (by omega)
  refine FnOK.body hU hm Tryz.func36 rfl (by kernel_rfl) 24 rfl [.tmp 6] rfl (Nat.le_of_ble_eq_true rfl) (fun hwf => ?_)
  simp -implicitDefEqProofs only [go_sem, w0, w1, w2, hq, Int.sub_zero]
  refine ⟨by omega, .intro (fun e => ?_) (fun e => ?_)⟩
  · have e := of_decide_eq_true e
    rw [if_pos e] at hd
    simp -implicitDefEqProofs only [go_sem, w3, w4, w5, Int.sub_zero]
    have w6 : IntKind.i64.wrap (0 + (q + b + 1)) = q + b + 1 := by rw [Int.zero_add]; exact w5
    have w7 : IntKind.i64.wrap (q + b + 1) = q + b + 1 := IntWalk.i64_in _ (by omega)
    simp -implicitDefEqProofs only [go_sem, w6, w7, Int.zero_add]
    exact .same (.refl _) ⟨by rw [hd]; simp only [oneOr]; rw [Int.add_assoc], rfl⟩
  · have e := of_decide_eq_false e
    rw [if_neg e] at hd
    have w7 : IntKind.i64.wrap q = q := IntWalk.i64_in q (by omega)
    have w6 : IntKind.i64.wrap (0 + q) = q := by rw [Int.zero_add]; exact w7
    simp -implicitDefEqProofs only [go_sem, w6, w7, Int.zero_add]
    exact .same (.refl _) ⟨by rw [hd]; rfl, rfl⟩
end Go.Proofs.YtnhelgnmadbpgaaGreatDoor

set_option linter.unusedSimpArgs false
set_option linter.unusedVariables false
namespace Go.Bf
open Go Go.Ab
end Go.Bf
namespace Go.Proofs.YtnhelgnmadbpgaaGreatDoor
open Go Go.Ab Go.Bf
end Go.Proofs.YtnhelgnmadbpgaaGreatDoor

set_option linter.unusedSimpArgs false
set_option linter.unusedVariables false
namespace Go.Bf
open Go Go.Ab
def isGiv (cat : Int) (name : Txt) (g : GivD) : Bool := g.cat == cat && g.name == name
def getD (l : List GivD) (cat : Int) (name : Txt) : List ValD := match l.find? (isGiv cat name) with
  | some g => g.bag
  | none => []
end Go.Bf
namespace Go.Proofs.YtnhelgnmadbpgaaGreatDoor
open Go Go.Ab Go.Bf
end Go.Proofs.YtnhelgnmadbpgaaGreatDoor

set_option linter.unusedSimpArgs false
set_option linter.unusedVariables false
namespace Go.Bf
open Go Go.Ab
end Go.Bf
namespace Go.Proofs.YtnhelgnmadbpgaaGreatDoor
open Go Go.Ab Go.Bf
end Go.Proofs.YtnhelgnmadbpgaaGreatDoor

set_option linter.unusedSimpArgs false
set_option linter.unusedVariables false
namespace Go.Bf
open Go Go.Ab
end Go.Bf
namespace Go.Proofs.YtnhelgnmadbpgaaGreatDoor
open Go Go.Ab Go.Bf
end Go.Proofs.YtnhelgnmadbpgaaGreatDoor

set_option linter.unusedSimpArgs false
set_option linter.unusedVariables false
namespace Go.Bf
open Go Go.Ab
def cT : Txt := [99]
def stC (st : Txt) (log : List HapD) : CaseD := ⟨cT, annT, st, [], log⟩
def stS (st : Txt) (log : List HapD) : StoreD := ⟨0, [stC st log], [], [], [], leastP, 0⟩
def mvO (to : Txt) : OpD := ⟨4, bobT, cT, [], to, zeroVal, 0, [], [], false⟩
def wrO (i : Int) : OpD := ⟨3, annT, cT, [120], [], ⟨2, i, []⟩, 0, [], [], false⟩
def states4 : List Txt := [openT, workT, doneT, closedT]
theorem st_there (st : Txt) (log : List HapD) : thereD (stS st log).cases cT = true := by
  simp [thereD, findD, stS, stC, geB, List.findIdx_cons, Op.bytesLess, cT]
theorem st_find (st : Txt) (log : List HapD) : findD (stS st log).cases cT = 0 := by
  simp [findD, stS, stC, geB, List.findIdx_cons, Op.bytesLess, cT]
theorem st_case (st : Txt) (log : List HapD) : caseD (stS st log).cases cT = stC st log := by
  unfold caseD
  rw [if_pos (st_there st log), st_find]; rfl
theorem mv_form : ∀ to ∈ states4, formD (mvO to) = true := by
  intro to h
  simp only [states4, List.mem_cons, List.not_mem_nil, or_false] at h
  rcases h with rfl | rfl | rfl | rfl <;> kernel_rfl
theorem mv_ready {st to : Txt} {log : List HapD} (h : to ∈ states4) (hl : log.length < 256) : readyD (stS st log) (mvO to) = if followsD st to then 0 else 13 := by
  unfold readyD
  rw [mv_form to h]
  have e : readyCaseD (stS st log) (mvO to) = if followsD st to then 0 else 13 := by
    unfold readyCaseD
    rw [show (mvO to).case = cT from rfl, st_there, st_case]
    have : ¬ 256 ≤ log.length := by omega
    cases hf : followsD st to <;> simp [mvO, stC, hf, this]
  rw [e]
  simp [mvO]
theorem mv_done {st to : Txt} {log : List HapD} (par : Txt → PolD × Int × Int) (h : to ∈ states4) (hl : log.length < 256) : doneD par (stS st log) (mvO to) = if followsD st to then stS to (log ++ [⟨0, bobT, to⟩]) else stS st log := by
  unfold doneD
  rw [mv_ready h hl]
  cases hf : followsD st to
  · simp
  · simp only [if_true]
    have : findD (stS st log).cases (mvO to).case = 0 := st_find st log
    unfold doD
    rw [this]
    simp [mvO, stS, stC, hapD]
theorem wr_form (i : Int) : formD (wrO i) = true := by
  have e : nameOK annT = true := by kernel_rfl
  have e2 : nameOK cT = true := by kernel_rfl
  have e3 : nameOK [120] = true := by kernel_rfl
  have t : takesD (wrO i) = true := by
    simp only [takesD, okD, wrO, bareD, onlyD, eqOp, zeroVal]
    simp [cT, eqV]
  have v : valOK ⟨2, i, []⟩ = true := by simp [valOK]
  simp only [formD, t]
  simp [wrO, e, e2, e3, v, reasonD, emptyD]
theorem wr_ready {st : Txt} {log : List HapD} (i : Int) (hl : log.length < 256) : readyD (stS st log) (wrO i) = if st = closedT then 13 else 0 := by
  unfold readyD
  rw [wr_form i]
  have e : readyCaseD (stS st log) (wrO i) = if st = closedT then 13 else 0 := by
    unfold readyCaseD
    rw [show (wrO i).case = cT from rfl, st_there, st_case]
    have : ¬ 256 ≤ log.length := by omega
    by_cases hf : st = closedT <;> simp [wrO, stC, hf, this]
  rw [e]
  simp [wrO]
end Go.Bf
namespace Go.Proofs.YtnhelgnmadbpgaaGreatDoor
open Go Go.Ab Go.Bf
theorem few_st {st : Txt} {log : List HapD} (h : log.length ≤ 1000) : Few (stS st log) := ⟨by simp [stS], fun c hc => (by rw [List.mem_singleton.1 hc]; simp [stC]), fun c hc => (by rw [List.mem_singleton.1 hc]; simp only [stC]; omega), by simp [stS], by simp [stS], by simp [stS]⟩
theorem st_new : doneD parseD newD ⟨1, annT, cT, [], [], zeroVal, 0, [], [], false⟩ = stS openT [⟨0, annT, [110, 101, 119]⟩] := by kernel_rfl
def stL (st : Txt) (log : List HapD) : List AV := [.v (.int .i64 0), casesA [stC st log], .sl [] .no, .sl [] .no, .sl [] .no, .s [111, 112, 101, 110], .v (.bool false), .v (.int .i64 6), .sl [] .no, .sl [] .no, .sl [] .no, .sl [] .no, .v (.int .i64 0)]
theorem stL_eq (st : Txt) (log : List HapD) : storeA (stS st log) = .agg (stL st log) := rfl
set_option maxRecDepth 100000 in
theorem casesStates_ok (x : AV) (dx : Dat U 77 x) (h : Heap) (he : ErrT h) : FnOK Tryz.prog 6 [x] h fun r h' => r = .v (.bool true) ∧ h' = h := by
  obtain ⟨l, rfl, hl, hln⟩ := dx.ints (e := 3) (by simp only [go_sem]) (by simp only [go_sem])
  have hml : maxLen = 9223372036854775807 := rfl
  have hd0 := fun (G : Heap) (hG : Ab.Sub h G) => done_ok (rdS G newD) ⟨1, annT, cT, [], [], zeroVal, 0, [], [], false⟩ few_new least_polE ⟨by decide, by decide⟩ ⟨by decide, by decide⟩ ⟨by decide, by decide⟩ (he.sub hG)
  rw [st_new] at hd0
  refine FnOK.body hU hm Tryz.func6 rfl (by kernel_rfl) 95 rfl [.tmp 2] rfl (Nat.le_of_ble_eq_true rfl) (fun hwf => ?_)
  simp -implicitDefEqProofs only [go_sem]
  refine (new_ok _ he).pthen ?_
  simp -implicitDefEqProofs only [go_sem]
  refine (show FnOK Tryz.prog _ [storeA newD, opA ⟨1, annT, cT, [], [], zeroVal, 0, [], [], false⟩] _ _ from hd0 _ (.refl _)).pthen ?_
  rw [stL_eq]
  simp -implicitDefEqProofs only [go_sem, stL, casesA]
  intro i4 h4
  simp -implicitDefEqProofs only [go_sem]
  refine .intro (fun m ρ H => ∃ (i : Nat) (st : Txt) (log : List HapD), H i4 = some (.obj (stL st log) 34) ∧ Ab.Sub h H ∧ st ∈ states4 ∧ log.length ≤ i + 1 ∧ i ≤ l.length ∧ i ≤ 40 ∧ m = l.length - i ∧ lk ρ 0 = some (.sl (l.map iA) .no) ∧ lk ρ 3 = some (.sl (states4.map AV.s) .full) ∧ lk ρ 4 = some (.ptr i4 0) ∧ lk ρ 5 = some (.s st) ∧ lk ρ 6 = some (.v (.int .i64 i))) l.length ?_ ?_
  · refine ⟨0, openT, [⟨0, annT, [110, 101, 119]⟩], upd_same .., .upd_new h4, by simp [states4], by simp, by omega, by omega, rfl, ?_, ?_, ?_, ?_, ?_⟩ <;> simp -implicitDefEqProofs only [go_sem, states4, List.map_cons, List.map_nil, openT, workT, doneT, closedT]
  · rintro m ρ H ⟨i, st, log, g4, hs, hst, hlg, hi, hi40, rfl, r0, r3, r4, r5, r6⟩
    simp only [stL, casesA, List.map_cons, List.map_nil] at g4
    simp -implicitDefEqProofs only [go_sem, r0, r3, r4, r5, r6, List.length_map]
    have hfin : ∀ (G : Heap), Ab.Sub h G → FnOK Tryz.prog 3 [] G fun r h' => r = .v (.bool true) ∧ h' = G := fun G hG => casesRuns_ok _ (he.sub hG)
    have f1 : followsD [99, 108, 111, 115, 101, 100] [111, 112, 101, 110] = false := by decide
    have f2 : followsD [120] [111, 112, 101, 110] = false := by decide
    cases d1 : decide ((i : Int) < (l.length : Int))
    · simp -implicitDefEqProofs only [go_sem, r0, r3, r4, r5, r6, List.length_map, d1]
      refine (follows_ok _ _ _).pthen ?_
      simp -implicitDefEqProofs only [go_sem, r0, r3, r4, r5, r6, f1]
      refine (follows_ok _ _ _).pthen ?_
      simp -implicitDefEqProofs only [go_sem, r0, r3, r4, r5, r6, f1, f2]
      refine (hfin _ hs).pthen ?_
      simp -implicitDefEqProofs only [go_sem, r0, r3, r4, r5, r6, f1, f2]
      exact .mk _ (.refl _) hs ⟨rfl, rfl⟩
    · have hlt : i < l.length := Int.ofNat_lt.1 (of_decide_eq_true d1)
      simp -implicitDefEqProofs only [go_sem, r0, r3, r4, r5, r6, List.length_map, d1]
      cases d2 : decide ((i : Int) < 40)
      · simp -implicitDefEqProofs only [go_sem, r0, r3, r4, r5, r6, List.length_map, d1, d2]
        refine (follows_ok _ _ _).pthen ?_
        simp -implicitDefEqProofs only [go_sem, r0, r3, r4, r5, r6, f1]
        refine (follows_ok _ _ _).pthen ?_
        simp -implicitDefEqProofs only [go_sem, r0, r3, r4, r5, r6, f1, f2]
        refine (hfin _ hs).pthen ?_
        simp -implicitDefEqProofs only [go_sem, r0, r3, r4, r5, r6, f1, f2]
        exact .mk _ (.refl _) hs ⟨rfl, rfl⟩
      · have hlt40 : i < 40 := Int.ofNat_lt.1 (of_decide_eq_true d2)
        simp -implicitDefEqProofs only [go_sem, r0, r3, r4, r5, r6, List.length_map, d1, d2]
        have hlm := hln _ (List.getElem_mem hlt)
        refine .at i (by simpa using hlt) (by rw [List.getElem_map]; rfl) ?_
        simp -implicitDefEqProofs only [go_sem, r0, r3, r4, r5, r6, List.getElem_map, iA]
        refine (within_ok l[i] 3 _ hlm (by decide)).pthen ?_
        have hwl := withinD_le l[i] 3
        have hwl4 : withinD l[i] 3 < states4.length := by show _ < 4; omega
        simp -implicitDefEqProofs only [go_sem, r0, r3, r4, r5, r6]
        refine .at (withinD l[i] 3) (by simpa using hwl4) (by rw [List.getElem_map]; rfl) ?_
        simp -implicitDefEqProofs only [go_sem, r0, r3, r4, r5, r6, List.getElem_map]
        obtain ⟨n, en, hn⟩ : ∃ n, states4[withinD l[i] 3] = n ∧ n ∈ states4 := ⟨_, rfl, List.getElem_mem _⟩
        have w1 : IntKind.i64.wrap ((i : Int) + 1) = ((i + 1 : Nat) : Int) := by rw [wr64 _ (by omega)]; omega
        rw [en]
        intro i8 h8
        have n48 : i4 ≠ i8 := fun e => by rw [← e, g4] at h8; cases h8
        simp -implicitDefEqProofs only [go_sem, upd_ne, n48, n48.symm, g4, r0, r3, r4, r5, r6]
        refine (follows_ok st n _).pthen ?_
        have hrd := fun (G : Heap) => ready_ok (rdS G (stS st log)) (mvO n) (few_st (by omega)) ⟨by simp [mvO], by simp [mvO]⟩ ⟨by simp [stS], by simp [stS]⟩
        have hdn := fun (G : Heap) (hG : Ab.Sub h G) => done_ok (rdS G (stS st log)) (mvO n) (few_st (by omega)) least_polE ⟨by simp [mvO], by simp [mvO]⟩ ⟨by simp [stS], by simp [stS]⟩ ⟨by simp [stS], by simp [stS]⟩ (he.sub hG)
        rw [mv_ready hn (by omega)] at hrd
        rw [mv_done _ hn (by omega)] at hdn
        cases df : followsD st n
        · simp only [df, Bool.false_eq_true, if_false] at hrd hdn
          simp -implicitDefEqProofs only [go_sem, upd_ne, n48, n48.symm, g4, r0, r3, r4, r5, r6, df]
          refine (show FnOK Tryz.prog _ [storeA (stS st log), opA (mvO n)] _ _ from hrd _).pthen ?_
          simp -implicitDefEqProofs only [go_sem, upd_ne, n48, n48.symm, g4, r0, r3, r4, r5, r6, df]
          refine (show FnOK Tryz.prog _ [storeA (stS st log), opA (mvO n)] _ _ from hrd _).pthen ?_
          simp -implicitDefEqProofs only [go_sem, upd_ne, n48, n48.symm, g4, r0, r3, r4, r5, r6, df]
          refine (show FnOK Tryz.prog _ [storeA (stS st log), opA (mvO n)] _ _ from hdn _ (hs.trans (.upd_new h8))).pthen ?_
          rw [stL_eq]
          simp -implicitDefEqProofs only [go_sem, upd_ne, n48, n48.symm, g4, r0, r3, r4, r5, r6, stL, casesA, List.map_cons, List.map_nil, df]
          refine (show FnOK Tryz.prog _ [storeA (stS st log), .s cT] _ _ from case_ok (rdS _ (stS st log)) cT (few_st (by omega))).pthen ?_
          rw [st_there, st_case]
          simp -implicitDefEqProofs only [go_sem, upd_ne, n48, n48.symm, g4, r0, r3, r4, r5, r6, caseA, caseC, stC, fieldsA, logA, List.map_nil]
          intro i10 h10
          have n104 := ne_upd h10
          have h10a := upd_none h10
          have n108 := ne_upd h10a
          have h10b := upd_none h10a
          have hrw := fun (G : Heap) => ready_ok (rdS G (stS st log)) (wrO i) (few_st (by omega)) ⟨by simp [wrO], by simp [wrO]⟩ ⟨by simp [stS], by simp [stS]⟩
          rw [wr_ready _ (by omega)] at hrw
          simp -implicitDefEqProofs only [go_sem, upd_ne, n48, n48.symm, n104, n104.symm, n108, n108.symm, r0, r3, r4, r5, r6, w1]
          by_cases pcl : st = closedT
          · have dcl : (st == [99, 108, 111, 115, 101, 100]) = true := by simp [pcl, closedT]
            simp only [if_pos pcl] at hrw
            refine (show FnOK Tryz.prog _ [storeA (stS st log), opA (wrO i)] _ _ from hrw _).pthen ?_
            simp -implicitDefEqProofs only [go_sem, upd_ne, n48, n48.symm, n104, n104.symm, n108, n108.symm, r0, r3, r4, r5, r6, w1, dcl, beq_self_eq_true]
            refine ⟨_, ?_, i + 1, st, log, by rw [upd_other _ _ n104.symm, upd_same], (Sub.put (Sub.put (hs.trans (.upd_new h8)) h4 _) (hs.none h10b) _), hst, by omega, by omega, by omega, rfl, ?_, ?_, ?_, ?_, ?_⟩
            · omega
            all_goals simp -implicitDefEqProofs only [go_sem, r0, r3, r4, r5, r6, w1]
          · have dcl : (st == [99, 108, 111, 115, 101, 100]) = false := by simpa [closedT] using pcl
            simp only [if_neg pcl] at hrw
            refine (show FnOK Tryz.prog _ [storeA (stS st log), opA (wrO i)] _ _ from hrw _).pthen ?_
            simp -implicitDefEqProofs only [go_sem, upd_ne, n48, n48.symm, n104, n104.symm, n108, n108.symm, r0, r3, r4, r5, r6, w1, dcl, beq_self_eq_true]
            refine ⟨_, ?_, i + 1, st, log, by rw [upd_other _ _ n104.symm, upd_same], (Sub.put (Sub.put (hs.trans (.upd_new h8)) h4 _) (hs.none h10b) _), hst, by omega, by omega, by omega, rfl, ?_, ?_, ?_, ?_, ?_⟩
            · omega
            all_goals simp -implicitDefEqProofs only [go_sem, r0, r3, r4, r5, r6, w1]
        · simp only [df, if_true] at hrd hdn
          obtain ⟨lg2, elg, hlg2⟩ : ∃ lg2, log ++ [(⟨0, bobT, n⟩ : HapD)] = lg2 ∧ lg2.length ≤ i + 2 := ⟨_, rfl, by simp; omega⟩
          rw [elg] at hdn
          simp -implicitDefEqProofs only [go_sem, upd_ne, n48, n48.symm, g4, r0, r3, r4, r5, r6, df]
          refine (show FnOK Tryz.prog _ [storeA (stS st log), opA (mvO n)] _ _ from hrd _).pthen ?_
          simp -implicitDefEqProofs only [go_sem, upd_ne, n48, n48.symm, g4, r0, r3, r4, r5, r6, df]
          refine (show FnOK Tryz.prog _ [storeA (stS st log), opA (mvO n)] _ _ from hdn _ (hs.trans (.upd_new h8))).pthen ?_
          rw [stL_eq]
          simp -implicitDefEqProofs only [go_sem, upd_ne, n48, n48.symm, g4, r0, r3, r4, r5, r6, stL, casesA, List.map_cons, List.map_nil, df]
          refine (show FnOK Tryz.prog _ [storeA (stS n lg2), .s cT] _ _ from case_ok (rdS _ (stS n lg2)) cT (few_st (by omega))).pthen ?_
          rw [st_there, st_case]
          simp -implicitDefEqProofs only [go_sem, upd_ne, n48, n48.symm, g4, r0, r3, r4, r5, r6, caseA, caseC, stC, fieldsA, logA, List.map_nil]
          intro i10 h10
          have n104 := ne_upd h10
          have h10a := upd_none h10
          have n108 := ne_upd h10a
          have h10b := upd_none h10a
          have hrw := fun (G : Heap) => ready_ok (rdS G (stS n lg2)) (wrO i) (few_st (by omega)) ⟨by simp [wrO], by simp [wrO]⟩ ⟨by simp [stS], by simp [stS]⟩
          rw [wr_ready _ (by omega)] at hrw
          simp -implicitDefEqProofs only [go_sem, upd_ne, n48, n48.symm, n104, n104.symm, n108, n108.symm, r0, r3, r4, r5, r6, w1]
          by_cases pcl : n = closedT
          · have dcl : (n == [99, 108, 111, 115, 101, 100]) = true := by simp [pcl, closedT]
            simp only [if_pos pcl] at hrw
            refine (show FnOK Tryz.prog _ [storeA (stS n lg2), opA (wrO i)] _ _ from hrw _).pthen ?_
            simp -implicitDefEqProofs only [go_sem, upd_ne, n48, n48.symm, n104, n104.symm, n108, n108.symm, r0, r3, r4, r5, r6, w1, dcl, beq_self_eq_true]
            refine ⟨_, ?_, i + 1, n, lg2, by rw [upd_other _ _ n104.symm, upd_same], (Sub.put (Sub.put (hs.trans (.upd_new h8)) h4 _) (hs.none h10b) _), hn, by omega, by omega, by omega, rfl, ?_, ?_, ?_, ?_, ?_⟩
            · omega
            all_goals simp -implicitDefEqProofs only [go_sem, r0, r3, r4, r5, r6, w1]
          · have dcl : (n == [99, 108, 111, 115, 101, 100]) = false := by simpa [closedT] using pcl
            simp only [if_neg pcl] at hrw
            refine (show FnOK Tryz.prog _ [storeA (stS n lg2), opA (wrO i)] _ _ from hrw _).pthen ?_
            simp -implicitDefEqProofs only [go_sem, upd_ne, n48, n48.symm, n104, n104.symm, n108, n108.symm, r0, r3, r4, r5, r6, w1, dcl, beq_self_eq_true]
            refine ⟨_, ?_, i + 1, n, lg2, by rw [upd_other _ _ n104.symm, upd_same], (Sub.put (Sub.put (hs.trans (.upd_new h8)) h4 _) (hs.none h10b) _), hn, by omega, by omega, by omega, rfl, ?_, ?_, ?_, ?_, ?_⟩
            · omega
            all_goals simp -implicitDefEqProofs only [go_sem, r0, r3, r4, r5, r6, w1]
theorem casesStates_law (ev : Value) (hev : ev = .nilIface ∨ ∃ te pe, ev = .iface te pe) (x : AV) (dx : Dat U 77 x) : FnOK Tryz.prog 6 [x] (tabH [(3, pow10V), (2, [ev])]) fun r _ => r = .v (.bool true) := (casesStates_ok x dx _ (start_err hev)).mono fun _ _ h => h.1
end Go.Proofs.YtnhelgnmadbpgaaGreatDoor
