/- The law CasesTicks: pack 7 of its texts. -/
import Derived.Lib.ItoaLen
import Derived.Test.YtnhelgnmadbpgaaGreatDoorPk1
import Derived.Test.YtnhelgnmadbpgaaGreatDoorPk2
import Derived.Test.YtnhelgnmadbpgaaGreatDoorPk3
import Derived.Test.YtnhelgnmadbpgaaGreatDoorPk4
import Derived.Test.YtnhelgnmadbpgaaGreatDoorPk5
import Derived.Test.YtnhelgnmadbpgaaGreatDoorPk6
set_option linter.unusedSimpArgs false
set_option linter.unusedVariables false
namespace Go.Bf
open Go Go.Ab
def eqGiv (g h : GivD) : Bool := g.cat == h.cat && (g.name == h.name && eqL eqVal g.bag h.bag)
def asksD (a b : List GivD) : Bool := decide (a.length = b.length) && a.all fun g => b.any (eqGiv g)
theorem any_succ {α : Type} {q : α → Bool} {l : List α} {i : Nat} (h : i < l.length) : (l.take (i + 1)).any q = ((l.take i).any q || q l[i]) := by
  rw [List.take_succ_eq_append_getElem h, List.any_append]; simp
theorem asksD_true {a b : List GivD} (h1 : a.length = b.length) (h2 : ∀ j (h : j < a.length), b.any (eqGiv a[j]) = true) : asksD a b = true := by
  simp only [asksD, Bool.and_eq_true, decide_eq_true_eq, List.all_eq_true]
  refine ⟨h1, fun g hg => ?_⟩
  obtain ⟨j, hj, rfl⟩ := List.mem_iff_getElem.1 hg
  exact h2 j hj
theorem asksD_len {a b : List GivD} (h1 : a.length ≠ b.length) : asksD a b = false := by simp [asksD, h1]
theorem asksD_at {a b : List GivD} (j : Nat) (h : j < a.length) (h2 : b.any (eqGiv a[j]) = false) : asksD a b = false := by
  simp only [asksD, Bool.and_eq_false_iff]
  exact .inr (List.all_eq_false.2 ⟨_, List.getElem_mem h, by rw [h2]; decide⟩)
end Go.Bf
namespace Go.Proofs.YtnhelgnmadbpgaaGreatDoor
open Go Go.Ab Go.Bf
set_option maxRecDepth 100000 in
theorem asks_ok {xs ys : List AV} {a b : List GivD} (hx : GRow xs a) (hy : GRow ys b) (q1 q2 : Perm) (h : Heap) : FnOK Tryz.prog 16 [.sl xs q1, .sl ys q2] h fun r h' => r = .v (.bool (asksD a b)) ∧ h' = h := by
  have hxl := hx.1
  have hyl := hy.1
  refine FnOK.body hU hm Tryz.func16 rfl (by kernel_rfl) 53 rfl [.tmp 4] rfl (Nat.le_of_ble_eq_true rfl) (fun hwf => ?_)
  have hlx : xs.length < lim := hwf (.sl xs q1) (by simp)
  have hly : ys.length < lim := hwf (.sl ys q2) (by simp)
  simp only [lim] at hlx hly
  cases d1 : ((a.length : Int) != (b.length : Int))
  case true =>
    have e1 : a.length ≠ b.length := by
      intro e; rw [e] at d1; simp at d1
    simp -implicitDefEqProofs only [go_sem, hxl, hyl, d1]
    exact .same (.refl _) ⟨by rw [asksD_len e1]; rfl, rfl⟩
  have e1 : a.length = b.length := by have : (a.length : Int) = b.length := by simpa using d1
                                      omega
  simp -implicitDefEqProofs only [go_sem, hxl, hyl, d1]
  refine .intro (fun m ρ h' => Ab.Sub h h' ∧ ∃ i : Nat, i ≤ a.length ∧ m = a.length - i ∧ (∀ j (h1 : j < a.length), j < i → b.any (eqGiv a[j]) = true) ∧ lk ρ 1 = some (.sl ys q2) ∧ lk ρ 15 = some (.sl xs q1) ∧ lk ρ 16 = some (.v (.int .i64 a.length)) ∧ lk ρ 17 = some (.v (.int .i64 i))) a.length ?_ ?_
  · refine ⟨.refl _, 0, by omega, rfl, fun j _ hj => (by omega), ?_, ?_, ?_, ?_⟩ <;> simp -implicitDefEqProofs only [go_sem]
  · rintro m ρ h' ⟨hs, i, hi, rfl, hc, r1, r15, r16, r17⟩
    simp -implicitDefEqProofs only [go_sem, r1, r15, r16, r17]
    refine .intro (fun e => ?_) (fun e => ?_)
    · have hlt : i < a.length := Int.ofNat_lt.1 (of_decide_eq_true e)
      have hltx : i < xs.length := by omega
      have w1 : IntKind.i64.wrap ((i : Int) + 1) = ((i + 1 : Nat) : Int) := by rw [wr64 _ (by omega)]; omega
      obtain ⟨qi, exi⟩ := hx.2 i hltx hlt
      simp -implicitDefEqProofs only [go_sem, r1, r15, r16, r17]
      refine .at i hltx (by rw [exi]; rfl) ?_
      simp -implicitDefEqProofs only [go_sem, r1, r15, r16, r17, exi, givQ]
      intro i6 h6
      simp -implicitDefEqProofs only [go_sem, r1, r15, r16, r17, hyl]
      refine .intro (fun m ρ G => Ab.Sub h' G ∧ G i6 = some (.obj [.v (.int .i64 a[i].cat), .s a[i].name, .sl (a[i].bag.map valA) qi] 43) ∧ ∃ j : Nat, j ≤ b.length ∧ m = b.length - j ∧ lk ρ 1 = some (.sl ys q2) ∧ lk ρ 15 = some (.sl xs q1) ∧ lk ρ 16 = some (.v (.int .i64 a.length)) ∧ lk ρ 17 = some (.v (.int .i64 i)) ∧ lk ρ 6 = some (.ptr i6 0) ∧ lk ρ 7 = some (.v (.bool ((b.take j).any (eqGiv a[i])))) ∧ lk ρ 21 = some (.sl ys q2) ∧ lk ρ 22 = some (.v (.int .i64 b.length)) ∧ lk ρ 23 = some (.v (.int .i64 j))) b.length ?_ ?_
      · refine ⟨.upd_new h6, upd_same .., 0, by omega, rfl, ?_, ?_, ?_, ?_, ?_, ?_, ?_, ?_, ?_⟩ <;> simp -implicitDefEqProofs only [go_sem, r1, r15, r16, r17, List.take_zero, List.any_nil]
      · rintro m ρ G ⟨hG, g6, j, hj, rfl, r1, r15, r16, r17, r6, r7, r21, r22, r23⟩
        simp -implicitDefEqProofs only [go_sem, r1, r15, r16, r17, r6, r7, r21, r22, r23]
        refine .intro (fun e => ?_) (fun e => ?_)
        · have hlt2 : j < b.length := Int.ofNat_lt.1 (of_decide_eq_true e)
          have hlty : j < ys.length := by omega
          have w2 : IntKind.i64.wrap ((j : Int) + 1) = ((j + 1 : Nat) : Int) := by rw [wr64 _ (by omega)]; omega
          obtain ⟨qj, eyj⟩ := hy.2 j hlty hlt2
          simp -implicitDefEqProofs only [go_sem, r1, r15, r16, r17, r6, r7, r21, r22, r23]
          refine .at j hlty (by rw [eyj]; rfl) ?_
          simp -implicitDefEqProofs only [go_sem, r1, r15, r16, r17, r6, r7, r21, r22, r23, eyj, givQ]
          intro i9 h9
          have n96 : i6 ≠ i9 := fun e => by rw [← e, g6] at h9; cases h9
          simp -implicitDefEqProofs only [go_sem, upd_ne, n96, n96.symm, g6, r1, r15, r16, r17, r6, r7, r21, r22, r23]
          have hG9 : ∀ b, Ab.Sub h' (upd G i9 b) := fun b => hG.put (hG.none h9) b
          have g69 : ∀ b, upd G i9 b i6 = _ := fun b => (upd_other _ _ n96).trans g6
          cases d0 : (b.take j).any (eqGiv a[i])
          · simp -implicitDefEqProofs only [go_sem, upd_ne, n96, n96.symm, g6, r1, r15, r16, r17, r6, r7, r21, r22, r23, d0]
            cases dc : (a[i].cat == b[j].cat)
            · have ef : (b.take (j + 1)).any (eqGiv a[i]) = false := by rw [any_succ hlt2, d0, eqGiv, dc]; rfl
              simp -implicitDefEqProofs only [go_sem, upd_ne, n96, n96.symm, g6, r1, r15, r16, r17, r6, r7, r21, r22, r23, d0, dc, w2]
              refine ⟨_, ?_, hG9 _, g69 _, j + 1, by omega, rfl, ?_, ?_, ?_, ?_, ?_, ?_, ?_, ?_, ?_⟩
              · omega
              all_goals simp -implicitDefEqProofs only [go_sem, r1, r15, r16, r17, r6, r7, r21, r22, r23, ef, w2]
            · simp -implicitDefEqProofs only [go_sem, upd_ne, n96, n96.symm, g6, r1, r15, r16, r17, r6, r7, r21, r22, r23, d0, dc]
              cases dn : (a[i].name == b[j].name)
              · have ef : (b.take (j + 1)).any (eqGiv a[i]) = false := by rw [any_succ hlt2, d0, eqGiv, dc, dn]; rfl
                simp -implicitDefEqProofs only [go_sem, upd_ne, n96, n96.symm, g6, r1, r15, r16, r17, r6, r7, r21, r22, r23, d0, dc, dn, w2]
                refine ⟨_, ?_, hG9 _, g69 _, j + 1, by omega, rfl, ?_, ?_, ?_, ?_, ?_, ?_, ?_, ?_, ?_⟩
                · omega
                all_goals simp -implicitDefEqProofs only [go_sem, r1, r15, r16, r17, r6, r7, r21, r22, r23, ef, w2]
              · simp -implicitDefEqProofs only [go_sem, upd_ne, n96, n96.symm, g6, r1, r15, r16, r17, r6, r7, r21, r22, r23, d0, dc, dn]
                refine (sameValue_ok a[i].bag b[j].bag qi qj _).pthen ?_
                have ef : (b.take (j + 1)).any (eqGiv a[i]) = eqL eqVal a[i].bag b[j].bag := by rw [any_succ hlt2, d0, eqGiv, dc, dn]; rfl
                simp -implicitDefEqProofs only [go_sem, upd_ne, n96, n96.symm, g6, r1, r15, r16, r17, r6, r7, r21, r22, r23, d0, dc, dn, w2]
                refine ⟨_, ?_, hG9 _, g69 _, j + 1, by omega, rfl, ?_, ?_, ?_, ?_, ?_, ?_, ?_, ?_, ?_⟩
                · omega
                all_goals simp -implicitDefEqProofs only [go_sem, r1, r15, r16, r17, r6, r7, r21, r22, r23, ef, w2]
          · have ef : (b.take (j + 1)).any (eqGiv a[i]) = true := by rw [any_succ hlt2, d0]; rfl
            simp -implicitDefEqProofs only [go_sem, upd_ne, n96, n96.symm, g6, r1, r15, r16, r17, r6, r7, r21, r22, r23, d0, w2]
            refine ⟨_, ?_, hG9 _, g69 _, j + 1, by omega, rfl, ?_, ?_, ?_, ?_, ?_, ?_, ?_, ?_, ?_⟩
            · omega
            all_goals simp -implicitDefEqProofs only [go_sem, r1, r15, r16, r17, r6, r7, r21, r22, r23, ef, w2]
        · have hge : j = b.length := by have := of_decide_eq_false e; omega
          subst hge
          rw [List.take_length] at r7
          simp -implicitDefEqProofs only [go_sem, r1, r15, r16, r17, r6, r7, r21, r22, r23]
          cases d0 : b.any (eqGiv a[i])
          · simp -implicitDefEqProofs only [go_sem, r1, r15, r16, r17, r6, r7, r21, r22, r23, d0]
            exact .mk _ (.refl _) (hs.trans hG) ⟨by rw [asksD_at i hlt d0]; rfl, rfl⟩
          · simp -implicitDefEqProofs only [go_sem, r1, r15, r16, r17, r6, r7, r21, r22, r23, d0, w1]
            refine ⟨_, ?_, hs.trans hG, i + 1, by omega, rfl, fun k h1 hk => ?_, ?_, ?_, ?_, ?_⟩
            · omega
            · by_cases hki : k = i
              · subst hki; exact d0
              · exact hc k h1 (by omega)
            all_goals simp -implicitDefEqProofs only [go_sem, r1, r15, r16, r17, r6, r7, r21, r22, r23, w1]
    · have hge : i = a.length := by have := of_decide_eq_false e; omega
      subst hge
      simp -implicitDefEqProofs only [go_sem, r1, r15, r16, r17]
      exact .mk _ (.refl _) hs ⟨by rw [asksD_true e1 fun j h1 => hc j h1 h1]; rfl, rfl⟩
end Go.Proofs.YtnhelgnmadbpgaaGreatDoor

set_option linter.unusedSimpArgs false
set_option linter.unusedVariables false
namespace Go.Bf
def annT : Txt := [97, 110, 110]
def bobT : Txt := [98, 111, 98]
def runO1 : OpD := ⟨1, annT, [99, 49], [], [], zeroVal, 0, [], [], false⟩
def runO2 : OpD := ⟨2, bobT, [99, 49], [120], [], zeroVal, 0, [], [], false⟩
def runS : StoreD := ⟨0, [⟨[99, 49], annT, openT, [], [⟨0, annT, [110, 101, 119]⟩]⟩], [], [], [], leastP, 0⟩
def runG : List GivD := [⟨1, idT, [idV bobT]⟩, ⟨1, [114, 111, 108, 101], []⟩, ⟨2, [110, 97, 109, 101], [idV [114, 101, 97, 100]]⟩, ⟨2, [102, 105, 101, 108, 100], [idV [120]]⟩, ⟨4, [110, 111, 119], [⟨4, 0, []⟩]⟩, ⟨3, idT, [idV [99, 49]]⟩, ⟨3, [111, 119, 110, 101, 114], [idV annT]⟩, ⟨3, [115, 116, 97, 116, 101], [idV openT]⟩, ⟨3, [101, 118, 101, 110, 116, 115], [⟨2, 1, []⟩]⟩, ⟨3, [116, 111, 111, 107], [⟨1, 0, []⟩]⟩, ⟨3, [108, 97, 115, 116], [idV annT]⟩]
end Go.Bf
namespace Go.Proofs.YtnhelgnmadbpgaaGreatDoor
open Go Go.Ab Go.Bf
theorem run_store : doneD parseD newD runO1 = runS := by kernel_rfl
theorem run_asks : asksD (askD runS runO2) runG = true := by kernel_rfl
theorem few_run : Few runS := ⟨by decide, fun c hc => (by rw [List.mem_singleton.1 hc]; decide), fun c hc => (by rw [List.mem_singleton.1 hc]; decide), by decide, by decide, by decide⟩
theorem run_rows : GRow [givQ ⟨1, idT, [idV bobT]⟩ .full, givQ ⟨1, [114, 111, 108, 101], []⟩ .full, givQ ⟨2, [110, 97, 109, 101], [idV [114, 101, 97, 100]]⟩ .full, givQ ⟨2, [102, 105, 101, 108, 100], [idV [120]]⟩ .full, givQ ⟨4, [110, 111, 119], [⟨4, 0, []⟩]⟩ .full, givQ ⟨3, idT, [idV [99, 49]]⟩ .full, givQ ⟨3, [111, 119, 110, 101, 114], [idV annT]⟩ .full, givQ ⟨3, [115, 116, 97, 116, 101], [idV openT]⟩ .full, givQ ⟨3, [101, 118, 101, 110, 116, 115], [⟨2, 1, []⟩]⟩ .full, givQ ⟨3, [116, 111, 111, 107], [⟨1, 0, []⟩]⟩ .full, givQ ⟨3, [108, 97, 115, 116], [idV annT]⟩ .full] runG :=
  ((((((((((GRow.one _ _).app (GRow.one _ _)).app (GRow.one _ _)).app (GRow.one _ _)).app (GRow.one _ _)).app (GRow.one _ _)).app (GRow.one _ _)).app (GRow.one _ _)).app (GRow.one _ _)).app (GRow.one _ _)).app (GRow.one _ _)
set_option maxRecDepth 100000 in
theorem casesRuns_ok (h : Heap) (he : ErrT h) : FnOK Tryz.prog 3 [] h fun r h' => r = .v (.bool true) ∧ h' = h := by
  have hd := fun (G : Heap) (hG : Ab.Sub h G) => done_ok (rdS G newD) runO1 few_new least_polE ⟨by decide, by decide⟩ ⟨by decide, by decide⟩ ⟨by decide, by decide⟩ (he.sub hG)
  have ha := fun (G : Heap) => ask_ok (rdS G runS) runO2 few_run ⟨by decide, by decide⟩
  rw [run_store] at hd
  refine FnOK.body hU hm Tryz.func3 rfl (by kernel_rfl) 23 rfl [.tmp 0] rfl (Nat.le_of_ble_eq_true rfl) (fun hwf => ?_)
  simp -implicitDefEqProofs only [go_sem]
  refine (new_ok _ he).pthen ?_
  simp -implicitDefEqProofs only [go_sem]
  refine (show FnOK Tryz.prog _ [storeA newD, opA runO1] _ _ from hd _ (.refl _)).pthen ?_
  simp -implicitDefEqProofs only [go_sem]
  intro i1 h1
  have es : storeA runS = .agg [.v (.int .i64 0), casesA runS.cases, .sl [] .no, .sl [] .no, .sl [] .no, .s openT, .v (.bool false), .v (.int .i64 6), .sl [] .no, .sl [] .no, .sl [] .no, .sl [] .no, .v (.int .i64 0)] := rfl
  rw [es] at ha ⊢
  have hcs : ∃ l, casesA runS.cases = .sl l .no := ⟨_, rfl⟩
  obtain ⟨lc, elc⟩ := hcs
  rw [elc] at ha ⊢
  simp -implicitDefEqProofs only [go_sem]
  refine (lgiven_ok _ _ _ _ _ _).pthen ?_
  simp -implicitDefEqProofs only [go_sem, valA]
  refine (lgiven_ok _ _ _ _ _ _).pthen ?_
  simp -implicitDefEqProofs only [go_sem, valA]
  refine (lgiven_ok _ _ _ _ _ _).pthen ?_
  simp -implicitDefEqProofs only [go_sem, valA]
  refine (lgiven_ok _ _ _ _ _ _).pthen ?_
  simp -implicitDefEqProofs only [go_sem, valA]
  refine (lgiven_ok _ _ _ _ _ _).pthen ?_
  simp -implicitDefEqProofs only [go_sem, valA]
  refine (lgiven_ok _ _ _ _ _ _).pthen ?_
  simp -implicitDefEqProofs only [go_sem, valA]
  refine (lgiven_ok _ _ _ _ _ _).pthen ?_
  simp -implicitDefEqProofs only [go_sem, valA]
  refine (lgiven_ok _ _ _ _ _ _).pthen ?_
  simp -implicitDefEqProofs only [go_sem, valA]
  refine (lgiven_ok _ _ _ _ _ _).pthen ?_
  simp -implicitDefEqProofs only [go_sem, valA]
  refine (lgiven_ok _ _ _ _ _ _).pthen ?_
  simp -implicitDefEqProofs only [go_sem, valA]
  refine (show FnOK Tryz.prog _ [_, opA runO2] _ _ from ha _).pthen ?_
  simp -implicitDefEqProofs only [go_sem, givsA]
  refine (asks_ok (GRow.givs (askD runS runO2)) run_rows .no .full _).pthen ?_
  simp -implicitDefEqProofs only [go_sem, run_asks]
  exact .mk _ (.refl _) (.upd_new h1) ⟨rfl, rfl⟩
def pow10V : List Value := Lib.pow10Tab.map fun z => Value.int .u64 z
def startH (ev : Value) : Heap := tabH [(3, pow10V), (2, [ev])]
theorem start_err {ev : Value} (hev : ev = .nilIface ∨ ∃ te pe, ev = .iface te pe) : ErrT (startH ev) := ⟨ev, hev, 1, rfl⟩
end Go.Proofs.YtnhelgnmadbpgaaGreatDoor

set_option linter.unusedSimpArgs false
set_option linter.unusedVariables false
namespace Go.Bf
open Go Go.Ab
def withinD (m : Int) (b : Nat) : Nat := (if m.tmod (b + 1) < 0 then m.tmod (b + 1) + (b + 1) else m.tmod (b + 1)).toNat
theorem withinD_le (m : Int) (b : Nat) : withinD m b ≤ b := by
  have t1 := Int.tmod_lt_of_pos m (show (0 : Int) < b + 1 by omega)
  have t2 := Int.lt_tmod_of_pos m (show (0 : Int) < b + 1 by omega)
  unfold withinD
  split <;> omega
end Go.Bf
namespace Go.Proofs.YtnhelgnmadbpgaaGreatDoor
open Go Go.Ab Go.Bf
theorem within_ok (m : Int) (b : Nat) (h : Heap) (hm' : -9223372036854775808 ≤ m ∧ m ≤ 9223372036854775807) (hb : b ≤ 1099511627776) :
    FnOK Tryz.prog 36 [.v (.int .i64 m), .v (.int .i64 0), .v (.int .i64 b)] h fun r h' => r = .v (.int .i64 (withinD m b)) ∧ h' = h := by
  have w0 : IntKind.i64.wrap ((b : Int) - 0) = b := IntWalk.i64_in _ (by omega)
  have w1 : IntKind.i64.wrap (b : Int) = b := IntWalk.i64_in _ (by omega)
  have w2 : IntKind.i64.wrap ((b : Int) + 1) = (b : Int) + 1 := IntWalk.i64_in _ (by omega)
  have t1 := Int.tmod_lt_of_pos m (show 0 < (b : Int) + 1 by omega)
  have t2 := Int.lt_tmod_of_pos m (show 0 < (b : Int) + 1 by omega)
  have hd : (withinD m b : Int) = if m.tmod (b + 1) < 0 then m.tmod (b + 1) + (b + 1) else m.tmod (b + 1) := by
    unfold withinD; split <;> omega
  generalize hq : m.tmod ((b : Int) + 1) = q at t1 t2 hd
  have w3 : IntKind.i64.wrap (q + b) = q + b := IntWalk.i64_in _ (by omega)
  have w4 : IntKind.i64.wrap (q + b - 0) = q + b := by rw [Int.sub_zero]; exact w3
  have w5 : IntKind.i64.wrap (q + b + 1) = q + b + 1 := IntWalk.i64_in _ (by omega)
  refine FnOK.body hU hm Tryz.func36 rfl (by kernel_rfl) 24 rfl [.tmp 6] rfl (Nat.le_of_ble_eq_true rfl) (fun hwf => ?_)
  simp -implicitDefEqProofs only [go_sem, w0, w1, w2, hq, Int.sub_zero]
  refine ⟨by omega, .intro (fun e => ?_) (fun e => ?_)⟩
  · have e := of_decide_eq_true e
    rw [if_pos e] at hd
    simp -implicitDefEqProofs only [go_sem, w3, w4, w5, Int.sub_zero]
    have w6 : IntKind.i64.wrap (0 + (q + b + 1)) = q + b + 1 := by rw [Int.zero_add]; exact w5
    have w7 : IntKind.i64.wrap (q + b + 1) = q + b + 1 := IntWalk.i64_in _ (by omega)
    simp -implicitDefEqProofs only [go_sem, w6, w7, Int.zero_add]
    exact .same (.refl _) ⟨by rw [hd]; simp only [oneOr]; rw [Int.add_assoc], rfl⟩
  · have e := of_decide_eq_false e
    rw [if_neg e] at hd
    have w7 : IntKind.i64.wrap q = q := IntWalk.i64_in q (by omega)
    have w6 : IntKind.i64.wrap (0 + q) = q := by rw [Int.zero_add]; exact w7
    simp -implicitDefEqProofs only [go_sem, w6, w7, Int.zero_add]
    exact .same (.refl _) ⟨by rw [hd]; rfl, rfl⟩
end Go.Proofs.YtnhelgnmadbpgaaGreatDoor

set_option linter.unusedSimpArgs false
set_option linter.unusedVariables false
namespace Go.Bf
open Go Go.Ab
end Go.Bf
namespace Go.Proofs.YtnhelgnmadbpgaaGreatDoor
open Go Go.Ab Go.Bf
end Go.Proofs.YtnhelgnmadbpgaaGreatDoor

set_option linter.unusedSimpArgs false
set_option linter.unusedVariables false
namespace Go.Bf
open Go Go.Ab
def isGiv (cat : Int) (name : Txt) (g : GivD) : Bool := g.cat == cat && g.name == name
def getD (l : List GivD) (cat : Int) (name : Txt) : List ValD := match l.find? (isGiv cat name) with
  | some g => g.bag
  | none => []
end Go.Bf
namespace Go.Proofs.YtnhelgnmadbpgaaGreatDoor
open Go Go.Ab Go.Bf
theorem ixGiv_ok {α : Type} (y : AV) (xs : List AV) (ds : List α) (q : α → Bool) (g : FuncId) (cap : List AV) (h : Heap) (hb : Rd h 3 y xs) (hn : xs.length = ds.length) (hl : xs.length ≤ 1000000000) (hx : ∀ x ∈ xs, isAggA x = true)
    (hp : ∀ i (h1 : i < xs.length) (h2 : i < ds.length), FnOK Tryz.prog g (xs[i] :: cap) h fun r h' => r = .v (.bool (q ds[i])) ∧ h' = h) :
    FnOK Tryz.prog 111 [y, .fn g cap] h fun r h' => r = .v (.int .i64 (ixD q ds)) ∧ h' = h := by
  refine FnOK.body hU hm Tryz.func111 rfl (by kernel_rfl) 19 rfl [.tmp 4] rfl (Nat.le_of_ble_eq_true rfl) (fun hwf => ?_)
  simp -implicitDefEqProofs only [go_sem, hb.len]
  refine .intro (fun m ρ h' => h' = h ∧ ∃ i : Nat, i ≤ xs.length ∧ m = xs.length - i ∧ (∀ j (hj : j < i) (h2 : j < ds.length), q ds[j] = false) ∧ lk ρ 0 = some y ∧ lk ρ 1 = some (.fn g cap) ∧ lk ρ 7 = some (.v (.int .i64 xs.length)) ∧ lk ρ 8 = some (.v (.int .i64 i))) xs.length ?_ ?_
  · refine ⟨rfl, 0, by omega, rfl, fun j hj => (by omega), ?_, ?_, ?_, ?_⟩ <;> simp -implicitDefEqProofs only [go_sem]
  · rintro m ρ h' ⟨rfl, i, hi, rfl, hc, r0, r1, r7, r8⟩
    simp -implicitDefEqProofs only [go_sem, r0, r1, r7, r8]
    refine .intro (fun e => ?_) (fun e => ?_)
    · have hlt : i < xs.length := Int.ofNat_lt.1 (of_decide_eq_true e)
      have hlt2 : i < ds.length := by omega
      have w1 : IntKind.i64.wrap ((i : Int) + 1) = ((i + 1 : Nat) : Int) := by rw [wr64 _ (by omega)]; omega
      simp -implicitDefEqProofs only [go_sem, r0, r1, r7, r8]
      refine hb.idx (e := 43) i rfl hlt (by simp only [go_sem]) (by decide) fun p hp1 => ?_
      have hld := hp1.all (U := U) (ty := 43) (by simp only [go_sem]) (by simp only [go_sem]; exact hb.1 _ (List.getElem_mem hlt)) (by simp only [go_sem]; rw [hx _ (List.getElem_mem hlt)])
      simp -implicitDefEqProofs only [go_sem, r0, r1, r7, r8, hld]
      refine (show FnOK Tryz.prog g (xs[i] :: cap) _ _ from hp i hlt hlt2).pthen ?_
      cases d1 : q ds[i]
      · simp -implicitDefEqProofs only [go_sem, r0, r1, r7, r8, w1]
        refine ⟨_, ?_, rfl, i + 1, by omega, rfl, fun j hj h2 => ?_, ?_, ?_, ?_, ?_⟩
        · omega
        · by_cases hji : j = i
          · subst hji; exact d1
          · exact hc j (by omega) h2
        all_goals simp -implicitDefEqProofs only [go_sem, r0, r1, r7, r8, w1]
      · simp -implicitDefEqProofs only [go_sem, r0, r1, r7, r8]
        exact .same (.refl _) ⟨by rw [ixD_at hlt2 d1 fun j hj => hc j hj (by omega)]; rfl, rfl⟩
    · have hge : i = xs.length := by have := of_decide_eq_false e; omega
      simp -implicitDefEqProofs only [go_sem, r0, r1, r7, r8]
      exact .same (.refl _) ⟨by rw [ixD_none fun j hj => hc j (by omega) hj]; rfl, rfl⟩
theorem place1_ok {h : Heap} (g : GivD) {k1 k2 : Nat} {cat : Int} {name : Txt} (h1 : h k1 = some (.obj [.v (.int .i64 cat)] 3)) (h2 : h k2 = some (.obj [.s name] 9)) : FnOK Tryz.prog 112 [givA g, .ptr k1 0, .ptr k2 0] h fun r h' => r = .v (.bool (isGiv cat name g)) ∧ h' = h := by
  refine FnOK.body hU hm Tryz.func112 rfl (by kernel_rfl) 15 rfl [.tmp 4] rfl (Nat.le_of_ble_eq_true rfl) (fun hwf => ?_)
  simp -implicitDefEqProofs only [go_sem, givA]
  intro i1 hi1
  have n1 : k1 ≠ i1 := fun e => by subst e; rw [h1] at hi1; cases hi1
  have n2 : k2 ≠ i1 := fun e => by subst e; rw [h2] at hi1; cases hi1
  simp -implicitDefEqProofs only [go_sem, upd_ne, n1, n1.symm, n2, n2.symm, h1, h2]
  cases d1 : (g.cat == cat)
  · simp -implicitDefEqProofs only [go_sem, upd_ne, n1, n1.symm, n2, n2.symm, h1, h2, d1]
    exact .mk _ (.refl _) (.upd_new hi1) ⟨by simp only [isGiv, d1]; rfl, rfl⟩
  · simp -implicitDefEqProofs only [go_sem, upd_ne, n1, n1.symm, n2, n2.symm, h1, h2, d1]
    exact .mk _ (.refl _) (.upd_new hi1) ⟨by simp only [isGiv, d1]; rfl, rfl⟩
theorem place_ok (gs : List GivD) (cat : Int) (name : Txt) (hl : gs.length ≤ 1000000000) (h : Heap) : FnOK Tryz.prog 77 [givsA gs, .v (.int .i64 cat), .s name] h fun r h' => r = .v (.int .i64 (ixD (isGiv cat name) gs)) ∧ h' = h := by
  refine FnOK.body hU hm Tryz.func77 rfl (by kernel_rfl) 10 rfl [.tmp 6] rfl (Nat.le_of_ble_eq_true rfl) (fun hwf => ?_)
  simp -implicitDefEqProofs only [go_sem, givsA]
  intro i1 h1
  simp -implicitDefEqProofs only [go_sem]
  intro i2 h2
  have n21 := ne_upd h2
  have n2 := upd_none h2
  have hs : ∀ a b, Ab.Sub h (upd (upd h i1 a) i2 b) := fun a b => ((Sub.refl h).put h1 a).put n2 b
  simp -implicitDefEqProofs only [go_sem, upd_ne, n21, n21.symm]
  refine (ixGiv_ok _ _ gs (isGiv cat name) _ [.ptr i1 0, .ptr i2 0] _ (rd_map givA 3 (fun _ => rfl) _ gs) (by simp) (by simpa using hl) (agg_map (fun _ => rfl) _) fun i a b => by
    rw [List.getElem_map]; exact place1_ok _ (by rw [upd_other _ _ n21.symm, upd_same]) (upd_same ..)).pthen ?_
  simp -implicitDefEqProofs only [go_sem]
  exact .mk _ (.refl _) (hs _ _) ⟨rfl, rfl⟩
theorem get_at {gs : List GivD} {cat : Int} {name : Txt} (h : gs.findIdx (isGiv cat name) < gs.length) : getD gs cat name = gs[gs.findIdx (isGiv cat name)].bag := by
  unfold getD
  rw [show gs.find? (isGiv cat name) = some gs[gs.findIdx (isGiv cat name)] from List.find?_eq_some_iff_getElem.2 ⟨List.findIdx_getElem (w := h), _, h, rfl, fun j hj => by simpa using List.not_of_lt_findIdx hj⟩]
theorem get_no {gs : List GivD} {cat : Int} {name : Txt} (h : ¬ gs.findIdx (isGiv cat name) < gs.length) : getD gs cat name = [] := by
  unfold getD
  have e : gs.findIdx (isGiv cat name) = gs.length := by
    have : gs.findIdx (isGiv cat name) ≤ gs.length := List.findIdx_le_length
    omega
  rw [List.find?_eq_none.2 fun x hx => by simpa using List.findIdx_eq_length.1 e x hx]
theorem get_ok (gs : List GivD) (cat : Int) (name : Txt) (hl : gs.length ≤ 1000000000) (hb : ∀ g ∈ gs, g.bag.length ≤ 1000000) (h : Heap) : FnOK Tryz.prog 39 [givsA gs, .agg [.v (.int .i64 cat), .s name, .v (.bool false)]] h fun r h' => r = .tup [.sl ((getD gs cat name).map valA) .no, .v (.int .i64 0)] ∧ h' = h := by
  have hpl := fun G => place_ok gs cat name hl G
  simp only [givsA] at hpl
  refine FnOK.body hU hm Tryz.func39 rfl (by kernel_rfl) 30 rfl [.tmp 4, .tmp 5] rfl (Nat.le_of_ble_eq_true rfl) (fun hwf => ?_)
  simp -implicitDefEqProofs only [go_sem, givsA]
  intro i1 h1
  simp -implicitDefEqProofs only [go_sem]
  refine (hpl _).pthen ?_
  by_cases hx : gs.findIdx (isGiv cat name) < gs.length
  · have e1 : ixD (isGiv cat name) gs = (gs.findIdx (isGiv cat name) : Nat) := by rw [ixD]; exact if_pos hx
    have d1 : decide ((0 : Int) ≤ ((gs.findIdx (isGiv cat name) : Nat) : Int)) = true := decide_eq_true (by omega)
    rw [e1]
    simp -implicitDefEqProofs only [go_sem, d1]
    refine .at (gs.findIdx (isGiv cat name)) (by simpa using hx) (by rw [List.getElem_map]; rfl) ?_
    simp -implicitDefEqProofs only [go_sem, List.getElem_map, givA]
    rw [if_neg (fun hh => hh.1)]
    have hlb := hb _ (List.getElem_mem hx)
    refine (clpValue_ok _ (gs[gs.findIdx (isGiv cat name)].bag.map valA) _ (rd_map valA 3 (fun _ => rfl) _ _) (by simpa using hlb) (pureL_map (fun _ => rfl) _)).pthen ?_
    cases d2 : ((gs[gs.findIdx (isGiv cat name)].bag.length : Int) == 0)
    · simp -implicitDefEqProofs only [go_sem, d1, d2, List.length_map]
      exact .mk _ (.refl _) (.upd_new h1) ⟨by rw [get_at hx]; rfl, rfl⟩
    · simp -implicitDefEqProofs only [go_sem, d1, d2, List.length_map]
      exact .mk _ (.refl _) (.upd_new h1) ⟨by rw [get_at hx]; rfl, rfl⟩
  · have e1 : ixD (isGiv cat name) gs = -1 := by rw [ixD]; exact if_neg hx
    have d1 : decide ((0 : Int) ≤ -1) = false := rfl
    rw [e1]
    simp -implicitDefEqProofs only [go_sem, d1]
    refine .mk (.tup [.sl [] .no, .v (.int .i64 0)]) (.tup _ _ rfl fun i a b => ?_) (.upd_new h1) ⟨by rw [get_no hx]; rfl, rfl⟩
    rcases i with _ | _ | i
    · exact .sl _ _
    · exact .refl _
    · simp at a; omega
end Go.Proofs.YtnhelgnmadbpgaaGreatDoor

set_option linter.unusedSimpArgs false
set_option linter.unusedVariables false
namespace Go.Bf
open Go Go.Ab
def tickS (now : Int) : StoreD := ⟨now, [], [], [], [], leastP, 0⟩
def tickO (n : Int) : OpD := ⟨8, annT, [], [], [], zeroVal, n, [], [], false⟩
theorem tick_form {n : Int} (h1 : 0 < n) (h2 : n ≤ 1099511627776) : formD (tickO n) = true := by
  have e : nameOK annT = true := by kernel_rfl
  have t : takesD (tickO n) = true := by
    simp only [takesD, okD, tickO, bareD, onlyD, eqOp, zeroVal]
    simp [h1, h2]
  have e2 : nameOK [] = false := by kernel_rfl
  simp only [formD, t]
  simp [tickO, e, reasonD, emptyD, eqV, zeroVal]
theorem tick_ready {now n : Int} (h1 : 0 < n) (h2 : n ≤ 1099511627776) : readyD (tickS now) (tickO n) = if now > 1099511627776 - n then 6 else 0 := by
  unfold readyD
  rw [tick_form h1 h2]
  simp [tickO, tickS]
theorem tick_done {now n : Int} (par : Txt → PolD × Int × Int) (h1 : 0 < n) (h2 : n ≤ 1099511627776) : doneD par (tickS now) (tickO n) = if now > 1099511627776 - n then tickS now else tickS (now + n) := by
  unfold doneD
  rw [tick_ready h1 h2]
  by_cases h : now > 1099511627776 - n
  · simp [h]
  · simp only [h, if_false, if_true]
    simp [doD, tickO, tickS]
theorem tick_ask (now n : Int) : getD (askD (tickS now) (tickO n)) 4 [110, 111, 119] = [⟨4, now, []⟩] := by
  simp [askD, getD, isGiv, tickO, tickS, thereD, idT, List.find?]
end Go.Bf
namespace Go.Proofs.YtnhelgnmadbpgaaGreatDoor
open Go Go.Ab Go.Bf
def tickC (now : Int) : List AV := [.v (.int .i64 now), .sl [] .no, .sl [] .no, .sl [] .no, .sl [] .no, .s [111, 112, 101, 110], .v (.bool false), .v (.int .i64 6), .sl [] .no, .sl [] .no, .sl [] .no, .sl [] .no, .v (.int .i64 0)]
theorem tickC_eq (now : Int) : storeA (tickS now) = .agg (tickC now) := rfl
theorem few_tick (now : Int) : Few (tickS now) := ⟨by simp [tickS], fun c hc => (by cases hc), fun c hc => (by cases hc), by simp [tickS], by simp [tickS], by simp [tickS]⟩
theorem ask_bags (s : StoreD) (o : OpD) : ∀ g ∈ askD s o, g.bag.length ≤ 1000000 := by
  intro g hg
  have hle := rolesOf_le s.roles o.subj
  simp only [askD, List.mem_append, List.mem_cons, List.not_mem_nil, or_false] at hg
  rcases hg with (((((rfl | rfl | rfl) | hg) | hg) | rfl) | hg)
  · simp
  · simp only; omega
  · simp
  · split at hg
    · cases hg
    · rw [List.mem_singleton.1 hg]; simp
  · split at hg
    · cases hg
    · rw [List.mem_singleton.1 hg]; simp
  · simp
  · split at hg
    · simp only [askCaseD, List.mem_append, List.mem_cons, List.not_mem_nil, or_false, List.mem_map] at hg
      rcases hg with (((rfl | rfl | rfl | rfl | rfl) | hg) | ⟨f, _, rfl⟩)
      · simp
      · simp
      · simp
      · simp
      · simp
      · split at hg
        · rw [List.mem_singleton.1 hg]; simp
        · cases hg
      · simp
    · cases hg
set_option maxRecDepth 100000 in
theorem casesTicks_ok (x : AV) (dx : Dat U 77 x) (h : Heap) (he : ErrT h) : FnOK Tryz.prog 11 [x] h fun r h' => r = .v (.bool true) ∧ h' = h := by
  obtain ⟨l, rfl, hl, hln⟩ := dx.ints (e := 3) (by simp only [go_sem]) (by simp only [go_sem])
  have hml : maxLen = 9223372036854775807 := rfl
  refine FnOK.body hU hm Tryz.func11 rfl (by kernel_rfl) 78 rfl [.tmp 2] rfl (Nat.le_of_ble_eq_true rfl) (fun hwf => ?_)
  simp -implicitDefEqProofs only [go_sem]
  refine (new_ok _ he).pthen ?_
  rw [show storeA newD = .agg (tickC 0) from rfl]
  simp -implicitDefEqProofs only [go_sem, tickC]
  intro i3 h3
  simp -implicitDefEqProofs only [go_sem]
  refine .intro (fun m ρ H => ∃ (i : Nat) (now : Int), H i3 = some (.obj (tickC now) 34) ∧ Ab.Sub h H ∧ 0 ≤ now ∧ now ≤ 1099511627776 ∧ i ≤ l.length ∧ m = l.length - i ∧ lk ρ 0 = some (.sl (l.map iA) .no) ∧ lk ρ 3 = some (.ptr i3 0) ∧ lk ρ 4 = some (.v (.int .i64 now)) ∧ lk ρ 5 = some (.v (.int .i64 i))) l.length ?_ ?_
  · refine ⟨0, 0, upd_same .., .upd_new h3, by omega, by omega, by omega, rfl, ?_, ?_, ?_, ?_⟩ <;> simp -implicitDefEqProofs only [go_sem]
  · rintro m ρ H ⟨i, now, g3, hs, hn0, hn1, hi, rfl, r0, r3, r4, r5⟩
    simp only [tickC] at g3
    simp -implicitDefEqProofs only [go_sem, r0, r3, r4, r5, List.length_map]
    cases d1 : decide ((i : Int) < (l.length : Int))
    · simp -implicitDefEqProofs only [go_sem, r0, r3, r4, r5, List.length_map, d1]
      refine (casesRuns_ok _ (he.sub hs)).pthen ?_
      simp -implicitDefEqProofs only [go_sem, r0, r3, r4, r5]
      exact .mk _ (.refl _) hs ⟨rfl, rfl⟩
    · have hlt : i < l.length := Int.ofNat_lt.1 (of_decide_eq_true d1)
      simp -implicitDefEqProofs only [go_sem, r0, r3, r4, r5, List.length_map, d1]
      cases d2 : decide ((i : Int) < 30)
      · simp -implicitDefEqProofs only [go_sem, r0, r3, r4, r5, List.length_map, d1, d2]
        refine (casesRuns_ok _ (he.sub hs)).pthen ?_
        simp -implicitDefEqProofs only [go_sem, r0, r3, r4, r5]
        exact .mk _ (.refl _) hs ⟨rfl, rfl⟩
      · simp -implicitDefEqProofs only [go_sem, r0, r3, r4, r5, List.length_map, d1, d2]
        have hlm := hln _ (List.getElem_mem hlt)
        refine .at i (by simpa using hlt) (by rw [List.getElem_map]; rfl) ?_
        simp -implicitDefEqProofs only [go_sem, r0, r3, r4, r5, List.getElem_map, iA]
        refine (within_ok l[i] 1099511627775 _ hlm (by decide)).pthen ?_
        have hwl := withinD_le l[i] 1099511627775
        obtain ⟨n, en⟩ : ∃ n : Int, 1 + ((withinD l[i] 1099511627775 : Nat) : Int) = n := ⟨_, rfl⟩
        have n1 : 0 < n := by omega
        have n2 : n ≤ 1099511627776 := by omega
        have w1 : IntKind.i64.wrap n = n := wr64 _ (by omega)
        have w2 : IntKind.i64.wrap (1099511627776 - now) = 1099511627776 - now := wr64 _ (by omega)
        have w3 : IntKind.i64.wrap (now + n) = now + n := wr64 _ (by omega)
        have w4 : IntKind.i64.wrap ((i : Int) + 1) = ((i + 1 : Nat) : Int) := by rw [wr64 _ (by omega)]; omega
        simp -implicitDefEqProofs only [go_sem, r0, r3, r4, r5, en, w1]
        intro i7 h7
        have n37 : i3 ≠ i7 := fun e => by rw [← e, g3] at h7; cases h7
        simp -implicitDefEqProofs only [go_sem, upd_ne, n37, n37.symm, g3, r0, r3, r4, r5, w2]
        have hrd := fun (G : Heap) => ready_ok (rdS G (tickS now)) (tickO n) (few_tick now) ⟨by simp only [tickO]; omega, by simp only [tickO]; omega⟩ ⟨by simp only [tickS]; omega, by simp only [tickS]; omega⟩
        have hdn := fun (G : Heap) (hG : Ab.Sub h G) => done_ok (rdS G (tickS now)) (tickO n) (few_tick now) least_polE ⟨by simp only [tickO]; omega, by simp only [tickO]; omega⟩ ⟨by simp only [tickS]; omega, by simp only [tickS]; omega⟩ ⟨by simp [tickS], by simp [tickS]⟩ (he.sub hG)
        rw [tick_ready n1 n2] at hrd
        rw [tick_done _ n1 n2] at hdn
        refine (show FnOK Tryz.prog _ [storeA (tickS now), opA (tickO n)] _ _ from hrd _).pthen ?_
        have hask := fun (G : Heap) (now' : Int) => ask_ok (rdS G (tickS now')) (tickO n) (few_tick now') ⟨by simp [tickO], by simp [tickO]⟩
        have hget := fun (G : Heap) (now' : Int) => get_ok (askD (tickS now') (tickO n)) 4 [110, 111, 119] (by simp [askD, tickO, tickS, thereD, annT]) (ask_bags _ _) G
        simp only [tick_ask] at hget
        by_cases hf : now > 1099511627776 - n
        · have d3 : decide (n ≤ 1099511627776 - now) = false := decide_eq_false (by omega)
          simp only [hf, if_true] at hrd hdn ⊢
          simp -implicitDefEqProofs only [go_sem, upd_ne, n37, n37.symm, g3, r0, r3, r4, r5, w2, d3]
          refine (show FnOK Tryz.prog _ [storeA (tickS now), opA (tickO n)] _ _ from hrd _).pthen ?_
          simp -implicitDefEqProofs only [go_sem, upd_ne, n37, n37.symm, g3, r0, r3, r4, r5, w2, d3]
          refine (show FnOK Tryz.prog _ [storeA (tickS now), opA (tickO n)] _ _ from hdn _ (hs.trans (.upd_new h7))).pthen ?_
          rw [tickC_eq]
          simp -implicitDefEqProofs only [go_sem, upd_ne, n37, n37.symm, g3, r0, r3, r4, r5, w2, d3, tickC]
          refine (show FnOK Tryz.prog _ [storeA (tickS now), opA (tickO n)] _ _ from hask _ now).pthen ?_
          simp -implicitDefEqProofs only [go_sem, upd_ne, n37, n37.symm, g3, r0, r3, r4, r5, w2]
          refine (hget _ now).pthen ?_
          simp -implicitDefEqProofs only [go_sem, upd_ne, n37, n37.symm, g3, r0, r3, r4, r5, w2, List.map_cons, List.map_nil, valA]
          refine (show FnOK Tryz.prog _ [.sl ([(⟨4, now, []⟩ : ValD)].map valA) .no, .sl ([(⟨4, now, []⟩ : ValD)].map valA) .full] _ _ from sameValue_ok _ _ _ _ _).pthen ?_
          have heq : eqL eqVal [(⟨4, now, []⟩ : ValD)] [(⟨4, now, []⟩ : ValD)] = true := (eqL_eq eqVal_eq).2 rfl
          simp -implicitDefEqProofs only [go_sem, upd_ne, n37, n37.symm, g3, r0, r3, r4, r5, w2, heq, w4]
          refine ⟨_, ?_, i + 1, now, upd_same .., (Sub.put (hs.trans (.upd_new h7)) h3 _), by omega, by omega, by omega, rfl, ?_, ?_, ?_, ?_⟩
          · omega
          all_goals simp -implicitDefEqProofs only [go_sem, r0, r3, r4, r5, w4]
        · have d3 : decide (n ≤ 1099511627776 - now) = true := decide_eq_true (by omega)
          simp only [hf, if_false] at hrd hdn ⊢
          simp -implicitDefEqProofs only [go_sem, upd_ne, n37, n37.symm, g3, r0, r3, r4, r5, w2, d3]
          refine (show FnOK Tryz.prog _ [storeA (tickS now), opA (tickO n)] _ _ from hdn _ (hs.trans (.upd_new h7))).pthen ?_
          rw [tickC_eq]
          simp -implicitDefEqProofs only [go_sem, upd_ne, n37, n37.symm, g3, r0, r3, r4, r5, w2, d3, tickC, w3]
          refine (show FnOK Tryz.prog _ [storeA (tickS (now + n)), opA (tickO n)] _ _ from hask _ (now + n)).pthen ?_
          simp -implicitDefEqProofs only [go_sem, upd_ne, n37, n37.symm, g3, r0, r3, r4, r5, w2]
          refine (hget _ (now + n)).pthen ?_
          simp -implicitDefEqProofs only [go_sem, upd_ne, n37, n37.symm, g3, r0, r3, r4, r5, w2, List.map_cons, List.map_nil, valA]
          refine (show FnOK Tryz.prog _ [.sl ([(⟨4, (now + n), []⟩ : ValD)].map valA) .no, .sl ([(⟨4, (now + n), []⟩ : ValD)].map valA) .full] _ _ from sameValue_ok _ _ _ _ _).pthen ?_
          have heq : eqL eqVal [(⟨4, (now + n), []⟩ : ValD)] [(⟨4, (now + n), []⟩ : ValD)] = true := (eqL_eq eqVal_eq).2 rfl
          simp -implicitDefEqProofs only [go_sem, upd_ne, n37, n37.symm, g3, r0, r3, r4, r5, w2, heq, w4]
          refine ⟨_, ?_, i + 1, (now + n), upd_same .., (Sub.put (hs.trans (.upd_new h7)) h3 _), by omega, by omega, by omega, rfl, ?_, ?_, ?_, ?_⟩
          · omega
          all_goals simp -implicitDefEqProofs only [go_sem, r0, r3, r4, r5, w4]
theorem casesTicks_law (ev : Value) (hev : ev = .nilIface ∨ ∃ te pe, ev = .iface te pe) (x : AV) (dx : Dat U 77 x) : FnOK Tryz.prog 11 [x] (tabH [(3, pow10V), (2, [ev])]) fun r _ => r = .v (.bool true) := (casesTicks_ok x dx _ (start_err hev)).mono fun _ _ h => h.1
end Go.Proofs.YtnhelgnmadbpgaaGreatDoor
