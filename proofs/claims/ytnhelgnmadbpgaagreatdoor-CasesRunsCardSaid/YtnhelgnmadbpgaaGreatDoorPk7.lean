/- The law CasesRuns: pack 7 of its texts. -/
import Derived.Lib.ItoaLen
import Derived.Test.YtnhelgnmadbpgaaGreatDoorPk1
import Derived.Test.YtnhelgnmadbpgaaGreatDoorPk2
import Derived.Test.YtnhelgnmadbpgaaGreatDoorPk3
import Derived.Test.YtnhelgnmadbpgaaGreatDoorPk4
import Derived.Test.YtnhelgnmadbpgaaGreatDoorPk5
import Derived.Test.YtnhelgnmadbpgaaGreatDoorPk6
set_option linter.unusedSimpArgs false
set_option linter.unusedVariables false
namespace Go.Bf
open Go Go.Ab
def eqGiv (g h : GivD) : Bool := g.cat == h.cat && (g.name == h.name && eqL eqVal g.bag h.bag)
def asksD (a b : List GivD) : Bool := decide (a.length = b.length) && a.all fun g => b.any (eqGiv g)
theorem any_succ {α : Type} {q : α → Bool} {l : List α} {i : Nat} (h : i < l.length) : (l.take (i + 1)).any q = ((l.take i).any q || q l[i]) := by
  rw [List.take_succ_eq_append_getElem h, List.any_append]; simp
theorem asksD_true {a b : List GivD} (h1 : a.length = b.length) (h2 : ∀ j (h : j < a.length), b.any (eqGiv a[j]) = true) : asksD a b = true := by
  simp only [asksD, Bool.and_eq_true, decide_eq_true_eq, List.all_eq_true]
  refine ⟨h1, fun g hg => ?_⟩
  obtain ⟨j, hj, rfl⟩ := List.mem_iff_getElem.1 hg
  exact h2 j hj
theorem asksD_len {a b : List GivD} (h1 : a.length ≠ b.length) : asksD a b = false := by simp [asksD, h1]
theorem asksD_at {a b : List GivD} (j : Nat) (h : j < a.length) (h2 : b.any (eqGiv a[j]) = false) : asksD a b = false := by
  simp only [asksD, Bool.and_eq_false_iff]
  exact .inr (List.all_eq_false.2 ⟨_, List.getElem_mem h, by rw [h2]; decide⟩)
end Go.Bf
namespace Go.Proofs.YtnhelgnmadbpgaaGreatDoor
open Go Go.Ab Go.Bf
set_option maxRecDepth 100000 in
theorem asks_ok {xs ys : List AV} {a b : List GivD} (hx : GRow xs a) (hy : GRow ys b) (q1 q2 : Perm) (h : Heap) : FnOK Tryz.prog 16 [.sl xs q1, .sl ys q2] h fun r h' => r = .v (.bool (asksD a b)) ∧ h' = h := by
  have hxl := hx.1
  have hyl := hy.1
  refine FnOK.body hU hm Tryz.func16 rfl (by kernel_rfl) 53 rfl [.tmp 4] rfl (Nat.le_of_ble_eq_true rfl) (fun hwf => ?_)
  have hlx : xs.length < lim := hwf (.sl xs q1) (by simp)
  have hly : ys.length < lim := hwf (.sl ys q2) (by simp)
  simp only [lim] at hlx hly
  cases d1 : ((a.length : Int) != (b.length : Int))
  case true =>
    have e1 : a.length ≠ b.length := by
      intro e; rw [e] at d1; simp at d1
    simp -implicitDefEqProofs only [go_sem, hxl, hyl, d1]
    exact .same (.refl _) ⟨by rw [asksD_len e1]; rfl, rfl⟩
  have e1 : a.length = b.length := by have : (a.length : Int) = b.length := by simpa using d1
                                      omega
  simp -implicitDefEqProofs only [go_sem, hxl, hyl, d1]
  refine .intro (fun m ρ h' => Ab.Sub h h' ∧ ∃ i : Nat, i ≤ a.length ∧ m = a.length - i ∧ (∀ j (h1 : j < a.length), j < i → b.any (eqGiv a[j]) = true) ∧ lk ρ 1 = some (.sl ys q2) ∧ lk ρ 15 = some (.sl xs q1) ∧ lk ρ 16 = some (.v (.int .i64 a.length)) ∧ lk ρ 17 = some (.v (.int .i64 i))) a.length ?_ ?_
  · refine ⟨.refl _, 0, by omega, rfl, fun j _ hj => (by omega), ?_, ?_, ?_, ?_⟩ <;> simp -implicitDefEqProofs only [go_sem]
  · rintro m ρ h' ⟨hs, i, hi, rfl, hc, r1, r15, r16, r17⟩
    simp -implicitDefEqProofs only [go_sem, r1, r15, r16, r17]
    refine .intro (fun e => ?_) (fun e => ?_)
    · have hlt : i < a.length := Int.ofNat_lt.1 (of_decide_eq_true e)
      have hltx : i < xs.length := by omega
      have w1 : IntKind.i64.wrap ((i : Int) + 1) = ((i + 1 : Nat) : Int) := by rw [wr64 _ (by omega)]; omega
      obtain ⟨qi, exi⟩ := hx.2 i hltx hlt
      simp -implicitDefEqProofs only [go_sem, r1, r15, r16, r17]
      refine .at i hltx (by rw [exi]; rfl) ?_
      simp -implicitDefEqProofs only [go_sem, r1, r15, r16, r17, exi, givQ]
      intro i6 h6
      simp -implicitDefEqProofs only [go_sem, r1, r15, r16, r17, hyl]
      refine .intro (fun m ρ G => Ab.Sub h' G ∧ G i6 = some (.obj [.v (.int .i64 a[i].cat), .s a[i].name, .sl (a[i].bag.map valA) qi] 43) ∧ ∃ j : Nat, j ≤ b.length ∧ m = b.length - j ∧ lk ρ 1 = some (.sl ys q2) ∧ lk ρ 15 = some (.sl xs q1) ∧ lk ρ 16 = some (.v (.int .i64 a.length)) ∧ lk ρ 17 = some (.v (.int .i64 i)) ∧ lk ρ 6 = some (.ptr i6 0) ∧ lk ρ 7 = some (.v (.bool ((b.take j).any (eqGiv a[i])))) ∧ lk ρ 21 = some (.sl ys q2) ∧ lk ρ 22 = some (.v (.int .i64 b.length)) ∧ lk ρ 23 = some (.v (.int .i64 j))) b.length ?_ ?_
      · refine ⟨.upd_new h6, upd_same .., 0, by omega, rfl, ?_, ?_, ?_, ?_, ?_, ?_, ?_, ?_, ?_⟩ <;> simp -implicitDefEqProofs only [go_sem, r1, r15, r16, r17, List.take_zero, List.any_nil]
      · rintro m ρ G ⟨hG, g6, j, hj, rfl, r1, r15, r16, r17, r6, r7, r21, r22, r23⟩
        simp -implicitDefEqProofs only [go_sem, r1, r15, r16, r17, r6, r7, r21, r22, r23]
        refine .intro (fun e => ?_) (fun e => ?_)
        · have hlt2 : j < b.length := Int.ofNat_lt.1 (of_decide_eq_true e)
          have hlty : j < ys.length := by omega
          have w2 : IntKind.i64.wrap ((j : Int) + 1) = ((j + 1 : Nat) : Int) := by rw [wr64 _ (by omega)]; omega
          obtain ⟨qj, eyj⟩ := hy.2 j hlty hlt2
          simp -implicitDefEqProofs only [go_sem, r1, r15, r16, r17, r6, r7, r21, r22, r23]
          refine .at j hlty (by rw [eyj]; rfl) ?_
          simp -implicitDefEqProofs only [go_sem, r1, r15, r16, r17, r6, r7, r21, r22, r23, eyj, givQ]
          intro i9 h9
          have n96 : i6 ≠ i9 := fun e => by rw [← e, g6] at h9; cases h9
          simp -implicitDefEqProofs only [go_sem, upd_ne, n96, n96.symm, g6, r1, r15, r16, r17, r6, r7, r21, r22, r23]
          have hG9 : ∀ b, Ab.Sub h' (upd G i9 b) := fun b => hG.put (hG.none h9) b
          have g69 : ∀ b, upd G i9 b i6 = _ := fun b => (upd_other _ _ n96).trans g6
          cases d0 : (b.take j).any (eqGiv a[i])
          · simp -implicitDefEqProofs only [go_sem, upd_ne, n96, n96.symm, g6, r1, r15, r16, r17, r6, r7, r21, r22, r23, d0]
            cases dc : (a[i].cat == b[j].cat)
            · have ef : (b.take (j + 1)).any (eqGiv a[i]) = false := by rw [any_succ hlt2, d0, eqGiv, dc]; rfl
              simp -implicitDefEqProofs only [go_sem, upd_ne, n96, n96.symm, g6, r1, r15, r16, r17, r6, r7, r21, r22, r23, d0, dc, w2]
              refine ⟨_, ?_, hG9 _, g69 _, j + 1, by omega, rfl, ?_, ?_, ?_, ?_, ?_, ?_, ?_, ?_, ?_⟩
              · omega
              all_goals simp -implicitDefEqProofs only [go_sem, r1, r15, r16, r17, r6, r7, r21, r22, r23, ef, w2]
            · simp -implicitDefEqProofs only [go_sem, upd_ne, n96, n96.symm, g6, r1, r15, r16, r17, r6, r7, r21, r22, r23, d0, dc]
              cases dn : (a[i].name == b[j].name)
              · have ef : (b.take (j + 1)).any (eqGiv a[i]) = false := by rw [any_succ hlt2, d0, eqGiv, dc, dn]; rfl
                simp -implicitDefEqProofs only [go_sem, upd_ne, n96, n96.symm, g6, r1, r15, r16, r17, r6, r7, r21, r22, r23, d0, dc, dn, w2]
                refine ⟨_, ?_, hG9 _, g69 _, j + 1, by omega, rfl, ?_, ?_, ?_, ?_, ?_, ?_, ?_, ?_, ?_⟩
                · omega
                all_goals simp -implicitDefEqProofs only [go_sem, r1, r15, r16, r17, r6, r7, r21, r22, r23, ef, w2]
              · simp -implicitDefEqProofs only [go_sem, upd_ne, n96, n96.symm, g6, r1, r15, r16, r17, r6, r7, r21, r22, r23, d0, dc, dn]
                refine (sameValue_ok a[i].bag b[j].bag qi qj _).pthen ?_
                have ef : (b.take (j + 1)).any (eqGiv a[i]) = eqL eqVal a[i].bag b[j].bag := by rw [any_succ hlt2, d0, eqGiv, dc, dn]; rfl
                simp -implicitDefEqProofs only [go_sem, upd_ne, n96, n96.symm, g6, r1, r15, r16, r17, r6, r7, r21, r22, r23, d0, dc, dn, w2]
                refine ⟨_, ?_, hG9 _, g69 _, j + 1, by omega, rfl, ?_, ?_, ?_, ?_, ?_, ?_, ?_, ?_, ?_⟩
                · omega
                all_goals simp -implicitDefEqProofs only [go_sem, r1, r15, r16, r17, r6, r7, r21, r22, r23, ef, w2]
          · have ef : (b.take (j + 1)).any (eqGiv a[i]) = true := by rw [any_succ hlt2, d0]; rfl
            simp -implicitDefEqProofs only [go_sem, upd_ne, n96, n96.symm, g6, r1, r15, r16, r17, r6, r7, r21, r22, r23, d0, w2]
            refine ⟨_, ?_, hG9 _, g69 _, j + 1, by omega, rfl, ?_, ?_, ?_, ?_, ?_, ?_, ?_, ?_, ?_⟩
            · omega
            all_goals simp -implicitDefEqProofs only [go_sem, r1, r15, r16, r17, r6, r7, r21, r22, r23, ef, w2]
        · have hge : j = b.length := by have := of_decide_eq_false e; omega
          subst hge
          rw [List.take_length] at r7
          simp -implicitDefEqProofs only [go_sem, r1, r15, r16, r17, r6, r7, r21, r22, r23]
          cases d0 : b.any (eqGiv a[i])
          · simp -implicitDefEqProofs only [go_sem, r1, r15, r16, r17, r6, r7, r21, r22, r23, d0]
            exact .mk _ (.refl _) (hs.trans hG) ⟨by rw [asksD_at i hlt d0]; rfl, rfl⟩
          · simp -implicitDefEqProofs only [go_sem, r1, r15, r16, r17, r6, r7, r21, r22, r23, d0, w1]
            refine ⟨_, ?_, hs.trans hG, i + 1, by omega, rfl, fun k h1 hk => ?_, ?_, ?_, ?_, ?_⟩
            · omega
            · by_cases hki : k = i
              · subst hki; exact d0
              · exact hc k h1 (by omega)
            all_goals simp -implicitDefEqProofs only [go_sem, r1, r15, r16, r17, r6, r7, r21, r22, r23, w1]
    · have hge : i = a.length := by have := of_decide_eq_false e; omega
      subst hge
      simp -implicitDefEqProofs only [go_sem, r1, r15, r16, r17]
      exact .mk _ (.refl _) hs ⟨by rw [asksD_true e1 fun j h1 => hc j h1 h1]; rfl, rfl⟩
end Go.Proofs.YtnhelgnmadbpgaaGreatDoor

set_option linter.unusedSimpArgs false
set_option linter.unusedVariables false
namespace Go.Bf
def annT : Txt := [97, 110, 110]
def bobT : Txt := [98, 111, 98]
def runO1 : OpD := ⟨1, annT, [99, 49], [], [], zeroVal, 0, [], [], false⟩
def runO2 : OpD := ⟨2, bobT, [99, 49], [120], [], zeroVal, 0, [], [], false⟩
def runS : StoreD := ⟨0, [⟨[99, 49], annT, openT, [], [⟨0, annT, [110, 101, 119]⟩]⟩], [], [], [], leastP, 0⟩
def runG : List GivD := [⟨1, idT, [idV bobT]⟩, ⟨1, [114, 111, 108, 101], []⟩, ⟨2, [110, 97, 109, 101], [idV [114, 101, 97, 100]]⟩, ⟨2, [102, 105, 101, 108, 100], [idV [120]]⟩, ⟨4, [110, 111, 119], [⟨4, 0, []⟩]⟩, ⟨3, idT, [idV [99, 49]]⟩, ⟨3, [111, 119, 110, 101, 114], [idV annT]⟩, ⟨3, [115, 116, 97, 116, 101], [idV openT]⟩, ⟨3, [101, 118, 101, 110, 116, 115], [⟨2, 1, []⟩]⟩, ⟨3, [116, 111, 111, 107], [⟨1, 0, []⟩]⟩, ⟨3, [108, 97, 115, 116], [idV annT]⟩]
end Go.Bf
namespace Go.Proofs.YtnhelgnmadbpgaaGreatDoor
open Go Go.Ab Go.Bf
theorem run_store : doneD parseD newD runO1 = runS := by kernel_rfl
theorem run_asks : asksD (askD runS runO2) runG = true := by kernel_rfl
theorem few_run : Few runS := ⟨by decide, fun c hc => (by rw [List.mem_singleton.1 hc]; decide), fun c hc => (by rw [List.mem_singleton.1 hc]; decide), by decide, by decide, by decide⟩
theorem run_rows : GRow [givQ ⟨1, idT, [idV bobT]⟩ .full, givQ ⟨1, [114, 111, 108, 101], []⟩ .full, givQ ⟨2, [110, 97, 109, 101], [idV [114, 101, 97, 100]]⟩ .full, givQ ⟨2, [102, 105, 101, 108, 100], [idV [120]]⟩ .full, givQ ⟨4, [110, 111, 119], [⟨4, 0, []⟩]⟩ .full, givQ ⟨3, idT, [idV [99, 49]]⟩ .full, givQ ⟨3, [111, 119, 110, 101, 114], [idV annT]⟩ .full, givQ ⟨3, [115, 116, 97, 116, 101], [idV openT]⟩ .full, givQ ⟨3, [101, 118, 101, 110, 116, 115], [⟨2, 1, []⟩]⟩ .full, givQ ⟨3, [116, 111, 111, 107], [⟨1, 0, []⟩]⟩ .full, givQ ⟨3, [108, 97, 115, 116], [idV annT]⟩ .full] runG :=
  ((((((((((GRow.one _ _).app (GRow.one _ _)).app (GRow.one _ _)).app (GRow.one _ _)).app (GRow.one _ _)).app (GRow.one _ _)).app (GRow.one _ _)).app (GRow.one _ _)).app (GRow.one _ _)).app (GRow.one _ _)).app (GRow.one _ _)
set_option maxRecDepth 100000 in
theorem casesRuns_ok (h : Heap) (he : ErrT h) : FnOK Tryz.prog 3 [] h fun r h' => r = .v (.bool true) ∧ h' = h := by
  have hd := fun (G : Heap) (hG : Ab.Sub h G) => done_ok (rdS G newD) runO1 few_new least_polE ⟨by decide, by decide⟩ ⟨by decide, by decide⟩ ⟨by decide, by decide⟩ (he.sub hG)
  have ha := fun (G : Heap) => ask_ok (rdS G runS) runO2 few_run ⟨by decide, by decide⟩
  rw [run_store] at hd
  refine FnOK.body hU hm Tryz.func3 rfl (by kernel_rfl) 23 rfl [.tmp 0] rfl (Nat.le_of_ble_eq_true rfl) (fun hwf => ?_)
  simp -implicitDefEqProofs only [go_sem]
  refine (new_ok _ he).pthen ?_
  simp -implicitDefEqProofs only [go_sem]
  refine (show FnOK Tryz.prog _ [storeA newD, opA runO1] _ _ from hd _ (.refl _)).pthen ?_
  simp -implicitDefEqProofs only [go_sem]
  intro i1 h1
  have es : storeA runS = .agg [.v (.int .i64 0), casesA runS.cases, .sl [] .no, .sl [] .no, .sl [] .no, .s openT, .v (.bool false), .v (.int .i64 6), .sl [] .no, .sl [] .no, .sl [] .no, .sl [] .no, .v (.int .i64 0)] := rfl
  rw [es] at ha ⊢
  have hcs : ∃ l, casesA runS.cases = .sl l .no := ⟨_, rfl⟩
  obtain ⟨lc, elc⟩ := hcs
  rw [elc] at ha ⊢
  simp -implicitDefEqProofs only [go_sem]
  refine (lgiven_ok _ _ _ _ _ _).pthen ?_
  simp -implicitDefEqProofs only [go_sem, valA]
  refine (lgiven_ok _ _ _ _ _ _).pthen ?_
  simp -implicitDefEqProofs only [go_sem, valA]
  refine (lgiven_ok _ _ _ _ _ _).pthen ?_
  simp -implicitDefEqProofs only [go_sem, valA]
  refine (lgiven_ok _ _ _ _ _ _).pthen ?_
  simp -implicitDefEqProofs only [go_sem, valA]
  refine (lgiven_ok _ _ _ _ _ _).pthen ?_
  simp -implicitDefEqProofs only [go_sem, valA]
  refine (lgiven_ok _ _ _ _ _ _).pthen ?_
  simp -implicitDefEqProofs only [go_sem, valA]
  refine (lgiven_ok _ _ _ _ _ _).pthen ?_
  simp -implicitDefEqProofs only [go_sem, valA]
  refine (lgiven_ok _ _ _ _ _ _).pthen ?_
  simp -implicitDefEqProofs only [go_sem, valA]
  refine (lgiven_ok _ _ _ _ _ _).pthen ?_
  simp -implicitDefEqProofs only [go_sem, valA]
  refine (lgiven_ok _ _ _ _ _ _).pthen ?_
  simp -implicitDefEqProofs only [go_sem, valA]
  refine (show FnOK Tryz.prog _ [_, opA runO2] _ _ from ha _).pthen ?_
  simp -implicitDefEqProofs only [go_sem, givsA]
  refine (asks_ok (GRow.givs (askD runS runO2)) run_rows .no .full _).pthen ?_
  simp -implicitDefEqProofs only [go_sem, run_asks]
  exact .mk _ (.refl _) (.upd_new h1) ⟨rfl, rfl⟩
def pow10V : List Value := Lib.pow10Tab.map fun z => Value.int .u64 z
def startH (ev : Value) : Heap := tabH [(3, pow10V), (2, [ev])]
theorem start_err {ev : Value} (hev : ev = .nilIface ∨ ∃ te pe, ev = .iface te pe) : ErrT (startH ev) := ⟨ev, hev, 1, rfl⟩
theorem casesRuns_law (ev : Value) (hev : ev = .nilIface ∨ ∃ te pe, ev = .iface te pe) : FnOK Tryz.prog 3 [] (tabH [(3, pow10V), (2, [ev])]) fun r _ => r = .v (.bool true) := (casesRuns_ok _ (start_err hev)).mono fun _ _ h => h.1
end Go.Proofs.YtnhelgnmadbpgaaGreatDoor
