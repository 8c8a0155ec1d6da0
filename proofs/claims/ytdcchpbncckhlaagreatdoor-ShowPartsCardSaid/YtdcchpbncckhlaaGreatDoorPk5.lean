/- The law ShowParts: pack 5 of its texts. -/
import Derived.Test.YtdcchpbncckhlaaGreatDoorPk1
import Derived.Test.YtdcchpbncckhlaaGreatDoorPk2
import Derived.Test.YtdcchpbncckhlaaGreatDoorPk3
import Derived.Test.YtdcchpbncckhlaaGreatDoorPk4
set_option linter.unusedSimpArgs false
set_option linter.unusedVariables false
namespace Go.Proofs.YtdcchpbncckhlaaGreatDoor
open Go Go.Ab Go.Bf
theorem acc_less {U : TypeId → TI} {e : TypeId} {B B' H : Heap} {y : AV} {xs : List AV} (hs : Sub B B') (ha : Acc U e B' H y xs) : Acc U e B H y xs := by
  obtain ⟨h1, rfl | ⟨k, i1, rfl, i2⟩⟩ := ha
  · exact ⟨hs.trans h1, .inl rfl⟩
  · refine ⟨hs.trans h1, .inr ⟨k, ?_, rfl, i2⟩⟩
    cases hk : B k with
    | none => rfl
    | some b => rw [hs _ _ hk] at i1; cases i1
theorem acc_grow {U : TypeId → TI} {e : TypeId} {B H : Heap} {y : AV} {xs : List AV} (ha : Acc U e B H y xs) {i : Nat} (hi : H i = none) (b : Option Blk) : Acc U e (upd B i b) (upd H i b) y xs := by
  obtain ⟨h1, rfl | ⟨k, i1, rfl, i2⟩⟩ := ha
  · exact ⟨h1.both _ _, .inl rfl⟩
  · have hne : k ≠ i := fun hh => by subst hh; rw [hi] at i2; cases i2
    exact ⟨h1.both _ _, .inr ⟨k, by rw [upd_other _ _ hne]; exact i1, rfl, by rw [upd_other _ _ hne]; exact i2⟩⟩
theorem acc_step {U : TypeId → TI} {e : TypeId} {G K : Heap} {id : Nat} {st : PS} {y : AV} {xs : List AV} (ha : Acc U e (upd G id none) (upd K id (some (PO st))) y xs) (st' : PS) : Acc U e (upd G id none) (upd K id (some (PO st'))) y xs := by
  have := ha.put (id := id) (upd_same ..) (cs := _) (t := _) (upd_same ..) (some (PO st'))
  rw [upd_upd] at this
  exact this
def XC (f : FuncId) (args : List AV) (st : PS) (l : List NodeD) (mk : AV → AV) (st' : PS) (l' : List NodeD) : Prop :=
  ∀ (G K : Heap) (id : Nat) (y : AV), Acc U 48 (upd G id none) (upd K id (some (PO st))) y (l.map nodeA) → FnOK Tryz.prog f (.ptr id 0 :: y :: args) (upd K id (some (PO st))) fun r h' => ∃ y', r = mk y' ∧ h' id = some (PO st') ∧ Acc U 48 (upd G id none) h' y' (l'.map nodeA)
theorem XC.run {f : FuncId} {args : List AV} {st st' : PS} {l l' : List NodeD} {mk : AV → AV} (hc : XC f args st l mk st' l') {G K : Heap} {id : Nat} {y : AV} {Q : AV → Heap → Prop} (ha : Acc U 48 (upd G id none) (upd K id (some (PO st))) y (l.map nodeA))
    (k : ∀ y' K', Acc U 48 (upd G id none) (upd K' id (some (PO st'))) y' (l'.map nodeA) → Q (mk y') (upd K' id (some (PO st')))) : FnOK Tryz.prog f (.ptr id 0 :: y :: args) (upd K id (some (PO st))) Q :=
  (hc G K id y ha).mono fun r h' ⟨y', e1, e2, e3⟩ => by
    subst e1
    have := k y' h' (by rw [upd_self e2]; exact e3)
    rwa [upd_self e2] at this
def EH (ex : ExF) (f : Nat) : Prop := ∀ st l, WfP st → st.ts.length ≤ f + st.pos → l.length ≤ 2 * st.pos + 1 → XC 99 [] st l (fun y => .tup [y, .v (.bool (ex st l).1.2)]) (ex st l).2 (ex st l).1.1
theorem among_rng (st : PS) (ws : List Txt) : 0 ≤ (amongD st ws).1 ∧ (amongD st ws).1 ≤ ws.length := by
  unfold amongD
  cases ei : idxT (hereD st).s ws with
  | none => simp
  | some i =>
    have := idxT_lt ei
    simp only
    split <;> simp <;> omega
theorem operand_x {ex : ExF} (ho : ExOK ex) {f : Nat} (he : EH ex f) (st : PS) (l : List NodeD) (b : Bool) (hw : WfP st) (hf : st.ts.length ≤ f + st.pos) (hl : l.length ≤ 2 * st.pos + 1) : XC 88 [.v (.bool b)] st l (fun y => y) (operG ex st l b).2 (operG ex st l b).1 := fun G K id y ha => by
  refine FnOK.body hU hm Tryz.func88 rfl (by kernel_rfl) 25 rfl [.tmp 6] rfl (Nat.le_of_ble_eq_true rfl) (fun hwf => ?_)
  simp -implicitDefEqProofs only [go_sem]
  refine (here_ok st hw).run ?_
  simp -implicitDefEqProofs only [go_sem, tokA]
  refine (he st l hw hf hl).run ha fun y' K' ha' => ?_
  cases db : ((ex st l).1.2 == b)
  · have e1 : (ex st l).1.2 ≠ b := by simpa using db
    have en : operG ex st l b = ((ex st l).1.1, wrongD (ex st l).2 5 (hereD st).pos) := by simp [operG, e1]
    simp -implicitDefEqProofs only [go_sem, db, Bool.not_false]
    refine (wrong_ok _ 5 _).run ?_
    simp -implicitDefEqProofs only [go_sem]
    exact .mk (h' := upd K' id (some (PO (wrongD (ex st l).2 5 (hereD st).pos)))) y' (.refl _) (.refl _) ⟨y', rfl, by rw [en]; exact upd_same .., by rw [en]; exact acc_step ha' _⟩
  · have e1 : (ex st l).1.2 = b := by simpa using db
    have en : operG ex st l b = ((ex st l).1.1, (ex st l).2) := by simp [operG, e1]
    simp -implicitDefEqProofs only [go_sem, db, Bool.not_true]
    exact .mk (h' := upd K' id (some (PO (ex st l).2))) y' (.refl _) (.refl _) ⟨y', rfl, by rw [en]; exact upd_same .., by rw [en]; exact ha'⟩
set_option maxRecDepth 20000 in
theorem function_x {ex : ExF} (ho : ExOK ex) {f : Nat} (he : EH ex f) (st : PS) (l : List NodeD) (hw : WfP st) (hf : st.ts.length ≤ f + st.pos) (hl : l.length + 1 ≤ 2 * st.pos) : XC 112 [] st l (fun y => .tup [y, nodeA (funcG ex st l).1.2]) (funcG ex st l).2 (funcG ex st l).1.1 := fun G K id y ha => by
  have h1 := ah_among fnWs hw
  have hrg := among_rng st fnWs
  have hfl : fnWs.length = 11 := rfl
  have w2 : IntKind.i64.wrap (2 + (amongD st fnWs).1) = 2 + (amongD st fnWs).1 := by rw [wr64 _ (by omega)]
  refine FnOK.body hU hm Tryz.func112 rfl (by kernel_rfl) 36 rfl [.tmp 4, .cell 5 48] rfl (Nat.le_of_ble_eq_true rfl) (fun hwf => ?_)
  simp -implicitDefEqProofs only [go_sem]
  intro i5 hi5
  have n5 := ne_upd hi5
  have hK5 : K i5 = none := by rw [upd_other _ _ n5] at hi5; exact hi5
  have c5 : ∀ (f : Heap) (x y : Option Blk), upd (upd f id x) i5 y = upd (upd f i5 y) id x := fun f x y => upd_comm f x y n5.symm
  simp -implicitDefEqProofs only [go_sem, c5]
  refine (among_ok _ fnWs .full (by decide) hw).run ?_
  simp -implicitDefEqProofs only [go_sem, w2, c5]
  intro i6 hi6
  have n6 := ne_upd hi6
  have c6 : ∀ (f : Heap) (x y : Option Blk), upd (upd f id x) i6 y = upd (upd f i6 y) id x := fun f x y => upd_comm f x y n6.symm
  have hi6' := hi6
  rw [upd_other _ _ n6] at hi6'
  have n65 := ne_upd hi6'
  have hK6 : K i6 = none := by rw [upd_other _ _ n65] at hi6'; exact hi6'
  simp -implicitDefEqProofs only [go_sem, w2, c5, c6, upd_ne, n5, n6]
  refine (operands_ok _ _).pthen ?_
  simp -implicitDefEqProofs only [go_sem, w2, c5, c6, upd_ne, n5, n6]
  have h5f := ha
  obtain ⟨bs, ebs⟩ : ∃ bs, opers (2 + (amongD st fnWs).1) = bs := ⟨_, rfl⟩
  obtain ⟨M, eM⟩ : ∃ M, opersG ex bs (amongD st fnWs).2 l = M := ⟨_, rfl⟩
  have hb2 : bs.length ≤ 2 := by rw [← ebs]; exact opers_le _
  have hMr : funcG ex st l = ((M.1, ⟨2 + (amongD st fnWs).1, ⟨0, 0, []⟩, ⟨0, [], false⟩⟩), mustD M.2 [41]) := by simp only [funcG, ebs, eM]
  obtain ⟨st1, es1⟩ : ∃ st1, (amongD st fnWs).2 = st1 := ⟨_, rfl⟩
  have hac0 := acc_grow (acc_grow (acc_step ha st1) (by rw [upd_other _ _ n5]; exact hK5) (some (.obj [.v (.int .i64 0), .v (.int .i64 0), .v (.int .i64 0), .s [], .v (.int .i64 0), .s [], .v (.bool false)] 48))) (by rw [upd_other _ _ n65, upd_other _ _ n6]; exact hK6) (some (.obj [.v (.int .i64 (2 + (amongD st fnWs).1)), .v (.int .i64 0), .v (.int .i64 0), .s [], .v (.int .i64 0), .s [], .v (.bool false)] 48))
  simp only [c5, c6] at hac0
  obtain ⟨G', eG⟩ : ∃ G', G' = upd (upd G i5 (some (.obj [.v (.int .i64 0), .v (.int .i64 0), .v (.int .i64 0), .s [], .v (.int .i64 0), .s [], .v (.bool false)] 48))) i6 (some (.obj [.v (.int .i64 (2 + (amongD st fnWs).1)), .v (.int .i64 0), .v (.int .i64 0), .s [], .v (.int .i64 0), .s [], .v (.bool false)] 48)) := ⟨_, rfl⟩
  have g5 : upd G' id none i5 = some (.obj [.v (.int .i64 0), .v (.int .i64 0), .v (.int .i64 0), .s [], .v (.int .i64 0), .s [], .v (.bool false)] 48) := by rw [eG, upd_other _ _ n5, upd_other _ _ (Ne.symm n65), upd_same]
  have g6 : upd G' id none i6 = some (.obj [.v (.int .i64 (2 + (amongD st fnWs).1)), .v (.int .i64 0), .v (.int .i64 0), .s [], .v (.int .i64 0), .s [], .v (.bool false)] 48) := by rw [eG, upd_other _ _ n6, upd_same]
  rw [← eG] at hac0
  have gi5 : upd G id none i5 = none := by
    cases hk : upd G id none i5 with
    | none => rfl
    | some b => rw [ha.1 _ _ hk] at hi5; cases hi5
  have hsG : Sub (upd G id none) (upd G' id none) := fun k b hk => by
    have hs1 := ha.1 k b hk
    have hk5 : k ≠ i5 := fun e => by rw [e, hi5] at hs1; cases hs1
    have hk6 : k ≠ i6 := fun e => by
      rw [e, upd_other _ _ n6, hK6] at hs1; cases hs1
    by_cases hkid : k = id
    · subst hkid; rw [upd_same] at hk; cases hk
    · rw [upd_other _ _ hkid] at hk ⊢
      rw [eG, upd_other _ _ hk6, upd_other _ _ hk5]; exact hk
  simp only [es1, ebs] at h1 eM ⊢
  refine .intro (fun m ρ H => ∃ (i : Nat) (st' : PS) (l' : List NodeD) (y' : AV) (K' : Heap), H = upd K' id (some (PO st')) ∧ Acc U 48 (upd G' id none) (upd K' id (some (PO st'))) y' (l'.map nodeA) ∧ Ah st1 st' ∧ i ≤ bs.length ∧ opersG ex (bs.drop i) st' l' = M ∧ l'.length + 1 ≤ 2 * st'.pos + i ∧ m = bs.length - i ∧ lk ρ 0 = some (.ptr id 0) ∧ lk ρ 1 = some y' ∧ lk ρ 5 = some (.ptr i5 0) ∧ lk ρ 6 = some (.ptr i6 0) ∧ lk ρ 16 = some (.sl (bs.map boolA) .no) ∧ lk ρ 17 = some (.v (.int .i64 bs.length)) ∧ lk ρ 18 = some (.v (.int .i64 i))) bs.length ?_ ?_
  · refine ⟨0, st1, l, y, _, rfl, hac0, .refl h1.1, by omega, by simpa using eM, by have := h1.2.2; omega, rfl, ?_, ?_, ?_, ?_, ?_, ?_, ?_⟩ <;> simp -implicitDefEqProofs only [go_sem] <;> (try rfl) <;> simp
  · rintro m ρ H ⟨i, st', l', y', K', rfl, hac, hah, hi, hfin, hll, rfl, r0, r1, r5, r6, r16, r17, r18⟩
    simp -implicitDefEqProofs only [go_sem, r0, r1, r5, r6, r16, r17, r18]
    have k6 : upd K' id (some (PO st')) i6 = some (.obj [.v (.int .i64 (2 + (amongD st fnWs).1)), .v (.int .i64 0), .v (.int .i64 0), .s [], .v (.int .i64 0), .s [], .v (.bool false)] 48) := hac.1 _ _ g6
    have k5 : upd K' id (some (PO st')) i5 = some (.obj [.v (.int .i64 0), .v (.int .i64 0), .v (.int .i64 0), .s [], .v (.int .i64 0), .s [], .v (.bool false)] 48) := hac.1 _ _ g5
    rw [upd_other _ _ n6] at k6
    rw [upd_other _ _ n5] at k5
    refine .intro (fun e => ?_) (fun e => ?_)
    · have hlt : i < bs.length := Int.ofNat_lt.1 (of_decide_eq_true e)
      simp -implicitDefEqProofs only [go_sem, r0, r1, r5, r6, r16, r17, r18]
      refine .at i (by simpa using hlt) (by rw [List.getElem_map]; rfl) ?_
      cases db : (st'.bad != 0)
      · have e1 : st'.bad = 0 := by simpa using db
        rw [List.drop_eq_getElem_cons hlt] at hfin
        simp only [opersG, e1, if_true] at hfin
        simp -implicitDefEqProofs only [go_sem, r0, r1, r5, r6, r16, r17, r18, List.getElem_map, boolA, PO, db]
        have hpl := hah.2.2
        refine (operand_x ho he st' l' bs[i] hah.1 (by rw [hah.2.1, h1.2.1]; have := h1.2.2; omega) (by omega)).run hac fun y2 K2 hac2 => ?_
        obtain ⟨q1, q2⟩ := operG_ok ho st' l' bs[i] hah.1
        have w1 : IntKind.i64.wrap ((i : Int) + 1) = ((i + 1 : Nat) : Int) := by rw [wr64 _ (by omega)]; omega
        simp -implicitDefEqProofs only [go_sem, r0, r1, r5, r6, r16, r17, r18, w1]
        refine ⟨_, ?_, i + 1, (operG ex st' l' bs[i]).2, (operG ex st' l' bs[i]).1, y2, K2, rfl, hac2, hah.trans q1, hlt, hfin, by omega, rfl, ?_⟩
        · omega
        refine ⟨?_, ?_, ?_, ?_, ?_, ?_, ?_⟩
        all_goals simp -implicitDefEqProofs only [go_sem, r0, r1, r5, r6, r16, r17, r18, w1]
      · have e1 : st'.bad ≠ 0 := by simpa using db
        have hfin2 : (l', st') = M := by
          rw [← hfin, List.drop_eq_getElem_cons hlt]
          simp [opersG, e1]
        clear hfin
        have hfin := hfin2
        simp -implicitDefEqProofs only [go_sem, r0, r1, r5, r6, r16, r17, r18, List.getElem_map, boolA, PO, db]
        refine (must_ok _ [41] hah.1).run ?_
        simp -implicitDefEqProofs only [go_sem, r0, r1, r5, r6, r16, r17, r18, upd_ne, n5, n6, k5, k6]
        refine ⟨.of (by kernel_rfl), ?_⟩
        exact .mk (.tup [y', nodeA ⟨2 + (amongD st fnWs).1, ⟨0, 0, []⟩, ⟨0, [], false⟩⟩]) (.refl _) (.refl _) ⟨y', by rw [hMr], by rw [hMr, ← hfin]; exact (upd_other _ _ (Ne.symm n5)).trans (upd_same ..), by rw [hMr, ← hfin]; exact (acc_less hsG (acc_step hac (mustD st' [41]))).put gi5 ((upd_other _ _ n5).trans k5) _⟩
    · have hge : i = bs.length := by have := of_decide_eq_false e; omega
      subst hge
      rw [List.drop_length] at hfin
      simp only [opersG] at hfin
      simp -implicitDefEqProofs only [go_sem, r0, r1, r5, r6, r16, r17, r18]
      refine (must_ok _ [41] hah.1).run ?_
      simp -implicitDefEqProofs only [go_sem, r0, r1, r5, r6, r16, r17, r18, upd_ne, n5, n6, k5, k6]
      refine ⟨.of (by kernel_rfl), ?_⟩
      exact .mk (.tup [y', nodeA ⟨2 + (amongD st fnWs).1, ⟨0, 0, []⟩, ⟨0, [], false⟩⟩]) (.refl _) (.refl _) ⟨y', by rw [hMr], by rw [hMr, ← hfin]; exact (upd_other _ _ (Ne.symm n5)).trans (upd_same ..), by rw [hMr, ← hfin]; exact (acc_less hsG (acc_step hac (mustD st' [41]))).put gi5 ((upd_other _ _ n5).trans k5) _⟩
end Go.Proofs.YtdcchpbncckhlaaGreatDoor

set_option linter.unusedSimpArgs false
set_option linter.unusedVariables false
namespace Go.Proofs.YtdcchpbncckhlaaGreatDoor
open Go Go.Ab Go.Bf
theorem uz_n : (U 48).sz = 7 := by simp only [go_sem]
theorem ub_n : (U 48).bytes = 72 := by simp only [go_sem]
theorem sized_n (l : List NodeD) : Sized 7 (l.map nodeA) := fun z hz => by
  obtain ⟨c, _, rfl⟩ := List.mem_map.1 hz; rfl
set_option maxRecDepth 20000 in
theorem expr_s (f : Nat) (ih : EH (exprF f) f) : EH (exprF (f + 1)) (f + 1) := fun st l hw hf hl G K id y ha => by
  refine FnOK.body hU hm Tryz.func99 rfl (by kernel_rfl) 52 rfl [.tmp 4, .tmp 5] rfl (Nat.le_of_ble_eq_true rfl) (fun hwf => ?_)
  simp -implicitDefEqProofs only [go_sem]
  intro i6 hi6
  have n6 := ne_upd hi6
  have hK6 : K i6 = none := by rw [upd_other _ _ n6] at hi6; exact hi6
  have c6 : ∀ (f : Heap) (x y : Option Blk), upd (upd f id x) i6 y = upd (upd f i6 y) id x := fun f x y => upd_comm f x y n6.symm
  have gi6 : upd G id none i6 = none := by
    cases hk : upd G id none i6 with
    | none => rfl
    | some b => rw [ha.1 _ _ hk] at hi6; cases hi6
  have hac := acc_grow ha hi6 (some (.obj [.v (.int .i64 0), .v (.int .i64 0), .v (.int .i64 0), .s [], .v (.int .i64 0), .s [], .v (.bool false)] 48))
  simp -implicitDefEqProofs only [go_sem, c6]
  refine (here_ok st hw).run ?_
  simp -implicitDefEqProofs only [go_sem, c6, tokA]
  intro i7 hi7
  have n7 := ne_upd hi7
  have hi7' := hi7
  rw [upd_other _ _ n7] at hi7'
  have n76 := ne_upd hi7'
  have m76 : ¬ i7 = i6 := n76
  have m67 : ¬ i6 = i7 := fun e => n76 e.symm
  have hK7 : K i7 = none := by rw [upd_other _ _ n76] at hi7'; exact hi7'
  have c7 : ∀ (f : Heap) (x y : Option Blk), upd (upd f id x) i7 y = upd (upd f i7 y) id x := fun f x y => upd_comm f x y n7.symm
  have e6 : upd (upd G id none) i6 (some (.obj [.v (.int .i64 0), .v (.int .i64 0), .v (.int .i64 0), .s [], .v (.int .i64 0), .s [], .v (.bool false)] 48)) = upd (upd G i6 (some (.obj [.v (.int .i64 0), .v (.int .i64 0), .v (.int .i64 0), .s [], .v (.int .i64 0), .s [], .v (.bool false)] 48))) id none := c6 G none _
  have hac7 : ∀ k, Acc U 48 (upd (upd G i6 (some (.obj [.v (.int .i64 0), .v (.int .i64 0), .v (.int .i64 0), .s [], .v (.int .i64 0), .s [], .v (.bool false)] 48))) id none) (upd (upd (upd K i6 (some (.obj [.v (.int .i64 0), .v (.int .i64 0), .v (.int .i64 0), .s [], .v (.int .i64 0), .s [], .v (.bool false)] 48))) i7 k) id (some (PO st))) y (l.map nodeA) := fun k => by
    have := hac.sub (Sub.upd_new (k := k) (by rw [c6]; exact hi7))
    rw [e6, c6 K, c7] at this
    exact this
  have hsG : Sub (upd G id none) (upd (upd G i6 (some (.obj [.v (.int .i64 0), .v (.int .i64 0), .v (.int .i64 0), .s [], .v (.int .i64 0), .s [], .v (.bool false)] 48))) id none) := by
    rw [← e6]; exact Sub.upd_new gi6
  have g6 : upd (upd G i6 (some (.obj [.v (.int .i64 0), .v (.int .i64 0), .v (.int .i64 0), .s [], .v (.int .i64 0), .s [], .v (.bool false)] 48))) id none i6 = some (.obj [.v (.int .i64 0), .v (.int .i64 0), .v (.int .i64 0), .s [], .v (.int .i64 0), .s [], .v (.bool false)] 48) := by rw [← e6, upd_same]
  simp -implicitDefEqProofs only [go_sem, c6, c7, upd_ne, n6, n7, m76, m67]
  refine (take_ok st [40] hw).run ?_
  have hacX : ∀ tk NB st', Acc U 48 (upd G id none) (upd (upd (upd (upd K i6 (some (.obj [.v (.int .i64 0), .v (.int .i64 0), .v (.int .i64 0), .s [], .v (.int .i64 0), .s [], .v (.bool false)] 48))) i7 tk) i6 NB) id (some (PO st'))) y (l.map nodeA) := fun tk NB st' => by
    have := (acc_step (acc_less hsG (hac7 tk)) st').put gi6 ((upd_other _ _ n6).trans ((upd_other _ _ m67).trans (upd_same ..))) NB
    rw [c6] at this
    exact this
  obtain ⟨⟨⟨lh, n⟩, sth⟩, eh⟩ : ∃ x, headG (exprF f) st l = x := ⟨_, rfl⟩
  obtain ⟨hha, hhl⟩ := headG_ok (exprF_ok f) st l hw
  rw [eh] at hha hhl
  simp only at hha hhl
  have hwp := hha.1.2.2
  have hwq := hha.1.1
  have hpl := hha.2.2
  have hdec : decide ((32 : Int) < ((lh.length + 1 : Nat) : Int)) = decide (32 < lh.length + 1) := by
    by_cases h : 32 < lh.length + 1
    · simp only [h, decide_true]; exact decide_eq_true (by omega)
    · simp only [h, decide_false]; exact decide_eq_false (by omega)
  cases d0 : isD st [40]
  · have et : takeD st [40] = (false, st) := by simp [takeD, d0]
    rw [et]
    cases d1 : ((hereD st).kind == 1)
    · have en : headG (exprF f) st l = ((l, ⟨1, (valueP st).1, ⟨0, [], false⟩⟩), (valueP st).2) := by
        have : (hereD st).kind ≠ 1 := by simpa using d1
        simp [headG, d0, this]
      simp -implicitDefEqProofs only [go_sem, c6, c7, upd_ne, n6, n7, m76, m67, d1]
      refine (value_p st hw).run ?_
      rw [en] at eh
      injection eh with eh1 eh2
      injection eh1 with eh3 eh4
      subst eh2
      subst eh3
      subst eh4
      simp -implicitDefEqProofs only [go_sem, c6, c7, upd_ne, n6, n7, m76, m67, valA]
      refine (hacX _ _ _).app (zs := [nodeA (⟨1, (valueP st).1, ⟨0, [], false⟩⟩ : NodeD)]) (by rw [uz_n]; decide) (by rw [ub_n]; decide) (fun k hk => hk) (by rw [uz_n]; exact sized_n _) (by rw [uz_n]; exact sized_n [(⟨1, (valueP st).1, ⟨0, [], false⟩⟩ : NodeD)]) (by rw [ub_n]; simp; omega) fun y3 H3 hy3 hk3 => ?_
      have hH3 : H3 id = some (PO (valueP st).2) := hk3 _ _ _ (upd_same ..)
      have hb3 : H3 i6 = some (.obj [.v (.int .i64 (⟨1, (valueP st).1, ⟨0, [], false⟩⟩ : NodeD).op), .v (.int .i64 (⟨1, (valueP st).1, ⟨0, [], false⟩⟩ : NodeD).val.kind), .v (.int .i64 (⟨1, (valueP st).1, ⟨0, [], false⟩⟩ : NodeD).val.n), .s (⟨1, (valueP st).1, ⟨0, [], false⟩⟩ : NodeD).val.s, .v (.int .i64 (⟨1, (valueP st).1, ⟨0, [], false⟩⟩ : NodeD).attr.cat), .s (⟨1, (valueP st).1, ⟨0, [], false⟩⟩ : NodeD).attr.name, .v (.bool (⟨1, (valueP st).1, ⟨0, [], false⟩⟩ : NodeD).attr.must)] 48) := hk3 _ _ _ ((upd_other _ _ n6).trans (upd_same ..))
      simp -implicitDefEqProofs only [go_sem, hy3.len, List.length_append, List.length_map, List.length_cons, List.length_nil, Nat.zero_add, hdec]
      refine (limit_ok (valueP st).2 _ hha.1).go hH3 ?_
      simp -implicitDefEqProofs only [go_sem, upd_ne, n6, hb3]
      refine ⟨.of (by kernel_rfl), ?_⟩
      have efin : exprF (f + 1) st l = ((l ++ [(⟨1, (valueP st).1, ⟨0, [], false⟩⟩ : NodeD)], (⟨1, (valueP st).1, ⟨0, [], false⟩⟩ : NodeD).op == 2), limitD (valueP st).2 (decide (32 < l.length + 1))) := by simp only [exprF, en]
      exact .mk (.tup [y3, .v (.bool ((⟨1, (valueP st).1, ⟨0, [], false⟩⟩ : NodeD).op == 2))]) (.refl _) (.refl _) ⟨y3, by rw [efin], by rw [efin]; exact upd_same .., by rw [efin, List.map_append]; exact hy3.put (upd_same ..) hH3 _⟩
    · have k1 : (hereD st).kind = 1 := by simpa using d1
      cases d2 : ((hereD st).s == [116, 114, 117, 101])
      · have k2 : (hereD st).s ≠ trueT := by unfold trueT; simpa using d2
        cases d3 : ((hereD st).s == [102, 97, 108, 115, 101])
        · have k3 : (hereD st).s ≠ falseT := by unfold falseT; simpa using d3
          have en : headG (exprF f) st l = ((l, ⟨2, ⟨0, 0, []⟩, (attrP st).1⟩), (attrP st).2) := by simp [headG, d0, k1, k2, k3]
          simp -implicitDefEqProofs only [go_sem, c6, c7, upd_ne, n6, n7, m76, m67, d1, d2, d3, Bool.not_false]
          refine (attr_p st hw).run ?_
          rw [en] at eh
          injection eh with eh1 eh2
          injection eh1 with eh3 eh4
          subst eh2
          subst eh3
          subst eh4
          simp -implicitDefEqProofs only [go_sem, c6, c7, upd_ne, n6, n7, m76, m67, attrA]
          refine (hacX _ _ _).app (zs := [nodeA (⟨2, ⟨0, 0, []⟩, (attrP st).1⟩ : NodeD)]) (by rw [uz_n]; decide) (by rw [ub_n]; decide) (fun k hk => hk) (by rw [uz_n]; exact sized_n _) (by rw [uz_n]; exact sized_n [(⟨2, ⟨0, 0, []⟩, (attrP st).1⟩ : NodeD)]) (by rw [ub_n]; simp; omega) fun y3 H3 hy3 hk3 => ?_
          have hH3 : H3 id = some (PO (attrP st).2) := hk3 _ _ _ (upd_same ..)
          have hb3 : H3 i6 = some (.obj [.v (.int .i64 (⟨2, ⟨0, 0, []⟩, (attrP st).1⟩ : NodeD).op), .v (.int .i64 (⟨2, ⟨0, 0, []⟩, (attrP st).1⟩ : NodeD).val.kind), .v (.int .i64 (⟨2, ⟨0, 0, []⟩, (attrP st).1⟩ : NodeD).val.n), .s (⟨2, ⟨0, 0, []⟩, (attrP st).1⟩ : NodeD).val.s, .v (.int .i64 (⟨2, ⟨0, 0, []⟩, (attrP st).1⟩ : NodeD).attr.cat), .s (⟨2, ⟨0, 0, []⟩, (attrP st).1⟩ : NodeD).attr.name, .v (.bool (⟨2, ⟨0, 0, []⟩, (attrP st).1⟩ : NodeD).attr.must)] 48) := hk3 _ _ _ ((upd_other _ _ n6).trans (upd_same ..))
          simp -implicitDefEqProofs only [go_sem, hy3.len, List.length_append, List.length_map, List.length_cons, List.length_nil, Nat.zero_add, hdec]
          refine (limit_ok (attrP st).2 _ hha.1).go hH3 ?_
          simp -implicitDefEqProofs only [go_sem, upd_ne, n6, hb3]
          refine ⟨.of (by kernel_rfl), ?_⟩
          have efin : exprF (f + 1) st l = ((l ++ [(⟨2, ⟨0, 0, []⟩, (attrP st).1⟩ : NodeD)], (⟨2, ⟨0, 0, []⟩, (attrP st).1⟩ : NodeD).op == 2), limitD (attrP st).2 (decide (32 < l.length + 1))) := by simp only [exprF, en]
          exact .mk (.tup [y3, .v (.bool ((⟨2, ⟨0, 0, []⟩, (attrP st).1⟩ : NodeD).op == 2))]) (.refl _) (.refl _) ⟨y3, by rw [efin], by rw [efin]; exact upd_same .., by rw [efin, List.map_append]; exact hy3.put (upd_same ..) hH3 _⟩
        · have k3 : (hereD st).s = falseT := by unfold falseT; simpa using d3
          have en : headG (exprF f) st l = ((l, ⟨1, (valueP st).1, ⟨0, [], false⟩⟩), (valueP st).2) := by simp [headG, d0, k1, k2, k3]
          simp -implicitDefEqProofs only [go_sem, c6, c7, upd_ne, n6, n7, m76, m67, d1, d2, d3, Bool.not_false, Bool.not_true]
          refine (value_p st hw).run ?_
          rw [en] at eh
          injection eh with eh1 eh2
          injection eh1 with eh3 eh4
          subst eh2
          subst eh3
          subst eh4
          simp -implicitDefEqProofs only [go_sem, c6, c7, upd_ne, n6, n7, m76, m67, valA]
          refine (hacX _ _ _).app (zs := [nodeA (⟨1, (valueP st).1, ⟨0, [], false⟩⟩ : NodeD)]) (by rw [uz_n]; decide) (by rw [ub_n]; decide) (fun k hk => hk) (by rw [uz_n]; exact sized_n _) (by rw [uz_n]; exact sized_n [(⟨1, (valueP st).1, ⟨0, [], false⟩⟩ : NodeD)]) (by rw [ub_n]; simp; omega) fun y3 H3 hy3 hk3 => ?_
          have hH3 : H3 id = some (PO (valueP st).2) := hk3 _ _ _ (upd_same ..)
          have hb3 : H3 i6 = some (.obj [.v (.int .i64 (⟨1, (valueP st).1, ⟨0, [], false⟩⟩ : NodeD).op), .v (.int .i64 (⟨1, (valueP st).1, ⟨0, [], false⟩⟩ : NodeD).val.kind), .v (.int .i64 (⟨1, (valueP st).1, ⟨0, [], false⟩⟩ : NodeD).val.n), .s (⟨1, (valueP st).1, ⟨0, [], false⟩⟩ : NodeD).val.s, .v (.int .i64 (⟨1, (valueP st).1, ⟨0, [], false⟩⟩ : NodeD).attr.cat), .s (⟨1, (valueP st).1, ⟨0, [], false⟩⟩ : NodeD).attr.name, .v (.bool (⟨1, (valueP st).1, ⟨0, [], false⟩⟩ : NodeD).attr.must)] 48) := hk3 _ _ _ ((upd_other _ _ n6).trans (upd_same ..))
          simp -implicitDefEqProofs only [go_sem, hy3.len, List.length_append, List.length_map, List.length_cons, List.length_nil, Nat.zero_add, hdec]
          refine (limit_ok (valueP st).2 _ hha.1).go hH3 ?_
          simp -implicitDefEqProofs only [go_sem, upd_ne, n6, hb3]
          refine ⟨.of (by kernel_rfl), ?_⟩
          have efin : exprF (f + 1) st l = ((l ++ [(⟨1, (valueP st).1, ⟨0, [], false⟩⟩ : NodeD)], (⟨1, (valueP st).1, ⟨0, [], false⟩⟩ : NodeD).op == 2), limitD (valueP st).2 (decide (32 < l.length + 1))) := by simp only [exprF, en]
          exact .mk (.tup [y3, .v (.bool ((⟨1, (valueP st).1, ⟨0, [], false⟩⟩ : NodeD).op == 2))]) (.refl _) (.refl _) ⟨y3, by rw [efin], by rw [efin]; exact upd_same .., by rw [efin, List.map_append]; exact hy3.put (upd_same ..) hH3 _⟩
      · have k2 : (hereD st).s = trueT := by unfold trueT; simpa using d2
        have en : headG (exprF f) st l = ((l, ⟨1, (valueP st).1, ⟨0, [], false⟩⟩), (valueP st).2) := by simp [headG, d0, k1, k2]
        simp -implicitDefEqProofs only [go_sem, c6, c7, upd_ne, n6, n7, m76, m67, d1, d2, Bool.not_true]
        refine (value_p st hw).run ?_
        rw [en] at eh
        injection eh with eh1 eh2
        injection eh1 with eh3 eh4
        subst eh2
        subst eh3
        subst eh4
        simp -implicitDefEqProofs only [go_sem, c6, c7, upd_ne, n6, n7, m76, m67, valA]
        refine (hacX _ _ _).app (zs := [nodeA (⟨1, (valueP st).1, ⟨0, [], false⟩⟩ : NodeD)]) (by rw [uz_n]; decide) (by rw [ub_n]; decide) (fun k hk => hk) (by rw [uz_n]; exact sized_n _) (by rw [uz_n]; exact sized_n [(⟨1, (valueP st).1, ⟨0, [], false⟩⟩ : NodeD)]) (by rw [ub_n]; simp; omega) fun y3 H3 hy3 hk3 => ?_
        have hH3 : H3 id = some (PO (valueP st).2) := hk3 _ _ _ (upd_same ..)
        have hb3 : H3 i6 = some (.obj [.v (.int .i64 (⟨1, (valueP st).1, ⟨0, [], false⟩⟩ : NodeD).op), .v (.int .i64 (⟨1, (valueP st).1, ⟨0, [], false⟩⟩ : NodeD).val.kind), .v (.int .i64 (⟨1, (valueP st).1, ⟨0, [], false⟩⟩ : NodeD).val.n), .s (⟨1, (valueP st).1, ⟨0, [], false⟩⟩ : NodeD).val.s, .v (.int .i64 (⟨1, (valueP st).1, ⟨0, [], false⟩⟩ : NodeD).attr.cat), .s (⟨1, (valueP st).1, ⟨0, [], false⟩⟩ : NodeD).attr.name, .v (.bool (⟨1, (valueP st).1, ⟨0, [], false⟩⟩ : NodeD).attr.must)] 48) := hk3 _ _ _ ((upd_other _ _ n6).trans (upd_same ..))
        simp -implicitDefEqProofs only [go_sem, hy3.len, List.length_append, List.length_map, List.length_cons, List.length_nil, Nat.zero_add, hdec]
        refine (limit_ok (valueP st).2 _ hha.1).go hH3 ?_
        simp -implicitDefEqProofs only [go_sem, upd_ne, n6, hb3]
        refine ⟨.of (by kernel_rfl), ?_⟩
        have efin : exprF (f + 1) st l = ((l ++ [(⟨1, (valueP st).1, ⟨0, [], false⟩⟩ : NodeD)], (⟨1, (valueP st).1, ⟨0, [], false⟩⟩ : NodeD).op == 2), limitD (valueP st).2 (decide (32 < l.length + 1))) := by simp only [exprF, en]
        exact .mk (.tup [y3, .v (.bool ((⟨1, (valueP st).1, ⟨0, [], false⟩⟩ : NodeD).op == 2))]) (.refl _) (.refl _) ⟨y3, by rw [efin], by rw [efin]; exact upd_same .., by rw [efin, List.map_append]; exact hy3.put (upd_same ..) hH3 _⟩
  · have et : takeD st [40] = (true, nextD st) := by simp [takeD, d0]
    have h1 := ah_next hw (isD_kind d0)
    have hnp : (nextD st).pos = st.pos + 1 := rfl
    have hnt : (nextD st).ts = st.ts := rfl
    rw [et]
    simp -implicitDefEqProofs only [go_sem, c6, c7]
    have ef : funcG (exprF f) (nextD st) l = ((lh, n), sth) := by rw [← eh]; simp [headG, d0]
    have hfx := function_x (exprF_ok f) ih (nextD st) l h1.1 (by rw [hnt]; omega) (by omega)
    simp only [ef] at hfx
    refine hfx.run (acc_step (hac7 _) _) fun y2 K2 hac2 => ?_
    have k6 := hac2.1 _ _ g6
    rw [upd_other _ _ n6] at k6
    simp -implicitDefEqProofs only [go_sem, c6, c7, upd_ne, n6, n7, k6, nodeA, valA, attrA]
    have hac3 := (acc_less hsG hac2).put gi6 ((upd_other _ _ n6).trans k6) (some (.obj [.v (.int .i64 n.op), .v (.int .i64 n.val.kind), .v (.int .i64 n.val.n), .s n.val.s, .v (.int .i64 n.attr.cat), .s n.attr.name, .v (.bool n.attr.must)] 48))
    rw [c6] at hac3
    refine (hac3).app (zs := [nodeA n]) (by rw [uz_n]; decide) (by rw [ub_n]; decide) (fun k hk => hk) (by rw [uz_n]; exact sized_n _) (by rw [uz_n]; exact sized_n [n]) (by rw [ub_n]; simp; omega) fun y3 H3 hy3 hk3 => ?_
    have hH3 : H3 id = some (PO sth) := hk3 _ _ _ (upd_same ..)
    have hb3 : H3 i6 = some (.obj [.v (.int .i64 n.op), .v (.int .i64 n.val.kind), .v (.int .i64 n.val.n), .s n.val.s, .v (.int .i64 n.attr.cat), .s n.attr.name, .v (.bool n.attr.must)] 48) := hk3 _ _ _ ((upd_other _ _ n6).trans (upd_same ..))
    simp -implicitDefEqProofs only [go_sem, hy3.len, List.length_append, List.length_map, List.length_cons, List.length_nil, Nat.zero_add, hdec]
    refine (limit_ok sth _ hha.1).go hH3 ?_
    simp -implicitDefEqProofs only [go_sem, upd_ne, n6, hb3]
    refine ⟨.of (by kernel_rfl), ?_⟩
    have efin : exprF (f + 1) st l = ((lh ++ [n], n.op == 2), limitD sth (decide (32 < lh.length + 1))) := by simp only [exprF, eh]
    exact .mk (.tup [y3, .v (.bool (n.op == 2))]) (.refl _) (.refl _) ⟨y3, by rw [efin], by rw [efin]; exact upd_same .., by rw [efin, List.map_append]; exact hy3.put (upd_same ..) hH3 _⟩
theorem expr_x : ∀ f, EH (exprF f) f
  | 0 => fun st l hw hf _ => absurd hw.1 (by omega)
  | f + 1 => expr_s f (expr_x f)
end Go.Proofs.YtdcchpbncckhlaaGreatDoor

set_option linter.unusedSimpArgs false
set_option linter.unusedVariables false
namespace Go.Proofs.YtdcchpbncckhlaaGreatDoor
open Go Go.Ab Go.Bf
theorem fnok_loose {P : Program} {f : FuncId} {args : List AV} {h : Heap} {Q Q' : AV → Heap → Prop} (hf : FnOK P f args h Q) (hq : ∀ x h1, Q x h1 → ∃ y h2, Weak x y ∧ Sub h2 h1 ∧ Q' y h2) : FnOK P f args h Q' :=
  ⟨hf.1, fun c vs h1 h2 h3 h4 => (hf.2 c vs h1 h2 h3 h4).mono fun e w' ⟨u, h5, c', x, h', g1, g2, g3, g4, g5, g6⟩ => by
    obtain ⟨y, h'', k1, k2, k3⟩ := hq x h' g6
    exact ⟨u, h5, c', y, h'', g1, g2, g3, g4.weak k1, k2.trans g5, k3⟩⟩
def flat : AV → AV
  | .sl xs _ => .sl xs .no
  | x => x
theorem weak_flat (xs : List AV) : Weak (.agg xs) (.agg (xs.map flat)) := .agg _ _ (by simp) fun i h1 h2 => by
  rw [List.getElem_map]
  cases xs[i] <;> first | exact .refl _ | exact .sl _ _
theorem operand_p (st : PS) (hw : WfP st) : PC 88 [.sl [] .full, .v (.bool false)] st (condA (operG (exprF st.ts.length) st [] false).1) (operG (exprF st.ts.length) st [] false).2 := .of fun G id => by
  have hx := operand_x (exprF_ok st.ts.length) (expr_x st.ts.length) st [] false hw (by omega) (by simp)
  refine fnok_loose (hx G G id (.sl [] .full) (.full (base_start G id _))) fun r h1 ⟨y', e1, e2, e3⟩ => ⟨_, upd G id (some (PO (operG (exprF st.ts.length) st [] false).2)), ?_, base_end e3.1 e2, rfl, rfl⟩
  subst e1
  exact e3.weak
set_option maxRecDepth 20000 in
theorem rule_p (deny : Bool) (st : PS) (hw : WfP st) : PC 71 [.v (.bool deny)] st (ruleA (ruleP deny st).1) (ruleP deny st).2 := .of fun G id => by
  have h1 := ah_name hw
  have h2 := ah_tgt h1.1
  have h3 := ah_cond h2.1
  have h4 := ah_obls h3.1
  have ht := tgt_p _ h1.1
  simp only [tgtA] at ht
  refine FnOK.body hU hm Tryz.func71 rfl (by kernel_rfl) 23 rfl [.cell 4 40] rfl (Nat.le_of_ble_eq_true rfl) (fun hwf => ?_)
  simp -implicitDefEqProofs only [go_sem]
  intro i4 hi4
  have n4 := ne_upd hi4
  have hG4 : G i4 = none := by rw [upd_other _ _ n4] at hi4; exact hi4
  have c4 : ∀ (f : Heap) (x y : Option Blk), upd (upd f id x) i4 y = upd (upd f i4 y) id x := fun f x y => upd_comm f x y n4.symm
  simp -implicitDefEqProofs only [go_sem, c4]
  refine (pname_ok st hw).run ?_
  simp -implicitDefEqProofs only [go_sem, c4]
  refine ht.run ?_
  simp -implicitDefEqProofs only [go_sem, c4]
  intro i5 hi5
  have n5 := ne_upd hi5
  have hi5' := hi5
  rw [upd_other _ _ n5] at hi5'
  have n54 := ne_upd hi5'
  have m54 : ¬ i5 = i4 := n54
  have m45 : ¬ i4 = i5 := n54.symm
  have hG5 : G i5 = none := by rw [upd_other _ _ n54] at hi5'; exact hi5'
  have c5 : ∀ (f : Heap) (x y : Option Blk), upd (upd f id x) i5 y = upd (upd f i5 y) id x := fun f x y => upd_comm f x y n5.symm
  have c45 : ∀ (f : Heap) (x y : Option Blk), upd (upd f i5 x) i4 y = upd (upd f i4 y) i5 x := fun f x y => upd_comm f x y n54
  simp -implicitDefEqProofs only [go_sem, c4, c5, c45, upd_ne, n4, n5, m54, m45]
  refine (take_ok _ ifT h2.1).run ?_
  cases d0 : isD (tgtP (nameP st).2).2 ifT
  · have et : takeD (tgtP (nameP st).2).2 ifT = (false, (tgtP (nameP st).2).2) := by simp [takeD, d0]
    have ec : condP (tgtP (nameP st).2).2 = ([], (tgtP (nameP st).2).2) := by simp [condP, d0]
    have er : ruleP deny st = (⟨(nameP st).1, deny, (tgtP (nameP st).2).1, [], (oblsP (tgtP (nameP st).2).2).1⟩, mustD (oblsP (tgtP (nameP st).2).2).2 [59]) := by simp only [ruleP, ec]
    rw [ec] at h4
    have ho := duties_p _ h2.1
    simp only [oblsA] at ho
    rw [et]
    simp -implicitDefEqProofs only [go_sem, c4, c5, c45, upd_ne, n4, n5, m54, m45]
    refine ho.run ?_
    simp -implicitDefEqProofs only [go_sem, c4, c5, c45, upd_ne, n4, n5, m54, m45]
    refine (must_ok _ [59] h4.1).run ?_
    simp -implicitDefEqProofs only [go_sem, c4, c5, c45, upd_ne, n4, n5, m54, m45]
    exact .mk (h' := upd G id (some (PO (mustD (oblsP (tgtP (nameP st).2).2).2 [59])))) (ruleA ⟨(nameP st).1, deny, (tgtP (nameP st).2).1, [], (oblsP (tgtP (nameP st).2).2).1⟩) (weak_flat _) (Sub.both (by repeat (first | exact .refl _ | refine Sub.put ?_ (by assumption) _)) _ _) ⟨by rw [er], by rw [er]⟩
  · have et : takeD (tgtP (nameP st).2).2 ifT = (true, nextD (tgtP (nameP st).2).2) := by simp [takeD, d0]
    obtain ⟨⟨cn, stc⟩, ec⟩ : ∃ x, condP (tgtP (nameP st).2).2 = x := ⟨_, rfl⟩
    have er : ruleP deny st = (⟨(nameP st).1, deny, (tgtP (nameP st).2).1, cn, (oblsP stc).1⟩, mustD (oblsP stc).2 [59]) := by simp only [ruleP, ec]
    have hcnd := operand_p (nextD (tgtP (nameP st).2).2) (ah_next h2.1 (isD_kind d0)).1
    have ec2 : operG (exprF (nextD (tgtP (nameP st).2).2).ts.length) (nextD (tgtP (nameP st).2).2) [] false = (cn, stc) := by rw [← ec]; simp only [condP, d0, if_true]; rfl
    rw [ec2] at hcnd
    simp only [condA] at hcnd
    rw [ec] at h3 h4
    have ho := duties_p _ h3.1
    simp only [oblsA] at ho
    rw [et]
    simp -implicitDefEqProofs only [go_sem, c4, c5, c45, upd_ne, n4, n5, m54, m45]
    refine hcnd.run ?_
    simp -implicitDefEqProofs only [go_sem, c4, c5, c45, upd_ne, n4, n5, m54, m45]
    refine ho.run ?_
    simp -implicitDefEqProofs only [go_sem, c4, c5, c45, upd_ne, n4, n5, m54, m45]
    refine (must_ok _ [59] h4.1).run ?_
    simp -implicitDefEqProofs only [go_sem, c4, c5, c45, upd_ne, n4, n5, m54, m45]
    exact .mk (h' := upd G id (some (PO (mustD (oblsP stc).2 [59])))) (ruleA ⟨(nameP st).1, deny, (tgtP (nameP st).2).1, cn, (oblsP stc).1⟩) (weak_flat _) (Sub.both (by repeat (first | exact .refl _ | refine Sub.put ?_ (by assumption) _)) _ _) ⟨by rw [er], by rw [er]⟩
end Go.Proofs.YtdcchpbncckhlaaGreatDoor

set_option linter.unusedSimpArgs false
set_option linter.unusedVariables false
namespace Go.Proofs.YtdcchpbncckhlaaGreatDoor
open Go Go.Ab Go.Bf
theorem uz_r : (U 40).sz = 5 := by simp only [go_sem]
theorem ub_r : (U 40).bytes = 96 := by simp only [go_sem]
theorem sized_r (l : List RuleD) : Sized 5 (l.map ruleA) := fun z hz => by
  obtain ⟨c, _, rfl⟩ := List.mem_map.1 hz; rfl
set_option maxRecDepth 20000 in
theorem some_p (st : PS) (hw : WfP st) (hr : st.rules ≤ 64) : PC 46 [] st (.sl ((someF 17 st []).1.map ruleA) .no) (someF 17 st []).2 := .of fun G id => by
  obtain ⟨M, eM⟩ : ∃ M, someF 17 st [] = M := ⟨_, rfl⟩
  rw [eM]
  refine FnOK.body hU hm Tryz.func46 rfl (by kernel_rfl) 51 rfl [.tmp 2] rfl (Nat.le_of_ble_eq_true rfl) (fun hwf => ?_)
  simp -implicitDefEqProofs only [go_sem]
  have hB : upd G id none id = none := upd_same ..
  refine .intro (fun m ρ H => ∃ (f : Nat) (st' : PS) (l : List RuleD) (y : AV), H id = some (PO st') ∧ Acc U 40 (upd G id none) H y (l.map ruleA) ∧ Ah st st' ∧ st'.rules ≤ 64 ∧ someF f st' l = M ∧ f + l.length = 17 ∧ l.length ≤ 16 ∧ m = f ∧ lk ρ 0 = some (.ptr id 0) ∧ lk ρ 3 = some y) 17 ?_ ?_
  · refine ⟨17, st, [], .sl ([].map ruleA) .full, upd_same .., .full (base_start G id _), .refl hw, hr, eM, by simp, by simp, rfl, ?_, ?_⟩ <;> simp -implicitDefEqProofs only [go_sem] <;> rfl
  · rintro m ρ H ⟨f, st', l, y, hH, hy, ha, hru, hfin, hf, hll, rfl, r0, r3⟩
    have hlen := ha.1.2.2
    have hpos := ha.1.1
    obtain ⟨g, rfl⟩ : ∃ g, m = g + 1 := ⟨m - 1, by omega⟩
    simp -implicitDefEqProofs only [go_sem, r0, r3]
    refine (is_ok st' permitT ha.1).go hH ?_
    rw [upd_self hH]
    have fin : isD st' permitT = false → isD st' denyT = false → (l, st') = M := fun d1 d2 => by
      rw [← hfin]; simp [someF, d1, d2]
    have rest : isD st' permitT = true ∨ isD st' denyT = true → True := fun _ => trivial
    cases d1 : isD st' permitT
    · simp -implicitDefEqProofs only [go_sem, r0, r3]
      refine (is_ok st' denyT ha.1).go hH ?_
      rw [upd_self hH]
      cases d2 : isD st' denyT
      · simp -implicitDefEqProofs only [go_sem, r0, r3]
        have e := fin d1 d2
        exact .mk (h' := upd G id (some (PO M.2))) (.sl (M.1.map ruleA) .no) (by rw [← e]; exact hy.weak) (by rw [← e]; exact base_end hy.1 hH) ⟨rfl, rfl⟩
      · have hd : isD st' permitT = true ∨ isD st' denyT = true := by first | exact .inl d1 | exact .inr d2
        have eb := (isD_or hd).1
        have ek := (isD_or hd).2
        have db : (st'.bad != 0) = false := by simp [eb]
        have gP := hH
        unfold PO at gP
        have lim : l.length = 16 ∨ st'.rules = 64 → (l, limitD st' true) = M := fun h => by
          rw [← hfin]; simp only [someF, if_pos hd, if_pos h]
        have hdl : limitD st' true = wrongD st' 6 (hereD st').pos := rfl
        have hlb : ((limitD st' true).bad != 0) = true := by rw [hdl]; simp [wrongD, eb]
        cases dA : ((l.length : Int) == 16)
        · cases dB : ((st'.rules : Int) == 64)
          · have nA : l.length ≠ 16 := fun e => by rw [e] at dA; simp at dA
            have nB : st'.rules ≠ 64 := fun e => by rw [e] at dB; simp at dB
            have hno : ¬ (l.length = 16 ∨ st'.rules = 64) := fun h => h.elim nA nB
            simp only [someF, if_pos hd, if_neg hno] at hfin
            simp -implicitDefEqProofs only [go_sem, r0, r3, hy.len, List.length_map, dA, gP, dB]
            refine (limit_ok st' false ha.1).go hH ?_
            rw [show limitD st' false = st' from rfl, upd_self hH]
            have w1 : IntKind.i64.wrap ((st'.rules : Int) + 1) = ((st'.rules + 1 : Nat) : Int) := by rw [wr64 _ (by omega)]; omega
            have w2 : IntKind.i64.wrap ((st'.pos : Int) + 1) = ((st'.pos + 1 : Nat) : Int) := by rw [wr64 _ (by omega)]; omega
            simp -implicitDefEqProofs only [go_sem, r0, r3, gP, db, w1]
            have hwr : WfP { st' with rules := st'.rules + 1 } := ha.1
            refine (is_ok { st' with rules := st'.rules + 1 } denyT hwr).go (upd_same ..) ?_
            rw [upd_upd]
            have g2 : upd H id (some (PO { st' with rules := st'.rules + 1 })) id = some (.obj [.sl (st'.ts.map tokA) .no, .v (.int .i64 st'.pos), .v (.int .i64 (st'.rules + 1 : Nat)), .v (.int .i64 st'.bad), .v (.int .i64 st'.place)] 70) := upd_same ..
            simp -implicitDefEqProofs only [go_sem, r0, r3, g2, w2]
            have h2 : Ah st' { nextD st' with rules := st'.rules + 1 } := ah_rules ha.1 ek
            have h3 := ah_rule (isD st' denyT) h2.1
            have hrp := rule_p (isD st' denyT) { nextD st' with rules := st'.rules + 1 } h2.1
            have hr3 := (rch_pos (rch_rule (isD st' denyT) { nextD st' with rules := st'.rules + 1 })).2.2
            obtain ⟨x, st2, e2⟩ : ∃ x st2, ruleP (isD st' denyT) { nextD st' with rules := st'.rules + 1 } = (x, st2) := ⟨_, _, rfl⟩
            rw [e2] at hfin hrp h3 hr3
            simp only [ruleA] at hrp hfin h3 hr3
            refine hrp.go (upd_same ..) ?_
            rw [upd_upd]
            simp -implicitDefEqProofs only [go_sem, r0, r3]
            refine (hy.put hB hH _).app (zs := [ruleA x]) (by rw [uz_r]; decide) (by rw [ub_r]; decide) (fun k hk => hk) (by rw [uz_r]; exact sized_r l) (by rw [uz_r]; exact sized_r [x]) (by rw [ub_r]; simp; omega) fun y' H2 hy' hk2 => ?_
            have hH2 : H2 id = some (PO st2) := hk2 _ _ _ (upd_same ..)
            simp -implicitDefEqProofs only [go_sem, r0, r3]
            refine ⟨_, ?_, g, st2, l ++ [x], y', hH2, by rw [List.map_append]; exact hy', (ha.trans h2).trans h3, by omega, hfin, by simp; omega, by simp; omega, rfl, ?_, ?_⟩
            · omega
            all_goals simp -implicitDefEqProofs only [go_sem, r0, r3]
          · have nB : st'.rules = 64 := by have : (st'.rules : Int) = 64 := by simpa using dB
                                           omega
            have e := lim (.inr nB)
            simp -implicitDefEqProofs only [go_sem, r0, r3, hy.len, List.length_map, dA, gP, dB]
            refine (limit_ok st' true ha.1).go hH ?_
            have g3 : upd H id (some (PO (limitD st' true))) id = some (PO (limitD st' true)) := upd_same ..
            unfold PO at g3
            simp -implicitDefEqProofs only [go_sem, r0, r3, g3, hlb, PO]
            exact .mk (h' := upd G id (some (PO M.2))) (.sl (M.1.map ruleA) .no) (by rw [← e]; exact hy.weak) (by rw [← e]; exact base_end (hy.put hB hH _).1 (upd_same ..)) ⟨rfl, rfl⟩
        · have nA : l.length = 16 := by have : (l.length : Int) = 16 := by simpa using dA
                                        omega
          have e := lim (.inl nA)
          simp -implicitDefEqProofs only [go_sem, r0, r3, hy.len, List.length_map, dA, gP]
          refine (limit_ok st' true ha.1).go hH ?_
          have g3 : upd H id (some (PO (limitD st' true))) id = some (PO (limitD st' true)) := upd_same ..
          unfold PO at g3
          simp -implicitDefEqProofs only [go_sem, r0, r3, g3, hlb, PO]
          exact .mk (h' := upd G id (some (PO M.2))) (.sl (M.1.map ruleA) .no) (by rw [← e]; exact hy.weak) (by rw [← e]; exact base_end (hy.put hB hH _).1 (upd_same ..)) ⟨rfl, rfl⟩
    · have hd : isD st' permitT = true ∨ isD st' denyT = true := by first | exact .inl d1 | exact .inr d2
      have eb := (isD_or hd).1
      have ek := (isD_or hd).2
      have db : (st'.bad != 0) = false := by simp [eb]
      have gP := hH
      unfold PO at gP
      have lim : l.length = 16 ∨ st'.rules = 64 → (l, limitD st' true) = M := fun h => by
        rw [← hfin]; simp only [someF, if_pos hd, if_pos h]
      have hdl : limitD st' true = wrongD st' 6 (hereD st').pos := rfl
      have hlb : ((limitD st' true).bad != 0) = true := by rw [hdl]; simp [wrongD, eb]
      cases dA : ((l.length : Int) == 16)
      · cases dB : ((st'.rules : Int) == 64)
        · have nA : l.length ≠ 16 := fun e => by rw [e] at dA; simp at dA
          have nB : st'.rules ≠ 64 := fun e => by rw [e] at dB; simp at dB
          have hno : ¬ (l.length = 16 ∨ st'.rules = 64) := fun h => h.elim nA nB
          simp only [someF, if_pos hd, if_neg hno] at hfin
          simp -implicitDefEqProofs only [go_sem, r0, r3, hy.len, List.length_map, dA, gP, dB]
          refine (limit_ok st' false ha.1).go hH ?_
          rw [show limitD st' false = st' from rfl, upd_self hH]
          have w1 : IntKind.i64.wrap ((st'.rules : Int) + 1) = ((st'.rules + 1 : Nat) : Int) := by rw [wr64 _ (by omega)]; omega
          have w2 : IntKind.i64.wrap ((st'.pos : Int) + 1) = ((st'.pos + 1 : Nat) : Int) := by rw [wr64 _ (by omega)]; omega
          simp -implicitDefEqProofs only [go_sem, r0, r3, gP, db, w1]
          have hwr : WfP { st' with rules := st'.rules + 1 } := ha.1
          refine (is_ok { st' with rules := st'.rules + 1 } denyT hwr).go (upd_same ..) ?_
          rw [upd_upd]
          have g2 : upd H id (some (PO { st' with rules := st'.rules + 1 })) id = some (.obj [.sl (st'.ts.map tokA) .no, .v (.int .i64 st'.pos), .v (.int .i64 (st'.rules + 1 : Nat)), .v (.int .i64 st'.bad), .v (.int .i64 st'.place)] 70) := upd_same ..
          simp -implicitDefEqProofs only [go_sem, r0, r3, g2, w2]
          have h2 : Ah st' { nextD st' with rules := st'.rules + 1 } := ah_rules ha.1 ek
          have h3 := ah_rule (isD st' denyT) h2.1
          have hrp := rule_p (isD st' denyT) { nextD st' with rules := st'.rules + 1 } h2.1
          have hr3 := (rch_pos (rch_rule (isD st' denyT) { nextD st' with rules := st'.rules + 1 })).2.2
          obtain ⟨x, st2, e2⟩ : ∃ x st2, ruleP (isD st' denyT) { nextD st' with rules := st'.rules + 1 } = (x, st2) := ⟨_, _, rfl⟩
          rw [e2] at hfin hrp h3 hr3
          simp only [ruleA] at hrp hfin h3 hr3
          refine hrp.go (upd_same ..) ?_
          rw [upd_upd]
          simp -implicitDefEqProofs only [go_sem, r0, r3]
          refine (hy.put hB hH _).app (zs := [ruleA x]) (by rw [uz_r]; decide) (by rw [ub_r]; decide) (fun k hk => hk) (by rw [uz_r]; exact sized_r l) (by rw [uz_r]; exact sized_r [x]) (by rw [ub_r]; simp; omega) fun y' H2 hy' hk2 => ?_
          have hH2 : H2 id = some (PO st2) := hk2 _ _ _ (upd_same ..)
          simp -implicitDefEqProofs only [go_sem, r0, r3]
          refine ⟨_, ?_, g, st2, l ++ [x], y', hH2, by rw [List.map_append]; exact hy', (ha.trans h2).trans h3, by omega, hfin, by simp; omega, by simp; omega, rfl, ?_, ?_⟩
          · omega
          all_goals simp -implicitDefEqProofs only [go_sem, r0, r3]
        · have nB : st'.rules = 64 := by have : (st'.rules : Int) = 64 := by simpa using dB
                                         omega
          have e := lim (.inr nB)
          simp -implicitDefEqProofs only [go_sem, r0, r3, hy.len, List.length_map, dA, gP, dB]
          refine (limit_ok st' true ha.1).go hH ?_
          have g3 : upd H id (some (PO (limitD st' true))) id = some (PO (limitD st' true)) := upd_same ..
          unfold PO at g3
          simp -implicitDefEqProofs only [go_sem, r0, r3, g3, hlb, PO]
          exact .mk (h' := upd G id (some (PO M.2))) (.sl (M.1.map ruleA) .no) (by rw [← e]; exact hy.weak) (by rw [← e]; exact base_end (hy.put hB hH _).1 (upd_same ..)) ⟨rfl, rfl⟩
      · have nA : l.length = 16 := by have : (l.length : Int) = 16 := by simpa using dA
                                      omega
        have e := lim (.inl nA)
        simp -implicitDefEqProofs only [go_sem, r0, r3, hy.len, List.length_map, dA, gP]
        refine (limit_ok st' true ha.1).go hH ?_
        have g3 : upd H id (some (PO (limitD st' true))) id = some (PO (limitD st' true)) := upd_same ..
        unfold PO at g3
        simp -implicitDefEqProofs only [go_sem, r0, r3, g3, hlb, PO]
        exact .mk (h' := upd G id (some (PO M.2))) (.sl (M.1.map ruleA) .no) (by rw [← e]; exact hy.weak) (by rw [← e]; exact base_end (hy.put hB hH _).1 (upd_same ..)) ⟨rfl, rfl⟩
end Go.Proofs.YtdcchpbncckhlaaGreatDoor

set_option linter.unusedSimpArgs false
set_option linter.unusedVariables false
namespace Go.Proofs.YtdcchpbncckhlaaGreatDoor
open Go Go.Ab Go.Bf
theorem uz_k : (U 28).sz = 7 := by simp only [go_sem]
theorem ub_k : (U 28).bytes = 128 := by simp only [go_sem]
theorem sized_k (l : List PolD) : Sized 7 (l.map polA) := fun z hz => by
  obtain ⟨c, _, rfl⟩ := List.mem_map.1 hz
  cases c; rfl
set_option maxRecDepth 20000 in
theorem kids_p (pol : PoF) (d : Nat) (hd5 : d ≤ 5) (hp : ∀ st, WfP st → st.rules ≤ 64 → d ≤ 4 → PC 19 [.v (.int .i64 d)] st (polA (pol st).1) (pol st).2) (hpa : ∀ st, WfP st → Ah st (pol st).2) (hpr : ∀ st, RchR st (pol st).2)
    (st : PS) (hw : WfP st) (hr : st.rules ≤ 64) : PC 45 [.v (.int .i64 d)] st (.sl ((kidsF pol (decide ((4 : Int) < (d : Int))) 17 st []).1.map polA) .no) (kidsF pol (decide ((4 : Int) < (d : Int))) 17 st []).2 := .of fun G id => by
  obtain ⟨M, eM⟩ : ∃ M, kidsF pol (decide ((4 : Int) < (d : Int))) 17 st [] = M := ⟨_, rfl⟩
  rw [eM]
  refine FnOK.body hU hm Tryz.func45 rfl (by kernel_rfl) 33 rfl [.tmp 4] rfl (Nat.le_of_ble_eq_true rfl) (fun hwf => ?_)
  simp -implicitDefEqProofs only [go_sem]
  have hB : upd G id none id = none := upd_same ..
  refine .intro (fun m ρ H => ∃ (f : Nat) (st' : PS) (l : List PolD) (y : AV), H id = some (PO st') ∧ Acc U 28 (upd G id none) H y (l.map polA) ∧ Ah st st' ∧ st'.rules ≤ 64 ∧ kidsF pol (decide ((4 : Int) < (d : Int))) f st' l = M ∧ f + l.length = 17 ∧ l.length ≤ 16 ∧ m = f ∧ lk ρ 0 = some (.ptr id 0) ∧ lk ρ 1 = some (.v (.int .i64 d)) ∧ lk ρ 5 = some y) 17 ?_ ?_
  · refine ⟨17, st, [], .sl ([].map polA) .full, upd_same .., .full (base_start G id _), .refl hw, hr, eM, by simp, by simp, rfl, ?_, ?_, ?_⟩ <;> simp -implicitDefEqProofs only [go_sem] <;> rfl
  · rintro m ρ H ⟨f, st', l, y, hH, hy, ha, hru, hfin, hf, hll, rfl, r0, r1, r5⟩
    have hlen := ha.1.2.2
    have hpos := ha.1.1
    obtain ⟨g, rfl⟩ : ∃ g, m = g + 1 := ⟨m - 1, by omega⟩
    simp -implicitDefEqProofs only [go_sem, r0, r1, r5]
    refine (is_ok st' policyT ha.1).go hH ?_
    rw [upd_self hH]
    have fin : isD st' policyT = false → isD st' setT = false → (l, st') = M := fun d1 d2 => by
      rw [← hfin]; simp [kidsF, d1, d2]
    cases d1 : isD st' policyT
    · simp -implicitDefEqProofs only [go_sem, r0, r1, r5]
      refine (is_ok st' setT ha.1).go hH ?_
      rw [upd_self hH]
      cases d2 : isD st' setT
      · simp -implicitDefEqProofs only [go_sem, r0, r1, r5]
        have e := fin d1 d2
        exact .mk (h' := upd G id (some (PO M.2))) (.sl (M.1.map polA) .no) (by rw [← e]; exact hy.weak) (by rw [← e]; exact base_end hy.1 hH) ⟨rfl, rfl⟩
      · have hd : isD st' policyT = true ∨ isD st' setT = true := by first | exact .inl d1 | exact .inr d2
        have eb := (isD_or hd).1
        have ek := (isD_or hd).2
        have db : (st'.bad != 0) = false := by simp [eb]
        have gP := hH
        unfold PO at gP
        have lim : l.length = 16 ∨ decide ((4 : Int) < (d : Int)) = true → (l, limitD st' true) = M := fun h => by
          rw [← hfin]; simp only [kidsF, if_pos hd, if_pos h]
        have hdl : limitD st' true = wrongD st' 6 (hereD st').pos := rfl
        have hlb : ((limitD st' true).bad != 0) = true := by rw [hdl]; simp [wrongD, eb]
        cases dA : ((l.length : Int) == 16)
        · cases dB : decide ((4 : Int) < (d : Int))
          · have nA : l.length ≠ 16 := fun e => by rw [e] at dA; simp at dA
            have hno : ¬ (l.length = 16 ∨ decide ((4 : Int) < (d : Int)) = true) := fun h => h.elim nA (fun e => by rw [dB] at e; cases e)
            simp only [kidsF, if_pos hd, if_neg hno] at hfin
            rw [dB] at hfin
            have hd4 : d ≤ 4 := by have := of_decide_eq_false dB; omega
            simp -implicitDefEqProofs only [go_sem, r0, r1, r5, hy.len, List.length_map, dA, gP, dB]
            refine (limit_ok st' false ha.1).go hH ?_
            rw [show limitD st' false = st' from rfl, upd_self hH]
            have h3 := hpa st' ha.1
            have hrp := hp st' ha.1 hru hd4
            have hr3 := rules_pol (hpr st') hru
            obtain ⟨x, st2, e2⟩ : ∃ x st2, pol st' = (x, st2) := ⟨_, _, rfl⟩
            rw [e2] at hfin hrp h3 hr3
            obtain ⟨pid, pset, palg, ptgt, prules, pkids, pobls⟩ := x
            simp only [polA] at hrp hfin h3 hr3
            simp -implicitDefEqProofs only [go_sem, r0, r1, r5, gP, db]
            refine hrp.go hH ?_
            simp -implicitDefEqProofs only [go_sem, r0, r1, r5]
            refine (hy.put hB hH _).app (zs := [polA ⟨pid, pset, palg, ptgt, prules, pkids, pobls⟩]) (by rw [uz_k]; decide) (by rw [ub_k]; decide) (fun k hk => hk) (by rw [uz_k]; exact sized_k l) (by rw [uz_k]; exact sized_k [⟨pid, pset, palg, ptgt, prules, pkids, pobls⟩]) (by rw [ub_k]; simp; omega) fun y' H2 hy' hk2 => ?_
            have hH2 : H2 id = some (PO st2) := hk2 _ _ _ (upd_same ..)
            simp -implicitDefEqProofs only [go_sem, r0, r1, r5]
            refine ⟨_, ?_, g, st2, l ++ [⟨pid, pset, palg, ptgt, prules, pkids, pobls⟩], y', hH2, by rw [List.map_append]; exact hy', ha.trans h3, hr3, hfin, by simp; omega, by simp; omega, rfl, ?_, ?_, ?_⟩
            · omega
            all_goals simp -implicitDefEqProofs only [go_sem, r0, r1, r5]
          · have e := lim (.inr dB)
            simp -implicitDefEqProofs only [go_sem, r0, r1, r5, hy.len, List.length_map, dA, gP, dB]
            refine (limit_ok st' true ha.1).go hH ?_
            have g3 : upd H id (some (PO (limitD st' true))) id = some (PO (limitD st' true)) := upd_same ..
            unfold PO at g3
            simp -implicitDefEqProofs only [go_sem, r0, r1, r5, g3, hlb, PO]
            exact .mk (h' := upd G id (some (PO M.2))) (.sl (M.1.map polA) .no) (by rw [← e]; exact hy.weak) (by rw [← e]; exact base_end (hy.put hB hH _).1 (upd_same ..)) ⟨rfl, rfl⟩
        · have nA : l.length = 16 := by have : (l.length : Int) = 16 := by simpa using dA
                                        omega
          have e := lim (.inl nA)
          simp -implicitDefEqProofs only [go_sem, r0, r1, r5, hy.len, List.length_map, dA, gP]
          refine (limit_ok st' true ha.1).go hH ?_
          have g3 : upd H id (some (PO (limitD st' true))) id = some (PO (limitD st' true)) := upd_same ..
          unfold PO at g3
          simp -implicitDefEqProofs only [go_sem, r0, r1, r5, g3, hlb, PO]
          exact .mk (h' := upd G id (some (PO M.2))) (.sl (M.1.map polA) .no) (by rw [← e]; exact hy.weak) (by rw [← e]; exact base_end (hy.put hB hH _).1 (upd_same ..)) ⟨rfl, rfl⟩
    · have hd : isD st' policyT = true ∨ isD st' setT = true := by first | exact .inl d1 | exact .inr d2
      have eb := (isD_or hd).1
      have ek := (isD_or hd).2
      have db : (st'.bad != 0) = false := by simp [eb]
      have gP := hH
      unfold PO at gP
      have lim : l.length = 16 ∨ decide ((4 : Int) < (d : Int)) = true → (l, limitD st' true) = M := fun h => by
        rw [← hfin]; simp only [kidsF, if_pos hd, if_pos h]
      have hdl : limitD st' true = wrongD st' 6 (hereD st').pos := rfl
      have hlb : ((limitD st' true).bad != 0) = true := by rw [hdl]; simp [wrongD, eb]
      cases dA : ((l.length : Int) == 16)
      · cases dB : decide ((4 : Int) < (d : Int))
        · have nA : l.length ≠ 16 := fun e => by rw [e] at dA; simp at dA
          have hno : ¬ (l.length = 16 ∨ decide ((4 : Int) < (d : Int)) = true) := fun h => h.elim nA (fun e => by rw [dB] at e; cases e)
          simp only [kidsF, if_pos hd, if_neg hno] at hfin
          rw [dB] at hfin
          have hd4 : d ≤ 4 := by have := of_decide_eq_false dB; omega
          simp -implicitDefEqProofs only [go_sem, r0, r1, r5, hy.len, List.length_map, dA, gP, dB]
          refine (limit_ok st' false ha.1).go hH ?_
          rw [show limitD st' false = st' from rfl, upd_self hH]
          have h3 := hpa st' ha.1
          have hrp := hp st' ha.1 hru hd4
          have hr3 := rules_pol (hpr st') hru
          obtain ⟨x, st2, e2⟩ : ∃ x st2, pol st' = (x, st2) := ⟨_, _, rfl⟩
          rw [e2] at hfin hrp h3 hr3
          obtain ⟨pid, pset, palg, ptgt, prules, pkids, pobls⟩ := x
          simp only [polA] at hrp hfin h3 hr3
          simp -implicitDefEqProofs only [go_sem, r0, r1, r5, gP, db]
          refine hrp.go hH ?_
          simp -implicitDefEqProofs only [go_sem, r0, r1, r5]
          refine (hy.put hB hH _).app (zs := [polA ⟨pid, pset, palg, ptgt, prules, pkids, pobls⟩]) (by rw [uz_k]; decide) (by rw [ub_k]; decide) (fun k hk => hk) (by rw [uz_k]; exact sized_k l) (by rw [uz_k]; exact sized_k [⟨pid, pset, palg, ptgt, prules, pkids, pobls⟩]) (by rw [ub_k]; simp; omega) fun y' H2 hy' hk2 => ?_
          have hH2 : H2 id = some (PO st2) := hk2 _ _ _ (upd_same ..)
          simp -implicitDefEqProofs only [go_sem, r0, r1, r5]
          refine ⟨_, ?_, g, st2, l ++ [⟨pid, pset, palg, ptgt, prules, pkids, pobls⟩], y', hH2, by rw [List.map_append]; exact hy', ha.trans h3, hr3, hfin, by simp; omega, by simp; omega, rfl, ?_, ?_, ?_⟩
          · omega
          all_goals simp -implicitDefEqProofs only [go_sem, r0, r1, r5]
        · have e := lim (.inr dB)
          simp -implicitDefEqProofs only [go_sem, r0, r1, r5, hy.len, List.length_map, dA, gP, dB]
          refine (limit_ok st' true ha.1).go hH ?_
          have g3 : upd H id (some (PO (limitD st' true))) id = some (PO (limitD st' true)) := upd_same ..
          unfold PO at g3
          simp -implicitDefEqProofs only [go_sem, r0, r1, r5, g3, hlb, PO]
          exact .mk (h' := upd G id (some (PO M.2))) (.sl (M.1.map polA) .no) (by rw [← e]; exact hy.weak) (by rw [← e]; exact base_end (hy.put hB hH _).1 (upd_same ..)) ⟨rfl, rfl⟩
      · have nA : l.length = 16 := by have : (l.length : Int) = 16 := by simpa using dA
                                      omega
        have e := lim (.inl nA)
        simp -implicitDefEqProofs only [go_sem, r0, r1, r5, hy.len, List.length_map, dA, gP]
        refine (limit_ok st' true ha.1).go hH ?_
        have g3 : upd H id (some (PO (limitD st' true))) id = some (PO (limitD st' true)) := upd_same ..
        unfold PO at g3
        simp -implicitDefEqProofs only [go_sem, r0, r1, r5, g3, hlb, PO]
        exact .mk (h' := upd G id (some (PO M.2))) (.sl (M.1.map polA) .no) (by rw [← e]; exact hy.weak) (by rw [← e]; exact base_end (hy.put hB hH _).1 (upd_same ..)) ⟨rfl, rfl⟩
end Go.Proofs.YtdcchpbncckhlaaGreatDoor

set_option linter.unusedSimpArgs false
set_option linter.unusedVariables false
namespace Go.Proofs.YtdcchpbncckhlaaGreatDoor
open Go Go.Ab Go.Bf
set_option maxRecDepth 20000 in
theorem policy_s (r : Nat) (d : Nat) (hrd : r + d = 4) (hp : ∀ st, WfP st → st.rules ≤ 64 → d + 1 ≤ 4 → PC 19 [.v (.int .i64 (d + 1 : Nat))] st (polA (polF r st).1) (polF r st).2) (st : PS) (hw : WfP st) (hr : st.rules ≤ 64) :
    PC 19 [.v (.int .i64 d)] st (polA (polF (r + 1) st).1) (polF (r + 1) st).2 := .of fun G id => by
  have h1 := ah_among kindWs hw
  have h2 := ah_name h1.1
  have h3 := ah_among algWs h2.1
  have h4 := ah_tgt h3.1
  have h5 : Ah _ (headP st).2 := ah_must [123] h4.1
  have ht := tgt_p _ h3.1
  simp only [tgtA] at ht
  have hrh := rules_pol (rch_head st).big hr
  have hset : (headP st).1.1 = ((amongD st kindWs).1 == 2) := rfl
  have w1 : IntKind.i64.wrap ((d : Int) + 1) = ((d + 1 : Nat) : Int) := by rw [wr64 _ (by omega)]; omega
  have hdp : (r == 0) = decide ((4 : Int) < ((d + 1 : Nat) : Int)) := by
    by_cases h : r = 0
    · rw [decide_eq_true (by omega), h]; rfl
    · rw [decide_eq_false (by omega)]; simpa using h
  have hk := kids_p (polF r) (d + 1) (by omega) hp (fun _ h => ah_pol r _ h) (rch_pol r) _ h5.1 hrh
  have hs := some_p _ h5.1 hrh
  refine FnOK.body hU hm Tryz.func19 rfl (by kernel_rfl) 39 rfl [.cell 4 28] rfl (Nat.le_of_ble_eq_true rfl) (fun hwf => ?_)
  simp -implicitDefEqProofs only [go_sem]
  intro i4 hi4
  have n4 := ne_upd hi4
  have hG4 : G i4 = none := by rw [upd_other _ _ n4] at hi4; exact hi4
  have c4 : ∀ (f : Heap) (x y : Option Blk), upd (upd f id x) i4 y = upd (upd f i4 y) id x := fun f x y => upd_comm f x y n4.symm
  simp -implicitDefEqProofs only [go_sem, c4]
  intro i5 hi5
  have n5 := ne_upd hi5
  have hi5' := hi5
  rw [upd_other _ _ n5] at hi5'
  have n54 := ne_upd hi5'
  have m54 : ¬ i5 = i4 := n54
  have m45 : ¬ i4 = i5 := n54.symm
  have hG5 : G i5 = none := by rw [upd_other _ _ n54] at hi5'; exact hi5'
  have c5 : ∀ (f : Heap) (x y : Option Blk), upd (upd f id x) i5 y = upd (upd f i5 y) id x := fun f x y => upd_comm f x y n5.symm
  have c45 : ∀ (f : Heap) (x y : Option Blk), upd (upd f i5 x) i4 y = upd (upd f i4 y) i5 x := fun f x y => upd_comm f x y n54
  simp -implicitDefEqProofs only [go_sem, c4, c5, c45, upd_ne, n4, n5, m54, m45]
  refine (among_ok st kindWs .full (by decide) hw).run ?_
  simp -implicitDefEqProofs only [go_sem, c4, c5, c45, upd_ne, n4, n5, m54, m45]
  refine (pname_ok _ h1.1).run ?_
  simp -implicitDefEqProofs only [go_sem, c4, c5, c45, upd_ne, n4, n5, m54, m45]
  refine (among_ok _ algWs .full (by decide) h2.1).run ?_
  simp -implicitDefEqProofs only [go_sem, c4, c5, c45, upd_ne, n4, n5, m54, m45]
  refine ht.run ?_
  simp -implicitDefEqProofs only [go_sem, c4, c5, c45, upd_ne, n4, n5, m54, m45]
  refine (must_ok _ [123] h4.1).run ?_
  cases ds : ((amongD st kindWs).1 == 2)
  · rw [ds] at hset
    simp -implicitDefEqProofs only [go_sem, c4, c5, c45, upd_ne, n4, n5, m54, m45, ds]
    have eb : bodyP (polF r) (r == 0) (headP st).1.1 (headP st).2 = (((someF 17 (headP st).2 []).1, []), (someF 17 (headP st).2 []).2) := by simp [bodyP, hset]
    have hb := ah_body (fun _ h => ah_pol r _ h) (r == 0) (headP st).1.1 h5.1
    obtain ⟨⟨rl, stb⟩, er⟩ : ∃ x, someF 17 (headP st).2 [] = x := ⟨_, rfl⟩
    rw [er] at eb hs
    rw [eb] at hb
    have ho := duties_p _ (ah_must [125] hb.1).1
    simp only [oblsA] at ho hs
    refine hs.run ?_
    simp -implicitDefEqProofs only [go_sem, c4, c5, c45, upd_ne, n4, n5, m54, m45]
    refine (must_ok _ [125] hb.1).run ?_
    simp -implicitDefEqProofs only [go_sem, c4, c5, c45, upd_ne, n4, n5, m54, m45]
    refine ho.run ?_
    simp -implicitDefEqProofs only [go_sem, c4, c5, c45, upd_ne, n4, n5, m54, m45]
    have efin : polF (r + 1) st = (.mk (headP st).1.2.1 false (headP st).1.2.2.1 (headP st).1.2.2.2 rl [] (oblsP (mustD stb [125])).1, (oblsP (mustD stb [125])).2) := by simp only [polF, eb]; rw [hset]
    exact .mk (h' := upd G id (some (PO (oblsP (mustD stb [125])).2))) (polA (.mk (headP st).1.2.1 false (headP st).1.2.2.1 (headP st).1.2.2.2 rl [] (oblsP (mustD stb [125])).1)) (weak_flat _) (Sub.both (by repeat (first | exact .refl _ | refine Sub.put ?_ (by assumption) _)) _ _) ⟨by rw [efin], by rw [efin]⟩
  · rw [ds] at hset
    simp -implicitDefEqProofs only [go_sem, c4, c5, c45, upd_ne, n4, n5, m54, m45, ds, w1]
    have eb : bodyP (polF r) (r == 0) (headP st).1.1 (headP st).2 = (([], (kidsF (polF r) (r == 0) 17 (headP st).2 []).1), (kidsF (polF r) (r == 0) 17 (headP st).2 []).2) := by simp [bodyP, hset]
    have hb := ah_body (fun _ h => ah_pol r _ h) (r == 0) (headP st).1.1 h5.1
    rw [← hdp] at hk
    obtain ⟨⟨kl, stb⟩, er⟩ : ∃ x, kidsF (polF r) (r == 0) 17 (headP st).2 [] = x := ⟨_, rfl⟩
    rw [er] at eb hk
    rw [eb] at hb
    have ho := duties_p _ (ah_must [125] hb.1).1
    simp only [oblsA] at ho hk
    refine hk.run ?_
    simp -implicitDefEqProofs only [go_sem, c4, c5, c45, upd_ne, n4, n5, m54, m45]
    refine (must_ok _ [125] hb.1).run ?_
    simp -implicitDefEqProofs only [go_sem, c4, c5, c45, upd_ne, n4, n5, m54, m45]
    refine ho.run ?_
    simp -implicitDefEqProofs only [go_sem, c4, c5, c45, upd_ne, n4, n5, m54, m45]
    have efin : polF (r + 1) st = (.mk (headP st).1.2.1 true (headP st).1.2.2.1 (headP st).1.2.2.2 [] kl (oblsP (mustD stb [125])).1, (oblsP (mustD stb [125])).2) := by simp only [polF, eb]; rw [hset]
    exact .mk (h' := upd G id (some (PO (oblsP (mustD stb [125])).2))) (polA (.mk (headP st).1.2.1 true (headP st).1.2.2.1 (headP st).1.2.2.2 [] kl (oblsP (mustD stb [125])).1)) (by simp only [polA, kidsA_eq]; exact weak_flat _) (Sub.both (by repeat (first | exact .refl _ | refine Sub.put ?_ (by assumption) _)) _ _) ⟨by rw [efin], by rw [efin]⟩
theorem policy_p : ∀ (r d : Nat), r + d = 4 → ∀ st, WfP st → st.rules ≤ 64 → PC 19 [.v (.int .i64 d)] st (polA (polF (r + 1) st).1) (polF (r + 1) st).2
  | 0, d, hrd => fun st hw hr => policy_s 0 d hrd (fun _ _ _ h => absurd h (by omega)) st hw hr
  | r + 1, d, hrd => fun st hw hr => policy_s (r + 1) d hrd (fun st hw hr _ => policy_p r (d + 1) (by omega) st hw hr) st hw hr
end Go.Proofs.YtdcchpbncckhlaaGreatDoor

set_option linter.unusedSimpArgs false
set_option linter.unusedVariables false
namespace Go.Proofs.YtdcchpbncckhlaaGreatDoor
open Go Go.Ab Go.Bf
theorem attr_ok (a : AttrD) (h : Heap) : FnOK Tryz.prog 53 [attrA a] h fun r h' => r = .v (.bool (attrOK a)) ∧ h' = h := by
  refine FnOK.body hU hm Tryz.func53 rfl (by kernel_rfl) 16 rfl [.tmp 2] rfl (Nat.le_of_ble_eq_true rfl) (fun hwf => ?_)
  simp -implicitDefEqProofs only [go_sem, attrA]
  intro id hid
  cases d1 : decide (1 ≤ a.cat)
  · simp -implicitDefEqProofs only [go_sem, d1]
    exact .mk _ (.refl _) (.upd_new hid) ⟨by simp [attrOK, d1, oneOr], rfl⟩
  cases d2 : decide (a.cat ≤ 4)
  · simp -implicitDefEqProofs only [go_sem, d1, d2]
    exact .mk _ (.refl _) (.upd_new hid) ⟨by simp [attrOK, d1, d2, oneOr], rfl⟩
  simp -implicitDefEqProofs only [go_sem, d1, d2]
  refine (name_ok _ _).pthen ?_
  simp -implicitDefEqProofs only [go_sem, d1, d2]
  exact .mk _ (.refl _) (.upd_new hid) ⟨by simp [attrOK, d1, d2, oneOr], rfl⟩
theorem valRight_ok (v : ValD) (h : Heap) : FnOK Tryz.prog 49 [valA v] h fun r h' => r = .v (.bool (valOK v)) ∧ h' = h := by
  refine FnOK.body hU hm Tryz.func49 rfl (by kernel_rfl) 61 rfl [.tmp 2] rfl (Nat.le_of_ble_eq_true rfl) (fun hwf => ?_)
  simp -implicitDefEqProofs only [go_sem, valA]
  intro id hid
  cases k1 : (v.kind == 1)
  case true =>
    have e1 : v.kind = 1 := by simpa using k1
    cases d1 : (v.n == 0) <;> cases d2 : (v.n == 1)
    · simp -implicitDefEqProofs only [go_sem, k1, d1, d2]
      exact .mk _ (.refl _) (.upd_new hid) ⟨by simp [valOK, e1, d1, d2, oneOr], rfl⟩
    all_goals
      simp -implicitDefEqProofs only [go_sem, k1, d1, d2]
      exact .mk _ (.refl _) (.upd_new hid) ⟨by simp [valOK, e1, d1, d2, oneOr], rfl⟩
  have n1 : v.kind ≠ 1 := by simpa using k1
  cases k2 : (v.kind == 2)
  case true =>
    have e1 : v.kind = 2 := by simpa using k2
    simp -implicitDefEqProofs only [go_sem, k1, k2]
    exact .mk _ (.refl _) (.upd_new hid) ⟨by simp [valOK, e1, oneOr], rfl⟩
  have n2 : v.kind ≠ 2 := by simpa using k2
  cases k3 : (v.kind == 3)
  case true =>
    have e1 : v.kind = 3 := by simpa using k3
    cases d1 : (v.n == 0)
    all_goals
      simp -implicitDefEqProofs only [go_sem, k1, k2, k3, d1]
      exact .mk _ (.refl _) (.upd_new hid) ⟨by simp [valOK, e1, d1, oneOr] <;> omega, rfl⟩
  have n3 : v.kind ≠ 3 := by simpa using k3
  cases k4 : (v.kind == 4)
  case true =>
    have e1 : v.kind = 4 := by simpa using k4
    cases d1 : decide (0 ≤ v.n) <;> cases d2 : decide (v.n ≤ 1099511627776)
    all_goals
      simp -implicitDefEqProofs only [go_sem, k1, k2, k3, k4, d1, d2]
      exact .mk _ (.refl _) (.upd_new hid) ⟨by simp [valOK, e1, d1, d2, oneOr], rfl⟩
  have n4 : v.kind ≠ 4 := by simpa using k4
  cases k5 : (v.kind == 5)
  case true =>
    have e1 : v.kind = 5 := by simpa using k5
    cases d1 : (v.n == 0)
    · simp -implicitDefEqProofs only [go_sem, k1, k2, k3, k4, k5, d1]
      exact .mk _ (.refl _) (.upd_new hid) ⟨by simp [valOK, e1, d1, oneOr], rfl⟩
    · simp -implicitDefEqProofs only [go_sem, k1, k2, k3, k4, k5, d1]
      refine (name_ok _ _).pthen ?_
      simp -implicitDefEqProofs only [go_sem, d1]
      exact .mk _ (.refl _) (.upd_new hid) ⟨by simp [valOK, e1, d1, oneOr], rfl⟩
  have n5 : v.kind ≠ 5 := by simpa using k5
  simp -implicitDefEqProofs only [go_sem, k1, k2, k3, k4, k5]
  exact .mk _ (.refl _) (.upd_new hid) ⟨by simp [valOK, n1, n2, n3, n4, n5, oneOr], rfl⟩
theorem match_ok (m : MatchD) (h : Heap) : FnOK Tryz.prog 104 [matchA m] h fun r h' => r = .v (.bool (matchOK m)) ∧ h' = h := by
  refine FnOK.body hU hm Tryz.func104 rfl (by kernel_rfl) 21 rfl [.tmp 2] rfl (Nat.le_of_ble_eq_true rfl) (fun hwf => ?_)
  simp -implicitDefEqProofs only [go_sem, matchA]
  intro id hid
  simp -implicitDefEqProofs only [go_sem]
  refine (attr_ok m.attr _).pthen ?_
  cases d0 : attrOK m.attr
  · simp -implicitDefEqProofs only [go_sem, d0]
    exact .mk _ (.refl _) (.upd_new hid) ⟨by simp [matchOK, d0, oneOr], rfl⟩
  cases d1 : decide (1 ≤ m.op)
  · simp -implicitDefEqProofs only [go_sem, d0, d1]
    exact .mk _ (.refl _) (.upd_new hid) ⟨by simp [matchOK, d0, d1, oneOr], rfl⟩
  cases d2 : decide (m.op ≤ 3)
  · simp -implicitDefEqProofs only [go_sem, d0, d1, d2]
    exact .mk _ (.refl _) (.upd_new hid) ⟨by simp [matchOK, d0, d1, d2, oneOr], rfl⟩
  simp -implicitDefEqProofs only [go_sem, d0, d1, d2]
  refine (valRight_ok m.val _).pthen ?_
  simp -implicitDefEqProofs only [go_sem, d0, d1, d2]
  exact .mk _ (.refl _) (.upd_new hid) ⟨by simp [matchOK, d0, d1, d2, oneOr], rfl⟩
theorem many_ok (n : Nat) (h : Heap) : FnOK Tryz.prog 92 [.v (.int .i64 n)] h fun r h' => r = .v (.int .i64 (manyE n)) ∧ h' = h := by
  refine FnOK.body hU hm Tryz.func92 rfl (by kernel_rfl) 9 rfl [.tmp 2] rfl (Nat.le_of_ble_eq_true rfl) (fun hwf => ?_)
  cases d1 : ((n : Int) == 0)
  case true =>
    have e1 : n = 0 := by simpa using d1
    simp -implicitDefEqProofs only [go_sem, d1]
    exact .same (.refl _) ⟨by simp [manyE, e1, oneOr], rfl⟩
  have e1 : n ≠ 0 := by simpa using d1
  cases d2 : decide (8 < (n : Int))
  · have e2 : ¬ n > 8 := by have := of_decide_eq_false d2; omega
    simp -implicitDefEqProofs only [go_sem, d1, d2]
    exact .same (.refl _) ⟨by simp [manyE, e1, e2, oneOr], rfl⟩
  · have e2 : n > 8 := by have := of_decide_eq_true d2; omega
    simp -implicitDefEqProofs only [go_sem, d1, d2]
    exact .same (.refl _) ⟨by simp [manyE, e1, e2, oneOr], rfl⟩
theorem manyE_le {n : Nat} (h : manyE n = 0) : 1 ≤ n ∧ n ≤ 8 := by
  unfold manyE at h
  split at h
  · cases h
  · split at h
    · cases h
    · omega
theorem allOf_ok (l : List MatchD) (h : Heap) : FnOK Tryz.prog 93 [allA l] h fun r h' => r = .v (.int .i64 (allE l)) ∧ h' = h := by
  refine FnOK.body hU hm Tryz.func93 rfl (by kernel_rfl) 22 rfl [.tmp 2] rfl (Nat.le_of_ble_eq_true rfl) (fun hwf => ?_)
  simp -implicitDefEqProofs only [go_sem, allA, List.length_map]
  refine (many_ok _ _).pthen ?_
  cases d1 : (manyE l.length != 0)
  case true =>
    have e1 : manyE l.length ≠ 0 := by simpa using d1
    simp -implicitDefEqProofs only [go_sem, d1]
    exact .same (.refl _) ⟨by simp [allE, e1, oneOr], rfl⟩
  have e1 : manyE l.length = 0 := by simpa using d1
  have hlen := manyE_le e1
  simp -implicitDefEqProofs only [go_sem, d1, List.length_map]
  refine .intro (fun m ρ h' => Ab.Sub h h' ∧ ∃ i : Nat, i ≤ l.length ∧ m = l.length - i ∧ (l.take i).all matchOK = true ∧ lk ρ 12 = some (allA l) ∧ lk ρ 13 = some (.v (.int .i64 l.length)) ∧ lk ρ 14 = some (.v (.int .i64 i))) l.length ?_ ?_
  · refine ⟨.refl _, 0, by omega, rfl, rfl, ?_, ?_, ?_⟩ <;> simp -implicitDefEqProofs only [go_sem, allA]
  · rintro m ρ h' ⟨hs, i, hi, rfl, hc, r12, r13, r14⟩
    simp -implicitDefEqProofs only [go_sem, r12, r13, r14]
    refine .intro (fun e => ?_) (fun e => ?_)
    · have hlt : i < l.length := Int.ofNat_lt.1 (of_decide_eq_true e)
      have w1 : IntKind.i64.wrap ((i : Int) + 1) = ((i + 1 : Nat) : Int) := by rw [wr64 _ (by omega)]; omega
      simp -implicitDefEqProofs only [go_sem, r12, r13, r14, allA]
      refine .at i (by simpa using hlt) (by rw [List.getElem_map]; rfl) ?_
      simp -implicitDefEqProofs only [go_sem, r12, r13, r14, List.getElem_map, matchA]
      intro id hid
      simp -implicitDefEqProofs only [go_sem, r12, r13, r14]
      refine (match_ok l[i] _).pthen ?_
      cases d2 : matchOK l[i]
      · simp -implicitDefEqProofs only [go_sem, r12, r13, r14, d2]
        refine .mk _ (.refl _) (hs.new hid _) ⟨?_, rfl⟩
        have : l.all matchOK = false := List.all_eq_false.2 ⟨_, List.getElem_mem hlt, by simp [d2]⟩
        simp [allE, e1, this, oneOr]
      · simp -implicitDefEqProofs only [go_sem, r12, r13, r14, d2, w1]
        refine ⟨_, ?_, hs.new hid _, i + 1, by omega, rfl, ?_, ?_, ?_, ?_⟩
        · omega
        · rw [List.take_succ_eq_append_getElem hlt, List.all_append, hc]; simp [d2]
        all_goals simp -implicitDefEqProofs only [go_sem, r12, r13, r14, w1, allA]
    · have hge : i = l.length := by have := of_decide_eq_false e; omega
      subst hge
      rw [List.take_length] at hc
      simp -implicitDefEqProofs only [go_sem, r12, r13, r14]
      exact .mk _ (.refl _) hs ⟨by simp [allE, e1, hc, oneOr], rfl⟩
end Go.Proofs.YtdcchpbncckhlaaGreatDoor

set_option linter.unusedSimpArgs false
set_option linter.unusedVariables false
namespace Go.Proofs.YtdcchpbncckhlaaGreatDoor
open Go Go.Ab Go.Bf
theorem anyOf_ok (l : List (List MatchD)) (h : Heap) : FnOK Tryz.prog 80 [anyA l] h fun r h' => r = .v (.int .i64 (anyE l)) ∧ h' = h := by
  refine FnOK.body hU hm Tryz.func80 rfl (by kernel_rfl) 25 rfl [.tmp 2] rfl (Nat.le_of_ble_eq_true rfl) (fun hwf => ?_)
  simp -implicitDefEqProofs only [go_sem, anyA, List.length_map]
  refine (many_ok _ _).pthen ?_
  cases d1 : (manyE l.length != 0)
  case true =>
    have e1 : manyE l.length ≠ 0 := by simpa using d1
    simp -implicitDefEqProofs only [go_sem, d1]
    exact .same (.refl _) ⟨by simp [anyE, e1, oneOr], rfl⟩
  have e1 : manyE l.length = 0 := by simpa using d1
  have hlen := manyE_le e1
  simp -implicitDefEqProofs only [go_sem, d1, List.length_map]
  refine .intro (fun m ρ h' => Ab.Sub h h' ∧ ∃ i : Nat, i ≤ l.length ∧ m = l.length - i ∧ firstE allE (l.take i) = 0 ∧ lk ρ 13 = some (anyA l) ∧ lk ρ 14 = some (.v (.int .i64 l.length)) ∧ lk ρ 15 = some (.v (.int .i64 i))) l.length ?_ ?_
  · refine ⟨.refl _, 0, by omega, rfl, rfl, ?_, ?_, ?_⟩ <;> simp -implicitDefEqProofs only [go_sem, anyA]
  · rintro m ρ h' ⟨hs, i, hi, rfl, hc, r12, r13, r14⟩
    simp -implicitDefEqProofs only [go_sem, r12, r13, r14]
    refine .intro (fun e => ?_) (fun e => ?_)
    · have hlt : i < l.length := Int.ofNat_lt.1 (of_decide_eq_true e)
      have w1 : IntKind.i64.wrap ((i : Int) + 1) = ((i + 1 : Nat) : Int) := by rw [wr64 _ (by omega)]; omega
      simp -implicitDefEqProofs only [go_sem, r12, r13, r14, anyA]
      refine .at i (by simpa using hlt) (by rw [List.getElem_map]; rfl) ?_
      simp -implicitDefEqProofs only [go_sem, r12, r13, r14, List.getElem_map, allA]
      refine (allOf_ok l[i] _).pthen ?_
      cases d2 : (allE l[i] != 0)
      · have e2 : allE l[i] = 0 := by simpa using d2
        simp -implicitDefEqProofs only [go_sem, r12, r13, r14, d2, w1]
        refine ⟨_, ?_, hs, i + 1, by omega, rfl, firstE_take hlt hc e2, ?_, ?_, ?_⟩
        · omega
        all_goals simp -implicitDefEqProofs only [go_sem, r12, r13, r14, w1, anyA]
      · have e2 : allE l[i] ≠ 0 := by simpa using d2
        simp -implicitDefEqProofs only [go_sem, r12, r13, r14, d2]
        refine .mk _ (.refl _) hs ⟨?_, rfl⟩
        simp [anyE, e1, firstE_at hlt hc e2, oneOr]
    · have hge : i = l.length := by have := of_decide_eq_false e; omega
      subst hge
      rw [List.take_length] at hc
      simp -implicitDefEqProofs only [go_sem, r12, r13, r14]
      exact .mk _ (.refl _) hs ⟨by simp [anyE, e1, hc, oneOr], rfl⟩
theorem target_ok (l : TgtD) (h : Heap) : FnOK Tryz.prog 58 [tgtA l] h fun r h' => r = .v (.int .i64 (tgtE l)) ∧ h' = h := by
  refine FnOK.body hU hm Tryz.func58 rfl (by kernel_rfl) 21 rfl [.tmp 2] rfl (Nat.le_of_ble_eq_true rfl) (fun hwf => ?_)
  cases d1 : decide (8 < (l.length : Int))
  case true =>
    have e1 : 8 < l.length := by have := of_decide_eq_true d1; omega
    simp -implicitDefEqProofs only [go_sem, tgtA, List.length_map, d1]
    exact .same (.refl _) ⟨by simp [tgtE, e1, oneOr], rfl⟩
  have e1 : ¬ 8 < l.length := by have := of_decide_eq_false d1; omega
  simp -implicitDefEqProofs only [go_sem, d1, tgtA, List.length_map]
  refine .intro (fun m ρ h' => Ab.Sub h h' ∧ ∃ i : Nat, i ≤ l.length ∧ m = l.length - i ∧ firstE anyE (l.take i) = 0 ∧ lk ρ 9 = some (tgtA l) ∧ lk ρ 10 = some (.v (.int .i64 l.length)) ∧ lk ρ 11 = some (.v (.int .i64 i))) l.length ?_ ?_
  · refine ⟨.refl _, 0, by omega, rfl, rfl, ?_, ?_, ?_⟩ <;> simp -implicitDefEqProofs only [go_sem, tgtA]
  · rintro m ρ h' ⟨hs, i, hi, rfl, hc, r12, r13, r14⟩
    simp -implicitDefEqProofs only [go_sem, r12, r13, r14]
    refine .intro (fun e => ?_) (fun e => ?_)
    · have hlt : i < l.length := Int.ofNat_lt.1 (of_decide_eq_true e)
      have w1 : IntKind.i64.wrap ((i : Int) + 1) = ((i + 1 : Nat) : Int) := by rw [wr64 _ (by omega)]; omega
      simp -implicitDefEqProofs only [go_sem, r12, r13, r14, tgtA]
      refine .at i (by simpa using hlt) (by rw [List.getElem_map]; rfl) ?_
      simp -implicitDefEqProofs only [go_sem, r12, r13, r14, List.getElem_map, anyA]
      refine (anyOf_ok l[i] _).pthen ?_
      cases d2 : (anyE l[i] != 0)
      · have e2 : anyE l[i] = 0 := by simpa using d2
        simp -implicitDefEqProofs only [go_sem, r12, r13, r14, d2, w1]
        refine ⟨_, ?_, hs, i + 1, by omega, rfl, firstE_take hlt hc e2, ?_, ?_, ?_⟩
        · omega
        all_goals simp -implicitDefEqProofs only [go_sem, r12, r13, r14, w1, tgtA]
      · have e2 : anyE l[i] ≠ 0 := by simpa using d2
        simp -implicitDefEqProofs only [go_sem, r12, r13, r14, d2]
        refine .mk _ (.refl _) hs ⟨?_, rfl⟩
        simp [tgtE, e1, firstE_at hlt hc e2, oneOr]
    · have hge : i = l.length := by have := of_decide_eq_false e; omega
      subst hge
      rw [List.take_length] at hc
      simp -implicitDefEqProofs only [go_sem, r12, r13, r14]
      exact .mk _ (.refl _) hs ⟨by simp [tgtE, e1, hc, oneOr], rfl⟩
theorem obls_ok (l : List OblD) (h : Heap) : FnOK Tryz.prog 59 [oblsA l] h fun r h' => r = .v (.int .i64 (oblsE l)) ∧ h' = h := by
  refine FnOK.body hU hm Tryz.func59 rfl (by kernel_rfl) 39 rfl [.tmp 2] rfl (Nat.le_of_ble_eq_true rfl) (fun hwf => ?_)
  cases d1 : decide (8 < (l.length : Int))
  case true =>
    have e1 : 8 < l.length := by have := of_decide_eq_true d1; omega
    simp -implicitDefEqProofs only [go_sem, oblsA, List.length_map, d1]
    exact .same (.refl _) ⟨by simp [oblsE, e1, oneOr], rfl⟩
  have e1 : ¬ 8 < l.length := by have := of_decide_eq_false d1; omega
  simp -implicitDefEqProofs only [go_sem, d1, oblsA, List.length_map]
  refine .intro (fun m ρ h' => Ab.Sub h h' ∧ ∃ i : Nat, i ≤ l.length ∧ m = l.length - i ∧ (l.take i).all oblOK = true ∧ lk ρ 8 = some (oblsA l) ∧ lk ρ 9 = some (.v (.int .i64 l.length)) ∧ lk ρ 10 = some (.v (.int .i64 i))) l.length ?_ ?_
  · refine ⟨.refl _, 0, by omega, rfl, rfl, ?_, ?_, ?_⟩ <;> simp -implicitDefEqProofs only [go_sem, oblsA]
  · rintro m ρ h' ⟨hs, i, hi, rfl, hc, r12, r13, r14⟩
    simp -implicitDefEqProofs only [go_sem, r12, r13, r14]
    refine .intro (fun e => ?_) (fun e => ?_)
    · have hlt : i < l.length := Int.ofNat_lt.1 (of_decide_eq_true e)
      have w1 : IntKind.i64.wrap ((i : Int) + 1) = ((i + 1 : Nat) : Int) := by rw [wr64 _ (by omega)]; omega
      simp -implicitDefEqProofs only [go_sem, r12, r13, r14, oblsA]
      refine .at i (by simpa using hlt) (by rw [List.getElem_map]; rfl) ?_
      simp -implicitDefEqProofs only [go_sem, r12, r13, r14, List.getElem_map, oblA]
      intro id hid
      have bad : oblOK l[i] = false → oblsE l = 1 := fun hb => by
        have : l.all oblOK = false := List.all_eq_false.2 ⟨_, List.getElem_mem hlt, by simp [hb]⟩
        simp [oblsE, e1, this]
      cases c1 : decide (l[i].on < 1)
      case true =>
        simp -implicitDefEqProofs only [go_sem, r12, r13, r14, c1]
        exact .mk _ (.refl _) (hs.new hid _) ⟨by rw [bad (by have := of_decide_eq_true c1; simp [oblOK]; omega)]; rfl, rfl⟩
      cases c2 : decide (2 < l[i].on)
      case true =>
        simp -implicitDefEqProofs only [go_sem, r12, r13, r14, c1, c2]
        exact .mk _ (.refl _) (hs.new hid _) ⟨by rw [bad (by have := of_decide_eq_true c2; simp [oblOK]; omega)]; rfl, rfl⟩
      cases c3 : decide (l[i].kind < 1)
      case true =>
        simp -implicitDefEqProofs only [go_sem, r12, r13, r14, c1, c2, c3]
        exact .mk _ (.refl _) (hs.new hid _) ⟨by rw [bad (by have := of_decide_eq_true c3; simp [oblOK]; omega)]; rfl, rfl⟩
      cases c4 : decide (4 < l[i].kind)
      case true =>
        simp -implicitDefEqProofs only [go_sem, r12, r13, r14, c1, c2, c3, c4]
        exact .mk _ (.refl _) (hs.new hid _) ⟨by rw [bad (by have := of_decide_eq_true c4; simp [oblOK]; omega)]; rfl, rfl⟩
      simp -implicitDefEqProofs only [go_sem, r12, r13, r14, c1, c2, c3, c4]
      refine (name_ok _ _).pthen ?_
      cases d2 : nameOK l[i].arg
      · simp -implicitDefEqProofs only [go_sem, r12, r13, r14, d2]
        exact .mk _ (.refl _) (hs.new hid _) ⟨by rw [bad (by simp [oblOK, d2])]; rfl, rfl⟩
      · simp -implicitDefEqProofs only [go_sem, r12, r13, r14, d2, w1]
        refine ⟨_, ?_, hs.new hid _, i + 1, by omega, rfl, ?_, ?_, ?_, ?_⟩
        · omega
        · have f1 := of_decide_eq_false c1
          have f2 := of_decide_eq_false c2
          have f3 := of_decide_eq_false c3
          have f4 := of_decide_eq_false c4
          rw [List.take_succ_eq_append_getElem hlt, List.all_append, hc]; simp [oblOK, d2]; omega
        all_goals simp -implicitDefEqProofs only [go_sem, r12, r13, r14, w1, oblsA]
    · have hge : i = l.length := by have := of_decide_eq_false e; omega
      subst hge
      rw [List.take_length] at hc
      simp -implicitDefEqProofs only [go_sem, r12, r13, r14]
      exact .mk _ (.refl _) hs ⟨by simp [oblsE, e1, hc, oneOr], rfl⟩
end Go.Proofs.YtdcchpbncckhlaaGreatDoor

set_option linter.unusedSimpArgs false
set_option linter.unusedVariables false
namespace Go.Proofs.YtdcchpbncckhlaaGreatDoor
open Go Go.Ab Go.Bf
theorem wants_ok (op : Int) (h : Heap) : FnOK Tryz.prog 72 [.v (.int .i64 op)] h fun r h' => r = (match wantsD op with
    | none => .tup [.sl [] .no, .v (.bool false)]
    | some w => .tup [.sl (w.map boolA) .no, .v (.bool true)]) ∧ h' = h := by
  refine FnOK.body hU hm Tryz.func72 rfl (by kernel_rfl) 35 rfl [.tmp 2, .tmp 3] rfl (Nat.le_of_ble_eq_true rfl) (fun hwf => ?_)
  cases k1 : (op == 1)
  case true =>
    have e1 : op = 1 := by simpa using k1
    simp -implicitDefEqProofs only [go_sem, k1]
    exact .mk _ (weak_strip _) (.refl _) ⟨by simp [wantsD, e1, oneOr, strip, stripL, boolA], rfl⟩
  have n1 : op ≠ 1 := by simpa using k1
  cases k2 : (op == 2)
  case true =>
    have e1 : op = 2 := by simpa using k2
    simp -implicitDefEqProofs only [go_sem, k1, k2]
    exact .mk _ (weak_strip _) (.refl _) ⟨by simp [wantsD, e1, oneOr, strip, stripL, boolA], rfl⟩
  have n2 : op ≠ 2 := by simpa using k2
  cases k3 : (op == 3)
  case true =>
    have e1 : op = 3 := by simpa using k3
    simp -implicitDefEqProofs only [go_sem, k1, k2, k3]
    exact .mk _ (weak_strip _) (.refl _) ⟨by simp [wantsD, e1, oneOr, strip, stripL, boolA], rfl⟩
  have n3 : op ≠ 3 := by simpa using k3
  cases k4 : (op == 4)
  case true =>
    have e1 : op = 4 := by simpa using k4
    simp -implicitDefEqProofs only [go_sem, k1, k2, k3, k4]
    exact .mk _ (weak_strip _) (.refl _) ⟨by simp [wantsD, e1, oneOr, strip, stripL, boolA], rfl⟩
  have n4 : op ≠ 4 := by simpa using k4
  cases k5 : (op == 5)
  case true =>
    have e1 : op = 5 := by simpa using k5
    simp -implicitDefEqProofs only [go_sem, k1, k2, k3, k4, k5]
    exact .mk _ (weak_strip _) (.refl _) ⟨by simp [wantsD, e1, oneOr, strip, stripL, boolA], rfl⟩
  have n5 : op ≠ 5 := by simpa using k5
  cases k11 : (op == 11)
  case true =>
    have e1 : op = 11 := by simpa using k11
    simp -implicitDefEqProofs only [go_sem, k1, k2, k3, k4, k5, k11]
    exact .mk _ (weak_strip _) (.refl _) ⟨by simp [wantsD, e1, oneOr, strip, stripL, boolA], rfl⟩
  have n11 : op ≠ 11 := by simpa using k11
  cases k6 : decide (6 ≤ op)
  · have n6 := of_decide_eq_false k6
    simp -implicitDefEqProofs only [go_sem, k1, k2, k3, k4, k5, k11, k6]
    exact .mk _ (weak_strip _) (.refl _) ⟨by simp [wantsD, n1, n2, n3, n4, n5, n11, n6, oneOr, strip, stripL, boolA], rfl⟩
  cases k13 : decide (op ≤ 13)
  · have n13 := of_decide_eq_false k13
    simp -implicitDefEqProofs only [go_sem, k1, k2, k3, k4, k5, k11, k6, k13]
    exact .mk _ (weak_strip _) (.refl _) ⟨by simp [wantsD, n1, n2, n3, n4, n5, n11, n13, oneOr, strip, stripL, boolA], rfl⟩
  have n6 := of_decide_eq_true k6
  have n13 := of_decide_eq_true k13
  simp -implicitDefEqProofs only [go_sem, k1, k2, k3, k4, k5, k11, k6, k13]
  exact .mk _ (weak_strip _) (.refl _) ⟨by simp [wantsD, n1, n2, n3, n4, n5, n11, n6, n13, oneOr, strip, stripL, boolA], rfl⟩
theorem fields_ok (n : NodeD) (h : Heap) : FnOK Tryz.prog 73 [nodeA n] h fun r h' => r = .v (.bool (fieldsOK n)) ∧ h' = h := by
  refine FnOK.body hU hm Tryz.func73 rfl (by kernel_rfl) 37 rfl [.tmp 2] rfl (Nat.le_of_ble_eq_true rfl) (fun hwf => ?_)
  simp -implicitDefEqProofs only [go_sem, nodeA]
  intro id hid
  have fa : ∀ x y z : Bool, (x && (y && (z && true))) = (x && (y && (z && true))) := fun _ _ _ => rfl
  cases k1 : (n.op == 1)
  case true =>
    have e1 : n.op = 1 := by simpa using k1
    simp -implicitDefEqProofs only [go_sem, k1]
    refine (valRight_ok n.val _).pthen ?_
    cases d0 : valOK n.val
    · simp -implicitDefEqProofs only [go_sem, d0]
      exact .mk _ (.refl _) (.upd_new hid) ⟨by simp [fieldsOK, e1, d0, oneOr], rfl⟩
    · simp -implicitDefEqProofs only [go_sem, d0]
      exact .mk _ (.refl _) (.upd_new hid) ⟨by simp [fieldsOK, e1, d0, oneOr, zeroAt], rfl⟩
  have n1 : n.op ≠ 1 := by simpa using k1
  cases k2 : (n.op == 2)
  case true =>
    have e1 : n.op = 2 := by simpa using k2
    simp -implicitDefEqProofs only [go_sem, k1, k2]
    refine (attr_ok n.attr _).pthen ?_
    cases d0 : attrOK n.attr
    · simp -implicitDefEqProofs only [go_sem, d0]
      exact .mk _ (.refl _) (.upd_new hid) ⟨by simp [fieldsOK, e1, d0, oneOr], rfl⟩
    · simp -implicitDefEqProofs only [go_sem, d0]
      exact .mk _ (.refl _) (.upd_new hid) ⟨by simp [fieldsOK, e1, d0, oneOr, zeroV], rfl⟩
  have n2 : n.op ≠ 2 := by simpa using k2
  cases d0 : zeroV n.val
  · have d1 := d0
    unfold zeroV at d1
    simp -implicitDefEqProofs only [go_sem, k1, k2, d1]
    exact .mk _ (.refl _) (.upd_new hid) ⟨by simp [fieldsOK, n1, n2, d0, oneOr], rfl⟩
  · have d1 := d0
    unfold zeroV at d1
    simp -implicitDefEqProofs only [go_sem, k1, k2, d1]
    exact .mk _ (.refl _) (.upd_new hid) ⟨by simp [fieldsOK, n1, n2, d0, oneOr, zeroAt], rfl⟩
end Go.Proofs.YtdcchpbncckhlaaGreatDoor

set_option linter.unusedSimpArgs false
set_option linter.unusedVariables false
namespace Go.Proofs.YtdcchpbncckhlaaGreatDoor
open Go Go.Ab Go.Bf
theorem u4 : (U 4).sz = 1 := by simp only [go_sem]
theorem u4a : (U 4).k.agg = false := by simp only [go_sem]
theorem u4b : (U 4).bytes = 1 := by simp only [go_sem]
theorem u4f : fit (U 4).zero 1 := by simp only [go_sem]
theorem u4n : isAggA (U 4).zero = false := by simp only [go_sem]
theorem b_one (l : List Bool) : One (l.map boolA) := One.map (fun _ => rfl) l
theorem step_ok (y : AV) (st : List Bool) (n : NodeD) (h0 h : Heap) (hy : WrA 4 h0 h y (st.map boolA)) (hl : st.length ≤ 1000000) :
    FnOK Tryz.prog 48 [y, nodeA n] h fun r h' => ∃ z, r = .tup [z, .v (.bool (stepD st n).isSome)] ∧ match stepD st n with
      | none => Ab.Sub h0 h'
      | some st' => WrA 4 h0 h' z (st'.map boolA) := by
  refine FnOK.body hU hm Tryz.func48 rfl (by kernel_rfl) 60 rfl [.tmp 4, .tmp 5] rfl (Nat.le_of_ble_eq_true rfl) (fun hwf => ?_)
  simp -implicitDefEqProofs only [go_sem, nodeA]
  intro id hid
  simp -implicitDefEqProofs only [go_sem]
  have hyb := hy.base hid (some (.obj [.v (.int .i64 n.op), .v (.int .i64 n.val.kind), .v (.int .i64 n.val.n), .s n.val.s, .v (.int .i64 n.attr.cat), .s n.attr.name, .v (.bool n.attr.must)] 48))
  have hw := wants_ok n.op (upd h id (some (.obj [.v (.int .i64 n.op), .v (.int .i64 n.val.kind), .v (.int .i64 n.val.n), .s n.val.s, .v (.int .i64 n.attr.cat), .s n.attr.name, .v (.bool n.attr.must)] 48)))
  cases hwd : wantsD n.op with
  | none =>
    rw [hwd] at hw
    have hst : stepD st n = none := by simp [stepD, hwd]
    refine hw.pthen ?_
    simp -implicitDefEqProofs only [go_sem]
    exact .mk _ (.refl _) (.upd_new hid) ⟨_, by rw [hst]; rfl, by rw [hst]; exact hy.1⟩
  | some w =>
    rw [hwd] at hw
    have hwl : w.length ≤ 2 := by
      unfold wantsD at hwd
      repeat' split at hwd
      all_goals first | (cases hwd; simp; done) | (cases hwd)
    refine hw.pthen ?_
    simp -implicitDefEqProofs only [go_sem]
    refine (fields_ok n _).pthen ?_
    cases d1 : fieldsOK n
    · have hst : stepD st n = none := by simp [stepD, hwd, d1]
      simp -implicitDefEqProofs only [go_sem, d1]
      exact .mk _ (.refl _) (.upd_new hid) ⟨_, by rw [hst]; rfl, by rw [hst]; exact hy.1⟩
    cases d2 : decide ((st.length : Int) < (w.length : Int))
    case true =>
      have e2 : ¬ w.length ≤ st.length := by have := of_decide_eq_true d2; omega
      have hst : stepD st n = none := by simp [stepD, hwd, d1, e2]
      simp -implicitDefEqProofs only [go_sem, d1, hyb.len, List.length_map, d2]
      exact .mk _ (.refl _) (.upd_new hid) ⟨_, by rw [hst]; rfl, by rw [hst]; exact hy.1⟩
    have e2 : w.length ≤ st.length := by have := of_decide_eq_false d2; omega
    have w1 : IntKind.i64.wrap ((st.length : Int) - (w.length : Int)) = ((st.length - w.length : Nat) : Int) := by rw [wr64 _ (by omega)]; omega
    obtain ⟨hb, ehb⟩ : ∃ hb, upd h id (some (.obj [.v (.int .i64 n.op), .v (.int .i64 n.val.kind), .v (.int .i64 n.val.n), .s n.val.s, .v (.int .i64 n.attr.cat), .s n.attr.name, .v (.bool n.attr.must)] 48)) = hb := ⟨_, rfl⟩
    have hbid : hb id = some (.obj [.v (.int .i64 n.op), .v (.int .i64 n.val.kind), .v (.int .i64 n.val.n), .s n.val.s, .v (.int .i64 n.attr.cat), .s n.attr.name, .v (.bool n.attr.must)] 48) := by rw [← ehb]; exact upd_same ..
    have hsub : Ab.Sub h hb := by rw [← ehb]; exact .upd_new hid
    rw [ehb] at hyb ⊢
    simp -implicitDefEqProofs only [go_sem, d1, hyb.len, List.length_map, d2, w1]
    refine .intro (fun m ρ h' => h' = hb ∧ ∃ i : Nat, i ≤ w.length ∧ m = w.length - i ∧ (∀ j, j < i → st[st.length - w.length + j]? = w[j]?) ∧ lk ρ 0 = some y ∧ lk ρ 3 = some (.ptr id 0) ∧ lk ρ 8 = some (.v (.int .i64 ((st.length - w.length : Nat) : Int))) ∧ lk ρ 36 = some (.sl (w.map boolA) .no) ∧ lk ρ 37 = some (.v (.int .i64 w.length)) ∧ lk ρ 38 = some (.v (.int .i64 i))) w.length ?_ ?_
    · refine ⟨rfl, 0, by omega, rfl, fun j hj => (by omega), ?_, ?_, ?_, ?_, ?_, ?_⟩ <;> simp -implicitDefEqProofs only [go_sem]
    · rintro m ρ h' ⟨rfl, i, hi, rfl, hc, r0, r3, r8, r36, r37, r38⟩
      simp -implicitDefEqProofs only [go_sem, r0, r3, r8, r36, r37, r38]
      refine .intro (fun e => ?_) (fun e => ?_)
      · have hlt : i < w.length := Int.ofNat_lt.1 (of_decide_eq_true e)
        have w2 : IntKind.i64.wrap ((i : Int) + 1) = ((i + 1 : Nat) : Int) := by rw [wr64 _ (by omega)]; omega
        have w3 : IntKind.i64.wrap (((st.length - w.length : Nat) : Int) + (i : Int)) = ((st.length - w.length + i : Nat) : Int) := by rw [wr64 _ (by omega)]; omega
        have hlt2 : st.length - w.length + i < st.length := by omega
        simp -implicitDefEqProofs only [go_sem, r0, r3, r8, r36, r37, r38]
        refine .at i (by simpa using hlt) (by rw [List.getElem_map]; rfl) ?_
        simp -implicitDefEqProofs only [go_sem, r0, r3, r8, r36, r37, r38, List.getElem_map, boolA, w3]
        refine hyb.idx (b_one st) (st.length - w.length + i) rfl (by simpa using hlt2) u4 u4a fun p hp => ?_
        simp -implicitDefEqProofs only [go_sem, r0, r3, r8, r36, r37, r38, hp _, List.getElem_map, boolA]
        cases d3 : (st[st.length - w.length + i] == w[i])
        · have hst : stepD st n = none := by
            have : st.drop (st.length - w.length) ≠ w := fun hh => by
              have := congrArg (fun q => q[i]?) hh
              simp only [List.getElem?_drop, List.getElem?_eq_getElem hlt, List.getElem?_eq_getElem hlt2, Option.some.injEq] at this
              rw [this] at d3; simp at d3
            simp [stepD, hwd, this]
          simp -implicitDefEqProofs only [go_sem, r0, r3, r8, r36, r37, r38, d3]
          exact .mk _ (.refl _) hsub ⟨_, by rw [hst]; rfl, by rw [hst]; exact hy.1⟩
        · simp -implicitDefEqProofs only [go_sem, r0, r3, r8, r36, r37, r38, d3, w2]
          refine ⟨_, ?_, rfl, i + 1, by omega, rfl, fun j hj => ?_, ?_, ?_, ?_, ?_, ?_, ?_⟩
          · omega
          · by_cases hji : j = i
            · subst hji
              rw [List.getElem?_eq_getElem hlt2, List.getElem?_eq_getElem hlt]
              simpa using d3
            · exact hc j (by omega)
          all_goals simp -implicitDefEqProofs only [go_sem, r0, r3, r8, r36, r37, r38, w2]
      · have hge : i = w.length := by have := of_decide_eq_false e; omega
        subst hge
        have hdrop : st.drop (st.length - w.length) = w := by
          apply List.ext_getElem?
          intro j
          rw [List.getElem?_drop]
          by_cases hj : j < w.length
          · exact hc j hj
          · rw [List.getElem?_eq_none (by omega), List.getElem?_eq_none (by omega)]
        have hst : stepD st n = some (st.take (st.length - w.length) ++ [n.op == 2]) := by
          simp [stepD, hwd, d1, e2, hdrop]
        simp -implicitDefEqProofs only [go_sem, r0, r3, r8, r36, r37, r38]
        refine .calls (hm1 id _) [0, 1, 2, 3, 4, 5, 6, 7, 8, 9] (.hm1 hbid) (by kernel_rfl) rfl ?_
        simp -implicitDefEqProofs only [go_sem, r0, r3, r8, r36, r37, r38]
        refine hyb.cut (x := .i64) (st.length - w.length) (by simp -implicitDefEqProofs only [go_sem, r0, r3, r8]) rfl (by simp) u4 fun z hz => ?_
        rw [← List.map_take] at hz
        simp -implicitDefEqProofs only [go_sem, r0, r3, r8, r36, r37, r38, hm1_same]
        refine hz.app (zs := [.v (.bool (n.op == 2))]) (b_one _) (b_one [n.op == 2]) u4 (by rw [u4b]; decide) u4f u4n (fun k hk => hk) (by rw [u4b]; simp; omega) fun z' h2 hz' => ?_
        refine ⟨fun j b hj => ((Sub.hm1 (upd_same ..)).trans hz'.1) j b hj, ?_⟩
        simp -implicitDefEqProofs only [go_sem, r0, r3, r8]
        have hz2 := hz'.less (Sub.upd_new (hy.1.none hid))
        refine .same (.refl _) ⟨z', by rw [hst]; rfl, ?_⟩
        rw [hst]
        simp only [List.map_append]
        exact hz2
theorem condE_none {l : List NodeD} (h : l.length ≤ 32) (hs : stepsD [] l = none) : exprE l = 1 := by
  simp [exprE, hs, Nat.not_lt.2 h]
theorem stepsD_split (st : List Bool) : ∀ (l : List NodeD) (i : Nat), stepsD st l = (match stepsD st (l.take i) with
    | none => none
    | some st' => stepsD st' (l.drop i))
  | [], i => by simp [stepsD]
  | n :: r, 0 => by simp [stepsD]
  | n :: r, i + 1 => by
    simp only [List.take_succ_cons, List.drop_succ_cons, stepsD]
    cases stepD st n with
    | none => rfl
    | some st' => simp only; exact stepsD_split st' r i
theorem stepsD_length (st st' : List Bool) (l : List NodeD) (h : stepsD st l = some st') : st'.length ≤ st.length + l.length := by
  induction l generalizing st with
  | nil => simp only [stepsD, Option.some.injEq] at h; subst h; simp
  | cons n r ih =>
    simp only [stepsD] at h
    cases hs : stepD st n with
    | none => rw [hs] at h; cases h
    | some s2 =>
      rw [hs] at h
      have := ih s2 h
      unfold stepD at hs
      split at hs
      · cases hs
      · split at hs
        · cases hs
          simp at this ⊢
          omega
        · cases hs
theorem expr_ok (l : List NodeD) (h : Heap) : FnOK Tryz.prog 24 [condA l] h fun r h' => r = .v (.int .i64 (exprE l)) ∧ h' = h := by
  refine FnOK.body hU hm Tryz.func24 rfl (by kernel_rfl) 38 rfl [.tmp 2] rfl (Nat.le_of_ble_eq_true rfl) (fun hwf => ?_)
  cases d1 : decide (32 < (l.length : Int))
  case true =>
    have e1 : 32 < l.length := by have := of_decide_eq_true d1; omega
    simp -implicitDefEqProofs only [go_sem, condA, List.length_map, d1]
    exact .same (.refl _) ⟨by simp [exprE, e1, oneOr], rfl⟩
  have e1 : l.length ≤ 32 := by have := of_decide_eq_false d1; omega
  simp -implicitDefEqProofs only [go_sem, condA, List.length_map, d1]
  refine .intro (fun m ρ h' => ∃ (i : Nat) (y : AV) (st : List Bool), WrA 4 h h' y (st.map boolA) ∧ stepsD [] (l.take i) = some st ∧ i ≤ l.length ∧ m = l.length - i ∧
    lk ρ 0 = some (condA l) ∧ lk ρ 3 = some y ∧ lk ρ 10 = some (condA l) ∧ lk ρ 11 = some (.v (.int .i64 l.length)) ∧ lk ρ 12 = some (.v (.int .i64 i))) l.length ?_ ?_
  · refine ⟨0, _, [], .nil (.refl _), rfl, by omega, rfl, ?_, ?_, ?_, ?_, ?_⟩ <;> simp -implicitDefEqProofs only [go_sem, condA]
  · rintro m ρ h' ⟨i, y, st, hy, hst, hi, rfl, r0, r3, r10, r11, r12⟩
    have hsl := stepsD_length _ _ _ hst
    have hsl : st.length ≤ i := by simpa [Nat.min_eq_left hi] using hsl
    simp -implicitDefEqProofs only [go_sem, r0, r3, r10, r11, r12]
    refine .intro (fun e => ?_) (fun e => ?_)
    · have hlt : i < l.length := Int.ofNat_lt.1 (of_decide_eq_true e)
      have w1 : IntKind.i64.wrap ((i : Int) + 1) = ((i + 1 : Nat) : Int) := by rw [wr64 _ (by omega)]; omega
      have hnx : stepsD [] (l.take (i + 1)) = stepD st l[i] := by
        rw [stepsD_split [] _ i, List.take_take, Nat.min_eq_left (by omega), hst, List.take_succ_eq_append_getElem hlt, List.drop_append_of_le_length (by simp; omega), List.drop_of_length_le (by simp; omega)]
        simp only [List.nil_append, stepsD]
        cases stepD st l[i] <;> rfl
      simp -implicitDefEqProofs only [go_sem, r0, r3, r10, r11, r12, condA]
      refine .at i (by simpa using hlt) (by rw [List.getElem_map]; rfl) ?_
      simp -implicitDefEqProofs only [go_sem, r0, r3, r10, r11, r12, List.getElem_map, nodeA]
      intro id hid
      simp -implicitDefEqProofs only [go_sem, r0, r3, r10, r11, r12]
      have hyb := hy.sub (Sub.upd_new (k := some (.obj [.v (.int .i64 l[i].op), .v (.int .i64 l[i].val.kind), .v (.int .i64 l[i].val.n), .s l[i].val.s, .v (.int .i64 l[i].attr.cat), .s l[i].attr.name, .v (.bool l[i].attr.must)] 48)) hid)
      refine (step_ok y st l[i] h _ hyb (by omega)).mono fun r h2 ⟨z, e2, hz⟩ => ?_
      subst e2
      cases hsd : stepD st l[i] with
      | none =>
        rw [hsd] at hz
        simp -implicitDefEqProofs only [go_sem, r0, r3, r10, r11, r12, Option.isSome_none]
        refine .mk _ (.refl _) hz ⟨?_, rfl⟩
        rw [condE_none e1 (by rw [stepsD_split [] l (i + 1), hnx, hsd])]; rfl
      | some st' =>
        rw [hsd] at hz hnx
        simp -implicitDefEqProofs only [go_sem, r0, r3, r10, r11, r12, Option.isSome_some, w1]
        refine ⟨_, ?_, i + 1, z, st', hz, hnx, by omega, rfl, ?_, ?_, ?_, ?_, ?_⟩
        · omega
        all_goals simp -implicitDefEqProofs only [go_sem, r0, r3, r10, r11, r12, w1, condA]
    · have hge : i = l.length := by have := of_decide_eq_false e; omega
      subst hge
      rw [List.take_length] at hst
      have he : exprE l = if l = [] ∨ st = [false] then 0 else 1 := by
        simp only [exprE, hst]
        rw [if_neg (by omega)]
      cases d2 : decide (0 < (l.length : Int))
      · have e2 : l = [] := by have := of_decide_eq_false d2; exact List.length_eq_zero_iff.1 (by omega)
        simp -implicitDefEqProofs only [go_sem, r0, r3, r10, r11, r12, condA, List.length_map, d2]
        exact .mk _ (.refl _) hy.1 ⟨by rw [he, if_pos (.inl e2)]; rfl, rfl⟩
      have e2 : l ≠ [] := by rintro rfl; simp at d2
      cases d3 : ((st.length : Int) != 1)
      case true =>
        have e3 : st ≠ [false] := by rintro rfl; simp at d3
        simp -implicitDefEqProofs only [go_sem, r0, r3, r10, r11, r12, condA, List.length_map, d2, hy.len, d3]
        exact .mk _ (.refl _) hy.1 ⟨by rw [he, if_neg (by simp [e2, e3])]; rfl, rfl⟩
      have e3 : st.length = 1 := by
        have : (st.length : Int) = 1 := by simpa using d3
        omega
      obtain ⟨b, rfl⟩ := List.length_eq_one_iff.1 e3
      simp -implicitDefEqProofs only [go_sem, r0, r3, r10, r11, r12, condA, List.length_map, d2, hy.len, d3]
      refine hy.idx (b_one [b]) 0 rfl (by simp) u4 u4a fun p hp => ?_
      simp -implicitDefEqProofs only [go_sem, r0, r3, r10, r11, r12, hp _, List.getElem_map, boolA, List.getElem_cons_zero]
      cases b
      · simp -implicitDefEqProofs only [go_sem, r0, r3, r10, r11, r12]
        exact .mk _ (.refl _) hy.1 ⟨by rw [he, if_pos (.inr rfl)]; rfl, rfl⟩
      · simp -implicitDefEqProofs only [go_sem, r0, r3, r10, r11, r12]
        exact .mk _ (.refl _) hy.1 ⟨by rw [he, if_neg (by simp [e2])]; rfl, rfl⟩
end Go.Proofs.YtdcchpbncckhlaaGreatDoor

set_option linter.unusedSimpArgs false
set_option linter.unusedVariables false
namespace Go.Proofs.YtdcchpbncckhlaaGreatDoor
open Go Go.Ab Go.Bf
def Keeps (S : List Nat) (h h' : Heap) : Prop := ∀ j k, j ∉ S → h j = some k → h' j = some k
theorem Keeps.refl (S : List Nat) (h : Heap) : Keeps S h h := fun _ _ _ e => e
theorem Keeps.trans {S : List Nat} {a b c : Heap} (x : Keeps S a b) (y : Keeps S b c) : Keeps S a c := fun j k hj e => y j k hj (x j k hj e)
theorem Keeps.of {S : List Nat} {a b : Heap} (x : Ab.Sub a b) : Keeps S a b := fun j k _ e => x j k e
theorem Keeps.upd {S : List Nat} {a : Heap} {i : Nat} {b : Option Blk} (hi : i ∈ S) : Keeps S a (Ab.upd a i b) := fun j k hj e => by
  rw [upd_other _ _ (fun e => hj (by rw [e]; exact hi))]; exact e
def WalkAt (h : Heap) (idw mid : Nat) (m : MetD) : Prop := h idw = some (.obj [.mp mid, .v (.int .i64 m.rules)] 57) ∧ h mid = some (.mp (setA m.met)) ∧ (∀ l ∈ m.met, l.length ≤ 16) ∧ m.rules ≤ 64
theorem WalkAt.ne {h : Heap} {idw mid : Nat} {m : MetD} (hw : WalkAt h idw mid m) : idw ≠ mid := fun e => by
  have h1 := hw.1; have h2 := hw.2.1
  rw [e, h2] at h1; cases h1
theorem WalkAt.keep {h h' : Heap} {idw mid : Nat} {m : MetD} (hw : WalkAt h idw mid m) (hs : Ab.Sub h h') : WalkAt h' idw mid m := ⟨hs _ _ hw.1, hs _ _ hw.2.1, hw.2.2⟩
theorem u158 : (U 136).sz = 0 := by simp only [go_sem]
theorem nameOK_len {s : Txt} (h : nameOK s = true) : s.length ≤ 16 := by
  simp [nameOK] at h; exact h.2
theorem meetD_none {m : MetD} {s : Txt} (h : s ∈ m.met ∨ nameOK s = false) : meetD m s = none := by
  unfold meetD
  rw [if_neg]
  rintro ⟨h1, h2⟩
  rcases h with h | h
  · exact h1 h
  · rw [h] at h2; cases h2
theorem wname_ok (idw mid : Nat) (m : MetD) (s : Txt) (h : Heap) (hw : WalkAt h idw mid m) : FnOK Tryz.prog 57 [.ptr idw 0, .s s] h fun r h' => match meetD m s with
    | none => r = .v (.bool false) ∧ Ab.Sub h h'
    | some m' => r = .v (.bool true) ∧ Keeps [idw, mid] h h' ∧ WalkAt h' idw mid m' := by
  refine FnOK.body hU hm Tryz.func57 rfl (by kernel_rfl) 28 rfl [.tmp 4] rfl (Nat.le_of_ble_eq_true rfl) (fun hwf => ?_)
  obtain ⟨w1, w2, w3, w4⟩ := hw
  have hlen : s.length ≤ maxLen := by
    have := hwf (.s s) (by simp)
    simp only [wfA, wf1, lim] at this
    unfold maxLen; omega
  have hkeys : KeysA .str (setA m.met) := keysA_set fun l hl => by have := w3 l hl; unfold maxLen; omega
  simp -implicitDefEqProofs only [go_sem, w1, w2, u158]
  refine ⟨hlen, .inr (by simp only [go_sem]), hkeys, ?_⟩
  rw [lookM_set _ _ u158]
  simp -implicitDefEqProofs only [go_sem, w1, w2]
  intro idv hidv
  simp -implicitDefEqProofs only [go_sem]
  cases d1 : decide (s ∈ m.met)
  case true =>
    have hm := meetD_none (.inl (of_decide_eq_true d1))
    simp -implicitDefEqProofs only [go_sem, d1]
    rw [hm]
    exact .mk _ (.refl _) (.upd_new hidv) ⟨rfl, .refl _⟩
  have e1 := of_decide_eq_false d1
  simp -implicitDefEqProofs only [go_sem, d1]
  refine (name_ok _ _).pthen ?_
  cases d2 : nameOK s
  · have hm := meetD_none (m := m) (.inr d2)
    simp -implicitDefEqProofs only [go_sem, d1, d2]
    rw [hm]
    exact .mk _ (.refl _) (.upd_new hidv) ⟨rfl, .refl _⟩
  have hm : meetD m s = some ⟨m.met ++ [s], m.rules⟩ := by simp [meetD, e1, d2]
  have hne := WalkAt.ne ⟨w1, w2, w3, w4⟩
  have n1 : idw ≠ idv := fun e => by rw [e, hidv] at w1; cases w1
  have n2 : mid ≠ idv := fun e => by rw [e, hidv] at w2; cases w2
  have w1' : upd h idv (some (.obj [] 136)) idw = some (.obj [.mp mid, .v (.int .i64 m.rules)] 57) := by rw [upd_other _ _ n1]; exact w1
  have w2' : upd h idv (some (.obj [] 136)) mid = some (.mp (setA m.met)) := by rw [upd_other _ _ n2]; exact w2
  simp -implicitDefEqProofs only [go_sem, d1, d2, w1', w2']
  refine ⟨hlen, hkeys, ?_⟩
  rw [setM_new e1]
  rw [hm]
  refine .same (.refl _) ⟨rfl, (Keeps.of (.upd_new hidv)).trans (.upd (by simp)), ?_, ?_, ?_, w4⟩
  · rw [upd_other _ _ hne]; exact w1'
  · rw [upd_same]
  · intro l hl
    rcases List.mem_append.1 hl with hl | hl
    · exact w3 l hl
    · rw [List.mem_singleton.1 hl]; exact nameOK_len d2
theorem wrule_ok (idw mid : Nat) (m : MetD) (r : RuleD) (h : Heap) (hw : WalkAt h idw mid m) : FnOK Tryz.prog 35 [.ptr idw 0, ruleA r] h fun x h' => x = .v (.int .i64 (ruleW m r).err) ∧ Keeps [idw, mid] h h' ∧ ∀ m', ruleW m r = .ok m' → WalkAt h' idw mid m' := by
  refine FnOK.body hU hm Tryz.func35 rfl (by kernel_rfl) 39 rfl [.tmp 4] rfl (Nat.le_of_ble_eq_true rfl) (fun hwf => ?_)
  simp -implicitDefEqProofs only [go_sem, ruleA, tgtA, condA, oblsA]
  intro id hid
  have n1 : idw ≠ id := fun e => by have := hw.1; rw [e, hid] at this; cases this
  have n2 : mid ≠ id := fun e => by have := hw.2.1; rw [e, hid] at this; cases this
  have hwb := hw.keep (Sub.upd_new (k := some (.obj [.s r.id, .v (.bool r.deny), .sl (r.tgt.map anyA) .no, .sl (r.cond.map nodeA) .no, .sl (r.obls.map oblA) .no] 40)) hid)
  have hk0 : Keeps [idw, mid] h (upd h id (some (.obj [.s r.id, .v (.bool r.deny), .sl (r.tgt.map anyA) .no, .sl (r.cond.map nodeA) .no, .sl (r.obls.map oblA) .no] 40))) := .of (.upd_new hid)
  simp -implicitDefEqProofs only [go_sem]
  obtain ⟨hb, ehb⟩ : ∃ hb, upd h id (some (.obj [.s r.id, .v (.bool r.deny), .sl (r.tgt.map anyA) .no, .sl (r.cond.map nodeA) .no, .sl (r.obls.map oblA) .no] 40)) = hb := ⟨_, rfl⟩
  have hbid : hb id = some (.obj [.s r.id, .v (.bool r.deny), .sl (r.tgt.map anyA) .no, .sl (r.cond.map nodeA) .no, .sl (r.obls.map oblA) .no] 40) := by rw [← ehb]; exact upd_same ..
  rw [ehb] at hwb hk0 ⊢
  refine (wname_ok idw mid m r.id hb hwb).mono fun x h2 hx => ?_
  cases hm : meetD m r.id with
  | none =>
    rw [hm] at hx
    obtain ⟨rfl, hs⟩ := hx
    have hr : ruleW m r = .bad 1 := by simp [ruleW, hm]
    simp -implicitDefEqProofs only [go_sem]
    exact .same (.refl _) ⟨by rw [hr]; rfl, hk0.trans (.of hs), fun m' h' => by rw [hr] at h'; cases h'⟩
  | some m1 =>
    rw [hm] at hx
    obtain ⟨rfl, hk, hw2⟩ := hx
    have g2 := hw2.1
    have hle := hw2.2.2.2
    have hid2 : h2 id = some (.obj [.s r.id, .v (.bool r.deny), .sl (r.tgt.map anyA) .no, .sl (r.cond.map nodeA) .no, .sl (r.obls.map oblA) .no] 40) := hk id _ (by simp [n1.symm, n2.symm]) hbid
    have w1 : IntKind.i64.wrap ((m1.rules : Int) + 1) = ((m1.rules + 1 : Nat) : Int) := by rw [wr64 _ (by omega)]; omega
    have hk3 : Keeps [idw, mid] h (upd h2 idw (some (.obj [.mp mid, .v (.int .i64 ((m1.rules + 1 : Nat) : Int))] 57))) := (hk0.trans hk).trans (.upd (by simp))
    have hid3 : upd h2 idw (some (.obj [.mp mid, .v (.int .i64 ((m1.rules + 1 : Nat) : Int))] 57)) id = some (.obj [.s r.id, .v (.bool r.deny), .sl (r.tgt.map anyA) .no, .sl (r.cond.map nodeA) .no, .sl (r.obls.map oblA) .no] 40) := by
      rw [upd_other _ _ n1.symm]; exact hid2
    cases d1 : decide (64 < ((m1.rules + 1 : Nat) : Int))
    case true =>
      have e1 : m1.rules + 1 > 64 := by have := of_decide_eq_true d1; omega
      have hr : ruleW m r = .bad 6 := by simp [ruleW, hm, e1]
      simp -implicitDefEqProofs only [go_sem, g2, w1, d1]
      exact .same (.refl _) ⟨by rw [hr]; rfl, hk3, fun m' h' => by rw [hr] at h'; cases h'⟩
    have e1 : ¬ m1.rules + 1 > 64 := by have := of_decide_eq_false d1; omega
    have hr : ruleW m r = need (tgtE r.tgt) (need (exprE r.cond) (need (oblsE r.obls) (.ok ⟨m1.met, m1.rules + 1⟩))) := by simp [ruleW, hm, e1]
    simp -implicitDefEqProofs only [go_sem, g2, w1, d1, hid3]
    refine (target_ok r.tgt _).pthen ?_
    cases d2 : (tgtE r.tgt != 0)
    case true =>
      have e2 : tgtE r.tgt ≠ 0 := by simpa using d2
      have hr : ruleW m r = .bad (tgtE r.tgt) := by rw [hr]; simp [need, e2]
      simp -implicitDefEqProofs only [go_sem, d2]
      exact .same (.refl _) ⟨by rw [hr]; rfl, hk3, fun m' h' => by rw [hr] at h'; cases h'⟩
    have e2 : tgtE r.tgt = 0 := by simpa using d2
    rw [need, if_pos e2] at hr
    simp -implicitDefEqProofs only [go_sem, d2, hid3]
    refine (expr_ok r.cond _).pthen ?_
    cases d3 : (exprE r.cond != 0)
    case true =>
      have e3 : exprE r.cond ≠ 0 := by simpa using d3
      have hr : ruleW m r = .bad (exprE r.cond) := by rw [hr]; simp [need, e3]
      simp -implicitDefEqProofs only [go_sem, d3]
      exact .same (.refl _) ⟨by rw [hr]; rfl, hk3, fun m' h' => by rw [hr] at h'; cases h'⟩
    have e3 : exprE r.cond = 0 := by simpa using d3
    rw [need, if_pos e3] at hr
    simp -implicitDefEqProofs only [go_sem, d3, hid3]
    refine (obls_ok r.obls _).pthen ?_
    simp -implicitDefEqProofs only [go_sem]
    by_cases e4 : oblsE r.obls = 0
    · rw [need, if_pos e4] at hr
      refine .same (.refl _) ⟨by rw [hr, e4]; rfl, hk3, fun m' h' => ?_⟩
      rw [hr] at h'
      cases h'
      refine ⟨upd_same .., ?_, hw2.2.2.1, by show m1.rules + 1 ≤ 64; omega⟩
      rw [upd_other _ _ hw2.ne.symm]; exact hw2.2.1
    · rw [need, if_neg e4] at hr
      exact .same (.refl _) ⟨by rw [hr]; rfl, hk3, fun m' h' => by rw [hr] at h'; cases h'⟩
end Go.Proofs.YtdcchpbncckhlaaGreatDoor

set_option linter.unusedSimpArgs false
set_option linter.unusedVariables false
namespace Go.Proofs.YtdcchpbncckhlaaGreatDoor
open Go Go.Ab Go.Bf
theorem headW_none {m : MetD} {id : Txt} {set : Bool} {alg : Int} {tgt : TgtD} {nr nk : Nat} {obls : List OblD} (h : meetD m id = none) : headW m id set alg tgt nr nk obls = .bad 1 := by
  simp [headW, h]
theorem whead_ok (idw mid : Nat) (m : MetD) (id : Txt) (set : Bool) (alg : Int) (tgt : TgtD) (rules : List RuleD) (kids : List PolD) (obls : List OblD) (h : Heap) (hw : WalkAt h idw mid m) :
    FnOK Tryz.prog 34 [.ptr idw 0, polA (.mk id set alg tgt rules kids obls)] h fun x h' => x = .v (.int .i64 (headW m id set alg tgt rules.length kids.length obls).err) ∧ Keeps [idw, mid] h h' ∧ ∀ m', headW m id set alg tgt rules.length kids.length obls = .ok m' → WalkAt h' idw mid m' := by
  refine FnOK.body hU hm Tryz.func34 rfl (by kernel_rfl) 68 rfl [.tmp 4] rfl (Nat.le_of_ble_eq_true rfl) (fun hwf => ?_)
  simp -implicitDefEqProofs only [go_sem, polA, tgtA, oblsA]
  intro ip hip
  have n1 : idw ≠ ip := fun e => by have := hw.1; rw [e, hip] at this; cases this
  have n2 : mid ≠ ip := fun e => by have := hw.2.1; rw [e, hip] at this; cases this
  have hwb := hw.keep (Sub.upd_new (k := some (.obj [.s id, .v (.bool set), .v (.int .i64 alg), .sl (tgt.map anyA) .no, .sl (rules.map ruleA) .no, .sl (kidsA kids) .no, .sl (obls.map oblA) .no] 28)) hip)
  have hk0 : Keeps [idw, mid] h (upd h ip (some (.obj [.s id, .v (.bool set), .v (.int .i64 alg), .sl (tgt.map anyA) .no, .sl (rules.map ruleA) .no, .sl (kidsA kids) .no, .sl (obls.map oblA) .no] 28))) := .of (.upd_new hip)
  simp -implicitDefEqProofs only [go_sem]
  obtain ⟨hb, ehb⟩ : ∃ hb, upd h ip (some (.obj [.s id, .v (.bool set), .v (.int .i64 alg), .sl (tgt.map anyA) .no, .sl (rules.map ruleA) .no, .sl (kidsA kids) .no, .sl (obls.map oblA) .no] 28)) = hb := ⟨_, rfl⟩
  have hbip : hb ip = some (.obj [.s id, .v (.bool set), .v (.int .i64 alg), .sl (tgt.map anyA) .no, .sl (rules.map ruleA) .no, .sl (kidsA kids) .no, .sl (obls.map oblA) .no] 28) := by rw [← ehb]; exact upd_same ..
  rw [ehb] at hwb hk0 ⊢
  refine (wname_ok idw mid m id hb hwb).mono fun x h2 hx => ?_
  cases hm : meetD m id with
  | none =>
    rw [hm] at hx
    obtain ⟨rfl, hs⟩ := hx
    simp -implicitDefEqProofs only [go_sem]
    exact .same (.refl _) ⟨by rw [headW_none hm]; rfl, hk0.trans (.of hs), fun m' h' => by rw [headW_none hm] at h'; cases h'⟩
  | some m1 =>
    rw [hm] at hx
    obtain ⟨rfl, hk, hw2⟩ := hx
    have hip2 : h2 ip = some (.obj [.s id, .v (.bool set), .v (.int .i64 alg), .sl (tgt.map anyA) .no, .sl (rules.map ruleA) .no, .sl (kidsA kids) .no, .sl (obls.map oblA) .no] 28) := hk ip _ (by simp [n1.symm, n2.symm]) hbip
    have hkk := hk0.trans hk
    have bad : ∀ e, headW m id set alg tgt rules.length kids.length obls = .bad e → (.v (.int .i64 e) : AV) = .v (.int .i64 (headW m id set alg tgt rules.length kids.length obls).err) ∧ Keeps [idw, mid] h h2 ∧ ∀ m', headW m id set alg tgt rules.length kids.length obls = .ok m' → WalkAt h2 idw mid m' :=
      fun e he => ⟨by rw [he]; rfl, hkk, fun m' h' => by rw [he] at h'; cases h'⟩
    cases d1 : decide (alg < 1)
    case true =>
      have e1 := of_decide_eq_true d1
      simp -implicitDefEqProofs only [go_sem, d1, hip2]
      exact .same (.refl _) (bad 1 (by simp [headW, hm, e1]))
    cases d2 : decide (6 < alg)
    case true =>
      have e2 := of_decide_eq_true d2
      simp -implicitDefEqProofs only [go_sem, d1, d2, hip2]
      exact .same (.refl _) (bad 1 (by simp [headW, hm, e2]))
    have e1 : ¬ (alg < 1 ∨ alg > 6) := by have := of_decide_eq_false d1; have := of_decide_eq_false d2; omega
    have tail : ∀ (z : Unit), ¬ (set = true ∧ rules.length > 0 ∨ set = false ∧ (kids.length > 0 ∨ alg = 4)) → headW m id set alg tgt rules.length kids.length obls = need (tgtE tgt) (need (oblsE obls) (if rules.length > 16 ∨ kids.length > 16 then .bad 6 else .ok m1)) := fun _ hh => by
      simp only [headW, hm]
      rw [if_neg e1, if_neg hh]
    cases set
    · cases d4 : decide (0 < (kids.length : Int))
      case true =>
        have f4 : 0 < kids.length := by have := of_decide_eq_true d4; omega
        simp -implicitDefEqProofs only [go_sem, d1, d2, hip2, kidsA_eq, List.length_map, d4]
        exact .same (.refl _) (bad 1 (by simp [headW, hm, e1, f4]))
      have g4 : ¬ 0 < kids.length := by have := of_decide_eq_false d4; omega
      cases d5 : (alg == 4)
      case true =>
        have f5 : alg = 4 := by simpa using d5
        simp -implicitDefEqProofs only [go_sem, d1, d2, hip2, kidsA_eq, List.length_map, d4, d5]
        exact .same (.refl _) (bad 1 (by simp [headW, hm, f5]))
      have g5 : alg ≠ 4 := by simpa using d5
      simp -implicitDefEqProofs only [go_sem, d1, d2, hip2, kidsA_eq, List.length_map, d4, d5]
      have e3 := tail () (by simp [g4, g5])
      refine (target_ok tgt _).pthen ?_
      cases t1 : (tgtE tgt != 0)
      case true =>
        have f1 : tgtE tgt ≠ 0 := by simpa using t1
        simp -implicitDefEqProofs only [go_sem, t1]
        exact .same (.refl _) (bad _ (by rw [e3]; simp [need, f1]))
      have f1 : tgtE tgt = 0 := by simpa using t1
      simp -implicitDefEqProofs only [go_sem, t1, hip2]
      refine (obls_ok obls _).pthen ?_
      cases t2 : (oblsE obls != 0)
      case true =>
        have f2 : oblsE obls ≠ 0 := by simpa using t2
        simp -implicitDefEqProofs only [go_sem, t2]
        exact .same (.refl _) (bad _ (by rw [e3]; simp [need, f1, f2]))
      have f2 : oblsE obls = 0 := by simpa using t2
      cases t3 : decide (16 < (rules.length : Int))
      case true =>
        have f3 : 16 < rules.length := by have := of_decide_eq_true t3; omega
        simp -implicitDefEqProofs only [go_sem, t2, hip2, List.length_map, t3]
        exact .same (.refl _) (bad _ (by rw [e3]; simp [need, f1, f2, f3]))
      have f3 : ¬ 16 < rules.length := by have := of_decide_eq_false t3; omega
      cases t4 : decide (16 < (kids.length : Int))
      case true =>
        have f4 : 16 < kids.length := by have := of_decide_eq_true t4; omega
        simp -implicitDefEqProofs only [go_sem, t2, hip2, List.length_map, t3, kidsA_eq, t4]
        exact .same (.refl _) (bad _ (by rw [e3]; simp [need, f1, f2, f4]))
      have f4 : ¬ 16 < kids.length := by have := of_decide_eq_false t4; omega
      simp -implicitDefEqProofs only [go_sem, t2, hip2, List.length_map, t3, kidsA_eq, t4]
      have e4 : headW m id false alg tgt rules.length kids.length obls = .ok m1 := by rw [e3]; simp [need, f1, f2, f3, f4]
      exact .same (.refl _) ⟨by rw [e4]; rfl, hkk, fun m' h' => by rw [e4] at h'; cases h'; exact hw2⟩
    · cases d3 : decide (0 < (rules.length : Int))
      case true =>
        have f3 : 0 < rules.length := by have := of_decide_eq_true d3; omega
        simp -implicitDefEqProofs only [go_sem, d1, d2, hip2, List.length_map, d3]
        exact .same (.refl _) (bad 1 (by simp [headW, hm, e1, f3]))
      have g3 : ¬ 0 < rules.length := by have := of_decide_eq_false d3; omega
      simp -implicitDefEqProofs only [go_sem, d1, d2, hip2, List.length_map, d3]
      have e3 := tail () (by simp [g3])
      refine (target_ok tgt _).pthen ?_
      cases t1 : (tgtE tgt != 0)
      case true =>
        have f1 : tgtE tgt ≠ 0 := by simpa using t1
        simp -implicitDefEqProofs only [go_sem, t1]
        exact .same (.refl _) (bad _ (by rw [e3]; simp [need, f1]))
      have f1 : tgtE tgt = 0 := by simpa using t1
      simp -implicitDefEqProofs only [go_sem, t1, hip2]
      refine (obls_ok obls _).pthen ?_
      cases t2 : (oblsE obls != 0)
      case true =>
        have f2 : oblsE obls ≠ 0 := by simpa using t2
        simp -implicitDefEqProofs only [go_sem, t2]
        exact .same (.refl _) (bad _ (by rw [e3]; simp [need, f1, f2]))
      have f2 : oblsE obls = 0 := by simpa using t2
      cases t3 : decide (16 < (rules.length : Int))
      case true =>
        have f3 : 16 < rules.length := by have := of_decide_eq_true t3; omega
        simp -implicitDefEqProofs only [go_sem, t2, hip2, List.length_map, t3]
        exact .same (.refl _) (bad _ (by rw [e3]; simp [need, f1, f2, f3]))
      have f3 : ¬ 16 < rules.length := by have := of_decide_eq_false t3; omega
      cases t4 : decide (16 < (kids.length : Int))
      case true =>
        have f4 : 16 < kids.length := by have := of_decide_eq_true t4; omega
        simp -implicitDefEqProofs only [go_sem, t2, hip2, List.length_map, t3, kidsA_eq, t4]
        exact .same (.refl _) (bad _ (by rw [e3]; simp [need, f1, f2, f4]))
      have f4 : ¬ 16 < kids.length := by have := of_decide_eq_false t4; omega
      simp -implicitDefEqProofs only [go_sem, t2, hip2, List.length_map, t3, kidsA_eq, t4]
      have e4 : headW m id true alg tgt rules.length kids.length obls = .ok m1 := by rw [e3]; simp [need, f1, f2, f3, f4]
      exact .same (.refl _) ⟨by rw [e4]; rfl, hkk, fun m' h' => by rw [e4] at h'; cases h'; exact hw2⟩
end Go.Proofs.YtdcchpbncckhlaaGreatDoor

set_option linter.unusedSimpArgs false
set_option linter.unusedVariables false
namespace Go.Proofs.YtdcchpbncckhlaaGreatDoor
open Go Go.Ab Go.Bf
theorem polA_len (k : PolD) : (polA k).cells.length = 7 := by
  cases k; simp [polA, AV.cells]
theorem polW_deep {m : MetD} {d : Nat} {p : PolD} (h : 4 < d) : polW m d p = .bad 6 := by
  cases p; simp [polW, h]
theorem polW_head {m : MetD} {d : Nat} {id : Txt} {set : Bool} {alg : Int} {tgt : TgtD} {rules : List RuleD} {kids : List PolD} {obls : List OblD} {e : Int} (h : ¬ 4 < d)
    (hh : headW m id set alg tgt rules.length kids.length obls = .bad e) : polW m d (.mk id set alg tgt rules kids obls) = .bad e := by
  simp [polW, h, hh]
theorem polW_rules {m m1 : MetD} {d : Nat} {id : Txt} {set : Bool} {alg : Int} {tgt : TgtD} {rules : List RuleD} {kids : List PolD} {obls : List OblD} {e : Int} (h : ¬ 4 < d)
    (hh : headW m id set alg tgt rules.length kids.length obls = .ok m1) (hr : rulesW m1 rules = .bad e) : polW m d (.mk id set alg tgt rules kids obls) = .bad e := by
  simp [polW, h, hh, hr]
theorem polW_kids {m m1 m2 : MetD} {d : Nat} {id : Txt} {set : Bool} {alg : Int} {tgt : TgtD} {rules : List RuleD} {kids : List PolD} {obls : List OblD} (h : ¬ 4 < d)
    (hh : headW m id set alg tgt rules.length kids.length obls = .ok m1) (hr : rulesW m1 rules = .ok m2) : polW m d (.mk id set alg tgt rules kids obls) = kidsW m2 (d + 1) kids := by
  simp [polW, h, hh, hr]
theorem polW_bad : ∀ (n d : Nat) (m : MetD) (p : PolD) (e : Int), d + n = 5 → polW m d p = .bad e → e ≠ 0
  | 0, d, m, p, e, hd, h => by rw [polW_deep (by omega)] at h; cases h; decide
  | n + 1, d, m, .mk id set alg tgt rules kids obls, e, hd, h => by
    by_cases h4 : 4 < d
    · rw [polW_deep h4] at h; cases h; decide
    cases hh : headW m id set alg tgt rules.length kids.length obls with
    | bad e' => rw [polW_head h4 hh] at h; cases h; exact headW_bad hh
    | ok m1 =>
      cases hr : rulesW m1 rules with
      | bad e' =>
        rw [polW_rules h4 hh hr] at h; cases h
        clear hh hd
        induction rules generalizing m1 with
        | nil => cases hr
        | cons r l ih =>
          simp only [rulesW] at hr
          cases hx : ruleW m1 r with
          | bad x => rw [hx] at hr; cases hr; exact ruleW_bad hx
          | ok m2 => rw [hx] at hr; exact ih m2 hr
      | ok m2 =>
        rw [polW_kids h4 hh hr] at h
        have ih := fun m p e => polW_bad n (d + 1) m p e (by omega)
        clear hh hr
        induction kids generalizing m2 with
        | nil => cases h
        | cons k l ihk =>
          simp only [kidsW] at h
          cases hx : polW m2 (d + 1) k with
          | bad x => rw [hx] at h; cases h; exact ih _ _ _ hx
          | ok m3 => rw [hx] at h; exact ihk m3 h
theorem need_ok {e : Int} {w : Went} {m : MetD} (h : need e w = .ok m) : e = 0 ∧ w = .ok m := by
  unfold need at h
  split at h
  · exact ⟨by assumption, h⟩
  · cases h
theorem headW_ok {m m1 : MetD} {id : Txt} {set : Bool} {alg : Int} {tgt : TgtD} {nr nk : Nat} {obls : List OblD} (h : headW m id set alg tgt nr nk obls = .ok m1) :
    meetD m id = some m1 ∧ 1 ≤ alg ∧ alg ≤ 6 ∧ (set = true → nr = 0) ∧ (set = false → nk = 0 ∧ alg ≠ 4) ∧ tgtE tgt = 0 ∧ oblsE obls = 0 ∧ nr ≤ 16 ∧ nk ≤ 16 := by
  unfold headW at h
  split at h
  · cases h
  rename_i m2 hm
  split at h
  · cases h
  split at h
  · cases h
  rename_i h1 h2
  obtain ⟨h3, h⟩ := need_ok h
  obtain ⟨h4, h⟩ := need_ok h
  split at h
  · cases h
  cases h
  have h5 : (set = true → nr = 0) ∧ (set = false → nk = 0 ∧ alg ≠ 4) := by
    cases set <;> simp at h2 ⊢ <;> omega
  exact ⟨hm, by omega, by omega, h5.1, h5.2, h3, h4, by omega, by omega⟩
theorem wpol_ok : ∀ (n d : Nat), d + n = 5 → ∀ (idw mid : Nat) (m : MetD) (p : PolD) (h : Heap), WalkAt h idw mid m →
    FnOK Tryz.prog 16 [.ptr idw 0, polA p, .v (.int .i64 d)] h fun x h' => x = .v (.int .i64 (polW m d p).err) ∧ Keeps [idw, mid] h h' ∧ ∀ m', polW m d p = .ok m' → WalkAt h' idw mid m'
  | n, d, hd, idw, mid, m, .mk id set alg tgt rules kids obls, h, hw => by
    refine FnOK.body hU hm Tryz.func16 rfl (by kernel_rfl) 52 rfl [.tmp 6] rfl (Nat.le_of_ble_eq_true rfl) (fun hwf => ?_)
    simp -implicitDefEqProofs only [go_sem, polA, tgtA, oblsA]
    intro ip hip
    have n1 : idw ≠ ip := fun e => by have := hw.1; rw [e, hip] at this; cases this
    have n2 : mid ≠ ip := fun e => by have := hw.2.1; rw [e, hip] at this; cases this
    have hwb := hw.keep (Sub.upd_new (k := some (.obj [.s id, .v (.bool set), .v (.int .i64 alg), .sl (tgt.map anyA) .no, .sl (rules.map ruleA) .no, .sl (kidsA kids) .no, .sl (obls.map oblA) .no] 28)) hip)
    have hk0 : Keeps [idw, mid] h (upd h ip (some (.obj [.s id, .v (.bool set), .v (.int .i64 alg), .sl (tgt.map anyA) .no, .sl (rules.map ruleA) .no, .sl (kidsA kids) .no, .sl (obls.map oblA) .no] 28))) := .of (.upd_new hip)
    obtain ⟨hb, ehb⟩ : ∃ hb, upd h ip (some (.obj [.s id, .v (.bool set), .v (.int .i64 alg), .sl (tgt.map anyA) .no, .sl (rules.map ruleA) .no, .sl (kidsA kids) .no, .sl (obls.map oblA) .no] 28)) = hb := ⟨_, rfl⟩
    have hbip : hb ip = some (.obj [.s id, .v (.bool set), .v (.int .i64 alg), .sl (tgt.map anyA) .no, .sl (rules.map ruleA) .no, .sl (kidsA kids) .no, .sl (obls.map oblA) .no] 28) := by rw [← ehb]; exact upd_same ..
    rw [ehb] at hwb hk0 ⊢
    cases d0 : decide (4 < (d : Int))
    case true =>
      have e0 : 4 < d := by have := of_decide_eq_true d0; omega
      simp -implicitDefEqProofs only [go_sem, d0]
      exact .same (.refl _) ⟨by rw [polW_deep e0]; rfl, hk0, fun m' h' => by rw [polW_deep e0] at h'; cases h'⟩
    have e0 : ¬ 4 < d := by have := of_decide_eq_false d0; omega
    simp -implicitDefEqProofs only [go_sem, d0, hbip]
    have hhead := whead_ok idw mid m id set alg tgt rules kids obls hb hwb
    simp only [polA, tgtA, oblsA] at hhead
    refine hhead.mono fun x h2 ⟨ex, hk, hw2⟩ => ?_
    subst ex
    have hk2 := hk0.trans hk
    cases hh : headW m id set alg tgt rules.length kids.length obls with
    | bad e =>
      have hne := headW_bad hh
      have t1 : (e != 0) = true := by simpa using hne
      simp -implicitDefEqProofs only [go_sem, Went.err, t1]
      exact .same (.refl _) ⟨by rw [polW_head e0 hh]; rfl, hk2, fun m' h' => by rw [polW_head e0 hh] at h'; cases h'⟩
    | ok m1 =>
      have hw2 := hw2 _ hh
      have hle := (headW_ok hh).2.2.2.2.2.2.2
      have hip2 := hk ip _ (by simp [n1.symm, n2.symm]) hbip
      simp -implicitDefEqProofs only [go_sem, Went.err, hip2, List.length_map]
      refine .intro (fun k ρ h' => ∃ (i : Nat) (mi : MetD), i ≤ rules.length ∧ k = rules.length - i ∧ rulesW m1 (rules.take i) = .ok mi ∧ Keeps [idw, mid] h h' ∧ WalkAt h' idw mid mi ∧
        h' ip = some (.obj [.s id, .v (.bool set), .v (.int .i64 alg), .sl (tgt.map anyA) .no, .sl (rules.map ruleA) .no, .sl (kidsA kids) .no, .sl (obls.map oblA) .no] 28) ∧
        lk ρ 0 = some (.ptr idw 0) ∧ lk ρ 2 = some (.v (.int .i64 d)) ∧ lk ρ 4 = some (.ptr ip 0) ∧ lk ρ 23 = some (.sl (rules.map ruleA) .no) ∧ lk ρ 24 = some (.v (.int .i64 rules.length)) ∧ lk ρ 25 = some (.v (.int .i64 i))) rules.length ?_ ?_
      · refine ⟨0, m1, by omega, rfl, rfl, hk2, hw2, hip2, ?_, ?_, ?_, ?_, ?_, ?_⟩ <;> simp -implicitDefEqProofs only [go_sem]
      · rintro k ρ h' ⟨i, mi, hi, rfl, hri, hki, hwi, hipi, r0, r2, r4, r23, r24, r25⟩
        simp -implicitDefEqProofs only [go_sem, r0, r2, r4, r23, r24, r25]
        refine .intro (fun e => ?_) (fun e => ?_)
        · have hlt : i < rules.length := Int.ofNat_lt.1 (of_decide_eq_true e)
          have w1 : IntKind.i64.wrap ((i : Int) + 1) = ((i + 1 : Nat) : Int) := by rw [wr64 _ (by omega)]; omega
          simp -implicitDefEqProofs only [go_sem, r0, r2, r4, r23, r24, r25]
          refine .at i (by simpa using hlt) (by rw [List.getElem_map]; rfl) ?_
          simp -implicitDefEqProofs only [go_sem, r0, r2, r4, r23, r24, r25, List.getElem_map, ruleA]
          intro ir hir
          have hrl := wrule_ok idw mid mi rules[i] _ (hwi.keep (Sub.upd_new (k := some (.obj [.s rules[i].id, .v (.bool rules[i].deny), tgtA rules[i].tgt, condA rules[i].cond, oblsA rules[i].obls] 40)) hir))
          simp only [ruleA] at hrl
          simp -implicitDefEqProofs only [go_sem, r0, r2, r4, r23, r24, r25]
          refine hrl.mono fun x h3 ⟨ex, hk3, hw3⟩ => ?_
          subst ex
          have hk4 := (hki.trans (.of (Sub.upd_new hir))).trans hk3
          have hip3 := hk3 ip _ (by simp [n1.symm, n2.symm]) ((Sub.upd_new hir) _ _ hipi)
          cases hx : ruleW mi rules[i] with
          | bad x =>
            have t1 : (x != 0) = true := by simpa using ruleW_bad hx
            simp -implicitDefEqProofs only [go_sem, r0, r2, r4, r23, r24, r25, Went.err, t1]
            have hp := polW_rules (d := d) (kids := kids) e0 hh (rulesW_stop hlt hri hx)
            exact .same (.refl _) ⟨by rw [hp]; rfl, hk4, fun m' h' => by rw [hp] at h'; cases h'⟩
          | ok m3 =>
            simp -implicitDefEqProofs only [go_sem, r0, r2, r4, r23, r24, r25, Went.err, w1]
            refine ⟨_, ?_, i + 1, m3, by omega, rfl, by rw [rulesW_next hlt hri, hx], hk4, hw3 _ hx, hip3, ?_, ?_, ?_, ?_, ?_, ?_⟩
            · omega
            all_goals simp -implicitDefEqProofs only [go_sem, r0, r2, r4, r23, r24, r25, w1]
        · have hge : i = rules.length := by have := of_decide_eq_false e; omega
          subst hge
          rw [List.take_length] at hri
          have hpk := polW_kids (d := d) (kids := kids) e0 hh hri
          simp -implicitDefEqProofs only [go_sem, r0, r2, r4, r23, r24, r25, hipi, kidsA_eq, List.length_map]
          refine .intro (fun k ρ h' => ∃ (i : Nat) (mj : MetD), i ≤ kids.length ∧ k = kids.length - i ∧ kidsW mi (d + 1) (kids.take i) = .ok mj ∧ Keeps [idw, mid] h h' ∧ WalkAt h' idw mid mj ∧
            lk ρ 0 = some (.ptr idw 0) ∧ lk ρ 2 = some (.v (.int .i64 d)) ∧ lk ρ 37 = some (.sl (kids.map polA) .no) ∧ lk ρ 38 = some (.v (.int .i64 kids.length)) ∧ lk ρ 39 = some (.v (.int .i64 i))) kids.length ?_ ?_
          · refine ⟨0, mi, by omega, rfl, rfl, hki, hwi, ?_, ?_, ?_, ?_, ?_⟩ <;> simp -implicitDefEqProofs only [go_sem, r0, r2, r4]
          · rintro k ρ h' ⟨i, mj, hi, rfl, hkj, hki, hwi, r0, r2, r37, r38, r39⟩
            simp -implicitDefEqProofs only [go_sem, r0, r2, r37, r38, r39]
            refine .intro (fun e => ?_) (fun e => ?_)
            · have hlt : i < kids.length := Int.ofNat_lt.1 (of_decide_eq_true e)
              have w1 : IntKind.i64.wrap ((i : Int) + 1) = ((i + 1 : Nat) : Int) := by rw [wr64 _ (by omega)]; omega
              have w2 : IntKind.i64.wrap ((d : Int) + 1) = ((d + 1 : Nat) : Int) := by rw [wr64 _ (by omega)]; omega
              obtain ⟨n', rfl⟩ : ∃ n', n = n' + 1 := ⟨n - 1, by omega⟩
              have hrec := wpol_ok n' (d + 1) (by omega) idw mid mj kids[i]
              cases hki' : kids[i] with
              | mk kid kset kalg ktgt krules kkids kobls =>
              rw [hki'] at hrec
              simp only [polA, tgtA, oblsA] at hrec
              simp -implicitDefEqProofs only [go_sem, r0, r2, r37, r38, r39]
              refine .at i (by simpa using hlt) (by rw [List.getElem_map]; exact polA_len _) ?_
              simp -implicitDefEqProofs only [go_sem, r0, r2, r37, r38, r39, List.getElem_map, hki', polA, tgtA, oblsA]
              intro ir hir
              simp -implicitDefEqProofs only [go_sem, r0, r2, r37, r38, r39, w2]
              refine (hrec _ (hwi.keep (Sub.upd_new hir))).mono fun x h3 ⟨ex, hk3, hw3⟩ => ?_
              subst ex
              have hk4 := (hki.trans (.of (Sub.upd_new hir))).trans hk3
              cases hx : polW mj (d + 1) (.mk kid kset kalg ktgt krules kkids kobls) with
              | bad x =>
                have t1 : (x != 0) = true := by simpa using polW_bad n' (d + 1) _ _ _ (by omega) hx
                simp -implicitDefEqProofs only [go_sem, r0, r2, r37, r38, r39, Went.err, t1]
                have hp := kidsW_stop hlt hkj (by rw [hki']; exact hx)
                exact .same (.refl _) ⟨by rw [hpk, hp]; rfl, hk4, fun m' h' => by rw [hpk, hp] at h'; cases h'⟩
              | ok m3 =>
                simp -implicitDefEqProofs only [go_sem, r0, r2, r37, r38, r39, Went.err, w1]
                refine ⟨_, ?_, i + 1, m3, by omega, rfl, by rw [kidsW_next hlt hkj, hki', hx], hk4, hw3 _ hx, ?_, ?_, ?_, ?_, ?_⟩
                · omega
                all_goals simp -implicitDefEqProofs only [go_sem, r0, r2, r37, r38, r39, w1]
            · have hge : i = kids.length := by have := of_decide_eq_false e; omega
              subst hge
              rw [List.take_length] at hkj
              simp -implicitDefEqProofs only [go_sem, r0, r2, r37, r38, r39]
              exact .same (.refl _) ⟨by rw [hpk, hkj]; rfl, hki, fun m' h' => by rw [hpk, hkj] at h'; cases h'; exact hwi⟩
theorem ne_new {h : Heap} {i j : Nat} {b : Blk} (e : upd h i (some b) j = none) : j ≠ i := fun hh => by
  subst hh; rw [upd_same] at e; cases e
theorem right_ok (p : PolD) (h : Heap) : FnOK Tryz.prog 7 [polA p] h fun r h' => r = .v (.int .i64 (rightE p)) ∧ h' = h := by
  cases p with
  | mk id set alg tgt rules kids obls =>
  refine FnOK.body hU hm Tryz.func7 rfl (by kernel_rfl) 10 rfl [.tmp 2] rfl (Nat.le_of_ble_eq_true rfl) (fun hwf => ?_)
  simp -implicitDefEqProofs only [go_sem, polA, tgtA, oblsA]
  intro ip hip
  simp -implicitDefEqProofs only [go_sem]
  intro im him
  simp -implicitDefEqProofs only [go_sem]
  intro iw hiw
  have n1 := ne_new him
  have n2 := ne_new hiw
  have hiw1 := hiw
  rw [upd_other _ _ n2] at hiw1
  have n3 := ne_new hiw1
  have s1 : Ab.Sub h (upd (upd (upd h ip (some (.obj [.s id, .v (.bool set), .v (.int .i64 alg), .sl (tgt.map anyA) .no, .sl (rules.map ruleA) .no, .sl (kidsA kids) .no, .sl (obls.map oblA) .no] 28))) im (some (.mp []))) iw (some (.obj [.mp im, .v (.int .i64 0)] 57))) :=
    ((Sub.upd_new hip).trans (.upd_new him)).trans (.upd_new hiw)
  obtain ⟨h3, e3⟩ : ∃ h3, upd (upd (upd h ip (some (.obj [.s id, .v (.bool set), .v (.int .i64 alg), .sl (tgt.map anyA) .no, .sl (rules.map ruleA) .no, .sl (kidsA kids) .no, .sl (obls.map oblA) .no] 28))) im (some (.mp []))) iw (some (.obj [.mp im, .v (.int .i64 0)] 57)) = h3 := ⟨_, rfl⟩
  have g1 : h3 ip = some (.obj [.s id, .v (.bool set), .v (.int .i64 alg), .sl (tgt.map anyA) .no, .sl (rules.map ruleA) .no, .sl (kidsA kids) .no, .sl (obls.map oblA) .no] 28) := by
    rw [← e3, upd_other _ _ n3.symm, upd_other _ _ n1.symm, upd_same]
  have g2 : WalkAt h3 iw im ⟨[], 0⟩ := by
    refine ⟨by rw [← e3, upd_same]; rfl, by rw [← e3, upd_other _ _ n2.symm, upd_same]; rfl, fun l hl => (by cases hl), by decide⟩
  have hi0 : h im = none := by rw [upd_other _ _ n1] at him; exact him
  have hw0 : h iw = none := by rw [upd_other _ _ n3] at hiw1; exact hiw1
  simp -implicitDefEqProofs only [go_sem]
  rw [e3] at s1 ⊢
  simp -implicitDefEqProofs only [go_sem, g1]
  have hp := wpol_ok 4 1 rfl iw im ⟨[], 0⟩ (.mk id set alg tgt rules kids obls) h3 g2
  simp only [polA, tgtA, oblsA, Int.ofNat_one, Int.cast_ofNat_Int] at hp
  refine hp.mono fun x h4 ⟨ex, hk, _⟩ => ?_
  subst ex
  simp -implicitDefEqProofs only [go_sem]
  refine .mk _ (.refl _) (fun j k hj => ?_) ⟨rfl, rfl⟩
  refine hk j k ?_ (s1 _ _ hj)
  simp only [List.mem_cons, List.not_mem_nil, or_false, not_or]
  exact ⟨fun e => (by rw [e, hw0] at hj; cases hj), fun e => (by rw [e, hi0] at hj; cases hj)⟩
end Go.Proofs.YtdcchpbncckhlaaGreatDoor

set_option linter.unusedSimpArgs false
set_option linter.unusedVariables false
namespace Go.Proofs.YtdcchpbncckhlaaGreatDoor
open Go Go.Ab Go.Bf
def parsedA (x : PolD × Int × Int) : AV := .tup [polA x.1, .v (.int .i64 x.2.1), .v (.int .i64 x.2.2)]
theorem weak_flat3 (a b c : AV) (h : Weak a b) (d : AV) : Weak (.tup [a, c, d]) (.tup [b, c, d]) := .tup _ _ rfl fun i h1 h2 => by
  rcases i with _ | _ | _ | i
  · exact h
  · exact .refl _
  · exact .refl _
  · simp at h1; omega
set_option maxRecDepth 20000 in
theorem parse_ok (s : Txt) (h : Heap) (he : ErrT h) : FnOK Tryz.prog 10 [.s s] h fun r h' => r = parsedA (parseD s) ∧ h' = h := by
  refine FnOK.body hU hm Tryz.func10 rfl (by kernel_rfl) 61 rfl [.cell 2 28, .tmp 3, .tmp 4] rfl (Nat.le_of_ble_eq_true rfl) (fun hwf => ?_)
  simp -implicitDefEqProofs only [go_sem]
  intro i2 hi2
  simp -implicitDefEqProofs only [go_sem]
  refine (all_tok_ok s _ (he.sub (.upd_new hi2))).pthen ?_
  cases el : lexD s with
  | bad e a =>
    have e1 := lexD_bad el
    have d1 : (e != 0) = true := by
      have : e ≠ 0 := by rcases e1.1 with h | h <;> rw [h] <;> decide
      simpa using this
    have efin : parseD s = (zeroP, e, a) := by simp only [parseD, el]
    simp -implicitDefEqProofs only [go_sem, lexR, d1]
    rw [efin]
    exact .mk (h' := h) (parsedA (zeroP, e, a)) (weak_flat3 _ _ _ (weak_flat _) _) (.upd_new hi2) ⟨rfl, rfl⟩
  | ok ts =>
    have efin : parseD s = parseT s ts := by simp only [parseD, el]
    have hw := wfP_start el 0 0 0
    have hpol := policy_p 3 1 rfl ⟨ts, 0, 0, 0, 0⟩ hw (Nat.zero_le _)
    have hap := ah_pol 4 ⟨ts, 0, 0, 0, 0⟩ hw
    obtain ⟨⟨⟨pid, pset, palg, ptgt, prules, pkids, pobls⟩, st1⟩, ep⟩ : ∃ x, polF 4 ⟨ts, 0, 0, 0, 0⟩ = x := ⟨_, rfl⟩
    rw [show 3 + 1 = 4 from rfl, ep] at hpol
    rw [ep] at hap
    simp only [polA] at hpol hap
    simp only [parseT, ep] at efin
    simp -implicitDefEqProofs only [go_sem, lexR]
    intro i8 hi8
    have n8 := ne_upd hi8
    have m82 : ¬ i8 = i2 := n8
    have m28 : ¬ i2 = i8 := fun e => n8 e.symm
    have hh8 : h i8 = none := by rw [upd_other _ _ n8] at hi8; exact hi8
    simp -implicitDefEqProofs only [go_sem, upd_ne, m82, m28]
    refine hpol.go (upd_same ..) ?_
    rw [upd_upd]
    simp -implicitDefEqProofs only [go_sem, upd_ne, m82, m28]
    intro i9 hi9
    have n9 := ne_upd hi9
    have hi9' := hi9
    rw [upd_other _ _ n9] at hi9'
    have n92 := ne_upd hi9'
    have m92 : ¬ i9 = i2 := n92
    have m29 : ¬ i2 = i9 := fun e => n92 e.symm
    have m98 : ¬ i9 = i8 := n9
    have m89 : ¬ i8 = i9 := fun e => n9 e.symm
    have hh9 : h i9 = none := by rw [upd_other _ _ n92] at hi9'; exact hi9'
    have c9 : ∀ (f : Heap) (x y : Option Blk), upd (upd f i8 x) i9 y = upd (upd f i9 y) i8 x := fun f x y => upd_comm f x y n9.symm
    simp -implicitDefEqProofs only [go_sem, c9, upd_ne, m82, m28, m92, m29, m98, m89]
    refine (here_ok st1 hap.1).run ?_
    have subs : ∀ x y z, Sub h (upd (upd (upd h i2 x) i9 y) i8 z) := fun x y z => ((Sub.upd_new hi2).put hh9 _).put hh8 _
    cases d1 : ((hereD st1).kind != 7)
    · have k1 : (hereD st1).kind = 7 := by simpa using d1
      have e2 : (if (hereD st1).kind = 7 then st1 else stuckD st1) = st1 := if_pos k1
      simp -implicitDefEqProofs only [go_sem, c9, tokA, d1, upd_ne, m82, m28, m92, m29, m98, m89]
      cases db : ((st1).bad == 0)
      · have eb : (st1).bad ≠ 0 := by simpa using db
        simp -implicitDefEqProofs only [go_sem, c9, upd_ne, m82, m28, m92, m29, m98, m89, PO, db]
        have eend : endP s (.mk pid pset palg ptgt prules pkids pobls, st1) = st1 := by
          unfold endP; simp only [e2]; rw [if_neg (fun h => eb h.1)]
        have hbb : (st1).bad ≠ 0 := eb
        have dn : ((st1).bad != 0) = true := by simpa using hbb
        simp -implicitDefEqProofs only [go_sem, c9, upd_ne, m82, m28, m92, m29, m98, m89, PO, dn]
        refine .calls (hm1 i8 (PO (st1))) [0, 1, 2, 3, 4, 5, 6, 7, 8, 9, 10, 11] (.hm1 (upd_same ..)) (by kernel_rfl) rfl ?_
        simp -implicitDefEqProofs only [go_sem, c9, upd_ne, m82, m28, m92, m29, m98, m89, PO, hm1_same]
        refine ⟨.hm1 ((upd_other _ _ n8).trans (upd_same ..)), ?_⟩
        have efin2 : parseD s = (zeroP, (st1).bad, (st1).place) := by rw [efin, if_neg (by rw [eend]; exact hbb), eend]
        rw [efin2]
        exact .mk (h' := h) (parsedA (zeroP, (st1).bad, (st1).place)) (weak_flat3 _ _ _ (weak_flat _) _) (Sub.put (subs _ _ _) hi2 _) ⟨rfl, rfl⟩
      · have eb : (st1).bad = 0 := by simpa using db
        simp -implicitDefEqProofs only [go_sem, c9, upd_ne, m82, m28, m92, m29, m98, m89, PO, db]
        refine (right_ok (.mk pid pset palg ptgt prules pkids pobls) _).pthen ?_
        cases dr : (rightE (.mk pid pset palg ptgt prules pkids pobls) != 0)
        · have er : rightE (.mk pid pset palg ptgt prules pkids pobls) = 0 := by simpa using dr
          have dn : ((st1).bad != 0) = false := by simpa using eb
          simp -implicitDefEqProofs only [go_sem, c9, upd_ne, m82, m28, m92, m29, m98, m89, PO, dr, dn]
          have eend : endP s (.mk pid pset palg ptgt prules pkids pobls, st1) = st1 := by
            unfold endP; simp only [e2]; rw [if_neg (fun h => h.2 er)]
          have efin2 : parseD s = (.mk pid pset palg ptgt prules pkids pobls, 0, 0) := by rw [efin, if_pos (by rw [eend]; exact eb)]
          rw [efin2]
          exact .mk (h' := h) (parsedA (.mk pid pset palg ptgt prules pkids pobls, 0, 0)) (weak_flat3 _ _ _ (weak_flat _) _) (Sub.put (subs _ _ _) hi2 _) ⟨rfl, rfl⟩
        · have er : rightE (.mk pid pset palg ptgt prules pkids pobls) ≠ 0 := by simpa using dr
          simp -implicitDefEqProofs only [go_sem, c9, upd_ne, m82, m28, m92, m29, m98, m89, PO, dr]
          refine (wrong_ok (st1) 5 s.length).run ?_
          have eend : endP s (.mk pid pset palg ptgt prules pkids pobls, st1) = wrongD (st1) 5 s.length := by
            unfold endP; simp only [e2]; rw [if_pos ⟨eb, er⟩]
          have hwb : wrongD (st1) 5 s.length = { (st1) with bad := 5, place := s.length } := by rw [wrongD, if_pos eb]
          have hbb : (wrongD (st1) 5 s.length).bad ≠ 0 := by rw [hwb]; show (5 : Int) ≠ 0; decide
          have dn : ((wrongD (st1) 5 s.length).bad != 0) = true := by simpa using hbb
          simp -implicitDefEqProofs only [go_sem, c9, upd_ne, m82, m28, m92, m29, m98, m89, PO, dn]
          refine .calls (hm1 i8 (PO (wrongD (st1) 5 s.length))) [0, 1, 2, 3, 4, 5, 6, 7, 8, 9, 10, 11] (.hm1 (upd_same ..)) (by kernel_rfl) rfl ?_
          simp -implicitDefEqProofs only [go_sem, c9, upd_ne, m82, m28, m92, m29, m98, m89, PO, hm1_same]
          refine ⟨.hm1 ((upd_other _ _ n8).trans (upd_same ..)), ?_⟩
          have efin2 : parseD s = (zeroP, (wrongD (st1) 5 s.length).bad, (wrongD (st1) 5 s.length).place) := by rw [efin, if_neg (by rw [eend]; exact hbb), eend]
          rw [efin2]
          exact .mk (h' := h) (parsedA (zeroP, (wrongD (st1) 5 s.length).bad, (wrongD (st1) 5 s.length).place)) (weak_flat3 _ _ _ (weak_flat _) _) (Sub.put (subs _ _ _) hi2 _) ⟨rfl, rfl⟩
    · have k1 : (hereD st1).kind ≠ 7 := by simpa using d1
      have e2 : (if (hereD st1).kind = 7 then st1 else stuckD st1) = stuckD st1 := if_neg k1
      simp -implicitDefEqProofs only [go_sem, c9, tokA, d1, upd_ne, m82, m28, m92, m29, m98, m89]
      refine (stuck_ok st1 hap.1).run ?_
      simp -implicitDefEqProofs only [go_sem, c9, upd_ne, m82, m28, m92, m29, m98, m89]
      cases db : ((stuckD st1).bad == 0)
      · have eb : (stuckD st1).bad ≠ 0 := by simpa using db
        simp -implicitDefEqProofs only [go_sem, c9, upd_ne, m82, m28, m92, m29, m98, m89, PO, db]
        have eend : endP s (.mk pid pset palg ptgt prules pkids pobls, st1) = stuckD st1 := by
          unfold endP; simp only [e2]; rw [if_neg (fun h => eb h.1)]
        have hbb : (stuckD st1).bad ≠ 0 := eb
        have dn : ((stuckD st1).bad != 0) = true := by simpa using hbb
        simp -implicitDefEqProofs only [go_sem, c9, upd_ne, m82, m28, m92, m29, m98, m89, PO, dn]
        refine .calls (hm1 i8 (PO (stuckD st1))) [0, 1, 2, 3, 4, 5, 6, 7, 8, 9, 10, 11] (.hm1 (upd_same ..)) (by kernel_rfl) rfl ?_
        simp -implicitDefEqProofs only [go_sem, c9, upd_ne, m82, m28, m92, m29, m98, m89, PO, hm1_same]
        refine ⟨.hm1 ((upd_other _ _ n8).trans (upd_same ..)), ?_⟩
        have efin2 : parseD s = (zeroP, (stuckD st1).bad, (stuckD st1).place) := by rw [efin, if_neg (by rw [eend]; exact hbb), eend]
        rw [efin2]
        exact .mk (h' := h) (parsedA (zeroP, (stuckD st1).bad, (stuckD st1).place)) (weak_flat3 _ _ _ (weak_flat _) _) (Sub.put (subs _ _ _) hi2 _) ⟨rfl, rfl⟩
      · have eb : (stuckD st1).bad = 0 := by simpa using db
        simp -implicitDefEqProofs only [go_sem, c9, upd_ne, m82, m28, m92, m29, m98, m89, PO, db]
        refine (right_ok (.mk pid pset palg ptgt prules pkids pobls) _).pthen ?_
        cases dr : (rightE (.mk pid pset palg ptgt prules pkids pobls) != 0)
        · have er : rightE (.mk pid pset palg ptgt prules pkids pobls) = 0 := by simpa using dr
          have dn : ((stuckD st1).bad != 0) = false := by simpa using eb
          simp -implicitDefEqProofs only [go_sem, c9, upd_ne, m82, m28, m92, m29, m98, m89, PO, dr, dn]
          have eend : endP s (.mk pid pset palg ptgt prules pkids pobls, st1) = stuckD st1 := by
            unfold endP; simp only [e2]; rw [if_neg (fun h => h.2 er)]
          have efin2 : parseD s = (.mk pid pset palg ptgt prules pkids pobls, 0, 0) := by rw [efin, if_pos (by rw [eend]; exact eb)]
          rw [efin2]
          exact .mk (h' := h) (parsedA (.mk pid pset palg ptgt prules pkids pobls, 0, 0)) (weak_flat3 _ _ _ (weak_flat _) _) (Sub.put (subs _ _ _) hi2 _) ⟨rfl, rfl⟩
        · have er : rightE (.mk pid pset palg ptgt prules pkids pobls) ≠ 0 := by simpa using dr
          simp -implicitDefEqProofs only [go_sem, c9, upd_ne, m82, m28, m92, m29, m98, m89, PO, dr]
          refine (wrong_ok (stuckD st1) 5 s.length).run ?_
          have eend : endP s (.mk pid pset palg ptgt prules pkids pobls, st1) = wrongD (stuckD st1) 5 s.length := by
            unfold endP; simp only [e2]; rw [if_pos ⟨eb, er⟩]
          have hwb : wrongD (stuckD st1) 5 s.length = { (stuckD st1) with bad := 5, place := s.length } := by rw [wrongD, if_pos eb]
          have hbb : (wrongD (stuckD st1) 5 s.length).bad ≠ 0 := by rw [hwb]; show (5 : Int) ≠ 0; decide
          have dn : ((wrongD (stuckD st1) 5 s.length).bad != 0) = true := by simpa using hbb
          simp -implicitDefEqProofs only [go_sem, c9, upd_ne, m82, m28, m92, m29, m98, m89, PO, dn]
          refine .calls (hm1 i8 (PO (wrongD (stuckD st1) 5 s.length))) [0, 1, 2, 3, 4, 5, 6, 7, 8, 9, 10, 11] (.hm1 (upd_same ..)) (by kernel_rfl) rfl ?_
          simp -implicitDefEqProofs only [go_sem, c9, upd_ne, m82, m28, m92, m29, m98, m89, PO, hm1_same]
          refine ⟨.hm1 ((upd_other _ _ n8).trans (upd_same ..)), ?_⟩
          have efin2 : parseD s = (zeroP, (wrongD (stuckD st1) 5 s.length).bad, (wrongD (stuckD st1) 5 s.length).place) := by rw [efin, if_neg (by rw [eend]; exact hbb), eend]
          rw [efin2]
          exact .mk (h' := h) (parsedA (zeroP, (wrongD (stuckD st1) 5 s.length).bad, (wrongD (stuckD st1) 5 s.length).place)) (weak_flat3 _ _ _ (weak_flat _) _) (Sub.put (subs _ _ _) hi2 _) ⟨rfl, rfl⟩
end Go.Proofs.YtdcchpbncckhlaaGreatDoor

set_option linter.unusedSimpArgs false
set_option linter.unusedVariables false
namespace Go.Proofs.YtdcchpbncckhlaaGreatDoor
open Go Go.Ab Go.Bf
def LO (n : Int) : Blk := .obj [.v (.int .i64 n)] 53
def LC (f : FuncId) (args : List AV) : Prop := ∀ (h : Heap) (id : Nat) (n : Int), h id = some (LO n) → FnOK Tryz.prog f (.ptr id 0 :: args) h fun r h' => (∃ b, r = .v (.bool b)) ∧ Keeps [id] h h' ∧ ∃ n', h' id = some (LO n')
theorem keeps_upd {h : Heap} {id : Nat} (b : Option Blk) : Keeps [id] h (upd h id b) := fun j k hj hb => by
  rw [upd_other _ _ (by simpa using hj)]; exact hb
theorem sl_len {ρ : Env} (hw : Wf ρ) {t : Nat} {xs : List AV} {p : Perm} (h : lk ρ t = some (.sl xs p)) : xs.length < 9223372036854775808 := by
  have := hw t _ h
  simpa only [wfA, wf1, lim] using this
theorem take_up {i : Nat} {n : Nat} (h : i < n) (hn : n < 9223372036854775808) : IntKind.i64.wrap ((i : Int) + 1) = ((i + 1 : Nat) : Int) := by rw [wr64 _ (by omega)]; omega
theorem takes_ok (m : Int) : LC 30 [.v (.int .i64 m)] := fun h id n hid => by
  refine FnOK.body hU hm Tryz.func30 rfl (by kernel_rfl) 20 rfl [.tmp 4] rfl (Nat.le_of_ble_eq_true rfl) (fun hwf => ?_)
  have g := hid
  unfold LO at g
  cases d1 : decide (n < m)
  · simp -implicitDefEqProofs only [go_sem, g, d1]
    exact .same (.refl _) ⟨⟨_, rfl⟩, keeps_upd _, _, upd_same ..⟩
  · simp -implicitDefEqProofs only [go_sem, g, d1]
    exact .same (.refl _) ⟨⟨_, rfl⟩, .of (.refl _), n, hid⟩
theorem ltext_ok (s : Txt) : LC 31 [.s s] := fun h id n hid => by
  refine FnOK.body hU hm Tryz.func31 rfl (by kernel_rfl) 11 rfl [.tmp 4] rfl (Nat.le_of_ble_eq_true rfl) (fun hwf => ?_)
  simp -implicitDefEqProofs only [go_sem]
  refine ⟨by decide, ?_⟩
  refine (takes_ok _ h id n hid).mono fun r h1 ⟨⟨b, hb⟩, hk, n1, hid1⟩ => ?_
  subst hb
  simp -implicitDefEqProofs only [go_sem]
  exact .same (.refl _) ⟨⟨_, rfl⟩, hk, n1, hid1⟩
theorem lobls_ok (l : List OblD) : LC 33 [oblsA l] := fun h id n hid => by
  refine FnOK.body hU hm Tryz.func33 rfl (by kernel_rfl) 24 rfl [.tmp 4] rfl (Nat.le_of_ble_eq_true rfl) (fun hwf => ?_)
  simp -implicitDefEqProofs only [go_sem, oblsA, List.length_map]
  refine (takes_ok _ h id n hid).mono fun r h1 ⟨⟨b, hb⟩, hk, n1, hid1⟩ => ?_
  subst hb
  cases b
  · simp -implicitDefEqProofs only [go_sem]
    exact .same (.refl _) ⟨⟨_, rfl⟩, hk, n1, hid1⟩
  simp -implicitDefEqProofs only [go_sem, List.length_map]
  refine .wf fun hw => ?_
  have hml := sl_len (t := 12) (xs := l.map oblA) (p := .no) hw (by simp -implicitDefEqProofs only [go_sem])
  rw [List.length_map] at hml
  refine .intro (fun m ρ H => (Keeps [id] h H ∧ ∃ n', H id = some (LO n')) ∧ ∃ i : Nat, i ≤ l.length ∧ m = l.length - i ∧ lk ρ 0 = some (.ptr id 0) ∧ lk ρ 12 = some (.sl (l.map oblA) .no) ∧ lk ρ 13 = some (.v (.int .i64 l.length)) ∧ lk ρ 14 = some (.v (.int .i64 i))) l.length ?_ ?_
  · refine ⟨⟨hk, n1, hid1⟩, 0, Nat.zero_le _, rfl, ?_, ?_, ?_, ?_⟩ <;> simp -implicitDefEqProofs only [go_sem] <;> rfl
  rintro m ρ H ⟨⟨hkH, n2, hidH⟩, i, hi, rfl, r0, r12, r13, r14⟩
  simp -implicitDefEqProofs only [go_sem, r0, r12, r13, r14]
  refine .intro (fun e => ?_) (fun e => ?_)
  · have hlt : i < l.length := Int.ofNat_lt.1 (of_decide_eq_true e)
    simp -implicitDefEqProofs only [go_sem, r0, r12, r13, r14]
    refine .at i (by simpa using hlt) (by rw [List.getElem_map]; rfl) ?_
    simp -implicitDefEqProofs only [go_sem, r0, r12, r13, r14, List.getElem_map, oblA]
    intro i6 h6
    have n6 : id ≠ i6 := fun e => by rw [e, h6] at hidH; cases hidH
    simp -implicitDefEqProofs only [go_sem, r0, r12, r13, r14]
    refine (ltext_ok _ _ id n2 (by rw [upd_other _ _ n6]; exact hidH)).mono fun r h2 ⟨⟨b, hb⟩, hk2, n3, hid3⟩ => ?_
    subst hb
    have hk3 := (hkH.trans (.of (Sub.upd_new h6))).trans hk2
    cases b
    · simp -implicitDefEqProofs only [go_sem]
      exact .same (.refl _) ⟨⟨_, rfl⟩, hk3, n3, hid3⟩
    have w1 : IntKind.i64.wrap ((i : Int) + 1) = ((i + 1 : Nat) : Int) := take_up hlt hml
    simp -implicitDefEqProofs only [go_sem, r0, r12, r13, r14, w1]
    refine ⟨_, ?_, ⟨hk3, n3, hid3⟩, i + 1, hlt, rfl, ?_, ?_, ?_, ?_⟩
    · omega
    all_goals simp -implicitDefEqProofs only [go_sem, r0, r12, r13, r14, w1]
  · simp -implicitDefEqProofs only [go_sem]
    exact .same (.refl _) ⟨⟨_, rfl⟩, hkH, n2, hidH⟩
def LP (h H : Heap) (id : Nat) : Prop := Keeps [id] h H ∧ ∃ n', H id = some (LO n')
theorem LP.new {h H : Heap} {id i : Nat} (x : LP h H id) (hi : H i = none) (b : Option Blk) : LP h (upd H i b) id ∧ id ≠ i := by
  obtain ⟨h1, n, h2⟩ := x
  have ne : id ≠ i := fun e => by rw [e, hi] at h2; cases h2
  exact ⟨⟨h1.trans (.of (Sub.upd_new hi)), n, by rw [upd_other _ _ ne]; exact h2⟩, ne⟩
theorem LC.go {f : FuncId} {args : List AV} (hc : LC f args) {h H : Heap} {id : Nat} (x : LP h H id) {Q : AV → Heap → Prop} (k : ∀ b H', LP h H' id → (∀ j c, j ≠ id → H j = some c → H' j = some c) → Q (.v (.bool b)) H') : FnOK Tryz.prog f (.ptr id 0 :: args) H Q := by
  obtain ⟨h1, n, h2⟩ := x
  exact (hc H id n h2).mono fun r H' ⟨⟨b, hb⟩, hk, n1, hid1⟩ => by
    subst hb
    exact k b H' ⟨h1.trans hk, n1, hid1⟩ fun j c hj e => hk j c (by simpa using hj) e
theorem LP.ret {h H : Heap} {id : Nat} (x : LP h H id) (b : Bool) : (∃ c, (.v (.bool b) : AV) = .v (.bool c)) ∧ Keeps [id] h H ∧ ∃ n', H id = some (LO n') := ⟨⟨b, rfl⟩, x⟩
theorem LP.start {h : Heap} {id : Nat} {n : Int} (hid : h id = some (LO n)) : LP h h id := ⟨.of (.refl _), n, hid⟩
theorem ltarget_ok (t : TgtD) : LC 32 [tgtA t] := fun h id n hid => by
  refine FnOK.body hU hm Tryz.func32 rfl (by kernel_rfl) 64 rfl [.tmp 4] rfl (Nat.le_of_ble_eq_true rfl) (fun hwf => ?_)
  simp -implicitDefEqProofs only [go_sem, tgtA, List.length_map]
  refine (takes_ok _).go (.start hid) fun b h1 hp1 _ => ?_
  cases b
  · simp -implicitDefEqProofs only [go_sem]
    exact .same (.refl _) (hp1.ret _)
  simp -implicitDefEqProofs only [go_sem, List.length_map]
  refine .wf fun hw => ?_
  have hml := sl_len (t := 17) (xs := t.map anyA) (p := .no) hw (by simp -implicitDefEqProofs only [go_sem])
  rw [List.length_map] at hml
  refine .intro (fun m ρ H => LP h H id ∧ ∃ i : Nat, i ≤ t.length ∧ m = t.length - i ∧ lk ρ 0 = some (.ptr id 0) ∧ lk ρ 17 = some (.sl (t.map anyA) .no) ∧ lk ρ 18 = some (.v (.int .i64 t.length)) ∧ lk ρ 19 = some (.v (.int .i64 i))) t.length ?_ ?_
  · refine ⟨hp1, 0, Nat.zero_le _, rfl, ?_, ?_, ?_, ?_⟩ <;> simp -implicitDefEqProofs only [go_sem] <;> rfl
  rintro m ρ H ⟨hp, i, hi, rfl, r0, r17, r18, r19⟩
  simp -implicitDefEqProofs only [go_sem, r0, r17, r18, r19]
  refine .intro (fun e => ?_) (fun e => ?_)
  case refine_2 =>
    simp -implicitDefEqProofs only [go_sem]
    exact .same (.refl _) (hp.ret _)
  have hlt : i < t.length := Int.ofNat_lt.1 (of_decide_eq_true e)
  have w1 := take_up hlt hml
  simp -implicitDefEqProofs only [go_sem, r0, r17, r18, r19]
  refine .at i (by simpa using hlt) (by rw [List.getElem_map]; rfl) ?_
  simp -implicitDefEqProofs only [go_sem, r0, r17, r18, r19, List.getElem_map, anyA, List.length_map]
  generalize t[i] = y
  refine (takes_ok _).go hp fun b h1 hp1 _ => ?_
  cases b
  · simp -implicitDefEqProofs only [go_sem]
    exact .same (.refl _) (hp1.ret _)
  simp -implicitDefEqProofs only [go_sem, List.length_map]
  refine .wf fun hw => ?_
  have hml2 := sl_len (t := 29) (xs := y.map allA) (p := .no) hw (by simp -implicitDefEqProofs only [go_sem])
  rw [List.length_map] at hml2
  refine .intro (fun m ρ H => LP h H id ∧ ∃ j : Nat, j ≤ y.length ∧ m = y.length - j ∧ lk ρ 0 = some (.ptr id 0) ∧ lk ρ 17 = some (.sl (t.map anyA) .no) ∧ lk ρ 18 = some (.v (.int .i64 t.length)) ∧ lk ρ 19 = some (.v (.int .i64 i)) ∧ lk ρ 29 = some (.sl (y.map allA) .no) ∧ lk ρ 30 = some (.v (.int .i64 y.length)) ∧ lk ρ 31 = some (.v (.int .i64 j))) y.length ?_ ?_
  · refine ⟨hp1, 0, Nat.zero_le _, rfl, ?_, ?_, ?_, ?_, ?_, ?_, ?_⟩ <;> simp -implicitDefEqProofs only [go_sem, r0, r17, r18, r19] <;> rfl
  rintro m ρ H ⟨hp, j, hj, rfl, r0, r17, r18, r19, r29, r30, r31⟩
  simp -implicitDefEqProofs only [go_sem, r0, r17, r18, r19, r29, r30, r31]
  refine .intro (fun e => ?_) (fun e => ?_)
  case refine_2 =>
    simp -implicitDefEqProofs only [go_sem, r0, r17, r18, r19, w1]
    refine ⟨_, ?_, hp, i + 1, hlt, rfl, ?_, ?_, ?_, ?_⟩
    · omega
    all_goals simp -implicitDefEqProofs only [go_sem, r0, r17, r18, r19, w1]
  have hlt2 : j < y.length := Int.ofNat_lt.1 (of_decide_eq_true e)
  have w2 := take_up hlt2 hml2
  simp -implicitDefEqProofs only [go_sem, r0, r17, r18, r19, r29, r30, r31]
  refine .at j (by simpa using hlt2) (by rw [List.getElem_map]; rfl) ?_
  simp -implicitDefEqProofs only [go_sem, r0, r17, r18, r19, r29, r30, r31, List.getElem_map, allA, List.length_map]
  generalize y[j] = z
  refine (takes_ok _).go hp fun b h1 hp1 _ => ?_
  cases b
  · simp -implicitDefEqProofs only [go_sem]
    exact .same (.refl _) (hp1.ret _)
  simp -implicitDefEqProofs only [go_sem, List.length_map]
  refine .wf fun hw => ?_
  have hml3 := sl_len (t := 41) (xs := z.map matchA) (p := .no) hw (by simp -implicitDefEqProofs only [go_sem])
  rw [List.length_map] at hml3
  refine .intro (fun m ρ H => LP h H id ∧ ∃ k : Nat, k ≤ z.length ∧ m = z.length - k ∧ lk ρ 0 = some (.ptr id 0) ∧ lk ρ 17 = some (.sl (t.map anyA) .no) ∧ lk ρ 18 = some (.v (.int .i64 t.length)) ∧ lk ρ 19 = some (.v (.int .i64 i)) ∧ lk ρ 29 = some (.sl (y.map allA) .no) ∧ lk ρ 30 = some (.v (.int .i64 y.length)) ∧ lk ρ 31 = some (.v (.int .i64 j)) ∧ lk ρ 41 = some (.sl (z.map matchA) .no) ∧ lk ρ 42 = some (.v (.int .i64 z.length)) ∧ lk ρ 43 = some (.v (.int .i64 k))) z.length ?_ ?_
  · refine ⟨hp1, 0, Nat.zero_le _, rfl, ?_, ?_, ?_, ?_, ?_, ?_, ?_, ?_, ?_, ?_⟩ <;> simp -implicitDefEqProofs only [go_sem, r0, r17, r18, r19, r29, r30, r31] <;> rfl
  rintro m ρ H ⟨hp, k, hk, rfl, r0, r17, r18, r19, r29, r30, r31, r41, r42, r43⟩
  simp -implicitDefEqProofs only [go_sem, r0, r17, r18, r19, r29, r30, r31, r41, r42, r43]
  refine .intro (fun e => ?_) (fun e => ?_)
  case refine_2 =>
    simp -implicitDefEqProofs only [go_sem, r0, r17, r18, r19, r29, r30, r31, w2]
    refine ⟨_, ?_, hp, j + 1, hlt2, rfl, ?_, ?_, ?_, ?_, ?_, ?_, ?_⟩
    · omega
    all_goals simp -implicitDefEqProofs only [go_sem, r0, r17, r18, r19, r29, r30, r31, w2]
  have hlt3 : k < z.length := Int.ofNat_lt.1 (of_decide_eq_true e)
  have w3 := take_up hlt3 hml3
  simp -implicitDefEqProofs only [go_sem, r0, r17, r18, r19, r29, r30, r31, r41, r42, r43]
  refine .at k (by simpa using hlt3) (by rw [List.getElem_map]; rfl) ?_
  simp -implicitDefEqProofs only [go_sem, r0, r17, r18, r19, r29, r30, r31, r41, r42, r43, List.getElem_map, matchA]
  intro i10 h10
  obtain ⟨hp2, ne⟩ := hp.new h10 (some (.obj [.v (.int .i64 z[k].attr.cat), .s z[k].attr.name, .v (.bool z[k].attr.must), .v (.int .i64 z[k].op), .v (.int .i64 z[k].val.kind), .v (.int .i64 z[k].val.n), .s z[k].val.s] 60))
  simp -implicitDefEqProofs only [go_sem, r0, r17, r18, r19, r29, r30, r31, r41, r42, r43]
  refine (ltext_ok _).go hp2 fun b h3 hp3 kp => ?_
  have g10 := kp i10 _ ne.symm (upd_same ..)
  cases b
  · simp -implicitDefEqProofs only [go_sem]
    exact .same (.refl _) (hp3.ret _)
  simp -implicitDefEqProofs only [go_sem, r0, r17, r18, r19, r29, r30, r31, r41, r42, r43, g10]
  refine (ltext_ok _).go hp3 fun b h4 hp4 _ => ?_
  cases b
  · simp -implicitDefEqProofs only [go_sem]
    exact .same (.refl _) (hp4.ret _)
  simp -implicitDefEqProofs only [go_sem, r0, r17, r18, r19, r29, r30, r31, r41, r42, r43, w3]
  refine ⟨_, ?_, hp4, k + 1, hlt3, rfl, ?_, ?_, ?_, ?_, ?_, ?_, ?_, ?_, ?_, ?_⟩
  · omega
  all_goals simp -implicitDefEqProofs only [go_sem, r0, r17, r18, r19, r29, r30, r31, r41, r42, r43, w3]
end Go.Proofs.YtdcchpbncckhlaaGreatDoor

set_option linter.unusedSimpArgs false
set_option linter.unusedVariables false
namespace Go.Proofs.YtdcchpbncckhlaaGreatDoor
open Go Go.Ab Go.Bf
def RO (r : RuleD) : Blk := .obj [.s r.id, .v (.bool r.deny), .sl (r.tgt.map anyA) .no, .sl (r.cond.map nodeA) .no, .sl (r.obls.map oblA) .no] 40
def NO (n : NodeD) : Blk := .obj [.v (.int .i64 n.op), .v (.int .i64 n.val.kind), .v (.int .i64 n.val.n), .s n.val.s, .v (.int .i64 n.attr.cat), .s n.attr.name, .v (.bool n.attr.must)] 48
theorem lpolicy_ok : ∀ (p : PolD), LC 15 [polA p]
  | .mk pid pset palg ptgt prules pkids pobls => fun h id n hid => by
    have ihk : ∀ (j : Nat) (hj : j < pkids.length), LC 15 [polA pkids[j]] := fun j hj => lpolicy_ok pkids[j]
    refine FnOK.body hU hm Tryz.func15 rfl (by kernel_rfl) 108 rfl [.tmp 4] rfl (Nat.le_of_ble_eq_true rfl) (fun hwf => ?_)
    have hwl : prules.length < 9223372036854775808 ∧ pkids.length < 9223372036854775808 := by
      have := hwf (polA (.mk pid pset palg ptgt prules pkids pobls)) (by simp)
      simp only [polA, wfA] at this
      have h1 := this (.sl (prules.map ruleA) .no) (by simp)
      have h2 := this (.sl (kidsA pkids) .no) (by simp)
      simp only [wf1, lim, List.length_map, kidsA_eq] at h1 h2
      exact ⟨h1, h2⟩
    simp -implicitDefEqProofs only [go_sem, polA, tgtA, oblsA, List.length_map]
    intro i3 h3
    have hp := (LP.start hid).new h3 (some (.obj [.s pid, .v (.bool pset), .v (.int .i64 palg), .sl (ptgt.map anyA) .no, .sl (prules.map ruleA) .no, .sl (kidsA pkids) .no, .sl (pobls.map oblA) .no] 28))
    obtain ⟨hp, ne3⟩ := hp
    simp -implicitDefEqProofs only [go_sem, List.length_map]
    refine (takes_ok _).go hp fun b h1 hp1 k1 => ?_
    have g1 := k1 i3 _ ne3.symm (upd_same ..)
    cases b
    · simp -implicitDefEqProofs only [go_sem]
      exact .same (.refl _) (hp1.ret _)
    simp -implicitDefEqProofs only [go_sem, g1]
    refine (ltext_ok _).go hp1 fun b h2 hp2 k2 => ?_
    have g2 := k2 i3 _ ne3.symm g1
    cases b
    · simp -implicitDefEqProofs only [go_sem]
      exact .same (.refl _) (hp2.ret _)
    simp -implicitDefEqProofs only [go_sem, g2]
    refine (ltarget_ok ptgt).go hp2 fun b h3 hp3 k3 => ?_
    have g3 := k3 i3 _ ne3.symm g2
    cases b
    · simp -implicitDefEqProofs only [go_sem]
      exact .same (.refl _) (hp3.ret _)
    simp -implicitDefEqProofs only [go_sem, g3]
    refine (lobls_ok pobls).go hp3 fun b h4 hp4 k4 => ?_
    have g4 := k4 i3 _ ne3.symm g3
    cases b
    · simp -implicitDefEqProofs only [go_sem]
      exact .same (.refl _) (hp4.ret _)
    simp -implicitDefEqProofs only [go_sem, g4, List.length_map]
    refine .intro (fun m ρ H => (LP h H id ∧ H i3 = some (.obj [.s pid, .v (.bool pset), .v (.int .i64 palg), .sl (ptgt.map anyA) .no, .sl (prules.map ruleA) .no, .sl (kidsA pkids) .no, .sl (pobls.map oblA) .no] 28)) ∧ ∃ i : Nat, i ≤ prules.length ∧ m = prules.length - i ∧ lk ρ 0 = some (.ptr id 0) ∧ lk ρ 3 = some (.ptr i3 0) ∧ lk ρ 40 = some (.sl (prules.map ruleA) .no) ∧ lk ρ 41 = some (.v (.int .i64 prules.length)) ∧ lk ρ 42 = some (.v (.int .i64 i))) prules.length ?_ ?_
    · refine ⟨⟨hp4, g4⟩, 0, Nat.zero_le _, rfl, ?_, ?_, ?_, ?_, ?_⟩ <;> simp -implicitDefEqProofs only [go_sem] <;> rfl
    rintro m ρ H ⟨⟨hp, g5⟩, i, hi, rfl, r0, r3, r40, r41, r42⟩
    simp -implicitDefEqProofs only [go_sem, r0, r3, r40, r41, r42]
    refine .intro (fun e => ?_) (fun e => ?_)
    · have hlt : i < prules.length := Int.ofNat_lt.1 (of_decide_eq_true e)
      have w1 := take_up hlt hwl.1
      simp -implicitDefEqProofs only [go_sem, r0, r3, r40, r41, r42]
      refine .at i (by simpa using hlt) (by rw [List.getElem_map]; rfl) ?_
      simp -implicitDefEqProofs only [go_sem, r0, r3, r40, r41, r42, List.getElem_map, ruleA, tgtA, condA, oblsA]
      generalize prules[i] = rl
      intro i6 h6
      obtain ⟨hp5, ne6⟩ := hp.new h6 (some (RO rl))
      have n36 : i3 ≠ i6 := fun e => by rw [e, h6] at g5; cases g5
      have g6 : upd H i6 (some (RO rl)) i3 = some (.obj [.s pid, .v (.bool pset), .v (.int .i64 palg), .sl (ptgt.map anyA) .no, .sl (prules.map ruleA) .no, .sl (kidsA pkids) .no, .sl (pobls.map oblA) .no] 28) := by rw [upd_other _ _ n36]; exact g5
      have q6 : upd H i6 (some (RO rl)) i6 = some (RO rl) := upd_same ..
      simp -implicitDefEqProofs only [go_sem, r0, r3, r40, r41, r42]
      refine (ltext_ok _).go hp5 fun b h7 hp7 k7 => ?_
      have g7 := k7 i3 _ ne3.symm g6
      have q7 := k7 i6 _ ne6.symm q6
      unfold RO at q7
      cases b
      · simp -implicitDefEqProofs only [go_sem]
        exact .same (.refl _) (hp7.ret _)
      simp -implicitDefEqProofs only [go_sem, r0, r3, r40, r41, r42, q7]
      refine (ltarget_ok rl.tgt).go hp7 fun b h8 hp8 k8 => ?_
      have g8 := k8 i3 _ ne3.symm g7
      have q8 := k8 i6 _ ne6.symm q7
      cases b
      · simp -implicitDefEqProofs only [go_sem]
        exact .same (.refl _) (hp8.ret _)
      simp -implicitDefEqProofs only [go_sem, r0, r3, r40, r41, r42, q8, List.length_map]
      refine (takes_ok _).go hp8 fun b h9 hp9 k9 => ?_
      have g9 := k9 i3 _ ne3.symm g8
      have q9 := k9 i6 _ ne6.symm q8
      cases b
      · simp -implicitDefEqProofs only [go_sem]
        exact .same (.refl _) (hp9.ret _)
      simp -implicitDefEqProofs only [go_sem, r0, r3, r40, r41, r42, q9]
      refine (lobls_ok rl.obls).go hp9 fun b h10 hp10 k10 => ?_
      have g10 := k10 i3 _ ne3.symm g9
      have q10 := k10 i6 _ ne6.symm q9
      cases b
      · simp -implicitDefEqProofs only [go_sem]
        exact .same (.refl _) (hp10.ret _)
      simp -implicitDefEqProofs only [go_sem, r0, r3, r40, r41, r42, q10, List.length_map]
      refine .wf fun hw => ?_
      have hml2 := sl_len (t := 74) (xs := rl.cond.map nodeA) (p := .no) hw (by simp -implicitDefEqProofs only [go_sem])
      rw [List.length_map] at hml2
      refine .intro (fun m ρ H => (LP h H id ∧ H i3 = some (.obj [.s pid, .v (.bool pset), .v (.int .i64 palg), .sl (ptgt.map anyA) .no, .sl (prules.map ruleA) .no, .sl (kidsA pkids) .no, .sl (pobls.map oblA) .no] 28)) ∧ ∃ j : Nat, j ≤ rl.cond.length ∧ m = rl.cond.length - j ∧ lk ρ 0 = some (.ptr id 0) ∧ lk ρ 3 = some (.ptr i3 0) ∧ lk ρ 40 = some (.sl (prules.map ruleA) .no) ∧ lk ρ 41 = some (.v (.int .i64 prules.length)) ∧ lk ρ 42 = some (.v (.int .i64 i)) ∧ lk ρ 74 = some (.sl (rl.cond.map nodeA) .no) ∧ lk ρ 75 = some (.v (.int .i64 rl.cond.length)) ∧ lk ρ 76 = some (.v (.int .i64 j))) rl.cond.length ?_ ?_
      · refine ⟨⟨hp10, g10⟩, 0, Nat.zero_le _, rfl, ?_, ?_, ?_, ?_, ?_, ?_, ?_, ?_⟩ <;> simp -implicitDefEqProofs only [go_sem, r0, r3, r40, r41, r42] <;> rfl
      rintro m ρ H ⟨⟨hp, g5⟩, j, hj, rfl, r0, r3, r40, r41, r42, r74, r75, r76⟩
      simp -implicitDefEqProofs only [go_sem, r0, r3, r40, r41, r42, r74, r75, r76]
      refine .intro (fun e => ?_) (fun e => ?_)
      case refine_2 =>
        simp -implicitDefEqProofs only [go_sem, r0, r3, r40, r41, r42, w1]
        refine ⟨_, ?_, ⟨hp, g5⟩, i + 1, hlt, rfl, ?_, ?_, ?_, ?_, ?_⟩
        · omega
        all_goals simp -implicitDefEqProofs only [go_sem, r0, r3, r40, r41, r42, w1]
      have hlt2 : j < rl.cond.length := Int.ofNat_lt.1 (of_decide_eq_true e)
      have w2 := take_up hlt2 hml2
      simp -implicitDefEqProofs only [go_sem, r0, r3, r40, r41, r42, r74, r75, r76]
      refine .at j (by simpa using hlt2) (by rw [List.getElem_map]; rfl) ?_
      simp -implicitDefEqProofs only [go_sem, r0, r3, r40, r41, r42, r74, r75, r76, List.getElem_map, nodeA]
      generalize rl.cond[j] = nd
      intro i8 h8
      obtain ⟨hp5, ne8⟩ := hp.new h8 (some (NO nd))
      have n38 : i3 ≠ i8 := fun e => by rw [e, h8] at g5; cases g5
      have g6 : upd H i8 (some (NO nd)) i3 = some (.obj [.s pid, .v (.bool pset), .v (.int .i64 palg), .sl (ptgt.map anyA) .no, .sl (prules.map ruleA) .no, .sl (kidsA pkids) .no, .sl (pobls.map oblA) .no] 28) := by rw [upd_other _ _ n38]; exact g5
      have q6 : upd H i8 (some (NO nd)) i8 = some (NO nd) := upd_same ..
      simp -implicitDefEqProofs only [go_sem, r0, r3, r40, r41, r42, r74, r75, r76]
      refine (ltext_ok _).go hp5 fun b h7 hp7 k7 => ?_
      have g7 := k7 i3 _ ne3.symm g6
      have q7 := k7 i8 _ ne8.symm q6
      unfold NO at q7
      cases b
      · simp -implicitDefEqProofs only [go_sem]
        exact .same (.refl _) (hp7.ret _)
      simp -implicitDefEqProofs only [go_sem, r0, r3, r40, r41, r42, r74, r75, r76, q7]
      refine (ltext_ok _).go hp7 fun b h9 hp9 k9 => ?_
      have g9 := k9 i3 _ ne3.symm g7
      cases b
      · simp -implicitDefEqProofs only [go_sem]
        exact .same (.refl _) (hp9.ret _)
      simp -implicitDefEqProofs only [go_sem, r0, r3, r40, r41, r42, r74, r75, r76, w2]
      refine ⟨_, ?_, ⟨hp9, g9⟩, j + 1, hlt2, rfl, ?_, ?_, ?_, ?_, ?_, ?_, ?_, ?_⟩
      · omega
      all_goals simp -implicitDefEqProofs only [go_sem, r0, r3, r40, r41, r42, r74, r75, r76, w2]
    · simp -implicitDefEqProofs only [go_sem, r0, r3, g5, List.length_map, kidsA_eq]
      refine .intro (fun m ρ H => LP h H id ∧ ∃ i : Nat, i ≤ pkids.length ∧ m = pkids.length - i ∧ lk ρ 0 = some (.ptr id 0) ∧ lk ρ 97 = some (.sl (pkids.map polA) .no) ∧ lk ρ 98 = some (.v (.int .i64 pkids.length)) ∧ lk ρ 99 = some (.v (.int .i64 i))) pkids.length ?_ ?_
      · refine ⟨hp, 0, Nat.zero_le _, rfl, ?_, ?_, ?_, ?_⟩ <;> simp -implicitDefEqProofs only [go_sem, r0] <;> rfl
      rintro m ρ H ⟨hp, j, hj, rfl, r0, r97, r98, r99⟩
      simp -implicitDefEqProofs only [go_sem, r0, r97, r98, r99]
      refine .intro (fun e => ?_) (fun e => ?_)
      case refine_2 =>
        simp -implicitDefEqProofs only [go_sem]
        exact .same (.refl _) (hp.ret _)
      have hlt : j < pkids.length := Int.ofNat_lt.1 (of_decide_eq_true e)
      have w1 := take_up hlt hwl.2
      have ih := ihk j hlt
      simp -implicitDefEqProofs only [go_sem, r0, r97, r98, r99]
      cases ek : pkids[j] with
      | mk x1 x2 x3 x4 x5 x6 x7 =>
      rw [ek] at ih
      simp only [polA, tgtA, oblsA, kidsA_eq] at ih
      refine .at j (by simpa using hlt) (by rw [List.getElem_map]; exact polA_len _) ?_
      simp -implicitDefEqProofs only [go_sem, r0, r97, r98, r99, List.getElem_map, ek, polA, tgtA, oblsA, kidsA_eq]
      intro i10 h10
      obtain ⟨hp5, ne10⟩ := hp.new h10 (some (.obj [.s x1, .v (.bool x2), .v (.int .i64 x3), .sl (x4.map anyA) .no, .sl (x5.map ruleA) .no, .sl (x6.map polA) .no, .sl (x7.map oblA) .no] 28))
      simp -implicitDefEqProofs only [go_sem, r0, r97, r98, r99]
      refine ih.go hp5 fun b h7 hp7 k7 => ?_
      cases b
      · simp -implicitDefEqProofs only [go_sem]
        exact .same (.refl _) (hp7.ret _)
      simp -implicitDefEqProofs only [go_sem, r0, r97, r98, r99, w1]
      refine ⟨_, ?_, hp7, j + 1, hlt, rfl, ?_, ?_, ?_, ?_⟩
      · omega
      all_goals simp -implicitDefEqProofs only [go_sem, r0, r97, r98, r99, w1]
termination_by p => SizeOf.sizeOf p
decreasing_by
  have := List.sizeOf_lt_of_mem (List.getElem_mem hj)
  simp only [PolD.mk.sizeOf_spec]
  omega
theorem small_ok (p : PolD) (h : Heap) : FnOK Tryz.prog 6 [polA p] h fun r h' => (∃ b, r = .v (.bool b)) ∧ h' = h := by
  cases p with
  | mk pid pset palg ptgt prules pkids pobls =>
  refine FnOK.body hU hm Tryz.func6 rfl (by kernel_rfl) 9 rfl [.tmp 2] rfl (Nat.le_of_ble_eq_true rfl) (fun hwf => ?_)
  simp -implicitDefEqProofs only [go_sem, polA, tgtA, oblsA]
  intro i1 h1
  simp -implicitDefEqProofs only [go_sem]
  intro i5 h5
  have ne := ne_upd h5
  have hi5 : h i5 = none := by rw [upd_other _ _ ne] at h5; exact h5
  simp -implicitDefEqProofs only [go_sem, upd_ne, ne, ne.symm]
  have hp := lpolicy_ok (.mk pid pset palg ptgt prules pkids pobls) (upd (upd h i1 (some (.obj [.s pid, .v (.bool pset), .v (.int .i64 palg), .sl (ptgt.map anyA) .no, .sl (prules.map ruleA) .no, .sl (kidsA pkids) .no, .sl (pobls.map oblA) .no] 28))) i5 (some (LO 3000))) i5 3000 (upd_same ..)
  simp only [polA, tgtA, oblsA] at hp
  refine hp.mono fun x h4 ⟨⟨b, ex⟩, hk, _⟩ => ?_
  subst ex
  simp -implicitDefEqProofs only [go_sem]
  refine .mk _ (.refl _) (fun j k hj => ?_) ⟨⟨b, rfl⟩, rfl⟩
  refine hk j k (by simp only [List.mem_singleton]; exact fun e => by rw [e, hi5] at hj; cases hj) (((Sub.upd_new h1).new h5 _) _ _ hj)
end Go.Proofs.YtdcchpbncckhlaaGreatDoor

set_option linter.unusedSimpArgs false
set_option linter.unusedVariables false
namespace Go.Proofs.YtdcchpbncckhlaaGreatDoor
open Go Go.Ab Go.Bf
theorem dat_attr {x : AV} (h : Dat U 46 x) : ∃ a : AttrD, x = attrA a := by
  obtain ⟨ys, rfl, hys⟩ := h.strct_inv (show (U 46).k = .strct [(0, 3), (1, 9), (2, 4)] by simp only [go_sem])
  simp only [List.map_cons, List.map_nil, DatAll] at hys
  obtain ⟨y0, _, rfl, d0, y1, _, rfl, d1, y2, _, rfl, d2, rfl⟩ := hys
  obtain ⟨n, rfl, _⟩ := d0.i64 (by simp only [go_sem])
  obtain ⟨s, rfl, _⟩ := d1.str_inv (by simp only [go_sem])
  obtain ⟨b, rfl⟩ := d2.bool_inv (by simp only [go_sem])
  exact ⟨⟨n, s, b⟩, by simp [attrA, iA, AV.cells]⟩
theorem dat_val {x : AV} (h : Dat U 44 x) : ∃ v : ValD, x = valA v ∧ inV v := by
  obtain ⟨ys, rfl, hys⟩ := h.strct_inv (show (U 44).k = .strct [(0, 3), (1, 3), (2, 9)] by simp only [go_sem])
  simp only [List.map_cons, List.map_nil, DatAll] at hys
  obtain ⟨y0, _, rfl, d0, y1, _, rfl, d1, y2, _, rfl, d2, rfl⟩ := hys
  obtain ⟨n, rfl, _⟩ := d0.i64 (by simp only [go_sem])
  obtain ⟨m, rfl, hm⟩ := d1.i64 (by simp only [go_sem])
  obtain ⟨s, rfl, _⟩ := d2.str_inv (by simp only [go_sem])
  exact ⟨⟨n, m, s⟩, by simp [valA, iA, AV.cells], hm⟩
theorem dat_match {x : AV} (h : Dat U 60 x) : ∃ m : MatchD, x = matchA m ∧ inV m.val := by
  obtain ⟨ys, rfl, hys⟩ := h.strct_inv (show (U 60).k = .strct [(0, 46), (3, 3), (4, 44)] by simp only [go_sem])
  simp only [List.map_cons, List.map_nil, DatAll] at hys
  obtain ⟨y0, _, rfl, d0, y1, _, rfl, d1, y2, _, rfl, d2, rfl⟩ := hys
  obtain ⟨a, rfl⟩ := dat_attr d0
  obtain ⟨n, rfl, _⟩ := d1.i64 (by simp only [go_sem])
  obtain ⟨v, rfl, hv⟩ := dat_val d2
  exact ⟨⟨a, n, v⟩, by simp [matchA, attrA, valA, iA, AV.cells], hv⟩
theorem dat_node {x : AV} (h : Dat U 48 x) : ∃ m : NodeD, x = nodeA m ∧ inV m.val := by
  obtain ⟨ys, rfl, hys⟩ := h.strct_inv (show (U 48).k = .strct [(0, 3), (1, 44), (4, 46)] by simp only [go_sem])
  simp only [List.map_cons, List.map_nil, DatAll] at hys
  obtain ⟨y0, _, rfl, d0, y1, _, rfl, d1, y2, _, rfl, d2, rfl⟩ := hys
  obtain ⟨n, rfl, _⟩ := d0.i64 (by simp only [go_sem])
  obtain ⟨v, rfl, hv⟩ := dat_val d1
  obtain ⟨a, rfl⟩ := dat_attr d2
  exact ⟨⟨n, v, a⟩, by simp [nodeA, attrA, valA, iA, AV.cells], hv⟩
theorem dat_all {x : AV} (h : Dat U 61 x) : ∃ l : List MatchD, x = allA l ∧ inA l := by
  obtain ⟨l, rfl, _, hl⟩ := h.list (e := 60) (f := matchA) (p := fun m => inV m.val) (by simp only [go_sem]) fun y hy => dat_match hy
  exact ⟨l, rfl, hl⟩
theorem dat_any {x : AV} (h : Dat U 62 x) : ∃ l : List (List MatchD), x = anyA l ∧ inY l := by
  obtain ⟨l, rfl, _, hl⟩ := h.list (e := 61) (f := allA) (p := inA) (by simp only [go_sem]) fun y hy => dat_all hy
  exact ⟨l, rfl, hl⟩
theorem dat_tgt {x : AV} (h : Dat U 23 x) : ∃ t : TgtD, x = tgtA t ∧ inT t := by
  obtain ⟨l, rfl, _, hl⟩ := h.list (e := 62) (f := anyA) (p := inY) (by simp only [go_sem]) fun y hy => dat_any hy
  exact ⟨l, rfl, hl⟩
theorem dat_cond {x : AV} (h : Dat U 38 x) : ∃ l : List NodeD, x = condA l ∧ inL l := by
  obtain ⟨l, rfl, _, hl⟩ := h.list (e := 48) (f := nodeA) (p := fun n => inV n.val) (by simp only [go_sem]) fun y hy => dat_node hy
  exact ⟨l, rfl, hl⟩
end Go.Proofs.YtdcchpbncckhlaaGreatDoor

set_option linter.unusedSimpArgs false
set_option linter.unusedVariables false
namespace Go.Bf
open Go Go.Ab
def eqMatch (a b : MatchD) : Bool := a.attr.cat == b.attr.cat && (a.attr.name == b.attr.name && (a.attr.must == b.attr.must && (a.op == b.op && (a.val.kind == b.val.kind && (a.val.n == b.val.n && a.val.s == b.val.s)))))
def eqNode (a b : NodeD) : Bool := a.op == b.op && (a.val.kind == b.val.kind && (a.val.n == b.val.n && (a.val.s == b.val.s && (a.attr.cat == b.attr.cat && (a.attr.name == b.attr.name && a.attr.must == b.attr.must)))))
def eqObl (a b : OblD) : Bool := a.on == b.on && (a.kind == b.kind && a.arg == b.arg)
def eqL {α : Type} (f : α → α → Bool) : List α → List α → Bool
  | [], [] => true
  | x :: a, y :: b => f x y && eqL f a b
  | _, _ => false
theorem eqL_true {α : Type} {f : α → α → Bool} : ∀ {a b : List α}, a.length = b.length → (∀ j (h1 : j < a.length) (h2 : j < b.length), f a[j] b[j] = true) → eqL f a b = true
  | [], [], _, _ => rfl
  | x :: a, y :: b, hl, h => by
    simp only [eqL, Bool.and_eq_true]
    exact ⟨h 0 (by simp) (by simp), eqL_true (by simpa using hl) fun j h1 h2 => h (j + 1) (by simpa using h1) (by simpa using h2)⟩
theorem eqL_len {α : Type} {f : α → α → Bool} : ∀ {a b : List α}, a.length ≠ b.length → eqL f a b = false
  | [], [], h => (h rfl).elim
  | [], _ :: _, _ => rfl
  | _ :: _, [], _ => rfl
  | x :: a, y :: b, h => by
    simp only [eqL]
    rw [eqL_len (fun e => h (by simp [e])), Bool.and_false]
theorem eqL_at {α : Type} {f : α → α → Bool} : ∀ {a b : List α} (j : Nat) (h1 : j < a.length) (h2 : j < b.length), f a[j] b[j] = false → eqL f a b = false
  | x :: a, y :: b, 0, _, _, h => by simp only [List.getElem_cons_zero] at h; simp [eqL, h]
  | x :: a, y :: b, j + 1, h1, h2, h => by
    simp only [eqL]
    rw [eqL_at j (by simpa using h1) (by simpa using h2) (by simpa using h), Bool.and_false]
theorem eqL_eq {α : Type} {f : α → α → Bool} (hf : ∀ x y, f x y = true ↔ x = y) : ∀ {a b : List α}, eqL f a b = true ↔ a = b
  | [], [] => by simp [eqL]
  | [], _ :: _ => by simp [eqL]
  | _ :: _, [] => by simp [eqL]
  | x :: a, y :: b => by simp [eqL, hf, eqL_eq hf]
theorem eqMatch_eq (a b : MatchD) : eqMatch a b = true ↔ a = b := by
  obtain ⟨⟨a1, a2, a3⟩, a4, a5, a6, a7⟩ := a
  obtain ⟨⟨b1, b2, b3⟩, b4, b5, b6, b7⟩ := b
  simp [eqMatch, and_assoc]
theorem eqNode_eq (a b : NodeD) : eqNode a b = true ↔ a = b := by
  obtain ⟨a4, ⟨a5, a6, a7⟩, ⟨a1, a2, a3⟩⟩ := a
  obtain ⟨b4, ⟨b5, b6, b7⟩, ⟨b1, b2, b3⟩⟩ := b
  simp [eqNode, and_assoc]
end Go.Bf
namespace Go.Proofs.YtdcchpbncckhlaaGreatDoor
open Go Go.Ab Go.Bf
theorem sameMatch_ok (a b : List MatchD) (h : Heap) : FnOK Tryz.prog 29 [allA a, allA b] h fun r h' => r = .v (.bool (eqL eqMatch a b)) ∧ h' = h := by
  refine FnOK.body hU hm Tryz.func29 rfl (by kernel_rfl) 26 rfl [.tmp 4] rfl (Nat.le_of_ble_eq_true rfl) (fun hwf => ?_)
  cases d1 : ((a.length : Int) != (b.length : Int))
  case true =>
    have e1 : a.length ≠ b.length := by
      intro e; rw [e] at d1; simp at d1
    simp -implicitDefEqProofs only [go_sem, allA, List.length_map, d1]
    exact .same (.refl _) ⟨by rw [eqL_len e1]; rfl, rfl⟩
  have e1 : a.length = b.length := by have : (a.length : Int) = b.length := by simpa using d1
                                      omega
  simp -implicitDefEqProofs only [go_sem, allA, List.length_map, d1]
  refine .intro (fun m ρ h' => Ab.Sub h h' ∧ ∃ i : Nat, i ≤ a.length ∧ m = a.length - i ∧ (∀ j (h1 : j < a.length) (h2 : j < b.length), j < i → eqMatch a[j] b[j] = true) ∧ lk ρ 0 = some (.sl (a.map matchA) .no) ∧ lk ρ 1 = some (.sl (b.map matchA) .no) ∧ lk ρ 5 = some (.v (.int .i64 i))) a.length ?_ ?_
  · refine ⟨.refl _, 0, by omega, rfl, fun j _ _ hj => (by omega), ?_, ?_, ?_⟩ <;> simp -implicitDefEqProofs only [go_sem]
  · rintro m ρ h' ⟨hs, i, hi, rfl, hc, r0, r1, r5⟩
    simp -implicitDefEqProofs only [go_sem, r0, r1, r5, List.length_map]
    refine .intro (fun e => ?_) (fun e => ?_)
    · have hlt : i < a.length := Int.ofNat_lt.1 (of_decide_eq_true e)
      have hlt2 : i < b.length := by omega
      have w1 : IntKind.i64.wrap ((i : Int) + 1) = ((i + 1 : Nat) : Int) := by
        have := hwf (allA a) (by simp)
        simp only [allA, wfA, wf1, lim, List.length_map] at this
        rw [wr64 _ (by omega)]; omega
      simp -implicitDefEqProofs only [go_sem, r0, r1, r5, List.length_map]
      refine ⟨.of (by kernel_rfl), ?_⟩
      refine .at i (by simpa using hlt) (by rw [List.getElem_map]; rfl) ?_
      simp -implicitDefEqProofs only [go_sem, r0, r1, r5, List.getElem_map, matchA]
      refine .at i (by simpa using hlt2) (by rw [List.getElem_map]; rfl) ?_
      simp -implicitDefEqProofs only [go_sem, r0, r1, r5, List.getElem_map, matchA]
      cases d3 : eqMatch a[i] b[i]
      · have d4 := d3
        simp only [eqMatch] at d4
        simp -implicitDefEqProofs only [go_sem, r0, r1, r5, d4]
        exact .mk _ (.refl _) hs ⟨by rw [eqL_at i hlt hlt2 d3]; rfl, rfl⟩
      · have d4 := d3
        simp only [eqMatch] at d4
        simp -implicitDefEqProofs only [go_sem, r0, r1, r5, d4, w1]
        refine ⟨_, ?_, hs, i + 1, by omega, rfl, fun j h1 h2 hj => ?_, ?_, ?_, ?_⟩
        · omega
        · by_cases hji : j = i
          · subst hji; exact d3
          · exact hc j h1 h2 (by omega)
        all_goals simp -implicitDefEqProofs only [go_sem, r0, r1, r5, w1]
    · have hge : i = a.length := by have := of_decide_eq_false e; omega
      subst hge
      simp -implicitDefEqProofs only [go_sem, r0, r1, r5]
      exact .mk _ (.refl _) hs ⟨by rw [eqL_true e1 fun j h1 h2 => hc j h1 h2 h1]; rfl, rfl⟩
theorem sameNode_ok (a b : List NodeD) (h : Heap) : FnOK Tryz.prog 13 [condA a, condA b] h fun r h' => r = .v (.bool (eqL eqNode a b)) ∧ h' = h := by
  refine FnOK.body hU hm Tryz.func13 rfl (by kernel_rfl) 26 rfl [.tmp 4] rfl (Nat.le_of_ble_eq_true rfl) (fun hwf => ?_)
  cases d1 : ((a.length : Int) != (b.length : Int))
  case true =>
    have e1 : a.length ≠ b.length := by
      intro e; rw [e] at d1; simp at d1
    simp -implicitDefEqProofs only [go_sem, condA, List.length_map, d1]
    exact .same (.refl _) ⟨by rw [eqL_len e1]; rfl, rfl⟩
  have e1 : a.length = b.length := by have : (a.length : Int) = b.length := by simpa using d1
                                      omega
  simp -implicitDefEqProofs only [go_sem, condA, List.length_map, d1]
  refine .intro (fun m ρ h' => Ab.Sub h h' ∧ ∃ i : Nat, i ≤ a.length ∧ m = a.length - i ∧ (∀ j (h1 : j < a.length) (h2 : j < b.length), j < i → eqNode a[j] b[j] = true) ∧ lk ρ 0 = some (.sl (a.map nodeA) .no) ∧ lk ρ 1 = some (.sl (b.map nodeA) .no) ∧ lk ρ 5 = some (.v (.int .i64 i))) a.length ?_ ?_
  · refine ⟨.refl _, 0, by omega, rfl, fun j _ _ hj => (by omega), ?_, ?_, ?_⟩ <;> simp -implicitDefEqProofs only [go_sem]
  · rintro m ρ h' ⟨hs, i, hi, rfl, hc, r0, r1, r5⟩
    simp -implicitDefEqProofs only [go_sem, r0, r1, r5, List.length_map]
    refine .intro (fun e => ?_) (fun e => ?_)
    · have hlt : i < a.length := Int.ofNat_lt.1 (of_decide_eq_true e)
      have hlt2 : i < b.length := by omega
      have w1 : IntKind.i64.wrap ((i : Int) + 1) = ((i + 1 : Nat) : Int) := by
        have := hwf (condA a) (by simp)
        simp only [condA, wfA, wf1, lim, List.length_map] at this
        rw [wr64 _ (by omega)]; omega
      simp -implicitDefEqProofs only [go_sem, r0, r1, r5, List.length_map]
      refine ⟨.of (by kernel_rfl), ?_⟩
      refine .at i (by simpa using hlt) (by rw [List.getElem_map]; rfl) ?_
      simp -implicitDefEqProofs only [go_sem, r0, r1, r5, List.getElem_map, nodeA]
      refine .at i (by simpa using hlt2) (by rw [List.getElem_map]; rfl) ?_
      simp -implicitDefEqProofs only [go_sem, r0, r1, r5, List.getElem_map, nodeA]
      cases d3 : eqNode a[i] b[i]
      · have d4 := d3
        simp only [eqNode] at d4
        simp -implicitDefEqProofs only [go_sem, r0, r1, r5, d4]
        exact .mk _ (.refl _) hs ⟨by rw [eqL_at i hlt hlt2 d3]; rfl, rfl⟩
      · have d4 := d3
        simp only [eqNode] at d4
        simp -implicitDefEqProofs only [go_sem, r0, r1, r5, d4, w1]
        refine ⟨_, ?_, hs, i + 1, by omega, rfl, fun j h1 h2 hj => ?_, ?_, ?_, ?_⟩
        · omega
        · by_cases hji : j = i
          · subst hji; exact d3
          · exact hc j h1 h2 (by omega)
        all_goals simp -implicitDefEqProofs only [go_sem, r0, r1, r5, w1]
    · have hge : i = a.length := by have := of_decide_eq_false e; omega
      subst hge
      simp -implicitDefEqProofs only [go_sem, r0, r1, r5]
      exact .mk _ (.refl _) hs ⟨by rw [eqL_true e1 fun j h1 h2 => hc j h1 h2 h1]; rfl, rfl⟩
end Go.Proofs.YtdcchpbncckhlaaGreatDoor

set_option linter.unusedSimpArgs false
set_option linter.unusedVariables false
namespace Go.Bf
open Go Go.Ab
def eqT (a b : TgtD) : Bool := eqL (eqL (eqL eqMatch)) a b
def eqR (r s : RuleD) : Bool := r.id == s.id && (r.deny == s.deny && (eqT r.tgt s.tgt && (eqL eqNode r.cond s.cond && eqL eqObl r.obls s.obls)))
mutual
def eqP : PolD → PolD → Bool
  | .mk i1 s1 a1 t1 r1 k1 o1, .mk i2 s2 a2 t2 r2 k2 o2 => i1 == i2 && (s1 == s2 && (a1 == a2 && (eqT t1 t2 && (eqL eqObl o1 o2 && (eqL eqR r1 r2 && eqK k1 k2)))))
def eqK : List PolD → List PolD → Bool
  | [], [] => true
  | x :: a, y :: b => eqP x y && eqK a b
  | _, _ => false
end
theorem eqT_eq (a b : TgtD) : eqT a b = true ↔ a = b := eqL_eq fun x y => eqL_eq fun x y => eqL_eq eqMatch_eq
end Go.Bf
namespace Go.Proofs.YtdcchpbncckhlaaGreatDoor
open Go Go.Ab Go.Bf
theorem targets_ok (a b : TgtD) (h : Heap) : FnOK Tryz.prog 14 [tgtA a, tgtA b] h fun r h' => r = .v (.bool (eqT a b)) ∧ h' = h := by
  refine FnOK.body hU hm Tryz.func14 rfl (by kernel_rfl) 54 rfl [.tmp 4] rfl (Nat.le_of_ble_eq_true rfl) (fun hwf => ?_)
  cases d1 : ((a.length : Int) != (b.length : Int))
  case true =>
    have e1 : a.length ≠ b.length := by
      intro e; rw [e] at d1; simp at d1
    simp -implicitDefEqProofs only [go_sem, tgtA, List.length_map, d1]
    exact .same (.refl _) ⟨by rw [eqT, eqL_len e1]; rfl, rfl⟩
  have e1 : a.length = b.length := by have : (a.length : Int) = b.length := by simpa using d1
                                      omega
  have hwa := hwf (tgtA a) (by simp)
  simp only [tgtA, wfA, wf1, lim, List.length_map] at hwa
  simp -implicitDefEqProofs only [go_sem, tgtA, List.length_map, d1]
  refine .intro (fun m ρ h' => Ab.Sub h h' ∧ ∃ i : Nat, i ≤ a.length ∧ m = a.length - i ∧ (∀ j (h1 : j < a.length) (h2 : j < b.length), j < i → eqL (eqL eqMatch) a[j] b[j] = true) ∧ lk ρ 0 = some (.sl (a.map anyA) .no) ∧ lk ρ 1 = some (.sl (b.map anyA) .no) ∧ lk ρ 13 = some (.v (.int .i64 a.length)) ∧ lk ρ 14 = some (.v (.int .i64 i))) a.length ?_ ?_
  · refine ⟨.refl _, 0, by omega, rfl, fun j _ _ hj => (by omega), ?_, ?_, ?_, ?_⟩ <;> simp -implicitDefEqProofs only [go_sem]
  · rintro m ρ h' ⟨hs, i, hi, rfl, hc, r0, r1, r13, r14⟩
    simp -implicitDefEqProofs only [go_sem, r0, r1, r13, r14, List.length_map]
    refine .intro (fun e => ?_) (fun e => ?_)
    · have hlt : i < a.length := Int.ofNat_lt.1 (of_decide_eq_true e)
      have hlt2 : i < b.length := by omega
      have w1 : IntKind.i64.wrap ((i : Int) + 1) = ((i + 1 : Nat) : Int) := by rw [wr64 _ (by omega)]; omega
      simp -implicitDefEqProofs only [go_sem, r0, r1, r13, r14, List.length_map]
      refine ⟨.of (by kernel_rfl), ?_⟩
      refine .at i (by simpa using hlt) (by rw [List.getElem_map]; rfl) ?_
      simp -implicitDefEqProofs only [go_sem, r0, r1, r13, r14, List.getElem_map, anyA]
      refine .at i (by simpa using hlt2) (by rw [List.getElem_map]; rfl) ?_
      cases d2 : ((a[i].length : Int) != (b[i].length : Int))
      case true =>
        have e2 : a[i].length ≠ b[i].length := by
          intro e; rw [e] at d2; simp at d2
        simp -implicitDefEqProofs only [go_sem, r0, r1, r13, r14, List.getElem_map, anyA, List.length_map, d2]
        exact .mk _ (.refl _) hs ⟨by rw [eqT, eqL_at i hlt hlt2 (eqL_len e2)]; rfl, rfl⟩
      have e2 : a[i].length = b[i].length := by have : (a[i].length : Int) = b[i].length := by simpa using d2
                                                omega
      simp -implicitDefEqProofs only [go_sem, r0, r1, r13, r14, List.getElem_map, anyA, List.length_map, d2]
      refine .at i (by simpa using hlt) (by rw [List.getElem_map]; rfl) ?_
      simp -implicitDefEqProofs only [go_sem, r0, r1, r13, r14, List.getElem_map, anyA, List.length_map]
      refine LoopC.wf fun hwi => ?_
      have hwk := hwi 31 (.sl (a[i].map allA) .no) (by simp -implicitDefEqProofs only [go_sem])
      simp only [wfA, wf1, lim, List.length_map] at hwk
      refine .intro (fun m ρ h' => Ab.Sub h h' ∧ ∃ k : Nat, k ≤ a[i].length ∧ m = a[i].length - k ∧ (∀ j (h1 : j < a[i].length) (h2 : j < b[i].length), j < k → eqL eqMatch a[i][j] b[i][j] = true) ∧ lk ρ 5 = some (.v (.int .i64 i)) ∧ lk ρ 0 = some (.sl (a.map anyA) .no) ∧ lk ρ 1 = some (.sl (b.map anyA) .no) ∧ lk ρ 13 = some (.v (.int .i64 a.length)) ∧ lk ρ 14 = some (.v (.int .i64 i)) ∧ lk ρ 32 = some (.v (.int .i64 a[i].length)) ∧ lk ρ 33 = some (.v (.int .i64 k))) a[i].length ?_ ?_
      · refine ⟨hs, 0, by omega, rfl, fun j _ _ hj => (by omega), ?_, ?_, ?_, ?_, ?_, ?_, ?_⟩ <;> simp -implicitDefEqProofs only [go_sem, r0, r1, r13, r14]
      · rintro m ρ h' ⟨hs, k, hk, rfl, hck, r5, r0, r1, r13, r14, r32, r33⟩
        simp -implicitDefEqProofs only [go_sem, r0, r1, r5, r13, r14, r32, r33]
        refine .intro (fun e3 => ?_) (fun e3 => ?_)
        · have hkt : k < a[i].length := Int.ofNat_lt.1 (of_decide_eq_true e3)
          have hkt2 : k < b[i].length := by omega
          simp -implicitDefEqProofs only [go_sem, r0, r1, r5, r13, r14, r32, r33]
          refine .quiet (by kernel_rfl) ?_
          simp -implicitDefEqProofs only [go_sem, r0, r1, r5, r13, r14, r32, r33]
          refine .at i (by simpa using hlt) (by rw [List.getElem_map]; rfl) ?_
          simp -implicitDefEqProofs only [go_sem, r0, r1, r5, r13, r14, r32, r33, List.getElem_map, anyA]
          have w2 : IntKind.i64.wrap ((k : Int) + 1) = ((k + 1 : Nat) : Int) := by rw [wr64 _ (by omega)]; omega
          refine .at k (by simpa using hkt) (by rw [List.getElem_map]; rfl) ?_
          simp -implicitDefEqProofs only [go_sem, r0, r1, r5, r13, r14, r32, r33, List.getElem_map, allA]
          refine .at i (by simpa using hlt2) (by rw [List.getElem_map]; rfl) ?_
          simp -implicitDefEqProofs only [go_sem, r0, r1, r5, r13, r14, r32, r33, List.getElem_map, anyA]
          refine .at k (by simpa using hkt2) (by rw [List.getElem_map]; rfl) ?_
          simp -implicitDefEqProofs only [go_sem, r0, r1, r5, r13, r14, r32, r33, List.getElem_map, allA]
          have hsm := fun h => sameMatch_ok a[i][k] b[i][k] h
          simp only [allA] at hsm
          refine ⟨_, hsm _, ?_⟩
          cases d3 : eqL eqMatch a[i][k] b[i][k]
          · simp -implicitDefEqProofs only [go_sem, r0, r1, r5, r13, r14, r32, r33, d3]
            exact .mk _ (.refl _) hs ⟨by rw [eqT, eqL_at i hlt hlt2 (eqL_at k hkt hkt2 d3)]; rfl, rfl⟩
          · simp -implicitDefEqProofs only [go_sem, r0, r1, r5, r13, r14, r32, r33, d3, w2]
            refine ⟨_, ?_, hs, k + 1, by omega, rfl, fun j h1 h2 hj => ?_, ?_, ?_, ?_, ?_, ?_, ?_, ?_⟩
            · omega
            · by_cases hji : j = k
              · subst hji; exact d3
              · exact hck j h1 h2 (by omega)
            all_goals simp -implicitDefEqProofs only [go_sem, r0, r1, r5, r13, r14, r32, r33, w2]
        · have hge : k = a[i].length := by have := of_decide_eq_false e3; omega
          subst hge
          simp -implicitDefEqProofs only [go_sem, r0, r1, r5, r13, r14, r32, r33, w1]
          refine ⟨_, ?_, hs, i + 1, by omega, rfl, fun j h1 h2 hj => ?_, ?_, ?_, ?_, ?_⟩
          · omega
          · by_cases hji : j = i
            · subst hji; exact eqL_true e2 fun j h1 h2 => hck j h1 h2 h1
            · exact hc j h1 h2 (by omega)
          all_goals simp -implicitDefEqProofs only [go_sem, r0, r1, r13, r14, w1]
    · have hge : i = a.length := by have := of_decide_eq_false e; omega
      subst hge
      simp -implicitDefEqProofs only [go_sem, r0, r1, r13, r14]
      exact .mk _ (.refl _) hs ⟨by rw [eqT, eqL_true e1 fun j h1 h2 => hc j h1 h2 h1]; rfl, rfl⟩
end Go.Proofs.YtdcchpbncckhlaaGreatDoor

set_option linter.unusedSimpArgs false
set_option linter.unusedVariables false
namespace Go.Proofs.YtdcchpbncckhlaaGreatDoor
open Go Go.Ab Go.Bf
end Go.Proofs.YtdcchpbncckhlaaGreatDoor

set_option linter.unusedSimpArgs false
set_option linter.unusedVariables false
namespace Go.Proofs.YtdcchpbncckhlaaGreatDoor
open Go Go.Ab Go.Bf
theorem word_ok (n : Int) (i : Nat) (y : AV) (ws : List Txt) (h : Heap) (hy : SeqA 9 h y (ws.map AV.s)) (hn : n = i + 1) (hi : i < ws.length) (hl : i < 1000) :
    FnOK Tryz.prog 36 [.v (.int .i64 n), y] h fun r h' => r = .s ws[i] ∧ h' = h := by
  refine FnOK.body hU hm Tryz.func36 rfl (by kernel_rfl) 10 rfl [.tmp 4] rfl (Nat.le_of_ble_eq_true rfl) (fun hwf => ?_)
  have w1 : IntKind.i64.wrap (n - 1) = ((i : Nat) : Int) := by rw [wr64 _ (by omega)]; omega
  simp -implicitDefEqProofs only [go_sem, w1]
  refine hy.idx (s_cells ws) i rfl (by simpa using hi) u9 u9a fun p hp => ?_
  simp -implicitDefEqProofs only [go_sem, hp _, List.getElem_map]
  exact .same (.refl _) ⟨rfl, rfl⟩
theorem words_cat (n : Int) (h1 : 1 ≤ n) (h4 : n ≤ 4) : ∃ i : Nat, n = i + 1 ∧ ∃ hi : i < [[115, 117, 98, 106, 101, 99, 116], [97, 99, 116, 105, 111, 110], [99, 97, 115, 101], [101, 110, 118]].length, ([[115, 117, 98, 106, 101, 99, 116], [97, 99, 116, 105, 111, 110], [99, 97, 115, 101], [101, 110, 118]] : List Txt)[i]'hi = catW n := by
  rcases (by omega : n = 1 ∨ n = 2 ∨ n = 3 ∨ n = 4) with rfl | rfl | rfl | rfl
  · exact ⟨0, rfl, by decide, rfl⟩
  · exact ⟨1, rfl, by decide, rfl⟩
  · exact ⟨2, rfl, by decide, rfl⟩
  · exact ⟨3, rfl, by decide, rfl⟩
def attrS (a : AttrD) : Txt := if attrOK a then attrT a else []
theorem sattr_ok (a : AttrD) (h : Heap) : FnOK Tryz.prog 26 [attrA a] h fun r h' => r = .s (attrS a) ∧ h' = h := by
  refine FnOK.body hU hm Tryz.func26 rfl (by kernel_rfl) 20 rfl [.tmp 2] rfl (Nat.le_of_ble_eq_true rfl) (fun hwf => ?_)
  simp -implicitDefEqProofs only [go_sem, attrA]
  intro id hid
  simp -implicitDefEqProofs only [go_sem]
  refine (attr_ok a _).pthen ?_
  cases d1 : attrOK a
  · simp -implicitDefEqProofs only [go_sem, d1]
    exact .mk _ (.refl _) (.upd_new hid) ⟨by simp [attrS, d1, oneOr], rfl⟩
  have hle := attrT_le d1
  have hc : 1 ≤ a.cat ∧ a.cat ≤ 4 := by simp [attrOK] at d1; exact d1.1
  obtain ⟨i, hn, hi, hw⟩ := words_cat a.cat hc.1 hc.2
  simp -implicitDefEqProofs only [go_sem, d1]
  refine .quiet (by kernel_rfl) ?_
  simp -implicitDefEqProofs only [go_sem]
  refine ⟨_, word_ok a.cat i _ [[115, 117, 98, 106, 101, 99, 116], [97, 99, 116, 105, 111, 110], [99, 97, 115, 101], [101, 110, 118]] _ (.sl _ _) hn hi (by simp at hi; omega), ?_⟩
  rw [hw]
  have hl : lim = 9223372036854775808 := rfl
  have e0 : (attrT a).length ≤ 25 := hle
  unfold attrT at hle
  simp only [List.length_append, List.length_cons, List.length_nil] at hle
  have c1 : (catW a.cat).length + (0 + 1) < lim := by omega
  have c2 : (catW a.cat ++ [46]).length + a.name.length < lim := by simp only [List.length_append, List.length_cons, List.length_nil]; omega
  cases d2 : a.must
  · simp -implicitDefEqProofs only [go_sem, c1, c2, d2]
    exact .mk _ (.refl _) (.upd_new hid) ⟨by simp [attrS, attrT, d1, d2, oneOr], rfl⟩
  · have c3 : (catW a.cat ++ [46] ++ a.name).length + (0 + 1) < lim := by simp only [List.length_append, List.length_cons, List.length_nil]; omega
    simp -implicitDefEqProofs only [go_sem, c1, c2, c3, d2]
    exact .mk _ (.refl _) (.upd_new hid) ⟨by simp [attrS, attrT, d1, d2, oneOr], rfl⟩
end Go.Proofs.YtdcchpbncckhlaaGreatDoor

set_option linter.unusedSimpArgs false
set_option linter.unusedVariables false
namespace Go.Proofs.YtdcchpbncckhlaaGreatDoor
open Go Go.Ab Go.Bf
def Quoted : Prop := ∀ (s : Txt) (h : Heap), s.length ≤ 64 → FnOK Tryz.prog 52 [.s s] h fun r h' => r = .s (quoteT s) ∧ h' = h
def valS (v : ValD) : Txt := if valOK v then Bf.valT v else []
theorem vtext_ok (Q : Quoted) (v : ValD) (hi : inV v) (h : Heap) (ht : PowT h) : FnOK Tryz.prog 25 [valA v] h fun r h' => r = .s (valS v) ∧ h' = h := by
  refine FnOK.body hU hm Tryz.func25 rfl (by kernel_rfl) 33 rfl [.tmp 2] rfl (Nat.le_of_ble_eq_true rfl) (fun hwf => ?_)
  simp -implicitDefEqProofs only [go_sem, valA]
  intro id hid
  have ht2 : PowT (upd h id (some (.obj [.v (.int .i64 v.kind), .v (.int .i64 v.n), .s v.s] 44))) := ht.sub (.upd_new hid)
  simp -implicitDefEqProofs only [go_sem]
  refine (valRight_ok v _).pthen ?_
  cases d1 : valOK v
  · simp -implicitDefEqProofs only [go_sem, d1]
    exact .mk _ (.refl _) (.upd_new hid) ⟨by simp [valS, d1, oneOr], rfl⟩
  have hl : lim = 9223372036854775808 := rfl
  have hil := Lib.itoa_length_le v.n hi.1 hi.2
  cases k1 : (v.kind == 1)
  case true =>
    have e1 : v.kind = 1 := by simpa using k1
    simp -implicitDefEqProofs only [go_sem, d1, k1]
    refine (fbool_ok _ _).pthen ?_
    simp -implicitDefEqProofs only [go_sem]
    exact .mk _ (.refl _) (.upd_new hid) ⟨by simp [valS, d1, Bf.valT, e1, oneOr], rfl⟩
  have e1 : v.kind ≠ 1 := by simpa using k1
  cases k4 : (v.kind == 4)
  case true =>
    have e4 : v.kind = 4 := by simpa using k4
    simp -implicitDefEqProofs only [go_sem, d1, k1, k4]
    refine (itoa_ok _ _ hi ht2).pthen ?_
    have c1 : 0 + 1 + (Lib.itoa v.n).length < lim := by omega
    simp -implicitDefEqProofs only [go_sem, c1]
    exact .mk _ (.refl _) (.upd_new hid) ⟨by simp [valS, d1, Bf.valT, e4, oneOr], rfl⟩
  have e4 : v.kind ≠ 4 := by simpa using k4
  cases k5 : (v.kind == 5)
  case true =>
    have e5 : v.kind = 5 := by simpa using k5
    have hn : v.s.length ≤ 16 := by
      have := d1; unfold valOK at this; simp [e5] at this; exact nameOK_le this.2
    have c1 : 0 + 1 + v.s.length < lim := by omega
    simp -implicitDefEqProofs only [go_sem, d1, k1, k4, k5, c1]
    exact .mk _ (.refl _) (.upd_new hid) ⟨by simp [valS, d1, Bf.valT, e5, oneOr], rfl⟩
  have e5 : v.kind ≠ 5 := by simpa using k5
  cases k3 : (v.kind == 3)
  case true =>
    have e3 : v.kind = 3 := by simpa using k3
    have hn : v.s.length ≤ 64 := by
      have := d1; unfold valOK at this; simp [e3] at this; exact this.2
    simp -implicitDefEqProofs only [go_sem, d1, k1, k4, k5, k3]
    refine (Q _ _ hn).pthen ?_
    simp -implicitDefEqProofs only [go_sem]
    exact .mk _ (.refl _) (.upd_new hid) ⟨by simp [valS, d1, Bf.valT, e3, oneOr], rfl⟩
  have e3 : v.kind ≠ 3 := by simpa using k3
  simp -implicitDefEqProofs only [go_sem, d1, k1, k4, k5, k3]
  refine (itoa_ok _ _ hi ht2).pthen ?_
  simp -implicitDefEqProofs only [go_sem]
  exact .mk _ (.refl _) (.upd_new hid) ⟨by simp [valS, d1, Bf.valT, e1, e4, e5, e3, oneOr], rfl⟩
theorem words_op (n : Int) (h1 : 1 ≤ n) (h4 : n ≤ 3) : ∃ i : Nat, n = i + 1 ∧ ∃ hi : i < [[61], [60], [62]].length, ([[61], [60], [62]] : List Txt)[i]'hi = opW n := by
  rcases (by omega : n = 1 ∨ n = 2 ∨ n = 3) with rfl | rfl | rfl
  · exact ⟨0, rfl, by decide, rfl⟩
  · exact ⟨1, rfl, by decide, rfl⟩
  · exact ⟨2, rfl, by decide, rfl⟩
theorem all_ok (Q : Quoted) (l : List MatchD) (he : allE l = 0) (hi : inA l) (h : Heap) (ht : PowT h) : FnOK Tryz.prog 60 [allA l] h fun r h' => r = .s (allT l) ∧ h' = h := by
  refine FnOK.body hU hm Tryz.func60 rfl (by kernel_rfl) 32 rfl [.tmp 2] rfl (Nat.le_of_ble_eq_true rfl) (fun hwf => ?_)
  obtain ⟨_, hl8, hok⟩ := allE_zero he
  simp -implicitDefEqProofs only [go_sem, allA, List.length_map]
  refine .intro (fun m ρ h' => ∃ (i : Nat) (y : AV), WrA 9 h h' y (((l.take i).map matchT).map AV.s) ∧ i ≤ l.length ∧ m = l.length - i ∧ lk ρ 3 = some y ∧ lk ρ 6 = some (.sl (l.map matchA) .no) ∧ lk ρ 7 = some (.v (.int .i64 l.length)) ∧ lk ρ 8 = some (.v (.int .i64 i))) l.length ?_ ?_
  · refine ⟨0, _, .nil (.refl _), by omega, rfl, ?_, ?_, ?_, ?_⟩ <;> simp -implicitDefEqProofs only [go_sem]
  · rintro m ρ h' ⟨i, y, hy, hil, rfl, r3, r6, r7, r8⟩
    simp -implicitDefEqProofs only [go_sem, r3, r6, r7, r8]
    refine .intro (fun e => ?_) (fun e => ?_)
    · have hlt : i < l.length := Int.ofNat_lt.1 (of_decide_eq_true e)
      have w1 : IntKind.i64.wrap ((i : Int) + 1) = ((i + 1 : Nat) : Int) := by rw [wr64 _ (by omega)]; omega
      have hmk := matchOK_cases (hok l[i] (List.getElem_mem hlt))
      have hin := hi l[i] (List.getElem_mem hlt)
      obtain ⟨j, hn, hj, hw⟩ := words_op l[i].op hmk.2.1 hmk.2.2.1
      have ha := attrT_le hmk.1
      have hv := valT_le hmk.2.2.2 hin.1 hin.2
      have ho := opW_le l[i].op
      have hlim : lim = 9223372036854775808 := rfl
      simp -implicitDefEqProofs only [go_sem, r3, r6, r7, r8]
      refine .at i (by simpa using hlt) (by rw [List.getElem_map]; rfl) ?_
      simp -implicitDefEqProofs only [go_sem, r3, r6, r7, r8, List.getElem_map, matchA]
      intro id hid
      have hyb := hy.base hid (some (.obj [.v (.int .i64 l[i].attr.cat), .s l[i].attr.name, .v (.bool l[i].attr.must), .v (.int .i64 l[i].op), .v (.int .i64 l[i].val.kind), .v (.int .i64 l[i].val.n), .s l[i].val.s] 60))
      simp -implicitDefEqProofs only [go_sem, r3, r6, r7, r8]
      obtain ⟨hb, ehb⟩ : ∃ hb, upd h' id (some (.obj [.v (.int .i64 l[i].attr.cat), .s l[i].attr.name, .v (.bool l[i].attr.must), .v (.int .i64 l[i].op), .v (.int .i64 l[i].val.kind), .v (.int .i64 l[i].val.n), .s l[i].val.s] 60)) = hb := ⟨_, rfl⟩
      have hbid : hb id = some (.obj [.v (.int .i64 l[i].attr.cat), .s l[i].attr.name, .v (.bool l[i].attr.must), .v (.int .i64 l[i].op), .v (.int .i64 l[i].val.kind), .v (.int .i64 l[i].val.n), .s l[i].val.s] 60) := by rw [← ehb]; exact upd_same ..
      rw [ehb] at hyb ⊢
      have htb : PowT hb := (ht.sub (Sub.upd_new (hy.1.none hid))).sub hyb.1
      refine .calls (hm1 id _) [0, 1, 2, 5, 6, 7, 11, 12, 3, 4, 8, 9, 10, 13, 14, 15, 16, 17] (.hm1 hbid) (by kernel_rfl) rfl ?_
      simp -implicitDefEqProofs only [go_sem, r3, r6, r7, r8, hm1_same]
      have e1 : attrS l[i].attr = attrT l[i].attr := by simp [attrS, hmk.1]
      have e2 : valS l[i].val = Bf.valT l[i].val := by simp [valS, hmk.2.2.2]
      have hsa := sattr_ok l[i].attr hb
      rw [e1] at hsa
      have hsv := vtext_ok Q l[i].val hin hb htb
      rw [e2] at hsv
      have hsw := word_ok l[i].op j (.sl [.s [61], .s [60], .s [62]] .full) [[61], [60], [62]] hb (.sl _ _) hn hj (by simp at hj; omega)
      rw [hw] at hsw
      refine hsa.pthen ?_
      refine ⟨.hm1 hbid, ?_⟩
      have c1 : (attrT l[i].attr).length + (0 + 1) < lim := by omega
      simp -implicitDefEqProofs only [go_sem, r3, r6, r7, r8, hm1_same, c1]
      refine hsw.pthen ?_
      refine ⟨.hm1 hbid, ?_⟩
      have c2 : (attrT l[i].attr ++ [32]).length + (opW l[i].op).length < lim := by simp only [List.length_append, List.length_cons, List.length_nil]; omega
      have c3 : (attrT l[i].attr ++ [32] ++ opW l[i].op).length + (0 + 1) < lim := by simp only [List.length_append, List.length_cons, List.length_nil]; omega
      have c4 : (attrT l[i].attr ++ [32] ++ opW l[i].op ++ [32]).length + (Bf.valT l[i].val).length < lim := by simp only [List.length_append, List.length_cons, List.length_nil]; omega
      simp -implicitDefEqProofs only [go_sem, r3, r6, r7, r8, hm1_same, c2, c3]
      refine hsv.pthen ?_
      refine ⟨.hm1 hbid, ?_⟩
      simp -implicitDefEqProofs only [go_sem, r3, r6, r7, r8, hm1_same, c4]
      refine hyb.app (zs := [.s (matchT l[i])]) (s_cells _) (s_cells [matchT l[i]]) u9 (by rw [u9b]; decide) u9f u9n (fun k hk => hk) (by rw [u9b]; simp; omega) fun z' h2 hz' => ?_
      refine ⟨fun j b hj => ((Sub.hm1 (upd_same ..)).trans hz'.1) j b hj, ?_⟩
      simp -implicitDefEqProofs only [go_sem, r3, r6, r7, r8, w1]
      refine ⟨_, ?_, i + 1, z', ?_, by omega, rfl, ?_, ?_, ?_, ?_⟩
      · omega
      · rw [List.take_succ_eq_append_getElem hlt, List.map_append, List.map_append]
        exact hz'.less (Sub.upd_new (hy.1.none hid))
      all_goals simp -implicitDefEqProofs only [go_sem, r3, r6, r7, r8, w1]
    · have hge : i = l.length := by have := of_decide_eq_false e; omega
      subst hge
      rw [List.take_length] at hy
      have hj := join_le (l.map matchT) [44, 32] 8 222 (by simpa using hl8) fun x hx => by
        obtain ⟨m, hm, rfl⟩ := List.mem_map.1 hx
        have := matchOK_cases (hok m hm)
        exact matchT_le this.1 (valT_le this.2.2.2 (hi m hm).1 (hi m hm).2)
      simp only [List.length_cons, List.length_nil] at hj
      simp -implicitDefEqProofs only [go_sem, r3, r6, r7, r8]
      refine (join_ok y (l.map matchT) [44, 32] _ hy.seq (by omega) (by simp; omega)).pthen ?_
      simp -implicitDefEqProofs only [go_sem]
      exact .mk _ (.refl _) hy.1 ⟨rfl, rfl⟩
end Go.Proofs.YtdcchpbncckhlaaGreatDoor

set_option linter.unusedSimpArgs false
set_option linter.unusedVariables false
namespace Go.Proofs.YtdcchpbncckhlaaGreatDoor
open Go Go.Ab Go.Bf
theorem starget_ok (Q : Quoted) (l : TgtD) (he : tgtE l = 0) (hi : inT l) (h : Heap) (ht : PowT h) : FnOK Tryz.prog 37 [tgtA l] h fun r h' => r = .s (tgtT l) ∧ h' = h := by
  refine FnOK.body hU hm Tryz.func37 rfl (by kernel_rfl) 41 rfl [.tmp 2] rfl (Nat.le_of_ble_eq_true rfl) (fun hwf => ?_)
  obtain ⟨hl8, hok⟩ := tgtE_zero he
  have hlim : lim = 9223372036854775808 := rfl
  cases d0 : ((l.length : Int) == 0)
  case true =>
    have e0 : l = [] := by have : (l.length : Int) = 0 := by simpa using d0
                           exact List.length_eq_zero_iff.1 (by omega)
    simp -implicitDefEqProofs only [go_sem, tgtA, List.length_map, d0]
    exact .same (.refl _) ⟨by simp [tgtT, e0, oneOr], rfl⟩
  have e0 : l ≠ [] := by rintro rfl; simp at d0
  simp -implicitDefEqProofs only [go_sem, tgtA, List.length_map, d0]
  refine .intro (fun m ρ h' => ∃ (i : Nat) (y : AV), WrA 9 h h' y (((l.take i).map anyT).map AV.s) ∧ i ≤ l.length ∧ m = l.length - i ∧ lk ρ 3 = some y ∧ lk ρ 12 = some (.sl (l.map anyA) .no) ∧ lk ρ 13 = some (.v (.int .i64 l.length)) ∧ lk ρ 14 = some (.v (.int .i64 i))) l.length ?_ ?_
  · refine ⟨0, _, .nil (.refl _), by omega, rfl, ?_, ?_, ?_, ?_⟩ <;> simp -implicitDefEqProofs only [go_sem]
  · rintro m ρ h' ⟨i, y, hy, hil, rfl, r3, r12, r13, r14⟩
    simp -implicitDefEqProofs only [go_sem, r3, r12, r13, r14]
    refine .intro (fun e => ?_) (fun e => ?_)
    · have hlt : i < l.length := Int.ofNat_lt.1 (of_decide_eq_true e)
      have w1 : IntKind.i64.wrap ((i : Int) + 1) = ((i + 1 : Nat) : Int) := by rw [wr64 _ (by omega)]; omega
      obtain ⟨x, ex⟩ : ∃ x, l[i] = x := ⟨_, rfl⟩
      have hax : anyE x = 0 := by rw [← ex]; exact hok _ (List.getElem_mem hlt)
      have hix : inY x := by rw [← ex]; exact hi _ (List.getElem_mem hlt)
      obtain ⟨_, hx8, hxo⟩ := anyE_zero hax
      simp -implicitDefEqProofs only [go_sem, r3, r12, r13, r14]
      refine .at i (by simpa using hlt) (by rw [List.getElem_map]; rfl) ?_
      simp -implicitDefEqProofs only [go_sem, r3, r12, r13, r14, List.getElem_map, ex, anyA, List.length_map]
      refine .intro (fun m ρ h2 => ∃ (k : Nat) (z : AV), WrA 9 h' h2 z (((x.take k).map allT).map AV.s) ∧ k ≤ x.length ∧ m = x.length - k ∧ lk ρ 6 = some z ∧ lk ρ 18 = some (.sl (x.map allA) .no) ∧ lk ρ 19 = some (.v (.int .i64 x.length)) ∧ lk ρ 20 = some (.v (.int .i64 k)) ∧
        lk ρ 3 = some y ∧ lk ρ 12 = some (.sl (l.map anyA) .no) ∧ lk ρ 13 = some (.v (.int .i64 l.length)) ∧ lk ρ 14 = some (.v (.int .i64 i))) x.length ?_ ?_
      · refine ⟨0, _, .nil (.refl _), by omega, rfl, ?_, ?_, ?_, ?_, ?_, ?_, ?_, ?_⟩ <;> simp -implicitDefEqProofs only [go_sem, r3, r12, r13, r14]
      · rintro m ρ h2 ⟨k, z, hz, hkl, rfl, r6, r18, r19, r20, r3, r12, r13, r14⟩
        simp -implicitDefEqProofs only [go_sem, r3, r12, r13, r14, r6, r18, r19, r20]
        refine .intro (fun e2 => ?_) (fun e2 => ?_)
        · have hkt : k < x.length := Int.ofNat_lt.1 (of_decide_eq_true e2)
          have w2 : IntKind.i64.wrap ((k : Int) + 1) = ((k + 1 : Nat) : Int) := by rw [wr64 _ (by omega)]; omega
          simp -implicitDefEqProofs only [go_sem, r3, r12, r13, r14, r6, r18, r19, r20]
          refine .at k (by simpa using hkt) (by rw [List.getElem_map]; rfl) ?_
          simp -implicitDefEqProofs only [go_sem, r3, r12, r13, r14, r6, r18, r19, r20, List.getElem_map, allA]
          have hal := all_ok Q x[k] (hxo _ (List.getElem_mem hkt)) (hix _ (List.getElem_mem hkt)) h2 ((ht.sub hy.1).sub hz.1)
          simp only [allA] at hal
          refine hal.pthen ?_
          simp -implicitDefEqProofs only [go_sem, r3, r12, r13, r14, r6, r18, r19, r20]
          refine hz.app (zs := [.s (allT x[k])]) (s_cells _) (s_cells [allT x[k]]) u9 (by rw [u9b]; decide) u9f u9n (fun k hk => hk) (by rw [u9b]; simp; omega) fun z' h3 hz' => ?_
          simp -implicitDefEqProofs only [go_sem, r3, r12, r13, r14, r6, r18, r19, r20, w2]
          refine ⟨_, ?_, k + 1, z', ?_, by omega, rfl, ?_, ?_, ?_, ?_, ?_, ?_, ?_, ?_⟩
          · omega
          · rw [List.take_succ_eq_append_getElem hkt, List.map_append, List.map_append]
            exact hz'
          all_goals simp -implicitDefEqProofs only [go_sem, r3, r12, r13, r14, r6, r18, r19, r20, w2]
        · have hge : k = x.length := by have := of_decide_eq_false e2; omega
          subst hge
          rw [List.take_length] at hz
          have hj := join_le (x.map allT) [32, 111, 114, 32] 8 1792 (by simpa using hx8) fun s hs => by
            obtain ⟨m, hm, rfl⟩ := List.mem_map.1 hs
            exact allT_le (hxo m hm) (hix m hm)
          simp only [List.length_cons, List.length_nil] at hj
          have hy2 := hy.sub hz.1
          simp -implicitDefEqProofs only [go_sem, r3, r12, r13, r14, r6, r18, r19, r20]
          refine (join_ok z (x.map allT) [32, 111, 114, 32] _ hz.seq (by omega) (by simp; omega)).pthen ?_
          have c1 : 0 + 1 + (Lib.join (x.map allT) [32, 111, 114, 32]).length < lim := by omega
          have c2 : ([40] ++ Lib.join (x.map allT) [32, 111, 114, 32]).length + (0 + 1) < lim := by simp only [List.length_append, List.length_cons, List.length_nil]; omega
          simp -implicitDefEqProofs only [go_sem, r3, r12, r13, r14, r6, r18, r19, r20, c1, c2]
          refine ⟨by omega, ?_⟩
          refine hy2.app (zs := [.s (40 :: (Lib.join (x.map allT) [32, 111, 114, 32] ++ [41]))]) (s_cells _) (s_cells [40 :: (Lib.join (x.map allT) [32, 111, 114, 32] ++ [41])]) u9 (by rw [u9b]; decide) u9f u9n (fun k hk => hk) (by rw [u9b]; simp; omega) fun y' h3 hy' => ?_
          simp -implicitDefEqProofs only [go_sem, r3, r12, r13, r14, r6, r18, r19, r20, w1]
          refine ⟨_, ?_, i + 1, y', ?_, by omega, rfl, ?_, ?_, ?_, ?_⟩
          · omega
          · rw [List.take_succ_eq_append_getElem hlt, List.map_append, List.map_append, ex]
            exact hy'
          all_goals simp -implicitDefEqProofs only [go_sem, r3, r12, r13, r14, r6, r18, r19, r20, w1]
    · have hge : i = l.length := by have := of_decide_eq_false e; omega
      subst hge
      rw [List.take_length] at hy
      have hj := join_le (l.map anyT) [32, 97, 110, 100, 32] 8 14370 (by simpa using hl8) fun s hs => by
        obtain ⟨m, hm, rfl⟩ := List.mem_map.1 hs
        exact anyT_le (hok m hm) (hi m hm)
      simp only [List.length_cons, List.length_nil] at hj
      simp -implicitDefEqProofs only [go_sem, r3, r12, r13, r14]
      refine (join_ok y (l.map anyT) [32, 97, 110, 100, 32] _ hy.seq (by omega) (by simp; omega)).pthen ?_
      have c1 : 0 + 1 + 1 + 1 + 1 + 1 + 1 + (Lib.join (l.map anyT) [32, 97, 110, 100, 32]).length < lim := by omega
      simp -implicitDefEqProofs only [go_sem, c1]
      exact .mk _ (.refl _) hy.1 ⟨by simp [tgtT, e0, oneOr], rfl⟩
theorem words_on (n : Int) (h1 : 1 ≤ n) (h4 : n ≤ 2) : ∃ i : Nat, n = i + 1 ∧ ∃ hi : i < [[112, 101, 114, 109, 105, 116], [100, 101, 110, 121]].length, ([[112, 101, 114, 109, 105, 116], [100, 101, 110, 121]] : List Txt)[i]'hi = onW n := by
  rcases (by omega : n = 1 ∨ n = 2) with rfl | rfl
  · exact ⟨0, rfl, by decide, rfl⟩
  · exact ⟨1, rfl, by decide, rfl⟩
theorem words_duty (n : Int) (h1 : 1 ≤ n) (h4 : n ≤ 4) : ∃ i : Nat, n = i + 1 ∧ ∃ hi : i < [[108, 111, 103], [114, 101, 100, 97, 99, 116], [114, 101, 118, 105, 101, 119], [110, 111, 116, 105, 102, 121]].length, ([[108, 111, 103], [114, 101, 100, 97, 99, 116], [114, 101, 118, 105, 101, 119], [110, 111, 116, 105, 102, 121]] : List Txt)[i]'hi = dutyW n := by
  rcases (by omega : n = 1 ∨ n = 2 ∨ n = 3 ∨ n = 4) with rfl | rfl | rfl | rfl
  · exact ⟨0, rfl, by decide, rfl⟩
  · exact ⟨1, rfl, by decide, rfl⟩
  · exact ⟨2, rfl, by decide, rfl⟩
  · exact ⟨3, rfl, by decide, rfl⟩
theorem oblOK_cases {o : OblD} (h : oblOK o = true) : 1 ≤ o.on ∧ o.on ≤ 2 ∧ 1 ≤ o.kind ∧ o.kind ≤ 4 ∧ nameOK o.arg = true := by
  simp only [oblOK, Bool.and_eq_true, decide_eq_true_eq] at h
  exact ⟨h.1.1.1.1, h.1.1.1.2, h.1.1.2, h.1.2, h.2⟩
theorem sduties_ok (l : List OblD) (he : oblsE l = 0) (h : Heap) : FnOK Tryz.prog 39 [oblsA l] h fun r h' => r = .s (oblsT l) ∧ h' = h := by
  refine FnOK.body hU hm Tryz.func39 rfl (by kernel_rfl) 31 rfl [.tmp 2] rfl (Nat.le_of_ble_eq_true rfl) (fun hwf => ?_)
  obtain ⟨hl8, hok⟩ := oblsE_zero he
  have hlim : lim = 9223372036854775808 := rfl
  simp -implicitDefEqProofs only [go_sem, oblsA, List.length_map]
  refine .intro (fun m ρ h' => Ab.Sub h h' ∧ ∃ (i : Nat), i ≤ l.length ∧ m = l.length - i ∧ lk ρ 3 = some (.s (((l.take i).map oblT).flatten)) ∧ lk ρ 6 = some (.sl (l.map oblA) .no) ∧ lk ρ 7 = some (.v (.int .i64 l.length)) ∧ lk ρ 8 = some (.v (.int .i64 i))) l.length ?_ ?_
  · refine ⟨.refl _, 0, by omega, rfl, ?_, ?_, ?_, ?_⟩ <;> simp -implicitDefEqProofs only [go_sem] <;> rfl
  · rintro m ρ h' ⟨hs, i, hil, rfl, r3, r6, r7, r8⟩
    simp -implicitDefEqProofs only [go_sem, r3, r6, r7, r8]
    refine .intro (fun e => ?_) (fun e => ?_)
    · have hlt : i < l.length := Int.ofNat_lt.1 (of_decide_eq_true e)
      have w1 : IntKind.i64.wrap ((i : Int) + 1) = ((i + 1 : Nat) : Int) := by rw [wr64 _ (by omega)]; omega
      have hmk := oblOK_cases (hok l[i] (List.getElem_mem hlt))
      have hle := oblT_le (hok l[i] (List.getElem_mem hlt))
      obtain ⟨j, hn, hj, hw⟩ := words_on l[i].on hmk.1 hmk.2.1
      obtain ⟨j2, hn2, hj2, hw2⟩ := words_duty l[i].kind hmk.2.2.1 hmk.2.2.2.1
      have hpre := flatten_le ((l.take i).map oblT) 8 34 (by simp; omega) fun x hx => by
        obtain ⟨o, ho, rfl⟩ := List.mem_map.1 hx
        exact oblT_le (hok o (List.mem_of_mem_take ho))
      have hle2 := hle
      unfold oblT at hle
      simp only [List.length_append, List.length_cons, List.length_nil] at hle
      simp -implicitDefEqProofs only [go_sem, r3, r6, r7, r8]
      refine .at i (by simpa using hlt) (by rw [List.getElem_map]; rfl) ?_
      simp -implicitDefEqProofs only [go_sem, r3, r6, r7, r8, List.getElem_map, oblA]
      intro id hid
      simp -implicitDefEqProofs only [go_sem, r3, r6, r7, r8]
      refine .quiet (by kernel_rfl) ?_
      simp -implicitDefEqProofs only [go_sem, r3, r6, r7, r8]
      refine ⟨_, word_ok l[i].on j _ [[112, 101, 114, 109, 105, 116], [100, 101, 110, 121]] _ (.sl _ _) hn hj (by simp at hj; omega), ?_⟩
      rw [hw]
      have c1 : 0 + 1 + 1 + 1 + 1 + (onW l[i].on).length < lim := by omega
      have c2 : ([32, 111, 110, 32] ++ onW l[i].on).length + (0 + 1) < lim := by simp only [List.length_append, List.length_cons, List.length_nil]; omega
      simp -implicitDefEqProofs only [go_sem, r3, r6, r7, r8, c1, c2]
      refine ⟨by omega, ?_⟩
      refine ⟨_, word_ok l[i].kind j2 _ [[108, 111, 103], [114, 101, 100, 97, 99, 116], [114, 101, 118, 105, 101, 119], [110, 111, 116, 105, 102, 121]] _ (.sl _ _) hn2 hj2 (by simp at hj2; omega), ?_⟩
      rw [hw2]
      simp -implicitDefEqProofs only [go_sem, r3, r6, r7, r8, w1]
      simp only [List.length_append, List.length_cons, List.length_nil]
      refine ⟨by omega, by omega, by omega, by omega, ?_⟩
      refine ⟨_, ?_, hs.new hid _, i + 1, by omega, rfl, ?_, ?_, ?_, ?_⟩
      · omega
      · simp -implicitDefEqProofs only [go_sem]
        rw [List.take_succ_eq_append_getElem hlt, List.map_append, List.flatten_append]
        simp [oblT]
      all_goals simp -implicitDefEqProofs only [go_sem, r3, r6, r7, r8, w1]
    · have hge : i = l.length := by have := of_decide_eq_false e; omega
      subst hge
      rw [List.take_length] at r3
      simp -implicitDefEqProofs only [go_sem, r3, r6, r7, r8]
      exact .mk _ (.refl _) hs ⟨rfl, rfl⟩
end Go.Proofs.YtdcchpbncckhlaaGreatDoor

set_option linter.unusedSimpArgs false
set_option linter.unusedVariables false
namespace Go.Proofs.YtdcchpbncckhlaaGreatDoor
open Go Go.Ab Go.Bf
def fnWords : List Txt := [[111, 110, 101], [115, 105, 122, 101], [104, 97, 115], [101, 113], [108, 101, 115, 115], [97, 100, 100], [115, 117, 98], [109, 117, 108], [110, 111, 116], [97, 110, 100], [111, 114]]
theorem words_fn (n : Int) (h1 : 3 ≤ n) (h4 : n ≤ 13) : ∃ i : Nat, n - 2 = i + 1 ∧ ∃ hi : i < fnWords.length, fnWords[i]'hi = fnW n := by
  rcases (by omega : n = 3 ∨ n = 4 ∨ n = 5 ∨ n = 6 ∨ n = 7 ∨ n = 8 ∨ n = 9 ∨ n = 10 ∨ n = 11 ∨ n = 12 ∨ n = 13) with rfl | rfl | rfl | rfl | rfl | rfl | rfl | rfl | rfl | rfl | rfl
  · exact ⟨0, rfl, by decide, rfl⟩
  · exact ⟨1, rfl, by decide, rfl⟩
  · exact ⟨2, rfl, by decide, rfl⟩
  · exact ⟨3, rfl, by decide, rfl⟩
  · exact ⟨4, rfl, by decide, rfl⟩
  · exact ⟨5, rfl, by decide, rfl⟩
  · exact ⟨6, rfl, by decide, rfl⟩
  · exact ⟨7, rfl, by decide, rfl⟩
  · exact ⟨8, rfl, by decide, rfl⟩
  · exact ⟨9, rfl, by decide, rfl⟩
  · exact ⟨10, rfl, by decide, rfl⟩
theorem function_ok (op : Int) (h1 : 3 ≤ op) (h2 : op ≤ 13) (h : Heap) : FnOK Tryz.prog 27 [.v (.int .i64 op)] h fun r h' => r = .tup [.s (fnW op), .v (.int .i64 (arity op : Nat))] ∧ h' = h := by
  refine FnOK.body hU hm Tryz.func27 rfl (by kernel_rfl) 22 rfl [.tmp 2, .tmp 3] rfl (Nat.le_of_ble_eq_true rfl) (fun hwf => ?_)
  obtain ⟨i, hn, hi, hw⟩ := words_fn op h1 h2
  have w1 : IntKind.i64.wrap (op - 3) = op - 3 := wr64 _ (by omega)
  have w2 : IntKind.i64.wrap (op - 3 + 1) = op - 2 := by rw [wr64 _ (by omega)]; omega
  simp -implicitDefEqProofs only [go_sem, w1, w2]
  have hwd := word_ok (op - 2) i (.sl [.s [111, 110, 101], .s [115, 105, 122, 101], .s [104, 97, 115], .s [101, 113], .s [108, 101, 115, 115], .s [97, 100, 100], .s [115, 117, 98], .s [109, 117, 108], .s [110, 111, 116], .s [97, 110, 100], .s [111, 114]] .full) fnWords h (.sl _ _) hn hi (by simp [fnWords] at hi; omega)
  rw [hw] at hwd
  refine hwd.pthen ?_
  cases k3 : (op == 3) <;> cases k4 : (op == 4) <;> cases k11 : (op == 11)
  all_goals
    simp -implicitDefEqProofs only [go_sem, k3, k4, k11]
    refine .same (.refl _) ⟨?_, rfl⟩
    simp only [beq_iff_eq, beq_eq_false_iff_ne] at k3 k4 k11
    simp [arity, k3, k4, k11, oneOr]
def exprS (l : List NodeD) : Txt := if l = [] ∨ exprE l ≠ 0 then [] else exprT l
theorem sexpr_ok (Q : Quoted) (l : List NodeD) (hi : inL l) (h : Heap) (ht : PowT h) : FnOK Tryz.prog 12 [condA l] h fun r h' => r = .s (exprS l) ∧ h' = h := by
  refine FnOK.body hU hm Tryz.func12 rfl (by kernel_rfl) 71 rfl [.tmp 2] rfl (Nat.le_of_ble_eq_true rfl) (fun hwf => ?_)
  have hlim : lim = 9223372036854775808 := rfl
  cases d0 : ((l.length : Int) == 0)
  case true =>
    have e0 : l = [] := by have : (l.length : Int) = 0 := by simpa using d0
                           exact List.length_eq_zero_iff.1 (by omega)
    simp -implicitDefEqProofs only [go_sem, condA, List.length_map, d0]
    exact .same (.refl _) ⟨by simp [exprS, e0, oneOr], rfl⟩
  have e0 : l ≠ [] := by rintro rfl; simp at d0
  simp -implicitDefEqProofs only [go_sem, condA, List.length_map, d0]
  have hex := expr_ok l h
  simp only [condA] at hex
  refine hex.pthen ?_
  cases d1 : (exprE l != 0)
  case true =>
    have e1 : exprE l ≠ 0 := by simpa using d1
    simp -implicitDefEqProofs only [go_sem, condA, List.length_map, d0, d1]
    exact .same (.refl _) ⟨by simp [exprS, e1, oneOr], rfl⟩
  have e1 : exprE l = 0 := by simpa using d1
  obtain ⟨hl32, hfin⟩ := exprE_zero e1 e0
  simp -implicitDefEqProofs only [go_sem, condA, List.length_map, d0, d1]
  refine .intro (fun m ρ h' => ∃ (i : Nat) (y : AV), WrA 9 h h' y (((l.take i).foldl Bf.stepT []).map AV.s) ∧ i ≤ l.length ∧ m = l.length - i ∧ lk ρ 3 = some y ∧ lk ρ 18 = some (.sl (l.map nodeA) .no) ∧ lk ρ 19 = some (.v (.int .i64 l.length)) ∧ lk ρ 20 = some (.v (.int .i64 i))) l.length ?_ ?_
  · refine ⟨0, _, .nil (.refl _), by omega, rfl, ?_, ?_, ?_, ?_⟩ <;> simp -implicitDefEqProofs only [go_sem]
  · rintro m ρ h' ⟨i, y, hy, hil, rfl, r3, r18, r19, r20⟩
    simp -implicitDefEqProofs only [go_sem, r3, r18, r19, r20]
    refine .intro (fun e => ?_) (fun e => ?_)
    · have hlt : i < l.length := Int.ofNat_lt.1 (of_decide_eq_true e)
      have w1 : IntKind.i64.wrap ((i : Int) + 1) = ((i + 1 : Nat) : Int) := by rw [wr64 _ (by omega)]; omega
      obtain ⟨bs, hbs⟩ := exprE_take e1 i
      obtain ⟨bs', hbs'⟩ := exprE_take e1 (i + 1)
      have hstep : stepD bs l[i] = some bs' := by
        rw [stepsD_split [] _ i, List.take_take, Nat.min_eq_left (by omega), hbs, List.take_succ_eq_append_getElem hlt, List.drop_append_of_le_length (by simp; omega), List.drop_of_length_le (by simp; omega)] at hbs'
        simp only [List.nil_append, stepsD] at hbs'
        cases hs : stepD bs l[i] with
        | none => rw [hs] at hbs'; cases hbs'
        | some b2 => rw [hs] at hbs'; exact hbs'
      obtain ⟨st, est⟩ : ∃ st, (l.take i).foldl Bf.stepT [] = st := ⟨_, rfl⟩
      obtain ⟨g1, g2⟩ := stepsT_tot (l.take i) [] bs [] hbs (fun n hn => hi n (List.mem_of_mem_take hn)) rfl
      rw [est] at g1 g2 hy
      have g3 : tot st ≤ 6240 := by
        have : (l.take i).length ≤ 32 := by simp; omega
        have : tot ([] : List Txt) = 0 := rfl
        omega
      have hnext : ∀ z, (l.take (i + 1)).foldl Bf.stepT [] = z ↔ Bf.stepT st l[i] = z := fun z => by
        rw [List.take_succ_eq_append_getElem hlt, List.foldl_append, est]; rfl
      have hin := hi l[i] (List.getElem_mem hlt)
      have hstl : st.length ≤ 6240 := by unfold tot at g3; omega
      simp -implicitDefEqProofs only [go_sem, r3, r18, r19, r20]
      refine .at i (by simpa using hlt) (by rw [List.getElem_map]; rfl) ?_
      simp -implicitDefEqProofs only [go_sem, r3, r18, r19, r20, List.getElem_map, nodeA]
      intro id hid
      have hyb := hy.sub (Sub.upd_new (k := some (.obj [.v (.int .i64 l[i].op), .v (.int .i64 l[i].val.kind), .v (.int .i64 l[i].val.n), .s l[i].val.s, .v (.int .i64 l[i].attr.cat), .s l[i].attr.name, .v (.bool l[i].attr.must)] 48)) hid)
      rcases stepD_some hstep with ⟨k1, h1, _⟩ | ⟨k2, h1, _⟩ | ⟨k3, k13, h1, _⟩
      · have t1 : (l[i].op == 1) = true := by simp [k1]
        simp -implicitDefEqProofs only [go_sem, r3, r18, r19, r20, t1]
        have hv := vtext_ok Q l[i].val hin _ (ht.sub hyb.1)
        simp only [valA, valS, h1, if_true] at hv
        refine hv.pthen ?_
        simp -implicitDefEqProofs only [go_sem, r3, r18, r19, r20, t1]
        refine hyb.app (zs := [.s (Bf.valT l[i].val)]) (s_cells _) (s_cells [Bf.valT l[i].val]) u9 (by rw [u9b]; decide) u9f u9n (fun k hk => hk) (by rw [u9b]; simp; omega) fun z' h2 hz' => ?_
        simp -implicitDefEqProofs only [go_sem, r3, r18, r19, r20, t1, w1]
        refine ⟨_, ?_, i + 1, z', ?_, by omega, rfl, ?_, ?_, ?_, ?_⟩
        · omega
        · rw [(hnext _).2 rfl, Bf.stepT, if_pos k1, List.map_append]
          exact hz'
        all_goals simp -implicitDefEqProofs only [go_sem, r3, r18, r19, r20, w1]
      · have t1 : (l[i].op == 1) = false := by simp [k2]
        have t2 : (l[i].op == 2) = true := by simp [k2]
        simp -implicitDefEqProofs only [go_sem, r3, r18, r19, r20, t1, t2]
        have hv := sattr_ok l[i].attr (upd h' id (some (.obj [.v (.int .i64 l[i].op), .v (.int .i64 l[i].val.kind), .v (.int .i64 l[i].val.n), .s l[i].val.s, .v (.int .i64 l[i].attr.cat), .s l[i].attr.name, .v (.bool l[i].attr.must)] 48)))
        simp only [attrA, attrS, h1, if_true] at hv
        refine hv.pthen ?_
        simp -implicitDefEqProofs only [go_sem, r3, r18, r19, r20, t1, t2]
        refine hyb.app (zs := [.s (attrT l[i].attr)]) (s_cells _) (s_cells [attrT l[i].attr]) u9 (by rw [u9b]; decide) u9f u9n (fun k hk => hk) (by rw [u9b]; simp; omega) fun z' h2 hz' => ?_
        simp -implicitDefEqProofs only [go_sem, r3, r18, r19, r20, t1, t2, w1]
        refine ⟨_, ?_, i + 1, z', ?_, by omega, rfl, ?_, ?_, ?_, ?_⟩
        · omega
        · rw [(hnext _).2 rfl, Bf.stepT, if_neg (by omega), if_pos k2, List.map_append]
          exact hz'
        all_goals simp -implicitDefEqProofs only [go_sem, r3, r18, r19, r20, w1]
      · have t1 : (l[i].op == 1) = false := by simp; omega
        have t2 : (l[i].op == 2) = false := by simp; omega
        have hle : arity l[i].op ≤ st.length := by rw [g1]; exact h1
        have w2 : IntKind.i64.wrap ((st.length : Int) - ((arity l[i].op : Nat) : Int)) = ((st.length - arity l[i].op : Nat) : Int) := by rw [wr64 _ (by omega)]; omega
        have hft := fn_tot st (st.length - arity l[i].op) (fnW l[i].op) (fnW_le _)
        have hdl : (Lib.join (st.drop (st.length - arity l[i].op)) [32]).length ≤ 20000 := by
          rw [tot_append, tot_one] at hft
          simp only [List.length_append, List.length_cons, List.length_nil] at hft
          omega
        have hfl := fnW_le l[i].op
        simp -implicitDefEqProofs only [go_sem, r3, r18, r19, r20, t1, t2]
        refine (function_ok l[i].op k3 k13 _).pthen ?_
        simp -implicitDefEqProofs only [go_sem, r3, r18, r19, r20, t1, t2, hyb.len, List.length_map, w2]
        refine ⟨by omega, by omega, ?_⟩
        refine hyb.from (x := .i64) (s_cells _) (st.length - arity l[i].op) (by simp -implicitDefEqProofs only [go_sem]) rfl (by simp) u9 fun z hz => ?_
        rw [← List.map_drop] at hz
        simp -implicitDefEqProofs only [go_sem, r3, r18, r19, r20, t1, t2]
        refine (join_ok z (st.drop (st.length - arity l[i].op)) [32] _ hz (by omega) (by simp; omega)).pthen ?_
        simp -implicitDefEqProofs only [go_sem, r3, r18, r19, r20, t1, t2]
        refine ⟨by simp only [List.length_append, List.length_cons, List.length_nil]; omega, by simp only [List.length_append, List.length_cons, List.length_nil]; omega, ?_⟩
        refine hyb.cut (x := .i64) (st.length - arity l[i].op) (by simp -implicitDefEqProofs only [go_sem]) rfl (by simp) u9 fun z2 hz2 => ?_
        rw [← List.map_take] at hz2
        simp -implicitDefEqProofs only [go_sem, r3, r18, r19, r20, t1, t2]
        refine hz2.app (zs := [.s (40 :: (fnW l[i].op ++ [32] ++ Lib.join (st.drop (st.length - arity l[i].op)) [32] ++ [41]))]) (s_cells _) (s_cells [40 :: (fnW l[i].op ++ [32] ++ Lib.join (st.drop (st.length - arity l[i].op)) [32] ++ [41])]) u9 (by rw [u9b]; decide) u9f u9n (fun k hk => hk) (by rw [u9b]; simp; omega) fun z' h2 hz' => ?_
        simp -implicitDefEqProofs only [go_sem, r3, r18, r19, r20, t1, t2, w1]
        refine ⟨_, ?_, i + 1, z', ?_, by omega, rfl, ?_, ?_, ?_, ?_⟩
        · omega
        · rw [(hnext _).2 rfl, Bf.stepT, if_neg (by omega), if_neg (by omega), List.map_append]
          exact hz'
        all_goals simp -implicitDefEqProofs only [go_sem, r3, r18, r19, r20, w1]
    · have hge : i = l.length := by have := of_decide_eq_false e; omega
      subst hge
      rw [List.take_length] at hy
      have hone := (stepsT_tot l [] [false] [] hfin hi rfl).1
      obtain ⟨s, es⟩ := List.length_eq_one_iff.1 hone
      rw [es] at hy
      simp -implicitDefEqProofs only [go_sem, r3, r18, r19, r20]
      refine hy.idx (s_cells [s]) 0 rfl (by simp) u9 u9a fun p hp => ?_
      simp -implicitDefEqProofs only [go_sem, r3, hp _, List.map_cons, List.map_nil, List.getElem_cons_zero]
      exact .mk _ (.refl _) hy.1 ⟨by simp [exprS, e0, e1, exprT, es, oneOr], rfl⟩
end Go.Proofs.YtdcchpbncckhlaaGreatDoor
