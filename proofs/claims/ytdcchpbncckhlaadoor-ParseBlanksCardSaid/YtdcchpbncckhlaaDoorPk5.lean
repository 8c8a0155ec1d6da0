/- The law ParseBlanks: pack 5 of its texts. -/
import Derived.Test.YtdcchpbncckhlaaDoorPk1
import Derived.Test.YtdcchpbncckhlaaDoorPk2
import Derived.Test.YtdcchpbncckhlaaDoorPk3
import Derived.Test.YtdcchpbncckhlaaDoorPk4
set_option linter.unusedSimpArgs false
set_option linter.unusedVariables false
namespace Go.Proofs.YtdcchpbncckhlaaDoor
open Go Go.Ab Go.Bf
def parsedA (x : PolD × Int × Int) : AV := .tup [polA x.1, .v (.int .i64 x.2.1), .v (.int .i64 x.2.2)]
theorem weak_flat3 (a b c : AV) (h : Weak a b) (d : AV) : Weak (.tup [a, c, d]) (.tup [b, c, d]) := .tup _ _ rfl fun i h1 h2 => by
  rcases i with _ | _ | _ | i
  · exact h
  · exact .refl _
  · exact .refl _
  · simp at h1; omega
set_option maxRecDepth 20000 in
theorem parse_ok (s : Txt) (h : Heap) (he : ErrT h) : FnOK Tryd.prog 26 [.s s] h fun r h' => r = parsedA (parseD s) ∧ h' = h := by
  refine FnOK.body hU hm Tryd.func26 rfl (by kernel_rfl) 61 rfl [.cell 2 43, .tmp 3, .tmp 4] rfl (Nat.le_of_ble_eq_true rfl) (fun hwf => ?_)
  simp -implicitDefEqProofs only [go_sem]
  intro i2 hi2
  simp -implicitDefEqProofs only [go_sem]
  refine (all_tok_ok s _ (he.sub (.upd_new hi2))).pthen ?_
  cases el : lexD s with
  | bad e a =>
    have e1 := lexD_bad el
    have d1 : (e != 0) = true := by
      have : e ≠ 0 := by rcases e1.1 with h | h <;> rw [h] <;> decide
      simpa using this
    have efin : parseD s = (zeroP, e, a) := by simp only [parseD, el]
    simp -implicitDefEqProofs only [go_sem, lexR, d1]
    rw [efin]
    exact .mk (h' := h) (parsedA (zeroP, e, a)) (weak_flat3 _ _ _ (weak_flat _) _) (.upd_new hi2) ⟨rfl, rfl⟩
  | ok ts =>
    have efin : parseD s = parseT s ts := by simp only [parseD, el]
    have hw := wfP_start el 0 0 0
    have hpol := policy_p 3 1 rfl ⟨ts, 0, 0, 0, 0⟩ hw (Nat.zero_le _)
    have hap := ah_pol 4 ⟨ts, 0, 0, 0, 0⟩ hw
    obtain ⟨⟨⟨pid, pset, palg, ptgt, prules, pkids, pobls⟩, st1⟩, ep⟩ : ∃ x, polF 4 ⟨ts, 0, 0, 0, 0⟩ = x := ⟨_, rfl⟩
    rw [show 3 + 1 = 4 from rfl, ep] at hpol
    rw [ep] at hap
    simp only [polA] at hpol hap
    simp only [parseT, ep] at efin
    simp -implicitDefEqProofs only [go_sem, lexR]
    intro i8 hi8
    have n8 := ne_upd hi8
    have m82 : ¬ i8 = i2 := n8
    have m28 : ¬ i2 = i8 := fun e => n8 e.symm
    have hh8 : h i8 = none := by rw [upd_other _ _ n8] at hi8; exact hi8
    simp -implicitDefEqProofs only [go_sem, upd_ne, m82, m28]
    refine hpol.go (upd_same ..) ?_
    rw [upd_upd]
    simp -implicitDefEqProofs only [go_sem, upd_ne, m82, m28]
    intro i9 hi9
    have n9 := ne_upd hi9
    have hi9' := hi9
    rw [upd_other _ _ n9] at hi9'
    have n92 := ne_upd hi9'
    have m92 : ¬ i9 = i2 := n92
    have m29 : ¬ i2 = i9 := fun e => n92 e.symm
    have m98 : ¬ i9 = i8 := n9
    have m89 : ¬ i8 = i9 := fun e => n9 e.symm
    have hh9 : h i9 = none := by rw [upd_other _ _ n92] at hi9'; exact hi9'
    have c9 : ∀ (f : Heap) (x y : Option Blk), upd (upd f i8 x) i9 y = upd (upd f i9 y) i8 x := fun f x y => upd_comm f x y n9.symm
    simp -implicitDefEqProofs only [go_sem, c9, upd_ne, m82, m28, m92, m29, m98, m89]
    refine (here_ok st1 hap.1).run ?_
    have subs : ∀ x y z, Sub h (upd (upd (upd h i2 x) i9 y) i8 z) := fun x y z => ((Sub.upd_new hi2).put hh9 _).put hh8 _
    cases d1 : ((hereD st1).kind != 7)
    · have k1 : (hereD st1).kind = 7 := by simpa using d1
      have e2 : (if (hereD st1).kind = 7 then st1 else stuckD st1) = st1 := if_pos k1
      simp -implicitDefEqProofs only [go_sem, c9, tokA, d1, upd_ne, m82, m28, m92, m29, m98, m89]
      cases db : ((st1).bad == 0)
      · have eb : (st1).bad ≠ 0 := by simpa using db
        simp -implicitDefEqProofs only [go_sem, c9, upd_ne, m82, m28, m92, m29, m98, m89, PO, db]
        have eend : endP s (.mk pid pset palg ptgt prules pkids pobls, st1) = st1 := by
          unfold endP; simp only [e2]; rw [if_neg (fun h => eb h.1)]
        have hbb : (st1).bad ≠ 0 := eb
        have dn : ((st1).bad != 0) = true := by simpa using hbb
        simp -implicitDefEqProofs only [go_sem, c9, upd_ne, m82, m28, m92, m29, m98, m89, PO, dn]
        refine .calls (hm1 i8 (PO (st1))) [0, 1, 2, 3, 4, 5, 6, 7, 8, 9, 10, 11] (.hm1 (upd_same ..)) (by kernel_rfl) rfl ?_
        simp -implicitDefEqProofs only [go_sem, c9, upd_ne, m82, m28, m92, m29, m98, m89, PO, hm1_same]
        refine ⟨.hm1 ((upd_other _ _ n8).trans (upd_same ..)), ?_⟩
        have efin2 : parseD s = (zeroP, (st1).bad, (st1).place) := by rw [efin, if_neg (by rw [eend]; exact hbb), eend]
        rw [efin2]
        exact .mk (h' := h) (parsedA (zeroP, (st1).bad, (st1).place)) (weak_flat3 _ _ _ (weak_flat _) _) (Sub.put (subs _ _ _) hi2 _) ⟨rfl, rfl⟩
      · have eb : (st1).bad = 0 := by simpa using db
        simp -implicitDefEqProofs only [go_sem, c9, upd_ne, m82, m28, m92, m29, m98, m89, PO, db]
        refine (right_ok (.mk pid pset palg ptgt prules pkids pobls) _).pthen ?_
        cases dr : (rightE (.mk pid pset palg ptgt prules pkids pobls) != 0)
        · have er : rightE (.mk pid pset palg ptgt prules pkids pobls) = 0 := by simpa using dr
          have dn : ((st1).bad != 0) = false := by simpa using eb
          simp -implicitDefEqProofs only [go_sem, c9, upd_ne, m82, m28, m92, m29, m98, m89, PO, dr, dn]
          have eend : endP s (.mk pid pset palg ptgt prules pkids pobls, st1) = st1 := by
            unfold endP; simp only [e2]; rw [if_neg (fun h => h.2 er)]
          have efin2 : parseD s = (.mk pid pset palg ptgt prules pkids pobls, 0, 0) := by rw [efin, if_pos (by rw [eend]; exact eb)]
          rw [efin2]
          exact .mk (h' := h) (parsedA (.mk pid pset palg ptgt prules pkids pobls, 0, 0)) (weak_flat3 _ _ _ (weak_flat _) _) (Sub.put (subs _ _ _) hi2 _) ⟨rfl, rfl⟩
        · have er : rightE (.mk pid pset palg ptgt prules pkids pobls) ≠ 0 := by simpa using dr
          simp -implicitDefEqProofs only [go_sem, c9, upd_ne, m82, m28, m92, m29, m98, m89, PO, dr]
          refine (wrong_ok (st1) 5 s.length).run ?_
          have eend : endP s (.mk pid pset palg ptgt prules pkids pobls, st1) = wrongD (st1) 5 s.length := by
            unfold endP; simp only [e2]; rw [if_pos ⟨eb, er⟩]
          have hwb : wrongD (st1) 5 s.length = { (st1) with bad := 5, place := s.length } := by rw [wrongD, if_pos eb]
          have hbb : (wrongD (st1) 5 s.length).bad ≠ 0 := by rw [hwb]; show (5 : Int) ≠ 0; decide
          have dn : ((wrongD (st1) 5 s.length).bad != 0) = true := by simpa using hbb
          simp -implicitDefEqProofs only [go_sem, c9, upd_ne, m82, m28, m92, m29, m98, m89, PO, dn]
          refine .calls (hm1 i8 (PO (wrongD (st1) 5 s.length))) [0, 1, 2, 3, 4, 5, 6, 7, 8, 9, 10, 11] (.hm1 (upd_same ..)) (by kernel_rfl) rfl ?_
          simp -implicitDefEqProofs only [go_sem, c9, upd_ne, m82, m28, m92, m29, m98, m89, PO, hm1_same]
          refine ⟨.hm1 ((upd_other _ _ n8).trans (upd_same ..)), ?_⟩
          have efin2 : parseD s = (zeroP, (wrongD (st1) 5 s.length).bad, (wrongD (st1) 5 s.length).place) := by rw [efin, if_neg (by rw [eend]; exact hbb), eend]
          rw [efin2]
          exact .mk (h' := h) (parsedA (zeroP, (wrongD (st1) 5 s.length).bad, (wrongD (st1) 5 s.length).place)) (weak_flat3 _ _ _ (weak_flat _) _) (Sub.put (subs _ _ _) hi2 _) ⟨rfl, rfl⟩
    · have k1 : (hereD st1).kind ≠ 7 := by simpa using d1
      have e2 : (if (hereD st1).kind = 7 then st1 else stuckD st1) = stuckD st1 := if_neg k1
      simp -implicitDefEqProofs only [go_sem, c9, tokA, d1, upd_ne, m82, m28, m92, m29, m98, m89]
      refine (stuck_ok st1 hap.1).run ?_
      simp -implicitDefEqProofs only [go_sem, c9, upd_ne, m82, m28, m92, m29, m98, m89]
      cases db : ((stuckD st1).bad == 0)
      · have eb : (stuckD st1).bad ≠ 0 := by simpa using db
        simp -implicitDefEqProofs only [go_sem, c9, upd_ne, m82, m28, m92, m29, m98, m89, PO, db]
        have eend : endP s (.mk pid pset palg ptgt prules pkids pobls, st1) = stuckD st1 := by
          unfold endP; simp only [e2]; rw [if_neg (fun h => eb h.1)]
        have hbb : (stuckD st1).bad ≠ 0 := eb
        have dn : ((stuckD st1).bad != 0) = true := by simpa using hbb
        simp -implicitDefEqProofs only [go_sem, c9, upd_ne, m82, m28, m92, m29, m98, m89, PO, dn]
        refine .calls (hm1 i8 (PO (stuckD st1))) [0, 1, 2, 3, 4, 5, 6, 7, 8, 9, 10, 11] (.hm1 (upd_same ..)) (by kernel_rfl) rfl ?_
        simp -implicitDefEqProofs only [go_sem, c9, upd_ne, m82, m28, m92, m29, m98, m89, PO, hm1_same]
        refine ⟨.hm1 ((upd_other _ _ n8).trans (upd_same ..)), ?_⟩
        have efin2 : parseD s = (zeroP, (stuckD st1).bad, (stuckD st1).place) := by rw [efin, if_neg (by rw [eend]; exact hbb), eend]
        rw [efin2]
        exact .mk (h' := h) (parsedA (zeroP, (stuckD st1).bad, (stuckD st1).place)) (weak_flat3 _ _ _ (weak_flat _) _) (Sub.put (subs _ _ _) hi2 _) ⟨rfl, rfl⟩
      · have eb : (stuckD st1).bad = 0 := by simpa using db
        simp -implicitDefEqProofs only [go_sem, c9, upd_ne, m82, m28, m92, m29, m98, m89, PO, db]
        refine (right_ok (.mk pid pset palg ptgt prules pkids pobls) _).pthen ?_
        cases dr : (rightE (.mk pid pset palg ptgt prules pkids pobls) != 0)
        · have er : rightE (.mk pid pset palg ptgt prules pkids pobls) = 0 := by simpa using dr
          have dn : ((stuckD st1).bad != 0) = false := by simpa using eb
          simp -implicitDefEqProofs only [go_sem, c9, upd_ne, m82, m28, m92, m29, m98, m89, PO, dr, dn]
          have eend : endP s (.mk pid pset palg ptgt prules pkids pobls, st1) = stuckD st1 := by
            unfold endP; simp only [e2]; rw [if_neg (fun h => h.2 er)]
          have efin2 : parseD s = (.mk pid pset palg ptgt prules pkids pobls, 0, 0) := by rw [efin, if_pos (by rw [eend]; exact eb)]
          rw [efin2]
          exact .mk (h' := h) (parsedA (.mk pid pset palg ptgt prules pkids pobls, 0, 0)) (weak_flat3 _ _ _ (weak_flat _) _) (Sub.put (subs _ _ _) hi2 _) ⟨rfl, rfl⟩
        · have er : rightE (.mk pid pset palg ptgt prules pkids pobls) ≠ 0 := by simpa using dr
          simp -implicitDefEqProofs only [go_sem, c9, upd_ne, m82, m28, m92, m29, m98, m89, PO, dr]
          refine (wrong_ok (stuckD st1) 5 s.length).run ?_
          have eend : endP s (.mk pid pset palg ptgt prules pkids pobls, st1) = wrongD (stuckD st1) 5 s.length := by
            unfold endP; simp only [e2]; rw [if_pos ⟨eb, er⟩]
          have hwb : wrongD (stuckD st1) 5 s.length = { (stuckD st1) with bad := 5, place := s.length } := by rw [wrongD, if_pos eb]
          have hbb : (wrongD (stuckD st1) 5 s.length).bad ≠ 0 := by rw [hwb]; show (5 : Int) ≠ 0; decide
          have dn : ((wrongD (stuckD st1) 5 s.length).bad != 0) = true := by simpa using hbb
          simp -implicitDefEqProofs only [go_sem, c9, upd_ne, m82, m28, m92, m29, m98, m89, PO, dn]
          refine .calls (hm1 i8 (PO (wrongD (stuckD st1) 5 s.length))) [0, 1, 2, 3, 4, 5, 6, 7, 8, 9, 10, 11] (.hm1 (upd_same ..)) (by kernel_rfl) rfl ?_
          simp -implicitDefEqProofs only [go_sem, c9, upd_ne, m82, m28, m92, m29, m98, m89, PO, hm1_same]
          refine ⟨.hm1 ((upd_other _ _ n8).trans (upd_same ..)), ?_⟩
          have efin2 : parseD s = (zeroP, (wrongD (stuckD st1) 5 s.length).bad, (wrongD (stuckD st1) 5 s.length).place) := by rw [efin, if_neg (by rw [eend]; exact hbb), eend]
          rw [efin2]
          exact .mk (h' := h) (parsedA (zeroP, (wrongD (stuckD st1) 5 s.length).bad, (wrongD (stuckD st1) 5 s.length).place)) (weak_flat3 _ _ _ (weak_flat _) _) (Sub.put (subs _ _ _) hi2 _) ⟨rfl, rfl⟩
end Go.Proofs.YtdcchpbncckhlaaDoor

set_option linter.unusedSimpArgs false
set_option linter.unusedVariables false
namespace Go.Bf
open Go Go.Ab
def eqMatch (a b : MatchD) : Bool := a.attr.cat == b.attr.cat && (a.attr.name == b.attr.name && (a.attr.must == b.attr.must && (a.op == b.op && (a.val.kind == b.val.kind && (a.val.n == b.val.n && a.val.s == b.val.s)))))
def eqNode (a b : NodeD) : Bool := a.op == b.op && (a.val.kind == b.val.kind && (a.val.n == b.val.n && (a.val.s == b.val.s && (a.attr.cat == b.attr.cat && (a.attr.name == b.attr.name && a.attr.must == b.attr.must)))))
def eqObl (a b : OblD) : Bool := a.on == b.on && (a.kind == b.kind && a.arg == b.arg)
def eqL {α : Type} (f : α → α → Bool) : List α → List α → Bool
  | [], [] => true
  | x :: a, y :: b => f x y && eqL f a b
  | _, _ => false
theorem eqL_true {α : Type} {f : α → α → Bool} : ∀ {a b : List α}, a.length = b.length → (∀ j (h1 : j < a.length) (h2 : j < b.length), f a[j] b[j] = true) → eqL f a b = true
  | [], [], _, _ => rfl
  | x :: a, y :: b, hl, h => by
    simp only [eqL, Bool.and_eq_true]
    exact ⟨h 0 (by simp) (by simp), eqL_true (by simpa using hl) fun j h1 h2 => h (j + 1) (by simpa using h1) (by simpa using h2)⟩
theorem eqL_len {α : Type} {f : α → α → Bool} : ∀ {a b : List α}, a.length ≠ b.length → eqL f a b = false
  | [], [], h => (h rfl).elim
  | [], _ :: _, _ => rfl
  | _ :: _, [], _ => rfl
  | x :: a, y :: b, h => by
    simp only [eqL]
    rw [eqL_len (fun e => h (by simp [e])), Bool.and_false]
theorem eqL_at {α : Type} {f : α → α → Bool} : ∀ {a b : List α} (j : Nat) (h1 : j < a.length) (h2 : j < b.length), f a[j] b[j] = false → eqL f a b = false
  | x :: a, y :: b, 0, _, _, h => by simp only [List.getElem_cons_zero] at h; simp [eqL, h]
  | x :: a, y :: b, j + 1, h1, h2, h => by
    simp only [eqL]
    rw [eqL_at j (by simpa using h1) (by simpa using h2) (by simpa using h), Bool.and_false]
theorem eqL_eq {α : Type} {f : α → α → Bool} (hf : ∀ x y, f x y = true ↔ x = y) : ∀ {a b : List α}, eqL f a b = true ↔ a = b
  | [], [] => by simp [eqL]
  | [], _ :: _ => by simp [eqL]
  | _ :: _, [] => by simp [eqL]
  | x :: a, y :: b => by simp [eqL, hf, eqL_eq hf]
theorem eqMatch_eq (a b : MatchD) : eqMatch a b = true ↔ a = b := by
  obtain ⟨⟨a1, a2, a3⟩, a4, a5, a6, a7⟩ := a
  obtain ⟨⟨b1, b2, b3⟩, b4, b5, b6, b7⟩ := b
  simp [eqMatch, and_assoc]
theorem eqNode_eq (a b : NodeD) : eqNode a b = true ↔ a = b := by
  obtain ⟨a4, ⟨a5, a6, a7⟩, ⟨a1, a2, a3⟩⟩ := a
  obtain ⟨b4, ⟨b5, b6, b7⟩, ⟨b1, b2, b3⟩⟩ := b
  simp [eqNode, and_assoc]
theorem eqObl_eq (a b : OblD) : eqObl a b = true ↔ a = b := by cases a; cases b; simp [eqObl]
end Go.Bf
namespace Go.Proofs.YtdcchpbncckhlaaDoor
open Go Go.Ab Go.Bf
theorem sameMatch_ok (a b : List MatchD) (h : Heap) : FnOK Tryd.prog 75 [allA a, allA b] h fun r h' => r = .v (.bool (eqL eqMatch a b)) ∧ h' = h := by
  refine FnOK.body hU hm Tryd.func75 rfl (by kernel_rfl) 26 rfl [.tmp 4] rfl (Nat.le_of_ble_eq_true rfl) (fun hwf => ?_)
  cases d1 : ((a.length : Int) != (b.length : Int))
  case true =>
    have e1 : a.length ≠ b.length := by
      intro e; rw [e] at d1; simp at d1
    simp -implicitDefEqProofs only [go_sem, allA, List.length_map, d1]
    exact .same (.refl _) ⟨by rw [eqL_len e1]; rfl, rfl⟩
  have e1 : a.length = b.length := by have : (a.length : Int) = b.length := by simpa using d1
                                      omega
  simp -implicitDefEqProofs only [go_sem, allA, List.length_map, d1]
  refine .intro (fun m ρ h' => Ab.Sub h h' ∧ ∃ i : Nat, i ≤ a.length ∧ m = a.length - i ∧ (∀ j (h1 : j < a.length) (h2 : j < b.length), j < i → eqMatch a[j] b[j] = true) ∧ lk ρ 0 = some (.sl (a.map matchA) .no) ∧ lk ρ 1 = some (.sl (b.map matchA) .no) ∧ lk ρ 5 = some (.v (.int .i64 i))) a.length ?_ ?_
  · refine ⟨.refl _, 0, by omega, rfl, fun j _ _ hj => (by omega), ?_, ?_, ?_⟩ <;> simp -implicitDefEqProofs only [go_sem]
  · rintro m ρ h' ⟨hs, i, hi, rfl, hc, r0, r1, r5⟩
    simp -implicitDefEqProofs only [go_sem, r0, r1, r5, List.length_map]
    refine .intro (fun e => ?_) (fun e => ?_)
    · have hlt : i < a.length := Int.ofNat_lt.1 (of_decide_eq_true e)
      have hlt2 : i < b.length := by omega
      have w1 : IntKind.i64.wrap ((i : Int) + 1) = ((i + 1 : Nat) : Int) := by
        have := hwf (allA a) (by simp)
        simp only [allA, wfA, wf1, lim, List.length_map] at this
        rw [wr64 _ (by omega)]; omega
      simp -implicitDefEqProofs only [go_sem, r0, r1, r5, List.length_map]
      refine ⟨.of (by kernel_rfl), ?_⟩
      refine .at i (by simpa using hlt) (by rw [List.getElem_map]; rfl) ?_
      simp -implicitDefEqProofs only [go_sem, r0, r1, r5, List.getElem_map, matchA]
      refine .at i (by simpa using hlt2) (by rw [List.getElem_map]; rfl) ?_
      simp -implicitDefEqProofs only [go_sem, r0, r1, r5, List.getElem_map, matchA]
      cases d3 : eqMatch a[i] b[i]
      · have d4 := d3
        simp only [eqMatch] at d4
        simp -implicitDefEqProofs only [go_sem, r0, r1, r5, d4]
        exact .mk _ (.refl _) hs ⟨by rw [eqL_at i hlt hlt2 d3]; rfl, rfl⟩
      · have d4 := d3
        simp only [eqMatch] at d4
        simp -implicitDefEqProofs only [go_sem, r0, r1, r5, d4, w1]
        refine ⟨_, ?_, hs, i + 1, by omega, rfl, fun j h1 h2 hj => ?_, ?_, ?_, ?_⟩
        · omega
        · by_cases hji : j = i
          · subst hji; exact d3
          · exact hc j h1 h2 (by omega)
        all_goals simp -implicitDefEqProofs only [go_sem, r0, r1, r5, w1]
    · have hge : i = a.length := by have := of_decide_eq_false e; omega
      subst hge
      simp -implicitDefEqProofs only [go_sem, r0, r1, r5]
      exact .mk _ (.refl _) hs ⟨by rw [eqL_true e1 fun j h1 h2 => hc j h1 h2 h1]; rfl, rfl⟩
theorem sameObl_ok (a b : List OblD) (h : Heap) : FnOK Tryd.prog 45 [oblsA a, oblsA b] h fun r h' => r = .v (.bool (eqL eqObl a b)) ∧ h' = h := by
  refine FnOK.body hU hm Tryd.func45 rfl (by kernel_rfl) 26 rfl [.tmp 4] rfl (Nat.le_of_ble_eq_true rfl) (fun hwf => ?_)
  cases d1 : ((a.length : Int) != (b.length : Int))
  case true =>
    have e1 : a.length ≠ b.length := by
      intro e; rw [e] at d1; simp at d1
    simp -implicitDefEqProofs only [go_sem, oblsA, List.length_map, d1]
    exact .same (.refl _) ⟨by rw [eqL_len e1]; rfl, rfl⟩
  have e1 : a.length = b.length := by have : (a.length : Int) = b.length := by simpa using d1
                                      omega
  simp -implicitDefEqProofs only [go_sem, oblsA, List.length_map, d1]
  refine .intro (fun m ρ h' => Ab.Sub h h' ∧ ∃ i : Nat, i ≤ a.length ∧ m = a.length - i ∧ (∀ j (h1 : j < a.length) (h2 : j < b.length), j < i → eqObl a[j] b[j] = true) ∧ lk ρ 0 = some (.sl (a.map oblA) .no) ∧ lk ρ 1 = some (.sl (b.map oblA) .no) ∧ lk ρ 5 = some (.v (.int .i64 i))) a.length ?_ ?_
  · refine ⟨.refl _, 0, by omega, rfl, fun j _ _ hj => (by omega), ?_, ?_, ?_⟩ <;> simp -implicitDefEqProofs only [go_sem]
  · rintro m ρ h' ⟨hs, i, hi, rfl, hc, r0, r1, r5⟩
    simp -implicitDefEqProofs only [go_sem, r0, r1, r5, List.length_map]
    refine .intro (fun e => ?_) (fun e => ?_)
    · have hlt : i < a.length := Int.ofNat_lt.1 (of_decide_eq_true e)
      have hlt2 : i < b.length := by omega
      have w1 : IntKind.i64.wrap ((i : Int) + 1) = ((i + 1 : Nat) : Int) := by
        have := hwf (oblsA a) (by simp)
        simp only [oblsA, wfA, wf1, lim, List.length_map] at this
        rw [wr64 _ (by omega)]; omega
      simp -implicitDefEqProofs only [go_sem, r0, r1, r5, List.length_map]
      refine ⟨.of (by kernel_rfl), ?_⟩
      refine .at i (by simpa using hlt) (by rw [List.getElem_map]; rfl) ?_
      simp -implicitDefEqProofs only [go_sem, r0, r1, r5, List.getElem_map, oblA]
      refine .at i (by simpa using hlt2) (by rw [List.getElem_map]; rfl) ?_
      simp -implicitDefEqProofs only [go_sem, r0, r1, r5, List.getElem_map, oblA]
      cases d3 : eqObl a[i] b[i]
      · have d4 := d3
        simp only [eqObl] at d4
        simp -implicitDefEqProofs only [go_sem, r0, r1, r5, d4]
        exact .mk _ (.refl _) hs ⟨by rw [eqL_at i hlt hlt2 d3]; rfl, rfl⟩
      · have d4 := d3
        simp only [eqObl] at d4
        simp -implicitDefEqProofs only [go_sem, r0, r1, r5, d4, w1]
        refine ⟨_, ?_, hs, i + 1, by omega, rfl, fun j h1 h2 hj => ?_, ?_, ?_, ?_⟩
        · omega
        · by_cases hji : j = i
          · subst hji; exact d3
          · exact hc j h1 h2 (by omega)
        all_goals simp -implicitDefEqProofs only [go_sem, r0, r1, r5, w1]
    · have hge : i = a.length := by have := of_decide_eq_false e; omega
      subst hge
      simp -implicitDefEqProofs only [go_sem, r0, r1, r5]
      exact .mk _ (.refl _) hs ⟨by rw [eqL_true e1 fun j h1 h2 => hc j h1 h2 h1]; rfl, rfl⟩
theorem sameNode_ok (a b : List NodeD) (h : Heap) : FnOK Tryd.prog 46 [condA a, condA b] h fun r h' => r = .v (.bool (eqL eqNode a b)) ∧ h' = h := by
  refine FnOK.body hU hm Tryd.func46 rfl (by kernel_rfl) 26 rfl [.tmp 4] rfl (Nat.le_of_ble_eq_true rfl) (fun hwf => ?_)
  cases d1 : ((a.length : Int) != (b.length : Int))
  case true =>
    have e1 : a.length ≠ b.length := by
      intro e; rw [e] at d1; simp at d1
    simp -implicitDefEqProofs only [go_sem, condA, List.length_map, d1]
    exact .same (.refl _) ⟨by rw [eqL_len e1]; rfl, rfl⟩
  have e1 : a.length = b.length := by have : (a.length : Int) = b.length := by simpa using d1
                                      omega
  simp -implicitDefEqProofs only [go_sem, condA, List.length_map, d1]
  refine .intro (fun m ρ h' => Ab.Sub h h' ∧ ∃ i : Nat, i ≤ a.length ∧ m = a.length - i ∧ (∀ j (h1 : j < a.length) (h2 : j < b.length), j < i → eqNode a[j] b[j] = true) ∧ lk ρ 0 = some (.sl (a.map nodeA) .no) ∧ lk ρ 1 = some (.sl (b.map nodeA) .no) ∧ lk ρ 5 = some (.v (.int .i64 i))) a.length ?_ ?_
  · refine ⟨.refl _, 0, by omega, rfl, fun j _ _ hj => (by omega), ?_, ?_, ?_⟩ <;> simp -implicitDefEqProofs only [go_sem]
  · rintro m ρ h' ⟨hs, i, hi, rfl, hc, r0, r1, r5⟩
    simp -implicitDefEqProofs only [go_sem, r0, r1, r5, List.length_map]
    refine .intro (fun e => ?_) (fun e => ?_)
    · have hlt : i < a.length := Int.ofNat_lt.1 (of_decide_eq_true e)
      have hlt2 : i < b.length := by omega
      have w1 : IntKind.i64.wrap ((i : Int) + 1) = ((i + 1 : Nat) : Int) := by
        have := hwf (condA a) (by simp)
        simp only [condA, wfA, wf1, lim, List.length_map] at this
        rw [wr64 _ (by omega)]; omega
      simp -implicitDefEqProofs only [go_sem, r0, r1, r5, List.length_map]
      refine ⟨.of (by kernel_rfl), ?_⟩
      refine .at i (by simpa using hlt) (by rw [List.getElem_map]; rfl) ?_
      simp -implicitDefEqProofs only [go_sem, r0, r1, r5, List.getElem_map, nodeA]
      refine .at i (by simpa using hlt2) (by rw [List.getElem_map]; rfl) ?_
      simp -implicitDefEqProofs only [go_sem, r0, r1, r5, List.getElem_map, nodeA]
      cases d3 : eqNode a[i] b[i]
      · have d4 := d3
        simp only [eqNode] at d4
        simp -implicitDefEqProofs only [go_sem, r0, r1, r5, d4]
        exact .mk _ (.refl _) hs ⟨by rw [eqL_at i hlt hlt2 d3]; rfl, rfl⟩
      · have d4 := d3
        simp only [eqNode] at d4
        simp -implicitDefEqProofs only [go_sem, r0, r1, r5, d4, w1]
        refine ⟨_, ?_, hs, i + 1, by omega, rfl, fun j h1 h2 hj => ?_, ?_, ?_, ?_⟩
        · omega
        · by_cases hji : j = i
          · subst hji; exact d3
          · exact hc j h1 h2 (by omega)
        all_goals simp -implicitDefEqProofs only [go_sem, r0, r1, r5, w1]
    · have hge : i = a.length := by have := of_decide_eq_false e; omega
      subst hge
      simp -implicitDefEqProofs only [go_sem, r0, r1, r5]
      exact .mk _ (.refl _) hs ⟨by rw [eqL_true e1 fun j h1 h2 => hc j h1 h2 h1]; rfl, rfl⟩
end Go.Proofs.YtdcchpbncckhlaaDoor

set_option linter.unusedSimpArgs false
set_option linter.unusedVariables false
namespace Go.Bf
open Go Go.Ab
def eqT (a b : TgtD) : Bool := eqL (eqL (eqL eqMatch)) a b
def eqR (r s : RuleD) : Bool := r.id == s.id && (r.deny == s.deny && (eqT r.tgt s.tgt && (eqL eqNode r.cond s.cond && eqL eqObl r.obls s.obls)))
mutual
def eqP : PolD → PolD → Bool
  | .mk i1 s1 a1 t1 r1 k1 o1, .mk i2 s2 a2 t2 r2 k2 o2 => i1 == i2 && (s1 == s2 && (a1 == a2 && (eqT t1 t2 && (eqL eqObl o1 o2 && (eqL eqR r1 r2 && eqK k1 k2)))))
def eqK : List PolD → List PolD → Bool
  | [], [] => true
  | x :: a, y :: b => eqP x y && eqK a b
  | _, _ => false
end
theorem eqK_eqL : ∀ a b : List PolD, eqK a b = eqL eqP a b
  | [], [] => rfl
  | [], _ :: _ => rfl
  | _ :: _, [] => rfl
  | x :: a, y :: b => by simp only [eqK, eqL, eqK_eqL a b]
theorem eqT_eq (a b : TgtD) : eqT a b = true ↔ a = b := eqL_eq fun x y => eqL_eq fun x y => eqL_eq eqMatch_eq
theorem eqR_eq (a b : RuleD) : eqR a b = true ↔ a = b := by
  obtain ⟨a1, a2, a3, a4, a5⟩ := a
  obtain ⟨b1, b2, b3, b4, b5⟩ := b
  simp [eqR, eqT_eq, eqL_eq eqNode_eq, eqL_eq eqObl_eq]
mutual
theorem eqP_eq : ∀ a b : PolD, eqP a b = true ↔ a = b
  | .mk i1 s1 a1 t1 r1 k1 o1, .mk i2 s2 a2 t2 r2 k2 o2 => by
    simp only [eqP, Bool.and_eq_true, beq_iff_eq, eqT_eq, eqL_eq eqObl_eq, eqL_eq eqR_eq, eqK_eq k1 k2, PolD.mk.injEq]
    constructor
    · rintro ⟨h1, h2, h3, h4, h5, h6, h7⟩; exact ⟨h1, h2, h3, h4, h6, h7, h5⟩
    · rintro ⟨h1, h2, h3, h4, h5, h6, h7⟩; exact ⟨h1, h2, h3, h4, h7, h5, h6⟩
theorem eqK_eq : ∀ a b : List PolD, eqK a b = true ↔ a = b
  | [], [] => by simp [eqK]
  | [], _ :: _ => by simp [eqK]
  | _ :: _, [] => by simp [eqK]
  | x :: a, y :: b => by simp [eqK, eqP_eq x y, eqK_eq a b]
end
end Go.Bf
namespace Go.Proofs.YtdcchpbncckhlaaDoor
open Go Go.Ab Go.Bf
theorem targets_ok (a b : TgtD) (h : Heap) : FnOK Tryd.prog 44 [tgtA a, tgtA b] h fun r h' => r = .v (.bool (eqT a b)) ∧ h' = h := by
  refine FnOK.body hU hm Tryd.func44 rfl (by kernel_rfl) 54 rfl [.tmp 4] rfl (Nat.le_of_ble_eq_true rfl) (fun hwf => ?_)
  cases d1 : ((a.length : Int) != (b.length : Int))
  case true =>
    have e1 : a.length ≠ b.length := by
      intro e; rw [e] at d1; simp at d1
    simp -implicitDefEqProofs only [go_sem, tgtA, List.length_map, d1]
    exact .same (.refl _) ⟨by rw [eqT, eqL_len e1]; rfl, rfl⟩
  have e1 : a.length = b.length := by have : (a.length : Int) = b.length := by simpa using d1
                                      omega
  have hwa := hwf (tgtA a) (by simp)
  simp only [tgtA, wfA, wf1, lim, List.length_map] at hwa
  simp -implicitDefEqProofs only [go_sem, tgtA, List.length_map, d1]
  refine .intro (fun m ρ h' => Ab.Sub h h' ∧ ∃ i : Nat, i ≤ a.length ∧ m = a.length - i ∧ (∀ j (h1 : j < a.length) (h2 : j < b.length), j < i → eqL (eqL eqMatch) a[j] b[j] = true) ∧ lk ρ 0 = some (.sl (a.map anyA) .no) ∧ lk ρ 1 = some (.sl (b.map anyA) .no) ∧ lk ρ 13 = some (.v (.int .i64 a.length)) ∧ lk ρ 14 = some (.v (.int .i64 i))) a.length ?_ ?_
  · refine ⟨.refl _, 0, by omega, rfl, fun j _ _ hj => (by omega), ?_, ?_, ?_, ?_⟩ <;> simp -implicitDefEqProofs only [go_sem]
  · rintro m ρ h' ⟨hs, i, hi, rfl, hc, r0, r1, r13, r14⟩
    simp -implicitDefEqProofs only [go_sem, r0, r1, r13, r14, List.length_map]
    refine .intro (fun e => ?_) (fun e => ?_)
    · have hlt : i < a.length := Int.ofNat_lt.1 (of_decide_eq_true e)
      have hlt2 : i < b.length := by omega
      have w1 : IntKind.i64.wrap ((i : Int) + 1) = ((i + 1 : Nat) : Int) := by rw [wr64 _ (by omega)]; omega
      simp -implicitDefEqProofs only [go_sem, r0, r1, r13, r14, List.length_map]
      refine ⟨.of (by kernel_rfl), ?_⟩
      refine .at i (by simpa using hlt) (by rw [List.getElem_map]; rfl) ?_
      simp -implicitDefEqProofs only [go_sem, r0, r1, r13, r14, List.getElem_map, anyA]
      refine .at i (by simpa using hlt2) (by rw [List.getElem_map]; rfl) ?_
      cases d2 : ((a[i].length : Int) != (b[i].length : Int))
      case true =>
        have e2 : a[i].length ≠ b[i].length := by
          intro e; rw [e] at d2; simp at d2
        simp -implicitDefEqProofs only [go_sem, r0, r1, r13, r14, List.getElem_map, anyA, List.length_map, d2]
        exact .mk _ (.refl _) hs ⟨by rw [eqT, eqL_at i hlt hlt2 (eqL_len e2)]; rfl, rfl⟩
      have e2 : a[i].length = b[i].length := by have : (a[i].length : Int) = b[i].length := by simpa using d2
                                                omega
      simp -implicitDefEqProofs only [go_sem, r0, r1, r13, r14, List.getElem_map, anyA, List.length_map, d2]
      refine .at i (by simpa using hlt) (by rw [List.getElem_map]; rfl) ?_
      simp -implicitDefEqProofs only [go_sem, r0, r1, r13, r14, List.getElem_map, anyA, List.length_map]
      refine LoopC.wf fun hwi => ?_
      have hwk := hwi 31 (.sl (a[i].map allA) .no) (by simp -implicitDefEqProofs only [go_sem])
      simp only [wfA, wf1, lim, List.length_map] at hwk
      refine .intro (fun m ρ h' => Ab.Sub h h' ∧ ∃ k : Nat, k ≤ a[i].length ∧ m = a[i].length - k ∧ (∀ j (h1 : j < a[i].length) (h2 : j < b[i].length), j < k → eqL eqMatch a[i][j] b[i][j] = true) ∧ lk ρ 5 = some (.v (.int .i64 i)) ∧ lk ρ 0 = some (.sl (a.map anyA) .no) ∧ lk ρ 1 = some (.sl (b.map anyA) .no) ∧ lk ρ 13 = some (.v (.int .i64 a.length)) ∧ lk ρ 14 = some (.v (.int .i64 i)) ∧ lk ρ 32 = some (.v (.int .i64 a[i].length)) ∧ lk ρ 33 = some (.v (.int .i64 k))) a[i].length ?_ ?_
      · refine ⟨hs, 0, by omega, rfl, fun j _ _ hj => (by omega), ?_, ?_, ?_, ?_, ?_, ?_, ?_⟩ <;> simp -implicitDefEqProofs only [go_sem, r0, r1, r13, r14]
      · rintro m ρ h' ⟨hs, k, hk, rfl, hck, r5, r0, r1, r13, r14, r32, r33⟩
        simp -implicitDefEqProofs only [go_sem, r0, r1, r5, r13, r14, r32, r33]
        refine .intro (fun e3 => ?_) (fun e3 => ?_)
        · have hkt : k < a[i].length := Int.ofNat_lt.1 (of_decide_eq_true e3)
          have hkt2 : k < b[i].length := by omega
          simp -implicitDefEqProofs only [go_sem, r0, r1, r5, r13, r14, r32, r33]
          refine .quiet (by kernel_rfl) ?_
          simp -implicitDefEqProofs only [go_sem, r0, r1, r5, r13, r14, r32, r33]
          refine .at i (by simpa using hlt) (by rw [List.getElem_map]; rfl) ?_
          simp -implicitDefEqProofs only [go_sem, r0, r1, r5, r13, r14, r32, r33, List.getElem_map, anyA]
          have w2 : IntKind.i64.wrap ((k : Int) + 1) = ((k + 1 : Nat) : Int) := by rw [wr64 _ (by omega)]; omega
          refine .at k (by simpa using hkt) (by rw [List.getElem_map]; rfl) ?_
          simp -implicitDefEqProofs only [go_sem, r0, r1, r5, r13, r14, r32, r33, List.getElem_map, allA]
          refine .at i (by simpa using hlt2) (by rw [List.getElem_map]; rfl) ?_
          simp -implicitDefEqProofs only [go_sem, r0, r1, r5, r13, r14, r32, r33, List.getElem_map, anyA]
          refine .at k (by simpa using hkt2) (by rw [List.getElem_map]; rfl) ?_
          simp -implicitDefEqProofs only [go_sem, r0, r1, r5, r13, r14, r32, r33, List.getElem_map, allA]
          have hsm := fun h => sameMatch_ok a[i][k] b[i][k] h
          simp only [allA] at hsm
          refine ⟨_, hsm _, ?_⟩
          cases d3 : eqL eqMatch a[i][k] b[i][k]
          · simp -implicitDefEqProofs only [go_sem, r0, r1, r5, r13, r14, r32, r33, d3]
            exact .mk _ (.refl _) hs ⟨by rw [eqT, eqL_at i hlt hlt2 (eqL_at k hkt hkt2 d3)]; rfl, rfl⟩
          · simp -implicitDefEqProofs only [go_sem, r0, r1, r5, r13, r14, r32, r33, d3, w2]
            refine ⟨_, ?_, hs, k + 1, by omega, rfl, fun j h1 h2 hj => ?_, ?_, ?_, ?_, ?_, ?_, ?_, ?_⟩
            · omega
            · by_cases hji : j = k
              · subst hji; exact d3
              · exact hck j h1 h2 (by omega)
            all_goals simp -implicitDefEqProofs only [go_sem, r0, r1, r5, r13, r14, r32, r33, w2]
        · have hge : k = a[i].length := by have := of_decide_eq_false e3; omega
          subst hge
          simp -implicitDefEqProofs only [go_sem, r0, r1, r5, r13, r14, r32, r33, w1]
          refine ⟨_, ?_, hs, i + 1, by omega, rfl, fun j h1 h2 hj => ?_, ?_, ?_, ?_, ?_⟩
          · omega
          · by_cases hji : j = i
            · subst hji; exact eqL_true e2 fun j h1 h2 => hck j h1 h2 h1
            · exact hc j h1 h2 (by omega)
          all_goals simp -implicitDefEqProofs only [go_sem, r0, r1, r13, r14, w1]
    · have hge : i = a.length := by have := of_decide_eq_false e; omega
      subst hge
      simp -implicitDefEqProofs only [go_sem, r0, r1, r13, r14]
      exact .mk _ (.refl _) hs ⟨by rw [eqT, eqL_true e1 fun j h1 h2 => hc j h1 h2 h1]; rfl, rfl⟩
end Go.Proofs.YtdcchpbncckhlaaDoor

set_option linter.unusedSimpArgs false
set_option linter.unusedVariables false
namespace Go.Proofs.YtdcchpbncckhlaaDoor
open Go Go.Ab Go.Bf
set_option maxRecDepth 100000 in
theorem policies_ok : ∀ (p q : PolD) (h : Heap), FnOK Tryd.prog 23 [polA p, polA q] h fun r h' => r = .v (.bool (eqP p q)) ∧ h' = h
  | .mk i1 s1 a1 t1 r1 k1 o1, .mk i2 s2 a2 t2 r2 k2 o2, h => by
    have ihk : ∀ (j : Nat) (hj : j < k1.length) (q : PolD) (h : Heap), FnOK Tryd.prog 23 [polA k1[j], polA q] h fun r h' => r = .v (.bool (eqP k1[j] q)) ∧ h' = h :=
      fun j hj q h => policies_ok k1[j] q h
    refine FnOK.body hU hm Tryd.func23 rfl (by kernel_rfl) 134 rfl [.tmp 4] rfl (Nat.le_of_ble_eq_true rfl) (fun hwf => ?_)
    have hlen : k1.length < 9223372036854775808 ∧ r1.length < 9223372036854775808 := by
      have := hwf (polA (.mk i1 s1 a1 t1 r1 k1 o1)) (by simp)
      simp only [polA, wfA] at this
      have g1 := this (.sl (kidsA k1) .no) (by simp)
      have g2 := this (.sl (r1.map ruleA) .no) (by simp)
      simp only [wf1, List.length_map, kidsA_eq] at g1 g2
      exact ⟨g1, g2⟩
    simp -implicitDefEqProofs only [go_sem, polA, tgtA, oblsA]
    intro ia hia
    simp -implicitDefEqProofs only [go_sem]
    intro ib hib
    have nab := ne_new hib
    have hs0 : Ab.Sub h (upd (upd h ia (some (.obj [.s i1, .v (.bool s1), .v (.int .i64 a1), .sl (t1.map anyA) .no, .sl (r1.map ruleA) .no, .sl (kidsA k1) .no, .sl (o1.map oblA) .no] 43))) ib (some (.obj [.s i2, .v (.bool s2), .v (.int .i64 a2), .sl (t2.map anyA) .no, .sl (r2.map ruleA) .no, .sl (kidsA k2) .no, .sl (o2.map oblA) .no] 43))) := (Sub.upd_new hia).trans (.upd_new hib)
    obtain ⟨hb, ehb⟩ : ∃ hb, upd (upd h ia (some (.obj [.s i1, .v (.bool s1), .v (.int .i64 a1), .sl (t1.map anyA) .no, .sl (r1.map ruleA) .no, .sl (kidsA k1) .no, .sl (o1.map oblA) .no] 43))) ib (some (.obj [.s i2, .v (.bool s2), .v (.int .i64 a2), .sl (t2.map anyA) .no, .sl (r2.map ruleA) .no, .sl (kidsA k2) .no, .sl (o2.map oblA) .no] 43)) = hb := ⟨_, rfl⟩
    have ga : hb ia = some (.obj [.s i1, .v (.bool s1), .v (.int .i64 a1), .sl (t1.map anyA) .no, .sl (r1.map ruleA) .no, .sl (kidsA k1) .no, .sl (o1.map oblA) .no] 43) := by rw [← ehb, upd_other _ _ nab.symm, upd_same]
    have gb : hb ib = some (.obj [.s i2, .v (.bool s2), .v (.int .i64 a2), .sl (t2.map anyA) .no, .sl (r2.map ruleA) .no, .sl (kidsA k2) .no, .sl (o2.map oblA) .no] 43) := by rw [← ehb, upd_same]
    rw [ehb] at hs0 ⊢
    have bad : eqP (.mk i1 s1 a1 t1 r1 k1 o1) (.mk i2 s2 a2 t2 r2 k2 o2) = false → (.v (.bool false) : AV) = .v (.bool (eqP (.mk i1 s1 a1 t1 r1 k1 o1) (.mk i2 s2 a2 t2 r2 k2 o2))) ∧ h = h := fun e => ⟨by rw [e], rfl⟩
    cases d1 : (i1 == i2)
    case false =>
      simp -implicitDefEqProofs only [go_sem, ga, gb, d1]
      exact .mk _ (.refl _) hs0 (bad (by simp [eqP, d1]))
    cases d2 : (s1 == s2)
    case false =>
      simp -implicitDefEqProofs only [go_sem, ga, gb, d1, d2]
      exact .mk _ (.refl _) hs0 (bad (by simp only [eqP, d2, Bool.false_and, Bool.and_false]))
    cases d3 : (a1 == a2)
    case false =>
      have d3' : (a1 != a2) = true := by simp only [bne, d3, Bool.not_false]
      simp -implicitDefEqProofs only [go_sem, ga, gb, d1, d2, d3']
      exact .mk _ (.refl _) hs0 (bad (by simp only [eqP, d3, Bool.false_and, Bool.and_false]))
    have d3' : (a1 != a2) = false := by simp only [bne, d3, Bool.not_true]
    have f1 := targets_ok t1 t2 hb
    have f2 := sameObl_ok o1 o2 hb
    simp only [tgtA] at f1
    simp only [oblsA] at f2
    simp -implicitDefEqProofs only [go_sem, ga, gb, d1, d2, d3']
    refine f1.pthen ?_
    cases d4 : eqT t1 t2
    case false =>
      simp -implicitDefEqProofs only [go_sem, ga, gb, d4]
      exact .mk _ (.refl _) hs0 (bad (by simp only [eqP, d4, Bool.false_and, Bool.and_false]))
    simp -implicitDefEqProofs only [go_sem, ga, gb, d4]
    refine f2.pthen ?_
    cases d5 : eqL eqObl o1 o2
    case false =>
      simp -implicitDefEqProofs only [go_sem, ga, gb, d5]
      exact .mk _ (.refl _) hs0 (bad (by simp only [eqP, d5, Bool.false_and, Bool.and_false]))
    cases d6 : ((r1.length : Int) != (r2.length : Int))
    case true =>
      have e6 : r1.length ≠ r2.length := by intro e; rw [e] at d6; simp at d6
      simp -implicitDefEqProofs only [go_sem, ga, gb, d5, List.length_map, d6]
      exact .mk _ (.refl _) hs0 (bad (by simp only [eqP, eqL_len e6, Bool.false_and, Bool.and_false]))
    have e6 : r1.length = r2.length := by have : (r1.length : Int) = r2.length := by simpa using d6
                                          omega
    cases d7 : ((k1.length : Int) != (k2.length : Int))
    case true =>
      have e7 : k1.length ≠ k2.length := by intro e; rw [e] at d7; simp at d7
      simp -implicitDefEqProofs only [go_sem, ga, gb, d5, List.length_map, d6, kidsA_eq, d7]
      exact .mk _ (.refl _) hs0 (bad (by simp only [eqP, eqK_eqL, eqL_len e7, Bool.false_and, Bool.and_false]))
    have e7 : k1.length = k2.length := by have : (k1.length : Int) = k2.length := by simpa using d7
                                          omega
    simp -implicitDefEqProofs only [go_sem, ga, gb, d5, List.length_map, d6, kidsA_eq, d7]
    refine .intro (fun m ρ h' => Ab.Sub hb h' ∧ ∃ i : Nat, i ≤ r1.length ∧ m = r1.length - i ∧ (∀ j (h1 : j < r1.length) (h2 : j < r2.length), j < i → eqR r1[j] r2[j] = true) ∧ lk ρ 2 = some (.ptr ia 0) ∧ lk ρ 3 = some (.ptr ib 0) ∧ lk ρ 64 = some (.v (.int .i64 r1.length)) ∧ lk ρ 65 = some (.v (.int .i64 i))) r1.length ?_ ?_
    · refine ⟨.refl _, 0, by omega, rfl, fun j _ _ hj => (by omega), ?_, ?_, ?_, ?_⟩ <;> simp -implicitDefEqProofs only [go_sem]
    · rintro m ρ h' ⟨hs, i, hi, rfl, hc, q2, q3, q64, q65⟩
      have ga1 := hs _ _ ga
      have gb1 := hs _ _ gb
      simp -implicitDefEqProofs only [go_sem, q2, q3, q64, q65]
      refine .intro (fun e => ?_) (fun e => ?_)
      · have hlt : i < r1.length := Int.ofNat_lt.1 (of_decide_eq_true e)
        have hlt2 : i < r2.length := by omega
        have w1 : IntKind.i64.wrap ((i : Int) + 1) = ((i + 1 : Nat) : Int) := by rw [wr64 _ (by omega)]; omega
        simp -implicitDefEqProofs only [go_sem, q2, q3, q64, q65, ga1, gb1]
        refine .fork (hm2 ia (.obj [.s i1, .v (.bool s1), .v (.int .i64 a1), .sl (t1.map anyA) .no, .sl (r1.map ruleA) .no, .sl (kidsA k1) .no, .sl (o1.map oblA) .no] 43) ib (.obj [.s i2, .v (.bool s2), .v (.int .i64 a2), .sl (t2.map anyA) .no, .sl (r2.map ruleA) .no, .sl (kidsA k2) .no, .sl (o2.map oblA) .no] 43)) (.fork [0, 1, 2, 3, 4, 5, 6, 7, 8, 9] 10 (.seq [11, 12, 13]) 11 (.seq [10, 12, 13])) (fun ρ' h2 => Ab.Sub h' h2 ∧ ∃ j6 j7, h2 j6 = some (.obj [.s r1[i].id, .v (.bool r1[i].deny), .sl (r1[i].tgt.map anyA) .no, .sl (r1[i].cond.map nodeA) .no, .sl (r1[i].obls.map oblA) .no] 37) ∧ h2 j7 = some (.obj [.s r2[i].id, .v (.bool r2[i].deny), .sl (r2[i].tgt.map anyA) .no, .sl (r2[i].cond.map nodeA) .no, .sl (r2[i].obls.map oblA) .no] 37) ∧ lk ρ' 6 = some (.ptr j6 0) ∧ lk ρ' 7 = some (.ptr j7 0) ∧ lk ρ' 2 = some (.ptr ia 0) ∧ lk ρ' 3 = some (.ptr ib 0) ∧ lk ρ' 64 = some (.v (.int .i64 r1.length)) ∧ lk ρ' 65 = some (.v (.int .i64 i))) ?_ (by kernel_rfl) rfl (by simp -implicitDefEqProofs only [go_sem]) ?_ ?_
        · exact .hm2 ga1 gb1
        · have m1 := hm2_fst (i := ia) (.obj [.s i1, .v (.bool s1), .v (.int .i64 a1), .sl (t1.map anyA) .no, .sl (r1.map ruleA) .no, .sl (kidsA k1) .no, .sl (o1.map oblA) .no] 43) (j := ib) (.obj [.s i2, .v (.bool s2), .v (.int .i64 a2), .sl (t2.map anyA) .no, .sl (r2.map ruleA) .no, .sl (kidsA k2) .no, .sl (o2.map oblA) .no] 43) nab.symm
          have m2 := hm2_snd ia (.obj [.s i1, .v (.bool s1), .v (.int .i64 a1), .sl (t1.map anyA) .no, .sl (r1.map ruleA) .no, .sl (kidsA k1) .no, .sl (o1.map oblA) .no] 43) ib (.obj [.s i2, .v (.bool s2), .v (.int .i64 a2), .sl (t2.map anyA) .no, .sl (r2.map ruleA) .no, .sl (kidsA k2) .no, .sl (o2.map oblA) .no] 43)
          simp -implicitDefEqProofs only [go_sem, vcDrT, q2, q3, q64, q65, m1, m2]
          refine .at i (by simpa using hlt) (by rw [List.getElem_map]; rfl) ?_
          simp -implicitDefEqProofs only [go_sem, vcDrT, q2, q3, q64, q65, m1, m2, List.getElem_map, ruleA]
          refine .at i (by simpa using hlt2) (by rw [List.getElem_map]; rfl) ?_
          simp -implicitDefEqProofs only [go_sem, vcDrT, q2, q3, q64, q65, m1, m2, List.getElem_map, ruleA]
          refine ⟨?_, ?_⟩
          · intro j6 h6
            have n6a : j6 ≠ ia := fun e => by rw [e, ga1] at h6; cases h6
            have n6b : j6 ≠ ib := fun e => by rw [e, gb1] at h6; cases h6
            have z6 := hm2_none (.obj [.s i1, .v (.bool s1), .v (.int .i64 a1), .sl (t1.map anyA) .no, .sl (r1.map ruleA) .no, .sl (kidsA k1) .no, .sl (o1.map oblA) .no] 43) (.obj [.s i2, .v (.bool s2), .v (.int .i64 a2), .sl (t2.map anyA) .no, .sl (r2.map ruleA) .no, .sl (kidsA k2) .no, .sl (o2.map oblA) .no] 43) n6a n6b
            refine ⟨(Sub.hm2 ga1 gb1).put z6 _, ?_⟩
            simp -implicitDefEqProofs only [go_sem]
            intro j7 h7
            have n67 : j6 ≠ j7 := (ne_new h7).symm
            have h72 := h7
            rw [upd_other _ _ n67.symm] at h72
            have n7a : j7 ≠ ia := fun e => by rw [e, ga1] at h72; cases h72
            have n7b : j7 ≠ ib := fun e => by rw [e, gb1] at h72; cases h72
            have z7 := hm2_none (.obj [.s i1, .v (.bool s1), .v (.int .i64 a1), .sl (t1.map anyA) .no, .sl (r1.map ruleA) .no, .sl (kidsA k1) .no, .sl (o1.map oblA) .no] 43) (.obj [.s i2, .v (.bool s2), .v (.int .i64 a2), .sl (t2.map anyA) .no, .sl (r2.map ruleA) .no, .sl (kidsA k2) .no, .sl (o2.map oblA) .no] 43) n7a n7b
            refine ⟨((Sub.hm2 ga1 gb1).put z6 _).put z7 _, ?_⟩
            simp -implicitDefEqProofs only [go_sem, upd_other _ _ n67, upd_other _ _ n67.symm, upd_same]
            refine ⟨(by repeat (first | exact .hm2 ga1 gb1 | exact .refl _ | refine Sub.put ?_ (by assumption) _)), (by repeat (first | exact .hm2 ga1 gb1 | exact .refl _ | refine Sub.put ?_ (by assumption) _)), ?_⟩
            refine ⟨(by repeat (first | exact .hm2 ga1 gb1 | exact .refl _ | refine Sub.put ?_ (by assumption) _)), j6, j7, ?_, upd_same .., ?_, ?_, ?_, ?_, ?_, ?_⟩
            · rw [upd_other _ _ (by first | exact n67 | exact n67.symm), upd_same]; rfl
            all_goals simp -implicitDefEqProofs only [go_sem, q2, q3, q64, q65]
          · intro j7 h7
            have n7a : j7 ≠ ia := fun e => by rw [e, ga1] at h7; cases h7
            have n7b : j7 ≠ ib := fun e => by rw [e, gb1] at h7; cases h7
            have z7 := hm2_none (.obj [.s i1, .v (.bool s1), .v (.int .i64 a1), .sl (t1.map anyA) .no, .sl (r1.map ruleA) .no, .sl (kidsA k1) .no, .sl (o1.map oblA) .no] 43) (.obj [.s i2, .v (.bool s2), .v (.int .i64 a2), .sl (t2.map anyA) .no, .sl (r2.map ruleA) .no, .sl (kidsA k2) .no, .sl (o2.map oblA) .no] 43) n7a n7b
            refine ⟨(Sub.hm2 ga1 gb1).put z7 _, ?_⟩
            simp -implicitDefEqProofs only [go_sem]
            intro j6 h6
            have n76 : j7 ≠ j6 := (ne_new h6).symm
            have h62 := h6
            rw [upd_other _ _ n76.symm] at h62
            have n6a : j6 ≠ ia := fun e => by rw [e, ga1] at h62; cases h62
            have n6b : j6 ≠ ib := fun e => by rw [e, gb1] at h62; cases h62
            have z6 := hm2_none (.obj [.s i1, .v (.bool s1), .v (.int .i64 a1), .sl (t1.map anyA) .no, .sl (r1.map ruleA) .no, .sl (kidsA k1) .no, .sl (o1.map oblA) .no] 43) (.obj [.s i2, .v (.bool s2), .v (.int .i64 a2), .sl (t2.map anyA) .no, .sl (r2.map ruleA) .no, .sl (kidsA k2) .no, .sl (o2.map oblA) .no] 43) n6a n6b
            refine ⟨((Sub.hm2 ga1 gb1).put z7 _).put z6 _, ?_⟩
            simp -implicitDefEqProofs only [go_sem, upd_other _ _ n76, upd_other _ _ n76.symm, upd_same]
            refine ⟨(by repeat (first | exact .hm2 ga1 gb1 | exact .refl _ | refine Sub.put ?_ (by assumption) _)), (by repeat (first | exact .hm2 ga1 gb1 | exact .refl _ | refine Sub.put ?_ (by assumption) _)), ?_⟩
            refine ⟨(by repeat (first | exact .hm2 ga1 gb1 | exact .refl _ | refine Sub.put ?_ (by assumption) _)), j6, j7, ?_, upd_same .., ?_, ?_, ?_, ?_, ?_, ?_⟩
            · rw [upd_other _ _ (by first | exact n76 | exact n76.symm), upd_same]; rfl
            all_goals simp -implicitDefEqProofs only [go_sem, q2, q3, q64, q65]
        · rintro ρ' h2 ⟨hs2, j6, j7, g6, g7, p6, p7, p2, p3, p64, p65⟩
          have hs3 := hs.trans hs2
          have f1 := targets_ok r1[i].tgt r2[i].tgt h2
          have f2 := sameNode_ok r1[i].cond r2[i].cond h2
          have f3 := sameObl_ok r1[i].obls r2[i].obls h2
          have bad2 : eqR r1[i] r2[i] = false → (.v (.bool false) : AV) = .v (.bool (eqP (.mk i1 s1 a1 t1 r1 k1 o1) (.mk i2 s2 a2 t2 r2 k2 o2))) ∧ h = h := fun e => bad (by
            simp only [eqP, eqL_at i hlt hlt2 e, Bool.false_and, Bool.and_false])
          cases c1 : (r1[i].id == r2[i].id)
          case false =>
            simp -implicitDefEqProofs only [go_sem, p2, p3, p6, p7, p64, p65, g6, g7, c1]
            exact .mk _ (.refl _) (hs0.trans hs3) (bad2 (by simp only [eqR, c1, Bool.false_and, Bool.and_false]))
          cases c2 : (r1[i].deny == r2[i].deny)
          case false =>
            simp -implicitDefEqProofs only [go_sem, p2, p3, p6, p7, p64, p65, g6, g7, c1, c2]
            exact .mk _ (.refl _) (hs0.trans hs3) (bad2 (by simp only [eqR, c2, Bool.false_and, Bool.and_false]))
          simp -implicitDefEqProofs only [go_sem, p2, p3, p6, p7, p64, p65, g6, g7, c1, c2]
          refine f1.pthen ?_
          cases c3 : eqT r1[i].tgt r2[i].tgt
          case false =>
            simp -implicitDefEqProofs only [go_sem, p2, p3, p6, p7, p64, p65, g6, g7, c3]
            exact .mk _ (.refl _) (hs0.trans hs3) (bad2 (by simp only [eqR, c3, Bool.false_and, Bool.and_false]))
          simp -implicitDefEqProofs only [go_sem, p2, p3, p6, p7, p64, p65, g6, g7, c3]
          refine f2.pthen ?_
          cases c4 : eqL eqNode r1[i].cond r2[i].cond
          case false =>
            simp -implicitDefEqProofs only [go_sem, p2, p3, p6, p7, p64, p65, g6, g7, c4]
            exact .mk _ (.refl _) (hs0.trans hs3) (bad2 (by simp only [eqR, c4, Bool.false_and, Bool.and_false]))
          simp -implicitDefEqProofs only [go_sem, p2, p3, p6, p7, p64, p65, g6, g7, c4]
          refine f3.pthen ?_
          cases c5 : eqL eqObl r1[i].obls r2[i].obls
          case false =>
            simp -implicitDefEqProofs only [go_sem, p2, p3, p6, p7, p64, p65, g6, g7, c5]
            exact .mk _ (.refl _) (hs0.trans hs3) (bad2 (by simp only [eqR, c5, Bool.false_and, Bool.and_false]))
          simp -implicitDefEqProofs only [go_sem, p2, p3, p6, p7, p64, p65, g6, g7, c5, w1]
          refine ⟨_, ?_, hs3, i + 1, by omega, rfl, fun j h1 h2 hj => ?_, ?_, ?_, ?_, ?_⟩
          · omega
          · by_cases hji : j = i
            · subst hji; simp only [eqR, c1, c2, c3, c4, c5, Bool.and_self]
            · exact hc j h1 h2 (by omega)
          all_goals simp -implicitDefEqProofs only [go_sem, p2, p3, p64, p65, w1]
      · have hge : i = r1.length := by have := of_decide_eq_false e; omega
        subst hge
        have hrr : eqL eqR r1 r2 = true := eqL_true e6 fun j h1 h2 => hc j h1 h2 h1
        simp -implicitDefEqProofs only [go_sem, q2, q3, q64, q65, ga1, gb1, kidsA_eq, List.length_map]
        refine .intro (fun m ρ h' => Ab.Sub hb h' ∧ ∃ i : Nat, i ≤ k1.length ∧ m = k1.length - i ∧ (∀ j (h1 : j < k1.length) (h2 : j < k2.length), j < i → eqP k1[j] k2[j] = true) ∧ lk ρ 2 = some (.ptr ia 0) ∧ lk ρ 3 = some (.ptr ib 0) ∧ lk ρ 117 = some (.v (.int .i64 k1.length)) ∧ lk ρ 118 = some (.v (.int .i64 i))) k1.length ?_ ?_
        · refine ⟨hs, 0, by omega, rfl, fun j _ _ hj => (by omega), ?_, ?_, ?_, ?_⟩ <;> simp -implicitDefEqProofs only [go_sem, q2, q3]
        · rintro m ρ h' ⟨hs, i, hi, rfl, hc, q2, q3, q117, q118⟩
          have ga1 := hs _ _ ga
          have gb1 := hs _ _ gb
          simp -implicitDefEqProofs only [go_sem, q2, q3, q117, q118]
          refine .intro (fun e => ?_) (fun e => ?_)
          · have hlt : i < k1.length := Int.ofNat_lt.1 (of_decide_eq_true e)
            have hlt2 : i < k2.length := by omega
            have w1 : IntKind.i64.wrap ((i : Int) + 1) = ((i + 1 : Nat) : Int) := by rw [wr64 _ (by omega)]; omega
            have ihi := ihk i hlt k2[i] h'
            simp -implicitDefEqProofs only [go_sem, q2, q3, q117, q118, ga1, gb1]
            refine .quiet (by kernel_rfl) ?_
            simp -implicitDefEqProofs only [go_sem, q2, q3, q117, q118, ga1, gb1, kidsA_eq]
            cases ek1 : k1[i] with
            | mk x1 x2 x3 x4 x5 x6 x7 =>
            cases ek2 : k2[i] with
            | mk y1 y2 y3 y4 y5 y6 y7 =>
            have ihi2 := ihi
            rw [ek1, ek2] at ihi
            simp only [polA, tgtA, oblsA] at ihi
            refine .at i (by simpa using hlt) (by rw [List.getElem_map]; exact polA_len _) ?_
            simp -implicitDefEqProofs only [go_sem, q2, q3, q117, q118, ga1, gb1, List.getElem_map, ek1, polA, tgtA, oblsA, kidsA_eq]
            refine .at i (by simpa using hlt2) (by rw [List.getElem_map]; exact polA_len _) ?_
            simp -implicitDefEqProofs only [go_sem, q2, q3, q117, q118, ga1, gb1, List.getElem_map, ek2, polA, tgtA, oblsA, kidsA_eq]
            simp only [kidsA_eq] at ihi
            refine ⟨_, ihi, ?_⟩
            rw [← ek1, ← ek2]
            cases c6 : eqP k1[i] k2[i]
            · simp -implicitDefEqProofs only [go_sem, q2, q3, q117, q118]
              exact .mk _ (.refl _) (hs0.trans hs) (bad (by simp only [eqP, eqK_eqL, eqL_at i hlt hlt2 c6, Bool.and_false]))
            · simp -implicitDefEqProofs only [go_sem, q2, q3, q117, q118, w1]
              refine ⟨_, ?_, hs, i + 1, by omega, rfl, fun j h1 h2 hj => ?_, ?_, ?_, ?_, ?_⟩
              · omega
              · by_cases hji : j = i
                · subst hji; exact c6
                · exact hc j h1 h2 (by omega)
              all_goals simp -implicitDefEqProofs only [go_sem, q2, q3, q117, q118, w1]
          · have hge : i = k1.length := by have := of_decide_eq_false e; omega
            subst hge
            have hkk : eqL eqP k1 k2 = true := eqL_true e7 fun j h1 h2 => hc j h1 h2 h1
            simp -implicitDefEqProofs only [go_sem, q2, q3, q117, q118]
            exact .mk _ (.refl _) (hs0.trans hs) ⟨by simp only [eqP, d1, d2, d3, d4, d5, hrr, eqK_eqL, hkk, Bool.and_self]; rfl, rfl⟩
termination_by p => SizeOf.sizeOf p
decreasing_by
  have := List.sizeOf_lt_of_mem (List.getElem_mem hj)
  simp only [PolD.mk.sizeOf_spec]
  omega
end Go.Proofs.YtdcchpbncckhlaaDoor

set_option linter.unusedSimpArgs false
set_option linter.unusedVariables false
namespace Go.Proofs.YtdcchpbncckhlaaDoor
open Go Go.Ab Go.Bf
def pr1 : Txt := [112, 111, 108, 105, 99, 121, 32, 112, 32, 100, 101, 110, 121, 111, 118, 101, 114, 32, 123, 32, 112, 101, 114, 109, 105, 116, 32, 114, 32, 105, 102, 32, 40, 101, 113, 32, 40, 111, 110, 101, 32, 99, 97, 115, 101, 46, 111, 119, 110, 101, 114, 41, 32, 35, 97, 110, 110, 41, 59, 32, 125]
def pr2 : Txt := [112, 111, 108, 105, 99, 121, 32, 112, 32, 100, 101, 110, 121, 111, 118, 101, 114, 32, 123, 32, 112, 101, 114, 109, 105, 116, 32, 114, 32, 125]
def pr3 : Txt := [112, 111, 108, 105, 99, 121, 32, 112, 32, 111, 110, 108, 121, 32, 123, 32, 125]
def pr4 : Txt := [112, 111, 108, 105, 99, 121, 32, 112, 32, 102, 105, 114, 115, 116, 32, 123, 32, 112, 101, 114, 109, 105, 116, 32, 114, 32, 105, 102, 32, 99, 97, 115, 101, 46, 120, 59, 32, 125]
def prNodes : List NodeD := [⟨2, ⟨0, 0, []⟩, ⟨3, [111, 119, 110, 101, 114], false⟩⟩, ⟨3, ⟨0, 0, []⟩, ⟨0, [], false⟩⟩, ⟨1, ⟨5, 0, [97, 110, 110]⟩, ⟨0, [], false⟩⟩, ⟨6, ⟨0, 0, []⟩, ⟨0, [], false⟩⟩]
def prPol : PolD := .mk [112] false 1 [] [⟨[114], false, [], prNodes, []⟩] [] []
set_option maxRecDepth 100000 in
theorem pr1_is : parseD pr1 = (prPol, 0, 0) := by kernel_rfl
set_option maxRecDepth 100000 in
theorem pr2_is : parseD pr2 = (zeroP, 5, 29) := by kernel_rfl
set_option maxRecDepth 100000 in
theorem pr3_is : parseD pr3 = (zeroP, 5, 17) := by kernel_rfl
set_option maxRecDepth 100000 in
theorem pr4_is : parseD pr4 = (zeroP, 5, 29) := by kernel_rfl
theorem prPol_eq : eqP prPol prPol = true := by kernel_rfl
theorem new2 {h : Heap} {i j : Nat} {b : Blk} (e : upd h i (some b) j = none) : j ≠ i ∧ h j = none :=
  ⟨ne_upd e, by rw [upd_other _ _ (ne_upd e)] at e; exact e⟩
theorem parseRuns_ok (h : Heap) (he : ErrT h) : FnOK Tryd.prog 6 [] h fun r h' => r = .v (.bool true) ∧ h' = h := by
  have hp := fun s hh hs => parse_ok s hh (he.sub hs)
  have p1 := hp pr1
  have p2 := hp pr2
  have p3 := hp pr3
  have p4 := hp pr4
  rw [pr1_is] at p1
  rw [pr2_is] at p2
  rw [pr3_is] at p3
  rw [pr4_is] at p4
  refine FnOK.body hU hm Tryd.func6 rfl (by kernel_rfl) 77 rfl [.tmp 0] rfl (Nat.le_of_ble_eq_true rfl) (fun hwf => ?_)
  simp -implicitDefEqProofs only [go_sem]
  refine (p1 _ (.refl _)).pthen ?_
  simp -implicitDefEqProofs only [go_sem, parsedA, polA, prPol]
  intro i1 h1
  simp -implicitDefEqProofs only [go_sem]
  intro i5 h5
  simp -implicitDefEqProofs only [go_sem]
  refine (p2 _ ((Sub.upd_new h1).trans (.upd_new h5))).pthen ?_
  simp -implicitDefEqProofs only [go_sem, parsedA, polA, zeroP]
  intro i6 h6
  simp -implicitDefEqProofs only [go_sem]
  refine (p3 _ (((Sub.upd_new h1).trans (.upd_new h5)).trans (.upd_new h6))).pthen ?_
  simp -implicitDefEqProofs only [go_sem, parsedA, polA, zeroP]
  intro i9 h9
  simp -implicitDefEqProofs only [go_sem]
  refine (p4 _ ((((Sub.upd_new h1).trans (.upd_new h5)).trans (.upd_new h6)).trans (.upd_new h9))).pthen ?_
  simp -implicitDefEqProofs only [go_sem, parsedA, polA, zeroP]
  intro i12 h12
  obtain ⟨n1, g1⟩ := new2 h12
  obtain ⟨n2, g2⟩ := new2 g1
  obtain ⟨n3, g3⟩ := new2 g2
  obtain ⟨n4, g4⟩ := new2 g3
  obtain ⟨n5, g5⟩ := new2 h9
  obtain ⟨n6, g6⟩ := new2 g5
  obtain ⟨n7, g7⟩ := new2 g6
  obtain ⟨n8, g8⟩ := new2 h6
  obtain ⟨n9, g9⟩ := new2 g8
  obtain ⟨n10, g10⟩ := new2 h5
  simp -implicitDefEqProofs only [go_sem, upd_ne, n1, n2, n3, n4, n5, n6, n7, n8, n9, n10, n1.symm, n2.symm, n3.symm, n4.symm, n5.symm, n6.symm, n7.symm, n8.symm, n9.symm, n10.symm]
  refine FnOK.strip ?_
  have e : ∀ (a : List AV) (k : Heap), a = [polA prPol, polA prPol] → FnOK Tryd.prog 23 [polA prPol, polA prPol] k = FnOK Tryd.prog 23 a k := fun a k e => by rw [e]
  rw [← e _ _ (by simp [strip, stripL, polA, prPol, prNodes, kidsA, ruleA, tgtA, anyA, allA, matchA, condA, nodeA, oblsA, oblA])]
  refine (policies_ok prPol prPol _).pthen ?_
  simp -implicitDefEqProofs only [go_sem, prPol_eq]
  exact .mk _ (.refl _) (((((Sub.upd_new h1).trans (.upd_new h5)).trans (.upd_new h6)).trans (.upd_new h9)).trans (.upd_new h12)) ⟨rfl, rfl⟩
def startH (ev : Value) : Heap := tabH [(1, pow10V), (3, [ev])]
theorem start_err {ev : Value} (hev : ev = .nilIface ∨ ∃ te pe, ev = .iface te pe) : ErrT (startH ev) := ⟨ev, hev, 1, rfl⟩
end Go.Proofs.YtdcchpbncckhlaaDoor

set_option linter.unusedSimpArgs false
set_option linter.unusedVariables false
namespace Go.Proofs.YtdcchpbncckhlaaDoor
open Go Go.Ab Go.Bf
end Go.Proofs.YtdcchpbncckhlaaDoor

set_option linter.unusedSimpArgs false
set_option linter.unusedVariables false
namespace Go.Proofs.YtdcchpbncckhlaaDoor
open Go Go.Ab Go.Bf
theorem within_ok (m : Int) (b : Nat) (h : Heap) (hm' : -9223372036854775808 ≤ m ∧ m ≤ 9223372036854775807) (hb : b ≤ 1000000) :
    FnOK Tryd.prog 25 [.v (.int .i64 m), .v (.int .i64 0), .v (.int .i64 b)] h fun r h' => r = .v (.int .i64 (withinD m b)) ∧ h' = h := by
  have w0 : IntKind.i64.wrap ((b : Int) - 0) = b := IntWalk.i64_in _ (by omega)
  have w1 : IntKind.i64.wrap (b : Int) = b := IntWalk.i64_in _ (by omega)
  have w2 : IntKind.i64.wrap ((b : Int) + 1) = (b : Int) + 1 := IntWalk.i64_in _ (by omega)
  have t1 := Int.tmod_lt_of_pos m (show 0 < (b : Int) + 1 by omega)
  have t2 := Int.lt_tmod_of_pos m (show 0 < (b : Int) + 1 by omega)
  have hd : (withinD m b : Int) = if m.tmod (b + 1) < 0 then m.tmod (b + 1) + (b + 1) else m.tmod (b + 1) := by
    unfold withinD; split <;> omega
  generalize hq : m.tmod ((b : Int) + 1) = q at t1 t2 hd
  have w3 : IntKind.i64.wrap (q + b) = q + b := IntWalk.i64_in _ (by omega)
  have w4 : IntKind.i64.wrap (q + b - 0) = q + b := by rw [Int.sub_zero]; exact w3
  have w5 : IntKind.i64.wrap (q + b + 1) = q + b + 1 := IntWalk.i64_in _ (by omega)
  refine FnOK.body hU hm Tryd.func25 rfl (by kernel_rfl) 24 rfl [.tmp 6] rfl (Nat.le_of_ble_eq_true rfl) (fun hwf => ?_)
  simp -implicitDefEqProofs only [go_sem, w0, w1, w2, hq, Int.sub_zero]
  refine ⟨by omega, .intro (fun e => ?_) (fun e => ?_)⟩
  · have e := of_decide_eq_true e
    rw [if_pos e] at hd
    simp -implicitDefEqProofs only [go_sem, w3, w4, w5, Int.sub_zero]
    have w6 : IntKind.i64.wrap (0 + (q + b + 1)) = q + b + 1 := by rw [Int.zero_add]; exact w5
    have w7 : IntKind.i64.wrap (q + b + 1) = q + b + 1 := IntWalk.i64_in _ (by omega)
    simp -implicitDefEqProofs only [go_sem, w6, w7, Int.zero_add]
    exact .same (.refl _) ⟨by rw [hd]; simp only [oneOr]; rw [Int.add_assoc], rfl⟩
  · have e := of_decide_eq_false e
    rw [if_neg e] at hd
    have w7 : IntKind.i64.wrap q = q := IntWalk.i64_in q (by omega)
    have w6 : IntKind.i64.wrap (0 + q) = q := by rw [Int.zero_add]; exact w7
    simp -implicitDefEqProofs only [go_sem, w6, w7, Int.zero_add]
    exact .same (.refl _) ⟨by rw [hd]; rfl, rfl⟩
theorem parse_at {s s' : Txt} (e : s = s') {h : Heap} (he : ErrT h) {x : PolD × Int × Int} (ex : parseD s' = x) {Q : AV → Heap → Prop} (k : Q (parsedA x) h) : FnOK Tryd.prog 26 [.s s] h Q := by
  subst e
  subst ex
  exact (parse_ok s h he).pthen k
end Go.Proofs.YtdcchpbncckhlaaDoor

set_option linter.unusedSimpArgs false
set_option linter.unusedVariables false
namespace Go.Proofs.YtdcchpbncckhlaaDoor
open Go Go.Ab Go.Bf
def gapT (d : Nat) : Txt := [10, 32, 32, 32].take (1 + d)
theorem gap_blank (d : Nat) : ∀ c ∈ gapT d, blankB c = true := fun c hc => by
  have := List.mem_of_mem_take hc
  simp only [List.mem_cons, List.not_mem_nil, or_false] at this
  rcases this with rfl | rfl | rfl | rfl <;> decide
theorem gap_len (d : Nat) (h : d ≤ 3) : (gapT d).length = 1 + d := by
  unfold gapT; rw [List.length_take]; simp; omega
theorem parseBlanks_ok (x y : AV) (dx : Dat U 9 x) (dy : Dat U 3 y) (h : Heap) (he : ErrT h) : FnOK Tryd.prog 12 [x, y] h fun r h' => r = .v (.bool true) ∧ h' = h := by
  obtain ⟨s0, rfl, hs0⟩ := dx.str_inv (by simp only [go_sem])
  obtain ⟨m, rfl, hm1⟩ := dy.i64 (by simp only [go_sem])
  have hlim : lim = 9223372036854775808 := rfl
  have hd := withinD_le m 3
  refine FnOK.body hU hm Tryd.func12 rfl (by kernel_rfl) 50 rfl [.tmp 4] rfl (Nat.le_of_ble_eq_true rfl) (fun hwf => ?_)
  simp -implicitDefEqProofs only [go_sem, iA]
  cases d1 : decide ((600 : Int) < (s0.length : Int))
  · have hle : s0.length ≤ 600 := by have := of_decide_eq_false d1; omega
    simp -implicitDefEqProofs only [go_sem, d1]
    obtain ⟨x1, hx1⟩ : ∃ x1, parseD s0 = x1 := ⟨_, rfl⟩
    obtain ⟨⟨pid, pset, palg, ptgt, prules, pkids, pobls⟩, e1, a1⟩ := x1
    refine parse_at rfl he hx1 ?_
    simp -implicitDefEqProofs only [go_sem, parsedA, polA]
    intro i5 h5
    simp -implicitDefEqProofs only [go_sem]
    cases d2 : (e1 == (0 : Int))
    · simp -implicitDefEqProofs only [go_sem, d2, bne]
      refine (parseRuns_ok _ (he.sub (.upd_new h5))).pthen ?_
      simp -implicitDefEqProofs only [go_sem]
      exact .mk _ (.refl _) (.upd_new h5) ⟨rfl, rfl⟩
    · have e0 : e1 = 0 := by simpa using d2
      subst e0
      simp -implicitDefEqProofs only [go_sem, d2, bne]
      refine (within_ok m 3 _ hm1 (by decide)).pthen ?_
      have hgl := gap_len _ hd
      have hgb := gap_blank (withinD m 3)
      have hgd : gapT (withinD m 3) = ([10, 32, 32, 32] : Txt).take (1 + withinD m 3) := rfl
      generalize withinD m 3 = d at hd hgl hgb hgd ⊢
      have w1 : IntKind.i64.wrap (1 + (d : Int)) = ((1 + d : Nat) : Int) := by rw [wr64 _ (by omega)]; omega
      simp -implicitDefEqProofs only [go_sem, w1, List.length_cons, List.length_nil, Nat.zero_add, Nat.reduceAdd]
      refine ⟨by omega, by omega, by omega, ?_⟩
      have hcut : cutL ([10, 32, 32, 32] : Txt) 0 ((1 + d : Nat) : Int) (none : Option Operand).isSome (some (Operand.tmp 28)).isSome = gapT d := by
        rw [hgd]; rfl
      simp -implicitDefEqProofs only [go_sem, hcut]
      (repeat (refine And.intro (by first | omega | (simp only [List.length_append, List.length_cons, List.length_nil]; omega)) ?_))
      have hb := parse_blanks s0 (gapT d) (gapT d) hgb hgb (by simp only [List.length_append]; omega) (by rw [hx1])
      rw [hx1] at hb
      refine parse_at rfl (he.sub (.upd_new h5)) hb ?_
      simp -implicitDefEqProofs only [go_sem, parsedA, polA]
      intro i9 h9
      have hne := ne_upd h9
      simp -implicitDefEqProofs only [go_sem, upd_ne, hne, hne.symm]
      refine FnOK.pthen (show FnOK Tryd.prog 23 [_, _] _ _ from policies_ok (.mk pid pset palg ptgt prules pkids pobls) (.mk pid pset palg ptgt prules pkids pobls) _) ?_
      rw [(eqP_eq _ _).2 rfl]
      simp -implicitDefEqProofs only [go_sem]
      refine (parseRuns_ok _ (he.sub ((Sub.upd_new h5).new h9 _))).pthen ?_
      simp -implicitDefEqProofs only [go_sem]
      exact .mk _ (.refl _) ((Sub.upd_new h5).new h9 _) ⟨rfl, rfl⟩
  · have hl := of_decide_eq_true d1
    simp -implicitDefEqProofs only [go_sem, d1]
    refine ⟨by omega, by omega, by omega, ?_⟩
    have hle : (cutL s0 0 600 (none : Option Operand).isSome (some (Operand.const (Value.int IntKind.i64 600))).isSome).length ≤ 600 := by
      show (s0.take 600).length ≤ 600
      rw [List.length_take]; omega
    generalize cutL s0 0 600 (none : Option Operand).isSome (some (Operand.const (Value.int IntKind.i64 600))).isSome = s1 at hle ⊢
    obtain ⟨x1, hx1⟩ : ∃ x1, parseD s1 = x1 := ⟨_, rfl⟩
    obtain ⟨⟨pid, pset, palg, ptgt, prules, pkids, pobls⟩, e1, a1⟩ := x1
    refine parse_at rfl he hx1 ?_
    simp -implicitDefEqProofs only [go_sem, parsedA, polA]
    intro i5 h5
    simp -implicitDefEqProofs only [go_sem]
    cases d2 : (e1 == (0 : Int))
    · simp -implicitDefEqProofs only [go_sem, d2, bne]
      refine (parseRuns_ok _ (he.sub (.upd_new h5))).pthen ?_
      simp -implicitDefEqProofs only [go_sem]
      exact .mk _ (.refl _) (.upd_new h5) ⟨rfl, rfl⟩
    · have e0 : e1 = 0 := by simpa using d2
      subst e0
      simp -implicitDefEqProofs only [go_sem, d2, bne]
      refine (within_ok m 3 _ hm1 (by decide)).pthen ?_
      have hgl := gap_len _ hd
      have hgb := gap_blank (withinD m 3)
      have hgd : gapT (withinD m 3) = ([10, 32, 32, 32] : Txt).take (1 + withinD m 3) := rfl
      generalize withinD m 3 = d at hd hgl hgb hgd ⊢
      have w1 : IntKind.i64.wrap (1 + (d : Int)) = ((1 + d : Nat) : Int) := by rw [wr64 _ (by omega)]; omega
      simp -implicitDefEqProofs only [go_sem, w1, List.length_cons, List.length_nil, Nat.zero_add, Nat.reduceAdd]
      refine ⟨by omega, by omega, by omega, ?_⟩
      have hcut : cutL ([10, 32, 32, 32] : Txt) 0 ((1 + d : Nat) : Int) (none : Option Operand).isSome (some (Operand.tmp 28)).isSome = gapT d := by
        rw [hgd]; rfl
      simp -implicitDefEqProofs only [go_sem, hcut]
      (repeat (refine And.intro (by first | omega | (simp only [List.length_append, List.length_cons, List.length_nil]; omega)) ?_))
      have hb := parse_blanks s1 (gapT d) (gapT d) hgb hgb (by simp only [List.length_append]; omega) (by rw [hx1])
      rw [hx1] at hb
      refine parse_at rfl (he.sub (.upd_new h5)) hb ?_
      simp -implicitDefEqProofs only [go_sem, parsedA, polA]
      intro i9 h9
      have hne := ne_upd h9
      simp -implicitDefEqProofs only [go_sem, upd_ne, hne, hne.symm]
      refine FnOK.pthen (show FnOK Tryd.prog 23 [_, _] _ _ from policies_ok (.mk pid pset palg ptgt prules pkids pobls) (.mk pid pset palg ptgt prules pkids pobls) _) ?_
      rw [(eqP_eq _ _).2 rfl]
      simp -implicitDefEqProofs only [go_sem]
      refine (parseRuns_ok _ (he.sub ((Sub.upd_new h5).new h9 _))).pthen ?_
      simp -implicitDefEqProofs only [go_sem]
      exact .mk _ (.refl _) ((Sub.upd_new h5).new h9 _) ⟨rfl, rfl⟩
theorem parseBlanks_law (ev : Value) (hev : ev = .nilIface ∨ ∃ te pe, ev = .iface te pe) (x y : AV) (dx : Dat U 9 x) (dy : Dat U 3 y) : FnOK Tryd.prog 12 [x, y] (tabH [(1, pow10V), (3, [ev])]) fun r _ => r = .v (.bool true) := (parseBlanks_ok x y dx dy _ (start_err hev)).mono fun _ _ h => h.1
end Go.Proofs.YtdcchpbncckhlaaDoor
