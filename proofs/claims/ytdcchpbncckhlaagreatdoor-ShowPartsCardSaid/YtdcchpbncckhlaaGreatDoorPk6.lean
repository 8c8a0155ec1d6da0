/- The law ShowParts: pack 6 of its texts. -/
import Derived.Shelf.Strings.BuilderK
import Derived.Test.YtdcchpbncckhlaaGreatDoorProg
import Derived.KernelRfl
import Derived.Test.YtdcchpbncckhlaaGreatDoorChecked
import Derived.WalkKit
import Derived.BigCall
import Derived.StillTailTactics
import Derived.Test.YtdcchpbncckhlaaGreatDoorPk1
import Derived.Test.YtdcchpbncckhlaaGreatDoorPk2
import Derived.Test.YtdcchpbncckhlaaGreatDoorPk3
import Derived.Test.YtdcchpbncckhlaaGreatDoorPk4
import Derived.Test.YtdcchpbncckhlaaGreatDoorPk5
set_option linter.unusedSimpArgs false
set_option linter.unusedVariables false
namespace Go.Proofs.YtdcchpbncckhlaaGreatDoor
open Go Go.Ab Go.Bf
theorem srule_ok (Q : Quoted) (r : RuleD) (he : ruleE r) (hi : inR r) (h : Heap) (ht : PowT h) : FnOK Tryz.prog 38 [ruleA r] h fun x h' => x = .s (ruleT r) ∧ h' = h := by
  refine FnOK.body hU hm Tryz.func38 rfl (by kernel_rfl) 30 rfl [.tmp 2] rfl (Nat.le_of_ble_eq_true rfl) (fun hwf => ?_)
  have hlim : lim = 9223372036854775808 := rfl
  have b1 := nameOK_le he.1
  have b2 := tgtT_le he.2.1 hi.1
  have b3 := exprT_le he.2.2.1 hi.2
  have b4 := oblsT_le he.2.2.2
  simp -implicitDefEqProofs only [go_sem, ruleA, tgtA, condA, oblsA]
  intro id hid
  have ht2 : PowT (upd h id (some (.obj [.s r.id, .v (.bool r.deny), .sl (r.tgt.map anyA) .no, .sl (r.cond.map nodeA) .no, .sl (r.obls.map oblA) .no] 40))) := ht.sub (.upd_new hid)
  have f1 := starget_ok Q r.tgt he.2.1 hi.1 _ ht2
  have f2 := sexpr_ok Q r.cond hi.2 _ ht2
  have f3 := sduties_ok r.obls he.2.2.2 (upd h id (some (.obj [.s r.id, .v (.bool r.deny), .sl (r.tgt.map anyA) .no, .sl (r.cond.map nodeA) .no, .sl (r.obls.map oblA) .no] 40)))
  simp only [tgtA] at f1
  simp only [condA] at f2
  simp only [oblsA] at f3
  cases d2 : decide (0 < (r.cond.length : Int))
  · have e2 : r.cond = [] := by have := of_decide_eq_false d2; exact List.length_eq_zero_iff.1 (by omega)
    cases d1 : r.deny
    all_goals
      rw [d1] at f1 f3
      simp -implicitDefEqProofs only [go_sem, d1]
      refine .quiet (by kernel_rfl) ?_
      simp -implicitDefEqProofs only [go_sem]
      refine ⟨_, f1, ?_⟩
      simp -implicitDefEqProofs only [go_sem, List.length_map, d2]
      refine ⟨by omega, by simp only [List.length_append, List.length_cons, List.length_nil]; omega, ?_⟩
      refine f3.pthen ?_
      simp -implicitDefEqProofs only [go_sem]
      refine ⟨by simp only [List.length_append, List.length_cons, List.length_nil]; omega, by simp only [List.length_append, List.length_cons, List.length_nil]; omega, ?_⟩
      exact .mk _ (.refl _) (.upd_new hid) ⟨by simp [ruleT, d1, e2, oneOr], rfl⟩
  · have e2 : r.cond ≠ [] := by rintro e; rw [e] at d2; simp at d2
    have f4 : exprS r.cond = exprT r.cond := by simp [exprS, e2, he.2.2.1]
    rw [f4] at f2
    cases d1 : r.deny
    all_goals
      rw [d1] at f1 f2 f3
      simp -implicitDefEqProofs only [go_sem, d1]
      refine .quiet (by kernel_rfl) ?_
      simp -implicitDefEqProofs only [go_sem]
      refine ⟨_, f1, ?_⟩
      simp -implicitDefEqProofs only [go_sem, List.length_map, d2]
      refine ⟨by omega, by simp only [List.length_append, List.length_cons, List.length_nil]; omega, ?_⟩
      refine f2.pthen ?_
      simp -implicitDefEqProofs only [go_sem]
      refine ⟨by omega, by simp only [List.length_append, List.length_cons, List.length_nil]; omega, ?_⟩
      refine f3.pthen ?_
      simp -implicitDefEqProofs only [go_sem]
      refine ⟨by simp only [List.length_append, List.length_cons, List.length_nil]; omega, by simp only [List.length_append, List.length_cons, List.length_nil]; omega, ?_⟩
      exact .mk _ (.refl _) (.upd_new hid) ⟨by simp [ruleT, d1, e2, oneOr], rfl⟩
def algWords : List Txt := [[100, 101, 110, 121, 111, 118, 101, 114], [112, 101, 114, 109, 105, 116, 111, 118, 101, 114], [102, 105, 114, 115, 116], [111, 110, 108, 121], [100, 101, 110, 121, 117, 110, 108, 101, 115, 115], [112, 101, 114, 109, 105, 116, 117, 110, 108, 101, 115, 115]]
theorem words_alg (n : Int) (h1 : 1 ≤ n) (h4 : n ≤ 6) : ∃ i : Nat, n = i + 1 ∧ ∃ hi : i < algWords.length, algWords[i]'hi = algW n := by
  rcases (by omega : n = 1 ∨ n = 2 ∨ n = 3 ∨ n = 4 ∨ n = 5 ∨ n = 6) with rfl | rfl | rfl | rfl | rfl | rfl
  · exact ⟨0, rfl, by decide, rfl⟩
  · exact ⟨1, rfl, by decide, rfl⟩
  · exact ⟨2, rfl, by decide, rfl⟩
  · exact ⟨3, rfl, by decide, rfl⟩
  · exact ⟨4, rfl, by decide, rfl⟩
  · exact ⟨5, rfl, by decide, rfl⟩
theorem flat_take {α : Type} (f : α → Txt) (l : List α) (i : Nat) (h : i < l.length) : ((l.take (i + 1)).map f).flatten = ((l.take i).map f).flatten ++ f l[i] := by
  rw [List.take_succ_eq_append_getElem h, List.map_append, List.flatten_append]; simp
def kidT (k : PolD) : Txt := [32] ++ polT k
theorem kidsT_kid (l : List PolD) : kidsT l = (l.map kidT).flatten := kidsT_eq l
def headT (id : Txt) (set : Bool) (alg : Int) (tgt : TgtD) : Txt := (if set then [115, 101, 116, 32] else [112, 111, 108, 105, 99, 121, 32]) ++ (id ++ [32] ++ algW alg ++ tgtT tgt ++ [32, 123])
theorem headT_le {id : Txt} {set : Bool} {alg : Int} {tgt : TgtD} (h1 : id.length ≤ 16) (h2 : (tgtT tgt).length ≤ 115006) : (headT id set alg tgt).length ≤ 116000 := by
  have := algW_le alg
  unfold headT
  cases set <;> simp only [List.length_append, List.length_cons, List.length_nil, if_true, Bool.false_eq_true, if_false] <;> omega
theorem stext_ok (Q : Quoted) : ∀ (n d : Nat) (p : PolD) (h : Heap), d + n = 5 → polE d p → inP p → PowT h → FnOK Tryz.prog 17 [polA p] h fun x h' => x = .s (polT p) ∧ h' = h
  | 0, d, .mk id set alg tgt rules kids obls, h, hd, he, hi, ht => by simp only [polE] at he; omega
  | n + 1, d, .mk id set alg tgt rules kids obls, h, hd, he, hi, ht => by
    simp only [polE] at he
    simp only [inP] at hi
    obtain ⟨_, g1, a1, a6, _, _, g2, g3, g4, g5, g6, g7⟩ := he
    obtain ⟨i1, i2, i3⟩ := hi
    rw [kidsE_eq] at g7
    rw [inK_eq] at i3
    have hlim : lim = 9223372036854775808 := rfl
    have b1 := nameOK_le g1
    have b2 := tgtT_le g2 i1
    have b3 := algW_le alg
    have b4 := oblsT_le g3
    have b5 := headT_le (set := set) (alg := alg) b1 b2
    have b8 : polB n ≤ 1000000000000 := by
      have hm : ∀ k, polB k ≤ polB (k + 1) := by
        intro k; induction k with
        | zero => decide
        | succ k ih => simp only [polB] at ih ⊢; omega
      have : ∀ j k, polB j ≤ polB (j + k) := fun j k => by
        induction k with
        | zero => exact Nat.le_refl _
        | succ k ih => exact Nat.le_trans ih (hm _)
      have h4 : n ≤ 4 := by omega
      have := this n (4 - n)
      rw [show n + (4 - n) = 4 by omega] at this
      exact Nat.le_trans this polB_le
    have hrl : ∀ i, ((rules.take i).map ruleT).flatten.length ≤ 1952000 := fun i => flatten_le _ 16 122000 (by simp; omega) fun x hx => by
      obtain ⟨r, hr, rfl⟩ := List.mem_map.1 hx
      have hr := List.mem_of_mem_take hr
      exact ruleT_le (g6 r hr) (i2 r hr)
    have hkl : ∀ k ∈ kids, (polT k).length ≤ polB n := fun k hk => polT_le n (d + 1) k (by omega) (g7 k hk) (i3 k hk)
    have hkf : ∀ i, ((kids.take i).map kidT).flatten.length ≤ 16 * (1 + polB n) := fun i => flatten_le _ 16 _ (by simp; omega) fun x hx => by
      obtain ⟨k, hk, rfl⟩ := List.mem_map.1 hx
      have := hkl k (List.mem_of_mem_take hk)
      simp only [kidT, List.length_append, List.length_cons, List.length_nil]; omega
    obtain ⟨j, hn, hj, hw⟩ := words_alg alg a1 a6
    have rec' := fun (k : PolD) (hk : k ∈ kids) (h : Heap) (ht : PowT h) => stext_ok Q n (d + 1) k h (by omega) (g7 k hk) (i3 k hk) ht
    refine FnOK.body hU hm Tryz.func17 rfl (by kernel_rfl) 56 rfl [.tmp 2] rfl (Nat.le_of_ble_eq_true rfl) (fun hwf => ?_)
    simp -implicitDefEqProofs only [go_sem, polA, tgtA, oblsA]
    intro ip hip
    have hs0 : Ab.Sub h (upd h ip (some (.obj [.s id, .v (.bool set), .v (.int .i64 alg), .sl (tgt.map anyA) .no, .sl (rules.map ruleA) .no, .sl (kidsA kids) .no, .sl (obls.map oblA) .no] 28))) := .upd_new hip
    obtain ⟨hb, ehb⟩ : ∃ hb, upd h ip (some (.obj [.s id, .v (.bool set), .v (.int .i64 alg), .sl (tgt.map anyA) .no, .sl (rules.map ruleA) .no, .sl (kidsA kids) .no, .sl (obls.map oblA) .no] 28)) = hb := ⟨_, rfl⟩
    have hbip : hb ip = some (.obj [.s id, .v (.bool set), .v (.int .i64 alg), .sl (tgt.map anyA) .no, .sl (rules.map ruleA) .no, .sl (kidsA kids) .no, .sl (obls.map oblA) .no] 28) := by rw [← ehb]; exact upd_same ..
    rw [ehb] at hs0 ⊢
    have f1 := starget_ok Q tgt g2 i1 hb (ht.sub hs0)
    simp only [tgtA] at f1
    have hwd := word_ok alg j (.sl [.s [100, 101, 110, 121, 111, 118, 101, 114], .s [112, 101, 114, 109, 105, 116, 111, 118, 101, 114], .s [102, 105, 114, 115, 116], .s [111, 110, 108, 121], .s [100, 101, 110, 121, 117, 110, 108, 101, 115, 115], .s [112, 101, 114, 109, 105, 116, 117, 110, 108, 101, 115, 115]] .full) algWords hb (.sl _ _) hn hj (by simp [algWords] at hj; omega)
    rw [hw] at hwd
    have loop : ∀ (ρ : Env), True := fun _ => trivial
    cases set
    · simp -implicitDefEqProofs only [go_sem, hbip]
      refine .quiet (by kernel_rfl) ?_
      simp -implicitDefEqProofs only [go_sem, hbip]
      refine ⟨by omega, ?_⟩
      refine ⟨_, hwd, ?_⟩
      simp -implicitDefEqProofs only [go_sem, hbip]
      refine ⟨by simp only [List.length_append, List.length_cons, List.length_nil]; omega, ?_⟩
      refine ⟨_, f1, ?_⟩
      simp -implicitDefEqProofs only [go_sem, hbip, List.length_map]
      refine ⟨by simp only [List.length_append, List.length_cons, List.length_nil]; omega, by simp only [List.length_append, List.length_cons, List.length_nil]; omega, by simp only [List.length_append, List.length_cons, List.length_nil]; omega, ?_⟩
      obtain ⟨H, eH⟩ : ∃ H, headT id false alg tgt = H := ⟨_, rfl⟩
      have eH2 : headT id false alg tgt = _ := rfl
      rw [eH] at b5
      refine .intro (fun m ρ h' => Ab.Sub hb h' ∧ ∃ (i : Nat), i ≤ rules.length ∧ m = rules.length - i ∧ lk ρ 1 = some (.ptr ip 0) ∧ lk ρ 3 = some (.s (H ++ ((rules.take i).map ruleT).flatten)) ∧ lk ρ 26 = some (.sl (rules.map ruleA) .no) ∧ lk ρ 27 = some (.v (.int .i64 rules.length)) ∧ lk ρ 28 = some (.v (.int .i64 i))) rules.length ?_ ?_
      · refine ⟨.refl _, 0, by omega, rfl, ?_, ?_, ?_, ?_, ?_⟩
        rotate_left 1
        · simp -implicitDefEqProofs only [go_sem]
          rw [← eH]
          simp [headT]
        all_goals simp -implicitDefEqProofs only [go_sem]
      · rintro m ρ h' ⟨hs, i, hil, rfl, r1, r3, r26, r27, r28⟩
        simp -implicitDefEqProofs only [go_sem, r1, r3, r26, r27, r28]
        refine .intro (fun e => ?_) (fun e => ?_)
        · have hlt : i < rules.length := Int.ofNat_lt.1 (of_decide_eq_true e)
          have w1 : IntKind.i64.wrap ((i : Int) + 1) = ((i + 1 : Nat) : Int) := by rw [wr64 _ (by omega)]; omega
          have hr1 := g6 _ (List.getElem_mem hlt)
          have hr2 := ruleT_le hr1 (i2 _ (List.getElem_mem hlt))
          have hrl1 := hrl i
          simp -implicitDefEqProofs only [go_sem, r1, r3, r26, r27, r28]
          refine .at i (by simpa using hlt) (by rw [List.getElem_map]; rfl) ?_
          simp -implicitDefEqProofs only [go_sem, r1, r3, r26, r27, r28, List.getElem_map, ruleA]
          intro ir hir
          have fr := fun hh hp => srule_ok Q rules[i] hr1 (i2 _ (List.getElem_mem hlt)) hh hp
          simp only [ruleA] at fr
          simp -implicitDefEqProofs only [go_sem, r1, r3, r26, r27, r28]
          refine (fr _ ((ht.sub (hs0.trans hs)).sub (.upd_new hir))).pthen ?_
          simp -implicitDefEqProofs only [go_sem, r1, r3, r26, r27, r28, w1]
          refine ⟨by simp only [List.length_append]; omega, ?_⟩
          refine ⟨_, ?_, hs.new hir _, i + 1, by omega, rfl, ?_, ?_, ?_, ?_, ?_⟩
          · omega
          · simp -implicitDefEqProofs only [go_sem, r1, r3, r26, r27, r28, w1]
          · simp -implicitDefEqProofs only [go_sem]
            rw [flat_take _ _ _ hlt, List.append_assoc]
          all_goals simp -implicitDefEqProofs only [go_sem, r1, r3, r26, r27, r28, w1]
        · have hge : i = rules.length := by have := of_decide_eq_false e; omega
          subst hge
          rw [List.take_length] at r3
          have hipi := hs _ _ hbip
          have hrl1 := hrl rules.length
          rw [List.take_length] at hrl1
          simp -implicitDefEqProofs only [go_sem, r1, r3, r26, r27, r28, hipi, kidsA_eq, List.length_map]
          obtain ⟨H2, eH2⟩ : ∃ H2, H ++ (rules.map ruleT).flatten = H2 := ⟨_, rfl⟩
          have hH2 : H2.length ≤ 2068000 := by rw [← eH2]; simp only [List.length_append]; omega
          rw [eH2] at r3
          refine .intro (fun m ρ h'' => Ab.Sub hb h'' ∧ ∃ (i : Nat), i ≤ kids.length ∧ m = kids.length - i ∧ lk ρ 1 = some (.ptr ip 0) ∧ lk ρ 3 = some (.s (H2 ++ ((kids.take i).map kidT).flatten)) ∧ lk ρ 38 = some (.sl (kids.map polA) .no) ∧ lk ρ 39 = some (.v (.int .i64 kids.length)) ∧ lk ρ 40 = some (.v (.int .i64 i))) kids.length ?_ ?_
          · refine ⟨hs, 0, by omega, rfl, ?_, ?_, ?_, ?_, ?_⟩
            rotate_left 1
            · simp -implicitDefEqProofs only [go_sem, r3]
              simp
            all_goals simp -implicitDefEqProofs only [go_sem, r1, r3]
          · rintro m ρ h'' ⟨hs, i, hil, rfl, r1, r3, r38, r39, r40⟩
            simp -implicitDefEqProofs only [go_sem, r1, r3, r38, r39, r40]
            refine .intro (fun e => ?_) (fun e => ?_)
            · have hlt : i < kids.length := Int.ofNat_lt.1 (of_decide_eq_true e)
              have w1 : IntKind.i64.wrap ((i : Int) + 1) = ((i + 1 : Nat) : Int) := by rw [wr64 _ (by omega)]; omega
              have hk1 := hkl _ (List.getElem_mem hlt)
              have hk2 := hkf i
              have fk := fun h ht => rec' kids[i] (List.getElem_mem hlt) h ht
              cases hki' : kids[i] with
              | mk kid kset kalg ktgt krules kkids kobls =>
              rw [hki'] at fk hk1
              simp only [polA, tgtA, oblsA] at fk
              simp -implicitDefEqProofs only [go_sem, r1, r3, r38, r39, r40]
              refine .at i (by simpa using hlt) (by rw [List.getElem_map]; exact polA_len _) ?_
              simp -implicitDefEqProofs only [go_sem, r1, r3, r38, r39, r40, List.getElem_map, hki', polA, tgtA, oblsA]
              intro ir hir
              simp -implicitDefEqProofs only [go_sem, r1, r3, r38, r39, r40]
              refine (fk _ ((ht.sub (hs0.trans hs)).sub (.upd_new hir))).pthen ?_
              simp -implicitDefEqProofs only [go_sem, r1, r3, r38, r39, r40, w1]
              refine ⟨by omega, by simp only [List.length_append, List.length_cons, List.length_nil]; omega, ?_⟩
              refine ⟨_, ?_, hs.new hir _, i + 1, by omega, rfl, ?_, ?_, ?_, ?_, ?_⟩
              · omega
              · simp -implicitDefEqProofs only [go_sem, r1, r3, r38, r39, r40, w1]
              · simp -implicitDefEqProofs only [go_sem]
                rw [flat_take _ _ _ hlt, hki']
                simp [kidT]
              all_goals simp -implicitDefEqProofs only [go_sem, r1, r3, r38, r39, r40, w1]
            · have hge : i = kids.length := by have := of_decide_eq_false e; omega
              subst hge
              rw [List.take_length] at r3
              have hipi := hs _ _ hbip
              have hk2 := hkf kids.length
              rw [List.take_length] at hk2
              have fd := sduties_ok obls g3 h''
              simp only [oblsA] at fd
              simp -implicitDefEqProofs only [go_sem, r1, r3, r38, r39, r40, hipi]
              refine ⟨by simp only [List.length_append, List.length_cons, List.length_nil]; omega, ?_⟩
              refine fd.pthen ?_
              simp -implicitDefEqProofs only [go_sem, r1, r3, r38, r39, r40, hipi]
              refine ⟨by simp only [List.length_append, List.length_cons, List.length_nil]; omega, ?_⟩
              refine .mk _ (.refl _) (hs0.trans hs) ⟨?_, rfl⟩
              simp only [oneOr, polT, kidsT_kid]
              rw [← eH2, ← eH]
              simp [headT]
    · simp -implicitDefEqProofs only [go_sem, hbip]
      refine .quiet (by kernel_rfl) ?_
      simp -implicitDefEqProofs only [go_sem, hbip]
      refine ⟨by omega, ?_⟩
      refine ⟨_, hwd, ?_⟩
      simp -implicitDefEqProofs only [go_sem, hbip]
      refine ⟨by simp only [List.length_append, List.length_cons, List.length_nil]; omega, ?_⟩
      refine ⟨_, f1, ?_⟩
      simp -implicitDefEqProofs only [go_sem, hbip, List.length_map]
      refine ⟨by simp only [List.length_append, List.length_cons, List.length_nil]; omega, by simp only [List.length_append, List.length_cons, List.length_nil]; omega, by simp only [List.length_append, List.length_cons, List.length_nil]; omega, ?_⟩
      obtain ⟨H, eH⟩ : ∃ H, headT id true alg tgt = H := ⟨_, rfl⟩
      have eH2 : headT id true alg tgt = _ := rfl
      rw [eH] at b5
      refine .intro (fun m ρ h' => Ab.Sub hb h' ∧ ∃ (i : Nat), i ≤ rules.length ∧ m = rules.length - i ∧ lk ρ 1 = some (.ptr ip 0) ∧ lk ρ 3 = some (.s (H ++ ((rules.take i).map ruleT).flatten)) ∧ lk ρ 26 = some (.sl (rules.map ruleA) .no) ∧ lk ρ 27 = some (.v (.int .i64 rules.length)) ∧ lk ρ 28 = some (.v (.int .i64 i))) rules.length ?_ ?_
      · refine ⟨.refl _, 0, by omega, rfl, ?_, ?_, ?_, ?_, ?_⟩
        rotate_left 1
        · simp -implicitDefEqProofs only [go_sem]
          rw [← eH]
          simp [headT]
        all_goals simp -implicitDefEqProofs only [go_sem]
      · rintro m ρ h' ⟨hs, i, hil, rfl, r1, r3, r26, r27, r28⟩
        simp -implicitDefEqProofs only [go_sem, r1, r3, r26, r27, r28]
        refine .intro (fun e => ?_) (fun e => ?_)
        · have hlt : i < rules.length := Int.ofNat_lt.1 (of_decide_eq_true e)
          have w1 : IntKind.i64.wrap ((i : Int) + 1) = ((i + 1 : Nat) : Int) := by rw [wr64 _ (by omega)]; omega
          have hr1 := g6 _ (List.getElem_mem hlt)
          have hr2 := ruleT_le hr1 (i2 _ (List.getElem_mem hlt))
          have hrl1 := hrl i
          simp -implicitDefEqProofs only [go_sem, r1, r3, r26, r27, r28]
          refine .at i (by simpa using hlt) (by rw [List.getElem_map]; rfl) ?_
          simp -implicitDefEqProofs only [go_sem, r1, r3, r26, r27, r28, List.getElem_map, ruleA]
          intro ir hir
          have fr := fun hh hp => srule_ok Q rules[i] hr1 (i2 _ (List.getElem_mem hlt)) hh hp
          simp only [ruleA] at fr
          simp -implicitDefEqProofs only [go_sem, r1, r3, r26, r27, r28]
          refine (fr _ ((ht.sub (hs0.trans hs)).sub (.upd_new hir))).pthen ?_
          simp -implicitDefEqProofs only [go_sem, r1, r3, r26, r27, r28, w1]
          refine ⟨by simp only [List.length_append]; omega, ?_⟩
          refine ⟨_, ?_, hs.new hir _, i + 1, by omega, rfl, ?_, ?_, ?_, ?_, ?_⟩
          · omega
          · simp -implicitDefEqProofs only [go_sem, r1, r3, r26, r27, r28, w1]
          · simp -implicitDefEqProofs only [go_sem]
            rw [flat_take _ _ _ hlt, List.append_assoc]
          all_goals simp -implicitDefEqProofs only [go_sem, r1, r3, r26, r27, r28, w1]
        · have hge : i = rules.length := by have := of_decide_eq_false e; omega
          subst hge
          rw [List.take_length] at r3
          have hipi := hs _ _ hbip
          have hrl1 := hrl rules.length
          rw [List.take_length] at hrl1
          simp -implicitDefEqProofs only [go_sem, r1, r3, r26, r27, r28, hipi, kidsA_eq, List.length_map]
          obtain ⟨H2, eH2⟩ : ∃ H2, H ++ (rules.map ruleT).flatten = H2 := ⟨_, rfl⟩
          have hH2 : H2.length ≤ 2068000 := by rw [← eH2]; simp only [List.length_append]; omega
          rw [eH2] at r3
          refine .intro (fun m ρ h'' => Ab.Sub hb h'' ∧ ∃ (i : Nat), i ≤ kids.length ∧ m = kids.length - i ∧ lk ρ 1 = some (.ptr ip 0) ∧ lk ρ 3 = some (.s (H2 ++ ((kids.take i).map kidT).flatten)) ∧ lk ρ 38 = some (.sl (kids.map polA) .no) ∧ lk ρ 39 = some (.v (.int .i64 kids.length)) ∧ lk ρ 40 = some (.v (.int .i64 i))) kids.length ?_ ?_
          · refine ⟨hs, 0, by omega, rfl, ?_, ?_, ?_, ?_, ?_⟩
            rotate_left 1
            · simp -implicitDefEqProofs only [go_sem, r3]
              simp
            all_goals simp -implicitDefEqProofs only [go_sem, r1, r3]
          · rintro m ρ h'' ⟨hs, i, hil, rfl, r1, r3, r38, r39, r40⟩
            simp -implicitDefEqProofs only [go_sem, r1, r3, r38, r39, r40]
            refine .intro (fun e => ?_) (fun e => ?_)
            · have hlt : i < kids.length := Int.ofNat_lt.1 (of_decide_eq_true e)
              have w1 : IntKind.i64.wrap ((i : Int) + 1) = ((i + 1 : Nat) : Int) := by rw [wr64 _ (by omega)]; omega
              have hk1 := hkl _ (List.getElem_mem hlt)
              have hk2 := hkf i
              have fk := fun h ht => rec' kids[i] (List.getElem_mem hlt) h ht
              cases hki' : kids[i] with
              | mk kid kset kalg ktgt krules kkids kobls =>
              rw [hki'] at fk hk1
              simp only [polA, tgtA, oblsA] at fk
              simp -implicitDefEqProofs only [go_sem, r1, r3, r38, r39, r40]
              refine .at i (by simpa using hlt) (by rw [List.getElem_map]; exact polA_len _) ?_
              simp -implicitDefEqProofs only [go_sem, r1, r3, r38, r39, r40, List.getElem_map, hki', polA, tgtA, oblsA]
              intro ir hir
              simp -implicitDefEqProofs only [go_sem, r1, r3, r38, r39, r40]
              refine (fk _ ((ht.sub (hs0.trans hs)).sub (.upd_new hir))).pthen ?_
              simp -implicitDefEqProofs only [go_sem, r1, r3, r38, r39, r40, w1]
              refine ⟨by omega, by simp only [List.length_append, List.length_cons, List.length_nil]; omega, ?_⟩
              refine ⟨_, ?_, hs.new hir _, i + 1, by omega, rfl, ?_, ?_, ?_, ?_, ?_⟩
              · omega
              · simp -implicitDefEqProofs only [go_sem, r1, r3, r38, r39, r40, w1]
              · simp -implicitDefEqProofs only [go_sem]
                rw [flat_take _ _ _ hlt, hki']
                simp [kidT]
              all_goals simp -implicitDefEqProofs only [go_sem, r1, r3, r38, r39, r40, w1]
            · have hge : i = kids.length := by have := of_decide_eq_false e; omega
              subst hge
              rw [List.take_length] at r3
              have hipi := hs _ _ hbip
              have hk2 := hkf kids.length
              rw [List.take_length] at hk2
              have fd := sduties_ok obls g3 h''
              simp only [oblsA] at fd
              simp -implicitDefEqProofs only [go_sem, r1, r3, r38, r39, r40, hipi]
              refine ⟨by simp only [List.length_append, List.length_cons, List.length_nil]; omega, ?_⟩
              refine fd.pthen ?_
              simp -implicitDefEqProofs only [go_sem, r1, r3, r38, r39, r40, hipi]
              refine ⟨by simp only [List.length_append, List.length_cons, List.length_nil]; omega, ?_⟩
              refine .mk _ (.refl _) (hs0.trans hs) ⟨?_, rfl⟩
              simp only [oneOr, polT, kidsT_kid]
              rw [← eH2, ← eH]
              simp [headT]
theorem spolicy_ok (Q : Quoted) (p : PolD) (hi : inP p) (h : Heap) (ht : PowT h) : FnOK Tryz.prog 9 [polA p] h fun x h' => x = .s (showP p) ∧ h' = h := by
  have hr := fun h => right_ok p h
  have hx := fun hp h ht => stext_ok Q 4 1 p h rfl hp hi ht
  cases p with
  | mk id set alg tgt rules kids obls =>
  refine FnOK.body hU hm Tryz.func9 rfl (by kernel_rfl) 8 rfl [.tmp 2] rfl (Nat.le_of_ble_eq_true rfl) (fun hwf => ?_)
  simp -implicitDefEqProofs only [go_sem, polA, tgtA, oblsA]
  intro ip hip
  simp only [polA, tgtA, oblsA] at hr hx
  simp -implicitDefEqProofs only [go_sem]
  refine (hr _).pthen ?_
  cases d1 : (rightE (.mk id set alg tgt rules kids obls) != 0)
  case true =>
    have e1 : rightE (.mk id set alg tgt rules kids obls) ≠ 0 := by simpa using d1
    simp -implicitDefEqProofs only [go_sem, d1]
    exact .mk _ (.refl _) (.upd_new hip) ⟨by simp [showP, e1, oneOr], rfl⟩
  have e1 : rightE (.mk id set alg tgt rules kids obls) = 0 := by simpa using d1
  have hpe : polE 1 (.mk id set alg tgt rules kids obls) := by
    cases hw : polW ⟨[], 0⟩ 1 (.mk id set alg tgt rules kids obls) with
    | bad e =>
      have := polW_bad 4 1 _ _ e rfl hw
      rw [rightE, hw] at e1
      exact (this e1).elim
    | ok m => exact polW_ok _ _ _ _ hw
  simp -implicitDefEqProofs only [go_sem, d1]
  refine (hx hpe _ (ht.sub (.upd_new hip))).pthen ?_
  simp -implicitDefEqProofs only [go_sem]
  exact .mk _ (.refl _) (.upd_new hip) ⟨by simp [showP, e1, oneOr], rfl⟩
end Go.Proofs.YtdcchpbncckhlaaGreatDoor

set_option linter.unusedVariables false
namespace Go.Proofs
open Go.Shelf
def Tryz.lays167_ren : Go.Shelf.Ren := ⟨fun | 166 => 55 | 167 => 77 | 169 => 56 | 240 => 78 | 276 => 90 | n => n, fun | 31 => 78 | 72 => 113 | 76 => 117 | 70 => 110 | 37 => 111 | 75 => 116 | 127 => 135 | 164 => 145 | 80 => 96 | n => n, fun | n => n⟩
theorem Tryz.lays167 : Go.Proofs.Lays.n167 Tryz.prog Tryz.lays167_ren := {
  mixed := by kernel_rfl
  f167 := Tryz.func77.trans (congrArg some (by kernel_rfl))
  f240 := Tryz.func78.trans (congrArg some (by kernel_rfl))
  f276 := Tryz.func90.trans (congrArg some (by kernel_rfl))
  t0 := Tryz.underlying0
  a0 := Tryz.isAgg0
  z0 := Tryz.sizeOf0
  v0 := Tryz.zeroValue0
  t4 := Tryz.underlying4
  a4 := Tryz.isAgg4
  z4 := Tryz.sizeOf4
  v4 := Tryz.zeroValue4
  t5 := Tryz.underlying5
  a5 := Tryz.isAgg5
  z5 := Tryz.sizeOf5
  v5 := Tryz.zeroValue5
  t9 := Tryz.underlying9
  a9 := Tryz.isAgg9
  z9 := Tryz.sizeOf9
  v9 := Tryz.zeroValue9
  t20 := Tryz.underlying20
  a20 := Tryz.isAgg20
  z20 := Tryz.sizeOf20
  v20 := Tryz.zeroValue20
  t37 := Tryz.underlying111
  a37 := Tryz.isAgg111
  z37 := Tryz.sizeOf111
  v37 := Tryz.zeroValue111
  t70 := Tryz.underlying110
  a70 := Tryz.isAgg110
  z70 := Tryz.sizeOf110
  v70 := Tryz.zeroValue110
  t72 := Tryz.underlying113
  a72 := Tryz.isAgg113
  z72 := Tryz.sizeOf113
  v72 := Tryz.zeroValue113
  t75 := Tryz.underlying116
  a75 := Tryz.isAgg116
  z75 := Tryz.sizeOf116
  v75 := Tryz.zeroValue116
  t164 := Tryz.underlying145
  a164 := Tryz.isAgg145
  z164 := Tryz.sizeOf145
  v164 := Tryz.zeroValue145
}
def Tryz.lays166_ren : Go.Shelf.Ren := ⟨fun | 166 => 55 | 167 => 77 | 169 => 56 | 240 => 78 | 276 => 90 | n => n, fun | 31 => 78 | 72 => 113 | 76 => 117 | 70 => 110 | 37 => 111 | 75 => 116 | 127 => 135 | 164 => 145 | 80 => 96 | n => n, fun | n => n⟩
theorem Tryz.lays166 : Go.Proofs.Lays.n166 Tryz.prog Tryz.lays166_ren := {
  mixed := by kernel_rfl
  f166 := Tryz.func55.trans (congrArg some (by kernel_rfl))
  f240 := Tryz.func78.trans (congrArg some (by kernel_rfl))
  f276 := Tryz.func90.trans (congrArg some (by kernel_rfl))
  t0 := Tryz.underlying0
  a0 := Tryz.isAgg0
  z0 := Tryz.sizeOf0
  v0 := Tryz.zeroValue0
  t3 := Tryz.underlying3
  a3 := Tryz.isAgg3
  z3 := Tryz.sizeOf3
  v3 := Tryz.zeroValue3
  t4 := Tryz.underlying4
  a4 := Tryz.isAgg4
  z4 := Tryz.sizeOf4
  v4 := Tryz.zeroValue4
  t9 := Tryz.underlying9
  a9 := Tryz.isAgg9
  z9 := Tryz.sizeOf9
  v9 := Tryz.zeroValue9
  t20 := Tryz.underlying20
  a20 := Tryz.isAgg20
  z20 := Tryz.sizeOf20
  v20 := Tryz.zeroValue20
  t37 := Tryz.underlying111
  a37 := Tryz.isAgg111
  z37 := Tryz.sizeOf111
  v37 := Tryz.zeroValue111
  t70 := Tryz.underlying110
  a70 := Tryz.isAgg110
  z70 := Tryz.sizeOf110
  v70 := Tryz.zeroValue110
  t72 := Tryz.underlying113
  a72 := Tryz.isAgg113
  z72 := Tryz.sizeOf113
  v72 := Tryz.zeroValue113
  t75 := Tryz.underlying116
  a75 := Tryz.isAgg116
  z75 := Tryz.sizeOf116
  v75 := Tryz.zeroValue116
  t164 := Tryz.underlying145
  a164 := Tryz.isAgg145
  z164 := Tryz.sizeOf145
  v164 := Tryz.zeroValue145
}
def Tryz.lays169_ren : Go.Shelf.Ren := ⟨fun | 166 => 55 | 167 => 77 | 169 => 56 | 240 => 78 | 276 => 90 | n => n, fun | 31 => 78 | 72 => 113 | 76 => 117 | 70 => 110 | 37 => 111 | 75 => 116 | 127 => 135 | 164 => 145 | 80 => 96 | n => n, fun | n => n⟩
theorem Tryz.lays169 : Go.Proofs.Lays.n169 Tryz.prog Tryz.lays169_ren := {
  mixed := by kernel_rfl
  f169 := Tryz.func56.trans (congrArg some (by kernel_rfl))
  t0 := Tryz.underlying0
  a0 := Tryz.isAgg0
  z0 := Tryz.sizeOf0
  v0 := Tryz.zeroValue0
  t3 := Tryz.underlying3
  a3 := Tryz.isAgg3
  z3 := Tryz.sizeOf3
  v3 := Tryz.zeroValue3
  t9 := Tryz.underlying9
  a9 := Tryz.isAgg9
  z9 := Tryz.sizeOf9
  v9 := Tryz.zeroValue9
  t37 := Tryz.underlying111
  a37 := Tryz.isAgg111
  z37 := Tryz.sizeOf111
  v37 := Tryz.zeroValue111
  t70 := Tryz.underlying110
  a70 := Tryz.isAgg110
  z70 := Tryz.sizeOf110
  v70 := Tryz.zeroValue110
  t72 := Tryz.underlying113
  a72 := Tryz.isAgg113
  z72 := Tryz.sizeOf113
  v72 := Tryz.zeroValue113
  t127 := Tryz.underlying135
  a127 := Tryz.isAgg135
  z127 := Tryz.sizeOf135
  v127 := Tryz.zeroValue135
}
theorem Tryz.Builder_Extra_167 : Builder.Extra Tryz.prog Tryz.lays167_ren where
  sizeBuilder := by kernel_rfl
  liesBuilder := by kernel_rfl
  t5 := Tryz.underlying5
  a5 := Tryz.isAgg5
  z5 := Tryz.sizeOf5
  v5 := Tryz.zeroValue5
  infoByte := by kernel_rfl
  cellsByte := by kernel_rfl
  sizeByte := by kernel_rfl
  neB5 := by decide
theorem Tryz.Builder_Extra_166 : Builder.Extra Tryz.prog Tryz.lays166_ren where
  sizeBuilder := by kernel_rfl
  liesBuilder := by kernel_rfl
  t5 := Tryz.underlying5
  a5 := Tryz.isAgg5
  z5 := Tryz.sizeOf5
  v5 := Tryz.zeroValue5
  infoByte := by kernel_rfl
  cellsByte := by kernel_rfl
  sizeByte := by kernel_rfl
  neB5 := by decide
theorem Tryz.Builder_Extra_169 : Builder.Extra Tryz.prog Tryz.lays169_ren where
  sizeBuilder := by kernel_rfl
  liesBuilder := by kernel_rfl
  t5 := Tryz.underlying5
  a5 := Tryz.isAgg5
  z5 := Tryz.sizeOf5
  v5 := Tryz.zeroValue5
  infoByte := by kernel_rfl
  cellsByte := by kernel_rfl
  sizeByte := by kernel_rfl
  neB5 := by decide
theorem Tryz.Builder_WriteByte_k (B b : Nat) (bs : List Value) (c : Int) (w : World) (h : Lib.IsBuilderF 113 5 B b bs w) (hlen : bs.length + 1 ≤ 140737488355328) (hBw : B ≤ w.heap.size) :
    Calls Tryz.prog 77 #[.pointer (some ⟨b, 0, none⟩), .int .u8 c] w fun e w' => e = .returned .nilIface ∧ (Lib.BuilderAtF 113 5 B b (.pointer (some ⟨b, 0, none⟩)) (bs ++ [.int .u8 c]) w' ∧ RowKit.Below B w w' ∧ Lib.OthersKept 5 (some b) w w') := Any.Builder_WriteByte_k Tryz.lays167 Tryz.Builder_Extra_167 B b bs c w h hlen hBw
theorem Tryz.Builder_WriteString_k (B b : Nat) (bs : List Value) (s : ByteArray) (w : World) (h : Lib.IsBuilderF 113 5 B b bs w) (hlen : bs.length + s.size ≤ 140737488355328) (hBw : B ≤ w.heap.size) :
    Calls Tryz.prog 55 #[.pointer (some ⟨b, 0, none⟩), .string s] w fun e w' => e = .returned (.tuple #[.int .i64 s.size, .nilIface]) ∧ (Lib.BuilderAtF 113 5 B b (.pointer (some ⟨b, 0, none⟩)) (bs ++ Lib.strCells s) w' ∧ RowKit.Below B w w' ∧ Lib.OthersKept 5 (some b) w w') := Any.Builder_WriteString_k Tryz.lays166 Tryz.Builder_Extra_166 B b bs s w h hlen hBw
theorem Tryz.Builder_String_k (B b : Nat) (l : List UInt8) (w : World) (h : Lib.IsBuilderF 113 5 B b (Lib.byteCells l) w) (h0 : l ≠ []) :
    Calls Tryz.prog 56 #[.pointer (some ⟨b, 0, none⟩)] w fun e w' => e = .returned (.string ⟨l.toArray⟩) ∧ (Lib.IsBuilderF 113 5 B b (Lib.byteCells l) w' ∧ RowKit.Below B w w' ∧ Lib.OthersKept 5 (some b) w w') := Any.Builder_String_k Tryz.lays169 Tryz.Builder_Extra_169 B b l w h h0
end Go.Proofs

namespace Go.Proofs
open Go.RowKit
def Tryz.quoteUpto (s : ByteArray) (k : Nat) : List UInt8 := [34] ++ ((s.data.toList.take k).map Bf.quoteB).flatten
set_option maxRecDepth 100000 in
theorem Tryz.low4 : ∀ c : Fin 256, bits BinOp.and IntKind.u8 (c.val : Int) 15 = ((c.val % 16 : Nat) : Int) := by decide
theorem Tryz.hexSlice (n : Nat) (hn : n < 16) (w : World) : (Instr.slice 9 (Value.string { data := #[48, 49, 50, 51, 52, 53, 54, 55, 56, 57, 97, 98, 99, 100, 101, 102] }) (some (.int .u8 (n : Int))) (some (.int .u8 (IntKind.u8.wrap ((n : Int) + 1)))) none).run Tryz.prog w = .ok (.string ⟨#[Bf.hexD n]⟩) w := by
  have e : IntKind.u8.wrap ((n : Int) + 1) = ((n + 1 : Nat) : Int) := by
    have : n = 0 ∨ n = 1 ∨ n = 2 ∨ n = 3 ∨ n = 4 ∨ n = 5 ∨ n = 6 ∨ n = 7 ∨ n = 8 ∨ n = 9 ∨ n = 10 ∨ n = 11 ∨ n = 12 ∨ n = 13 ∨ n = 14 ∨ n = 15 := by omega
    rcases this with rfl | rfl | rfl | rfl | rfl | rfl | rfl | rfl | rfl | rfl | rfl | rfl | rfl | rfl | rfl | rfl <;> decide
  rw [e, run_slice_string w 9 _ .u8 .u8 (n : Int) ((n + 1 : Nat) : Int) Tryz.underlying9 (by omega) (by omega) (by show ((n + 1 : Nat) : Int) ≤ 16; omega)]
  have : n = 0 ∨ n = 1 ∨ n = 2 ∨ n = 3 ∨ n = 4 ∨ n = 5 ∨ n = 6 ∨ n = 7 ∨ n = 8 ∨ n = 9 ∨ n = 10 ∨ n = 11 ∨ n = 12 ∨ n = 13 ∨ n = 14 ∨ n = 15 := by omega
  rcases this with rfl | rfl | rfl | rfl | rfl | rfl | rfl | rfl | rfl | rfl | rfl | rfl | rfl | rfl | rfl | rfl <;> rfl
theorem Tryz.quoteUpto_le (s : ByteArray) (k : Nat) (hk : k ≤ s.size) (hs : s.size ≤ 64) : (Tryz.quoteUpto s k).length ≤ 193 := by
  have : ∀ l : List UInt8, ((l.map Bf.quoteB).flatten).length ≤ 3 * l.length := fun l => by
    induction l with
    | nil => simp
    | cons c r ih =>
      have : (Bf.quoteB c).length ≤ 3 := by unfold Bf.quoteB; split <;> simp
      simp only [List.map_cons, List.flatten_cons, List.length_append, List.length_cons] at ih ⊢
      omega
  have h1 := this (s.data.toList.take k)
  have h2 : (s.data.toList.take k).length ≤ 64 := by
    have : s.size = s.data.toList.length := Array.length_toList.symm
    simp; omega
  unfold Tryz.quoteUpto
  simp only [List.length_append, List.length_cons, List.length_nil]
  omega
theorem Tryz.quoteUpto_succ (s : ByteArray) (k : Nat) (hk : k < s.size) : Tryz.quoteUpto s (k + 1) = Tryz.quoteUpto s k ++ Bf.quoteB s[k] := by
  have e : s.size = s.data.toList.length := Array.length_toList.symm
  have hk2 : k < s.data.toList.length := by omega
  unfold Tryz.quoteUpto
  rw [List.take_succ_eq_append_getElem hk2, List.map_append, List.flatten_append]
  simp only [List.map_cons, List.map_nil, List.flatten_cons, List.flatten_nil, List.append_nil, List.append_assoc]
  rfl
theorem Tryz.quoteUpto_all (s : ByteArray) : Tryz.quoteUpto s s.size ++ [34] = Bf.quoteT s.data.toList := by
  have e : s.size = s.data.toList.length := Array.length_toList.symm
  unfold Tryz.quoteUpto Bf.quoteT
  rw [e, List.take_length]
theorem Tryz.odd_cells (s : ByteArray) (k : Nat) (hk : k < s.size) (ho : Bf.oddB s[k] = true) :
    Lib.byteCells (Tryz.quoteUpto s k) ++ Lib.strCells (({ data := #[92] } : ByteArray) ++ { data := #[Bf.hexD (s[k].toNat / 16)] } ++ { data := #[Bf.hexD (s[k].toNat % 16)] }) = Lib.byteCells (Tryz.quoteUpto s (k + 1)) := by
  rw [Tryz.quoteUpto_succ s k hk, Lib.byteCells_append]
  congr 1
  rw [Bf.quoteB, if_pos ho]
  rfl
theorem Tryz.even_cells (s : ByteArray) (k : Nat) (hk : k < s.size) (ho : Bf.oddB s[k] = false) :
    Lib.byteCells (Tryz.quoteUpto s k) ++ [Value.int .u8 (s[k].toNat : Int)] = Lib.byteCells (Tryz.quoteUpto s (k + 1)) := by
  rw [Tryz.quoteUpto_succ s k hk, Lib.byteCells_append]
  congr 1
  rw [Bf.quoteB, if_neg (by simp [ho])]
  rfl
set_option maxHeartbeats 4000000 in
set_option maxRecDepth 1000000 in
theorem Tryz.quoted_walk (s : ByteArray) (w : World) (hs : s.size ≤ 64) :
    Calls Tryz.prog 52 #[.string s] w fun e w' => e = .returned (.string ⟨(Bf.quoteT s.data.toList).toArray⟩) ∧ Below w.heap.size w w' := by
  go_enter Tryz.func52, Tryz.ntmps52
  go_wp2_with (go_at_call 77; refine (Tryz.Builder_WriteByte_k w.heap.size w.heap.size [] 34 _ (Lib.IsBuilderF.of (Lib.fresh_isBuilder 113 5 w)) (by simp) (by simp)).mono ?_)
  rintro e W0 ⟨rfl, h0, b0, _⟩
  go_wp2
  go_loopw [9] (fun v wr => ∃ k : Nat, v = .int .i64 k ∧ k ≤ s.size ∧ Lib.IsBuilderF 113 5 w.heap.size w.heap.size (Lib.byteCells (Tryz.quoteUpto s k)) wr ∧ Below w.heap.size w wr) (fun v _ => s.size - (intOf v).toNat)
  case atStart =>
    refine ⟨0, rfl, by omega, ?_, ?_⟩
    · exact Or.inr h0
    · exact ((Below.refl _ w).alloc (Nat.le_refl _) _).trans b0
  case round =>
    obtain ⟨k, rfl, hk, hI, hbw⟩ := hrel
    by_cases hp : k < s.size
    · have hx1 : ∀ w, (Instr.slice 9 (Value.string { data := #[48, 49, 50, 51, 52, 53, 54, 55, 56, 57, 97, 98, 99, 100, 101, 102] }) (some (.int .u8 ((s[k].toNat : Int) / 16))) (some (.int .u8 (IntKind.u8.wrap ((s[k].toNat : Int) / 16 + 1)))) none).run Tryz.prog w = .ok (.string ⟨#[Bf.hexD (s[k].toNat / 16)]⟩) w :=
        fun w => Tryz.hexSlice (s[k].toNat / 16) (by have := s[k].toNat_lt; omega) w
      have hb : bits BinOp.and IntKind.u8 (s[k].toNat : Int) 15 = ((s[k].toNat % 16 : Nat) : Int) := Tryz.low4 ⟨s[k].toNat, s[k].toNat_lt⟩
      have hx2 : ∀ w, (Instr.slice 9 (Value.string { data := #[48, 49, 50, 51, 52, 53, 54, 55, 56, 57, 97, 98, 99, 100, 101, 102] }) (some (.int .u8 (bits BinOp.and IntKind.u8 (s[k].toNat : Int) 15))) (some (.int .u8 (IntKind.u8.wrap (bits BinOp.and IntKind.u8 (s[k].toNat : Int) 15 + 1)))) none).run Tryz.prog w = .ok (.string ⟨#[Bf.hexD (s[k].toNat % 16)]⟩) w := by
        intro w; rw [hb]; exact Tryz.hexSlice (s[k].toNat % 16) (by omega) w
      clear hb
      have hql := Tryz.quoteUpto_le s k hk hs
      by_cases d1 : (s[k].toNat : Int) < 32
      · go_wp2
        refine wp_region_still_tail 14 (by kernel_rfl) (by kernel_rfl) ?_
        simp only [List.take_succ_cons, List.take_zero, List.drop_succ_cons, List.drop_zero]
        (repeat still_step)
        try refine wpStill_nil ?_
        have hI2 : Lib.IsBuilderF 113 5 w.heap.size w.heap.size (Lib.byteCells (Tryz.quoteUpto s k)) wr.drew := hI
        have hbw2 : Below w.heap.size w wr.drew := hbw.drew
        change wpList _ _ _ _ _ wr.drew
        generalize wr.drew = w2 at hI2 hbw2 ⊢
        go_wp2_with (go_at_call 55; refine (Tryz.Builder_WriteString_k w.heap.size w.heap.size _ _ _ hI2 (by rw [Lib.byteCells_length]; show _ + 3 ≤ _; omega) hbw2.size).mono ?_)
        rintro e W1 ⟨rfl, h1, b1, _⟩
        go_wp2
        go_roundw
        case rel =>
          refine ⟨k + 1, by go_num, by omega, ?_, hbw2.trans b1⟩
          rw [← Tryz.odd_cells s k hp (by simp [Bf.oddB, d1])]
          exact Or.inr h1
        case measure => simp [intOf]; omega
      by_cases d2 : 126 < (s[k].toNat : Int)
      · go_wp2
        refine wp_region_still_tail 14 (by kernel_rfl) (by kernel_rfl) ?_
        simp only [List.take_succ_cons, List.take_zero, List.drop_succ_cons, List.drop_zero]
        (repeat still_step)
        try refine wpStill_nil ?_
        have hI2 : Lib.IsBuilderF 113 5 w.heap.size w.heap.size (Lib.byteCells (Tryz.quoteUpto s k)) wr.drew := hI
        have hbw2 : Below w.heap.size w wr.drew := hbw.drew
        change wpList _ _ _ _ _ wr.drew
        generalize wr.drew = w2 at hI2 hbw2 ⊢
        go_wp2_with (go_at_call 55; refine (Tryz.Builder_WriteString_k w.heap.size w.heap.size _ _ _ hI2 (by rw [Lib.byteCells_length]; show _ + 3 ≤ _; omega) hbw2.size).mono ?_)
        rintro e W1 ⟨rfl, h1, b1, _⟩
        go_wp2
        go_roundw
        case rel =>
          refine ⟨k + 1, by go_num, by omega, ?_, hbw2.trans b1⟩
          rw [← Tryz.odd_cells s k hp (by simp [Bf.oddB, d2])]
          exact Or.inr h1
        case measure => simp [intOf]; omega
      cases d3 : ((s[k].toNat : Int) == 34)
      case true =>
        go_wp2
        refine wp_region_still_tail 14 (by kernel_rfl) (by kernel_rfl) ?_
        simp only [List.take_succ_cons, List.take_zero, List.drop_succ_cons, List.drop_zero]
        (repeat still_step)
        try refine wpStill_nil ?_
        have hI2 : Lib.IsBuilderF 113 5 w.heap.size w.heap.size (Lib.byteCells (Tryz.quoteUpto s k)) wr.drew := hI
        have hbw2 : Below w.heap.size w wr.drew := hbw.drew
        change wpList _ _ _ _ _ wr.drew
        generalize wr.drew = w2 at hI2 hbw2 ⊢
        go_wp2_with (go_at_call 55; refine (Tryz.Builder_WriteString_k w.heap.size w.heap.size _ _ _ hI2 (by rw [Lib.byteCells_length]; show _ + 3 ≤ _; omega) hbw2.size).mono ?_)
        rintro e W1 ⟨rfl, h1, b1, _⟩
        go_wp2
        go_roundw
        case rel =>
          refine ⟨k + 1, by go_num, by omega, ?_, hbw2.trans b1⟩
          rw [← Tryz.odd_cells s k hp (by simp [Bf.oddB, d3])]
          exact Or.inr h1
        case measure => simp [intOf]; omega
      cases d4 : ((s[k].toNat : Int) == 92)
      case true =>
        go_wp2
        refine wp_region_still_tail 14 (by kernel_rfl) (by kernel_rfl) ?_
        simp only [List.take_succ_cons, List.take_zero, List.drop_succ_cons, List.drop_zero]
        (repeat still_step)
        try refine wpStill_nil ?_
        have hI2 : Lib.IsBuilderF 113 5 w.heap.size w.heap.size (Lib.byteCells (Tryz.quoteUpto s k)) wr.drew := hI
        have hbw2 : Below w.heap.size w wr.drew := hbw.drew
        change wpList _ _ _ _ _ wr.drew
        generalize wr.drew = w2 at hI2 hbw2 ⊢
        go_wp2_with (go_at_call 55; refine (Tryz.Builder_WriteString_k w.heap.size w.heap.size _ _ _ hI2 (by rw [Lib.byteCells_length]; show _ + 3 ≤ _; omega) hbw2.size).mono ?_)
        rintro e W1 ⟨rfl, h1, b1, _⟩
        go_wp2
        go_roundw
        case rel =>
          refine ⟨k + 1, by go_num, by omega, ?_, hbw2.trans b1⟩
          rw [← Tryz.odd_cells s k hp (by simp [Bf.oddB, d4])]
          exact Or.inr h1
        case measure => simp [intOf]; omega
      go_wp2_with (go_at_call 77; refine (Tryz.Builder_WriteByte_k w.heap.size w.heap.size _ _ _ hI (by rw [Lib.byteCells_length]; omega) hbw.size).mono ?_)
      rintro e W1 rfl h1 b1 _
      go_wp2
      go_roundw
      case rel =>
        refine ⟨k + 1, by go_num, by omega, ?_, hbw.trans b1⟩
        rw [← Tryz.even_cells s k hp (by simp [Bf.oddB, d1, d2, d3, d4])]
        exact Or.inr h1
      case measure => simp [intOf]; omega
    · have hk2 : k = s.size := by omega
      subst hk2
      have hql := Tryz.quoteUpto_le s s.size hk hs
      go_wp2_with (go_at_call 77; refine (Tryz.Builder_WriteByte_k w.heap.size w.heap.size _ _ _ hI (by rw [Lib.byteCells_length]; omega) hbw.size).mono ?_)
      rintro e W1 ⟨rfl, h1, b1, _⟩
      have e34 : Lib.byteCells (Tryz.quoteUpto s s.size) ++ [Value.int .u8 34] = Lib.byteCells (Bf.quoteT s.data.toList) := by
        rw [← Tryz.quoteUpto_all, Lib.byteCells_append]; rfl
      rw [e34] at h1
      go_wp2_with (go_at_call 56; refine (Tryz.Builder_String_k w.heap.size w.heap.size _ _ (Or.inr h1) (by simp [Bf.quoteT])).mono ?_)
      rintro e W2 ⟨rfl, _, b2, _⟩
      go_wp2
      go_ret
      exact ⟨rfl, (hbw.trans b1).trans b2⟩
end Go.Proofs

set_option linter.unusedSimpArgs false
set_option linter.unusedVariables false
namespace Go.Proofs.YtdcchpbncckhlaaGreatDoor
open Go Go.Ab Go.Bf
theorem quoted_ok : Quoted := fun s h hs => by
  refine .lib ⟨_, Tryz.func52, by kernel_rfl, rfl⟩ fun c vs hs' g h1 h2 => ?_
  obtain ⟨v, rfl⟩ : ∃ v, vs = #[v] := Array.size_eq_one_iff.1 h1
  have e : v = .string ⟨s.toArray⟩ := ((h2 0 (by simp)).s_inv).1
  subst e
  refine (Tryz.quoted_walk ⟨s.toArray⟩ c.w (by simpa [ByteArray.size] using hs)).mono ?_
  rintro e w' ⟨rfl, hb⟩
  have hl := quoteT_le s hs
  exact ⟨⟨_, rfl, fun c' _ => .s _ (by show (quoteT s).length < lim; have : (194 : Nat) < lim := by decide
                                       omega)⟩, hb⟩
end Go.Proofs.YtdcchpbncckhlaaGreatDoor

set_option linter.unusedSimpArgs false
set_option linter.unusedVariables false
namespace Go.Proofs.YtdcchpbncckhlaaGreatDoor
open Go Go.Ab Go.Bf
def runAttr : AttrD := ⟨3, [111, 119, 110, 101, 114], true⟩
def runPol : PolD := .mk [112] false 1 [] [⟨[114], true, [[[⟨runAttr, 1, ⟨5, 0, [97, 110, 110]⟩⟩], [⟨runAttr, 1, ⟨2, 1, []⟩⟩]]], [⟨1, ⟨1, 1, []⟩, ⟨0, [], false⟩⟩, ⟨11, ⟨0, 0, []⟩, ⟨0, [], false⟩⟩], []⟩] [] [⟨1, 1, [120]⟩]
theorem runPol_in : inP runPol := by
  simp [runPol, inP, inK, inT, inY, inA, inR, inL, inV]
set_option maxRecDepth 100000 in
theorem runPol_text : showP runPol = [112, 111, 108, 105, 99, 121, 32, 112, 32, 100, 101, 110, 121, 111, 118, 101, 114, 32, 123, 32, 100, 101, 110, 121, 32, 114, 32, 119, 104, 101, 110, 32, 40, 99, 97, 115, 101, 46, 111, 119, 110, 101, 114, 33, 32, 61, 32, 35, 97, 110, 110, 32, 111, 114, 32, 99, 97, 115, 101, 46, 111, 119, 110, 101, 114, 33, 32, 61, 32, 49, 41, 32, 105, 102, 32, 40, 110, 111, 116, 32, 116, 114, 117, 101, 41, 59, 32, 125, 32, 111, 110, 32, 112, 101, 114, 109, 105, 116, 32, 108, 111, 103, 32, 120] := by
  kernel_rfl
theorem showRuns_ok (h : Heap) (ht : PowT h) : FnOK Tryz.prog 8 [] h fun r h' => r = .v (.bool true) ∧ h' = h := by
  refine FnOK.body hU hm Tryz.func8 rfl (by kernel_rfl) 30 rfl [.tmp 0] rfl (Nat.le_of_ble_eq_true rfl) (fun hwf => ?_)
  simp -implicitDefEqProofs only [go_sem]
  intro i1 h1
  simp -implicitDefEqProofs only [go_sem]
  intro i2 h2
  simp -implicitDefEqProofs only [go_sem]
  intro i3 h3
  simp -implicitDefEqProofs only [go_sem]
  have hp := fun hh hs => spolicy_ok quoted_ok runPol runPol_in hh (ht.sub hs)
  rw [runPol_text] at hp
  refine FnOK.strip ?_
  have e : ∀ (a : List AV) (k : Heap), a = [polA runPol] → FnOK Tryz.prog 9 [polA runPol] k = FnOK Tryz.prog 9 a k := fun a k e => by rw [e]
  rw [← e _ _ (by simp [strip, stripL, polA, runPol, runAttr, kidsA, ruleA, tgtA, anyA, allA, matchA, condA, nodeA, oblsA, oblA])]
  refine (hp _ (((Sub.upd_new h1).trans (.upd_new h2)).trans (.upd_new h3))).pthen ?_
  simp -implicitDefEqProofs only [go_sem, List.append_eq, List.cons_append, List.nil_append, List.length_cons, List.length_nil, decide_true, Nat.zero_add]
  exact .mk _ (.refl _) (((Sub.upd_new h1).trans (.upd_new h2)).trans (.upd_new h3)) ⟨rfl, rfl⟩
end Go.Proofs.YtdcchpbncckhlaaGreatDoor

set_option linter.unusedSimpArgs false
set_option linter.unusedVariables false
namespace Go.Proofs.YtdcchpbncckhlaaGreatDoor
open Go Go.Ab Go.Bf
theorem parse_at {s s' : Txt} (e : s = s') {h : Heap} (he : ErrT h) {x : PolD × Int × Int} (ex : parseD s' = x) {Q : AV → Heap → Prop} (k : Q (parsedA x) h) : FnOK Tryz.prog 10 [.s s] h Q := by
  subst e
  subst ex
  exact (parse_ok s h he).pthen k
def startH (ev : Value) : Heap := tabH [(1, pow10V), (3, [ev])]
theorem start_err {ev : Value} (hev : ev = .nilIface ∨ ∃ te pe, ev = .iface te pe) : ErrT (startH ev) := ⟨ev, hev, 1, rfl⟩
theorem start_pow (ev : Value) : PowT (startH ev) := ⟨0, rfl⟩
theorem show_at {p : PolD} {t : Txt} (hi : inP p) (ht : showP p = t) {h : Heap} (hp : PowT h) {Q : AV → Heap → Prop} (k : Q (.s t) h) : FnOK Tryz.prog 9 [polA p] h Q := by
  subst ht
  exact (spolicy_ok quoted_ok p hi h hp).pthen k
end Go.Proofs.YtdcchpbncckhlaaGreatDoor

set_option linter.unusedSimpArgs false
set_option linter.unusedVariables false
namespace Go.Proofs.YtdcchpbncckhlaaGreatDoor
open Go Go.Ab Go.Bf
def partP (t : TgtD) (l : List NodeD) : PolD := .mk [112] false 3 [] [⟨[114], false, t, l, []⟩] [] []
theorem itoa_ne (n : Int) : Lib.itoa n ≠ [] := by
  by_cases h : n < 0
  · obtain ⟨u, hu, rfl⟩ : ∃ u : Nat, 1 ≤ u ∧ n = -(u : Int) := ⟨n.natAbs, by omega, by omega⟩
    rw [Lib.itoa_neg u hu]; simp
  · obtain ⟨u, rfl⟩ := Int.eq_ofNat_of_zero_le (Int.not_lt.1 h)
    rw [Lib.itoa_nonneg u]
    obtain ⟨_, _, ⟨c, l, h3, _⟩, _⟩ := decDigits_form (u + 1) u (by omega)
    rw [h3]; simp
theorem valT_ne (v : ValD) : Bf.valT v ≠ [] := by
  unfold Bf.valT
  (repeat' split) <;> first | exact itoa_ne _ | (simp [quoteT]; done) | (cases hb : (v.n == 1) <;> decide)
theorem attrT_ne (a : AttrD) : attrT a ≠ [] := by simp [attrT]
theorem stepT_ne {st : List Txt} {n : NodeD} (h : ∀ s ∈ st, s ≠ []) : ∀ s ∈ Bf.stepT st n, s ≠ [] := by
  unfold Bf.stepT
  intro s hs
  split at hs
  · rcases List.mem_append.1 hs with hs | hs
    · exact h s hs
    · rw [List.mem_singleton.1 hs]; exact valT_ne _
  · split at hs
    · rcases List.mem_append.1 hs with hs | hs
      · exact h s hs
      · rw [List.mem_singleton.1 hs]; exact attrT_ne _
    · rcases List.mem_append.1 hs with hs | hs
      · exact h s (List.mem_of_mem_take hs)
      · rw [List.mem_singleton.1 hs]; simp
theorem stepsT_ne : ∀ (l : List NodeD) (st : List Txt), (∀ s ∈ st, s ≠ []) → ∀ s ∈ l.foldl Bf.stepT st, s ≠ []
  | [], st, h => h
  | n :: r, st, h => stepsT_ne r _ (stepT_ne h)
theorem exprT_ne {l : List NodeD} (h : exprE l = 0) (hn : l ≠ []) (hi : inL l) : exprT l ≠ [] := by
  have h1 := (exprE_zero h hn).2
  have h2 := (stepsT_tot l [] [false] [] h1 hi rfl).1
  have h3 := stepsT_ne l [] (fun s hs => by cases hs)
  unfold exprT
  cases hf : l.foldl Bf.stepT [] with
  | nil => rw [hf] at h2; cases h2
  | cons s r => rw [hf] at h3; exact h3 s (List.mem_cons_self ..)
theorem part_right {t : TgtD} {l : List NodeD} (h : rightE (partP t l) = 0) : exprE l = 0 := by
  have := (right_form h).1
  simp only [partP, polE] at this
  exact (this.2.2.2.2.2.2.2.2.2.2.1 _ (List.mem_singleton.2 rfl)).2.2.1
theorem part_show {t : TgtD} {l : List NodeD} (h : rightE (partP t l) = 0) (hn : l ≠ []) : ∃ pre, polT (partP t l) = pre ++ ([32, 105, 102, 32] ++ exprS l ++ [59, 32, 125]) := by
  have he := part_right h
  refine ⟨[112, 111, 108, 105, 99, 121, 32] ++ ([112] ++ [32] ++ algW 3 ++ tgtT [] ++ [32, 123]) ++ ([32, 112, 101, 114, 109, 105, 116, 32] ++ ([114] ++ tgtT t)), ?_⟩
  simp [partP, polT, kidsT, ruleT, oblsT, exprS, hn, he]
theorem part_in {t : TgtD} {l : List NodeD} (ht : inT t) (hl : inL l) : inP (partP t l) := by
  show inT [] ∧ (∀ r ∈ [(⟨[114], false, t, l, []⟩ : RuleD)], inR r) ∧ inK []
  refine ⟨fun a ha => (by cases ha), fun r hr => ?_, trivial⟩
  rw [List.mem_singleton.1 hr]; exact ⟨ht, hl⟩
theorem exprS_nil (l : List NodeD) (he : exprE l = 0) (hi : inL l) : exprS l = [] ↔ l = [] := by
  unfold exprS
  by_cases hn : l = []
  · simp [hn]
  · simp [hn, he, exprT_ne he hn hi]
theorem exprS_le {l : List NodeD} (hi : inL l) : (exprS l).length ≤ 6240 := by
  unfold exprS
  split
  · simp
  · rename_i h
    exact exprT_le (by rw [not_or] at h; simpa using h.2) hi
theorem stripL_map {α : Type} {f : α → AV} (h : ∀ a, strip (f a) = f a) : ∀ l : List α, stripL (l.map f) = l.map f
  | [] => rfl
  | a :: r => by simp [stripL, h a, stripL_map h r]
theorem strip_all (l : List MatchD) : strip (allA l) = allA l := by
  simp only [allA, strip]
  rw [stripL_map fun a => by simp [matchA, strip, stripL]]
theorem strip_any (l : List (List MatchD)) : strip (anyA l) = anyA l := by
  simp only [anyA, strip]
  rw [stripL_map strip_all]
theorem stripL_tgt (t : TgtD) : stripL (t.map anyA) = t.map anyA := stripL_map strip_any t
theorem stripL_cond (l : List NodeD) : stripL (l.map nodeA) = l.map nodeA := stripL_map (fun a => by simp [nodeA, strip, stripL]) l
theorem part_args (t : TgtD) (l : List NodeD) : stripL [AV.agg [.s [112], .v (.bool false), .v (.int .i64 3), .sl [] .full, .sl [.agg [.s [114], .v (.bool false), .sl (t.map anyA) .no, .sl (l.map nodeA) .no, .sl [] .full]] .full, .sl [] .full, .sl [] .full]] = [polA (partP t l)] := by
  simp [strip, stripL, stripL_tgt, stripL_cond, polA, partP, kidsA, ruleA, tgtA, condA, oblsA]
theorem eqL_node (l : List NodeD) : eqL eqNode l l = true := (eqL_eq eqNode_eq).2 rfl
theorem eqT_self (t : TgtD) : eqT t t = true := (eqT_eq t t).2 rfl
end Go.Proofs.YtdcchpbncckhlaaGreatDoor
namespace Go.Ab
open Go
theorem FnOK.as {P : Program} {f : FuncId} {args args' : List AV} {h : Heap} {Q : AV → Heap → Prop} (hf : FnOK P f args' h Q) (e : stripL args = args') : FnOK P f args h Q := by subst e; exact hf.strip
end Go.Ab
namespace Go.Proofs.YtdcchpbncckhlaaGreatDoor
open Go Go.Ab Go.Bf
theorem showParts_ok (x y : AV) (dx : Dat U 38 x) (dy : Dat U 23 y) (h : Heap) (he : ErrT h) (hp : PowT h) : FnOK Tryz.prog 5 [x, y] h fun r h' => r = .v (.bool true) ∧ h' = h := by
  obtain ⟨l0, rfl, hl0⟩ := dat_cond dx
  obtain ⟨t, rfl, ht⟩ := dat_tgt dy
  have hlim : lim = 9223372036854775808 := rfl
  refine FnOK.body hU hm Tryz.func5 rfl (by kernel_rfl) 110 rfl [.tmp 4] rfl (Nat.le_of_ble_eq_true rfl) (fun hwf => ?_)
  obtain ⟨m, hm, hm2, hm3⟩ : ∃ m : Nat, (if (32 : Int) < (l0.length : Int) then (32 : Int) else (l0.length : Int)) = (m : Int) ∧ m ≤ 32 ∧ m ≤ l0.length := by
    by_cases e : (32 : Int) < (l0.length : Int)
    · exact ⟨32, by rw [if_pos e]; rfl, by omega, by omega⟩
    · exact ⟨l0.length, by rw [if_neg e], by omega, by omega⟩
  simp -implicitDefEqProofs only [go_sem, condA, tgtA, List.length_map, hm]
  refine ⟨by omega, by omega, ?_⟩
  rw [← List.map_take]
  have hl : inL (l0.take m) := fun n hn => hl0 n (List.mem_of_mem_take hn)
  have hlen : (l0.take m).length ≤ 32 := by simp; omega
  generalize l0.take m = l at hl hlen
  intro i1 h1
  simp -implicitDefEqProofs only [go_sem]
  intro i2 h2
  simp -implicitDefEqProofs only [go_sem]
  have s2 : ∀ b c, Ab.Sub h (upd (upd h i1 b) i2 c) := fun b c => (Sub.upd_new h1).put (by
    have := h2
    rw [upd_other _ _ (ne_upd h2)] at this; exact this) c
  refine FnOK.as (args' := [polA (partP t l)]) ?_ (part_args t l)
  refine (small_ok (partP t l) _).mono fun r H hh => ?_
  obtain ⟨⟨b, hb⟩, hH⟩ := hh
  subst hb
  subst hH
  cases b
  · simp -implicitDefEqProofs only [go_sem]
    refine (showRuns_ok _ (hp.sub (s2 _ _))).pthen ?_
    simp -implicitDefEqProofs only [go_sem]
    exact .mk _ (.refl _) (s2 _ _) ⟨rfl, rfl⟩
  simp -implicitDefEqProofs only [go_sem]
  refine FnOK.as (args' := [polA (partP t l)]) ?_ (part_args t l)
  refine (right_ok (partP t l) _).pthen ?_
  cases d2 : (rightE (partP t l) == (0 : Int))
  · simp -implicitDefEqProofs only [go_sem, d2, bne]
    refine (showRuns_ok _ (hp.sub (s2 _ _))).pthen ?_
    simp -implicitDefEqProofs only [go_sem]
    exact .mk _ (.refl _) (s2 _ _) ⟨rfl, rfl⟩
  have hr : rightE (partP t l) = 0 := by simpa using d2
  have hs : showP (partP t l) = polT (partP t l) := by unfold showP; rw [if_pos hr]
  have hin := part_in ht hl
  have hee := part_right hr
  have hsl := exprS_le hl
  simp -implicitDefEqProofs only [go_sem, d2, bne]
  refine (show FnOK Tryz.prog 12 [_] _ _ from sexpr_ok quoted_ok l hl _ (hp.sub (s2 _ _))).pthen ?_
  simp -implicitDefEqProofs only [go_sem]
  refine FnOK.as (args' := [polA (partP t l)]) ?_ (part_args t l)
  refine show_at (p := partP t l) hin hs (hp.sub (s2 _ _)) ?_
  simp -implicitDefEqProofs only [go_sem]
  cases d3 : decide ((0 : Int) < (l.length : Int))
  · have hn : l = [] := List.length_eq_zero_iff.1 (by have := of_decide_eq_false d3; omega)
    simp -implicitDefEqProofs only [go_sem, d3, List.length_map]
    have hb := fun hl => parse_show hr hin hl
    cases d4 : decide ((4096 : Int) < ((polT (partP t l)).length : Int))
    · refine parse_at rfl (he.sub (s2 _ _)) (hb (by have := of_decide_eq_false d4; omega)) ?_
      have eP : parsedA (partP t l, 0, 0) = .tup [.agg [.s [112], .v (.bool false), .v (.int .i64 3), .sl [] .no, .sl [.agg [.s [114], .v (.bool false), .sl (t.map anyA) .no, .sl (l.map nodeA) .no, .sl [] .no]] .no, .sl [] .no, .sl [] .no], .v (.int .i64 0), .v (.int .i64 0)] := rfl
      rw [eP]
      simp -implicitDefEqProofs only [go_sem]
      intro i3 h3
      have s3 : ∀ b, Ab.Sub h (upd (upd (upd h i1 _) i2 _) i3 b) := fun b => (s2 _ _).new h3 b
      have d5 : (exprS l == ([] : Txt)) = true := by rw [beq_iff_eq]; exact (exprS_nil l hee hl).2 hn
      have d6 : ((l.length : Int) == 0) = true := by rw [hn]; rfl
      have sn := sameNode_ok l l
      have st := targets_ok t t
      rw [eqL_node, condA] at sn
      rw [eqT_self, tgtA] at st
      simp -implicitDefEqProofs only [go_sem, d4, d5, d6, List.length_map, List.length_cons, List.length_nil]
      refine .at 0 (by simp) rfl ?_
      simp -implicitDefEqProofs only [go_sem, List.getElem_cons_zero]
      refine (sn _).pthen ?_
      simp -implicitDefEqProofs only [go_sem]
      refine .at 0 (by simp) rfl ?_
      simp -implicitDefEqProofs only [go_sem, List.getElem_cons_zero]
      refine (st _).pthen ?_
      simp -implicitDefEqProofs only [go_sem]
      refine (showRuns_ok _ (hp.sub (s3 _))).pthen ?_
      simp -implicitDefEqProofs only [go_sem]
      exact .mk _ (.refl _) (s3 _) ⟨rfl, rfl⟩
    · have hl2 := parse_long (s := polT (partP t l)) (by have := of_decide_eq_true d4; omega)
      refine parse_at rfl (he.sub (s2 _ _)) hl2 ?_
      have eZ : parsedA (zeroP, 6, 4096) = .tup [.agg [.s [], .v (.bool false), .v (.int .i64 0), .sl [] .no, .sl [] .no, .sl [] .no, .sl [] .no], .v (.int .i64 6), .v (.int .i64 4096)] := rfl
      rw [eZ]
      simp -implicitDefEqProofs only [go_sem]
      intro i3 h3
      have s3 : ∀ b, Ab.Sub h (upd (upd (upd h i1 _) i2 _) i3 b) := fun b => (s2 _ _).new h3 b
      simp -implicitDefEqProofs only [go_sem, d4]
      refine (showRuns_ok _ (hp.sub (s3 _))).pthen ?_
      simp -implicitDefEqProofs only [go_sem]
      exact .mk _ (.refl _) (s3 _) ⟨rfl, rfl⟩
  · have hn : l ≠ [] := by rintro rfl; simp at d3
    obtain ⟨pre, hpre⟩ := part_show hr hn
    have hpt := polT_le 4 1 _ rfl (right_form hr).1 hin
    have hpb := polB_le
    have hlt : (polT (partP t l)).length = pre.length + ((exprS l).length + 7) := by rw [hpre]; simp
    have hle : (exprS l ++ [59, 32, 125]).length = (exprS l).length + 3 := by simp
    have d7 : decide (((polT (partP t l)).length : Int) < (((exprS l ++ [59, 32, 125]).length + 1 + 1 + 1 + 1 : Nat) : Int)) = false := decide_eq_false (by omega)
    have w1 : IntKind.i64.wrap (((polT (partP t l)).length : Int) - (((exprS l ++ [59, 32, 125]).length + 1 + 1 + 1 + 1 : Nat) : Int)) = (pre.length : Nat) := by rw [wr64 _ (by omega)]; omega
    have hdr : (polT (partP t l)).drop pre.length = [32, 105, 102, 32] ++ exprS l ++ [59, 32, 125] := by rw [hpre, List.drop_left]
    have hcut : (polT (partP t l)).drop pre.length = 32 :: 105 :: 102 :: 32 :: exprS l ++ [59, 32, 125] := hdr
    simp -implicitDefEqProofs only [go_sem, d3, List.length_map]
    refine ⟨by omega, by omega, ?_⟩
    simp -implicitDefEqProofs only [go_sem, d7, w1]
    refine ⟨by omega, by omega, by omega, ?_⟩
    simp -implicitDefEqProofs only [go_sem, Option.isSome_some, Option.isSome_none, cutL_tf, Int.toNat_natCast, hcut, List.cons_append, beq_self_eq_true, Bool.not_true]
    have hb := fun hl => parse_show hr hin hl
    cases d4 : decide ((4096 : Int) < ((polT (partP t l)).length : Int))
    · refine parse_at rfl (he.sub (s2 _ _)) (hb (by have := of_decide_eq_false d4; omega)) ?_
      have eP : parsedA (partP t l, 0, 0) = .tup [.agg [.s [112], .v (.bool false), .v (.int .i64 3), .sl [] .no, .sl [.agg [.s [114], .v (.bool false), .sl (t.map anyA) .no, .sl (l.map nodeA) .no, .sl [] .no]] .no, .sl [] .no, .sl [] .no], .v (.int .i64 0), .v (.int .i64 0)] := rfl
      rw [eP]
      simp -implicitDefEqProofs only [go_sem]
      intro i3 h3
      have s3 : ∀ b, Ab.Sub h (upd (upd (upd h i1 _) i2 _) i3 b) := fun b => (s2 _ _).new h3 b
      have d5 : (exprS l == ([] : Txt)) = false := by rw [beq_eq_false_iff_ne]; exact fun e => hn ((exprS_nil l hee hl).1 e)
      have d6 : ((l.length : Int) == 0) = false := by rw [beq_eq_false_iff_ne]; exact fun e => hn (List.length_eq_zero_iff.1 (by omega))
      have sn := sameNode_ok l l
      have st := targets_ok t t
      rw [eqL_node, condA] at sn
      rw [eqT_self, tgtA] at st
      simp -implicitDefEqProofs only [go_sem, d4, d5, d6, List.length_map, List.length_cons, List.length_nil]
      refine .at 0 (by simp) rfl ?_
      simp -implicitDefEqProofs only [go_sem, List.getElem_cons_zero]
      refine (sn _).pthen ?_
      simp -implicitDefEqProofs only [go_sem]
      refine .at 0 (by simp) rfl ?_
      simp -implicitDefEqProofs only [go_sem, List.getElem_cons_zero]
      refine (st _).pthen ?_
      simp -implicitDefEqProofs only [go_sem]
      refine (showRuns_ok _ (hp.sub (s3 _))).pthen ?_
      simp -implicitDefEqProofs only [go_sem]
      exact .mk _ (.refl _) (s3 _) ⟨rfl, rfl⟩
    · have hl2 := parse_long (s := polT (partP t l)) (by have := of_decide_eq_true d4; omega)
      refine parse_at rfl (he.sub (s2 _ _)) hl2 ?_
      have eZ : parsedA (zeroP, 6, 4096) = .tup [.agg [.s [], .v (.bool false), .v (.int .i64 0), .sl [] .no, .sl [] .no, .sl [] .no, .sl [] .no], .v (.int .i64 6), .v (.int .i64 4096)] := rfl
      rw [eZ]
      simp -implicitDefEqProofs only [go_sem]
      intro i3 h3
      have s3 : ∀ b, Ab.Sub h (upd (upd (upd h i1 _) i2 _) i3 b) := fun b => (s2 _ _).new h3 b
      simp -implicitDefEqProofs only [go_sem, d4]
      refine (showRuns_ok _ (hp.sub (s3 _))).pthen ?_
      simp -implicitDefEqProofs only [go_sem]
      exact .mk _ (.refl _) (s3 _) ⟨rfl, rfl⟩
theorem showParts_law (ev : Value) (hev : ev = .nilIface ∨ ∃ te pe, ev = .iface te pe) (x y : AV) (dx : Dat U 38 x) (dy : Dat U 23 y) : FnOK Tryz.prog 5 [x, y] (tabH [(1, pow10V), (3, [ev])]) fun r _ => r = .v (.bool true) := (showParts_ok x y dx dy _ (start_err hev) (start_pow ev)).mono fun _ _ h => h.1
end Go.Proofs.YtdcchpbncckhlaaGreatDoor
