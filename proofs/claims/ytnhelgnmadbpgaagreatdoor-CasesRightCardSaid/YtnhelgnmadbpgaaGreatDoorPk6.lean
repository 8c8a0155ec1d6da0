/- The law CasesRight: pack 6 of its texts. -/
import Derived.Lib.ItoaLen
import Derived.Test.YtnhelgnmadbpgaaGreatDoorPk1
import Derived.Test.YtnhelgnmadbpgaaGreatDoorPk2
import Derived.Test.YtnhelgnmadbpgaaGreatDoorPk3
import Derived.Test.YtnhelgnmadbpgaaGreatDoorPk4
import Derived.Test.YtnhelgnmadbpgaaGreatDoorPk5
set_option linter.unusedSimpArgs false
set_option linter.unusedVariables false
namespace Go.Proofs.YtnhelgnmadbpgaaGreatDoor
open Go Go.Ab Go.Bf
theorem frz_fin {g K : Heap} {S : StoreD} {y1 y2 y3 y4 : AV} {tk ver palg : Int} {pid : Txt} {pset : Bool} {ptgt : TgtD} {prules : List RuleD} {pkids : List PolD} {pobls : List OblD} (h1 : S.tick = tk) (h2 : S.policy = .mk pid pset palg ptgt prules pkids pobls) (h3 : S.version = ver)
    (a : Frz g K y1 (casesA S.cases)) (b : Frz g K y2 (revsA S.reviews)) (c : Frz g K y3 (notsA S.notices)) (d : Frz g K y4 (rolesA S.roles)) :
    Frz g K (.agg [.v (.int .i64 tk), y1, y2, y3, y4, .s pid, .v (.bool pset), .v (.int .i64 palg), tgtA ptgt, .sl (prules.map ruleA) .no, .sl (pkids.map polA) .no, oblsA pobls, .v (.int .i64 ver)]) (storeA S) := by
  have := frz_store a b c d
  rw [h1, h2, h3, show polC (.mk pid pset palg ptgt prules pkids pobls) = [.s pid, .v (.bool pset), .v (.int .i64 palg), tgtA ptgt, .sl (prules.map ruleA) .no, .sl (pkids.map polA) .no, oblsA pobls] by simp [polC, kidsA_eq]] at this
  exact this
theorem frz_rows {g h0 h : Heap} {y : AV} {xs ys : List AV} {cs : List CaseD} (hw : OwE 63 h0 h 5 y xs) (hg : Ab.Sub g h0) (hm : cs.map caseA = ys) (hn : xs.length = ys.length) (hx : ∀ j (a : j < xs.length) (b : j < ys.length), Frz g h xs[j] ys[j]) : Frz g h y (casesA cs) := by
  subst hm
  exact frz_cases hw hg (by simpa using hn) fun j h1 h2 => by have := hx j h1 (by simpa using h2); rw [List.getElem_map] at this; exact this
theorem frz_one {g h : Heap} {x y : AV} (hx : Frz g h x y) : ∀ i (a : i < [x].length) (b : i < [y].length), Frz g h [x][i] [y][i] := fun i a b => by
  obtain rfl : i = 0 := by simpa using a
  exact hx
theorem frz_mod {g H K : Heap} {z : AV} {xs : List AV} {cs : List CaseD} {j : Nat} {X : AV} {F : CaseD → CaseD} (hw : OwE 63 H K 5 z (xs.set j X)) (hg : Ab.Sub g H) (hn : xs.length = cs.length) (hj : j < cs.length) (hlo : ∀ k (h1 : k < xs.length) (h2 : k < cs.length), k ≠ j → xs[k] = caseA cs[k]) (hX : Frz g K X (caseA (F cs[j]))) : Frz g K z (casesA (cs.modify j F)) := by
  refine frz_cases hw hg (by simpa using hn) fun k h1 h2 => ?_
  have h1' : k < xs.length := by simpa using h1
  have h2' : k < cs.length := by simpa using h2
  by_cases e : k = j
  · subst e
    rw [List.getElem_set_self, List.getElem_modify_eq]
    exact hX
  · rw [List.getElem_set_ne (Ne.symm e), List.getElem_modify, if_neg (Ne.symm e), hlo k h1' h2' e]
    exact frz_case _
theorem flat_set {xs : List AV} {j : Nat} (hj : j < xs.length) (x : AV) : flatA (xs.set j x) = flatA (xs.take j) ++ (x.cells ++ flatA (xs.drop (j + 1))) := by
  rw [List.set_eq_take_append_cons_drop, if_pos hj, flatA_app]
  simp [flatA]
theorem flat_at {xs : List AV} {j : Nat} (hj : j < xs.length) : flatA xs = flatA (xs.take j) ++ (xs[j].cells ++ flatA (xs.drop (j + 1))) := by
  rw [← flat_set hj xs[j], List.set_getElem_self]
theorem ready_case {s : StoreD} {o : OpD} (h : readyD s o = 0) (hk : o.kind = 3 ∨ o.kind = 4) : thereD s.cases o.case = true := by
  cases e : thereD s.cases o.case
  · exfalso
    unfold readyD readyCaseD at h
    have : 2 ≤ o.kind ∧ o.kind ≤ 4 := by omega
    have : o.kind ≠ 1 := by omega
    split at h
    · cases h
    · simp only [e, if_true, *, if_false, and_self] at h
      cases h
  · rfl
theorem frz_caseL {g h0 h : Heap} {c : CaseD} {f l : AV} (a : OwE 84 h0 h 4 f (c.fields.map fieldA)) (b : OwE 119 h0 h 3 l (c.log.map hapA)) (hg : Ab.Sub g h0) : Frz g h (.agg [.s c.id, .s c.owner, .s c.state, f, l]) (caseA c) := by
  refine .agg _ _ rfl fun j h1 h2 => ?_
  rcases j with _ | _ | _ | _ | _ | j
  · exact .pure rfl
  · exact .pure rfl
  · exact .pure rfl
  · exact (a.less hg).frz (pureL_map (fun _ => rfl) _)
  · exact (b.less hg).frz (pureL_map (fun _ => rfl) _)
  · simp at h1; omega
set_option maxRecDepth 100000 in
theorem done_ok {h : Heap} {x : AV} {s : StoreD} (hb : RdS h x s) (o : OpD) (hf : Few s) (hp : polE 1 s.policy) (hr : i64 o.review) (ht : i64 s.tick) (hver : 0 ≤ s.version ∧ s.version ≤ 1000000) (he : ErrT h) :
    FnOK Tryz.prog 14 [x, opA o] h fun r h' => r = storeA (doneD parseD s o) ∧ h' = h :=
  FnOK.freeze fun g hg _ => by
  replace hb := hb.sub hg
  replace he := he.sub hg
  obtain ⟨i0, ei0⟩ : ∃ i0, (if o.kind = 1 then s.cases.length else findD s.cases o.case) = i0 := ⟨_, rfl⟩
  have hown := fun (G : Heap) (hG : Ab.Sub g G) => own_ok (hb.sub hG) i0 hf hp
  have hrdy := fun (G : Heap) (hG : Ab.Sub g G) => ready_ok (hb.sub hG) o hf hr ht
  obtain ⟨y1, y2, y3, y4, rfl, hb'⟩ := hb
  cases hpp : s.policy with
  | mk pid pset palg ptgt prules pkids pobls =>
  have hcC : polC (.mk pid pset palg ptgt prules pkids pobls) = [.s pid, .v (.bool pset), .v (.int .i64 palg), tgtA ptgt, .sl (prules.map ruleA) .no, .sl (pkids.map polA) .no, oblsA pobls] := by simp [polC, kidsA_eq]
  rw [hpp, hcC] at hown hrdy
  simp only [opA, opC, List.cons_append, List.nil_append] at hown hrdy
  refine FnOK.body hU hm Tryz.func14 rfl (by kernel_rfl) 138 rfl [.cell 4 34] rfl (Nat.le_of_ble_eq_true rfl) (fun hwf => ?_)
  simp -implicitDefEqProofs only [go_sem, hcC, opA, opC, List.cons_append, List.nil_append]
  intro i2 h2
  simp -implicitDefEqProofs only [go_sem]
  intro i3 h3
  have n32 := ne_upd h3
  have h3' := upd_none h3
  simp -implicitDefEqProofs only [go_sem, upd_ne, n32, n32.symm]
  intro i4 h4
  have n43 := ne_upd h4
  have h4a := upd_none h4
  have n42 := ne_upd h4a
  have h4' := upd_none h4a
  simp -implicitDefEqProofs only [go_sem, upd_ne, n32, n32.symm, n43, n43.symm, n42, n42.symm]
  obtain ⟨H, eH⟩ : ∃ H, upd (upd (upd g i2 (some (.obj [.v (.int .i64 s.tick), y1, y2, y3, y4, .s pid, .v (.bool pset), .v (.int .i64 palg), tgtA ptgt, .sl (prules.map ruleA) .no, .sl (pkids.map polA) .no, oblsA pobls, .v (.int .i64 s.version)] 34))) i3 (some (.obj (opC o) 40))) i4 (some (.obj [.v (.int .i64 0), .sl [] .full, .sl [] .full, .sl [] .full, .sl [] .full, .s [], .v (.bool false), .v (.int .i64 0), .sl [] .full, .sl [] .full, .sl [] .full, .sl [] .full, .v (.int .i64 0)] 34)) = H := ⟨_, rfl⟩
  have hH : Ab.Sub g H := by rw [← eH]; exact (((Sub.refl g).put h2 _).put h3' _).put h4' _
  have g2 : H i2 = some (.obj [.v (.int .i64 s.tick), y1, y2, y3, y4, .s pid, .v (.bool pset), .v (.int .i64 palg), tgtA ptgt, .sl (prules.map ruleA) .no, .sl (pkids.map polA) .no, oblsA pobls, .v (.int .i64 s.version)] 34) := by rw [← eH, upd_other _ _ n42.symm, upd_other _ _ n32.symm, upd_same]
  have g3 : H i3 = some (.obj (opC o) 40) := by rw [← eH, upd_other _ _ n43.symm, upd_same]
  have g4 : H i4 = some (.obj [.v (.int .i64 0), .sl [] .full, .sl [] .full, .sl [] .full, .sl [] .full, .s [], .v (.bool false), .v (.int .i64 0), .sl [] .full, .sl [] .full, .sl [] .full, .sl [] .full, .v (.int .i64 0)] 34) := by rw [← eH, upd_same]
  simp only [opC] at eH g3
  rw [eH]
  clear eH
  refine (hown H hH).mono fun r H1 ⟨hS, s1⟩ => ?_
  obtain ⟨z1, z2, z3, z4, er, hS1⟩ := id hS
  subst er
  rw [hpp, hcC] at hS ⊢
  obtain ⟨hC, w2, w3, w4, a12, a13, a14, a23, a24, a34⟩ := hS1
  obtain ⟨xs, w1, hnx, hlo, hmy⟩ := id hC
  simp -implicitDefEqProofs only [go_sem, List.cons_append, List.nil_append]
  intro i5 h5
  simp -implicitDefEqProofs only [go_sem, w1.rd.fit, w1.rd.cells, w2.rd.fit, w2.rd.cells, w3.rd.fit, w3.rd.cells, w4.rd.fit, w4.rd.cells]
  have q2 := s1 _ _ g2
  have q3 := s1 _ _ g3
  have q4 := s1 _ _ g4
  have n52 : i2 ≠ i5 := fun e => by rw [← e, q2] at h5; cases h5
  have n53 : i3 ≠ i5 := fun e => by rw [← e, q3] at h5; cases h5
  have n54 : i4 ≠ i5 := fun e => by rw [← e, q4] at h5; cases h5
  obtain ⟨K, eK⟩ : ∃ K, upd H1 i5 (some (.obj [.v (.int .i64 s.tick), z1, z2, z3, z4, .s pid, .v (.bool pset), .v (.int .i64 palg), tgtA ptgt, .sl (prules.map ruleA) .no, .sl (pkids.map polA) .no, oblsA pobls, .v (.int .i64 s.version)] 34)) = K := ⟨_, rfl⟩
  have sK : Ab.Sub H1 K := by rw [← eK]; exact .upd_new h5
  have k5 : K i5 = some (.obj [.v (.int .i64 s.tick), z1, z2, z3, z4, .s pid, .v (.bool pset), .v (.int .i64 palg), tgtA ptgt, .sl (prules.map ruleA) .no, .sl (pkids.map polA) .no, oblsA pobls, .v (.int .i64 s.version)] 34) := by rw [← eK, upd_same]
  rw [eK]
  have hz5 : ∀ k, H k = none → H1 k ≠ none → k ≠ i5 := fun k _ hk e => hk (by rw [e]; exact h5)
  have k2 := sK _ _ q2
  have k3 := sK _ _ q3
  have k4 := sK _ _ q4
  clear eK
  have sg : Ab.Sub g K := hH.trans (s1.trans sK)
  simp -implicitDefEqProofs only [go_sem, k2, k3]
  refine (hrdy K sg).pthen ?_
  have g5 : g i5 = none := (hH.trans s1).none h5
  have kK : ∀ k, H1 k ≠ none → K k = H1 k := fun k hk => by
    cases e : H1 k with
    | none => exact (hk e).elim
    | some b => exact sK _ _ e
  have hz4 : ∀ k, H k = none → k ≠ i4 := fun k hk e => by rw [e, g4] at hk; cases hk
  by_cases p0 : readyD s o = 0
  · have d0 : (readyD s o != 0) = false := by simp [p0]
    simp -implicitDefEqProofs only [go_sem, d0]
    simp -implicitDefEqProofs only [go_sem, k5, k3]
    have hSK : OwnS H K (.agg ([.v (.int .i64 s.tick), z1, z2, z3, z4] ++ polC s.policy ++ [.v (.int .i64 s.version)])) s i0 := by
      rw [hpp, hcC]
      exact hS.keepb fun k _ hk => kK k hk
    have hfi := find_ok hSK.rd o.case hf.cases
    rw [hpp, hcC] at hfi
    simp only [List.cons_append, List.nil_append] at hfi
    refine hfi.pthen ?_
    simp -implicitDefEqProofs only [go_sem, k3]
    have hform : formD o = true := by
      cases e : formD o
      · simp [readyD, e] at p0
      · rfl
    have hdone : doneD parseD s o = doD parseD s o := by simp [doneD, p0]
    rw [hdone]
    by_cases p1 : o.kind = 1
    · have k1 : (o.kind == 1) = true := by simp [p1]
      simp -implicitDefEqProofs only [go_sem, k1]
      simp -implicitDefEqProofs only [go_sem, k3]
      intro i8 h8
      have n82 : i2 ≠ i8 := fun e => by rw [← e, k2] at h8; cases h8
      have n83 : i3 ≠ i8 := fun e => by rw [← e, k3] at h8; cases h8
      have n84 : i4 ≠ i8 := fun e => by rw [← e, k4] at h8; cases h8
      have n85 : i5 ≠ i8 := fun e => by rw [← e, k5] at h8; cases h8
      simp -implicitDefEqProofs only [go_sem]
      obtain ⟨K2, eK2⟩ : ∃ K2, upd K i8 (some (.obj [.s o.case, .s o.subj, .s [111, 112, 101, 110], .sl [] .full, .sl [] .full] 63)) = K2 := ⟨_, rfl⟩
      have sK2 : Ab.Sub K K2 := by rw [← eK2]; exact .upd_new h8
      have e8 : K2 i8 = some (.obj [.s o.case, .s o.subj, .s [111, 112, 101, 110], .sl [] .full, .sl [] .full] 63) := by rw [← eK2, upd_same]
      rw [eK2]
      clear eK2
      have m3 := sK2 _ _ k3
      have m4 := sK2 _ _ k4
      have m5 := sK2 _ _ k5
      simp -implicitDefEqProofs only [go_sem, m3, m5]
      have hha := happens_ok (h0 := H) (s := s) z1 z2 z3 z4 (k := i8) (o := 0) (A := []) (B := []) (t := 63) (c := ⟨o.case, o.subj, openT, [], []⟩) (f := .sl [] .full) (l := .sl [] .full) rfl e8 (by decide) (.inl ⟨rfl, rfl⟩) (s1.trans (sK.trans sK2)) (Nat.zero_le _) o.subj [110, 101, 119]
      rw [hpp, hcC] at hha
      simp only [List.cons_append, List.nil_append] at hha
      refine hha.mono fun r K3 ⟨l', ol, e8', fr3, ap3⟩ => ?_
      have kK3 : ∀ k, K2 k ≠ none → k ≠ i8 → K3 k = K2 k := fun k hk hk8 => fr3 k hk hk8 (by simp [nid])
      have m3' : K3 i3 = _ := (kK3 i3 (by rw [m3]; simp) n83).trans m3
      have m4' : K3 i4 = _ := (kK3 i4 (by rw [m4]; simp) n84).trans m4
      have m5' : K3 i5 = _ := (kK3 i5 (by rw [m5]; simp) n85).trans m5
      simp only [caseL, List.append_nil, List.nil_append] at e8'
      simp -implicitDefEqProofs only [go_sem]
      simp -implicitDefEqProofs only [go_sem, m5', e8', ol.rd.fit, ol.rd.cells]
      have kk2 : ∀ k, H1 k ≠ none → K2 k = H1 k := fun k hk => by
        have := kK k hk
        cases e : K k with
        | none => rw [e] at this; exact (hk this.symm).elim
        | some b => rw [sK2 _ _ e, ← e, this]
      have k8 : ∀ k, H1 k ≠ none → k ≠ i8 := fun k hk e => hk (by have := kK k hk; rw [e, h8] at this; rw [e]; exact this.symm)
      have kk3 : ∀ k, H1 k ≠ none → K3 k = H1 k := fun k hk => (kK3 k (by rw [kk2 k hk]; exact hk) (k8 k hk)).trans (kk2 k hk)
      have sH3 : Ab.Sub H1 K3 := fun k b hk => by rw [kk3 k (by rw [hk]; simp)]; exact hk
      have hfl : findD s.cases o.case ≤ s.cases.length := List.findIdx_le_length
      have hfc := hf.cases
      refine (insCase_ok z1 xs (.agg [.s o.case, .s o.subj, .s openT, .sl [] .full, l']) (findD s.cases o.case) H K3 (w1.keepb fun k _ hk => kk3 k hk) (s1.trans sH3) (by omega) (by omega) rfl (by simp [Ab.fit])).mono fun r K4 ⟨ow5, fr4, ap4⟩ => ?_
      have m4'' : K4 i4 = _ := (fr4 i4 (by rw [m4']; simp) (fun e => by have := (w1.nid e).1; rw [g4] at this; cases this)).trans m4'
      have m5'' : K4 i5 = _ := (fr4 i5 (by rw [m5']; simp) (fun e => (w1.nid e).2.1 h5)).trans m5'
      simp -implicitDefEqProofs only [go_sem, m5'', ow5.rd.fit, ow5.rd.cells]
      simp -implicitDefEqProofs only [go_sem, upd_ne, n54, n54.symm, m4'', ow5.rd.fit, ow5.rd.cells, w2.rd.fit, w2.rd.cells, w3.rd.fit, w3.rd.cells, w4.rd.fit, w4.rd.cells]
      have hi0 : i0 = s.cases.length := by rw [← ei0, if_pos p1]
      have hxs : xs = s.cases.map caseA := List.ext_getElem (by simpa using hnx) fun j a b => by rw [hlo j a (by omega) (by omega), List.getElem_map]
      have kk4 : ∀ k, H1 k ≠ none → nid z1 ≠ some k → K4 k = H1 k := fun k hk hz => (fr4 k (by rw [kk3 k hk]; exact hk) hz).trans (kk3 k hk)
      obtain ⟨K5, eK5⟩ : ∃ K5, upd (upd K4 i5 (some (.obj [.v (.int .i64 s.tick), r, z2, z3, z4, .s pid, .v (.bool pset), .v (.int .i64 palg), tgtA ptgt, .sl (prules.map ruleA) .no, .sl (pkids.map polA) .no, oblsA pobls, .v (.int .i64 s.version)] 34))) i4 (some (.obj [.v (.int .i64 s.tick), r, z2, z3, z4, .s pid, .v (.bool pset), .v (.int .i64 palg), tgtA ptgt, .sl (prules.map ruleA) .no, .sl (pkids.map polA) .no, oblsA pobls, .v (.int .i64 s.version)] 34)) = K5 := ⟨_, rfl⟩
      rw [eK5]
      have o5 : ∀ k, k ≠ i4 → k ≠ i5 → K5 k = K4 k := fun k a b => by rw [← eK5, upd_other _ _ a, upd_other _ _ b]
      have kk5 : ∀ k, H k = none → H1 k ≠ none → nid z1 ≠ some k → K5 k = H1 k := fun k a b c => (o5 k (hz4 k a) (hz5 k a b)).trans (kk4 k b c)
      have ow : OwE 63 H K5 5 r (List.take (findD s.cases o.case) xs ++ ([.agg [.s o.case, .s o.subj, .s openT, .sl [] .full, l']] ++ List.drop (findD s.cases o.case) xs)) := ow5.keep fun id e => o5 id (hz4 id (ow5.nid e).1) fun e5 => by
        subst e5
        rcases ap4 _ e with h | h
        · rw [m5'] at h; cases h
        · exact (w1.nid h).2.1 h5
      have ol5 : OwE 119 H K5 3 l' _ := ol.keep fun id e => by
        have h2n : K2 id = none := (ap3 id e).resolve_right (by simp [nid])
        have hz : nid z1 ≠ some id := fun e1 => by
          have := kk2 id (w1.nid e1).2.1
          rw [h2n] at this
          exact (w1.nid e1).2.1 this.symm
        rw [o5 id (hz4 id (ol.nid e).1) (fun e5 => by rw [e5, m5] at h2n; cases h2n), fr4 id (ol.nid e).2.1 hz]
      have hmc : MyCase H K5 [] (.agg [.s o.case, .s o.subj, .s openT, .sl [] .full, l']) (hapD s ⟨o.case, o.subj, openT, [], []⟩ o.subj [110, 101, 119]) := ⟨.sl [] .full, l', rfl, .inl ⟨rfl, rfl⟩, ol5, (fun i e => by cases e), fun y hy => by cases hy⟩
      have sg4 : Ab.Sub g K4 := fun k b hk => by
        have h1 := hH _ _ hk
        have h2 := s1 _ _ h1
        rw [kk4 k (by rw [h2]; simp) (fun e => by have := (w1.nid e).1; rw [h1] at this; cases this)]
        exact h2
      have sg5 : Ab.Sub g K5 := by rw [← eK5]; exact (sg4.put g5 _).put h4' _
      have hdo : doD parseD s o = { s with cases := s.cases.take (findD s.cases o.case) ++ [hapD s ⟨o.case, o.subj, openT, [], []⟩ o.subj [110, 101, 119]] ++ s.cases.drop (findD s.cases o.case) } := by simp [doD, p1]
      refine .mk _ (.refl _) (.refl _) ⟨sg5, storeA (doD parseD s o), ?_, rfl⟩
      rw [hdo]
      refine frz_fin rfl hpp rfl ?_ (((w2.keep fun id e => kk5 id (w2.nid e).1 (w2.nid e).2.1 fun e1 => a12 id e1 e).less hH).frz (pureL_map (fun _ => rfl) _)) (((w3.keep fun id e => kk5 id (w3.nid e).1 (w3.nid e).2.1 fun e1 => a13 id e1 e).less hH).frz (pureL_map (fun _ => rfl) _)) (((w4.keep fun id e => kk5 id (w4.nid e).1 (w4.nid e).2.1 fun e1 => a14 id e1 e).less hH).frz (pureL_map (fun _ => rfl) _))
      refine frz_rows (ys := List.take (findD s.cases o.case) xs ++ ([caseA (hapD s ⟨o.case, o.subj, openT, [], []⟩ o.subj [110, 101, 119])] ++ List.drop (findD s.cases o.case) xs)) ow hH (by rw [hxs]; simp [List.map_take, List.map_drop]) (by simp) ?_
      exact frz_app rfl rfl (frz_list fun x hx => by
          have := List.mem_of_mem_take hx
          rw [hxs] at this
          obtain ⟨c, _, rfl⟩ := List.mem_map.1 this
          exact frz_case c)
        (frz_app rfl rfl (frz_one (hmc.frz hH)) (frz_list fun x hx => by
          have := List.mem_of_mem_drop hx
          rw [hxs] at this
          obtain ⟨c, _, rfl⟩ := List.mem_map.1 this
          exact frz_case c))
    have k1 : (o.kind == 1) = false := by simp [p1]
    have hi0 : i0 = findD s.cases o.case := by rw [← ei0, if_neg p1]
    simp -implicitDefEqProofs only [go_sem, k1]
    by_cases p3 : o.kind = 3
    · have k3' : (o.kind == 3) = true := by simp [p3]
      simp -implicitDefEqProofs only [go_sem, k1, k3']
      have hth := ready_case p0 (.inl p3)
      have hlt := thereD_lt hth
      obtain ⟨j, ej⟩ : ∃ j, findD s.cases o.case = j := ⟨_, rfl⟩
      have hj : j < s.cases.length := by rw [← ej]; exact hlt
      have hjx : j < xs.length := by omega
      rw [ej] at hi0
      subst hi0
      obtain ⟨f, l, ex, of, ol, hap, hys⟩ := hmy hjx hj
      obtain ⟨id1, hg1, o1⟩ := w1.ow (by intro e; rw [e] at hjx; cases hjx)
      have o1' := o1
      obtain ⟨cap, rest, ey, hid, hrl, hcap, hsz⟩ := o1'
      have lA : i0 * 5 = (flatA (xs.take i0)).length := by rw [flatA_length fun z hz => hsz z (List.mem_of_mem_take hz), List.length_take]; omega
      have hidK : K id1 = some (.obj (flatA (xs.take i0) ++ (caseL s.cases[i0] f l ++ (flatA (xs.drop (i0 + 1)) ++ rest))) 63) := by
        rw [sK _ _ hid, flat_at hjx, ex]
        simp [caseL, AV.cells]
      have n14 : id1 ≠ i4 := hz4 id1 hg1
      have n13 : id1 ≠ i3 := fun e => by rw [e, g3] at hg1; cases hg1
      have n15 : id1 ≠ i5 := fun e => o1.none (by rw [e]; exact h5)
      have nf4 : ∀ k, nid f = some k → k ≠ i3 ∧ k ≠ i4 ∧ k ≠ i5 ∧ k ≠ id1 := fun k e => ⟨(fun e' => by have := (of.nid e).1; rw [e', g3] at this; cases this), hz4 k (of.nid e).1, hz5 k (of.nid e).1 (of.nid e).2.1, fun e' => (hys z1 (by simp)).1 k e (by rw [e']; exact o1.nid)⟩
      have nl4 : ∀ k, nid l = some k → k ≠ i3 ∧ k ≠ i4 ∧ k ≠ i5 ∧ k ≠ id1 := fun k e => ⟨(fun e' => by have := (ol.nid e).1; rw [e', g3] at this; cases this), hz4 k (ol.nid e).1, hz5 k (ol.nid e).1 (ol.nid e).2.1, fun e' => (hys z1 (by simp)).2 k e (by rw [e']; exact o1.nid)⟩
      have hff := hf.fields _ (List.getElem_mem hj)
      have hfl := hf.log _ (List.getElem_mem hj)
      rw [ej]
      refine .calls (pick K [i3, i5]) [0, 1, 2, 3, 4, 5, 6, 7, 8] pick_sub (by kernel_rfl) rfl ?_
      simp -implicitDefEqProofs only [go_sem, pick_at (show i3 ∈ [i3, i5] by simp), pick_at (show i5 ∈ [i3, i5] by simp), k3, k5]
      refine (o1.sub sK).idx (U := U) (e := 63) i0 rfl hjx uCase (by decide) ?_
      simp -implicitDefEqProofs only [go_sem, pick_at (show i3 ∈ [i3, i5] by simp), pick_at (show i5 ∈ [i3, i5] by simp), k3, k5]
      refine (show FnOK Tryz.prog 49 [.ptr id1 (i0 * 5), .s o.field, .agg [.v (.int .i64 o.val.kind), .v (.int .i64 o.val.n), .s o.val.s]] K _ from write_ok lA hidK (by decide) (of.sub sK) (s1.trans sK) hff o.field o.val).mono fun r K3 ⟨f', of', e1', fr3, ap3⟩ => ?_
      have kk3 : ∀ k, H1 k ≠ none → k ≠ id1 → nid f ≠ some k → K3 k = H1 k := fun k a b c => (fr3 k (by rw [kK k a]; exact a) b c).trans (kK k a)
      have m3 : K3 i3 = _ := (fr3 i3 (by rw [k3]; simp) n13.symm fun e => (nf4 _ e).1 rfl).trans k3
      have m4 : K3 i4 = _ := (fr3 i4 (by rw [k4]; simp) n14.symm fun e => (nf4 _ e).2.1 rfl).trans k4
      have m5 : K3 i5 = _ := (fr3 i5 (by rw [k5]; simp) n15.symm fun e => (nf4 _ e).2.2.1 rfl).trans k5
      refine ⟨pick_to fun k hk => ?_, ?_⟩
      · simp only [List.mem_cons, List.not_mem_nil, or_false] at hk
        rcases hk with rfl | rfl
        · rw [m3, k3]
        · rw [m5, k5]
      simp -implicitDefEqProofs only [go_sem]
      have sH3 : Ab.Sub H K3 := fun k b hk => by rw [kk3 k (by rw [s1 _ _ hk]; simp) (fun e => by rw [e, hg1] at hk; cases hk) (fun e => by have := (of.nid e).1; rw [hk] at this; cases this)]; exact s1 _ _ hk
      have ol3 : OwE 119 H K3 3 l (s.cases[i0].log.map hapA) := ol.keep fun k e => kk3 k (ol.nid e).2.1 (nl4 k e).2.2.2 (fun e1 => hap k e1 e)
      have hX5 : ∀ y1 y2 : AV, Sized 5 (xs.set i0 (.agg (caseL s.cases[i0] y1 y2))) := fun y1 y2 z hz => by
        rcases List.mem_or_eq_of_mem_set hz with hz | rfl
        · exact hsz z hz
        · rfl
      have mkO : ∀ {G : Heap} {y1 y2 : AV}, G id1 = some (.obj (flatA (xs.take i0) ++ (caseL s.cases[i0] y1 y2 ++ (flatA (xs.drop (i0 + 1)) ++ rest))) 63) → Ow 63 G 5 id1 z1 (xs.set i0 (.agg (caseL s.cases[i0] y1 y2))) := fun {G y1 y2} hG => ⟨cap, rest, by rw [List.length_set]; exact ey, by rw [hG, flat_set hjx]; simp [AV.cells], by rw [List.length_set]; exact hrl, by rw [List.length_set]; exact hcap, hX5 _ _⟩
      have hjs : ∀ x : AV, i0 < (xs.set i0 x).length := fun x => by rw [List.length_set]; exact hjx
      refine .calls (pick K3 [i3, i5]) [0, 1, 2, 3, 4, 5, 6, 7] pick_sub (by kernel_rfl) rfl ?_
      simp -implicitDefEqProofs only [go_sem, pick_at (show i3 ∈ [i3, i5] by simp), pick_at (show i5 ∈ [i3, i5] by simp), m3, m5]
      refine (mkO e1').idx (U := U) (e := 63) i0 rfl (hjs _) uCase (by decide) ?_
      simp -implicitDefEqProofs only [go_sem, pick_at (show i3 ∈ [i3, i5] by simp), pick_at (show i5 ∈ [i3, i5] by simp), m3, m5]
      have hha := happens_ok (h0 := H) (h := K3) (s := s) z1 z2 z3 z4 (k := id1) (c := s.cases[i0]) (f := f') (l := l) lA e1' (by decide) ol3 sH3 hfl o.subj [119, 114, 105, 116, 101]
      rw [hpp, hcC] at hha
      simp only [List.cons_append, List.nil_append] at hha
      refine hha.mono fun r K4 ⟨l', ol', e1'', fr4, ap4⟩ => ?_
      have m3' : K4 i3 = _ := (fr4 i3 (by rw [m3]; simp) n13.symm fun e => (nl4 _ e).1 rfl).trans m3
      have m4' : K4 i4 = _ := (fr4 i4 (by rw [m4]; simp) n14.symm fun e => (nl4 _ e).2.1 rfl).trans m4
      have m5' : K4 i5 = _ := (fr4 i5 (by rw [m5]; simp) n15.symm fun e => (nl4 _ e).2.2.1 rfl).trans m5
      refine ⟨pick_to fun k hk => ?_, ?_⟩
      · simp only [List.mem_cons, List.not_mem_nil, or_false] at hk
        rcases hk with rfl | rfl
        · rw [m3', m3]
        · rw [m5', m5]
      simp -implicitDefEqProofs only [go_sem]
      simp -implicitDefEqProofs only [go_sem, m5', m4', w1.rd.fit, w1.rd.cells, w2.rd.fit, w2.rd.cells, w3.rd.fit, w3.rd.cells, w4.rd.fit, w4.rd.cells]
      obtain ⟨K5, eK5⟩ : ∃ K5, upd K4 i4 (some (.obj [.v (.int .i64 s.tick), z1, z2, z3, z4, .s pid, .v (.bool pset), .v (.int .i64 palg), tgtA ptgt, .sl (prules.map ruleA) .no, .sl (pkids.map polA) .no, oblsA pobls, .v (.int .i64 s.version)] 34)) = K5 := ⟨_, rfl⟩
      rw [eK5]
      have o5 : ∀ k, k ≠ i4 → K5 k = K4 k := fun k a => by rw [← eK5, upd_other _ _ a]
      have kk5 : ∀ k, H k = none → H1 k ≠ none → k ≠ id1 → nid f ≠ some k → nid l ≠ some k → K5 k = H1 k := fun k a b c d e => by
        have h3 := kk3 k b c d
        rw [o5 k (hz4 k a), fr4 k (by rw [h3]; exact b) c e, h3]
      have of5 : OwE 84 H K5 4 f' _ := of'.keep fun id e => by
        have h3 := (of'.nid e).2.1
        have n1 : id ≠ id1 := fun e' => by
          rcases ap3 id e with h | h
          · rw [e', hidK] at h; cases h
          · exact (nf4 id h).2.2.2 e'
        have n2 : nid l ≠ some id := fun e' => by
          rcases ap3 id e with h | h
          · have := kK id (ol.nid e').2.1; rw [h] at this; exact (ol.nid e').2.1 this.symm
          · exact hap id h e'
        rw [o5 id (hz4 id (of'.nid e).1), fr4 id h3 n1 n2]
      have ol5 : OwE 119 H K5 3 l' _ := ol'.keep fun id e => o5 id (hz4 id (ol'.nid e).1)
      have sg4 : Ab.Sub g K4 := fun k b hk => by
        have h1 := hH _ _ hk
        rw [fr4 k (by rw [sH3 _ _ h1]; simp) (fun e => by rw [e, hg1] at h1; cases h1) (fun e => by have := (ol.nid e).1; rw [h1] at this; cases this)]
        exact sH3 _ _ h1
      have sg5 : Ab.Sub g K5 := by rw [← eK5]; exact sg4.put h4' _
      have n1' : nid z1 = some id1 := o1.nid
      have hdo : doD parseD s o = { s with cases := s.cases.modify i0 fun c => hapD s { c with fields := writeD c.fields o.field o.val } o.subj [119, 114, 105, 116, 101] } := by simp [doD, p3, ej]
      refine .mk _ (.refl _) (.refl _) ⟨sg5, storeA (doD parseD s o), ?_, rfl⟩
      rw [hdo]
      refine frz_fin rfl hpp rfl ?_ (((w2.keep fun id e => kk5 id (w2.nid e).1 (w2.nid e).2.1 (fun e1 => a12 id1 n1' (by rw [← e1]; exact e)) (fun e1 => (hys z2 (by simp)).1 id e1 e) (fun e1 => (hys z2 (by simp)).2 id e1 e)).less hH).frz (pureL_map (fun _ => rfl) _)) (((w3.keep fun id e => kk5 id (w3.nid e).1 (w3.nid e).2.1 (fun e1 => a13 id1 n1' (by rw [← e1]; exact e)) (fun e1 => (hys z3 (by simp)).1 id e1 e) (fun e1 => (hys z3 (by simp)).2 id e1 e)).less hH).frz (pureL_map (fun _ => rfl) _)) (((w4.keep fun id e => kk5 id (w4.nid e).1 (w4.nid e).2.1 (fun e1 => a14 id1 n1' (by rw [← e1]; exact e)) (fun e1 => (hys z4 (by simp)).1 id e1 e) (fun e1 => (hys z4 (by simp)).2 id e1 e)).less hH).frz (pureL_map (fun _ => rfl) _))
      exact frz_mod (X := .agg (caseL s.cases[i0] f' l')) (.inr ⟨id1, hg1, mkO ((o5 id1 n14).trans e1'')⟩) hH hnx hj (fun k h1 h2 hk => hlo k h1 h2 hk) (frz_caseL (c := hapD s { s.cases[i0] with fields := writeD s.cases[i0].fields o.field o.val } o.subj [119, 114, 105, 116, 101]) of5 ol5 hH)
    have k3' : (o.kind == 3) = false := by simp [p3]
    simp -implicitDefEqProofs only [go_sem, k1, k3']
    by_cases p4 : o.kind = 4
    · have k4' : (o.kind == 4) = true := by simp [p4]
      simp -implicitDefEqProofs only [go_sem, k1, k3', k4']
      have hth := ready_case p0 (.inr p4)
      have hlt := thereD_lt hth
      obtain ⟨j, ej⟩ : ∃ j, findD s.cases o.case = j := ⟨_, rfl⟩
      have hj : j < s.cases.length := by rw [← ej]; exact hlt
      have hjx : j < xs.length := by omega
      rw [ej] at hi0
      subst hi0
      obtain ⟨f, l, ex, of, ol, hap, hys⟩ := hmy hjx hj
      obtain ⟨id1, hg1, o1⟩ := w1.ow (by intro e; rw [e] at hjx; cases hjx)
      have o1' := o1
      obtain ⟨cap, rest, ey, hid, hrl, hcap, hsz⟩ := o1'
      have lA : i0 * 5 = (flatA (xs.take i0)).length := by rw [flatA_length fun z hz => hsz z (List.mem_of_mem_take hz), List.length_take]; omega
      have hidK : K id1 = some (.obj (flatA (xs.take i0) ++ (caseL s.cases[i0] f l ++ (flatA (xs.drop (i0 + 1)) ++ rest))) 63) := by
        rw [sK _ _ hid, flat_at hjx, ex]
        simp [caseL, AV.cells]
      have n14 : id1 ≠ i4 := hz4 id1 hg1
      have n13 : id1 ≠ i3 := fun e => by rw [e, g3] at hg1; cases hg1
      have n15 : id1 ≠ i5 := fun e => o1.none (by rw [e]; exact h5)
      have nf4 : ∀ k, nid f = some k → k ≠ i3 ∧ k ≠ i4 ∧ k ≠ i5 ∧ k ≠ id1 := fun k e => ⟨(fun e' => by have := (of.nid e).1; rw [e', g3] at this; cases this), hz4 k (of.nid e).1, hz5 k (of.nid e).1 (of.nid e).2.1, fun e' => (hys z1 (by simp)).1 k e (by rw [e']; exact o1.nid)⟩
      have nl4 : ∀ k, nid l = some k → k ≠ i3 ∧ k ≠ i4 ∧ k ≠ i5 ∧ k ≠ id1 := fun k e => ⟨(fun e' => by have := (ol.nid e).1; rw [e', g3] at this; cases this), hz4 k (ol.nid e).1, hz5 k (ol.nid e).1 (ol.nid e).2.1, fun e' => (hys z1 (by simp)).2 k e (by rw [e']; exact o1.nid)⟩
      have hff := hf.fields _ (List.getElem_mem hj)
      have hfl := hf.log _ (List.getElem_mem hj)
      rw [ej]
      simp -implicitDefEqProofs only [go_sem, k5, k3]
      refine (o1.sub sK).idx (U := U) (e := 63) i0 rfl hjx uCase (by decide) ?_
      simp -implicitDefEqProofs only [go_sem, k5, k3, hidK]
      have e2 : List.take (i0 * 5 + 2) (flatA (xs.take i0) ++ (caseL s.cases[i0] f l ++ (flatA (xs.drop (i0 + 1)) ++ rest))) ++ [.s o.to] ++ List.drop (i0 * 5 + 2 + 1) (flatA (xs.take i0) ++ (caseL s.cases[i0] f l ++ (flatA (xs.drop (i0 + 1)) ++ rest))) = flatA (xs.take i0) ++ (caseL { s.cases[i0] with state := o.to } f l ++ (flatA (xs.drop (i0 + 1)) ++ rest)) := by
        have := mid_put (A := flatA (xs.take i0) ++ [.s s.cases[i0].id, .s s.cases[i0].owner]) (B := [.s s.cases[i0].state]) (C := f :: l :: (flatA (xs.drop (i0 + 1)) ++ rest)) (X := [.s o.to]) (k := i0 * 5 + 2) (m := 1) (by rw [lA]; simp) rfl rfl
        simp only [caseL, List.append_assoc, List.cons_append, List.nil_append] at this ⊢
        exact this
      rw [e2]
      obtain ⟨K3, eK3⟩ : ∃ K3, upd K id1 (some (.obj (flatA (xs.take i0) ++ (caseL { s.cases[i0] with state := o.to } f l ++ (flatA (xs.drop (i0 + 1)) ++ rest))) 63)) = K3 := ⟨_, rfl⟩
      rw [eK3]
      refine ⟨by simp only [List.length_append, ← lA, caseL, List.length_cons, List.length_nil]; omega, ?_⟩
      have e1' : K3 id1 = some (.obj (flatA (xs.take i0) ++ (caseL { s.cases[i0] with state := o.to } f l ++ (flatA (xs.drop (i0 + 1)) ++ rest))) 63) := by rw [← eK3, upd_same]
      have fr3 : ∀ k, K k ≠ none → k ≠ id1 → nid f ≠ some k → K3 k = K k := fun k _ hk _ => by rw [← eK3, upd_other _ _ hk]
      have ap3 : ∀ k, nid f = some k → K k = none ∨ nid f = some k := fun k hk => .inr hk
      have kk3 : ∀ k, H1 k ≠ none → k ≠ id1 → nid f ≠ some k → K3 k = H1 k := fun k a b c => (fr3 k (by rw [kK k a]; exact a) b c).trans (kK k a)
      have m3 : K3 i3 = _ := (fr3 i3 (by rw [k3]; simp) n13.symm fun e => (nf4 _ e).1 rfl).trans k3
      have m4 : K3 i4 = _ := (fr3 i4 (by rw [k4]; simp) n14.symm fun e => (nf4 _ e).2.1 rfl).trans k4
      have m5 : K3 i5 = _ := (fr3 i5 (by rw [k5]; simp) n15.symm fun e => (nf4 _ e).2.2.1 rfl).trans k5
      obtain ⟨f', of', ef'⟩ : ∃ f', OwE 84 H K3 4 f' (s.cases[i0].fields.map fieldA) ∧ f = f' := ⟨f, of.keep fun k e => by rw [← eK3, upd_other _ _ (nf4 k e).2.2.2, kK k (of.nid e).2.1], rfl⟩
      rw [ef'] at e1'
      replace ap3 : ∀ k, nid f' = some k → K k = none ∨ nid f = some k := by rw [← ef']; exact ap3
      have sH3 : Ab.Sub H K3 := fun k b hk => by rw [kk3 k (by rw [s1 _ _ hk]; simp) (fun e => by rw [e, hg1] at hk; cases hk) (fun e => by have := (of.nid e).1; rw [hk] at this; cases this)]; exact s1 _ _ hk
      have ol3 : OwE 119 H K3 3 l (s.cases[i0].log.map hapA) := ol.keep fun k e => kk3 k (ol.nid e).2.1 (nl4 k e).2.2.2 (fun e1 => hap k e1 e)
      have hX5 : ∀ y1 y2 : AV, Sized 5 (xs.set i0 (.agg (caseL ({ s.cases[i0] with state := o.to } : CaseD) y1 y2))) := fun y1 y2 z hz => by
        rcases List.mem_or_eq_of_mem_set hz with hz | rfl
        · exact hsz z hz
        · rfl
      have mkO : ∀ {G : Heap} {y1 y2 : AV}, G id1 = some (.obj (flatA (xs.take i0) ++ (caseL ({ s.cases[i0] with state := o.to } : CaseD) y1 y2 ++ (flatA (xs.drop (i0 + 1)) ++ rest))) 63) → Ow 63 G 5 id1 z1 (xs.set i0 (.agg (caseL ({ s.cases[i0] with state := o.to } : CaseD) y1 y2))) := fun {G y1 y2} hG => ⟨cap, rest, by rw [List.length_set]; exact ey, by rw [hG, flat_set hjx]; simp [AV.cells], by rw [List.length_set]; exact hrl, by rw [List.length_set]; exact hcap, hX5 _ _⟩
      have hjs : ∀ x : AV, i0 < (xs.set i0 x).length := fun x => by rw [List.length_set]; exact hjx
      refine .calls (pick K3 [i3, i5]) [0, 1, 2, 3, 4, 5, 6, 7, 8, 9] pick_sub (by kernel_rfl) rfl ?_
      simp -implicitDefEqProofs only [go_sem, pick_at (show i3 ∈ [i3, i5] by simp), pick_at (show i5 ∈ [i3, i5] by simp), m3, m5]
      refine (mkO e1').idx (U := U) (e := 63) i0 rfl (hjs _) uCase (by decide) ?_
      simp -implicitDefEqProofs only [go_sem, pick_at (show i3 ∈ [i3, i5] by simp), pick_at (show i5 ∈ [i3, i5] by simp), m3, m5]
      have hha := happens_ok (h0 := H) (h := K3) (s := s) z1 z2 z3 z4 (k := id1) (c := ({ s.cases[i0] with state := o.to } : CaseD)) (f := f') (l := l) lA e1' (by decide) ol3 sH3 hfl o.subj o.to
      rw [hpp, hcC] at hha
      simp only [List.cons_append, List.nil_append] at hha
      refine hha.mono fun r K4 ⟨l', ol', e1'', fr4, ap4⟩ => ?_
      have m3' : K4 i3 = _ := (fr4 i3 (by rw [m3]; simp) n13.symm fun e => (nl4 _ e).1 rfl).trans m3
      have m4' : K4 i4 = _ := (fr4 i4 (by rw [m4]; simp) n14.symm fun e => (nl4 _ e).2.1 rfl).trans m4
      have m5' : K4 i5 = _ := (fr4 i5 (by rw [m5]; simp) n15.symm fun e => (nl4 _ e).2.2.1 rfl).trans m5
      refine ⟨pick_to fun k hk => ?_, ?_⟩
      · simp only [List.mem_cons, List.not_mem_nil, or_false] at hk
        rcases hk with rfl | rfl
        · rw [m3', m3]
        · rw [m5', m5]
      simp -implicitDefEqProofs only [go_sem]
      simp -implicitDefEqProofs only [go_sem, m5', m4', w1.rd.fit, w1.rd.cells, w2.rd.fit, w2.rd.cells, w3.rd.fit, w3.rd.cells, w4.rd.fit, w4.rd.cells]
      obtain ⟨K5, eK5⟩ : ∃ K5, upd K4 i4 (some (.obj [.v (.int .i64 s.tick), z1, z2, z3, z4, .s pid, .v (.bool pset), .v (.int .i64 palg), tgtA ptgt, .sl (prules.map ruleA) .no, .sl (pkids.map polA) .no, oblsA pobls, .v (.int .i64 s.version)] 34)) = K5 := ⟨_, rfl⟩
      rw [eK5]
      have o5 : ∀ k, k ≠ i4 → K5 k = K4 k := fun k a => by rw [← eK5, upd_other _ _ a]
      have kk5 : ∀ k, H k = none → H1 k ≠ none → k ≠ id1 → nid f ≠ some k → nid l ≠ some k → K5 k = H1 k := fun k a b c d e => by
        have h3 := kk3 k b c d
        rw [o5 k (hz4 k a), fr4 k (by rw [h3]; exact b) c e, h3]
      have of5 : OwE 84 H K5 4 f' _ := of'.keep fun id e => by
        have h3 := (of'.nid e).2.1
        have n1 : id ≠ id1 := fun e' => by
          rcases ap3 id e with h | h
          · rw [e', hidK] at h; cases h
          · exact (nf4 id h).2.2.2 e'
        have n2 : nid l ≠ some id := fun e' => by
          rcases ap3 id e with h | h
          · have := kK id (ol.nid e').2.1; rw [h] at this; exact (ol.nid e').2.1 this.symm
          · exact hap id h e'
        rw [o5 id (hz4 id (of'.nid e).1), fr4 id h3 n1 n2]
      have ol5 : OwE 119 H K5 3 l' _ := ol'.keep fun id e => o5 id (hz4 id (ol'.nid e).1)
      have sg4 : Ab.Sub g K4 := fun k b hk => by
        have h1 := hH _ _ hk
        rw [fr4 k (by rw [sH3 _ _ h1]; simp) (fun e => by rw [e, hg1] at h1; cases h1) (fun e => by have := (ol.nid e).1; rw [h1] at this; cases this)]
        exact sH3 _ _ h1
      have sg5 : Ab.Sub g K5 := by rw [← eK5]; exact sg4.put h4' _
      have n1' : nid z1 = some id1 := o1.nid
      have hdo : doD parseD s o = { s with cases := s.cases.modify i0 fun c => hapD s { c with state := o.to } o.subj o.to } := by simp [doD, p4, ej]
      refine .mk _ (.refl _) (.refl _) ⟨sg5, storeA (doD parseD s o), ?_, rfl⟩
      rw [hdo]
      refine frz_fin rfl hpp rfl ?_ (((w2.keep fun id e => kk5 id (w2.nid e).1 (w2.nid e).2.1 (fun e1 => a12 id1 n1' (by rw [← e1]; exact e)) (fun e1 => (hys z2 (by simp)).1 id e1 e) (fun e1 => (hys z2 (by simp)).2 id e1 e)).less hH).frz (pureL_map (fun _ => rfl) _)) (((w3.keep fun id e => kk5 id (w3.nid e).1 (w3.nid e).2.1 (fun e1 => a13 id1 n1' (by rw [← e1]; exact e)) (fun e1 => (hys z3 (by simp)).1 id e1 e) (fun e1 => (hys z3 (by simp)).2 id e1 e)).less hH).frz (pureL_map (fun _ => rfl) _)) (((w4.keep fun id e => kk5 id (w4.nid e).1 (w4.nid e).2.1 (fun e1 => a14 id1 n1' (by rw [← e1]; exact e)) (fun e1 => (hys z4 (by simp)).1 id e1 e) (fun e1 => (hys z4 (by simp)).2 id e1 e)).less hH).frz (pureL_map (fun _ => rfl) _))
      exact frz_mod (X := .agg (caseL ({ s.cases[i0] with state := o.to } : CaseD) f' l')) (.inr ⟨id1, hg1, mkO ((o5 id1 n14).trans e1'')⟩) hH hnx hj (fun k h1 h2 hk => hlo k h1 h2 hk) (frz_caseL (c := hapD s { s.cases[i0] with state := o.to } o.subj o.to) of5 ol5 hH)
    have k4' : (o.kind == 4) = false := by simp [p4]
    simp -implicitDefEqProofs only [go_sem, k1, k3', k4']
    have kkK : ∀ k, H k = none → H1 k ≠ none → K k = H1 k := fun k _ b => kK k b
    by_cases p5 : o.kind = 5
    · have k5' : (o.kind == 5) = true := by simp [p5]
      simp -implicitDefEqProofs only [go_sem, k1, k3', k4', k5']
      have hrv : 0 < o.review := by
        simp only [formD, takesD, Bool.and_eq_true] at hform
        simpa [okD, p5] using hform.2.1.2
      obtain ⟨n, en⟩ : ∃ n : Nat, o.review = ((n : Nat) : Int) + 1 := ⟨(o.review - 1).toNat, by omega⟩
      have w5 : IntKind.i64.wrap (o.review - 1) = ((n : Nat) : Int) := by rw [wr64 _ (by have := hr.2; omega)]; omega
      have hn5 : n < s.reviews.length := by
        have : readyCloseD s o = 0 := by simpa [readyD, hform, p5] using p0
        unfold readyCloseD at this
        have e1 : revAt s.reviews o.review = s.reviews[n]? := by unfold revAt; rw [if_pos (by omega), show (o.review - 1).toNat = n by omega]
        rw [e1] at this
        by_cases hlt : n < s.reviews.length
        · exact hlt
        · rw [List.getElem?_eq_none (by omega)] at this; cases this
      have hnm : n < (s.reviews.map revA).length := by simpa using hn5
      obtain ⟨id2, hg2, o2⟩ := w2.ow (by intro e; rw [e] at hnm; cases hnm)
      have o2' := o2
      obtain ⟨cap, rest, ey, hid, hrl, hcap, hsz⟩ := o2'
      have n24 : id2 ≠ i4 := hz4 id2 hg2
      have n25 : id2 ≠ i5 := hz5 id2 hg2 o2.none
      have hidK := sK _ _ hid
      simp -implicitDefEqProofs only [go_sem, k5, k3, w5]
      refine (o2.sub sK).idx (U := U) (e := 105) n rfl hnm (by simp only [go_sem]) (by decide) ?_
      simp -implicitDefEqProofs only [go_sem, k5, k3, w5, hidK]
      have e2 : List.take (n * 7 + 6) (flatA (s.reviews.map revA) ++ rest) ++ [.v (.bool false)] ++ List.drop (n * 7 + 6 + 1) (flatA (s.reviews.map revA) ++ rest) = flatA ((s.reviews.modify n fun r => { r with isOpen := false }).map revA) ++ rest := by
        refine (put_flat hsz n hnm 6 [.v (.bool false)] (Nat.le_of_ble_eq_true rfl)).trans ?_
        congr 2
        refine List.ext_getElem (by simp) fun j h1 h2 => ?_
        by_cases e : j = n
        · subst e; simp [List.getElem_modify, revA, AV.cells, Ab.over]
        · rw [List.getElem_set_ne (Ne.symm e)]; simp [List.getElem_modify, Ne.symm e]
      rw [e2]
      refine ⟨by rw [List.length_append, flatA_length hsz]; omega, ?_⟩
      have k5b : ∀ b, upd K id2 b i5 = _ := fun b => (upd_other _ _ n25.symm).trans k5
      have k4b : ∀ b, upd K id2 b i4 = _ := fun b => (upd_other _ _ n24.symm).trans k4
      simp -implicitDefEqProofs only [go_sem, k5b, k4b, w1.rd.fit, w1.rd.cells, w2.rd.fit, w2.rd.cells, w3.rd.fit, w3.rd.cells, w4.rd.fit, w4.rd.cells]
      have hdo : doD parseD s o = { s with reviews := s.reviews.modify n fun r => { r with isOpen := false } } := by simp [doD, p5, en]
      have kz : ∀ a b k, H k = none → H1 k ≠ none → nid z2 ≠ some k → upd (upd K id2 a) i4 b k = H1 k := fun a b k c d e => by rw [upd_other _ _ (hz4 k c), upd_other _ _ (fun e' => e (by rw [e']; exact o2.nid)), kK k d]
      refine .mk _ (.refl _) (.refl _) ⟨(Sub.put (i := id2) sg (hH.none hg2) _).put h4' _, storeA (doD parseD s o), ?_, rfl⟩
      rw [hdo]
      refine frz_fin rfl hpp rfl ((hC.keepx (z := z2) (by simp) a12 (kz _ _)).frz hH) (OwE.frz (xs := (s.reviews.modify n fun r => { r with isOpen := false }).map revA) (.inr ⟨id2, hH.none hg2, cap, rest, by rw [ey]; simp, by rw [upd_other _ _ n24, upd_same], by rw [hrl]; simp, by simpa using hcap, sized_map (f := revA) (n := 7) (fun _ => rfl) _⟩) (pureL_map (fun _ => rfl) _)) (((w3.keep fun id e => kz _ _ id (w3.nid e).1 (w3.nid e).2.1 fun e1 => a23 id e1 e).less hH).frz (pureL_map (fun _ => rfl) _)) (((w4.keep fun id e => kz _ _ id (w4.nid e).1 (w4.nid e).2.1 fun e1 => a24 id e1 e).less hH).frz (pureL_map (fun _ => rfl) _))
    have k5' : (o.kind == 5) = false := by simp [p5]
    simp -implicitDefEqProofs only [go_sem, k1, k3', k4', k5']
    by_cases p6 : o.kind = 6
    · have k6' : (o.kind == 6) = true := by simp [p6]
      simp -implicitDefEqProofs only [go_sem, k1, k3', k4', k5', k6']
      simp -implicitDefEqProofs only [go_sem, k5, k3]
      have hha6 := has_ok hSK.rd o.case o.field (Nat.le_trans hf.roles (by decide))
      rw [hpp, hcC] at hha6
      simp only [List.cons_append, List.nil_append] at hha6
      refine hha6.pthen ?_
      cases dha : hasD s.roles ⟨o.case, o.field⟩
      · simp -implicitDefEqProofs only [go_sem, dha]
        simp -implicitDefEqProofs only [go_sem, k5, k3]
        have hap1 : Rd K 2 (.sl [roleA ⟨o.case, o.field⟩] .full) [roleA ⟨o.case, o.field⟩] := .sl (by intro z hz; rw [List.mem_singleton.1 hz]; rfl) .full
        have hfr := hf.roles
        refine OwE.app (U := U) (tb := 75) (w4.sub sK) (s1.trans sK) hap1 (by simp only [go_sem]) (by decide) (by simp only [go_sem, ne_eq, not_false_eq_true]) (by simp only [go_sem]) (by simp) (by simp only [go_sem, List.length_cons, List.length_nil, List.length_map]; omega) fun id4 y' K3 g4' hor hw ho2 => ?_
        have hor' : K id4 = none ∨ nid z4 = some id4 := by
          rcases hor with hor | ⟨l, c, ey⟩
          · exact .inl hor
          · exact .inr (by rw [ey]; rfl)
        have n44 : i4 ≠ id4 := fun e => by rw [← e, g4] at g4'; cases g4'
        have n45 : i5 ≠ id4 := fun e => by
          rcases hor' with hor | hor
          · rw [← e, k5] at hor; cases hor
          · exact (w4.nid hor).2.1 (by rw [← e]; exact h5)
        have m4 : K3 i4 = _ := (ho2 i4 n44).trans k4
        have m5 : K3 i5 = _ := (ho2 i5 n45).trans k5
        simp -implicitDefEqProofs only [go_sem, m5, hw.rd.fit, hw.rd.cells]
        simp -implicitDefEqProofs only [go_sem, upd_ne, n54, n54.symm, m4, hw.rd.fit, hw.rd.cells, w1.rd.fit, w1.rd.cells, w2.rd.fit, w2.rd.cells, w3.rd.fit, w3.rd.cells, w4.rd.fit, w4.rd.cells]
        have hdo : doD parseD s o = { s with roles := s.roles ++ [⟨o.case, o.field⟩] } := by simp [doD, p6, dha]
        have gid4 : g id4 = none := hH.none g4'
        have kz : ∀ a b k, H k = none → H1 k ≠ none → nid z4 ≠ some k → upd (upd K3 i5 a) i4 b k = H1 k := fun a b k c d e => by
          have : k ≠ id4 := fun e' => by
            rcases hor' with hor | hor
            · have := kK k d; rw [e', hor] at this; exact d (by rw [e']; exact this.symm)
            · exact e (by rw [e']; exact hor)
          rw [upd_other _ _ (hz4 k c), upd_other _ _ (hz5 k c d), ho2 k this, kK k d]
        have sg3 : Ab.Sub g K3 := fun k b hk => by rw [ho2 k (fun e => by rw [e, gid4] at hk; cases hk)]; exact sg _ _ hk
        refine .mk _ (.refl _) (.refl _) ⟨(sg3.put g5 _).put h4' _, storeA (doD parseD s o), ?_, rfl⟩
        rw [hdo]
        refine frz_fin rfl hpp rfl ((hC.keepx (z := z4) (by simp) a14 (kz _ _)).frz hH) (((w2.keep fun id e => kz _ _ id (w2.nid e).1 (w2.nid e).2.1 fun e1 => a24 id e e1).less hH).frz (pureL_map (fun _ => rfl) _)) (((w3.keep fun id e => kz _ _ id (w3.nid e).1 (w3.nid e).2.1 fun e1 => a34 id e e1).less hH).frz (pureL_map (fun _ => rfl) _)) ?_
        have hw' : OwE 75 g K3 2 y' ((s.roles ++ [(⟨o.case, o.field⟩ : RoleD)]).map roleA) := by rw [List.map_append]; exact .inr ⟨id4, gid4, hw⟩
        refine (hw'.keep fun id e => ?_).frz (pureL_map (fun _ => rfl) _)
        have : id = id4 := by have := hw.nid; rw [e] at this; exact Option.some.inj this
        rw [this, upd_other _ _ n44.symm, upd_other _ _ n45.symm]
      · simp -implicitDefEqProofs only [go_sem, dha]
        simp -implicitDefEqProofs only [go_sem, k5, k4, w1.rd.fit, w1.rd.cells, w2.rd.fit, w2.rd.cells, w3.rd.fit, w3.rd.cells, w4.rd.fit, w4.rd.cells]
        have hdo : doD parseD s o = s := by simp [doD, p6, dha]
        rw [hdo]
        refine .mk _ (.refl _) (.refl _) ⟨sg.put h4' _, _, (hS.keepb fun k hk hk1 => ?_).frz hH, rfl⟩
        rw [upd_other _ _ (hz4 k hk), kK k hk1]
    have k6' : (o.kind == 6) = false := by simp [p6]
    simp -implicitDefEqProofs only [go_sem, k1, k3', k4', k5', k6']
    by_cases p7 : o.kind = 7
    · have k7' : (o.kind == 7) = true := by simp [p7]
      simp -implicitDefEqProofs only [go_sem, k1, k3', k4', k5', k6', k7']
      simp -implicitDefEqProofs only [go_sem, k3]
      refine (parse_ok o.text _ (he.sub sg)).pthen ?_
      obtain ⟨⟨pp, e, a⟩, epp⟩ : ∃ x, parseD o.text = x := ⟨_, rfl⟩
      obtain ⟨qid, qset, qalg, qtgt, qrules, qkids, qobls⟩ := pp
      rw [epp]
      simp -implicitDefEqProofs only [go_sem, parsedA, polA, kidsA_eq]
      intro i9 h9
      have n95 : i5 ≠ i9 := fun e => by rw [← e, k5] at h9; cases h9
      have n94 : i4 ≠ i9 := fun e => by rw [← e, k4] at h9; cases h9
      simp -implicitDefEqProofs only [go_sem]
      have g9 : g i9 = none := sg.none h9
      have sg9 : ∀ b, Ab.Sub g (upd K i9 b) := fun b => sg.put g9 b
      have hz9 : ∀ k, H1 k ≠ none → k ≠ i9 := fun k hk e => hk (by have := kK k hk; rw [e, h9] at this; rw [e]; exact this.symm)
      by_cases pe : e = 0
      · have de : (e == 0) = true := by simp [pe]
        have wv : IntKind.i64.wrap (s.version + 1) = s.version + 1 := wr64 _ (by omega)
        simp -implicitDefEqProofs only [go_sem, de]
        simp -implicitDefEqProofs only [go_sem, upd_ne, n95, n95.symm, n94, n94.symm, n54, n54.symm, k5, k4, wv]
        have hdo : doD parseD s o = { s with policy := .mk qid qset qalg qtgt qrules qkids qobls, version := s.version + 1 } := by simp [doD, p7, epp, pe]
        have kz : ∀ a b c k, H k = none → H1 k ≠ none → upd (upd (upd K i9 a) i5 b) i4 c k = H1 k := fun a b c k d e => by rw [upd_other _ _ (hz4 k d), upd_other _ _ (hz5 k d e), upd_other _ _ (hz9 k e), kK k e]
        refine .mk _ (.refl _) (.refl _) ⟨((sg9 _).put g5 _).put h4' _, storeA (doD parseD s o), ?_, rfl⟩
        rw [hdo]
        exact frz_fin rfl rfl rfl ((hC.keepb (kz _ _ _)).frz hH) (((w2.keepb (kz _ _ _)).less hH).frz (pureL_map (fun _ => rfl) _)) (((w3.keepb (kz _ _ _)).less hH).frz (pureL_map (fun _ => rfl) _)) (((w4.keepb (kz _ _ _)).less hH).frz (pureL_map (fun _ => rfl) _))
      · have de : (e == 0) = false := by simp [pe]
        simp -implicitDefEqProofs only [go_sem, de]
        simp -implicitDefEqProofs only [go_sem, upd_ne, n95, n95.symm, n94, n94.symm, n54, n54.symm, k5, k4, w1.rd.fit, w1.rd.cells, w2.rd.fit, w2.rd.cells, w3.rd.fit, w3.rd.cells, w4.rd.fit, w4.rd.cells]
        have hdo : doD parseD s o = s := by simp [doD, p7, epp, pe]
        rw [hdo]
        refine .mk _ (.refl _) (.refl _) ⟨(sg9 _).put h4' _, _, (hS.keepb fun k hk hk1 => ?_).frz hH, rfl⟩
        rw [upd_other _ _ (hz4 k hk), upd_other _ _ (hz9 k hk1), kK k hk1]
    have k7' : (o.kind == 7) = false := by simp [p7]
    simp -implicitDefEqProofs only [go_sem, k1, k3', k4', k5', k6', k7']
    by_cases p8 : o.kind = 8
    · have k8' : (o.kind == 8) = true := by simp [p8]
      simp -implicitDefEqProofs only [go_sem, k1, k3', k4', k5', k6', k7', k8']
      have hrv : 0 < o.review ∧ o.review ≤ 1099511627776 := by
        simp only [formD, takesD, Bool.and_eq_true] at hform
        simpa [okD, p8] using hform.2.1.2
      have htk : ¬ s.tick > 1099511627776 - o.review := by
        intro hgt
        simp [readyD, hform, p8, hgt] at p0
      have w8 : IntKind.i64.wrap (s.tick + o.review) = s.tick + o.review := wr64 _ (by have := ht.1; omega)
      simp -implicitDefEqProofs only [go_sem, k5, k3, w8]
      simp -implicitDefEqProofs only [go_sem, upd_ne, n54, n54.symm, k4, w1.rd.fit, w1.rd.cells, w2.rd.fit, w2.rd.cells, w3.rd.fit, w3.rd.cells, w4.rd.fit, w4.rd.cells]
      have hdo : doD parseD s o = { s with tick := s.tick + o.review } := by simp [doD, p8]
      have kz : ∀ a b k, H k = none → H1 k ≠ none → upd (upd K i5 a) i4 b k = H1 k := fun a b k c d => by rw [upd_other _ _ (hz4 k c), upd_other _ _ (hz5 k c d), kK k d]
      refine .mk _ (.refl _) (.refl _) ⟨(sg.put g5 _).put h4' _, storeA (doD parseD s o), ?_, rfl⟩
      rw [hdo]
      exact frz_fin rfl hpp rfl ((hC.keepb (kz _ _)).frz hH) (((w2.keepb (kz _ _)).less hH).frz (pureL_map (fun _ => rfl) _)) (((w3.keepb (kz _ _)).less hH).frz (pureL_map (fun _ => rfl) _)) (((w4.keepb (kz _ _)).less hH).frz (pureL_map (fun _ => rfl) _))
    have k8' : (o.kind == 8) = false := by simp [p8]
    simp -implicitDefEqProofs only [go_sem, k1, k3', k4', k5', k6', k7', k8']
    simp -implicitDefEqProofs only [go_sem, k5, k4, w1.rd.fit, w1.rd.cells, w2.rd.fit, w2.rd.cells, w3.rd.fit, w3.rd.cells, w4.rd.fit, w4.rd.cells]
    have hdo : doD parseD s o = s := by simp [doD, p1, p3, p4, p5, p6, p7, p8]
    rw [hdo]
    refine .mk _ (.refl _) (.refl _) ⟨sg.put h4' _, _, (hS.keepb fun k hk hk1 => ?_).frz hH, rfl⟩
    rw [upd_other _ _ (hz4 k hk), kK k hk1]
  · have d0 : (readyD s o != 0) = true := by simp [p0]
    simp -implicitDefEqProofs only [go_sem, d0]
    simp -implicitDefEqProofs only [go_sem, k5, k4, w1.rd.fit, w1.rd.cells, w2.rd.fit, w2.rd.cells, w3.rd.fit, w3.rd.cells, w4.rd.fit, w4.rd.cells]
    have hdone : doneD parseD s o = s := by simp [doneD, p0]
    rw [hdone]
    refine .mk _ (.refl _) (.refl _) ⟨sg.put h4' _, _, (hS.keepb fun k hk hk1 => ?_).frz hH, rfl⟩
    rw [upd_other _ _ (hz4 k hk), kK k hk1]
end Go.Proofs.YtnhelgnmadbpgaaGreatDoor

set_option linter.unusedSimpArgs false
set_option linter.unusedVariables false
namespace Go.Bf
def leastT : Txt := [112, 111, 108, 105, 99, 121, 32, 111, 112, 101, 110, 32, 112, 101, 114, 109, 105, 116, 117, 110, 108, 101, 115, 115, 32, 123, 32, 125]
def leastP : PolD := .mk openT false 6 [] [] [] []
def newD : StoreD := ⟨0, [], [], [], [], leastP, 0⟩
end Go.Bf
namespace Go.Proofs.YtnhelgnmadbpgaaGreatDoor
open Go Go.Ab Go.Bf
theorem upd_comm' {H : Heap} {i j : Nat} {a b : Option Blk} (c : Option Blk) (h : i ≠ j) : upd (upd (upd H i a) j b) i c = upd (upd H i c) j b := by
  funext k
  by_cases e : k = i
  · rw [e, upd_same, upd_other _ _ h, upd_same]
  · rw [upd_other _ _ e]
    by_cases e2 : k = j
    · rw [e2, upd_same, upd_same]
    · rw [upd_other _ _ e2, upd_other _ _ e2, upd_other _ _ e, upd_other _ _ e]
theorem least_is : parseD leastT = (leastP, 0, 0) := by kernel_rfl
theorem least_polE : polE 1 leastP := by
  unfold leastP polE
  exact ⟨by decide, by decide, by decide, by decide, fun h => (by cases h), fun _ => ⟨rfl, by decide⟩, rfl, rfl, by decide, by decide, fun r hr => (by cases hr), trivial⟩
theorem few_new : Few newD := ⟨by decide, fun c hc => (by cases hc), fun c hc => (by cases hc), by decide, by decide, by decide⟩
theorem new_ok (h : Heap) (he : ErrT h) : FnOK Tryz.prog 13 [] h fun r h' => r = storeA newD ∧ h' = h :=
  FnOK.freeze fun g hg _ => by
  replace he := he.sub hg
  refine FnOK.body hU hm Tryz.func13 rfl (by kernel_rfl) 11 rfl [.cell 0 34] rfl (Nat.le_of_ble_eq_true rfl) (fun hwf => ?_)
  simp -implicitDefEqProofs only [go_sem]
  intro i1 h1
  simp -implicitDefEqProofs only [go_sem]
  refine (parse_ok leastT _ (he.sub (.upd_new h1))).pthen ?_
  rw [least_is]
  simp -implicitDefEqProofs only [go_sem, parsedA, leastP, polA, tgtA, oblsA, kidsA, openT, List.map_nil]
  intro i2 h2
  have n21 := ne_upd h2
  have n2 := upd_none h2
  simp -implicitDefEqProofs only [go_sem, upd_ne, n21, n21.symm]
  refine .mk _ (.refl _) (.refl _) ⟨?_, storeA newD, frz_fin (S := newD) rfl rfl rfl frz_empty frz_empty frz_empty frz_empty, rfl⟩
  rw [upd_comm' _ n21.symm]
  exact ((Sub.refl g).put h1 _).put n2 _
theorem id_ok (s : Txt) (h : Heap) : FnOK Tryz.prog 50 [.s s] h fun r h' => r = valA (idV s) ∧ h' = h := by
  refine FnOK.body hU hm Tryz.func50 rfl (by kernel_rfl) 5 rfl [.cell 2 38] rfl (Nat.le_of_ble_eq_true rfl) (fun hwf => ?_)
  simp -implicitDefEqProofs only [go_sem]
  intro i1 h1
  simp -implicitDefEqProofs only [go_sem]
  exact .mk _ (.refl _) (.upd_new h1) ⟨rfl, rfl⟩
theorem given_ok (cat : Int) (name : Txt) (xs : List AV) (q : Perm) (h : Heap) : FnOK Tryz.prog 51 [.v (.int .i64 cat), .s name, .sl xs q] h fun r h' => r = .agg [.v (.int .i64 cat), .s name, .sl xs q] ∧ h' = h := by
  refine FnOK.body hU hm Tryz.func51 rfl (by kernel_rfl) 11 rfl [.cell 6 43] rfl (Nat.le_of_ble_eq_true rfl) (fun hwf => ?_)
  simp -implicitDefEqProofs only [go_sem]
  intro i1 h1
  simp -implicitDefEqProofs only [go_sem]
  exact .mk _ (.refl _) (.upd_new h1) ⟨rfl, rfl⟩
theorem lgiven_ok (cat : Int) (name : Txt) (k n : Int) (s : Txt) (h : Heap) : FnOK Tryz.prog 15 [.v (.int .i64 cat), .s name, .v (.int .i64 k), .v (.int .i64 n), .s s] h fun r h' => r = .agg [.v (.int .i64 cat), .s name, .sl [valA ⟨k, n, s⟩] .full] ∧ h' = h := by
  refine FnOK.body hU hm Tryz.func15 rfl (by kernel_rfl) 19 rfl [.cell 10 43] rfl (Nat.le_of_ble_eq_true rfl) (fun hwf => ?_)
  simp -implicitDefEqProofs only [go_sem]
  intro i1 h1
  simp -implicitDefEqProofs only [go_sem]
  exact .mk _ (.refl _) (.upd_new h1) ⟨rfl, rfl⟩
theorem ixHap_ok {α : Type} (y : AV) (xs : List AV) (ds : List α) (q : α → Bool) (g : FuncId) (cap : List AV) (h : Heap) (hb : Rd h 3 y xs) (hn : xs.length = ds.length) (hl : xs.length ≤ 1000000000) (hx : ∀ x ∈ xs, isAggA x = true)
    (hp : ∀ i (h1 : i < xs.length) (h2 : i < ds.length), FnOK Tryz.prog g (xs[i] :: cap) h fun r h' => r = .v (.bool (q ds[i])) ∧ h' = h) :
    FnOK Tryz.prog 166 [y, .fn g cap] h fun r h' => r = .v (.int .i64 (ixD q ds)) ∧ h' = h := by
  refine FnOK.body hU hm Tryz.func166 rfl (by kernel_rfl) 19 rfl [.tmp 4] rfl (Nat.le_of_ble_eq_true rfl) (fun hwf => ?_)
  simp -implicitDefEqProofs only [go_sem, hb.len]
  refine .intro (fun m ρ h' => h' = h ∧ ∃ i : Nat, i ≤ xs.length ∧ m = xs.length - i ∧ (∀ j (hj : j < i) (h2 : j < ds.length), q ds[j] = false) ∧ lk ρ 0 = some y ∧ lk ρ 1 = some (.fn g cap) ∧ lk ρ 7 = some (.v (.int .i64 xs.length)) ∧ lk ρ 8 = some (.v (.int .i64 i))) xs.length ?_ ?_
  · refine ⟨rfl, 0, by omega, rfl, fun j hj => (by omega), ?_, ?_, ?_, ?_⟩ <;> simp -implicitDefEqProofs only [go_sem]
  · rintro m ρ h' ⟨rfl, i, hi, rfl, hc, r0, r1, r7, r8⟩
    simp -implicitDefEqProofs only [go_sem, r0, r1, r7, r8]
    refine .intro (fun e => ?_) (fun e => ?_)
    · have hlt : i < xs.length := Int.ofNat_lt.1 (of_decide_eq_true e)
      have hlt2 : i < ds.length := by omega
      have w1 : IntKind.i64.wrap ((i : Int) + 1) = ((i + 1 : Nat) : Int) := by rw [wr64 _ (by omega)]; omega
      simp -implicitDefEqProofs only [go_sem, r0, r1, r7, r8]
      refine hb.idx (e := 119) i rfl hlt (by simp only [go_sem]) (by decide) fun p hp1 => ?_
      have hld := hp1.all (U := U) (ty := 119) (by simp only [go_sem]) (by simp only [go_sem]; exact hb.1 _ (List.getElem_mem hlt)) (by simp only [go_sem]; rw [hx _ (List.getElem_mem hlt)])
      simp -implicitDefEqProofs only [go_sem, r0, r1, r7, r8, hld]
      refine (show FnOK Tryz.prog g (xs[i] :: cap) _ _ from hp i hlt hlt2).pthen ?_
      cases d1 : q ds[i]
      · simp -implicitDefEqProofs only [go_sem, r0, r1, r7, r8, w1]
        refine ⟨_, ?_, rfl, i + 1, by omega, rfl, fun j hj h2 => ?_, ?_, ?_, ?_, ?_⟩
        · omega
        · by_cases hji : j = i
          · subst hji; exact d1
          · exact hc j (by omega) h2
        all_goals simp -implicitDefEqProofs only [go_sem, r0, r1, r7, r8, w1]
      · simp -implicitDefEqProofs only [go_sem, r0, r1, r7, r8]
        exact .same (.refl _) ⟨by rw [ixD_at hlt2 d1 fun j hj => hc j hj (by omega)]; rfl, rfl⟩
    · have hge : i = xs.length := by have := of_decide_eq_false e; omega
      simp -implicitDefEqProofs only [go_sem, r0, r1, r7, r8]
      exact .same (.refl _) ⟨by rw [ixD_none fun j hj => hc j (by omega) hj]; rfl, rfl⟩
theorem took1_ok {h : Heap} (x : HapD) {k : Nat} {subj : Txt} (hk : h k = some (.obj [.s subj] 9)) : FnOK Tryz.prog 132 [hapA x, .ptr k 0] h fun r h' => r = .v (.bool (x.actor == subj)) ∧ h' = h := by
  refine FnOK.body hU hm Tryz.func132 rfl (by kernel_rfl) 8 rfl [.tmp 3] rfl (Nat.le_of_ble_eq_true rfl) (fun hwf => ?_)
  simp -implicitDefEqProofs only [go_sem, hapA]
  intro i1 h1
  have n1 : k ≠ i1 := fun e => by subst e; rw [hk] at h1; cases h1
  simp -implicitDefEqProofs only [go_sem, upd_ne, n1, n1.symm, hk]
  exact .mk _ (.refl _) (.upd_new h1) ⟨rfl, rfl⟩
theorem any_ix {α : Type} (q : α → Bool) (l : List α) : decide ((0 : Int) ≤ ixD q l) = l.any q := by
  unfold ixD
  by_cases h : l.findIdx q < l.length
  · rw [if_pos h, decide_eq_true (by omega)]
    exact (List.any_eq_true.2 ⟨_, List.getElem_mem h, List.findIdx_getElem (w := h)⟩).symm
  · rw [if_neg h]
    have e : l.findIdx q = l.length := by
      have : l.findIdx q ≤ l.length := List.findIdx_le_length
      omega
    have := List.findIdx_eq_length.1 e
    rw [decide_eq_false (by decide)]
    exact (List.any_eq_false.2 fun x hx => by rw [this x hx]; decide).symm
theorem hasHap_ok (y : AV) (ds : List HapD) (q : HapD → Bool) (g : FuncId) (cap : List AV) (h : Heap) (hb : Rd h 3 y (ds.map hapA)) (hl : ds.length ≤ 1000000000)
    (hp : ∀ i (h2 : i < ds.length), FnOK Tryz.prog g (hapA ds[i] :: cap) h fun r h' => r = .v (.bool (q ds[i])) ∧ h' = h) :
    FnOK Tryz.prog 131 [y, .fn g cap] h fun r h' => r = .v (.bool (ds.any q)) ∧ h' = h := by
  refine FnOK.body hU hm Tryz.func131 rfl (by kernel_rfl) 9 rfl [.tmp 4] rfl (Nat.le_of_ble_eq_true rfl) (fun hwf => ?_)
  simp -implicitDefEqProofs only [go_sem]
  refine (ixHap_ok y _ ds q g cap h hb (by simp) (by simpa using hl) (agg_map (fun _ => rfl) _) fun i a b => by rw [List.getElem_map]; exact hp i b).pthen ?_
  simp -implicitDefEqProofs only [go_sem, any_ix]
  exact .same (.refl _) ⟨rfl, rfl⟩
theorem took_ok {h : Heap} {x : AV} {c : CaseD} (hb : RdC h x c) (subj : Txt) (hl : c.log.length ≤ 1000000000) : FnOK Tryz.prog 97 [x, .s subj] h fun r h' => r = valA (tookD c.log subj) ∧ h' = h := by
  obtain ⟨f, l, rfl, hf, hlg⟩ := hb
  refine FnOK.body hU hm Tryz.func97 rfl (by kernel_rfl) 13 rfl [.cell 4 38] rfl (Nat.le_of_ble_eq_true rfl) (fun hwf => ?_)
  simp -implicitDefEqProofs only [go_sem]
  intro i1 h1
  simp -implicitDefEqProofs only [go_sem]
  intro i2 h2
  have n21 := ne_upd h2
  have n2 := upd_none h2
  simp -implicitDefEqProofs only [go_sem, upd_ne, n21, n21.symm]
  intro i3 h3
  have n32 := ne_upd h3
  have h3' := upd_none h3
  have n31 := ne_upd h3'
  have n3 := upd_none h3'
  simp -implicitDefEqProofs only [go_sem, upd_ne, n21, n21.symm, n31, n31.symm, n32, n32.symm]
  intro i4 h4
  have n43 := ne_upd h4
  have h4' := upd_none h4
  have n42 := ne_upd h4'
  have h4'' := upd_none h4'
  have n41 := ne_upd h4''
  have n4 := upd_none h4''
  have hs : ∀ a b d e, Ab.Sub h (upd (upd (upd (upd h i1 a) i2 b) i3 d) i4 e) := fun a b d e => ((((Sub.refl h).put h1 a).put n2 b).put n3 d).put n4 e
  simp -implicitDefEqProofs only [go_sem, upd_ne, n21, n21.symm, n31, n31.symm, n32, n32.symm, n41, n41.symm, n42, n42.symm, n43, n43.symm]
  refine (hasHap_ok l c.log (fun x => x.actor == subj) _ [.ptr i2 0] _ (hlg.sub (hs _ _ _ _)) hl fun i b => took1_ok _ (by simp only [upd_ne, n42.symm, n32.symm, upd_same', not_false_eq_true])).pthen ?_
  cases d1 : c.log.any fun x => x.actor == subj
  · simp -implicitDefEqProofs only [go_sem, upd_ne, n21, n21.symm, n31, n31.symm, n32, n32.symm, n41, n41.symm, n42, n42.symm, n43, n43.symm, d1]
    exact .mk _ (.refl _) (by repeat' first | exact .refl _ | (refine Sub.put ?_ (by assumption) _)) ⟨by simp [tookD, d1, valA, oneOr], rfl⟩
  · simp -implicitDefEqProofs only [go_sem, upd_ne, n21, n21.symm, n31, n31.symm, n32, n32.symm, n41, n41.symm, n42, n42.symm, n43, n43.symm, d1]
    exact .mk _ (.refl _) (by repeat' first | exact .refl _ | (refine Sub.put ?_ (by assumption) _)) ⟨by simp [tookD, d1, valA, oneOr], rfl⟩
end Go.Proofs.YtnhelgnmadbpgaaGreatDoor

set_option linter.unusedSimpArgs false
set_option linter.unusedVariables false
namespace Go.Proofs.YtnhelgnmadbpgaaGreatDoor
open Go Go.Ab Go.Bf
def givQ (g : GivD) (q : Perm) : AV := .agg [.v (.int .i64 g.cat), .s g.name, .sl (g.bag.map valA) q]
def GRow (ys : List AV) (gs : List GivD) : Prop := ys.length = gs.length ∧ ∀ j (h1 : j < ys.length) (h2 : j < gs.length), ∃ q, ys[j] = givQ gs[j] q
theorem GRow.sized {ys : List AV} {gs : List GivD} (h : GRow ys gs) : Sized 3 ys := fun z hz => by
  obtain ⟨i, hi, rfl⟩ := List.mem_iff_getElem.1 hz
  obtain ⟨q, e⟩ := h.2 i hi (by rw [← h.1]; exact hi)
  rw [e]; rfl
theorem GRow.nil : GRow [] [] := ⟨rfl, fun j h => by cases h⟩
theorem GRow.one (g : GivD) (q : Perm) : GRow [givQ g q] [g] := ⟨rfl, fun j h1 h2 => by
  obtain rfl : j = 0 := by simpa using h1
  exact ⟨q, rfl⟩⟩
theorem GRow.app {ys zs : List AV} {gs ks : List GivD} (h : GRow ys gs) (k : GRow zs ks) : GRow (ys ++ zs) (gs ++ ks) := ⟨by simp [h.1, k.1], fun j h1 h2 => by
  have hl := h.1
  by_cases e : j < ys.length
  · rw [List.getElem_append_left e, List.getElem_append_left (by omega)]; exact h.2 j e (by omega)
  · rw [List.getElem_append_right (by omega), List.getElem_append_right (by omega)]
    simp only [List.length_append] at h1 h2
    obtain ⟨q, e'⟩ := k.2 (j - ys.length) (by omega) (by omega)
    exact ⟨q, by rw [e']; simp only [hl]⟩⟩
theorem GRow.weak {ys : List AV} {gs : List GivD} (h : GRow ys gs) (q : Perm) : Weak (.sl ys q) (givsA gs) := by
  refine .deep _ _ q (by simp [h.1]) (fun k h1 h2 => ?_) fun k h1 h2 j h3 h4 => ?_
  · obtain ⟨q', e'⟩ := h.2 k h1 (by rw [← h.1]; exact h1)
    rw [e', List.getElem_map]; rfl
  · obtain ⟨q', e'⟩ := h.2 k h1 (by rw [← h.1]; exact h1)
    simp only [e', List.getElem_map]
    simp only [e', givQ, AV.cells] at h3
    simp only [givQ, givA, AV.cells]
    rcases j with _ | _ | _ | j
    · exact .refl _
    · exact .refl _
    · exact .sl _ _
    · simp at h3; omega
theorem GRow.givs (gs : List GivD) : GRow (gs.map givA) gs := ⟨by simp, fun j h1 h2 => ⟨.no, by rw [List.getElem_map]; rfl⟩⟩
theorem uGiven : (U 43).sz = 3 := by simp only [go_sem]
theorem sized_one (g : GivD) (q : Perm) : Sized 3 [givQ g q] := fun z hz => by rw [List.mem_singleton.1 hz]; rfl
def headGs (c : CaseD) (subj : Txt) : List GivD := [⟨3, idT, [idV c.id]⟩, ⟨3, [111, 119, 110, 101, 114], [idV c.owner]⟩, ⟨3, [115, 116, 97, 116, 101], [idV c.state]⟩, ⟨3, [101, 118, 101, 110, 116, 115], [⟨2, c.log.length, []⟩]⟩, ⟨3, [116, 111, 111, 107], [tookD c.log subj]⟩]
def lastGs (c : CaseD) : List GivD := match c.log.getLast? with
  | some x => [⟨3, [108, 97, 115, 116], [idV x.actor]⟩]
  | none => []
def fieldGs (l : List FieldD) : List GivD := (l.filter fun f => decide (f.name.length ≤ 14)).map fun f => ⟨3, [102, 95] ++ f.name, [f.val]⟩
theorem fieldGs_succ (l : List FieldD) (i : Nat) (h : i < l.length) : fieldGs (l.take (i + 1)) = fieldGs (l.take i) ++ (if l[i].name.length ≤ 14 then [⟨3, [102, 95] ++ l[i].name, [l[i].val]⟩] else []) := by
  unfold fieldGs
  rw [List.take_succ_eq_append_getElem h, List.filter_append, List.map_append]
  congr 1
  by_cases hh : l[i].name.length ≤ 14 <;> simp [hh]
theorem askCaseD_eq (c : CaseD) (subj : Txt) : askCaseD c subj = headGs c subj ++ lastGs c ++ fieldGs c.fields := rfl
set_option maxRecDepth 100000 in
theorem askCase_ok {h : Heap} (c : CaseD) (subj : Txt) (hl : c.log.length ≤ 1000000) (hlf : c.fields.length ≤ 1000000) : FnOK Tryz.prog 52 [caseA c, .s subj] h fun r h' => r = givsA (askCaseD c subj) ∧ h' = h := by
  refine FnOK.body hU hm Tryz.func52 rfl (by kernel_rfl) 77 rfl [.tmp 4] rfl (Nat.le_of_ble_eq_true rfl) (fun hwf => ?_)
  simp -implicitDefEqProofs only [go_sem, caseA, caseC, fieldsA, logA]
  intro i1 h1
  simp -implicitDefEqProofs only [go_sem]
  refine .quiet (by kernel_rfl) ?_
  simp -implicitDefEqProofs only [go_sem]
  refine ⟨_, id_ok _ _, ?_⟩
  simp -implicitDefEqProofs only [go_sem, valA, idV]
  refine ⟨_, given_ok _ _ _ _ _, ?_⟩
  simp -implicitDefEqProofs only [go_sem, valA, idV]
  refine ⟨_, id_ok _ _, ?_⟩
  simp -implicitDefEqProofs only [go_sem, valA, idV]
  refine ⟨_, given_ok _ _ _ _ _, ?_⟩
  simp -implicitDefEqProofs only [go_sem, valA, idV]
  refine ⟨_, id_ok _ _, ?_⟩
  simp -implicitDefEqProofs only [go_sem, valA, idV]
  refine ⟨_, given_ok _ _ _ _ _, ?_⟩
  simp -implicitDefEqProofs only [go_sem, valA, idV]
  refine ⟨_, given_ok _ _ _ _ _, ?_⟩
  simp -implicitDefEqProofs only [go_sem, valA, idV]
  refine ⟨_, took_ok (show RdC _ (.agg [.s c.id, .s c.owner, .s c.state, .sl (c.fields.map fieldA) .no, .sl (c.log.map hapA) .no]) c from rdC _ c) subj (by omega), ?_⟩
  simp -implicitDefEqProofs only [go_sem, valA]
  refine ⟨_, given_ok _ _ _ _ _, ?_⟩
  simp -implicitDefEqProofs only [go_sem, valA, List.length_map]
  have hs1 : ∀ b, Ab.Sub h (upd h i1 b) := fun b => (Sub.refl h).put h1 b
  have hrow5 : GRow [.agg [.v (.int .i64 3), .s [105, 100], .sl [.agg [.v (.int .i64 5), .v (.int .i64 0), .s c.id]] .full], .agg [.v (.int .i64 3), .s [111, 119, 110, 101, 114], .sl [.agg [.v (.int .i64 5), .v (.int .i64 0), .s c.owner]] .full], .agg [.v (.int .i64 3), .s [115, 116, 97, 116, 101], .sl [.agg [.v (.int .i64 5), .v (.int .i64 0), .s c.state]] .full], .agg [.v (.int .i64 3), .s [101, 118, 101, 110, 116, 115], .sl [.agg [.v (.int .i64 2), .v (.int .i64 c.log.length), .s []]] .full], .agg [.v (.int .i64 3), .s [116, 111, 111, 107], .sl [valA (tookD c.log subj)] .full]] (headGs c subj) := (GRow.one ⟨3, idT, [idV c.id]⟩ .full).app ((GRow.one ⟨3, [111, 119, 110, 101, 114], [idV c.owner]⟩ .full).app ((GRow.one ⟨3, [115, 116, 97, 116, 101], [idV c.state]⟩ .full).app ((GRow.one ⟨3, [101, 118, 101, 110, 116, 115], [⟨2, c.log.length, []⟩]⟩ .full).app (GRow.one ⟨3, [116, 111, 111, 107], [tookD c.log subj]⟩ .full))))
  simp only [valA] at hrow5
  cases d1 : decide ((0 : Int) < (c.log.length : Int))
  · have hl0 : c.log = [] := List.length_eq_zero_iff.1 (by have := of_decide_eq_false d1; omega)
    simp -implicitDefEqProofs only [go_sem, d1]
    simp -implicitDefEqProofs only [go_sem, List.length_map]
    refine .intro (fun m ρ H => ∃ (i : Nat) (y : AV) (ys : List AV), Acc U 43 h H y ys ∧ H i1 = some (.obj [.s c.id, .s c.owner, .s c.state, .sl (c.fields.map fieldA) .no, .sl (c.log.map hapA) .no] 63) ∧ GRow ys (headGs c subj ++ fieldGs (c.fields.take i)) ∧ i ≤ c.fields.length ∧ m = c.fields.length - i ∧ lk ρ 5 = some y ∧ lk ρ 2 = some (.ptr i1 0) ∧ lk ρ 55 = some (.sl (c.fields.map fieldA) .no) ∧ lk ρ 56 = some (.v (.int .i64 c.fields.length)) ∧ lk ρ 57 = some (.v (.int .i64 i))) c.fields.length ?_ ?_
    · refine ⟨0, _, _, .full (hs1 _), upd_same .., (by have := hrow5; simpa [fieldGs] using this), by omega, rfl, ?_, ?_, ?_, ?_, ?_⟩ <;> simp -implicitDefEqProofs only [go_sem]
    · rintro m ρ H ⟨i, y, ys, hy, g1, hrow, hi, rfl, r5, r2, r55, r56, r57⟩
      simp -implicitDefEqProofs only [go_sem, r5, r2, r55, r56, r57]
      refine .intro (fun e => ?_) (fun e => ?_)
      · have hlt : i < c.fields.length := Int.ofNat_lt.1 (of_decide_eq_true e)
        have w1 : IntKind.i64.wrap ((i : Int) + 1) = ((i + 1 : Nat) : Int) := by rw [wr64 _ (by omega)]; omega
        simp -implicitDefEqProofs only [go_sem, r5, r2, r55, r56, r57]
        refine .at i (by simpa using hlt) (by rw [List.getElem_map]; rfl) ?_
        simp -implicitDefEqProofs only [go_sem, r5, r2, r55, r56, r57, List.getElem_map, fieldA]
        intro i8 h8
        have n81 : i1 ≠ i8 := fun e => by rw [← e, g1] at h8; cases h8
        simp -implicitDefEqProofs only [go_sem, upd_ne, n81, n81.symm, r5, r2, r55, r56, r57]
        cases d2 : decide ((c.fields[i].name.length : Int) ≤ 14)
        · simp -implicitDefEqProofs only [go_sem, upd_ne, n81, n81.symm, r5, r2, r55, r56, r57, d2, w1]
          have hskip : fieldGs (c.fields.take (i + 1)) = fieldGs (c.fields.take i) := by
            have : ¬ c.fields[i].name.length ≤ 14 := by have := of_decide_eq_false d2; omega
            rw [fieldGs_succ _ _ hlt, if_neg this, List.append_nil]
          refine ⟨_, ?_, i + 1, y, ys, hy.sub (.upd_new h8), (upd_other _ _ n81).trans g1, by rw [hskip]; exact hrow, by omega, rfl, ?_, ?_, ?_, ?_, ?_⟩
          · omega
          all_goals simp -implicitDefEqProofs only [go_sem, r5, r2, r55, r56, r57, w1]
        · simp -implicitDefEqProofs only [go_sem, upd_ne, n81, n81.symm, r5, r2, r55, r56, r57, d2, w1]
          have h14 : c.fields[i].name.length ≤ 14 := by have := of_decide_eq_true d2; omega
          refine ⟨by have : (1000 : Nat) < lim := (by decide); omega, ?_⟩
          refine (given_ok _ _ _ _ _).pthen ?_
          simp -implicitDefEqProofs only [go_sem, upd_ne, n81, n81.symm, r5, r2, r55, r56, r57, d2, w1]
          refine (hy.sub (.upd_new h8)).app (zs := [givQ ⟨3, [102, 95] ++ c.fields[i].name, [c.fields[i].val]⟩ .full]) (by rw [uGiven]; decide) (by simp only [go_sem, ne_eq, not_false_eq_true]) (fun k hk => (Rd.sl (sized_one _ _) .full : Rd _ 3 _ _).src uGiven hk) (by rw [uGiven]; exact hrow.sized) (by rw [uGiven]; exact sized_one _ _) (by
            have hln : (fieldGs (c.fields.take i)).length ≤ i := by unfold fieldGs; rw [List.length_map]; exact Nat.le_trans (List.length_filter_le _ _) (by rw [List.length_take]; omega)
            simp only [go_sem, hrow.1, List.length_cons, List.length_nil, List.length_append, headGs]; omega) fun y' H' hy' kp => ?_
          simp -implicitDefEqProofs only [go_sem, upd_ne, n81, n81.symm, r5, r2, r55, r56, r57, d2, w1]
          refine ⟨_, ?_, i + 1, y', _, hy', kp _ _ _ ((upd_other _ _ n81).trans g1), by rw [fieldGs_succ _ _ hlt, if_pos h14, ← List.append_assoc]; exact hrow.app (GRow.one _ _), by omega, rfl, ?_, ?_, ?_, ?_, ?_⟩
          · omega
          all_goals simp -implicitDefEqProofs only [go_sem, r5, r2, r55, r56, r57, w1]
      · have hge : i = c.fields.length := by have := of_decide_eq_false e; omega
        subst hge
        rw [List.take_length] at hrow
        obtain ⟨q, rfl⟩ := hy.row
        simp -implicitDefEqProofs only [go_sem, r5, r2, r55, r56, r57]
        exact .mk (givsA (askCaseD c subj)) (show Weak (.sl ys q) _ by rw [askCaseD_eq, lastGs, hl0]; simpa using hrow.weak q) hy.1 ⟨rfl, rfl⟩
  · have hl1 : 0 < c.log.length := by have := of_decide_eq_true d1; omega
    simp -implicitDefEqProofs only [go_sem, d1]
    have w0 : IntKind.i64.wrap ((c.log.length : Int) - 1) = ((c.log.length - 1 : Nat) : Int) := by rw [wr64 _ (by omega)]; omega
    simp -implicitDefEqProofs only [go_sem, w0]
    refine .at (c.log.length - 1) (by simp; omega) (by rw [List.getElem_map]; rfl) ?_
    simp -implicitDefEqProofs only [go_sem, List.getElem_map, hapA]
    rw [if_neg (fun hh => hh.1)]
    refine (id_ok _ _).pthen ?_
    simp -implicitDefEqProofs only [go_sem, valA, idV]
    refine (given_ok _ _ _ _ _).pthen ?_
    simp -implicitDefEqProofs only [go_sem, valA, idV]
    have hgl : c.log.getLast? = some c.log[c.log.length - 1] := by rw [List.getLast?_eq_getElem?, List.getElem?_eq_getElem (by omega)]
    have hlast : GRow [.agg [.v (.int .i64 3), .s [108, 97, 115, 116], .sl [.agg [.v (.int .i64 5), .v (.int .i64 0), .s c.log[c.log.length - 1].actor]] .full]] (lastGs c) := by
      unfold lastGs
      rw [hgl]
      exact GRow.one ⟨3, [108, 97, 115, 116], [idV c.log[c.log.length - 1].actor]⟩ .full
    refine .accs (hs1 _) fun y0 H0 hy0 kp0 => ?_
    simp -implicitDefEqProofs only [go_sem, kp0 _ _ _ (upd_same ..), List.length_map]
    refine .intro (fun m ρ H => ∃ (i : Nat) (y : AV) (ys : List AV), Acc U 43 h H y ys ∧ H i1 = some (.obj [.s c.id, .s c.owner, .s c.state, .sl (c.fields.map fieldA) .no, .sl (c.log.map hapA) .no] 63) ∧ GRow ys ((headGs c subj ++ lastGs c) ++ fieldGs (c.fields.take i)) ∧ i ≤ c.fields.length ∧ m = c.fields.length - i ∧ lk ρ 5 = some y ∧ lk ρ 2 = some (.ptr i1 0) ∧ lk ρ 55 = some (.sl (c.fields.map fieldA) .no) ∧ lk ρ 56 = some (.v (.int .i64 c.fields.length)) ∧ lk ρ 57 = some (.v (.int .i64 i))) c.fields.length ?_ ?_
    · refine ⟨0, _, _, hy0, kp0 _ _ _ (upd_same ..), (by have := hrow5.app hlast; simpa [fieldGs] using this), by omega, rfl, ?_, ?_, ?_, ?_, ?_⟩ <;> simp -implicitDefEqProofs only [go_sem]
    · rintro m ρ H ⟨i, y, ys, hy, g1, hrow, hi, rfl, r5, r2, r55, r56, r57⟩
      simp -implicitDefEqProofs only [go_sem, r5, r2, r55, r56, r57]
      refine .intro (fun e => ?_) (fun e => ?_)
      · have hlt : i < c.fields.length := Int.ofNat_lt.1 (of_decide_eq_true e)
        have w1 : IntKind.i64.wrap ((i : Int) + 1) = ((i + 1 : Nat) : Int) := by rw [wr64 _ (by omega)]; omega
        simp -implicitDefEqProofs only [go_sem, r5, r2, r55, r56, r57]
        refine .at i (by simpa using hlt) (by rw [List.getElem_map]; rfl) ?_
        simp -implicitDefEqProofs only [go_sem, r5, r2, r55, r56, r57, List.getElem_map, fieldA]
        intro i8 h8
        have n81 : i1 ≠ i8 := fun e => by rw [← e, g1] at h8; cases h8
        simp -implicitDefEqProofs only [go_sem, upd_ne, n81, n81.symm, r5, r2, r55, r56, r57]
        cases d2 : decide ((c.fields[i].name.length : Int) ≤ 14)
        · simp -implicitDefEqProofs only [go_sem, upd_ne, n81, n81.symm, r5, r2, r55, r56, r57, d2, w1]
          have hskip : fieldGs (c.fields.take (i + 1)) = fieldGs (c.fields.take i) := by
            have : ¬ c.fields[i].name.length ≤ 14 := by have := of_decide_eq_false d2; omega
            rw [fieldGs_succ _ _ hlt, if_neg this, List.append_nil]
          refine ⟨_, ?_, i + 1, y, ys, hy.sub (.upd_new h8), (upd_other _ _ n81).trans g1, by rw [hskip]; exact hrow, by omega, rfl, ?_, ?_, ?_, ?_, ?_⟩
          · omega
          all_goals simp -implicitDefEqProofs only [go_sem, r5, r2, r55, r56, r57, w1]
        · simp -implicitDefEqProofs only [go_sem, upd_ne, n81, n81.symm, r5, r2, r55, r56, r57, d2, w1]
          have h14 : c.fields[i].name.length ≤ 14 := by have := of_decide_eq_true d2; omega
          refine ⟨by have : (1000 : Nat) < lim := (by decide); omega, ?_⟩
          refine (given_ok _ _ _ _ _).pthen ?_
          simp -implicitDefEqProofs only [go_sem, upd_ne, n81, n81.symm, r5, r2, r55, r56, r57, d2, w1]
          refine (hy.sub (.upd_new h8)).app (zs := [givQ ⟨3, [102, 95] ++ c.fields[i].name, [c.fields[i].val]⟩ .full]) (by rw [uGiven]; decide) (by simp only [go_sem, ne_eq, not_false_eq_true]) (fun k hk => (Rd.sl (sized_one _ _) .full : Rd _ 3 _ _).src uGiven hk) (by rw [uGiven]; exact hrow.sized) (by rw [uGiven]; exact sized_one _ _) (by
            have hln : (fieldGs (c.fields.take i)).length ≤ i := by unfold fieldGs; rw [List.length_map]; exact Nat.le_trans (List.length_filter_le _ _) (by rw [List.length_take]; omega)
            simp only [go_sem, hrow.1, List.length_cons, List.length_nil, List.length_append, headGs, lastGs, hgl]; omega) fun y' H' hy' kp => ?_
          simp -implicitDefEqProofs only [go_sem, upd_ne, n81, n81.symm, r5, r2, r55, r56, r57, d2, w1]
          refine ⟨_, ?_, i + 1, y', _, hy', kp _ _ _ ((upd_other _ _ n81).trans g1), by rw [fieldGs_succ _ _ hlt, if_pos h14, ← List.append_assoc]; exact hrow.app (GRow.one _ _), by omega, rfl, ?_, ?_, ?_, ?_, ?_⟩
          · omega
          all_goals simp -implicitDefEqProofs only [go_sem, r5, r2, r55, r56, r57, w1]
      · have hge : i = c.fields.length := by have := of_decide_eq_false e; omega
        subst hge
        rw [List.take_length] at hrow
        obtain ⟨q, rfl⟩ := hy.row
        simp -implicitDefEqProofs only [go_sem, r5, r2, r55, r56, r57]
        exact .mk (givsA (askCaseD c subj)) (show Weak (.sl ys q) _ by rw [askCaseD_eq]; exact hrow.weak q) hy.1 ⟨rfl, rfl⟩
end Go.Proofs.YtnhelgnmadbpgaaGreatDoor

set_option linter.unusedSimpArgs false
set_option linter.unusedVariables false
namespace Go.Proofs.YtnhelgnmadbpgaaGreatDoor
open Go Go.Ab Go.Bf
theorem rolesOf_yes {l : List RoleD} {subj : Txt} {i : Nat} (h : i < l.length) (h1 : l[i].subj = subj) (h2 : (rolesOf (l.take i) subj).length < 16) : rolesOf (l.take (i + 1)) subj = rolesOf (l.take i) subj ++ [idV l[i].role] := by
  unfold rolesOf at h2 ⊢
  rw [List.take_succ_eq_append_getElem h, List.filter_append, List.map_append]
  rw [List.length_take] at h2
  have hl : (((l.take i).filter fun r => r.subj == subj).map fun r => idV r.role).length < 16 := by omega
  rw [List.take_append, List.take_of_length_le (by omega), List.filter_cons, List.filter_nil, if_pos (by simp [h1])]
  congr 1
  rw [List.take_of_length_le (by simp; simp at hl; omega)]; rfl
theorem rolesOf_no {l : List RoleD} {subj : Txt} {i : Nat} (h : i < l.length) (h1 : l[i].subj ≠ subj ∨ ¬ (rolesOf (l.take i) subj).length < 16) : rolesOf (l.take (i + 1)) subj = rolesOf (l.take i) subj := by
  unfold rolesOf at h1 ⊢
  rw [List.take_succ_eq_append_getElem h, List.filter_append, List.map_append, List.take_append]
  by_cases hs : l[i].subj = subj
  · have h2 := h1.resolve_left (fun h => h hs)
    rw [List.length_take] at h2
    rw [show 16 - (((l.take i).filter fun r => r.subj == subj).map fun r => idV r.role).length = 0 by omega, List.take_zero, List.append_nil]
  · rw [List.filter_cons, List.filter_nil, if_neg (by simpa using hs)]
    simp
theorem rolesOf_le (l : List RoleD) (subj : Txt) : (rolesOf l subj).length ≤ 16 := by unfold rolesOf; rw [List.length_take]; omega
def askHead (s : StoreD) (o : OpD) : List GivD := [⟨1, idT, [idV o.subj]⟩, ⟨1, [114, 111, 108, 101], rolesOf s.roles o.subj⟩, ⟨2, [110, 97, 109, 101], [idV (actionD o.kind)]⟩]
theorem few_case {s : StoreD} (hf : Few s) (id : Txt) : (caseD s.cases id).log.length ≤ 1000000 ∧ (caseD s.cases id).fields.length ≤ 1000000 := by
  cases e : thereD s.cases id
  · rw [caseD_no e]; exact ⟨Nat.zero_le _, Nat.zero_le _⟩
  · rw [caseD_at e]; exact ⟨hf.log _ (List.getElem_mem _), hf.fields _ (List.getElem_mem _)⟩
theorem askCase_len (c : CaseD) (subj : Txt) : (askCaseD c subj).length ≤ 6 + c.fields.length := by
  rw [askCaseD_eq, List.length_append, List.length_append]
  have h1 : (lastGs c).length ≤ 1 := by unfold lastGs; split <;> simp
  have h2 : (fieldGs c.fields).length ≤ c.fields.length := by unfold fieldGs; rw [List.length_map]; exact List.length_filter_le _ _
  have h3 : (headGs c subj).length = 5 := rfl
  omega
theorem hsub_none {h G : Heap} {i : Nat} (hs : Ab.Sub h G) (hi : G i = none) : h i = none := hs.none hi
theorem uValue : (U 38).sz = 3 := by simp only [go_sem]
set_option maxRecDepth 100000 in
theorem ask_ok {h : Heap} {x : AV} {s : StoreD} (hb : RdS h x s) (o : OpD) (hf : Few s) (hk : i64 o.kind) : FnOK Tryz.prog 17 [x, opA o] h fun r h' => r = givsA (askD s o) ∧ h' = h := by
  have hca := fun (G : Heap) (hG : Ab.Sub h G) => case_ok (hb.sub hG) o.case hf
  obtain ⟨y1, y2, y3, y4, rfl, ⟨xs, hc, hn, hcs⟩, h2, h3, h4⟩ := hb
  cases hpp : s.policy with
  | mk pid pset palg ptgt prules pkids pobls =>
  have hcC : polC (.mk pid pset palg ptgt prules pkids pobls) = [.s pid, .v (.bool pset), .v (.int .i64 palg), tgtA ptgt, .sl (prules.map ruleA) .no, .sl (pkids.map polA) .no, oblsA pobls] := by simp [polC, kidsA_eq]
  rw [hpp, hcC] at hca
  simp only [List.cons_append, List.nil_append] at hca
  have hfr := hf.roles
  refine FnOK.body hU hm Tryz.func17 rfl (by kernel_rfl) 99 rfl [.tmp 4] rfl (Nat.le_of_ble_eq_true rfl) (fun hwf => ?_)
  simp -implicitDefEqProofs only [go_sem, hcC, opA, opC, List.cons_append, List.nil_append]
  intro i1 h1
  simp -implicitDefEqProofs only [go_sem]
  intro i2 h2'
  have n21 := ne_upd h2'
  have n2 := upd_none h2'
  simp -implicitDefEqProofs only [go_sem, upd_ne, n21, n21.symm, h4.len, List.length_map]
  obtain ⟨H, eH⟩ : ∃ H, upd (upd h i1 (some (.obj [.v (.int .i64 s.tick), y1, y2, y3, y4, .s pid, .v (.bool pset), .v (.int .i64 palg), tgtA ptgt, .sl (prules.map ruleA) .no, .sl (pkids.map polA) .no, oblsA pobls, .v (.int .i64 s.version)] 34))) i2 (some (.obj (opC o) 40)) = H := ⟨_, rfl⟩
  have hH : Ab.Sub h H := by rw [← eH]; exact ((Sub.refl h).put h1 _).put n2 _
  have g1 : H i1 = some (.obj [.v (.int .i64 s.tick), y1, y2, y3, y4, .s pid, .v (.bool pset), .v (.int .i64 palg), tgtA ptgt, .sl (prules.map ruleA) .no, .sl (pkids.map polA) .no, oblsA pobls, .v (.int .i64 s.version)] 34) := by rw [← eH, upd_other _ _ n21.symm, upd_same]
  have g2 : H i2 = some (.obj (opC o) 40) := by rw [← eH, upd_same]
  simp only [opC] at eH g2
  rw [eH]
  clear eH
  refine .intro (fun m ρ G => ∃ (i : Nat) (y : AV), Acc U 38 H G y ((rolesOf (s.roles.take i) o.subj).map valA) ∧ i ≤ s.roles.length ∧ m = s.roles.length - i ∧ lk ρ 5 = some y ∧ lk ρ 2 = some (.ptr i1 0) ∧ lk ρ 3 = some (.ptr i2 0) ∧ lk ρ 12 = some y4 ∧ lk ρ 13 = some (.v (.int .i64 s.roles.length)) ∧ lk ρ 14 = some (.v (.int .i64 i))) s.roles.length ?_ ?_
  · refine ⟨0, _, .full (.refl _), by omega, rfl, ?_, ?_, ?_, ?_, ?_, ?_⟩ <;> simp -implicitDefEqProofs only [go_sem, rolesOf, List.take_zero, List.filter_nil, List.map_nil]
  · rintro m ρ G ⟨i, y, hy, hi, rfl, r5, r2, r3, r12, r13, r14⟩
    have k1 := hy.1 _ _ g1
    have k2 := hy.1 _ _ g2
    simp -implicitDefEqProofs only [go_sem, r5, r2, r3, r12, r13, r14]
    refine .intro (fun e => ?_) (fun e => ?_)
    · have hlt : i < s.roles.length := Int.ofNat_lt.1 (of_decide_eq_true e)
      have w1 : IntKind.i64.wrap ((i : Int) + 1) = ((i + 1 : Nat) : Int) := by rw [wr64 _ (by omega)]; omega
      simp -implicitDefEqProofs only [go_sem, r5, r2, r3, r12, r13, r14]
      refine (h4.sub (hH.trans hy.1)).idx (e := 75) i rfl (by simpa using hlt) uRole (by decide) fun p hp1 => ?_
      have hld := hp1.all (U := U) (ty := 75) (by simp only [go_sem]) (by rw [uRole, List.getElem_map]; rfl) (by simp only [go_sem]; rw [List.getElem_map]; rfl)
      simp -implicitDefEqProofs only [go_sem, r5, r2, r3, r12, r13, r14, hld, List.getElem_map, roleA]
      intro i7 h7
      have n71 : i1 ≠ i7 := fun e => by rw [← e, k1] at h7; cases h7
      have n72 : i2 ≠ i7 := fun e => by rw [← e, k2] at h7; cases h7
      simp -implicitDefEqProofs only [go_sem, upd_ne, n71, n71.symm, n72, n72.symm, k1, k2, r5, r2, r3, r12, r13, r14]
      have hy7 := hy.sub (.upd_new h7 (k := some (.obj [.s s.roles[i].subj, .s s.roles[i].role] 75)))
      have lr := rolesOf_le (s.roles.take i) o.subj
      cases d1 : (s.roles[i].subj == o.subj)
      · have p1 : s.roles[i].subj ≠ o.subj := by simpa using d1
        simp -implicitDefEqProofs only [go_sem, upd_ne, n71, n71.symm, n72, n72.symm, k1, k2, r5, r2, r3, r12, r13, r14, d1, w1]
        refine ⟨_, ?_, i + 1, y, by rw [rolesOf_no hlt (.inl p1)]; exact hy7, by omega, rfl, ?_, ?_, ?_, ?_, ?_, ?_⟩
        · omega
        all_goals simp -implicitDefEqProofs only [go_sem, r5, r2, r3, r12, r13, r14, w1]
      · have p1 : s.roles[i].subj = o.subj := by simpa using d1
        simp -implicitDefEqProofs only [go_sem, upd_ne, n71, n71.symm, n72, n72.symm, k1, k2, r5, r2, r3, r12, r13, r14, d1, hy.len, List.length_map]
        cases d2 : decide (((rolesOf (s.roles.take i) o.subj).length : Int) < 16)
        · have p2 : ¬ (rolesOf (s.roles.take i) o.subj).length < 16 := by have := of_decide_eq_false d2; omega
          simp -implicitDefEqProofs only [go_sem, upd_ne, n71, n71.symm, n72, n72.symm, k1, k2, r5, r2, r3, r12, r13, r14, d1, d2, hy.len, List.length_map, w1]
          refine ⟨_, ?_, i + 1, y, by rw [rolesOf_no hlt (.inr p2)]; exact hy7, by omega, rfl, ?_, ?_, ?_, ?_, ?_, ?_⟩
          · omega
          all_goals simp -implicitDefEqProofs only [go_sem, r5, r2, r3, r12, r13, r14, w1]
        · have p2 : (rolesOf (s.roles.take i) o.subj).length < 16 := by have := of_decide_eq_true d2; omega
          simp -implicitDefEqProofs only [go_sem, upd_ne, n71, n71.symm, n72, n72.symm, k1, k2, r5, r2, r3, r12, r13, r14, d1, d2, hy.len, List.length_map, w1]
          refine (id_ok _ _).pthen ?_
          simp -implicitDefEqProofs only [go_sem, upd_ne, n71, n71.symm, n72, n72.symm, k1, k2, r5, r2, r3, r12, r13, r14, valA, idV]
          refine hy7.app (zs := [valA (idV s.roles[i].role)]) (by rw [uValue]; decide) (by simp only [go_sem, ne_eq, not_false_eq_true]) (fun k hk => (Rd.sl (fun z hz => by rw [List.mem_singleton.1 hz]; rfl) .full : Rd _ 3 _ _).src uValue hk) (by rw [uValue]; exact sized_map (f := valA) (fun _ => rfl) _) (by rw [uValue]; exact sized_map (f := valA) (fun _ => rfl) [idV s.roles[i].role]) (by simp only [go_sem, List.length_map, List.length_cons, List.length_nil]; omega) fun y' H' hy' kp => ?_
          simp -implicitDefEqProofs only [go_sem, upd_ne, n71, n71.symm, n72, n72.symm, k1, k2, r5, r2, r3, r12, r13, r14, w1]
          refine ⟨_, ?_, i + 1, y', by rw [rolesOf_yes hlt p1 p2, List.map_append]; exact hy', by omega, rfl, ?_, ?_, ?_, ?_, ?_, ?_⟩
          · omega
          all_goals simp -implicitDefEqProofs only [go_sem, r5, r2, r3, r12, r13, r14, w1]
    · have hge : i = s.roles.length := by have := of_decide_eq_false e; omega
      subst hge
      rw [List.take_length] at hy
      simp -implicitDefEqProofs only [go_sem, r5, r2, r3, r12, r13, r14]
      obtain ⟨q5, rfl⟩ := hy.row
      refine .quiet (by kernel_rfl) ?_
      simp -implicitDefEqProofs only [go_sem, k1, k2, r2, r3, r5]
      refine ⟨_, id_ok _ _, ?_⟩
      simp -implicitDefEqProofs only [go_sem, k1, k2, r2, r3, r5, valA, idV]
      refine ⟨_, given_ok _ _ _ _ _, ?_⟩
      simp -implicitDefEqProofs only [go_sem, k1, k2, r2, r3, r5, valA, idV]
      refine ⟨_, given_ok _ _ _ _ _, ?_⟩
      simp -implicitDefEqProofs only [go_sem, k1, k2, r2, r3, r5, valA, idV]
      refine ⟨_, action_ok _ hk _, ?_⟩
      simp -implicitDefEqProofs only [go_sem, k1, k2, r2, r3, r5, valA, idV]
      refine ⟨_, id_ok _ _, ?_⟩
      simp -implicitDefEqProofs only [go_sem, k1, k2, r2, r3, r5, valA, idV]
      refine ⟨_, given_ok _ _ _ _ _, ?_⟩
      simp -implicitDefEqProofs only [go_sem, k1, k2, r2, r3, r5, valA, idV]
      have hak := fun (G : Heap) => askCase_ok (h := G) (caseD s.cases o.case) o.subj (few_case hf o.case).1 (few_case hf o.case).2
      simp only [caseA, caseC, fieldsA, logA] at hak
      have hakl := askCase_len (caseD s.cases o.case) o.subj
      have hakf := (few_case hf o.case).2
      have hr0 : GRow [.agg [.v (.int .i64 1), .s [105, 100], .sl [.agg [.v (.int .i64 5), .v (.int .i64 0), .s o.subj]] .full], .agg [.v (.int .i64 1), .s [114, 111, 108, 101], .sl ((rolesOf s.roles o.subj).map valA) q5], .agg [.v (.int .i64 2), .s [110, 97, 109, 101], .sl [.agg [.v (.int .i64 5), .v (.int .i64 0), .s (actionD o.kind)]] .full]] (askHead s o) := (GRow.one ⟨1, idT, [idV o.subj]⟩ .full).app ((GRow.one ⟨1, [114, 111, 108, 101], rolesOf s.roles o.subj⟩ q5).app (GRow.one ⟨2, [110, 97, 109, 101], [idV (actionD o.kind)]⟩ .full))
      by_cases pf : o.field = []
      · have df : (o.field == ([] : Txt)) = true := by simp [pf]
        simp -implicitDefEqProofs only [go_sem, k1, k2, r2, r3, df]
        by_cases pt : o.to = []
        · have dt : (o.to == ([] : Txt)) = true := by simp [pt]
          simp -implicitDefEqProofs only [go_sem, k1, k2, r2, r3, dt]
          refine (given_ok _ _ _ _ _).pthen ?_
          simp -implicitDefEqProofs only [go_sem, k1, k2, r2, r3, valA, idV]
          refine .accs hy.1 fun y1 G1 hy1 kp1 => ?_
          have k1_1 := kp1 _ _ _ k1
          have k2_1 := kp1 _ _ _ k2
          have hr1 := hr0.app (GRow.one (⟨4, [110, 111, 119], [⟨4, s.tick, []⟩]⟩ : GivD) .full)
          simp -implicitDefEqProofs only [go_sem, k1_1, k2_1, r2, r3]
          refine (hca _ (hH.trans hy1.1)).pthen ?_
          simp -implicitDefEqProofs only [go_sem, k1_1, k2_1, r2, r3, caseA, caseC, fieldsA, logA]
          intro i20 h20
          have n21 : i1 ≠ i20 := fun e => by rw [← e, k1_1] at h20; cases h20
          have n22 : i2 ≠ i20 := fun e => by rw [← e, k2_1] at h20; cases h20
          simp -implicitDefEqProofs only [go_sem, upd_ne, n21, n21.symm, n22, n22.symm, k1_1, k2_1, r2, r3]
          obtain ⟨q2, eq2⟩ := hy1.row
          cases dth : thereD s.cases o.case
          · simp -implicitDefEqProofs only [go_sem, upd_ne, n21, n21.symm, n22, n22.symm, k1_1, k2_1, r2, r3, dth]
            exact .mk (givsA (askD s o)) (show Weak y1 _ by rw [eq2, show askD s o = (askHead s o ++ [(⟨4, [110, 111, 119], [⟨4, s.tick, []⟩]⟩ : GivD)]) by simp [askD, askHead, dth, pf, pt]]; exact hr1.weak q2) ((hH.trans hy1.1).put (hsub_none (hH.trans hy1.1) h20) _) ⟨rfl, rfl⟩
          · simp -implicitDefEqProofs only [go_sem, upd_ne, n21, n21.symm, n22, n22.symm, k1_1, k2_1, r2, r3, dth]
            by_cases p6 : o.kind = 6
            · have d6 : (o.kind != 6) = false := by simp [p6]
              simp -implicitDefEqProofs only [go_sem, upd_ne, n21, n21.symm, n22, n22.symm, k1_1, k2_1, r2, r3, dth, d6]
              exact .mk (givsA (askD s o)) (show Weak y1 _ by rw [eq2, show askD s o = (askHead s o ++ [(⟨4, [110, 111, 119], [⟨4, s.tick, []⟩]⟩ : GivD)]) by simp [askD, askHead, dth, p6, pf, pt]]; exact hr1.weak q2) ((hH.trans hy1.1).put (hsub_none (hH.trans hy1.1) h20) _) ⟨rfl, rfl⟩
            · have d6 : (o.kind != 6) = true := by simp [p6]
              simp -implicitDefEqProofs only [go_sem, upd_ne, n21, n21.symm, n22, n22.symm, k1_1, k2_1, r2, r3, dth, d6]
              refine (hak _).pthen ?_
              simp -implicitDefEqProofs only [go_sem, upd_ne, n21, n21.symm, n22, n22.symm, k1_1, k2_1, r2, r3, dth, d6, givsA]
              refine (hy1.sub (.upd_new h20)).app (zs := (askCaseD (caseD s.cases o.case) o.subj).map givA) (by rw [uGiven]; decide) (by simp only [go_sem, ne_eq, not_false_eq_true]) (fun k hk => (rd_map givA 3 (fun _ => rfl) _ _).src uGiven hk) (by rw [uGiven]; exact hr1.sized) (by rw [uGiven]; exact sized_map (f := givA) (fun _ => rfl) _) (by simp only [go_sem, hr1.1, List.length_append, List.length_map, askHead, List.length_cons, List.length_nil] <;> omega) fun yz Gz hyz kpz => ?_
              simp -implicitDefEqProofs only [go_sem, upd_ne, n21, n21.symm, n22, n22.symm, k1_1, k2_1, r2, r3, dth, d6]
              obtain ⟨qz, eqz⟩ := hyz.row
              exact .mk (givsA (askD s o)) (show Weak yz _ by rw [eqz, show askD s o = (askHead s o ++ [(⟨4, [110, 111, 119], [⟨4, s.tick, []⟩]⟩ : GivD)]) ++ askCaseD (caseD s.cases o.case) o.subj by simp [askD, askHead, dth, p6, pf, pt]]; exact (hr1.app (GRow.givs _)).weak qz) (hH.trans hyz.1) ⟨rfl, rfl⟩
        · have dt : (o.to == ([] : Txt)) = false := by simp [pt]
          simp -implicitDefEqProofs only [go_sem, k1, k2, r2, r3, dt]
          refine (id_ok _ _).pthen ?_
          simp -implicitDefEqProofs only [go_sem, k1, k2, r2, r3, valA, idV]
          refine (given_ok _ _ _ _ _).pthen ?_
          simp -implicitDefEqProofs only [go_sem, k1, k2, r2, r3, valA, idV]
          refine .accs hy.1 fun y3 G3 hy3 kp3 => ?_
          have k1_3 := kp3 _ _ _ k1
          have k2_3 := kp3 _ _ _ k2
          have hr3 := hr0.app (GRow.one (⟨2, [116, 111], [idV o.to]⟩ : GivD) .full)
          simp -implicitDefEqProofs only [go_sem, k1_3, k2_3, r2, r3]
          refine (given_ok _ _ _ _ _).pthen ?_
          simp -implicitDefEqProofs only [go_sem, k1_3, k2_3, r2, r3, valA, idV]
          refine hy3.app (zs := [givQ (⟨4, [110, 111, 119], [⟨4, s.tick, []⟩]⟩) .full]) (by rw [uGiven]; decide) (by simp only [go_sem, ne_eq, not_false_eq_true]) (fun k hk => (Rd.sl (sized_one _ _) .full : Rd _ 3 _ _).src uGiven hk) (by rw [uGiven]; exact hr3.sized) (by rw [uGiven]; exact sized_one _ _) (by simp only [go_sem, hr3.1, List.length_append, askHead, List.length_cons, List.length_nil] <;> omega) fun y4 G4 hy4 kp4 => ?_
          have k1_4 := kp4 _ _ _ k1_3
          have k2_4 := kp4 _ _ _ k2_3
          have hr4 := hr3.app (GRow.one (⟨4, [110, 111, 119], [⟨4, s.tick, []⟩]⟩ : GivD) .full)
          simp -implicitDefEqProofs only [go_sem, k1_4, k2_4, r2, r3]
          refine (hca _ (hH.trans hy4.1)).pthen ?_
          simp -implicitDefEqProofs only [go_sem, k1_4, k2_4, r2, r3, caseA, caseC, fieldsA, logA]
          intro i50 h50
          have n51 : i1 ≠ i50 := fun e => by rw [← e, k1_4] at h50; cases h50
          have n52 : i2 ≠ i50 := fun e => by rw [← e, k2_4] at h50; cases h50
          simp -implicitDefEqProofs only [go_sem, upd_ne, n51, n51.symm, n52, n52.symm, k1_4, k2_4, r2, r3]
          obtain ⟨q5, eq5⟩ := hy4.row
          cases dth : thereD s.cases o.case
          · simp -implicitDefEqProofs only [go_sem, upd_ne, n51, n51.symm, n52, n52.symm, k1_4, k2_4, r2, r3, dth]
            exact .mk (givsA (askD s o)) (show Weak y4 _ by rw [eq5, show askD s o = ((askHead s o ++ [(⟨2, [116, 111], [idV o.to]⟩ : GivD)]) ++ [(⟨4, [110, 111, 119], [⟨4, s.tick, []⟩]⟩ : GivD)]) by simp [askD, askHead, dth, pf, pt]]; exact hr4.weak q5) ((hH.trans hy4.1).put (hsub_none (hH.trans hy4.1) h50) _) ⟨rfl, rfl⟩
          · simp -implicitDefEqProofs only [go_sem, upd_ne, n51, n51.symm, n52, n52.symm, k1_4, k2_4, r2, r3, dth]
            by_cases p6 : o.kind = 6
            · have d6 : (o.kind != 6) = false := by simp [p6]
              simp -implicitDefEqProofs only [go_sem, upd_ne, n51, n51.symm, n52, n52.symm, k1_4, k2_4, r2, r3, dth, d6]
              exact .mk (givsA (askD s o)) (show Weak y4 _ by rw [eq5, show askD s o = ((askHead s o ++ [(⟨2, [116, 111], [idV o.to]⟩ : GivD)]) ++ [(⟨4, [110, 111, 119], [⟨4, s.tick, []⟩]⟩ : GivD)]) by simp [askD, askHead, dth, p6, pf, pt]]; exact hr4.weak q5) ((hH.trans hy4.1).put (hsub_none (hH.trans hy4.1) h50) _) ⟨rfl, rfl⟩
            · have d6 : (o.kind != 6) = true := by simp [p6]
              simp -implicitDefEqProofs only [go_sem, upd_ne, n51, n51.symm, n52, n52.symm, k1_4, k2_4, r2, r3, dth, d6]
              refine (hak _).pthen ?_
              simp -implicitDefEqProofs only [go_sem, upd_ne, n51, n51.symm, n52, n52.symm, k1_4, k2_4, r2, r3, dth, d6, givsA]
              refine (hy4.sub (.upd_new h50)).app (zs := (askCaseD (caseD s.cases o.case) o.subj).map givA) (by rw [uGiven]; decide) (by simp only [go_sem, ne_eq, not_false_eq_true]) (fun k hk => (rd_map givA 3 (fun _ => rfl) _ _).src uGiven hk) (by rw [uGiven]; exact hr4.sized) (by rw [uGiven]; exact sized_map (f := givA) (fun _ => rfl) _) (by simp only [go_sem, hr4.1, List.length_append, List.length_map, askHead, List.length_cons, List.length_nil] <;> omega) fun yz Gz hyz kpz => ?_
              simp -implicitDefEqProofs only [go_sem, upd_ne, n51, n51.symm, n52, n52.symm, k1_4, k2_4, r2, r3, dth, d6]
              obtain ⟨qz, eqz⟩ := hyz.row
              exact .mk (givsA (askD s o)) (show Weak yz _ by rw [eqz, show askD s o = ((askHead s o ++ [(⟨2, [116, 111], [idV o.to]⟩ : GivD)]) ++ [(⟨4, [110, 111, 119], [⟨4, s.tick, []⟩]⟩ : GivD)]) ++ askCaseD (caseD s.cases o.case) o.subj by simp [askD, askHead, dth, p6, pf, pt]]; exact (hr4.app (GRow.givs _)).weak qz) (hH.trans hyz.1) ⟨rfl, rfl⟩
      · have df : (o.field == ([] : Txt)) = false := by simp [pf]
        simp -implicitDefEqProofs only [go_sem, k1, k2, r2, r3, df]
        refine (id_ok _ _).pthen ?_
        simp -implicitDefEqProofs only [go_sem, k1, k2, r2, r3, valA, idV]
        refine (given_ok _ _ _ _ _).pthen ?_
        simp -implicitDefEqProofs only [go_sem, k1, k2, r2, r3, valA, idV]
        refine .accs hy.1 fun y6 G6 hy6 kp6 => ?_
        have k1_6 := kp6 _ _ _ k1
        have k2_6 := kp6 _ _ _ k2
        have hr6 := hr0.app (GRow.one (⟨2, [102, 105, 101, 108, 100], [idV o.field]⟩ : GivD) .full)
        simp -implicitDefEqProofs only [go_sem, k1_6, k2_6, r2, r3]
        by_cases pt : o.to = []
        · have dt : (o.to == ([] : Txt)) = true := by simp [pt]
          simp -implicitDefEqProofs only [go_sem, k1_6, k2_6, r2, r3, dt]
          refine (given_ok _ _ _ _ _).pthen ?_
          simp -implicitDefEqProofs only [go_sem, k1_6, k2_6, r2, r3, valA, idV]
          refine hy6.app (zs := [givQ (⟨4, [110, 111, 119], [⟨4, s.tick, []⟩]⟩) .full]) (by rw [uGiven]; decide) (by simp only [go_sem, ne_eq, not_false_eq_true]) (fun k hk => (Rd.sl (sized_one _ _) .full : Rd _ 3 _ _).src uGiven hk) (by rw [uGiven]; exact hr6.sized) (by rw [uGiven]; exact sized_one _ _) (by simp only [go_sem, hr6.1, List.length_append, askHead, List.length_cons, List.length_nil] <;> omega) fun y7 G7 hy7 kp7 => ?_
          have k1_7 := kp7 _ _ _ k1_6
          have k2_7 := kp7 _ _ _ k2_6
          have hr7 := hr6.app (GRow.one (⟨4, [110, 111, 119], [⟨4, s.tick, []⟩]⟩ : GivD) .full)
          simp -implicitDefEqProofs only [go_sem, k1_7, k2_7, r2, r3]
          refine (hca _ (hH.trans hy7.1)).pthen ?_
          simp -implicitDefEqProofs only [go_sem, k1_7, k2_7, r2, r3, caseA, caseC, fieldsA, logA]
          intro i80 h80
          have n81 : i1 ≠ i80 := fun e => by rw [← e, k1_7] at h80; cases h80
          have n82 : i2 ≠ i80 := fun e => by rw [← e, k2_7] at h80; cases h80
          simp -implicitDefEqProofs only [go_sem, upd_ne, n81, n81.symm, n82, n82.symm, k1_7, k2_7, r2, r3]
          obtain ⟨q8, eq8⟩ := hy7.row
          cases dth : thereD s.cases o.case
          · simp -implicitDefEqProofs only [go_sem, upd_ne, n81, n81.symm, n82, n82.symm, k1_7, k2_7, r2, r3, dth]
            exact .mk (givsA (askD s o)) (show Weak y7 _ by rw [eq8, show askD s o = ((askHead s o ++ [(⟨2, [102, 105, 101, 108, 100], [idV o.field]⟩ : GivD)]) ++ [(⟨4, [110, 111, 119], [⟨4, s.tick, []⟩]⟩ : GivD)]) by simp [askD, askHead, dth, pf, pt]]; exact hr7.weak q8) ((hH.trans hy7.1).put (hsub_none (hH.trans hy7.1) h80) _) ⟨rfl, rfl⟩
          · simp -implicitDefEqProofs only [go_sem, upd_ne, n81, n81.symm, n82, n82.symm, k1_7, k2_7, r2, r3, dth]
            by_cases p6 : o.kind = 6
            · have d6 : (o.kind != 6) = false := by simp [p6]
              simp -implicitDefEqProofs only [go_sem, upd_ne, n81, n81.symm, n82, n82.symm, k1_7, k2_7, r2, r3, dth, d6]
              exact .mk (givsA (askD s o)) (show Weak y7 _ by rw [eq8, show askD s o = ((askHead s o ++ [(⟨2, [102, 105, 101, 108, 100], [idV o.field]⟩ : GivD)]) ++ [(⟨4, [110, 111, 119], [⟨4, s.tick, []⟩]⟩ : GivD)]) by simp [askD, askHead, dth, p6, pf, pt]]; exact hr7.weak q8) ((hH.trans hy7.1).put (hsub_none (hH.trans hy7.1) h80) _) ⟨rfl, rfl⟩
            · have d6 : (o.kind != 6) = true := by simp [p6]
              simp -implicitDefEqProofs only [go_sem, upd_ne, n81, n81.symm, n82, n82.symm, k1_7, k2_7, r2, r3, dth, d6]
              refine (hak _).pthen ?_
              simp -implicitDefEqProofs only [go_sem, upd_ne, n81, n81.symm, n82, n82.symm, k1_7, k2_7, r2, r3, dth, d6, givsA]
              refine (hy7.sub (.upd_new h80)).app (zs := (askCaseD (caseD s.cases o.case) o.subj).map givA) (by rw [uGiven]; decide) (by simp only [go_sem, ne_eq, not_false_eq_true]) (fun k hk => (rd_map givA 3 (fun _ => rfl) _ _).src uGiven hk) (by rw [uGiven]; exact hr7.sized) (by rw [uGiven]; exact sized_map (f := givA) (fun _ => rfl) _) (by simp only [go_sem, hr7.1, List.length_append, List.length_map, askHead, List.length_cons, List.length_nil] <;> omega) fun yz Gz hyz kpz => ?_
              simp -implicitDefEqProofs only [go_sem, upd_ne, n81, n81.symm, n82, n82.symm, k1_7, k2_7, r2, r3, dth, d6]
              obtain ⟨qz, eqz⟩ := hyz.row
              exact .mk (givsA (askD s o)) (show Weak yz _ by rw [eqz, show askD s o = ((askHead s o ++ [(⟨2, [102, 105, 101, 108, 100], [idV o.field]⟩ : GivD)]) ++ [(⟨4, [110, 111, 119], [⟨4, s.tick, []⟩]⟩ : GivD)]) ++ askCaseD (caseD s.cases o.case) o.subj by simp [askD, askHead, dth, p6, pf, pt]]; exact (hr7.app (GRow.givs _)).weak qz) (hH.trans hyz.1) ⟨rfl, rfl⟩
        · have dt : (o.to == ([] : Txt)) = false := by simp [pt]
          simp -implicitDefEqProofs only [go_sem, k1_6, k2_6, r2, r3, dt]
          refine (id_ok _ _).pthen ?_
          simp -implicitDefEqProofs only [go_sem, k1_6, k2_6, r2, r3, valA, idV]
          refine (given_ok _ _ _ _ _).pthen ?_
          simp -implicitDefEqProofs only [go_sem, k1_6, k2_6, r2, r3, valA, idV]
          refine hy6.app (zs := [givQ (⟨2, [116, 111], [idV o.to]⟩) .full]) (by rw [uGiven]; decide) (by simp only [go_sem, ne_eq, not_false_eq_true]) (fun k hk => (Rd.sl (sized_one _ _) .full : Rd _ 3 _ _).src uGiven hk) (by rw [uGiven]; exact hr6.sized) (by rw [uGiven]; exact sized_one _ _) (by simp only [go_sem, hr6.1, List.length_append, askHead, List.length_cons, List.length_nil] <;> omega) fun y9 G9 hy9 kp9 => ?_
          have k1_9 := kp9 _ _ _ k1_6
          have k2_9 := kp9 _ _ _ k2_6
          have hr9 := hr6.app (GRow.one (⟨2, [116, 111], [idV o.to]⟩ : GivD) .full)
          simp -implicitDefEqProofs only [go_sem, k1_9, k2_9, r2, r3]
          refine (given_ok _ _ _ _ _).pthen ?_
          simp -implicitDefEqProofs only [go_sem, k1_9, k2_9, r2, r3, valA, idV]
          refine hy9.app (zs := [givQ (⟨4, [110, 111, 119], [⟨4, s.tick, []⟩]⟩) .full]) (by rw [uGiven]; decide) (by simp only [go_sem, ne_eq, not_false_eq_true]) (fun k hk => (Rd.sl (sized_one _ _) .full : Rd _ 3 _ _).src uGiven hk) (by rw [uGiven]; exact hr9.sized) (by rw [uGiven]; exact sized_one _ _) (by simp only [go_sem, hr9.1, List.length_append, askHead, List.length_cons, List.length_nil] <;> omega) fun y10 G10 hy10 kp10 => ?_
          have k1_10 := kp10 _ _ _ k1_9
          have k2_10 := kp10 _ _ _ k2_9
          have hr10 := hr9.app (GRow.one (⟨4, [110, 111, 119], [⟨4, s.tick, []⟩]⟩ : GivD) .full)
          simp -implicitDefEqProofs only [go_sem, k1_10, k2_10, r2, r3]
          refine (hca _ (hH.trans hy10.1)).pthen ?_
          simp -implicitDefEqProofs only [go_sem, k1_10, k2_10, r2, r3, caseA, caseC, fieldsA, logA]
          intro i110 h110
          have n111 : i1 ≠ i110 := fun e => by rw [← e, k1_10] at h110; cases h110
          have n112 : i2 ≠ i110 := fun e => by rw [← e, k2_10] at h110; cases h110
          simp -implicitDefEqProofs only [go_sem, upd_ne, n111, n111.symm, n112, n112.symm, k1_10, k2_10, r2, r3]
          obtain ⟨q11, eq11⟩ := hy10.row
          cases dth : thereD s.cases o.case
          · simp -implicitDefEqProofs only [go_sem, upd_ne, n111, n111.symm, n112, n112.symm, k1_10, k2_10, r2, r3, dth]
            exact .mk (givsA (askD s o)) (show Weak y10 _ by rw [eq11, show askD s o = (((askHead s o ++ [(⟨2, [102, 105, 101, 108, 100], [idV o.field]⟩ : GivD)]) ++ [(⟨2, [116, 111], [idV o.to]⟩ : GivD)]) ++ [(⟨4, [110, 111, 119], [⟨4, s.tick, []⟩]⟩ : GivD)]) by simp [askD, askHead, dth, pf, pt]]; exact hr10.weak q11) ((hH.trans hy10.1).put (hsub_none (hH.trans hy10.1) h110) _) ⟨rfl, rfl⟩
          · simp -implicitDefEqProofs only [go_sem, upd_ne, n111, n111.symm, n112, n112.symm, k1_10, k2_10, r2, r3, dth]
            by_cases p6 : o.kind = 6
            · have d6 : (o.kind != 6) = false := by simp [p6]
              simp -implicitDefEqProofs only [go_sem, upd_ne, n111, n111.symm, n112, n112.symm, k1_10, k2_10, r2, r3, dth, d6]
              exact .mk (givsA (askD s o)) (show Weak y10 _ by rw [eq11, show askD s o = (((askHead s o ++ [(⟨2, [102, 105, 101, 108, 100], [idV o.field]⟩ : GivD)]) ++ [(⟨2, [116, 111], [idV o.to]⟩ : GivD)]) ++ [(⟨4, [110, 111, 119], [⟨4, s.tick, []⟩]⟩ : GivD)]) by simp [askD, askHead, dth, p6, pf, pt]]; exact hr10.weak q11) ((hH.trans hy10.1).put (hsub_none (hH.trans hy10.1) h110) _) ⟨rfl, rfl⟩
            · have d6 : (o.kind != 6) = true := by simp [p6]
              simp -implicitDefEqProofs only [go_sem, upd_ne, n111, n111.symm, n112, n112.symm, k1_10, k2_10, r2, r3, dth, d6]
              refine (hak _).pthen ?_
              simp -implicitDefEqProofs only [go_sem, upd_ne, n111, n111.symm, n112, n112.symm, k1_10, k2_10, r2, r3, dth, d6, givsA]
              refine (hy10.sub (.upd_new h110)).app (zs := (askCaseD (caseD s.cases o.case) o.subj).map givA) (by rw [uGiven]; decide) (by simp only [go_sem, ne_eq, not_false_eq_true]) (fun k hk => (rd_map givA 3 (fun _ => rfl) _ _).src uGiven hk) (by rw [uGiven]; exact hr10.sized) (by rw [uGiven]; exact sized_map (f := givA) (fun _ => rfl) _) (by simp only [go_sem, hr10.1, List.length_append, List.length_map, askHead, List.length_cons, List.length_nil] <;> omega) fun yz Gz hyz kpz => ?_
              simp -implicitDefEqProofs only [go_sem, upd_ne, n111, n111.symm, n112, n112.symm, k1_10, k2_10, r2, r3, dth, d6]
              obtain ⟨qz, eqz⟩ := hyz.row
              exact .mk (givsA (askD s o)) (show Weak yz _ by rw [eqz, show askD s o = (((askHead s o ++ [(⟨2, [102, 105, 101, 108, 100], [idV o.field]⟩ : GivD)]) ++ [(⟨2, [116, 111], [idV o.to]⟩ : GivD)]) ++ [(⟨4, [110, 111, 119], [⟨4, s.tick, []⟩]⟩ : GivD)]) ++ askCaseD (caseD s.cases o.case) o.subj by simp [askD, askHead, dth, p6, pf, pt]]; exact (hr10.app (GRow.givs _)).weak qz) (hH.trans hyz.1) ⟨rfl, rfl⟩
end Go.Proofs.YtnhelgnmadbpgaaGreatDoor

set_option linter.unusedSimpArgs false
set_option linter.unusedVariables false
namespace Go.Bf
open Go Go.Ab
def eqVal (a b : ValD) : Bool := a.kind == b.kind && (a.n == b.n && a.s == b.s)
def eqL {α : Type} (f : α → α → Bool) : List α → List α → Bool
  | [], [] => true
  | x :: a, y :: b => f x y && eqL f a b
  | _, _ => false
theorem eqL_true {α : Type} {f : α → α → Bool} : ∀ {a b : List α}, a.length = b.length → (∀ j (h1 : j < a.length) (h2 : j < b.length), f a[j] b[j] = true) → eqL f a b = true
  | [], [], _, _ => rfl
  | x :: a, y :: b, hl, h => by
    simp only [eqL, Bool.and_eq_true]
    exact ⟨h 0 (by simp) (by simp), eqL_true (by simpa using hl) fun j h1 h2 => h (j + 1) (by simpa using h1) (by simpa using h2)⟩
theorem eqL_len {α : Type} {f : α → α → Bool} : ∀ {a b : List α}, a.length ≠ b.length → eqL f a b = false
  | [], [], h => (h rfl).elim
  | [], _ :: _, _ => rfl
  | _ :: _, [], _ => rfl
  | x :: a, y :: b, h => by
    simp only [eqL]
    rw [eqL_len (fun e => h (by simp [e])), Bool.and_false]
theorem eqL_at {α : Type} {f : α → α → Bool} : ∀ {a b : List α} (j : Nat) (h1 : j < a.length) (h2 : j < b.length), f a[j] b[j] = false → eqL f a b = false
  | x :: a, y :: b, 0, _, _, h => by simp only [List.getElem_cons_zero] at h; simp [eqL, h]
  | x :: a, y :: b, j + 1, h1, h2, h => by
    simp only [eqL]
    rw [eqL_at j (by simpa using h1) (by simpa using h2) (by simpa using h), Bool.and_false]
end Go.Bf
namespace Go.Proofs.YtnhelgnmadbpgaaGreatDoor
open Go Go.Ab Go.Bf
end Go.Proofs.YtnhelgnmadbpgaaGreatDoor

set_option linter.unusedSimpArgs false
set_option linter.unusedVariables false
namespace Go.Bf
open Go Go.Ab
def eqFieldD (a b : FieldD) : Bool := a.name == b.name && (a.val.kind == b.val.kind && (a.val.n == b.val.n && a.val.s == b.val.s))
def eqHapD (a b : HapD) : Bool := a.tick == b.tick && (a.actor == b.actor && a.what == b.what)
end Go.Bf
namespace Go.Proofs.YtnhelgnmadbpgaaGreatDoor
open Go Go.Ab Go.Bf
theorem sameValue_ok (a b : List ValD) (q1 q2 : Perm) (h : Heap) : FnOK Tryz.prog 40 [.sl (a.map valA) q1, .sl (b.map valA) q2] h fun r h' => r = .v (.bool (eqL eqVal a b)) ∧ h' = h := by
  refine FnOK.body hU hm Tryz.func40 rfl (by kernel_rfl) 26 rfl [.tmp 4] rfl (Nat.le_of_ble_eq_true rfl) (fun hwf => ?_)
  cases d1 : ((a.length : Int) != (b.length : Int))
  case true =>
    have e1 : a.length ≠ b.length := by
      intro e; rw [e] at d1; simp at d1
    simp -implicitDefEqProofs only [go_sem, List.length_map, d1]
    exact .same (.refl _) ⟨by rw [eqL_len e1]; rfl, rfl⟩
  have e1 : a.length = b.length := by have : (a.length : Int) = b.length := by simpa using d1
                                      omega
  simp -implicitDefEqProofs only [go_sem, List.length_map, d1]
  refine .intro (fun m ρ h' => Ab.Sub h h' ∧ ∃ i : Nat, i ≤ a.length ∧ m = a.length - i ∧ (∀ j (h1 : j < a.length) (h2 : j < b.length), j < i → eqVal a[j] b[j] = true) ∧ lk ρ 0 = some (.sl (a.map valA) q1) ∧ lk ρ 1 = some (.sl (b.map valA) q2) ∧ lk ρ 5 = some (.v (.int .i64 i))) a.length ?_ ?_
  · refine ⟨.refl _, 0, by omega, rfl, fun j _ _ hj => (by omega), ?_, ?_, ?_⟩ <;> simp -implicitDefEqProofs only [go_sem]
  · rintro m ρ h' ⟨hs, i, hi, rfl, hc, r0, r1, r5⟩
    simp -implicitDefEqProofs only [go_sem, r0, r1, r5, List.length_map]
    refine .intro (fun e => ?_) (fun e => ?_)
    · have hlt : i < a.length := Int.ofNat_lt.1 (of_decide_eq_true e)
      have hlt2 : i < b.length := by omega
      have w1 : IntKind.i64.wrap ((i : Int) + 1) = ((i + 1 : Nat) : Int) := by
        have := hwf (.sl (a.map valA) q1) (by simp)
        simp only [wfA, wf1, lim, List.length_map] at this
        rw [wr64 _ (by omega)]; omega
      simp -implicitDefEqProofs only [go_sem, r0, r1, r5, List.length_map]
      refine ⟨.of (by kernel_rfl), ?_⟩
      refine .at i (by simpa using hlt) (by rw [List.getElem_map]; rfl) ?_
      simp -implicitDefEqProofs only [go_sem, r0, r1, r5, List.getElem_map, valA]
      refine .at i (by simpa using hlt2) (by rw [List.getElem_map]; rfl) ?_
      simp -implicitDefEqProofs only [go_sem, r0, r1, r5, List.getElem_map, valA]
      cases d3 : eqVal a[i] b[i]
      · have d4 := d3
        simp only [eqVal] at d4
        simp -implicitDefEqProofs only [go_sem, r0, r1, r5, d4]
        exact .mk _ (.refl _) hs ⟨by rw [eqL_at i hlt hlt2 d3]; rfl, rfl⟩
      · have d4 := d3
        simp only [eqVal] at d4
        simp -implicitDefEqProofs only [go_sem, r0, r1, r5, d4, w1]
        refine ⟨_, ?_, hs, i + 1, by omega, rfl, fun j h1 h2 hj => ?_, ?_, ?_, ?_⟩
        · omega
        · by_cases hji : j = i
          · subst hji; exact d3
          · exact hc j h1 h2 (by omega)
        all_goals simp -implicitDefEqProofs only [go_sem, r0, r1, r5, w1]
    · have hge : i = a.length := by have := of_decide_eq_false e; omega
      subst hge
      simp -implicitDefEqProofs only [go_sem, r0, r1, r5]
      exact .mk _ (.refl _) hs ⟨by rw [eqL_true e1 fun j h1 h2 => hc j h1 h2 h1]; rfl, rfl⟩
theorem sameField_ok (a b : List FieldD) (q1 q2 : Perm) (h : Heap) : FnOK Tryz.prog 69 [.sl (a.map fieldA) q1, .sl (b.map fieldA) q2] h fun r h' => r = .v (.bool (eqL eqFieldD a b)) ∧ h' = h := by
  refine FnOK.body hU hm Tryz.func69 rfl (by kernel_rfl) 26 rfl [.tmp 4] rfl (Nat.le_of_ble_eq_true rfl) (fun hwf => ?_)
  cases d1 : ((a.length : Int) != (b.length : Int))
  case true =>
    have e1 : a.length ≠ b.length := by
      intro e; rw [e] at d1; simp at d1
    simp -implicitDefEqProofs only [go_sem, List.length_map, d1]
    exact .same (.refl _) ⟨by rw [eqL_len e1]; rfl, rfl⟩
  have e1 : a.length = b.length := by have : (a.length : Int) = b.length := by simpa using d1
                                      omega
  simp -implicitDefEqProofs only [go_sem, List.length_map, d1]
  refine .intro (fun m ρ h' => Ab.Sub h h' ∧ ∃ i : Nat, i ≤ a.length ∧ m = a.length - i ∧ (∀ j (h1 : j < a.length) (h2 : j < b.length), j < i → eqFieldD a[j] b[j] = true) ∧ lk ρ 0 = some (.sl (a.map fieldA) q1) ∧ lk ρ 1 = some (.sl (b.map fieldA) q2) ∧ lk ρ 5 = some (.v (.int .i64 i))) a.length ?_ ?_
  · refine ⟨.refl _, 0, by omega, rfl, fun j _ _ hj => (by omega), ?_, ?_, ?_⟩ <;> simp -implicitDefEqProofs only [go_sem]
  · rintro m ρ h' ⟨hs, i, hi, rfl, hc, r0, r1, r5⟩
    simp -implicitDefEqProofs only [go_sem, r0, r1, r5, List.length_map]
    refine .intro (fun e => ?_) (fun e => ?_)
    · have hlt : i < a.length := Int.ofNat_lt.1 (of_decide_eq_true e)
      have hlt2 : i < b.length := by omega
      have w1 : IntKind.i64.wrap ((i : Int) + 1) = ((i + 1 : Nat) : Int) := by
        have := hwf (.sl (a.map fieldA) q1) (by simp)
        simp only [wfA, wf1, lim, List.length_map] at this
        rw [wr64 _ (by omega)]; omega
      simp -implicitDefEqProofs only [go_sem, r0, r1, r5, List.length_map]
      refine ⟨.of (by kernel_rfl), ?_⟩
      refine .at i (by simpa using hlt) (by rw [List.getElem_map]; rfl) ?_
      simp -implicitDefEqProofs only [go_sem, r0, r1, r5, List.getElem_map, fieldA]
      refine .at i (by simpa using hlt2) (by rw [List.getElem_map]; rfl) ?_
      simp -implicitDefEqProofs only [go_sem, r0, r1, r5, List.getElem_map, fieldA]
      cases d3 : eqFieldD a[i] b[i]
      · have d4 := d3
        simp only [eqFieldD] at d4
        simp -implicitDefEqProofs only [go_sem, r0, r1, r5, d4]
        exact .mk _ (.refl _) hs ⟨by rw [eqL_at i hlt hlt2 d3]; rfl, rfl⟩
      · have d4 := d3
        simp only [eqFieldD] at d4
        simp -implicitDefEqProofs only [go_sem, r0, r1, r5, d4, w1]
        refine ⟨_, ?_, hs, i + 1, by omega, rfl, fun j h1 h2 hj => ?_, ?_, ?_, ?_⟩
        · omega
        · by_cases hji : j = i
          · subst hji; exact d3
          · exact hc j h1 h2 (by omega)
        all_goals simp -implicitDefEqProofs only [go_sem, r0, r1, r5, w1]
    · have hge : i = a.length := by have := of_decide_eq_false e; omega
      subst hge
      simp -implicitDefEqProofs only [go_sem, r0, r1, r5]
      exact .mk _ (.refl _) hs ⟨by rw [eqL_true e1 fun j h1 h2 => hc j h1 h2 h1]; rfl, rfl⟩
theorem sameHap_ok (a b : List HapD) (q1 q2 : Perm) (h : Heap) : FnOK Tryz.prog 70 [.sl (a.map hapA) q1, .sl (b.map hapA) q2] h fun r h' => r = .v (.bool (eqL eqHapD a b)) ∧ h' = h := by
  refine FnOK.body hU hm Tryz.func70 rfl (by kernel_rfl) 26 rfl [.tmp 4] rfl (Nat.le_of_ble_eq_true rfl) (fun hwf => ?_)
  cases d1 : ((a.length : Int) != (b.length : Int))
  case true =>
    have e1 : a.length ≠ b.length := by
      intro e; rw [e] at d1; simp at d1
    simp -implicitDefEqProofs only [go_sem, List.length_map, d1]
    exact .same (.refl _) ⟨by rw [eqL_len e1]; rfl, rfl⟩
  have e1 : a.length = b.length := by have : (a.length : Int) = b.length := by simpa using d1
                                      omega
  simp -implicitDefEqProofs only [go_sem, List.length_map, d1]
  refine .intro (fun m ρ h' => Ab.Sub h h' ∧ ∃ i : Nat, i ≤ a.length ∧ m = a.length - i ∧ (∀ j (h1 : j < a.length) (h2 : j < b.length), j < i → eqHapD a[j] b[j] = true) ∧ lk ρ 0 = some (.sl (a.map hapA) q1) ∧ lk ρ 1 = some (.sl (b.map hapA) q2) ∧ lk ρ 5 = some (.v (.int .i64 i))) a.length ?_ ?_
  · refine ⟨.refl _, 0, by omega, rfl, fun j _ _ hj => (by omega), ?_, ?_, ?_⟩ <;> simp -implicitDefEqProofs only [go_sem]
  · rintro m ρ h' ⟨hs, i, hi, rfl, hc, r0, r1, r5⟩
    simp -implicitDefEqProofs only [go_sem, r0, r1, r5, List.length_map]
    refine .intro (fun e => ?_) (fun e => ?_)
    · have hlt : i < a.length := Int.ofNat_lt.1 (of_decide_eq_true e)
      have hlt2 : i < b.length := by omega
      have w1 : IntKind.i64.wrap ((i : Int) + 1) = ((i + 1 : Nat) : Int) := by
        have := hwf (.sl (a.map hapA) q1) (by simp)
        simp only [wfA, wf1, lim, List.length_map] at this
        rw [wr64 _ (by omega)]; omega
      simp -implicitDefEqProofs only [go_sem, r0, r1, r5, List.length_map]
      refine ⟨.of (by kernel_rfl), ?_⟩
      refine .at i (by simpa using hlt) (by rw [List.getElem_map]; rfl) ?_
      simp -implicitDefEqProofs only [go_sem, r0, r1, r5, List.getElem_map, hapA]
      refine .at i (by simpa using hlt2) (by rw [List.getElem_map]; rfl) ?_
      simp -implicitDefEqProofs only [go_sem, r0, r1, r5, List.getElem_map, hapA]
      cases d3 : eqHapD a[i] b[i]
      · have d4 := d3
        simp only [eqHapD] at d4
        simp -implicitDefEqProofs only [go_sem, r0, r1, r5, d4]
        exact .mk _ (.refl _) hs ⟨by rw [eqL_at i hlt hlt2 d3]; rfl, rfl⟩
      · have d4 := d3
        simp only [eqHapD] at d4
        simp -implicitDefEqProofs only [go_sem, r0, r1, r5, d4, w1]
        refine ⟨_, ?_, hs, i + 1, by omega, rfl, fun j h1 h2 hj => ?_, ?_, ?_, ?_⟩
        · omega
        · by_cases hji : j = i
          · subst hji; exact d3
          · exact hc j h1 h2 (by omega)
        all_goals simp -implicitDefEqProofs only [go_sem, r0, r1, r5, w1]
    · have hge : i = a.length := by have := of_decide_eq_false e; omega
      subst hge
      simp -implicitDefEqProofs only [go_sem, r0, r1, r5]
      exact .mk _ (.refl _) hs ⟨by rw [eqL_true e1 fun j h1 h2 => hc j h1 h2 h1]; rfl, rfl⟩
end Go.Proofs.YtnhelgnmadbpgaaGreatDoor

set_option linter.unusedSimpArgs false
set_option linter.unusedVariables false
namespace Go.Bf
open Go Go.Ab
def eqGiv (g h : GivD) : Bool := g.cat == h.cat && (g.name == h.name && eqL eqVal g.bag h.bag)
def asksD (a b : List GivD) : Bool := decide (a.length = b.length) && a.all fun g => b.any (eqGiv g)
theorem any_succ {α : Type} {q : α → Bool} {l : List α} {i : Nat} (h : i < l.length) : (l.take (i + 1)).any q = ((l.take i).any q || q l[i]) := by
  rw [List.take_succ_eq_append_getElem h, List.any_append]; simp
theorem asksD_true {a b : List GivD} (h1 : a.length = b.length) (h2 : ∀ j (h : j < a.length), b.any (eqGiv a[j]) = true) : asksD a b = true := by
  simp only [asksD, Bool.and_eq_true, decide_eq_true_eq, List.all_eq_true]
  refine ⟨h1, fun g hg => ?_⟩
  obtain ⟨j, hj, rfl⟩ := List.mem_iff_getElem.1 hg
  exact h2 j hj
theorem asksD_len {a b : List GivD} (h1 : a.length ≠ b.length) : asksD a b = false := by simp [asksD, h1]
theorem asksD_at {a b : List GivD} (j : Nat) (h : j < a.length) (h2 : b.any (eqGiv a[j]) = false) : asksD a b = false := by
  simp only [asksD, Bool.and_eq_false_iff]
  exact .inr (List.all_eq_false.2 ⟨_, List.getElem_mem h, by rw [h2]; decide⟩)
end Go.Bf
namespace Go.Proofs.YtnhelgnmadbpgaaGreatDoor
open Go Go.Ab Go.Bf
set_option maxRecDepth 100000 in
theorem asks_ok {xs ys : List AV} {a b : List GivD} (hx : GRow xs a) (hy : GRow ys b) (q1 q2 : Perm) (h : Heap) : FnOK Tryz.prog 16 [.sl xs q1, .sl ys q2] h fun r h' => r = .v (.bool (asksD a b)) ∧ h' = h := by
  have hxl := hx.1
  have hyl := hy.1
  refine FnOK.body hU hm Tryz.func16 rfl (by kernel_rfl) 53 rfl [.tmp 4] rfl (Nat.le_of_ble_eq_true rfl) (fun hwf => ?_)
  have hlx : xs.length < lim := hwf (.sl xs q1) (by simp)
  have hly : ys.length < lim := hwf (.sl ys q2) (by simp)
  simp only [lim] at hlx hly
  cases d1 : ((a.length : Int) != (b.length : Int))
  case true =>
    have e1 : a.length ≠ b.length := by
      intro e; rw [e] at d1; simp at d1
    simp -implicitDefEqProofs only [go_sem, hxl, hyl, d1]
    exact .same (.refl _) ⟨by rw [asksD_len e1]; rfl, rfl⟩
  have e1 : a.length = b.length := by have : (a.length : Int) = b.length := by simpa using d1
                                      omega
  simp -implicitDefEqProofs only [go_sem, hxl, hyl, d1]
  refine .intro (fun m ρ h' => Ab.Sub h h' ∧ ∃ i : Nat, i ≤ a.length ∧ m = a.length - i ∧ (∀ j (h1 : j < a.length), j < i → b.any (eqGiv a[j]) = true) ∧ lk ρ 1 = some (.sl ys q2) ∧ lk ρ 15 = some (.sl xs q1) ∧ lk ρ 16 = some (.v (.int .i64 a.length)) ∧ lk ρ 17 = some (.v (.int .i64 i))) a.length ?_ ?_
  · refine ⟨.refl _, 0, by omega, rfl, fun j _ hj => (by omega), ?_, ?_, ?_, ?_⟩ <;> simp -implicitDefEqProofs only [go_sem]
  · rintro m ρ h' ⟨hs, i, hi, rfl, hc, r1, r15, r16, r17⟩
    simp -implicitDefEqProofs only [go_sem, r1, r15, r16, r17]
    refine .intro (fun e => ?_) (fun e => ?_)
    · have hlt : i < a.length := Int.ofNat_lt.1 (of_decide_eq_true e)
      have hltx : i < xs.length := by omega
      have w1 : IntKind.i64.wrap ((i : Int) + 1) = ((i + 1 : Nat) : Int) := by rw [wr64 _ (by omega)]; omega
      obtain ⟨qi, exi⟩ := hx.2 i hltx hlt
      simp -implicitDefEqProofs only [go_sem, r1, r15, r16, r17]
      refine .at i hltx (by rw [exi]; rfl) ?_
      simp -implicitDefEqProofs only [go_sem, r1, r15, r16, r17, exi, givQ]
      intro i6 h6
      simp -implicitDefEqProofs only [go_sem, r1, r15, r16, r17, hyl]
      refine .intro (fun m ρ G => Ab.Sub h' G ∧ G i6 = some (.obj [.v (.int .i64 a[i].cat), .s a[i].name, .sl (a[i].bag.map valA) qi] 43) ∧ ∃ j : Nat, j ≤ b.length ∧ m = b.length - j ∧ lk ρ 1 = some (.sl ys q2) ∧ lk ρ 15 = some (.sl xs q1) ∧ lk ρ 16 = some (.v (.int .i64 a.length)) ∧ lk ρ 17 = some (.v (.int .i64 i)) ∧ lk ρ 6 = some (.ptr i6 0) ∧ lk ρ 7 = some (.v (.bool ((b.take j).any (eqGiv a[i])))) ∧ lk ρ 21 = some (.sl ys q2) ∧ lk ρ 22 = some (.v (.int .i64 b.length)) ∧ lk ρ 23 = some (.v (.int .i64 j))) b.length ?_ ?_
      · refine ⟨.upd_new h6, upd_same .., 0, by omega, rfl, ?_, ?_, ?_, ?_, ?_, ?_, ?_, ?_, ?_⟩ <;> simp -implicitDefEqProofs only [go_sem, r1, r15, r16, r17, List.take_zero, List.any_nil]
      · rintro m ρ G ⟨hG, g6, j, hj, rfl, r1, r15, r16, r17, r6, r7, r21, r22, r23⟩
        simp -implicitDefEqProofs only [go_sem, r1, r15, r16, r17, r6, r7, r21, r22, r23]
        refine .intro (fun e => ?_) (fun e => ?_)
        · have hlt2 : j < b.length := Int.ofNat_lt.1 (of_decide_eq_true e)
          have hlty : j < ys.length := by omega
          have w2 : IntKind.i64.wrap ((j : Int) + 1) = ((j + 1 : Nat) : Int) := by rw [wr64 _ (by omega)]; omega
          obtain ⟨qj, eyj⟩ := hy.2 j hlty hlt2
          simp -implicitDefEqProofs only [go_sem, r1, r15, r16, r17, r6, r7, r21, r22, r23]
          refine .at j hlty (by rw [eyj]; rfl) ?_
          simp -implicitDefEqProofs only [go_sem, r1, r15, r16, r17, r6, r7, r21, r22, r23, eyj, givQ]
          intro i9 h9
          have n96 : i6 ≠ i9 := fun e => by rw [← e, g6] at h9; cases h9
          simp -implicitDefEqProofs only [go_sem, upd_ne, n96, n96.symm, g6, r1, r15, r16, r17, r6, r7, r21, r22, r23]
          have hG9 : ∀ b, Ab.Sub h' (upd G i9 b) := fun b => hG.put (hG.none h9) b
          have g69 : ∀ b, upd G i9 b i6 = _ := fun b => (upd_other _ _ n96).trans g6
          cases d0 : (b.take j).any (eqGiv a[i])
          · simp -implicitDefEqProofs only [go_sem, upd_ne, n96, n96.symm, g6, r1, r15, r16, r17, r6, r7, r21, r22, r23, d0]
            cases dc : (a[i].cat == b[j].cat)
            · have ef : (b.take (j + 1)).any (eqGiv a[i]) = false := by rw [any_succ hlt2, d0, eqGiv, dc]; rfl
              simp -implicitDefEqProofs only [go_sem, upd_ne, n96, n96.symm, g6, r1, r15, r16, r17, r6, r7, r21, r22, r23, d0, dc, w2]
              refine ⟨_, ?_, hG9 _, g69 _, j + 1, by omega, rfl, ?_, ?_, ?_, ?_, ?_, ?_, ?_, ?_, ?_⟩
              · omega
              all_goals simp -implicitDefEqProofs only [go_sem, r1, r15, r16, r17, r6, r7, r21, r22, r23, ef, w2]
            · simp -implicitDefEqProofs only [go_sem, upd_ne, n96, n96.symm, g6, r1, r15, r16, r17, r6, r7, r21, r22, r23, d0, dc]
              cases dn : (a[i].name == b[j].name)
              · have ef : (b.take (j + 1)).any (eqGiv a[i]) = false := by rw [any_succ hlt2, d0, eqGiv, dc, dn]; rfl
                simp -implicitDefEqProofs only [go_sem, upd_ne, n96, n96.symm, g6, r1, r15, r16, r17, r6, r7, r21, r22, r23, d0, dc, dn, w2]
                refine ⟨_, ?_, hG9 _, g69 _, j + 1, by omega, rfl, ?_, ?_, ?_, ?_, ?_, ?_, ?_, ?_, ?_⟩
                · omega
                all_goals simp -implicitDefEqProofs only [go_sem, r1, r15, r16, r17, r6, r7, r21, r22, r23, ef, w2]
              · simp -implicitDefEqProofs only [go_sem, upd_ne, n96, n96.symm, g6, r1, r15, r16, r17, r6, r7, r21, r22, r23, d0, dc, dn]
                refine (sameValue_ok a[i].bag b[j].bag qi qj _).pthen ?_
                have ef : (b.take (j + 1)).any (eqGiv a[i]) = eqL eqVal a[i].bag b[j].bag := by rw [any_succ hlt2, d0, eqGiv, dc, dn]; rfl
                simp -implicitDefEqProofs only [go_sem, upd_ne, n96, n96.symm, g6, r1, r15, r16, r17, r6, r7, r21, r22, r23, d0, dc, dn, w2]
                refine ⟨_, ?_, hG9 _, g69 _, j + 1, by omega, rfl, ?_, ?_, ?_, ?_, ?_, ?_, ?_, ?_, ?_⟩
                · omega
                all_goals simp -implicitDefEqProofs only [go_sem, r1, r15, r16, r17, r6, r7, r21, r22, r23, ef, w2]
          · have ef : (b.take (j + 1)).any (eqGiv a[i]) = true := by rw [any_succ hlt2, d0]; rfl
            simp -implicitDefEqProofs only [go_sem, upd_ne, n96, n96.symm, g6, r1, r15, r16, r17, r6, r7, r21, r22, r23, d0, w2]
            refine ⟨_, ?_, hG9 _, g69 _, j + 1, by omega, rfl, ?_, ?_, ?_, ?_, ?_, ?_, ?_, ?_, ?_⟩
            · omega
            all_goals simp -implicitDefEqProofs only [go_sem, r1, r15, r16, r17, r6, r7, r21, r22, r23, ef, w2]
        · have hge : j = b.length := by have := of_decide_eq_false e; omega
          subst hge
          rw [List.take_length] at r7
          simp -implicitDefEqProofs only [go_sem, r1, r15, r16, r17, r6, r7, r21, r22, r23]
          cases d0 : b.any (eqGiv a[i])
          · simp -implicitDefEqProofs only [go_sem, r1, r15, r16, r17, r6, r7, r21, r22, r23, d0]
            exact .mk _ (.refl _) (hs.trans hG) ⟨by rw [asksD_at i hlt d0]; rfl, rfl⟩
          · simp -implicitDefEqProofs only [go_sem, r1, r15, r16, r17, r6, r7, r21, r22, r23, d0, w1]
            refine ⟨_, ?_, hs.trans hG, i + 1, by omega, rfl, fun k h1 hk => ?_, ?_, ?_, ?_, ?_⟩
            · omega
            · by_cases hki : k = i
              · subst hki; exact d0
              · exact hc k h1 (by omega)
            all_goals simp -implicitDefEqProofs only [go_sem, r1, r15, r16, r17, r6, r7, r21, r22, r23, w1]
    · have hge : i = a.length := by have := of_decide_eq_false e; omega
      subst hge
      simp -implicitDefEqProofs only [go_sem, r1, r15, r16, r17]
      exact .mk _ (.refl _) hs ⟨by rw [asksD_true e1 fun j h1 => hc j h1 h1]; rfl, rfl⟩
end Go.Proofs.YtnhelgnmadbpgaaGreatDoor

set_option linter.unusedSimpArgs false
set_option linter.unusedVariables false
namespace Go.Bf
def annT : Txt := [97, 110, 110]
def bobT : Txt := [98, 111, 98]
def runO1 : OpD := ⟨1, annT, [99, 49], [], [], zeroVal, 0, [], [], false⟩
def runO2 : OpD := ⟨2, bobT, [99, 49], [120], [], zeroVal, 0, [], [], false⟩
def runS : StoreD := ⟨0, [⟨[99, 49], annT, openT, [], [⟨0, annT, [110, 101, 119]⟩]⟩], [], [], [], leastP, 0⟩
def runG : List GivD := [⟨1, idT, [idV bobT]⟩, ⟨1, [114, 111, 108, 101], []⟩, ⟨2, [110, 97, 109, 101], [idV [114, 101, 97, 100]]⟩, ⟨2, [102, 105, 101, 108, 100], [idV [120]]⟩, ⟨4, [110, 111, 119], [⟨4, 0, []⟩]⟩, ⟨3, idT, [idV [99, 49]]⟩, ⟨3, [111, 119, 110, 101, 114], [idV annT]⟩, ⟨3, [115, 116, 97, 116, 101], [idV openT]⟩, ⟨3, [101, 118, 101, 110, 116, 115], [⟨2, 1, []⟩]⟩, ⟨3, [116, 111, 111, 107], [⟨1, 0, []⟩]⟩, ⟨3, [108, 97, 115, 116], [idV annT]⟩]
end Go.Bf
namespace Go.Proofs.YtnhelgnmadbpgaaGreatDoor
open Go Go.Ab Go.Bf
theorem run_store : doneD parseD newD runO1 = runS := by kernel_rfl
theorem run_asks : asksD (askD runS runO2) runG = true := by kernel_rfl
theorem few_run : Few runS := ⟨by decide, fun c hc => (by rw [List.mem_singleton.1 hc]; decide), fun c hc => (by rw [List.mem_singleton.1 hc]; decide), by decide, by decide, by decide⟩
theorem run_rows : GRow [givQ ⟨1, idT, [idV bobT]⟩ .full, givQ ⟨1, [114, 111, 108, 101], []⟩ .full, givQ ⟨2, [110, 97, 109, 101], [idV [114, 101, 97, 100]]⟩ .full, givQ ⟨2, [102, 105, 101, 108, 100], [idV [120]]⟩ .full, givQ ⟨4, [110, 111, 119], [⟨4, 0, []⟩]⟩ .full, givQ ⟨3, idT, [idV [99, 49]]⟩ .full, givQ ⟨3, [111, 119, 110, 101, 114], [idV annT]⟩ .full, givQ ⟨3, [115, 116, 97, 116, 101], [idV openT]⟩ .full, givQ ⟨3, [101, 118, 101, 110, 116, 115], [⟨2, 1, []⟩]⟩ .full, givQ ⟨3, [116, 111, 111, 107], [⟨1, 0, []⟩]⟩ .full, givQ ⟨3, [108, 97, 115, 116], [idV annT]⟩ .full] runG :=
  ((((((((((GRow.one _ _).app (GRow.one _ _)).app (GRow.one _ _)).app (GRow.one _ _)).app (GRow.one _ _)).app (GRow.one _ _)).app (GRow.one _ _)).app (GRow.one _ _)).app (GRow.one _ _)).app (GRow.one _ _)).app (GRow.one _ _)
set_option maxRecDepth 100000 in
theorem casesRuns_ok (h : Heap) (he : ErrT h) : FnOK Tryz.prog 3 [] h fun r h' => r = .v (.bool true) ∧ h' = h := by
  have hd := fun (G : Heap) (hG : Ab.Sub h G) => done_ok (rdS G newD) runO1 few_new least_polE ⟨by decide, by decide⟩ ⟨by decide, by decide⟩ ⟨by decide, by decide⟩ (he.sub hG)
  have ha := fun (G : Heap) => ask_ok (rdS G runS) runO2 few_run ⟨by decide, by decide⟩
  rw [run_store] at hd
  refine FnOK.body hU hm Tryz.func3 rfl (by kernel_rfl) 23 rfl [.tmp 0] rfl (Nat.le_of_ble_eq_true rfl) (fun hwf => ?_)
  simp -implicitDefEqProofs only [go_sem]
  refine (new_ok _ he).pthen ?_
  simp -implicitDefEqProofs only [go_sem]
  refine (show FnOK Tryz.prog _ [storeA newD, opA runO1] _ _ from hd _ (.refl _)).pthen ?_
  simp -implicitDefEqProofs only [go_sem]
  intro i1 h1
  have es : storeA runS = .agg [.v (.int .i64 0), casesA runS.cases, .sl [] .no, .sl [] .no, .sl [] .no, .s openT, .v (.bool false), .v (.int .i64 6), .sl [] .no, .sl [] .no, .sl [] .no, .sl [] .no, .v (.int .i64 0)] := rfl
  rw [es] at ha ⊢
  have hcs : ∃ l, casesA runS.cases = .sl l .no := ⟨_, rfl⟩
  obtain ⟨lc, elc⟩ := hcs
  rw [elc] at ha ⊢
  simp -implicitDefEqProofs only [go_sem]
  refine (lgiven_ok _ _ _ _ _ _).pthen ?_
  simp -implicitDefEqProofs only [go_sem, valA]
  refine (lgiven_ok _ _ _ _ _ _).pthen ?_
  simp -implicitDefEqProofs only [go_sem, valA]
  refine (lgiven_ok _ _ _ _ _ _).pthen ?_
  simp -implicitDefEqProofs only [go_sem, valA]
  refine (lgiven_ok _ _ _ _ _ _).pthen ?_
  simp -implicitDefEqProofs only [go_sem, valA]
  refine (lgiven_ok _ _ _ _ _ _).pthen ?_
  simp -implicitDefEqProofs only [go_sem, valA]
  refine (lgiven_ok _ _ _ _ _ _).pthen ?_
  simp -implicitDefEqProofs only [go_sem, valA]
  refine (lgiven_ok _ _ _ _ _ _).pthen ?_
  simp -implicitDefEqProofs only [go_sem, valA]
  refine (lgiven_ok _ _ _ _ _ _).pthen ?_
  simp -implicitDefEqProofs only [go_sem, valA]
  refine (lgiven_ok _ _ _ _ _ _).pthen ?_
  simp -implicitDefEqProofs only [go_sem, valA]
  refine (lgiven_ok _ _ _ _ _ _).pthen ?_
  simp -implicitDefEqProofs only [go_sem, valA]
  refine (show FnOK Tryz.prog _ [_, opA runO2] _ _ from ha _).pthen ?_
  simp -implicitDefEqProofs only [go_sem, givsA]
  refine (asks_ok (GRow.givs (askD runS runO2)) run_rows .no .full _).pthen ?_
  simp -implicitDefEqProofs only [go_sem, run_asks]
  exact .mk _ (.refl _) (.upd_new h1) ⟨rfl, rfl⟩
def pow10V : List Value := Lib.pow10Tab.map fun z => Value.int .u64 z
def startH (ev : Value) : Heap := tabH [(3, pow10V), (2, [ev])]
theorem start_err {ev : Value} (hev : ev = .nilIface ∨ ∃ te pe, ev = .iface te pe) : ErrT (startH ev) := ⟨ev, hev, 1, rfl⟩
end Go.Proofs.YtnhelgnmadbpgaaGreatDoor

set_option linter.unusedSimpArgs false
set_option linter.unusedVariables false
namespace Go.Bf
open Go Go.Ab
def opkD (o : OpD) : OpD := { o with subj := o.subj.take 20, case := o.case.take 20, field := o.field.take 20, to := o.to.take 20, val := { o.val with s := o.val.s.take 70 }, reason := o.reason.take 70, text := if o.text.length ≤ 4096 then o.text.take 1000 else o.text }
end Go.Bf
namespace Go.Proofs.YtnhelgnmadbpgaaGreatDoor
open Go Go.Ab Go.Bf
theorem short_ok (s : Txt) (n : Nat) (hn : n ≤ 1000000) (h : Heap) : FnOK Tryz.prog 76 [.s s, .v (.int .i64 n)] h fun r h' => r = .s (s.take n) ∧ h' = h := by
  refine FnOK.body hU hm Tryz.func76 rfl (by kernel_rfl) 11 rfl [.tmp 4] rfl (Nat.le_of_ble_eq_true rfl) (fun hwf => ?_)
  have e : (if (n : Int) < (s.length : Int) then (n : Int) else (s.length : Int)) = ((min n s.length : Nat) : Int) := by split <;> omega
  simp -implicitDefEqProofs only [go_sem, e]
  refine ⟨by omega, by omega, by omega, ?_⟩
  simp -implicitDefEqProofs only [go_sem, Option.isSome_none, Option.isSome_some, cutL_ft, Int.toNat_natCast]
  exact .same (.refl _) ⟨by rw [List.take_eq_take_min (i := n) (l := s)]; rfl, rfl⟩
set_option maxRecDepth 100000 in
theorem opk_ok (o : OpD) (h : Heap) : FnOK Tryz.prog 34 [opA o] h fun r h' => r = opA (opkD o) ∧ h' = h := by
  refine FnOK.body hU hm Tryz.func34 rfl (by kernel_rfl) 38 rfl [.cell 2 40] rfl (Nat.le_of_ble_eq_true rfl) (fun hwf => ?_)
  simp -implicitDefEqProofs only [go_sem, opA, opC]
  intro i1 h1
  simp -implicitDefEqProofs only [go_sem]
  intro i2 h2
  have n21 := ne_upd h2
  have n2 := upd_none h2
  simp -implicitDefEqProofs only [go_sem, upd_ne, n21, n21.symm]
  have hns : ∀ G, Ab.Sub noHeap G := fun G _ _ e => by cases e
  have hs : ∀ a b, Ab.Sub h (upd (upd h i1 a) i2 b) := fun a b => ((Sub.refl h).put h1 a).put n2 b
  refine .stage (pick (upd (upd h i1 (some (.obj [.v (.int .i64 o.kind), .s o.subj, .s o.case, .s o.field, .s o.to, .v (.int .i64 o.val.kind), .v (.int .i64 o.val.n), .s o.val.s, .v (.int .i64 o.review), .s o.text, .s o.reason, .v (.bool o.glass)] 40))) i2 _) [i1]) [0, 1, 3, 4, 6, 7, 9, 10, 2, 12, 5, 8, 11] [13, 14, 15, 16, 17, 18, 19] pick_sub (by kernel_rfl) ?_
  simp -implicitDefEqProofs only [go_sem, pick_at (show i1 ∈ [i1] by simp), upd_ne, n21, n21.symm]
  refine (show FnOK Tryz.prog 76 [_, .v (.int .i64 ((20 : Nat) : Int))] _ _ from (short_ok _ 20 (by decide) _).mono fun r h' ⟨e1, e2⟩ => ?_)
  subst e1; subst e2
  refine ⟨pick_sub, ?_⟩
  simp -implicitDefEqProofs only [go_sem, pick_at (show i1 ∈ [i1] by simp), upd_ne, n21, n21.symm]
  refine (show FnOK Tryz.prog 76 [_, .v (.int .i64 ((20 : Nat) : Int))] _ _ from (short_ok _ 20 (by decide) _).mono fun r h' ⟨e1, e2⟩ => ?_)
  subst e1; subst e2
  refine ⟨pick_sub, ?_⟩
  simp -implicitDefEqProofs only [go_sem, pick_at (show i1 ∈ [i1] by simp), upd_ne, n21, n21.symm]
  refine (show FnOK Tryz.prog 76 [_, .v (.int .i64 ((20 : Nat) : Int))] _ _ from (short_ok _ 20 (by decide) _).mono fun r h' ⟨e1, e2⟩ => ?_)
  subst e1; subst e2
  refine ⟨pick_sub, ?_⟩
  simp -implicitDefEqProofs only [go_sem, pick_at (show i1 ∈ [i1] by simp), upd_ne, n21, n21.symm]
  refine (show FnOK Tryz.prog 76 [_, .v (.int .i64 ((20 : Nat) : Int))] _ _ from (short_ok _ 20 (by decide) _).mono fun r h' ⟨e1, e2⟩ => ?_)
  subst e1; subst e2
  refine ⟨pick_sub, ?_⟩
  simp -implicitDefEqProofs only [go_sem, pick_at (show i1 ∈ [i1] by simp), upd_ne, n21, n21.symm]
  refine ⟨noHeap, hns _, ?_⟩
  simp -implicitDefEqProofs only [go_sem, upd_ne, n21, n21.symm]
  refine ⟨hns _, hns _, hns _, hns _, ?_⟩
  refine .stage (pick _ [i1]) [0, 1, 2, 4, 5, 3, 7, 8, 6] [9, 10, 11] pick_sub (by kernel_rfl) ?_
  simp -implicitDefEqProofs only [go_sem, pick_at (show i1 ∈ [i1] by simp), upd_ne, n21, n21.symm]
  refine (show FnOK Tryz.prog 76 [_, .v (.int .i64 ((70 : Nat) : Int))] _ _ from (short_ok _ 70 (by decide) _).mono fun r h' ⟨e1, e2⟩ => ?_)
  subst e1; subst e2
  refine ⟨pick_sub, ?_⟩
  simp -implicitDefEqProofs only [go_sem, pick_at (show i1 ∈ [i1] by simp), upd_ne, n21, n21.symm]
  refine (show FnOK Tryz.prog 76 [_, .v (.int .i64 ((70 : Nat) : Int))] _ _ from (short_ok _ 70 (by decide) _).mono fun r h' ⟨e1, e2⟩ => ?_)
  subst e1; subst e2
  refine ⟨pick_sub, ?_⟩
  simp -implicitDefEqProofs only [go_sem, pick_at (show i1 ∈ [i1] by simp), upd_ne, n21, n21.symm]
  refine ⟨noHeap, hns _, ?_⟩
  simp -implicitDefEqProofs only [go_sem, upd_ne, n21, n21.symm]
  refine ⟨hns _, hns _, ?_⟩
  cases d1 : decide ((o.text.length : Int) ≤ 4096)
  · have p1 : ¬ o.text.length ≤ 4096 := by have := of_decide_eq_false d1; omega
    simp -implicitDefEqProofs only [go_sem, upd_ne, n21, n21.symm, d1]
    exact .mk _ (.refl _) (by repeat' first | exact .refl _ | (refine Sub.put ?_ (by assumption) _)) ⟨by simp [opkD, opA, opC, oneOr, p1], rfl⟩
  · have p1 : o.text.length ≤ 4096 := by have := of_decide_eq_true d1; omega
    simp -implicitDefEqProofs only [go_sem, upd_ne, n21, n21.symm, d1]
    refine (show FnOK Tryz.prog 76 [_, .v (.int .i64 ((1000 : Nat) : Int))] _ _ from (short_ok _ 1000 (by decide) _).mono fun r h' ⟨e1, e2⟩ => ?_)
    subst e1; subst e2
    simp -implicitDefEqProofs only [go_sem, upd_ne, n21, n21.symm]
    exact .mk _ (.refl _) (by repeat' first | exact .refl _ | (refine Sub.put ?_ (by assumption) _)) ⟨by simp [opkD, opA, opC, oneOr, p1], rfl⟩
end Go.Proofs.YtnhelgnmadbpgaaGreatDoor

set_option linter.unusedSimpArgs false
set_option linter.unusedVariables false
namespace Go.Bf
open Go Go.Ab
end Go.Bf
namespace Go.Proofs.YtnhelgnmadbpgaaGreatDoor
open Go Go.Ab Go.Bf
end Go.Proofs.YtnhelgnmadbpgaaGreatDoor

set_option linter.unusedSimpArgs false
set_option linter.unusedVariables false
namespace Go.Bf
open Go Go.Ab
def isGiv (cat : Int) (name : Txt) (g : GivD) : Bool := g.cat == cat && g.name == name
def getD (l : List GivD) (cat : Int) (name : Txt) : List ValD := match l.find? (isGiv cat name) with
  | some g => g.bag
  | none => []
end Go.Bf
namespace Go.Proofs.YtnhelgnmadbpgaaGreatDoor
open Go Go.Ab Go.Bf
theorem ixGiv_ok {α : Type} (y : AV) (xs : List AV) (ds : List α) (q : α → Bool) (g : FuncId) (cap : List AV) (h : Heap) (hb : Rd h 3 y xs) (hn : xs.length = ds.length) (hl : xs.length ≤ 1000000000) (hx : ∀ x ∈ xs, isAggA x = true)
    (hp : ∀ i (h1 : i < xs.length) (h2 : i < ds.length), FnOK Tryz.prog g (xs[i] :: cap) h fun r h' => r = .v (.bool (q ds[i])) ∧ h' = h) :
    FnOK Tryz.prog 111 [y, .fn g cap] h fun r h' => r = .v (.int .i64 (ixD q ds)) ∧ h' = h := by
  refine FnOK.body hU hm Tryz.func111 rfl (by kernel_rfl) 19 rfl [.tmp 4] rfl (Nat.le_of_ble_eq_true rfl) (fun hwf => ?_)
  simp -implicitDefEqProofs only [go_sem, hb.len]
  refine .intro (fun m ρ h' => h' = h ∧ ∃ i : Nat, i ≤ xs.length ∧ m = xs.length - i ∧ (∀ j (hj : j < i) (h2 : j < ds.length), q ds[j] = false) ∧ lk ρ 0 = some y ∧ lk ρ 1 = some (.fn g cap) ∧ lk ρ 7 = some (.v (.int .i64 xs.length)) ∧ lk ρ 8 = some (.v (.int .i64 i))) xs.length ?_ ?_
  · refine ⟨rfl, 0, by omega, rfl, fun j hj => (by omega), ?_, ?_, ?_, ?_⟩ <;> simp -implicitDefEqProofs only [go_sem]
  · rintro m ρ h' ⟨rfl, i, hi, rfl, hc, r0, r1, r7, r8⟩
    simp -implicitDefEqProofs only [go_sem, r0, r1, r7, r8]
    refine .intro (fun e => ?_) (fun e => ?_)
    · have hlt : i < xs.length := Int.ofNat_lt.1 (of_decide_eq_true e)
      have hlt2 : i < ds.length := by omega
      have w1 : IntKind.i64.wrap ((i : Int) + 1) = ((i + 1 : Nat) : Int) := by rw [wr64 _ (by omega)]; omega
      simp -implicitDefEqProofs only [go_sem, r0, r1, r7, r8]
      refine hb.idx (e := 43) i rfl hlt (by simp only [go_sem]) (by decide) fun p hp1 => ?_
      have hld := hp1.all (U := U) (ty := 43) (by simp only [go_sem]) (by simp only [go_sem]; exact hb.1 _ (List.getElem_mem hlt)) (by simp only [go_sem]; rw [hx _ (List.getElem_mem hlt)])
      simp -implicitDefEqProofs only [go_sem, r0, r1, r7, r8, hld]
      refine (show FnOK Tryz.prog g (xs[i] :: cap) _ _ from hp i hlt hlt2).pthen ?_
      cases d1 : q ds[i]
      · simp -implicitDefEqProofs only [go_sem, r0, r1, r7, r8, w1]
        refine ⟨_, ?_, rfl, i + 1, by omega, rfl, fun j hj h2 => ?_, ?_, ?_, ?_, ?_⟩
        · omega
        · by_cases hji : j = i
          · subst hji; exact d1
          · exact hc j (by omega) h2
        all_goals simp -implicitDefEqProofs only [go_sem, r0, r1, r7, r8, w1]
      · simp -implicitDefEqProofs only [go_sem, r0, r1, r7, r8]
        exact .same (.refl _) ⟨by rw [ixD_at hlt2 d1 fun j hj => hc j hj (by omega)]; rfl, rfl⟩
    · have hge : i = xs.length := by have := of_decide_eq_false e; omega
      simp -implicitDefEqProofs only [go_sem, r0, r1, r7, r8]
      exact .same (.refl _) ⟨by rw [ixD_none fun j hj => hc j (by omega) hj]; rfl, rfl⟩
theorem place1_ok {h : Heap} (g : GivD) {k1 k2 : Nat} {cat : Int} {name : Txt} (h1 : h k1 = some (.obj [.v (.int .i64 cat)] 3)) (h2 : h k2 = some (.obj [.s name] 9)) : FnOK Tryz.prog 112 [givA g, .ptr k1 0, .ptr k2 0] h fun r h' => r = .v (.bool (isGiv cat name g)) ∧ h' = h := by
  refine FnOK.body hU hm Tryz.func112 rfl (by kernel_rfl) 15 rfl [.tmp 4] rfl (Nat.le_of_ble_eq_true rfl) (fun hwf => ?_)
  simp -implicitDefEqProofs only [go_sem, givA]
  intro i1 hi1
  have n1 : k1 ≠ i1 := fun e => by subst e; rw [h1] at hi1; cases hi1
  have n2 : k2 ≠ i1 := fun e => by subst e; rw [h2] at hi1; cases hi1
  simp -implicitDefEqProofs only [go_sem, upd_ne, n1, n1.symm, n2, n2.symm, h1, h2]
  cases d1 : (g.cat == cat)
  · simp -implicitDefEqProofs only [go_sem, upd_ne, n1, n1.symm, n2, n2.symm, h1, h2, d1]
    exact .mk _ (.refl _) (.upd_new hi1) ⟨by simp only [isGiv, d1]; rfl, rfl⟩
  · simp -implicitDefEqProofs only [go_sem, upd_ne, n1, n1.symm, n2, n2.symm, h1, h2, d1]
    exact .mk _ (.refl _) (.upd_new hi1) ⟨by simp only [isGiv, d1]; rfl, rfl⟩
theorem place_ok (gs : List GivD) (cat : Int) (name : Txt) (hl : gs.length ≤ 1000000000) (h : Heap) : FnOK Tryz.prog 77 [givsA gs, .v (.int .i64 cat), .s name] h fun r h' => r = .v (.int .i64 (ixD (isGiv cat name) gs)) ∧ h' = h := by
  refine FnOK.body hU hm Tryz.func77 rfl (by kernel_rfl) 10 rfl [.tmp 6] rfl (Nat.le_of_ble_eq_true rfl) (fun hwf => ?_)
  simp -implicitDefEqProofs only [go_sem, givsA]
  intro i1 h1
  simp -implicitDefEqProofs only [go_sem]
  intro i2 h2
  have n21 := ne_upd h2
  have n2 := upd_none h2
  have hs : ∀ a b, Ab.Sub h (upd (upd h i1 a) i2 b) := fun a b => ((Sub.refl h).put h1 a).put n2 b
  simp -implicitDefEqProofs only [go_sem, upd_ne, n21, n21.symm]
  refine (ixGiv_ok _ _ gs (isGiv cat name) _ [.ptr i1 0, .ptr i2 0] _ (rd_map givA 3 (fun _ => rfl) _ gs) (by simp) (by simpa using hl) (agg_map (fun _ => rfl) _) fun i a b => by
    rw [List.getElem_map]; exact place1_ok _ (by rw [upd_other _ _ n21.symm, upd_same]) (upd_same ..)).pthen ?_
  simp -implicitDefEqProofs only [go_sem]
  exact .mk _ (.refl _) (hs _ _) ⟨rfl, rfl⟩
end Go.Proofs.YtnhelgnmadbpgaaGreatDoor

set_option linter.unusedSimpArgs false
set_option linter.unusedVariables false
namespace Go.Bf
open Go Go.Ab
end Go.Bf
namespace Go.Proofs.YtnhelgnmadbpgaaGreatDoor
open Go Go.Ab Go.Bf
end Go.Proofs.YtnhelgnmadbpgaaGreatDoor

set_option linter.unusedSimpArgs false
set_option linter.unusedVariables false
namespace Go.Bf
open Go Go.Ab
end Go.Bf
namespace Go.Proofs.YtnhelgnmadbpgaaGreatDoor
open Go Go.Ab Go.Bf
end Go.Proofs.YtnhelgnmadbpgaaGreatDoor

set_option linter.unusedSimpArgs false
set_option linter.unusedVariables false
namespace Go.Bf
open Go Go.Ab
def cT : Txt := [99]
def states4 : List Txt := [openT, workT, doneT, closedT]
end Go.Bf
namespace Go.Proofs.YtnhelgnmadbpgaaGreatDoor
open Go Go.Ab Go.Bf
end Go.Proofs.YtnhelgnmadbpgaaGreatDoor

set_option linter.unusedSimpArgs false
set_option linter.unusedVariables false
namespace Go.Bf
open Go Go.Ab
abbrev lt (a b : Txt) : Prop := Op.bytesLess a b = true
theorem lt_irrefl : ∀ a : Txt, ¬ lt a a
  | [] => by simp [lt, Op.bytesLess]
  | a :: x => by
    have := lt_irrefl x
    simp only [lt, Op.bytesLess, Bool.or_eq_true, Bool.and_eq_true, decide_eq_true_eq, beq_self_eq_true, true_and, not_or]
    exact ⟨UInt8.lt_irrefl a, this⟩
theorem lt_trans : ∀ {a b c : Txt}, lt a b → lt b c → lt a c
  | _, [], _, h, _ => by cases ‹Txt› <;> simp [lt, Op.bytesLess] at h
  | [], b :: y, c, _, h => by cases c <;> simp [lt, Op.bytesLess] at h ⊢
  | a :: x, b :: y, [], _, h => by simp [lt, Op.bytesLess] at h
  | a :: x, b :: y, c :: z, h1, h2 => by
    simp only [lt, Op.bytesLess, Bool.or_eq_true, Bool.and_eq_true, decide_eq_true_eq, beq_iff_eq] at h1 h2 ⊢
    rcases h1 with h1 | ⟨rfl, h1⟩
    · rcases h2 with h2 | ⟨rfl, h2⟩
      · exact .inl (UInt8.lt_trans h1 h2)
      · exact .inl h1
    · rcases h2 with h2 | ⟨rfl, h2⟩
      · exact .inl h2
      · exact .inr ⟨rfl, lt_trans h1 h2⟩
theorem lt_or : ∀ a b : Txt, lt a b ∨ a = b ∨ lt b a
  | [], [] => .inr (.inl rfl)
  | [], b :: y => .inl rfl
  | a :: x, [] => .inr (.inr rfl)
  | a :: x, b :: y => by
    simp only [lt, Op.bytesLess, Bool.or_eq_true, Bool.and_eq_true, decide_eq_true_eq, beq_iff_eq]
    rcases UInt8.lt_or_lt_of_ne (a := a) (b := b) with h
    by_cases e : a = b
    · subst e
      rcases lt_or x y with h | rfl | h
      · exact .inl (.inr ⟨rfl, h⟩)
      · exact .inr (.inl rfl)
      · exact .inr (.inr (.inr ⟨rfl, h⟩))
    · rcases h e with h | h
      · exact .inl (.inl h)
      · exact .inr (.inr (.inl h))
def Asc (cs : List CaseD) : Prop := cs.Pairwise fun a b => lt a.id b.id
theorem find_ge {c : CaseD} {cs : List CaseD} {id : Txt} (h : ¬ lt c.id id) : findD (c :: cs) id = 0 := by
  have : Op.bytesLess c.id id = false := by simpa using h
  simp [findD, List.findIdx_cons, geB, this]
theorem find_lt {c : CaseD} {cs : List CaseD} {id : Txt} (h : lt c.id id) : findD (c :: cs) id = findD cs id + 1 := by
  have : Op.bytesLess c.id id = true := h
  simp [findD, List.findIdx_cons, geB, this]
theorem there_iff : ∀ {cs : List CaseD}, Asc cs → ∀ id, thereD cs id = cs.any fun c => c.id == id
  | [], _, id => rfl
  | c :: cs, h, id => by
    obtain ⟨h1, h2⟩ := List.pairwise_cons.1 h
    by_cases hl : lt c.id id
    · have hne : (c.id == id) = false := by
        rw [beq_eq_false_iff_ne]
        intro e; rw [e] at hl; exact lt_irrefl _ hl
      have e : thereD (c :: cs) id = thereD cs id := by
        unfold thereD; rw [find_lt hl]; rfl
      rw [e, there_iff h2 id, List.any_cons, hne, Bool.false_or]
    · have e : thereD (c :: cs) id = (c.id == id) := by
        unfold thereD; rw [find_ge hl]; rfl
      rw [e, List.any_cons]
      cases hc : (c.id == id)
      · have hlt : lt id c.id := by
          rcases lt_or c.id id with h | h | h
          · exact (hl h).elim
          · rw [h, beq_self_eq_true] at hc; cases hc
          · exact h
        rw [Bool.false_or]
        refine (List.any_eq_false.2 fun d hd => ?_).symm
        intro he
        have := lt_trans hlt (h1 d hd)
        rw [beq_iff_eq.1 he] at this
        exact lt_irrefl _ this
      · simp
theorem asc_ins : ∀ {cs : List CaseD}, Asc cs → ∀ c : CaseD, (cs.any fun d => d.id == c.id) = false → Asc (cs.take (findD cs c.id) ++ [c] ++ cs.drop (findD cs c.id))
  | [], _, c, _ => by simp [Asc, findD]
  | d :: cs, h, c, hn => by
    obtain ⟨h1, h2⟩ := List.pairwise_cons.1 h
    simp only [List.any_cons, Bool.or_eq_false_iff] at hn
    by_cases hl : lt d.id c.id
    · rw [find_lt hl]
      simp only [List.take_succ_cons, List.drop_succ_cons, List.cons_append]
      refine List.pairwise_cons.2 ⟨fun e he => ?_, asc_ins h2 c hn.2⟩
      simp only [List.mem_append, List.mem_singleton] at he
      rcases he with (he | rfl) | he
      · exact h1 e (List.mem_of_mem_take he)
      · exact hl
      · exact h1 e (List.mem_of_mem_drop he)
    · rw [find_ge hl]
      have hlt : lt c.id d.id := by
        rcases lt_or d.id c.id with h | h | h
        · exact (hl h).elim
        · rw [h, beq_self_eq_true] at hn; cases hn.1
        · exact h
      refine List.pairwise_cons.2 ⟨fun e he => ?_, h⟩
      rcases List.mem_cons.1 he with rfl | he
      · exact hlt
      · exact lt_trans hlt (h1 e he)
def AscF (fs : List FieldD) : Prop := fs.Pairwise fun a b => lt a.name b.name
theorem write_nil (name : Txt) (v : ValD) : writeD [] name v = [⟨name, v⟩] := rfl
theorem write_lt {f : FieldD} {fs : List FieldD} {name : Txt} {v : ValD} (h : lt f.name name) : writeD (f :: fs) name v = f :: writeD fs name v := by
  have hb : Op.bytesLess f.name name = true := h
  unfold writeD
  simp only [List.findIdx_cons, geB, hb, Bool.not_true, cond_false, List.getElem?_cons_succ]
  generalize hi : fs.findIdx (fun f => !Op.bytesLess f.name name) = i
  cases e : fs[i]? with
  | none => simp
  | some g =>
    by_cases hg : g.name = name
    · simp [hg]
    · simp [hg]
theorem write_eq {f : FieldD} {fs : List FieldD} {name : Txt} {v : ValD} (h : f.name = name) : writeD (f :: fs) name v = ⟨f.name, v⟩ :: fs := by
  subst h
  have hb : Op.bytesLess f.name f.name = false := by
    cases hb : Op.bytesLess f.name f.name
    · rfl
    · exact (lt_irrefl _ hb).elim
  unfold writeD
  simp [List.findIdx_cons, geB, hb]
theorem write_gt {f : FieldD} {fs : List FieldD} {name : Txt} {v : ValD} (h : lt name f.name) : writeD (f :: fs) name v = ⟨name, v⟩ :: f :: fs := by
  have hb : Op.bytesLess f.name name = false := by
    cases hb : Op.bytesLess f.name name
    · rfl
    · exact (lt_irrefl _ (lt_trans h hb)).elim
  have hne : f.name ≠ name := fun e => by rw [e] at h; exact lt_irrefl _ h
  unfold writeD
  simp [List.findIdx_cons, geB, hb, hne]
theorem write_mem : ∀ {fs : List FieldD} {name : Txt} {v : ValD} {g : FieldD}, g ∈ writeD fs name v → g = ⟨name, v⟩ ∨ g ∈ fs
  | [], name, v, g, h => by rw [write_nil] at h; exact .inl (List.mem_singleton.1 h)
  | f :: fs, name, v, g, h => by
    rcases lt_or f.name name with hl | hl | hl
    · rw [write_lt hl] at h
      rcases List.mem_cons.1 h with rfl | h
      · exact .inr (List.mem_cons_self ..)
      · rcases write_mem h with h | h
        · exact .inl h
        · exact .inr (List.mem_cons_of_mem _ h)
    · rw [write_eq hl] at h
      rcases List.mem_cons.1 h with rfl | h
      · exact .inl (by rw [hl])
      · exact .inr (List.mem_cons_of_mem _ h)
    · rw [write_gt hl] at h
      rcases List.mem_cons.1 h with rfl | h
      · exact .inl rfl
      · exact .inr h
theorem write_asc : ∀ {fs : List FieldD} {name : Txt} {v : ValD}, AscF fs → AscF (writeD fs name v)
  | [], name, v, _ => by rw [write_nil]; simp [AscF]
  | f :: fs, name, v, h => by
    obtain ⟨h1, h2⟩ := List.pairwise_cons.1 h
    rcases lt_or f.name name with hl | hl | hl
    · rw [write_lt hl]
      refine List.pairwise_cons.2 ⟨fun g hg => ?_, write_asc h2⟩
      rcases write_mem hg with rfl | hg
      · exact hl
      · exact h1 g hg
    · rw [write_eq hl]
      exact List.pairwise_cons.2 ⟨h1, h2⟩
    · rw [write_gt hl]
      refine List.pairwise_cons.2 ⟨fun g hg => ?_, h⟩
      rcases List.mem_cons.1 hg with rfl | hg
      · exact hl
      · exact lt_trans hl (h1 g hg)
theorem write_len : ∀ {fs : List FieldD} {name : Txt} {v : ValD}, AscF fs → (writeD fs name v).length = if fs.any (fun f => f.name == name) then fs.length else fs.length + 1
  | [], name, v, _ => rfl
  | f :: fs, name, v, h => by
    obtain ⟨h1, h2⟩ := List.pairwise_cons.1 h
    rcases lt_or f.name name with hl | hl | hl
    · have hne : (f.name == name) = false := by rw [beq_eq_false_iff_ne]; intro e; rw [e] at hl; exact lt_irrefl _ hl
      rw [write_lt hl, List.length_cons, write_len h2, List.any_cons, hne, Bool.false_or]
      split <;> simp
    · rw [write_eq hl]
      simp [hl]
    · have hne : (f.name == name) = false := by rw [beq_eq_false_iff_ne]; intro e; rw [e] at hl; exact lt_irrefl _ hl
      have hno : (fs.any fun f => f.name == name) = false := List.any_eq_false.2 fun g hg he => by
        have := lt_trans hl (h1 g hg)
        rw [beq_iff_eq.1 he] at this
        exact lt_irrefl _ this
      rw [write_gt hl, List.any_cons, hne, hno]
      simp
theorem field_cons (f : FieldD) (fs : List FieldD) (n : Txt) : fieldD (f :: fs) n = if f.name = n then f.val else fieldD fs n := by
  unfold fieldD
  by_cases h : f.name = n <;> simp [List.find?_cons, h]
end Go.Bf

set_option linter.unusedSimpArgs false
set_option linter.unusedVariables false
namespace Go.Bf
open Go Go.Ab
def mkC (who id : Txt) : CaseD := ⟨id, who, openT, [], [⟨0, who, [110, 101, 119]⟩]⟩
def hasC (cs : List CaseD) (id : Txt) : Bool := cs.any fun c => c.id == id
end Go.Bf
namespace Go.Proofs.YtnhelgnmadbpgaaGreatDoor
open Go Go.Ab Go.Bf
end Go.Proofs.YtnhelgnmadbpgaaGreatDoor

set_option linter.unusedSimpArgs false
set_option linter.unusedVariables false
namespace Go.Ab
open Go
section
variable {α : Type}
def dget (l : List (List UInt8 × α)) (k : List UInt8) : Option α := (l.find? fun p => p.1 == k).map (·.2)
end
end Go.Ab

set_option linter.unusedSimpArgs false
set_option linter.unusedVariables false
namespace Go.Bf
open Go Go.Ab Go.Proofs.YtnhelgnmadbpgaaGreatDoor
structure Own (cs : List CaseD) (own : List (Txt × Txt)) : Prop where
  asc : Asc cs
  len : cs.length = own.length
  small : cs.length ≤ 64
  mem : ∀ c ∈ cs, c = mkC c.owner c.id ∧ dget own c.id = some c.owner
  has : ∀ id, hasC cs id = (dget own id).isSome
  who : ∀ id w, dget own id = some w → w ≠ []
  keys : ∀ p ∈ own, p.1.length ≤ 3
theorem case_mem : ∀ {cs : List CaseD}, Asc cs → ∀ {id : Txt}, thereD cs id = true → caseD cs id ∈ cs ∧ (caseD cs id).id = id := by
  intro cs ha id h
  have hlt := thereD_lt h
  unfold caseD
  rw [if_pos h]
  have hg : cs.getD (findD cs id) zeroCase = cs[findD cs id] := by simp [hlt]
  rw [hg]
  refine ⟨List.getElem_mem _, ?_⟩
  unfold thereD at h
  rw [List.getElem?_eq_getElem hlt] at h
  simpa using h
end Go.Bf
namespace Go.Proofs.YtnhelgnmadbpgaaGreatDoor
open Go Go.Ab Go.Bf
end Go.Proofs.YtnhelgnmadbpgaaGreatDoor

set_option linter.unusedSimpArgs false
set_option linter.unusedVariables false
namespace Go.Proofs.YtnhelgnmadbpgaaGreatDoor
open Go Go.Ab Go.Bf
end Go.Proofs.YtnhelgnmadbpgaaGreatDoor

set_option linter.unusedSimpArgs false
set_option linter.unusedVariables false
namespace Go.Proofs.YtnhelgnmadbpgaaGreatDoor
open Go Go.Ab Go.Bf
def Op64 (o : OpD) : Prop := i64 o.kind ∧ i64 o.val.kind ∧ i64 o.val.n ∧ i64 o.review
theorem dat_val' {x : AV} (h : Dat U 38 x) : ∃ v, x = valA v ∧ i64 v.kind ∧ i64 v.n := by
  obtain ⟨ys, rfl, hys⟩ := h.strct_inv (show (U 38).k = .strct [(0, 3), (1, 3), (2, 9)] by simp only [go_sem])
  simp only [List.map_cons, List.map_nil, DatAll] at hys
  obtain ⟨y0, _, rfl, d0, y1, _, rfl, d1, y2, _, rfl, d2, rfl⟩ := hys
  obtain ⟨n, rfl, hn⟩ := d0.i64 (by simp only [go_sem])
  obtain ⟨m, rfl, hm⟩ := d1.i64 (by simp only [go_sem])
  obtain ⟨s, rfl, _⟩ := d2.str_inv (by simp only [go_sem])
  exact ⟨⟨n, m, s⟩, by simp [valA, iA, AV.cells], hn, hm⟩
theorem dat_op {x : AV} (h : Dat U 40 x) : ∃ o, x = opA o ∧ Op64 o := by
  obtain ⟨ys, rfl, hys⟩ := h.strct_inv (show (U 40).k = .strct [(0, 3), (1, 9), (2, 9), (3, 9), (4, 9), (5, 38), (8, 3), (9, 9), (10, 9), (11, 4)] by simp only [go_sem])
  simp only [List.map_cons, List.map_nil, DatAll] at hys
  obtain ⟨y0, _, rfl, d0, y1, _, rfl, d1, y2, _, rfl, d2, y3, _, rfl, d3, y4, _, rfl, d4, y5, _, rfl, d5, y6, _, rfl, d6, y7, _, rfl, d7, y8, _, rfl, d8, y9, _, rfl, d9, rfl⟩ := hys
  obtain ⟨a, rfl, ha⟩ := d0.i64 (by simp only [go_sem])
  obtain ⟨b, rfl, _⟩ := d1.str_inv (by simp only [go_sem])
  obtain ⟨c, rfl, _⟩ := d2.str_inv (by simp only [go_sem])
  obtain ⟨d, rfl, _⟩ := d3.str_inv (by simp only [go_sem])
  obtain ⟨e, rfl, _⟩ := d4.str_inv (by simp only [go_sem])
  obtain ⟨v, rfl, hv1, hv2⟩ := dat_val' d5
  obtain ⟨r, rfl, hr⟩ := d6.i64 (by simp only [go_sem])
  obtain ⟨t, rfl, _⟩ := d7.str_inv (by simp only [go_sem])
  obtain ⟨s, rfl, _⟩ := d8.str_inv (by simp only [go_sem])
  obtain ⟨g, rfl⟩ := d9.bool_inv (by simp only [go_sem])
  exact ⟨⟨a, b, c, d, e, v, r, t, s, g⟩, by simp [opA, opC, valA, iA, AV.cells], ha, hv1, hv2, hr⟩
theorem inH {P : Program} {f : FuncId} {args : List AV} {h : Heap} {Q : AV → Heap → Prop} (hh : ∀ H2, H2 = h → FnOK P f args H2 Q) : FnOK P f args h Q := hh h rfl
end Go.Proofs.YtnhelgnmadbpgaaGreatDoor

set_option linter.unusedSimpArgs false
set_option linter.unusedVariables false
namespace Go.Bf
open Go Go.Ab Go.Proofs.YtnhelgnmadbpgaaGreatDoor
def intV (v : Int) : ValD := ⟨2, v, []⟩
structure Last (fs : List FieldD) (last : List (Txt × Int)) : Prop where
  asc : AscF fs
  len : fs.length = last.length
  small : fs.length ≤ 16
  kind : ∀ f ∈ fs, f.val.kind = 2
  get : ∀ n, fieldD fs n = ((dget last n).map intV).getD zeroVal
  keys : ∀ p ∈ last, p.1.length = 2
end Go.Bf
namespace Go.Proofs.YtnhelgnmadbpgaaGreatDoor
open Go Go.Ab Go.Bf
end Go.Proofs.YtnhelgnmadbpgaaGreatDoor

set_option linter.unusedVariables false
namespace Go.Bf
open Go Go.Ab
def Fine (n : Nat) (st : PS) : Prop := (st.bad = 0 ∨ st.bad = 5 ∨ st.bad = 6) ∧ 0 ≤ st.place ∧ st.place ≤ n
def InText (n : Nat) (ts : List TokD) : Prop := ∀ i, 0 ≤ (ts.getD i ⟨7, 0, 0, []⟩).pos ∧ (ts.getD i ⟨7, 0, 0, []⟩).pos ≤ n
theorem fine_wrong {n : Nat} {st : PS} {e p : Int} (h : Fine n st) (he : e = 5 ∨ e = 6) (h0 : 0 ≤ p) (h1 : p ≤ n) : Fine n (wrongD st e p) := by
  unfold wrongD; split
  · exact ⟨.inr he, h0, h1⟩
  · exact h
theorem fine_rch {n : Nat} {a b : PS} (h : Rch a b) (ht : InText n a.ts) (hf : Fine n a) : Fine n b := by
  induction h with
  | refl => exact hf
  | wrong e p h1 he hp ih =>
    obtain ⟨i, _, rfl⟩ := hp
    rw [(rch_pos h1).1]
    exact fine_wrong ih he (ht i).1 (ht i).2
  | next _ _ _ ih => exact ih
theorem rchR_ts {a b : PS} (h : RchR a b) : b.ts = a.ts := by
  induction h with
  | refl => rfl
  | small _ h1 ih => exact (rch_pos h1).1.trans ih
  | rule _ _ _ _ ih => exact ih
theorem fine_rchR {n : Nat} {a b : PS} (h : RchR a b) (ht : InText n a.ts) (hf : Fine n a) : Fine n b := by
  induction h with
  | refl => exact hf
  | small h1 h2 ih => exact fine_rch h2 (by rw [rchR_ts h1]; exact ht) ih
  | rule _ _ _ _ ih => exact ih
theorem inText_lex {s : Txt} {ts : List TokD} (h : lexD s = .ok ts) : InText s.length ts := by
  obtain ⟨pre, rfl, _, h3, _⟩ := lexD_form h
  intro i
  rw [List.getD_eq_getElem?_getD]
  by_cases hi : i < pre.length
  · rw [List.getElem?_append_left hi, List.getElem?_eq_getElem hi]
    have := h3 _ (List.getElem_mem hi)
    exact ⟨this.1, by simp only [Option.getD_some]; omega⟩
  · rw [List.getElem?_append_right (by omega)]
    by_cases h0 : i - pre.length = 0
    · rw [h0]; simp
    · rw [List.getElem?_eq_none (by simp; omega)]; simp
theorem fine_end {s : Txt} {ts : List TokD} (h : lexD s = .ok ts) : Fine s.length (endP s (polF 4 ⟨ts, 0, 0, 0, 0⟩)) := by
  have h0 : Fine s.length ⟨ts, 0, 0, 0, 0⟩ := ⟨.inl rfl, Int.le_refl _, by show (0 : Int) ≤ _; omega⟩
  have hr := rch_pol 4 ⟨ts, 0, 0, 0, 0⟩
  have h1 := fine_rchR hr (inText_lex h) h0
  have ht : InText s.length (polF 4 ⟨ts, 0, 0, 0, 0⟩).2.ts := by rw [rchR_ts hr]; exact inText_lex h
  have h2 : Fine s.length (if (hereD (polF 4 ⟨ts, 0, 0, 0, 0⟩).2).kind = 7 then (polF 4 ⟨ts, 0, 0, 0, 0⟩).2 else stuckD (polF 4 ⟨ts, 0, 0, 0, 0⟩).2) := by
    split
    · exact h1
    · exact fine_rch (rch_stuck _) ht h1
  unfold endP
  generalize (if (hereD (polF 4 ⟨ts, 0, 0, 0, 0⟩).2).kind = 7 then (polF 4 ⟨ts, 0, 0, 0, 0⟩).2 else stuckD (polF 4 ⟨ts, 0, 0, 0, 0⟩).2) = st1 at h2 ⊢
  split
  · exact fine_wrong h2 (.inl rfl) (by omega) (Int.le_refl _)
  · exact h2
theorem parseD_fine (s : Txt) : (parseD s).2.1 = 0 ∧ (parseD s).2.2 = 0 ∧ rightE (parseD s).1 = 0 ∨
    ((parseD s).2.1 = 5 ∨ (parseD s).2.1 = 6) ∧ 0 ≤ (parseD s).2.2 ∧ (parseD s).2.2 ≤ s.length ∧ (parseD s).1 = zeroP := by
  unfold parseD
  cases h : lexD s with
  | bad e a =>
    have := lexD_bad h
    exact .inr ⟨this.1, this.2.1, this.2.2, rfl⟩
  | ok ts =>
    have hf := fine_end h
    simp only [parseT]
    split
    · rename_i hb
      refine .inl ⟨rfl, rfl, ?_⟩
      simp only
      unfold endP at hb
      generalize (if (hereD (polF 4 ⟨ts, 0, 0, 0, 0⟩).2).kind = 7 then (polF 4 ⟨ts, 0, 0, 0, 0⟩).2 else stuckD (polF 4 ⟨ts, 0, 0, 0, 0⟩).2) = st1 at hb
      split at hb
      · rename_i hc
        unfold wrongD at hb
        rw [if_pos hc.1] at hb
        exact absurd hb (by show ¬ (5 : Int) = 0; decide)
      · rename_i hc
        exact Classical.byContradiction fun hn => hc ⟨hb, hn⟩
    · rename_i hb
      exact .inr ⟨hf.1.resolve_left hb, hf.2.1, hf.2.2, rfl⟩
end Go.Bf

set_option linter.unusedSimpArgs false
set_option linter.unusedVariables false
namespace Go.Bf
open Go Go.Ab Go.Proofs.YtnhelgnmadbpgaaGreatDoor
theorem rightE_polE {p : PolD} (h : rightE p = 0) : polE 1 p := by
  cases hw : polW ⟨[], 0⟩ 1 p with
  | bad e =>
    have := polW_bad 4 1 _ _ e rfl hw
    rw [rightE, hw] at h
    exact (this h).elim
  | ok m => exact polW_ok _ _ _ _ hw
theorem any_nz {fs : List FieldD} (h : ∀ f ∈ fs, eqV f.val zeroVal = false) (n : Txt) : (fs.any fun f => f.name == n) = !(eqV (fieldD fs n) zeroVal) := by
  induction fs with
  | nil => rfl
  | cons f fs ih =>
    rw [field_cons, List.any_cons]
    by_cases e : f.name = n
    · rw [if_pos e, h f (List.mem_cons_self ..)]
      simp [e]
    · rw [if_neg e]
      have e' : (f.name == n) = false := by simpa using e
      rw [e', Bool.false_or]
      exact ih fun g hg => h g (List.mem_cons_of_mem _ hg)
structure CaseOK (c : CaseD) : Prop where
  id : nameOK c.id = true
  owner : nameOK c.owner = true
  state : c.state ∈ states4
  asc : AscF c.fields
  nfields : c.fields.length ≤ 16
  field : ∀ f ∈ c.fields, nameOK f.name = true ∧ valOK f.val = true ∧ eqV f.val zeroVal = false
  log1 : 1 ≤ c.log.length
  log2 : c.log.length ≤ 256
  actor : ∀ x ∈ c.log, nameOK x.actor = true ∧ i64 x.tick
structure StoreOK (k : Nat) (s : StoreD) : Prop where
  tick : 0 ≤ s.tick ∧ s.tick ≤ 1099511627776
  asc : Asc s.cases
  ncases : s.cases.length ≤ 64
  case : ∀ c ∈ s.cases, CaseOK c
  nrev : s.reviews.length ≤ 1000
  nnot : s.notices.length ≤ 1000
  roles : s.roles.length ≤ 64
  role : ∀ r ∈ s.roles, nameOK r.subj = true ∧ nameOK r.role = true
  pol : rightE s.policy = 0
  ver : 0 ≤ s.version ∧ s.version ≤ k
theorem StoreOK.few {k : Nat} {s : StoreD} (h : StoreOK k s) : Few s := by
  have h1 := h.ncases
  have h2 := h.nrev
  have h3 := h.nnot
  have h4 := h.roles
  refine ⟨by omega, fun c hc => ?_, fun c hc => ?_, by omega, by omega, by omega⟩
  · have := (h.case c hc).nfields; omega
  · have := (h.case c hc).log2; omega
theorem StoreOK.polE {k : Nat} {s : StoreD} (h : StoreOK k s) : polE 1 s.policy := rightE_polE h.pol
theorem StoreOK.tick64 {k : Nat} {s : StoreD} (h : StoreOK k s) : i64 s.tick := by
  have := h.tick
  constructor <;> omega
theorem store_new : StoreOK 0 newD := by
  refine ⟨by decide, .nil, by decide, fun c h => (by cases h), by decide, by decide, by decide, fun r h => (by cases h), by kernel_rfl, by decide⟩
theorem empty_name {s : Txt} (h : emptyD s = true) (hn : s ≠ []) : nameOK s = true := by
  simp only [emptyD, Bool.or_eq_true, beq_iff_eq] at h
  exact h.resolve_left hn
structure FormOK (o : OpD) : Prop where
  subj : nameOK o.subj = true
  kind : 1 ≤ o.kind ∧ o.kind ≤ 8
  case : emptyD o.case = true
  field : emptyD o.field = true
  to : emptyD o.to = true
  val : eqV o.val zeroVal = true ∨ valOK o.val = true
  text : o.text.length ≤ 4096
  ok : okD o = true
theorem form_ok' {o : OpD} (h : formD o = true) : FormOK o := by
  simp only [formD, Bool.and_eq_true, decide_eq_true_eq, Bool.or_eq_true, takesD] at h
  obtain ⟨⟨⟨⟨⟨⟨⟨h1, h2⟩, h3⟩, h4⟩, h5⟩, h6⟩, h7⟩, ⟨⟨h8, h9⟩, h10⟩, h11⟩ := h
  exact ⟨h1, ⟨h8, h9⟩, h4, h5, h6, h7, h3, h10⟩
theorem follows_states {a b : Txt} (h : followsD a b = true) : b ∈ states4 := by
  unfold followsD at h
  simp only [states4, List.mem_cons, List.not_mem_nil, or_false]
  split at h
  · exact .inr (.inl (by simpa using h))
  · split at h
    · exact .inr (.inr (.inl (by simpa using h)))
    · split at h
      · simp only [Bool.or_eq_true, beq_iff_eq] at h
        rcases h with h | h
        · exact .inr (.inl h)
        · exact .inr (.inr (.inr h))
      · cases h
theorem mem_modify {α : Type} {l : List α} {i : Nat} {f : α → α} {x : α} (h : x ∈ l.modify i f) : x ∈ l ∨ ∃ hi : i < l.length, x = f l[i] := by
  obtain ⟨j, hj, rfl⟩ := List.mem_iff_getElem.1 h
  have hj' : j < l.length := by simpa using hj
  rw [List.getElem_modify]
  split
  · rename_i e; subst e; exact .inr ⟨hj', rfl⟩
  · exact .inl (List.getElem_mem hj')
theorem map_modify {α β : Type} {l : List α} {i : Nat} {f : α → α} {g : α → β} (h : ∀ x, g (f x) = g x) : (l.modify i f).map g = l.map g := by
  refine List.ext_getElem (by simp) fun j h1 h2 => ?_
  simp only [List.getElem_map, List.getElem_modify]
  split
  · exact h _
  · rfl
theorem asc_map {cs cs' : List CaseD} (h : cs'.map (·.id) = cs.map (·.id)) (ha : Asc cs) : Asc cs' := by
  unfold Asc at *
  have h1 : (cs.map (·.id)).Pairwise lt := by rw [List.pairwise_map]; exact ha
  rw [← h, List.pairwise_map] at h1
  exact h1
theorem mem_ins {cs : List CaseD} {i : Nat} {c d : CaseD} (h : d ∈ cs.take i ++ [c] ++ cs.drop i) : d = c ∨ d ∈ cs := by
  simp only [List.mem_append, List.mem_singleton] at h
  rcases h with (h | h) | h
  · exact .inr (List.mem_of_mem_take h)
  · exact .inl h
  · exact .inr (List.mem_of_mem_drop h)
theorem store_do {k : Nat} {s : StoreD} {o : OpD} (hs : StoreOK k s) (hr : readyD s o = 0) : StoreOK (k + 1) (doD parseD s o) := by
  have hf : formD o = true := by
    unfold readyD at hr
    cases h : formD o with
    | true => rfl
    | false => rw [h] at hr; simp at hr
  have F := form_ok' hf
  have vk : 0 ≤ s.version ∧ s.version ≤ ((k + 1 : Nat) : Int) := ⟨hs.ver.1, by have := hs.ver.2; omega⟩
  unfold readyD at hr
  rw [hf] at hr
  simp only [Bool.true_eq_false, if_false] at hr
  have hok := F.ok
  unfold okD at hok
  have t64 := hs.tick64
  unfold doD
  by_cases k1 : o.kind = 1
  · simp only [k1, if_true] at hr hok ⊢
    have hno : thereD s.cases o.case = false := by
      cases h : thereD s.cases o.case with
      | false => rfl
      | true => rw [h] at hr; simp at hr
    rw [hno] at hr
    simp only [Bool.false_eq_true, if_false] at hr
    have hlt : ¬ 64 ≤ s.cases.length := fun h => by simp [h] at hr
    have hc : nameOK o.case = true := empty_name F.case (by simpa using hok)
    rw [there_iff hs.asc] at hno
    refine { hs with asc := ?_, ncases := ?_, case := ?_, ver := vk }
    · exact asc_ins hs.asc (hapD s ⟨o.case, o.subj, openT, [], []⟩ o.subj [110, 101, 119]) hno
    · have : findD s.cases o.case ≤ s.cases.length := List.findIdx_le_length
      simp; omega
    · intro c h
      rcases mem_ins h with rfl | h
      · exact ⟨hc, F.subj, by simp [hapD, states4], .nil, by simp [hapD], fun f h => (by cases h), by simp [hapD], by simp [hapD], fun x h => by
          simp only [hapD, List.nil_append, List.mem_singleton] at h
          subst h
          exact ⟨F.subj, t64⟩⟩
      · exact hs.case c h
  · simp only [k1, if_false] at hr hok ⊢
    by_cases k3 : o.kind = 3
    · have hk : 2 ≤ o.kind ∧ o.kind ≤ 4 := by omega
      simp only [hk, and_self, if_true] at hr
      simp only [k3, if_true]
      have e2 : ¬ (o.kind = 2 ∨ o.kind = 6) := by omega
      simp only [k3, if_true, show ¬ ((3 : Int) = 2 ∨ (3 : Int) = 6) by decide, if_false, Bool.and_eq_true, Bool.not_eq_true'] at hok
      have hth : thereD s.cases o.case = true := by
        unfold readyCaseD at hr
        cases h : thereD s.cases o.case with
        | true => rfl
        | false => rw [h] at hr; simp at hr
      unfold readyCaseD at hr
      rw [hth] at hr
      simp only [Bool.true_eq_false, if_false, k3, true_and] at hr
      obtain ⟨hm, hid⟩ := case_mem hs.asc hth
      have hlt := thereD_lt hth
      have hce : caseD s.cases o.case = s.cases[findD s.cases o.case] := by
        unfold caseD; rw [if_pos hth]; simp [hlt]
      rw [hce] at hr hm
      generalize hcc : s.cases[findD s.cases o.case] = c at hr hm
      have hc := hs.case c hm
      have h16 : ¬ (c.fields.length ≥ 16 ∧ eqV (fieldD c.fields o.field) zeroVal = true) := fun h => by simp [h.1, h.2] at hr
      rw [if_neg h16] at hr
      have hlg : ¬ c.log.length ≥ 256 := fun h => by simp [h] at hr
      have hnf : nameOK o.field = true := empty_name F.field (by simpa using hok.1.2)
      have hvz : eqV o.val zeroVal = false := hok.2
      have hv : valOK o.val = true := F.val.resolve_left (by rw [hvz]; simp)
      refine { hs with asc := ?_, ncases := ?_, case := ?_, ver := vk }
      · exact asc_map (map_modify fun x => rfl) hs.asc
      · simpa using hs.ncases
      · intro d hd
        rcases mem_modify hd with hd | ⟨hi, rfl⟩
        · exact hs.case d hd
        · rw [hcc]
          have hany := any_nz (fun f hf => (hc.field f hf).2.2) o.field
          have hlen := write_len (v := o.val) (name := o.field) hc.asc
          refine ⟨hc.id, hc.owner, hc.state, write_asc hc.asc, ?_, ?_, by simp [hapD], ?_, ?_⟩
          · simp only [hapD]
            rw [hlen, hany]
            have := hc.nfields
            cases he : eqV (fieldD c.fields o.field) zeroVal
            · simp; omega
            · rw [he] at h16; simp at h16 ⊢; omega
          · intro f hf
            rcases write_mem hf with rfl | hf
            · exact ⟨hnf, hv, hvz⟩
            · exact hc.field f hf
          · simp only [hapD, List.length_append, List.length_singleton]; omega
          · intro x hx
            simp only [hapD, List.mem_append, List.mem_singleton] at hx
            rcases hx with hx | rfl
            · exact hc.actor x hx
            · exact ⟨F.subj, t64⟩
    · simp only [k3, if_false] at hok ⊢
      by_cases k4 : o.kind = 4
      · have hk : 2 ≤ o.kind ∧ o.kind ≤ 4 := by omega
        simp only [hk, and_self, if_true] at hr
        simp only [k4, if_true]
        have hth : thereD s.cases o.case = true := by
          unfold readyCaseD at hr
          cases h : thereD s.cases o.case with
          | true => rfl
          | false => rw [h] at hr; simp at hr
        unfold readyCaseD at hr
        rw [hth] at hr
        simp only [Bool.true_eq_false, if_false, k4] at hr
        obtain ⟨hm, hid⟩ := case_mem hs.asc hth
        have hlt := thereD_lt hth
        have hce : caseD s.cases o.case = s.cases[findD s.cases o.case] := by
          unfold caseD; rw [if_pos hth]; simp [hlt]
        rw [hce] at hr hm
        generalize hcc : s.cases[findD s.cases o.case] = c at hr hm
        have hc := hs.case c hm
        simp only [show ¬ ((4 : Int) = 3) by decide, false_and, if_false, show ((4 : Int) ≠ 2) by decide, ne_eq, not_false_eq_true, true_and, false_or] at hr
        have hlg : ¬ c.log.length ≥ 256 := fun h => by simp [h] at hr
        rw [if_neg hlg] at hr
        have hfo : followsD c.state o.to = true := by
          cases h : followsD c.state o.to with
          | true => rfl
          | false => rw [h] at hr; simp at hr
        refine { hs with asc := ?_, ncases := ?_, case := ?_, ver := vk }
        · exact asc_map (map_modify fun x => rfl) hs.asc
        · simpa using hs.ncases
        · intro d hd
          rcases mem_modify hd with hd | ⟨hi, rfl⟩
          · exact hs.case d hd
          · rw [hcc]
            refine ⟨hc.id, hc.owner, follows_states hfo, hc.asc, hc.nfields, hc.field, by simp [hapD], ?_, ?_⟩
            · simp only [hapD, List.length_append, List.length_singleton]; omega
            · intro x hx
              simp only [hapD, List.mem_append, List.mem_singleton] at hx
              rcases hx with hx | rfl
              · exact hc.actor x hx
              · exact ⟨F.subj, t64⟩
      · simp only [k4, if_false] at hok ⊢
        by_cases k5 : o.kind = 5
        · simp only [k5, if_true]
          refine { hs with nrev := ?_, ver := vk }
          simpa using hs.nrev
        · simp only [k5, if_false] at hok ⊢
          by_cases k6 : o.kind = 6
          · have hk : ¬ (2 ≤ o.kind ∧ o.kind ≤ 4) := by omega
            simp only [hk, k5, k6, if_false, if_true] at hr
            simp only [k6, if_true]
            simp only [k6, or_true, if_true, Bool.and_eq_true] at hok
            have hc : nameOK o.case = true := empty_name F.case (by simpa using hok.1)
            have hfd : nameOK o.field = true := empty_name F.field (by simpa using hok.2)
            cases hh : hasD s.roles ⟨o.case, o.field⟩ with
            | true => simp only [if_true]; exact { hs with ver := vk }
            | false =>
              rw [hh] at hr
              have hlt : ¬ s.roles.length ≥ 64 := fun h => by simp [h] at hr
              simp only [Bool.false_eq_true, if_false]
              refine { hs with roles := ?_, role := ?_, ver := vk }
              · simp only [List.length_append, List.length_singleton]; omega
              · intro r h
                rcases List.mem_append.1 h with h | h
                · exact hs.role r h
                · rw [List.mem_singleton.1 h]; exact ⟨hc, hfd⟩
          · simp only [k6, if_false]
            by_cases k7 : o.kind = 7
            · simp only [k7, if_true]
              by_cases hp : (parseD o.text).2.1 = 0
              · simp only [hp, if_true]
                have hr0 : rightE (parseD o.text).1 = 0 := by
                  rcases parseD_fine o.text with h | h
                  · exact h.2.2
                  · have := h.1; exact absurd hp (by simp_all)
                refine { hs with pol := hr0, ver := ?_ }
                have := hs.ver
                constructor
                · show 0 ≤ s.version + 1; omega
                · show s.version + 1 ≤ _; omega
              · simp only [hp, if_false]
                exact { hs with ver := vk }
            · simp only [k7, if_false]
              by_cases k8 : o.kind = 8
              · simp only [k8, if_true]
                have hk : ¬ (2 ≤ o.kind ∧ o.kind ≤ 4) := by omega
                simp only [hk, k5, k6, k8, if_false, if_true] at hr
                have hlt : ¬ s.tick > 1099511627776 - o.review := fun h => by simp [h] at hr
                simp only [k8, show ¬ ((8 : Int) = 2 ∨ (8 : Int) = 6) by decide, if_false, if_true, Bool.and_eq_true, decide_eq_true_eq] at hok
                refine { hs with tick := ?_, ver := vk }
                have := hs.tick
                constructor
                · show 0 ≤ s.tick + o.review; omega
                · show s.tick + o.review ≤ _; omega
              · simp only [k8, if_false]
                exact { hs with ver := vk }
theorem store_done {k : Nat} {s : StoreD} (o : OpD) (hs : StoreOK k s) : StoreOK (k + 1) (doneD parseD s o) := by
  unfold doneD
  by_cases h : readyD s o = 0
  · rw [if_pos h]; exact store_do hs h
  · rw [if_neg h]
    exact { hs with ver := ⟨hs.ver.1, by have := hs.ver.2; omega⟩ }
end Go.Bf
namespace Go.Proofs.YtnhelgnmadbpgaaGreatDoor
open Go Go.Ab Go.Bf
end Go.Proofs.YtnhelgnmadbpgaaGreatDoor

set_option linter.unusedSimpArgs false
set_option linter.unusedVariables false
namespace Go.Bf
open Go Go.Ab Go.Proofs.YtnhelgnmadbpgaaGreatDoor
def eqCaseD (a b : CaseD) : Bool := a.id == b.id && (a.owner == b.owner && (a.state == b.state && (eqL eqFieldD a.fields b.fields && eqL eqHapD a.log b.log)))
def opsD (l : List OpD) (n : Nat) : List OpD := (l.take n).map opkD
theorem IdxE.eq {xs : List AV} {sz : Nat} (j : Nat) (hj : j < xs.length) (hz : xs[j].cells.length = sz) (k : AV → Prop) : IdxE xs (j : Int) sz k = k (.pe xs[j] 0) := propext ⟨fun h => by
  obtain ⟨_, b, hb, _, hk⟩ := h
  have : xs[j]? = some xs[j] := by simp [hj]
  rw [show ((j : Int).toNat) = j by simp, this] at hb
  cases hb
  exact hk, fun h => IdxE.at j hj hz h⟩
end Go.Bf
namespace Go.Proofs.YtnhelgnmadbpgaaGreatDoor
open Go Go.Ab Go.Bf
def CRow (x : AV) (c : CaseD) : Prop := ∃ qf ql, x = .agg [.s c.id, .s c.owner, .s c.state, .sl (c.fields.map fieldA) qf, .sl (c.log.map hapA) ql]
def CRows (xs : List AV) (cs : List CaseD) : Prop := xs.length = cs.length ∧ ∀ i (h1 : i < xs.length) (h2 : i < cs.length), CRow xs[i] cs[i]
theorem crows (cs : List CaseD) : CRows (cs.map caseA) cs := ⟨by simp, fun i h1 h2 => by rw [List.getElem_map]; exact ⟨_, _, rfl⟩⟩
set_option maxRecDepth 100000 in
theorem cases_ok {xs ys : List AV} {cs ds : List CaseD} (h1 : CRows xs cs) (h2 : CRows ys ds) (q1 q2 : Perm) (h : Heap) : FnOK Tryz.prog 28 [.sl xs q1, .sl ys q2] h fun r h' => r = .v (.bool (eqL eqCaseD cs ds)) ∧ h' = h := by
  refine FnOK.body hU hm Tryz.func28 rfl (by kernel_rfl) 82 rfl [.tmp 4] rfl (Nat.le_of_ble_eq_true rfl) (fun hwf => ?_)
  cases d1 : ((xs.length : Int) != (ys.length : Int))
  · have e1 : xs.length = ys.length := by have : (xs.length : Int) = ys.length := by simpa using d1
                                          omega
    have e2 : cs.length = ds.length := by rw [← h1.1, ← h2.1, e1]
    simp -implicitDefEqProofs only [go_sem, d1]
    refine LoopC.wf fun hw => ?_
    have hxl := hw 11 (.sl xs q1) (by simp -implicitDefEqProofs only [go_sem])
    simp only [wfA, wf1, lim] at hxl
    refine .intro (fun m ρ h' => h' = h ∧ ∃ i : Nat, i ≤ xs.length ∧ m = xs.length - i ∧ (∀ j (a : j < cs.length) (b : j < ds.length), j < i → eqCaseD cs[j] ds[j] = true) ∧ lk ρ 0 = some (.sl xs q1) ∧ lk ρ 1 = some (.sl ys q2) ∧ lk ρ 12 = some (.v (.int .i64 xs.length)) ∧ lk ρ 13 = some (.v (.int .i64 i))) xs.length ?_ ?_
    · refine ⟨rfl, 0, by omega, rfl, fun j _ _ hj => (by omega), ?_, ?_, ?_, ?_⟩ <;> simp -implicitDefEqProofs only [go_sem]
    · rintro m ρ h' ⟨rfl, i, hi, rfl, hc, r0, r1, r12, r13⟩
      cases e3 : decide ((i : Int) < (xs.length : Int))
      · have hge : i = xs.length := by have := of_decide_eq_false e3; omega
        simp -implicitDefEqProofs only [go_sem, r0, r1, r12, r13, e3]
        exact .same (.refl _) ⟨by rw [eqL_true e2 fun j a b => hc j a b (by rw [hge, h1.1]; exact a)]; rfl, rfl⟩
      · have hlt : i < xs.length := Int.ofNat_lt.1 (of_decide_eq_true e3)
        have hlt2 : i < ys.length := by omega
        have hlt3 : i < cs.length := by rw [← h1.1]; exact hlt
        have hlt4 : i < ds.length := by rw [← h2.1]; exact hlt2
        have w1 : IntKind.i64.wrap ((i : Int) + 1) = ((i + 1 : Nat) : Int) := by rw [wr64 _ (by omega)]; omega
        obtain ⟨qf, ql, ex⟩ := h1.2 i hlt hlt3
        obtain ⟨qf', ql', ey⟩ := h2.2 i hlt2 hlt4
        have ix := fun k => IdxE.eq (sz := 5) i hlt (by rw [ex]; rfl) k
        have iy := fun k => IdxE.eq (sz := 5) i hlt2 (by rw [ey]; rfl) k
        rw [ex] at ix
        rw [ey] at iy
        have hno : eqCaseD cs[i] ds[i] = false → eqL eqCaseD cs ds = false := fun e => eqL_at i hlt3 hlt4 e
        have hdef : eqCaseD cs[i] ds[i] = (cs[i].id == ds[i].id && (cs[i].owner == ds[i].owner && (cs[i].state == ds[i].state && (eqL eqFieldD cs[i].fields ds[i].fields && eqL eqHapD cs[i].log ds[i].log)))) := rfl
        have hst := hc
        obtain ⟨c, ec⟩ : ∃ c, cs[i] = c := ⟨_, rfl⟩
        obtain ⟨d, ed⟩ : ∃ d, ds[i] = d := ⟨_, rfl⟩
        rw [ec, ed] at hdef hno
        rw [ec] at ix
        rw [ed] at iy
        simp -implicitDefEqProofs only [go_sem, r0, r1, r12, r13, e3, ix, iy, and_self, if_false]
        simp only [List.append]
        simp -implicitDefEqProofs only [go_sem, r0, r1, r12, r13, ix, iy, and_self, if_false]
        refine .quiet (by kernel_rfl) ?_
        simp -implicitDefEqProofs only [go_sem, r0, r1, r12, r13, ix, iy, and_self, if_false]
        cases a1 : (c.id == d.id)
        case false =>
          simp -implicitDefEqProofs only [go_sem, r0, r1, r12, r13, a1]
          exact .same (.refl _) ⟨by rw [hno (by rw [hdef, a1]; rfl)]; rfl, rfl⟩
        simp -implicitDefEqProofs only [go_sem, r0, r1, r12, r13, a1, ix, iy, and_self, if_false]
        cases a2 : (c.owner == d.owner)
        case false =>
          simp -implicitDefEqProofs only [go_sem, r0, r1, r12, r13, a1, a2]
          exact .same (.refl _) ⟨by rw [hno (by rw [hdef, a1, a2]; rfl)]; rfl, rfl⟩
        simp -implicitDefEqProofs only [go_sem, r0, r1, r12, r13, a1, a2, ix, iy, and_self, if_false]
        cases a3 : (c.state == d.state)
        case false =>
          simp -implicitDefEqProofs only [go_sem, r0, r1, r12, r13, a1, a2, a3]
          exact .same (.refl _) ⟨by rw [hno (by rw [hdef, a1, a2, a3]; rfl)]; rfl, rfl⟩
        simp -implicitDefEqProofs only [go_sem, r0, r1, r12, r13, a1, a2, a3, ix, iy, and_self, if_false]
        refine ⟨_, sameField_ok c.fields d.fields qf qf' _, ?_⟩
        cases a4 : eqL eqFieldD c.fields d.fields
        · simp -implicitDefEqProofs only [go_sem, r0, r1, r12, r13, a1, a2, a3, a4]
          exact .same (.refl _) ⟨by rw [hno (by rw [hdef, a1, a2, a3, a4]; rfl)]; rfl, rfl⟩
        simp -implicitDefEqProofs only [go_sem, r0, r1, r12, r13, a1, a2, a3, a4, ix, iy, and_self, if_false]
        refine ⟨_, sameHap_ok c.log d.log ql ql' _, ?_⟩
        cases a5 : eqL eqHapD c.log d.log
        · simp -implicitDefEqProofs only [go_sem, r0, r1, r12, r13, a1, a2, a3, a4, a5]
          exact .same (.refl _) ⟨by rw [hno (by rw [hdef, a1, a2, a3, a4, a5]; rfl)]; rfl, rfl⟩
        simp -implicitDefEqProofs only [go_sem, r0, r1, r12, r13, a1, a2, a3, a4, a5, w1]
        refine ⟨_, ?_, rfl, i + 1, by omega, rfl, fun j a b hj => ?_, ?_, ?_, ?_, ?_⟩
        · omega
        · by_cases hji : j = i
          · subst hji; rw [ec, ed, hdef, a1, a2, a3, a4, a5]; rfl
          · exact hc j a b (by omega)
        all_goals simp -implicitDefEqProofs only [go_sem, r0, r1, r12, r13, w1]
  · have e2 : cs.length ≠ ds.length := by
      rw [← h1.1, ← h2.1]
      intro e; rw [e] at d1; simp at d1
    simp -implicitDefEqProofs only [go_sem, d1]
    exact .same (.refl _) ⟨by rw [eqL_len e2]; rfl, rfl⟩
theorem ops_ok (l : List OpD) (n : Nat) (hn : n ≤ 1000) (h : Heap) : FnOK Tryz.prog 18 [.sl (l.map opA) .no, .v (.int .i64 n)] h fun r h' => r = .sl ((opsD l n).map opA) .no ∧ h' = h := by
  refine FnOK.body hU hm Tryz.func18 rfl (by kernel_rfl) 27 rfl [.tmp 4] rfl (Nat.le_of_ble_eq_true rfl) (fun hwf => ?_)
  simp -implicitDefEqProofs only [go_sem]
  have hsz : (U 40).sz = 12 := by simp only [go_sem]
  refine LoopC.wf fun hw => ?_
  refine .intro (fun m ρ H => ∃ (i : Nat) (y : AV), Acc U 40 h H y ((opsD (l.take i) n).map opA) ∧ i ≤ l.length ∧ i ≤ n ∧ m = l.length - i ∧ lk ρ 0 = some (.sl (l.map opA) .no) ∧ lk ρ 1 = some (.v (.int .i64 n)) ∧ lk ρ 5 = some y ∧ lk ρ 6 = some (.v (.int .i64 i))) l.length ?_ ?_
  · refine ⟨0, .sl [] .full, by simpa [opsD] using Acc.full (.refl _), by omega, by omega, rfl, ?_, ?_, ?_, ?_⟩ <;> simp -implicitDefEqProofs only [go_sem]
  · rintro m ρ H ⟨i, y, hy, hi, hin, rfl, r0, r1, r5, r6⟩
    obtain ⟨q, eq⟩ := hy.row
    subst eq
    by_cases hgo : i < l.length ∧ i < n
    · have d1 : decide ((i : Int) < (l.length : Int)) = true := decide_eq_true (by omega)
      have d2 : decide ((i : Int) < (n : Int)) = true := decide_eq_true (by omega)
      have w1 : IntKind.i64.wrap ((i : Int) + 1) = ((i + 1 : Nat) : Int) := by rw [wr64 _ (by omega)]; omega
      have hsn : opsD (l.take (i + 1)) n = opsD (l.take i) n ++ [opkD l[i]] := by
        unfold opsD
        rw [List.take_take, List.take_take, Nat.min_eq_right (by omega), Nat.min_eq_right (by omega), ← List.take_append_getElem hgo.1]
        simp only [List.map_append, List.map_cons, List.map_nil]
      simp -implicitDefEqProofs only [go_sem, r0, r1, r5, r6, List.length_map, d1, d2]
      refine .at i (by simpa using hgo.1) (by rw [List.getElem_map]; rfl) ?_
      have hok := fun (G : Heap) => opk_ok l[i] G
      simp only [opA, opC] at hok
      simp -implicitDefEqProofs only [go_sem, r0, r1, r5, r6, List.getElem_map, opA, opC]
      refine (hok _).pthen ?_
      simp -implicitDefEqProofs only [go_sem, r0, r1, r5, r6]
      refine Acc.app hy (zs := [opA (opkD l[i])]) (by rw [hsz]; decide) (by simp only [go_sem, ne_eq, not_false_eq_true]) (fun k hk => hk) (by rw [hsz]; exact sized_map (f := opA) (fun _ => rfl) _) (by rw [hsz]; intro z hz; rw [List.mem_singleton.1 hz]; rfl) (by simp only [go_sem, opsD, List.length_append, List.length_map, List.length_take, List.length_cons, List.length_nil] <;> omega) fun yz Gz hyz kpz => ?_
      simp -implicitDefEqProofs only [go_sem, r0, r1, r5, r6, w1]
      refine ⟨_, ?_, i + 1, yz, by rw [hsn, List.map_append]; exact hyz, by omega, by omega, rfl, ?_, ?_, ?_, ?_⟩
      · omega
      all_goals simp -implicitDefEqProofs only [go_sem, r0, r1, r5, r6, w1]
    · have hall : opsD (l.take i) n = opsD l n := by
        unfold opsD
        rcases Nat.lt_or_ge i l.length with hlt | hge
        · have : i = n := by
            rcases Nat.lt_or_ge i n with h2 | h2
            · exact (hgo ⟨hlt, h2⟩).elim
            · omega
          subst this
          rw [List.take_take, Nat.min_self]
        · rw [List.take_of_length_le (l := l) hge]
      rw [hall] at hy
      cases d1 : decide ((i : Int) < (l.length : Int))
      · simp -implicitDefEqProofs only [go_sem, r0, r1, r5, r6, List.length_map, d1]
        exact .mk _ (by rw [hall]; exact .sl _ _) hy.1 ⟨rfl, rfl⟩
      · have d2 : decide ((i : Int) < (n : Int)) = false := decide_eq_false fun h3 => hgo ⟨by have := of_decide_eq_true d1; omega, by omega⟩
        simp -implicitDefEqProofs only [go_sem, r0, r1, r5, r6, List.length_map, d1, d2]
        exact .mk _ (by rw [hall]; exact .sl _ _) hy.1 ⟨rfl, rfl⟩
end Go.Proofs.YtnhelgnmadbpgaaGreatDoor

set_option linter.unusedSimpArgs false
set_option linter.unusedVariables false
namespace Go.Bf
open Go Go.Ab Go.Proofs.YtnhelgnmadbpgaaGreatDoor
def BagOK (l : List ValD) : Prop := l.length ≤ 16 ∧ ∀ v ∈ l, valOK v = true ∧ ∀ w ∈ l.head?, v.kind = w.kind
structure AskOK (gs : List GivD) : Prop where
  len : gs.length ≤ 64
  each : ∀ g ∈ gs, 1 ≤ g.cat ∧ g.cat ≤ 4 ∧ nameOK g.name = true ∧ BagOK g.bag
  dist : gs.Pairwise fun a b => isGiv b.cat b.name a = false
end Go.Bf
namespace Go.Proofs.YtnhelgnmadbpgaaGreatDoor
open Go Go.Ab Go.Bf
set_option maxRecDepth 100000 in
theorem bag_ok (l : List ValD) (hb : BagOK l) (q : Perm) (h : Heap) : FnOK Tryz.prog 80 [.sl (l.map valA) q] h fun r h' => r = .v (.bool true) ∧ h' = h := by
  refine FnOK.body hU hm Tryz.func80 rfl (by kernel_rfl) 27 rfl [.tmp 2] rfl (Nat.le_of_ble_eq_true rfl) (fun hwf => ?_)
  simp -implicitDefEqProofs only [go_sem]
  refine .intro (fun m ρ H => Ab.Sub h H ∧ ∃ i : Nat, i ≤ l.length ∧ m = l.length - i ∧ lk ρ 0 = some (.sl (l.map valA) q) ∧ lk ρ 5 = some (.sl (l.map valA) q) ∧ lk ρ 6 = some (.v (.int .i64 l.length)) ∧ lk ρ 7 = some (.v (.int .i64 i))) l.length ?_ ?_
  · refine ⟨.refl _, 0, by omega, rfl, ?_, ?_, ?_, ?_⟩ <;> simp -implicitDefEqProofs only [go_sem, List.length_map]
  · rintro m ρ H ⟨hs, i, hi, rfl, r0, r5, r6, r7⟩
    have hl16 := hb.1
    cases e : decide ((i : Int) < (l.length : Int))
    · have dl : decide ((l.length : Int) ≤ 16) = true := decide_eq_true (by omega)
      simp -implicitDefEqProofs only [go_sem, r0, r5, r6, r7, e, List.length_map, dl]
      exact .mk _ (.refl _) hs ⟨rfl, rfl⟩
    · have hlt : i < l.length := Int.ofNat_lt.1 (of_decide_eq_true e)
      have h0 : 0 < l.length := by omega
      have w1 : IntKind.i64.wrap ((i : Int) + 1) = ((i + 1 : Nat) : Int) := by rw [wr64 _ (by omega)]; omega
      obtain ⟨v, ev⟩ : ∃ v, l[i] = v := ⟨_, rfl⟩
      obtain ⟨w, ew⟩ : ∃ w, l[0] = w := ⟨_, rfl⟩
      obtain ⟨hv, hk⟩ := hb.2 v (by rw [← ev]; exact List.getElem_mem _)
      have hkk := hk w (by rw [← ew]; simp [List.head?_eq_getElem?, h0])
      have ix := fun k => IdxE.eq (xs := l.map valA) (sz := 3) i (by simpa using hlt) (by rw [List.getElem_map]; rfl) k
      have ix0 := fun k => IdxE.eq (xs := l.map valA) (sz := 3) 0 (by simpa using h0) (by rw [List.getElem_map]; rfl) k
      rw [List.getElem_map, ev] at ix
      rw [List.getElem_map, ew] at ix0
      simp only [valA] at ix ix0
      have hvr := fun (G : Heap) => valRight_ok v G
      rw [hv] at hvr
      simp only [valA] at hvr
      simp -implicitDefEqProofs only [go_sem, r0, r5, r6, r7, e, ix]
      intro i4 h4
      simp -implicitDefEqProofs only [go_sem, r0, r5, r6, r7]
      refine .quiet (by kernel_rfl) ?_
      simp -implicitDefEqProofs only [go_sem, r0, r5, r6, r7]
      refine ⟨_, hvr _, ?_⟩
      have ix0' : ∀ k, IdxE (l.map valA) 0 3 k = k (.pe (.agg [.v (.int .i64 w.kind), .v (.int .i64 w.n), .s w.s]) 0) := ix0
      have dk : (v.kind != w.kind) = false := by simp [hkk]
      simp -implicitDefEqProofs only [go_sem, r0, r5, r6, r7, ix0', and_self, if_false, dk, w1]
      refine ⟨_, ?_, hs.trans (.upd_new h4), i + 1, by omega, rfl, ?_, ?_, ?_, ?_⟩
      · omega
      all_goals simp -implicitDefEqProofs only [go_sem, r0, r5, r6, r7, w1]
set_option maxRecDepth 100000 in
theorem askRight_ok (gs : List GivD) (hg : AskOK gs) (h : Heap) : FnOK Tryz.prog 43 [givsA gs] h fun r h' => r = .v (.int .i64 0) ∧ h' = h := by
  have hl64 := hg.len
  refine FnOK.body hU hm Tryz.func43 rfl (by kernel_rfl) 44 rfl [.tmp 2] rfl (Nat.le_of_ble_eq_true rfl) (fun hwf => ?_)
  have d64 : decide ((64 : Int) < (gs.length : Int)) = false := decide_eq_false (by omega)
  simp -implicitDefEqProofs only [go_sem, givsA, List.length_map, d64]
  refine .intro (fun m ρ H => Ab.Sub h H ∧ ∃ i : Nat, i ≤ gs.length ∧ m = gs.length - i ∧ lk ρ 0 = some (.sl (gs.map givA) .no) ∧ lk ρ 8 = some (.sl (gs.map givA) .no) ∧ lk ρ 9 = some (.v (.int .i64 gs.length)) ∧ lk ρ 10 = some (.v (.int .i64 i))) gs.length ?_ ?_
  · refine ⟨.refl _, 0, by omega, rfl, ?_, ?_, ?_, ?_⟩ <;> simp -implicitDefEqProofs only [go_sem, List.length_map]
  · rintro m ρ H ⟨hs, i, hi, rfl, r0, r8, r9, r10⟩
    cases e : decide ((i : Int) < (gs.length : Int))
    · simp -implicitDefEqProofs only [go_sem, r0, r8, r9, r10, e]
      exact .mk _ (.refl _) hs ⟨rfl, rfl⟩
    · have hlt : i < gs.length := Int.ofNat_lt.1 (of_decide_eq_true e)
      have w1 : IntKind.i64.wrap ((i : Int) + 1) = ((i + 1 : Nat) : Int) := by rw [wr64 _ (by omega)]; omega
      obtain ⟨g, eg⟩ : ∃ g, gs[i] = g := ⟨_, rfl⟩
      obtain ⟨c1, c4, hnm, hbg⟩ := hg.each g (by rw [← eg]; exact List.getElem_mem _)
      have ix := fun k => IdxE.eq (xs := gs.map givA) (sz := 3) i (by simpa using hlt) (by rw [List.getElem_map]; rfl) k
      rw [List.getElem_map, eg] at ix
      simp only [givA] at ix
      have hpl := fun (G : Heap) => place_ok gs g.cat g.name (by omega) G
      have hix : ixD (isGiv g.cat g.name) gs = (i : Nat) := ixD_at hlt (by rw [eg]; simp [isGiv]) fun j hj => by
        have := List.pairwise_iff_getElem.1 hg.dist j i (by omega) hlt hj
        rw [eg] at this
        exact this
      rw [hix] at hpl
      simp only [givsA] at hpl
      have d1 : decide (g.cat < 1) = false := decide_eq_false (by omega)
      have d4 : decide (4 < g.cat) = false := decide_eq_false (by omega)
      have dix : decide ((i : Int) < (i : Int)) = false := decide_eq_false (by omega)
      simp -implicitDefEqProofs only [go_sem, r0, r8, r9, r10, e, ix]
      intro i4 h4
      simp -implicitDefEqProofs only [go_sem, r0, r8, r9, r10, d1, d4]
      have hnr := fun (G : Heap) => name_ok g.name G
      rw [hnm] at hnr
      refine (hnr _).pthen ?_
      simp -implicitDefEqProofs only [go_sem, r0, r8, r9, r10, d1, d4]
      refine (bag_ok g.bag hbg .no _).pthen ?_
      simp -implicitDefEqProofs only [go_sem, r0, r8, r9, r10, d1, d4]
      refine (hpl _).pthen ?_
      simp -implicitDefEqProofs only [go_sem, r0, r8, r9, r10, dix, w1]
      refine ⟨_, ?_, hs.trans (.upd_new h4), i + 1, by omega, rfl, ?_, ?_, ?_, ?_⟩
      · omega
      all_goals simp -implicitDefEqProofs only [go_sem, r0, r8, r9, r10, w1]
end Go.Proofs.YtnhelgnmadbpgaaGreatDoor

set_option linter.unusedSimpArgs false
set_option linter.unusedVariables false
namespace Go.Bf
open Go Go.Ab Go.Proofs.YtnhelgnmadbpgaaGreatDoor
def keyG (g : GivD) : Int × Txt := (g.cat, g.name)
theorem dist_iff (gs : List GivD) : (gs.Pairwise fun a b => isGiv b.cat b.name a = false) ↔ (gs.map keyG).Nodup := by
  rw [List.Nodup, List.pairwise_map]
  have : (fun a b : GivD => isGiv b.cat b.name a = false) = fun a b => keyG a ≠ keyG b := by
    funext a b
    simp [isGiv, keyG]
  rw [this]
theorem bag_one {v : ValD} (h : valOK v = true) : BagOK [v] := ⟨by simp, fun w hw => by rw [List.mem_singleton.1 hw]; exact ⟨h, fun u hu => by simp at hu; rw [hu]⟩⟩
theorem id_val {s : Txt} (h : nameOK s = true) : valOK (idV s) = true := by simp [valOK, idV, h]
theorem bag_roles {l : List RoleD} (h : ∀ r ∈ l, nameOK r.role = true) (s : Txt) : BagOK (rolesOf l s) := by
  have hv : ∀ v ∈ rolesOf l s, valOK v = true ∧ v.kind = 5 := fun v hv => by
    have := List.mem_of_mem_take hv
    obtain ⟨r, hr, rfl⟩ := List.mem_map.1 this
    exact ⟨id_val (h r (List.mem_filter.1 hr).1), rfl⟩
  refine ⟨by simp only [rolesOf, List.length_take]; omega, fun v hm => ⟨(hv v hm).1, fun w hw => ?_⟩⟩
  rw [(hv v hm).2, (hv w (List.mem_of_mem_head? hw)).2]
theorem chOK_any {c : UInt8} {i j : Nat} (h : chOK c j = true) (hi : i ≠ 0) : chOK c i = true := by
  simp only [chOK, Bool.or_eq_true, Bool.and_eq_true, decide_eq_true_eq] at h ⊢
  rcases h with h | ⟨_, h⟩
  · exact .inl h
  · exact .inr ⟨hi, h⟩
theorem field_name {n : Txt} (h : nameOK n = true) (hl : n.length ≤ 14) : nameOK ([102, 95] ++ n) = true := by
  simp only [nameOK, Bool.and_eq_true, decide_eq_true_eq] at h ⊢
  obtain ⟨⟨h1, h2⟩, h3⟩ := h
  refine ⟨⟨?_, by simp⟩, by simp; omega⟩
  unfold chsOK at h1 ⊢
  rw [List.all_eq_true] at h1 ⊢
  rintro ⟨c, i⟩ hp
  rw [List.mk_mem_zipIdx_iff_getElem?] at hp
  match i, hp with
  | 0, hp => cases hp; rfl
  | 1, hp => cases hp; rfl
  | i + 2, hp =>
    have hp : n[i]? = some c := by simpa using hp
    exact chOK_any (h1 (c, i) (List.mk_mem_zipIdx_iff_getElem?.2 hp)) (by omega)
theorem state_name {s : Txt} (h : s ∈ states4) : nameOK s = true := by
  simp only [states4, List.mem_cons, List.not_mem_nil, or_false] at h
  rcases h with rfl | rfl | rfl | rfl <;> kernel_rfl
theorem action_name (k : Int) (h : 1 ≤ k ∧ k ≤ 8) : nameOK (actionD k) = true := by
  have : (List.range 9).all (fun n => nameOK (actionD n)) = true := by kernel_rfl
  have h2 := List.all_eq_true.1 this k.toNat (List.mem_range.2 (by omega))
  rwa [show ((k.toNat : Nat) : Int) = k by omega] at h2
theorem took_ok' (l : List HapD) (s : Txt) : valOK (tookD l s) = true := by
  unfold tookD
  cases l.any fun x => x.actor == s <;> rfl
theorem case_each {c : CaseD} (hc : CaseOK c) (s : Txt) : ∀ g ∈ askCaseD c s, g.cat = 3 ∧ nameOK g.name = true ∧ BagOK g.bag := by
  intro g hg
  simp only [askCaseD, List.mem_append, List.mem_cons, List.not_mem_nil, or_false] at hg
  rcases hg with ((rfl | rfl | rfl | rfl | rfl) | hg) | hg
  · exact ⟨rfl, by kernel_rfl, bag_one (id_val hc.id)⟩
  · exact ⟨rfl, by kernel_rfl, bag_one (id_val hc.owner)⟩
  · exact ⟨rfl, by kernel_rfl, bag_one (id_val (state_name hc.state))⟩
  · exact ⟨rfl, by kernel_rfl, bag_one (by simp [valOK])⟩
  · exact ⟨rfl, by kernel_rfl, bag_one (took_ok' _ _)⟩
  · cases hl : c.log.getLast? with
    | none => rw [hl] at hg; cases hg
    | some x =>
      rw [hl] at hg
      rw [List.mem_singleton.1 hg]
      exact ⟨rfl, by kernel_rfl, bag_one (id_val (hc.actor x (List.mem_of_getLast? hl)).1)⟩
  · obtain ⟨f, hf, rfl⟩ := List.mem_map.1 hg
    obtain ⟨hf1, hf2⟩ := List.mem_filter.1 hf
    have hf2 : f.name.length ≤ 14 := by simpa using hf2
    obtain ⟨h1, h2, _⟩ := hc.field f hf1
    exact ⟨rfl, field_name h1 hf2, bag_one h2⟩
theorem case_dist {c : CaseD} (hc : CaseOK c) (s : Txt) : ((askCaseD c s).map keyG).Nodup := by
  have hfn : (((c.fields.filter fun f => decide (f.name.length ≤ 14)).map fun f => (⟨3, [102, 95] ++ f.name, [f.val]⟩ : GivD)).map keyG).Nodup := by
    rw [List.map_map, List.Nodup, List.pairwise_map]
    refine ((List.Pairwise.filter _ hc.asc).imp fun {a b} hab he => ?_)
    simp only [Function.comp, keyG, Prod.mk.injEq, true_and, List.append_cancel_left_eq] at he
    rw [he] at hab
    exact lt_irrefl _ hab
  have hff : ∀ x ∈ ((c.fields.filter fun f => decide (f.name.length ≤ 14)).map fun f => (⟨3, [102, 95] ++ f.name, [f.val]⟩ : GivD)).map keyG, ∃ t, x = (3, 102 :: t) := by
    intro x hx
    obtain ⟨g, hg, rfl⟩ := List.mem_map.1 hx
    obtain ⟨f, hf, rfl⟩ := List.mem_map.1 hg
    exact ⟨_, rfl⟩
  unfold askCaseD
  rw [List.map_append, List.nodup_append]
  refine ⟨?_, hfn, ?_⟩
  · cases c.log.getLast? with
    | none => simp [keyG, idT]
    | some x => simp [keyG, idT]
  · intro a ha b hb
    obtain ⟨t, rfl⟩ := hff b hb
    intro e
    subst e
    cases hl : c.log.getLast? with
    | none =>
      rw [hl] at ha
      simp [keyG, idT] at ha
    | some x =>
      rw [hl] at ha
      simp [keyG, idT] at ha
theorem ask_right {k : Nat} {s : StoreD} {o : OpD} (hs : StoreOK k s) (hf : formD o = true) : AskOK (askD s o) := by
  have F := form_ok' hf
  have hcs : ∀ g ∈ (if thereD s.cases o.case = true ∧ o.kind ≠ 6 then askCaseD (caseD s.cases o.case) o.subj else []), g.cat = 3 ∧ nameOK g.name = true ∧ BagOK g.bag := by
    intro g hg
    split at hg
    · rename_i ht
      exact case_each (hs.case _ (case_mem hs.asc ht.1).1) _ g hg
    · cases hg
  have hcd : ((if thereD s.cases o.case = true ∧ o.kind ≠ 6 then askCaseD (caseD s.cases o.case) o.subj else []).map keyG).Nodup := by
    split
    · rename_i ht
      exact case_dist (hs.case _ (case_mem hs.asc ht.1).1) _
    · exact .nil
  have hcl : (if thereD s.cases o.case = true ∧ o.kind ≠ 6 then askCaseD (caseD s.cases o.case) o.subj else []).length ≤ 22 := by
    split
    · rename_i ht
      have hc := hs.case _ (case_mem hs.asc ht.1).1
      have h16 := hc.nfields
      have : ((caseD s.cases o.case).fields.filter fun f => decide (f.name.length ≤ 14)).length ≤ (caseD s.cases o.case).fields.length := List.length_filter_le _ _
      simp only [askCaseD, List.length_append, List.length_map, List.length_cons, List.length_nil]
      cases (caseD s.cases o.case).log.getLast? <;> simp <;> omega
    · simp
  unfold askD
  generalize (if thereD s.cases o.case = true ∧ o.kind ≠ 6 then askCaseD (caseD s.cases o.case) o.subj else []) = C at hcs hcd hcl ⊢
  have e1 : (if o.field = [] then [] else [(⟨2, [102, 105, 101, 108, 100], [idV o.field]⟩ : GivD)]) = if o.field = [] then [] else [(⟨2, [102, 105, 101, 108, 100], [idV o.field]⟩ : GivD)] := rfl
  have hro : BagOK (rolesOf s.roles o.subj) := bag_roles (fun r hr => (hs.role r hr).2) _
  have htk : valOK ⟨4, s.tick, []⟩ = true := by
    have := hs.tick
    simp [valOK, this]
  have hac := id_val (action_name o.kind F.kind)
  have hsu := id_val F.subj
  refine ⟨?_, ?_, ?_⟩
  · by_cases p1 : o.field = [] <;> by_cases p2 : o.to = [] <;> simp [p1, p2] <;> omega
  · intro g hg
    simp only [List.mem_append, List.mem_cons, List.not_mem_nil, or_false] at hg
    rcases hg with ((((rfl | rfl | rfl) | hg) | hg) | rfl) | hg
    · exact ⟨by simp, by simp, by kernel_rfl, bag_one hsu⟩
    · exact ⟨by simp, by simp, by kernel_rfl, hro⟩
    · exact ⟨by simp, by simp, by kernel_rfl, bag_one hac⟩
    · split at hg
      · cases hg
      · rename_i hne
        rw [List.mem_singleton.1 hg]
        exact ⟨by simp, by simp, by kernel_rfl, bag_one (id_val (empty_name F.field hne))⟩
    · split at hg
      · cases hg
      · rename_i hne
        rw [List.mem_singleton.1 hg]
        exact ⟨by simp, by simp, by kernel_rfl, bag_one (id_val (empty_name F.to hne))⟩
    · exact ⟨by simp, by simp, by kernel_rfl, bag_one htk⟩
    · obtain ⟨h1, h2, h3⟩ := hcs g hg
      exact ⟨by omega, by omega, h2, h3⟩
  · rw [dist_iff, List.map_append, List.nodup_append]
    refine ⟨?_, hcd, ?_⟩
    · by_cases p1 : o.field = [] <;> by_cases p2 : o.to = [] <;> simp [p1, p2, keyG, idT]
    · intro a ha b hb e
      subst e
      obtain ⟨g, hg, rfl⟩ := List.mem_map.1 hb
      have h3 := (hcs g hg).1
      have hne : ∀ x ∈ ([⟨1, idT, [idV o.subj]⟩, ⟨1, [114, 111, 108, 101], rolesOf s.roles o.subj⟩, ⟨2, [110, 97, 109, 101], [idV (actionD o.kind)]⟩] ++ (if o.field = [] then [] else [⟨2, [102, 105, 101, 108, 100], [idV o.field]⟩]) ++ (if o.to = [] then [] else [⟨2, [116, 111], [idV o.to]⟩]) ++ [⟨4, [110, 111, 119], [⟨4, s.tick, []⟩]⟩] : List GivD), x.cat ≠ 3 := by
        intro x hx
        simp only [List.mem_append, List.mem_cons, List.not_mem_nil, or_false] at hx
        rcases hx with (((rfl | rfl | rfl) | hx) | hx) | rfl
        · simp
        · simp
        · simp
        · split at hx
          · cases hx
          · rw [List.mem_singleton.1 hx]; simp
        · split at hx
          · cases hx
          · rw [List.mem_singleton.1 hx]; simp
        · simp
      obtain ⟨x, hx, he⟩ := List.mem_map.1 ha
      have : x.cat = g.cat := congrArg Prod.fst he
      exact hne x hx (by rw [this, h3])
end Go.Bf
namespace Go.Proofs.YtnhelgnmadbpgaaGreatDoor
open Go Go.Ab Go.Bf
end Go.Proofs.YtnhelgnmadbpgaaGreatDoor

set_option linter.unusedSimpArgs false
set_option linter.unusedVariables false
namespace Go.Bf
open Go Go.Ab Go.Proofs.YtnhelgnmadbpgaaGreatDoor
def sL : StoreD → List AV
  | ⟨tick, cs, rv, nt, ro, .mk pid set alg tgt rules kids obls, ver⟩ => [.v (.int .i64 tick), casesA cs, revsA rv, notsA nt, rolesA ro, .s pid, .v (.bool set), .v (.int .i64 alg), tgtA tgt, .sl (rules.map ruleA) .no, .sl (kidsA kids) .no, oblsA obls, .v (.int .i64 ver)]
theorem storeA_sL (s : StoreD) : storeA s = .agg (sL s) := by
  obtain ⟨tick, cs, rv, nt, ro, ⟨pid, set, alg, tgt, rules, kids, obls⟩, ver⟩ := s
  simp [storeA, polC, sL]
theorem eqCase_refl (c : CaseD) : eqCaseD c c = true := by
  have h1 : eqL eqFieldD c.fields c.fields = true := eqL_true rfl fun j _ _ => by simp [eqFieldD]
  have h2 : eqL eqHapD c.log c.log = true := eqL_true rfl fun j _ _ => by simp [eqHapD]
  simp [eqCaseD, h1, h2]
theorem cases_refl (cs : List CaseD) : eqL eqCaseD cs cs = true := eqL_true rfl fun j _ _ => eqCase_refl _
theorem done_unready {par : Txt → PolD × Int × Int} {s : StoreD} {o : OpD} (h : readyD s o ≠ 0) : doneD par s o = s := by
  unfold doneD; rw [if_neg h]
end Go.Bf
namespace Go.Proofs.YtnhelgnmadbpgaaGreatDoor
open Go Go.Ab Go.Bf
theorem loop_mv {P : Program} {U : TypeId → TI} {n : Nat} {c : Code} {K : Exit → Env → Heap → Prop} {G : Prop} (I : Env → Heap → Prop) (w : (∀ ρ h, I ρ h → LoopC P U n c ρ h K) → G) (t : ∀ ρ h, I ρ h → LoopC P U n c ρ h K) : G := w t
theorem dat_ops {x : AV} (h : Dat U 49 x) : ∃ l : List OpD, x = .sl (l.map opA) .no ∧ l.length ≤ maxLen ∧ ∀ o ∈ l, Op64 o := h.list (by simp only [go_sem]) fun y hy => dat_op hy
theorem ops64 {l : List OpD} {n : Nat} (h : ∀ o ∈ l, Op64 o) : ∀ o ∈ opsD l n, Op64 o := fun o ho => by
  obtain ⟨a, ha, rfl⟩ := List.mem_map.1 ho
  exact h a (List.mem_of_mem_take ha)
set_option maxRecDepth 100000 in
theorem casesRight_ok (x y : AV) (dx : Dat U 49 x) (dy : Dat U 40 y) (h : Heap) (he : ErrT h) : FnOK Tryz.prog 12 [x, y] h fun r h' => r = .v (.bool true) ∧ h' = h := by
  obtain ⟨l0, rfl, hl0, h640⟩ := dat_ops dx
  obtain ⟨o0, rfl, ho0⟩ := dat_op dy
  have hop := fun (G : Heap) => ops_ok l0 40 (by decide) G
  have hoq := fun (G : Heap) => opk_ok o0 G
  have h64 : ∀ o ∈ opsD l0 40, Op64 o := ops64 h640
  have ho64 : Op64 (opkD o0) := ho0
  have hll : (opsD l0 40).length ≤ 40 := by simp [opsD]; omega
  obtain ⟨l, el⟩ : ∃ l, opsD l0 40 = l := ⟨_, rfl⟩
  obtain ⟨o, eo⟩ : ∃ o, opkD o0 = o := ⟨_, rfl⟩
  rw [el] at hop h64 hll
  rw [eo] at hoq ho64
  simp only [opA, opC] at hoq
  have hfin : ∀ (G : Heap), Ab.Sub h G → FnOK Tryz.prog 3 [] G fun r h' => r = .v (.bool true) ∧ h' = G := fun G hG => casesRuns_ok _ (he.sub hG)
  refine FnOK.body hU hm Tryz.func12 rfl (by kernel_rfl) 178 rfl [.tmp 4] rfl (Nat.le_of_ble_eq_true rfl) (fun hwf => ?_)
  simp -implicitDefEqProofs only [go_sem, opA, opC]
  intro i3 h3
  simp -implicitDefEqProofs only [go_sem]
  refine .last (hm1 i3 _) [0, 2, 1, 3, 4] (.hm1 (upd_same ..)) (by kernel_rfl) rfl (by kernel_rfl) rfl ?_
  simp -implicitDefEqProofs only [go_sem, hm1_same]
  refine (hop _).mono fun r h' ⟨e1, e2⟩ => ?_
  subst e1; subst e2
  refine ⟨.hm1 (upd_same ..), ?_⟩
  simp -implicitDefEqProofs only [go_sem, hm1_same, opA, opC]
  refine (hoq _).mono fun r h' ⟨e1, e2⟩ => ?_
  subst e1; subst e2
  refine ⟨.hm1 (upd_same ..), ?_⟩
  simp -implicitDefEqProofs only [go_sem, hm1_same, opA, opC]
  refine inH fun H1 e1 => ?_
  have hs1 : Ab.Sub h H1 := by rw [e1]; exact .upd_new h3
  have g3 : H1 i3 = some (.obj (opC o) 40) := by rw [e1, upd_same]; rfl
  clear e1
  refine (new_ok H1 (he.sub hs1)).pthen ?_
  rw [storeA_sL]
  simp -implicitDefEqProofs only [go_sem, show sL newD = [.v (.int .i64 0), .sl [] .no, .sl [] .no, .sl [] .no, .sl [] .no, .s [111, 112, 101, 110], .v (.bool false), .v (.int .i64 6), .sl [] .no, .sl [] .no, .sl [] .no, .sl [] .no, .v (.int .i64 0)] from rfl]
  intro i5 h5
  have n53 : i5 ≠ i3 := fun e => by rw [e, g3] at h5; cases h5
  simp -implicitDefEqProofs only [go_sem, upd_ne, n53, n53.symm, List.length_map]
  have h5' : h i5 = none := hs1.none h5
  have hpn : pick H1 [i3] i5 = none := by simp [pick, n53]
  refine .intro (fun m ρ H => ∃ (i : Nat) (s : StoreD), H i5 = some (.obj (sL s) 34) ∧ Ab.Sub (pick H1 [i3]) H ∧ Ab.Sub h H ∧ StoreOK i s ∧ i ≤ l.length ∧ m = l.length - i ∧ lk ρ 3 = some (.ptr i3 0) ∧ lk ρ 5 = some (.ptr i5 0) ∧ lk ρ 18 = some (.sl (l.map opA) .no) ∧ lk ρ 19 = some (.v (.int .i64 l.length)) ∧ lk ρ 20 = some (.v (.int .i64 i))) l.length ?_ ?_
  · refine ⟨0, newD, upd_same .., ?_, hs1.trans (.upd_new h5), store_new, by omega, rfl, ?_, ?_, ?_, ?_, ?_⟩
    · exact fun j b hj => pick_sub.trans (.upd_new h5) j b hj
    all_goals simp -implicitDefEqProofs only [go_sem, List.length_map]
  · rintro m ρ H ⟨i, s, g5, hp3, hs, hS, hi, rfl, r3, r5, r18, r19, r20⟩
    have g3 := hp3 i3 _ (by rw [pick_at (show i3 ∈ [i3] by simp), g3])
    cases e1 : decide ((i : Int) < (l.length : Int))
    · have hsr := storeA_sL s
      obtain ⟨tick, cs, rv, nt, ro, ⟨pid, pset, palg, ptgt, prules, pkids, pobls⟩, ver⟩ := s
      simp only [sL, casesA] at g5 hsr
      have hri := fun (G : Heap) => right_ok (.mk pid pset palg ptgt prules pkids pobls) G
      rw [polA_eq, show rightE (.mk pid pset palg ptgt prules pkids pobls) = 0 from hS.pol] at hri
      simp only [polC] at hri
      have t1 : decide (tick < 0) = false := decide_eq_false (by have := hS.tick; simp only at this; omega)
      have t2 : decide ((1099511627776 : Int) < tick) = false := decide_eq_false (by have := hS.tick; simp only at this; omega)
      have t3 : decide ((64 : Int) < (cs.length : Int)) = false := decide_eq_false (by have := hS.ncases; simp only at this; omega)
      simp -implicitDefEqProofs only [go_sem, r3, r5, r18, r19, r20, e1, g5, casesA, List.length_map, t1, t2, t3]
      refine (hri _).pthen ?_
      simp -implicitDefEqProofs only [go_sem, r3, r5, r18, r19, r20, g5, List.length_map]
      have f1 : (([119, 111, 114, 107] : Txt) == [111, 112, 101, 110]) = false := by decide
      have f2 : (([100, 111, 110, 101] : Txt) == [111, 112, 101, 110]) = false := by decide
      have f3 : (([100, 111, 110, 101] : Txt) == [119, 111, 114, 107]) = false := by decide
      have f4 : (([99, 108, 111, 115, 101, 100] : Txt) == [111, 112, 101, 110]) = false := by decide
      have f5 : (([99, 108, 111, 115, 101, 100] : Txt) == [119, 111, 114, 107]) = false := by decide
      have f6 : (([99, 108, 111, 115, 101, 100] : Txt) == [100, 111, 110, 101]) = false := by decide
      refine .intro (fun m ρ2 H2 => ∃ (j : Nat), Ab.Sub H H2 ∧ j ≤ cs.length ∧ m = cs.length - j ∧ lk ρ2 3 = some (.ptr i3 0) ∧ lk ρ2 5 = some (.ptr i5 0) ∧ lk ρ2 76 = some (.sl (cs.map caseA) .no) ∧ lk ρ2 77 = some (.v (.int .i64 cs.length)) ∧ lk ρ2 78 = some (.v (.int .i64 j))) cs.length ?_ ?_
      · refine ⟨0, .refl _, by omega, rfl, ?_, ?_, ?_, ?_, ?_⟩ <;> simp -implicitDefEqProofs only [go_sem, r3, r5, List.length_map]
      · rintro m2 ρ2 H2 ⟨j, hs2, hj, rfl, s3, s5, s76, s77, s78⟩
        have k5 := hs2 i5 _ g5
        have k3 := hs2 i3 _ g3
        have hs2' := hs.trans hs2
        cases e2 : decide ((j : Int) < (cs.length : Int))
        · simp only [opC] at k3
          simp -implicitDefEqProofs only [go_sem, s3, s5, s76, s77, s78, e2, k3, k5]
          have hfo := fun (G : Heap) => form_ok o G
          have hak := fun (G : Heap) => ask_ok (rdS G ⟨tick, cs, rv, nt, ro, ⟨pid, pset, palg, ptgt, prules, pkids, pobls⟩, ver⟩) o hS.few ho64.1
          have har := fun (hf : formD o = true) (G : Heap) => askRight_ok _ (ask_right hS hf) G
          rw [hsr] at hak
          simp only [opA, opC] at hfo hak
          refine (hfo _).pthen ?_
          cases df : formD o
          · simp -implicitDefEqProofs only [go_sem, s3, s5, s76, s77, s78, k3, k5, df]
            refine (hfin _ hs2').pthen ?_
            simp -implicitDefEqProofs only [go_sem, s3, s5]
            exact .mk _ (.refl _) hs2' ⟨rfl, rfl⟩
          · simp -implicitDefEqProofs only [go_sem, s3, s5, s76, s77, s78, k3, k5, df]
            refine (hak _).pthen ?_
            simp -implicitDefEqProofs only [go_sem, s3, s5, s76, s77, s78, k3, k5, df]
            refine (har df _).pthen ?_
            simp -implicitDefEqProofs only [go_sem, s3, s5, s76, s77, s78, k3, k5, df]
            refine (hfin _ hs2').pthen ?_
            simp -implicitDefEqProofs only [go_sem, s3, s5]
            exact .mk _ (.refl _) hs2' ⟨rfl, rfl⟩
        · have hjl : j < cs.length := Int.ofNat_lt.1 (of_decide_eq_true e2)
          have w2 : IntKind.i64.wrap ((j : Int) + 1) = ((j + 1 : Nat) : Int) := by rw [wr64 _ (by have := hS.ncases; simp only at this; omega)]; omega
          obtain ⟨c, ec⟩ : ∃ c, cs[j] = c := ⟨_, rfl⟩
          have hC : CaseOK c := hS.case c (by rw [← ec]; exact List.getElem_mem _)
          have ix := fun k => IdxE.eq (xs := cs.map caseA) (sz := 5) j (by simpa using hjl) (by rw [List.getElem_map]; rfl) k
          rw [List.getElem_map, ec] at ix
          simp only [caseA, caseC, fieldsA, logA] at ix
          have q1 : decide ((16 : Int) < (c.fields.length : Int)) = false := decide_eq_false (by have := hC.nfields; omega)
          have q2 : decide ((c.log.length : Int) < 1) = false := decide_eq_false (by have := hC.log1; omega)
          have q3 : decide ((256 : Int) < (c.log.length : Int)) = false := decide_eq_false (by have := hC.log2; omega)
          have hst := hC.state
          simp only [states4, openT, workT, doneT, closedT, List.mem_cons, List.not_mem_nil, or_false] at hst
          simp -implicitDefEqProofs only [go_sem, s3, s5, s76, s77, s78, e2, k5, ix]
          intro i10 h10
          have n105 : i10 ≠ i5 := fun e => by rw [e, k5] at h10; cases h10
          simp -implicitDefEqProofs only [go_sem, upd_ne, n105, n105.symm, s3, s5, s76, s77, s78, k5]
          refine ⟨.of (by kernel_rfl), ?_⟩
          apply loop_mv (P := Tryz.prog) (U := U) (n := 178) (fun ρ3 H3 => Ab.Sub H2 H3 ∧ H3 i10 = some (.obj (caseC c) 63) ∧ lk ρ3 3 = some (.ptr i3 0) ∧ lk ρ3 5 = some (.ptr i5 0) ∧ lk ρ3 10 = some (.ptr i10 0) ∧ lk ρ3 76 = some (.sl (cs.map caseA) .no) ∧ lk ρ3 77 = some (.v (.int .i64 cs.length)) ∧ lk ρ3 78 = some (.v (.int .i64 j)) ∧ lk ρ3 136 = some (.sl (c.fields.map fieldA) .no) ∧ lk ρ3 137 = some (.v (.int .i64 c.fields.length)) ∧ lk ρ3 138 = some (.v (.int .i64 0)))
          case w =>
            intro ht
            by_cases hj0 : 0 < j
            · have d0 : decide ((0 : Int) < (j : Int)) = true := decide_eq_true (by omega)
              have wj : IntKind.i64.wrap ((j : Int) - 1) = ((j - 1 : Nat) : Int) := by rw [wr64 _ (by have := hS.ncases; simp only at this; omega)]; omega
              obtain ⟨d, ed⟩ : ∃ d, cs[j - 1]'(by omega) = d := ⟨_, rfl⟩
              have ixp := fun k => IdxE.eq (xs := cs.map caseA) (sz := 5) (j - 1) (by simp; omega) (by rw [List.getElem_map]; rfl) k
              rw [List.getElem_map, ed] at ixp
              simp only [caseA, caseC, fieldsA, logA] at ixp
              have hlt : lt d.id c.id := by
                have := List.pairwise_iff_getElem.1 hS.asc (j - 1) j (by show j - 1 < cs.length; omega) hjl (by omega)
                rw [show (cs[j - 1]'(by omega)) = d from ed, show cs[j] = c from ec] at this
                exact this
              have d1 : (Op.bytesLess c.id d.id || c.id == d.id) = false := by
                rw [Bool.or_eq_false_iff]
                constructor
                · cases hb : Op.bytesLess c.id d.id with
                  | false => rfl
                  | true => exact (lt_irrefl _ (lt_trans hlt hb)).elim
                · rw [beq_eq_false_iff_ne]; intro e; rw [e] at hlt; exact lt_irrefl _ hlt
              simp -implicitDefEqProofs only [go_sem, upd_ne, n105, n105.symm, s3, s5, s76, s77, s78, k5, d0, wj, ixp, and_self, if_false, d1, List.length_map, q1, q2, q3]
              rcases hst with e | e | e | e
              all_goals
                simp -implicitDefEqProofs only [go_sem, upd_ne, n105, n105.symm, s3, s5, s76, s77, s78, k5, e, beq_self_eq_true, f1, f2, f3, f4, f5, f6]
                refine ht _ _ ?_
                refine ⟨.upd_new h10, by rw [upd_same, caseC, e]; rfl, ?_, ?_, ?_, ?_, ?_, ?_, ?_, ?_, ?_⟩
                all_goals simp -implicitDefEqProofs only [go_sem, s3, s5, s76, s77, s78, List.length_map]
            · have d0 : decide ((0 : Int) < (j : Int)) = false := decide_eq_false (by omega)
              simp -implicitDefEqProofs only [go_sem, upd_ne, n105, n105.symm, s3, s5, s76, s77, s78, k5, d0, List.length_map, q1, q2, q3]
              rcases hst with e | e | e | e
              all_goals
                simp -implicitDefEqProofs only [go_sem, upd_ne, n105, n105.symm, s3, s5, s76, s77, s78, k5, e, beq_self_eq_true, f1, f2, f3, f4, f5, f6]
                refine ht _ _ ?_
                refine ⟨.upd_new h10, by rw [upd_same, caseC, e]; rfl, ?_, ?_, ?_, ?_, ?_, ?_, ?_, ?_, ?_⟩
                all_goals simp -implicitDefEqProofs only [go_sem, s3, s5, s76, s77, s78, List.length_map]
          case t =>
            rintro ρ3 H3 ⟨hs3, k10, t3, t5, t10, t76, t77, t78, t136, t137, t138⟩
            simp only [caseC, fieldsA, logA] at k10
            have hs3' := hs2'.trans hs3
            have k5' := hs3 i5 _ k5
            refine .intro (fun m ρ4 H4 => ∃ (k : Nat), Ab.Sub H3 H4 ∧ k ≤ c.fields.length ∧ m = c.fields.length - k ∧ lk ρ4 3 = some (.ptr i3 0) ∧ lk ρ4 5 = some (.ptr i5 0) ∧ lk ρ4 10 = some (.ptr i10 0) ∧ lk ρ4 76 = some (.sl (cs.map caseA) .no) ∧ lk ρ4 77 = some (.v (.int .i64 cs.length)) ∧ lk ρ4 78 = some (.v (.int .i64 j)) ∧ lk ρ4 136 = some (.sl (c.fields.map fieldA) .no) ∧ lk ρ4 137 = some (.v (.int .i64 c.fields.length)) ∧ lk ρ4 138 = some (.v (.int .i64 k))) c.fields.length ?_ ?_
            · exact ⟨0, .refl _, by omega, rfl, t3, t5, t10, t76, t77, t78, t136, t137, t138⟩
            · rintro m4 ρ4 H4 ⟨k, hs4, hk, rfl, u3, u5, u10, u76, u77, u78, u136, u137, u138⟩
              have z10 := hs4 i10 _ k10
              cases e4 : decide ((k : Int) < (c.fields.length : Int))
              · simp -implicitDefEqProofs only [go_sem, u3, u5, u10, u76, u77, u78, u136, u137, u138, e4, w2]
                refine ⟨_, ?_, j + 1, (hs2.trans hs3).trans hs4, by omega, rfl, ?_, ?_, ?_, ?_, ?_⟩
                · omega
                all_goals simp -implicitDefEqProofs only [go_sem, u3, u5, u76, u77, u78, w2]
              · have hkl : k < c.fields.length := Int.ofNat_lt.1 (of_decide_eq_true e4)
                have w4 : IntKind.i64.wrap ((k : Int) + 1) = ((k + 1 : Nat) : Int) := by rw [wr64 _ (by have := hC.nfields; omega)]; omega
                obtain ⟨f, ef⟩ : ∃ f, c.fields[k] = f := ⟨_, rfl⟩
                obtain ⟨hfn, hfv, _⟩ := hC.field f (by rw [← ef]; exact List.getElem_mem _)
                have iy := fun x => IdxE.eq (xs := c.fields.map fieldA) (sz := 4) k (by simpa using hkl) (by rw [List.getElem_map]; rfl) x
                rw [List.getElem_map, ef] at iy
                simp only [fieldA] at iy
                have hvr := fun (G : Heap) => valRight_ok f.val G
                rw [hfv] at hvr
                simp only [valA] at hvr
                simp -implicitDefEqProofs only [go_sem, u3, u5, u10, u76, u77, u78, u136, u137, u138, e4, iy]
                intro i12 h12
                have n12 : i12 ≠ i10 := fun e => by rw [e, z10] at h12; cases h12
                simp -implicitDefEqProofs only [go_sem, upd_ne, n12, n12.symm, u3, u5, u10, u76, u77, u78, u136, u137, u138]
                refine .quiet (by kernel_rfl) ?_
                by_cases hk0 : 0 < k
                · have d0 : decide ((0 : Int) < (k : Int)) = true := decide_eq_true (by omega)
                  have wk : IntKind.i64.wrap ((k : Int) - 1) = ((k - 1 : Nat) : Int) := by rw [wr64 _ (by have := hC.nfields; omega)]; omega
                  obtain ⟨g, eg⟩ : ∃ g, c.fields[k - 1]'(by omega) = g := ⟨_, rfl⟩
                  have iyp := fun x => IdxE.eq (xs := c.fields.map fieldA) (sz := 4) (k - 1) (by simp; omega) (by rw [List.getElem_map]; rfl) x
                  rw [List.getElem_map, eg] at iyp
                  simp only [fieldA] at iyp
                  have hlt : lt g.name f.name := by
                    have := List.pairwise_iff_getElem.1 hC.asc (k - 1) k (by omega) hkl (by omega)
                    rw [eg, ef] at this
                    exact this
                  have d1 : (Op.bytesLess f.name g.name || f.name == g.name) = false := by
                    rw [Bool.or_eq_false_iff]
                    constructor
                    · cases hb : Op.bytesLess f.name g.name with
                      | false => rfl
                      | true => exact (lt_irrefl _ (lt_trans hlt hb)).elim
                    · rw [beq_eq_false_iff_ne]; intro e; rw [e] at hlt; exact lt_irrefl _ hlt
                  simp -implicitDefEqProofs only [go_sem, upd_ne, n12, n12.symm, u3, u5, u10, u76, u77, u78, u136, u137, u138, z10, d0, wk, iyp, and_self, if_false, d1]
                  refine ⟨_, hvr _, ?_⟩
                  simp -implicitDefEqProofs only [go_sem, upd_ne, n12, n12.symm, u3, u5, u10, u76, u77, u78, u136, u137, u138, w4]
                  refine ⟨_, ?_, k + 1, hs4.trans (.upd_new h12), by omega, rfl, ?_, ?_, ?_, ?_, ?_, ?_, ?_, ?_, ?_⟩
                  · omega
                  all_goals simp -implicitDefEqProofs only [go_sem, u3, u5, u10, u76, u77, u78, u136, u137, u138, w4]
                · have d0 : decide ((0 : Int) < (k : Int)) = false := decide_eq_false (by omega)
                  simp -implicitDefEqProofs only [go_sem, upd_ne, n12, n12.symm, u3, u5, u10, u76, u77, u78, u136, u137, u138, z10, d0]
                  refine ⟨_, hvr _, ?_⟩
                  simp -implicitDefEqProofs only [go_sem, upd_ne, n12, n12.symm, u3, u5, u10, u76, u77, u78, u136, u137, u138, w4]
                  refine ⟨_, ?_, k + 1, hs4.trans (.upd_new h12), by omega, rfl, ?_, ?_, ?_, ?_, ?_, ?_, ?_, ?_, ?_⟩
                  · omega
                  all_goals simp -implicitDefEqProofs only [go_sem, u3, u5, u10, u76, u77, u78, u136, u137, u138, w4]
    · have hlt : i < l.length := Int.ofNat_lt.1 (of_decide_eq_true e1)
      have w1 : IntKind.i64.wrap ((i : Int) + 1) = ((i + 1 : Nat) : Int) := by rw [wr64 _ (by omega)]; omega
      obtain ⟨p, ep⟩ : ∃ p, l[i] = p := ⟨_, rfl⟩
      have p64 := h64 p (by rw [← ep]; exact List.getElem_mem _)
      have ix := fun k => IdxE.eq (xs := l.map opA) (sz := 12) i (by simpa using hlt) (by rw [List.getElem_map]; rfl) k
      rw [List.getElem_map, ep] at ix
      simp only [opA, opC] at ix
      have hver := hS.ver
      have hrd := fun (G : Heap) => ready_ok (rdS G s) p hS.few p64.2.2.2 hS.tick64
      have hdn := fun (G : Heap) (hG : Ab.Sub h G) => done_ok (rdS G s) p hS.few hS.polE p64.2.2.2 hS.tick64 ⟨hver.1, by omega⟩ (he.sub hG)
      have hS' := store_done p hS
      have hun := done_unready (par := parseD) (s := s) (o := p)
      obtain ⟨s', es'⟩ : ∃ s', doneD parseD s p = s' := ⟨_, rfl⟩
      obtain ⟨rc, erc⟩ : ∃ rc, readyD s p = rc := ⟨_, rfl⟩
      rw [es'] at hdn hS' hun
      rw [erc] at hrd hun
      have hsr := storeA_sL s
      by_cases hrc : rc = 0
      · have drc : (rc != 0) = false := by simp [hrc]
        have hsr' := storeA_sL s'
        obtain ⟨tick, cs, rv, nt, ro, ⟨pid, pset, palg, ptgt, prules, pkids, pobls⟩, ver⟩ := s
        obtain ⟨tick', cs', rv', nt', ro', ⟨pid', pset', palg', ptgt', prules', pkids', pobls'⟩, ver'⟩ := s'
        simp only [sL] at g5 hsr hsr'
        rw [hsr] at hrd hdn
        rw [hsr'] at hdn
        simp only [opA, opC] at hrd hdn
        simp -implicitDefEqProofs only [go_sem, r3, r5, r18, r19, r20, e1, ix]
        intro i7 h7
        have n75 : i7 ≠ i5 := fun e => by rw [e, g5] at h7; cases h7
        simp -implicitDefEqProofs only [go_sem, upd_ne, n75, n75.symm, r3, r5, r18, r19, r20, g5]
        refine (hdn _ (hs.trans (.upd_new h7))).pthen ?_
        simp -implicitDefEqProofs only [go_sem, upd_ne, n75, n75.symm, r3, r5, r18, r19, r20, g5]
        intro i8 h8
        have n87 := ne_upd h8
        have h8a := upd_none h8
        have n85 : i8 ≠ i5 := fun e => by rw [e, g5] at h8a; cases h8a
        simp -implicitDefEqProofs only [go_sem, upd_ne, n75, n75.symm, n87, n87.symm, n85, n85.symm, r3, r5, r18, r19, r20, g5]
        refine (hrd _).pthen ?_
        simp -implicitDefEqProofs only [go_sem, upd_ne, n75, n75.symm, n87, n87.symm, n85, n85.symm, r3, r5, r18, r19, r20, g5, drc, w1]
        refine ⟨_, ?_, i + 1, ⟨tick', cs', rv', nt', ro', ⟨pid', pset', palg', ptgt', prules', pkids', pobls'⟩, ver'⟩, by rw [upd_same]; rfl, ?_, ((hs.trans (.upd_new h7)).trans (.upd_new h8)).put h5' _, hS', by omega, rfl, ?_, ?_, ?_, ?_, ?_⟩
        · omega
        · exact ((hp3.trans (.upd_new h7)).trans (.upd_new h8)).put hpn _
        all_goals simp -implicitDefEqProofs only [go_sem, r3, r5, r18, r19, r20, w1]
      · have drc : (rc != 0) = true := by simp [hrc]
        rw [hun hrc] at hdn hS'
        obtain ⟨tick, cs, rv, nt, ro, ⟨pid, pset, palg, ptgt, prules, pkids, pobls⟩, ver⟩ := s
        simp only [sL] at g5 hsr
        rw [hsr] at hrd hdn
        simp only [opA, opC] at hrd hdn
        simp -implicitDefEqProofs only [go_sem, r3, r5, r18, r19, r20, e1, ix]
        intro i7 h7
        have n75 : i7 ≠ i5 := fun e => by rw [e, g5] at h7; cases h7
        simp -implicitDefEqProofs only [go_sem, upd_ne, n75, n75.symm, r3, r5, r18, r19, r20, g5]
        refine (hdn _ (hs.trans (.upd_new h7))).pthen ?_
        simp -implicitDefEqProofs only [go_sem, upd_ne, n75, n75.symm, r3, r5, r18, r19, r20, g5]
        intro i8 h8
        have n87 := ne_upd h8
        have h8a := upd_none h8
        have n85 : i8 ≠ i5 := fun e => by rw [e, g5] at h8a; cases h8a
        simp -implicitDefEqProofs only [go_sem, upd_ne, n75, n75.symm, n87, n87.symm, n85, n85.symm, r3, r5, r18, r19, r20, g5]
        refine (hrd _).pthen ?_
        simp -implicitDefEqProofs only [go_sem, upd_ne, n75, n75.symm, n87, n87.symm, n85, n85.symm, r3, r5, r18, r19, r20, g5, drc, w1, bne_self_eq_false, casesA]
        refine (cases_ok (crows cs) (crows cs) .no .no _).pthen ?_
        rw [cases_refl]
        simp -implicitDefEqProofs only [go_sem, upd_ne, n75, n75.symm, n87, n87.symm, n85, n85.symm, r3, r5, r18, r19, r20, g5, w1]
        refine ⟨_, ?_, i + 1, ⟨tick, cs, rv, nt, ro, ⟨pid, pset, palg, ptgt, prules, pkids, pobls⟩, ver⟩, by rw [upd_same]; rfl, ?_, ((hs.trans (.upd_new h7)).trans (.upd_new h8)).put h5' _, hS', by omega, rfl, ?_, ?_, ?_, ?_, ?_⟩
        · omega
        · exact ((hp3.trans (.upd_new h7)).trans (.upd_new h8)).put hpn _
        all_goals simp -implicitDefEqProofs only [go_sem, r3, r5, r18, r19, r20, w1]
theorem casesRight_law (ev : Value) (hev : ev = .nilIface ∨ ∃ te pe, ev = .iface te pe) (x y : AV) (dx : Dat U 49 x) (dy : Dat U 40 y) : FnOK Tryz.prog 12 [x, y] (tabH [(3, pow10V), (2, [ev])]) fun r _ => r = .v (.bool true) := (casesRight_ok x y dx dy _ (start_err hev)).mono fun _ _ h => h.1
end Go.Proofs.YtnhelgnmadbpgaaGreatDoor
