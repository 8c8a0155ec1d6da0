/- The law CasesRoles: pack 6 of its texts. -/
import Derived.Lib.ItoaLen
import Derived.Test.YtnhelgnmadbpgaaGreatDoorPk1
import Derived.Test.YtnhelgnmadbpgaaGreatDoorPk2
import Derived.Test.YtnhelgnmadbpgaaGreatDoorPk3
import Derived.Test.YtnhelgnmadbpgaaGreatDoorPk4
import Derived.Test.YtnhelgnmadbpgaaGreatDoorPk5
set_option linter.unusedSimpArgs false
set_option linter.unusedVariables false
namespace Go.Proofs.YtnhelgnmadbpgaaGreatDoor
open Go Go.Ab Go.Bf
theorem frz_fin {g K : Heap} {S : StoreD} {y1 y2 y3 y4 : AV} {tk ver palg : Int} {pid : Txt} {pset : Bool} {ptgt : TgtD} {prules : List RuleD} {pkids : List PolD} {pobls : List OblD} (h1 : S.tick = tk) (h2 : S.policy = .mk pid pset palg ptgt prules pkids pobls) (h3 : S.version = ver)
    (a : Frz g K y1 (casesA S.cases)) (b : Frz g K y2 (revsA S.reviews)) (c : Frz g K y3 (notsA S.notices)) (d : Frz g K y4 (rolesA S.roles)) :
    Frz g K (.agg [.v (.int .i64 tk), y1, y2, y3, y4, .s pid, .v (.bool pset), .v (.int .i64 palg), tgtA ptgt, .sl (prules.map ruleA) .no, .sl (pkids.map polA) .no, oblsA pobls, .v (.int .i64 ver)]) (storeA S) := by
  have := frz_store a b c d
  rw [h1, h2, h3, show polC (.mk pid pset palg ptgt prules pkids pobls) = [.s pid, .v (.bool pset), .v (.int .i64 palg), tgtA ptgt, .sl (prules.map ruleA) .no, .sl (pkids.map polA) .no, oblsA pobls] by simp [polC, kidsA_eq]] at this
  exact this
theorem frz_rows {g h0 h : Heap} {y : AV} {xs ys : List AV} {cs : List CaseD} (hw : OwE 63 h0 h 5 y xs) (hg : Ab.Sub g h0) (hm : cs.map caseA = ys) (hn : xs.length = ys.length) (hx : ∀ j (a : j < xs.length) (b : j < ys.length), Frz g h xs[j] ys[j]) : Frz g h y (casesA cs) := by
  subst hm
  exact frz_cases hw hg (by simpa using hn) fun j h1 h2 => by have := hx j h1 (by simpa using h2); rw [List.getElem_map] at this; exact this
theorem frz_one {g h : Heap} {x y : AV} (hx : Frz g h x y) : ∀ i (a : i < [x].length) (b : i < [y].length), Frz g h [x][i] [y][i] := fun i a b => by
  obtain rfl : i = 0 := by simpa using a
  exact hx
theorem frz_mod {g H K : Heap} {z : AV} {xs : List AV} {cs : List CaseD} {j : Nat} {X : AV} {F : CaseD → CaseD} (hw : OwE 63 H K 5 z (xs.set j X)) (hg : Ab.Sub g H) (hn : xs.length = cs.length) (hj : j < cs.length) (hlo : ∀ k (h1 : k < xs.length) (h2 : k < cs.length), k ≠ j → xs[k] = caseA cs[k]) (hX : Frz g K X (caseA (F cs[j]))) : Frz g K z (casesA (cs.modify j F)) := by
  refine frz_cases hw hg (by simpa using hn) fun k h1 h2 => ?_
  have h1' : k < xs.length := by simpa using h1
  have h2' : k < cs.length := by simpa using h2
  by_cases e : k = j
  · subst e
    rw [List.getElem_set_self, List.getElem_modify_eq]
    exact hX
  · rw [List.getElem_set_ne (Ne.symm e), List.getElem_modify, if_neg (Ne.symm e), hlo k h1' h2' e]
    exact frz_case _
theorem flat_set {xs : List AV} {j : Nat} (hj : j < xs.length) (x : AV) : flatA (xs.set j x) = flatA (xs.take j) ++ (x.cells ++ flatA (xs.drop (j + 1))) := by
  rw [List.set_eq_take_append_cons_drop, if_pos hj, flatA_app]
  simp [flatA]
theorem flat_at {xs : List AV} {j : Nat} (hj : j < xs.length) : flatA xs = flatA (xs.take j) ++ (xs[j].cells ++ flatA (xs.drop (j + 1))) := by
  rw [← flat_set hj xs[j], List.set_getElem_self]
theorem ready_case {s : StoreD} {o : OpD} (h : readyD s o = 0) (hk : o.kind = 3 ∨ o.kind = 4) : thereD s.cases o.case = true := by
  cases e : thereD s.cases o.case
  · exfalso
    unfold readyD readyCaseD at h
    have : 2 ≤ o.kind ∧ o.kind ≤ 4 := by omega
    have : o.kind ≠ 1 := by omega
    split at h
    · cases h
    · simp only [e, if_true, *, if_false, and_self] at h
      cases h
  · rfl
theorem frz_caseL {g h0 h : Heap} {c : CaseD} {f l : AV} (a : OwE 84 h0 h 4 f (c.fields.map fieldA)) (b : OwE 119 h0 h 3 l (c.log.map hapA)) (hg : Ab.Sub g h0) : Frz g h (.agg [.s c.id, .s c.owner, .s c.state, f, l]) (caseA c) := by
  refine .agg _ _ rfl fun j h1 h2 => ?_
  rcases j with _ | _ | _ | _ | _ | j
  · exact .pure rfl
  · exact .pure rfl
  · exact .pure rfl
  · exact (a.less hg).frz (pureL_map (fun _ => rfl) _)
  · exact (b.less hg).frz (pureL_map (fun _ => rfl) _)
  · simp at h1; omega
set_option maxRecDepth 100000 in
theorem done_ok {h : Heap} {x : AV} {s : StoreD} (hb : RdS h x s) (o : OpD) (hf : Few s) (hp : polE 1 s.policy) (hr : i64 o.review) (ht : i64 s.tick) (hver : 0 ≤ s.version ∧ s.version ≤ 1000000) (he : ErrT h) :
    FnOK Tryz.prog 14 [x, opA o] h fun r h' => r = storeA (doneD parseD s o) ∧ h' = h :=
  FnOK.freeze fun g hg _ => by
  replace hb := hb.sub hg
  replace he := he.sub hg
  obtain ⟨i0, ei0⟩ : ∃ i0, (if o.kind = 1 then s.cases.length else findD s.cases o.case) = i0 := ⟨_, rfl⟩
  have hown := fun (G : Heap) (hG : Ab.Sub g G) => own_ok (hb.sub hG) i0 hf hp
  have hrdy := fun (G : Heap) (hG : Ab.Sub g G) => ready_ok (hb.sub hG) o hf hr ht
  obtain ⟨y1, y2, y3, y4, rfl, hb'⟩ := hb
  cases hpp : s.policy with
  | mk pid pset palg ptgt prules pkids pobls =>
  have hcC : polC (.mk pid pset palg ptgt prules pkids pobls) = [.s pid, .v (.bool pset), .v (.int .i64 palg), tgtA ptgt, .sl (prules.map ruleA) .no, .sl (pkids.map polA) .no, oblsA pobls] := by simp [polC, kidsA_eq]
  rw [hpp, hcC] at hown hrdy
  simp only [opA, opC, List.cons_append, List.nil_append] at hown hrdy
  refine FnOK.body hU hm Tryz.func14 rfl (by kernel_rfl) 138 rfl [.cell 4 34] rfl (Nat.le_of_ble_eq_true rfl) (fun hwf => ?_)
  simp -implicitDefEqProofs only [go_sem, hcC, opA, opC, List.cons_append, List.nil_append]
  intro i2 h2
  simp -implicitDefEqProofs only [go_sem]
  intro i3 h3
  have n32 := ne_upd h3
  have h3' := upd_none h3
  simp -implicitDefEqProofs only [go_sem, upd_ne, n32, n32.symm]
  intro i4 h4
  have n43 := ne_upd h4
  have h4a := upd_none h4
  have n42 := ne_upd h4a
  have h4' := upd_none h4a
  simp -implicitDefEqProofs only [go_sem, upd_ne, n32, n32.symm, n43, n43.symm, n42, n42.symm]
  obtain ⟨H, eH⟩ : ∃ H, upd (upd (upd g i2 (some (.obj [.v (.int .i64 s.tick), y1, y2, y3, y4, .s pid, .v (.bool pset), .v (.int .i64 palg), tgtA ptgt, .sl (prules.map ruleA) .no, .sl (pkids.map polA) .no, oblsA pobls, .v (.int .i64 s.version)] 34))) i3 (some (.obj (opC o) 40))) i4 (some (.obj [.v (.int .i64 0), .sl [] .full, .sl [] .full, .sl [] .full, .sl [] .full, .s [], .v (.bool false), .v (.int .i64 0), .sl [] .full, .sl [] .full, .sl [] .full, .sl [] .full, .v (.int .i64 0)] 34)) = H := ⟨_, rfl⟩
  have hH : Ab.Sub g H := by rw [← eH]; exact (((Sub.refl g).put h2 _).put h3' _).put h4' _
  have g2 : H i2 = some (.obj [.v (.int .i64 s.tick), y1, y2, y3, y4, .s pid, .v (.bool pset), .v (.int .i64 palg), tgtA ptgt, .sl (prules.map ruleA) .no, .sl (pkids.map polA) .no, oblsA pobls, .v (.int .i64 s.version)] 34) := by rw [← eH, upd_other _ _ n42.symm, upd_other _ _ n32.symm, upd_same]
  have g3 : H i3 = some (.obj (opC o) 40) := by rw [← eH, upd_other _ _ n43.symm, upd_same]
  have g4 : H i4 = some (.obj [.v (.int .i64 0), .sl [] .full, .sl [] .full, .sl [] .full, .sl [] .full, .s [], .v (.bool false), .v (.int .i64 0), .sl [] .full, .sl [] .full, .sl [] .full, .sl [] .full, .v (.int .i64 0)] 34) := by rw [← eH, upd_same]
  simp only [opC] at eH g3
  rw [eH]
  clear eH
  refine (hown H hH).mono fun r H1 ⟨hS, s1⟩ => ?_
  obtain ⟨z1, z2, z3, z4, er, hS1⟩ := id hS
  subst er
  rw [hpp, hcC] at hS ⊢
  obtain ⟨hC, w2, w3, w4, a12, a13, a14, a23, a24, a34⟩ := hS1
  obtain ⟨xs, w1, hnx, hlo, hmy⟩ := id hC
  simp -implicitDefEqProofs only [go_sem, List.cons_append, List.nil_append]
  intro i5 h5
  simp -implicitDefEqProofs only [go_sem, w1.rd.fit, w1.rd.cells, w2.rd.fit, w2.rd.cells, w3.rd.fit, w3.rd.cells, w4.rd.fit, w4.rd.cells]
  have q2 := s1 _ _ g2
  have q3 := s1 _ _ g3
  have q4 := s1 _ _ g4
  have n52 : i2 ≠ i5 := fun e => by rw [← e, q2] at h5; cases h5
  have n53 : i3 ≠ i5 := fun e => by rw [← e, q3] at h5; cases h5
  have n54 : i4 ≠ i5 := fun e => by rw [← e, q4] at h5; cases h5
  obtain ⟨K, eK⟩ : ∃ K, upd H1 i5 (some (.obj [.v (.int .i64 s.tick), z1, z2, z3, z4, .s pid, .v (.bool pset), .v (.int .i64 palg), tgtA ptgt, .sl (prules.map ruleA) .no, .sl (pkids.map polA) .no, oblsA pobls, .v (.int .i64 s.version)] 34)) = K := ⟨_, rfl⟩
  have sK : Ab.Sub H1 K := by rw [← eK]; exact .upd_new h5
  have k5 : K i5 = some (.obj [.v (.int .i64 s.tick), z1, z2, z3, z4, .s pid, .v (.bool pset), .v (.int .i64 palg), tgtA ptgt, .sl (prules.map ruleA) .no, .sl (pkids.map polA) .no, oblsA pobls, .v (.int .i64 s.version)] 34) := by rw [← eK, upd_same]
  rw [eK]
  have hz5 : ∀ k, H k = none → H1 k ≠ none → k ≠ i5 := fun k _ hk e => hk (by rw [e]; exact h5)
  have k2 := sK _ _ q2
  have k3 := sK _ _ q3
  have k4 := sK _ _ q4
  clear eK
  have sg : Ab.Sub g K := hH.trans (s1.trans sK)
  simp -implicitDefEqProofs only [go_sem, k2, k3]
  refine (hrdy K sg).pthen ?_
  have g5 : g i5 = none := (hH.trans s1).none h5
  have kK : ∀ k, H1 k ≠ none → K k = H1 k := fun k hk => by
    cases e : H1 k with
    | none => exact (hk e).elim
    | some b => exact sK _ _ e
  have hz4 : ∀ k, H k = none → k ≠ i4 := fun k hk e => by rw [e, g4] at hk; cases hk
  by_cases p0 : readyD s o = 0
  · have d0 : (readyD s o != 0) = false := by simp [p0]
    simp -implicitDefEqProofs only [go_sem, d0]
    simp -implicitDefEqProofs only [go_sem, k5, k3]
    have hSK : OwnS H K (.agg ([.v (.int .i64 s.tick), z1, z2, z3, z4] ++ polC s.policy ++ [.v (.int .i64 s.version)])) s i0 := by
      rw [hpp, hcC]
      exact hS.keepb fun k _ hk => kK k hk
    have hfi := find_ok hSK.rd o.case hf.cases
    rw [hpp, hcC] at hfi
    simp only [List.cons_append, List.nil_append] at hfi
    refine hfi.pthen ?_
    simp -implicitDefEqProofs only [go_sem, k3]
    have hform : formD o = true := by
      cases e : formD o
      · simp [readyD, e] at p0
      · rfl
    have hdone : doneD parseD s o = doD parseD s o := by simp [doneD, p0]
    rw [hdone]
    by_cases p1 : o.kind = 1
    · have k1 : (o.kind == 1) = true := by simp [p1]
      simp -implicitDefEqProofs only [go_sem, k1]
      simp -implicitDefEqProofs only [go_sem, k3]
      intro i8 h8
      have n82 : i2 ≠ i8 := fun e => by rw [← e, k2] at h8; cases h8
      have n83 : i3 ≠ i8 := fun e => by rw [← e, k3] at h8; cases h8
      have n84 : i4 ≠ i8 := fun e => by rw [← e, k4] at h8; cases h8
      have n85 : i5 ≠ i8 := fun e => by rw [← e, k5] at h8; cases h8
      simp -implicitDefEqProofs only [go_sem]
      obtain ⟨K2, eK2⟩ : ∃ K2, upd K i8 (some (.obj [.s o.case, .s o.subj, .s [111, 112, 101, 110], .sl [] .full, .sl [] .full] 63)) = K2 := ⟨_, rfl⟩
      have sK2 : Ab.Sub K K2 := by rw [← eK2]; exact .upd_new h8
      have e8 : K2 i8 = some (.obj [.s o.case, .s o.subj, .s [111, 112, 101, 110], .sl [] .full, .sl [] .full] 63) := by rw [← eK2, upd_same]
      rw [eK2]
      clear eK2
      have m3 := sK2 _ _ k3
      have m4 := sK2 _ _ k4
      have m5 := sK2 _ _ k5
      simp -implicitDefEqProofs only [go_sem, m3, m5]
      have hha := happens_ok (h0 := H) (s := s) z1 z2 z3 z4 (k := i8) (o := 0) (A := []) (B := []) (t := 63) (c := ⟨o.case, o.subj, openT, [], []⟩) (f := .sl [] .full) (l := .sl [] .full) rfl e8 (by decide) (.inl ⟨rfl, rfl⟩) (s1.trans (sK.trans sK2)) (Nat.zero_le _) o.subj [110, 101, 119]
      rw [hpp, hcC] at hha
      simp only [List.cons_append, List.nil_append] at hha
      refine hha.mono fun r K3 ⟨l', ol, e8', fr3, ap3⟩ => ?_
      have kK3 : ∀ k, K2 k ≠ none → k ≠ i8 → K3 k = K2 k := fun k hk hk8 => fr3 k hk hk8 (by simp [nid])
      have m3' : K3 i3 = _ := (kK3 i3 (by rw [m3]; simp) n83).trans m3
      have m4' : K3 i4 = _ := (kK3 i4 (by rw [m4]; simp) n84).trans m4
      have m5' : K3 i5 = _ := (kK3 i5 (by rw [m5]; simp) n85).trans m5
      simp only [caseL, List.append_nil, List.nil_append] at e8'
      simp -implicitDefEqProofs only [go_sem]
      simp -implicitDefEqProofs only [go_sem, m5', e8', ol.rd.fit, ol.rd.cells]
      have kk2 : ∀ k, H1 k ≠ none → K2 k = H1 k := fun k hk => by
        have := kK k hk
        cases e : K k with
        | none => rw [e] at this; exact (hk this.symm).elim
        | some b => rw [sK2 _ _ e, ← e, this]
      have k8 : ∀ k, H1 k ≠ none → k ≠ i8 := fun k hk e => hk (by have := kK k hk; rw [e, h8] at this; rw [e]; exact this.symm)
      have kk3 : ∀ k, H1 k ≠ none → K3 k = H1 k := fun k hk => (kK3 k (by rw [kk2 k hk]; exact hk) (k8 k hk)).trans (kk2 k hk)
      have sH3 : Ab.Sub H1 K3 := fun k b hk => by rw [kk3 k (by rw [hk]; simp)]; exact hk
      have hfl : findD s.cases o.case ≤ s.cases.length := List.findIdx_le_length
      have hfc := hf.cases
      refine (insCase_ok z1 xs (.agg [.s o.case, .s o.subj, .s openT, .sl [] .full, l']) (findD s.cases o.case) H K3 (w1.keepb fun k _ hk => kk3 k hk) (s1.trans sH3) (by omega) (by omega) rfl (by simp [Ab.fit])).mono fun r K4 ⟨ow5, fr4, ap4⟩ => ?_
      have m4'' : K4 i4 = _ := (fr4 i4 (by rw [m4']; simp) (fun e => by have := (w1.nid e).1; rw [g4] at this; cases this)).trans m4'
      have m5'' : K4 i5 = _ := (fr4 i5 (by rw [m5']; simp) (fun e => (w1.nid e).2.1 h5)).trans m5'
      simp -implicitDefEqProofs only [go_sem, m5'', ow5.rd.fit, ow5.rd.cells]
      simp -implicitDefEqProofs only [go_sem, upd_ne, n54, n54.symm, m4'', ow5.rd.fit, ow5.rd.cells, w2.rd.fit, w2.rd.cells, w3.rd.fit, w3.rd.cells, w4.rd.fit, w4.rd.cells]
      have hi0 : i0 = s.cases.length := by rw [← ei0, if_pos p1]
      have hxs : xs = s.cases.map caseA := List.ext_getElem (by simpa using hnx) fun j a b => by rw [hlo j a (by omega) (by omega), List.getElem_map]
      have kk4 : ∀ k, H1 k ≠ none → nid z1 ≠ some k → K4 k = H1 k := fun k hk hz => (fr4 k (by rw [kk3 k hk]; exact hk) hz).trans (kk3 k hk)
      obtain ⟨K5, eK5⟩ : ∃ K5, upd (upd K4 i5 (some (.obj [.v (.int .i64 s.tick), r, z2, z3, z4, .s pid, .v (.bool pset), .v (.int .i64 palg), tgtA ptgt, .sl (prules.map ruleA) .no, .sl (pkids.map polA) .no, oblsA pobls, .v (.int .i64 s.version)] 34))) i4 (some (.obj [.v (.int .i64 s.tick), r, z2, z3, z4, .s pid, .v (.bool pset), .v (.int .i64 palg), tgtA ptgt, .sl (prules.map ruleA) .no, .sl (pkids.map polA) .no, oblsA pobls, .v (.int .i64 s.version)] 34)) = K5 := ⟨_, rfl⟩
      rw [eK5]
      have o5 : ∀ k, k ≠ i4 → k ≠ i5 → K5 k = K4 k := fun k a b => by rw [← eK5, upd_other _ _ a, upd_other _ _ b]
      have kk5 : ∀ k, H k = none → H1 k ≠ none → nid z1 ≠ some k → K5 k = H1 k := fun k a b c => (o5 k (hz4 k a) (hz5 k a b)).trans (kk4 k b c)
      have ow : OwE 63 H K5 5 r (List.take (findD s.cases o.case) xs ++ ([.agg [.s o.case, .s o.subj, .s openT, .sl [] .full, l']] ++ List.drop (findD s.cases o.case) xs)) := ow5.keep fun id e => o5 id (hz4 id (ow5.nid e).1) fun e5 => by
        subst e5
        rcases ap4 _ e with h | h
        · rw [m5'] at h; cases h
        · exact (w1.nid h).2.1 h5
      have ol5 : OwE 119 H K5 3 l' _ := ol.keep fun id e => by
        have h2n : K2 id = none := (ap3 id e).resolve_right (by simp [nid])
        have hz : nid z1 ≠ some id := fun e1 => by
          have := kk2 id (w1.nid e1).2.1
          rw [h2n] at this
          exact (w1.nid e1).2.1 this.symm
        rw [o5 id (hz4 id (ol.nid e).1) (fun e5 => by rw [e5, m5] at h2n; cases h2n), fr4 id (ol.nid e).2.1 hz]
      have hmc : MyCase H K5 [] (.agg [.s o.case, .s o.subj, .s openT, .sl [] .full, l']) (hapD s ⟨o.case, o.subj, openT, [], []⟩ o.subj [110, 101, 119]) := ⟨.sl [] .full, l', rfl, .inl ⟨rfl, rfl⟩, ol5, (fun i e => by cases e), fun y hy => by cases hy⟩
      have sg4 : Ab.Sub g K4 := fun k b hk => by
        have h1 := hH _ _ hk
        have h2 := s1 _ _ h1
        rw [kk4 k (by rw [h2]; simp) (fun e => by have := (w1.nid e).1; rw [h1] at this; cases this)]
        exact h2
      have sg5 : Ab.Sub g K5 := by rw [← eK5]; exact (sg4.put g5 _).put h4' _
      have hdo : doD parseD s o = { s with cases := s.cases.take (findD s.cases o.case) ++ [hapD s ⟨o.case, o.subj, openT, [], []⟩ o.subj [110, 101, 119]] ++ s.cases.drop (findD s.cases o.case) } := by simp [doD, p1]
      refine .mk _ (.refl _) (.refl _) ⟨sg5, storeA (doD parseD s o), ?_, rfl⟩
      rw [hdo]
      refine frz_fin rfl hpp rfl ?_ (((w2.keep fun id e => kk5 id (w2.nid e).1 (w2.nid e).2.1 fun e1 => a12 id e1 e).less hH).frz (pureL_map (fun _ => rfl) _)) (((w3.keep fun id e => kk5 id (w3.nid e).1 (w3.nid e).2.1 fun e1 => a13 id e1 e).less hH).frz (pureL_map (fun _ => rfl) _)) (((w4.keep fun id e => kk5 id (w4.nid e).1 (w4.nid e).2.1 fun e1 => a14 id e1 e).less hH).frz (pureL_map (fun _ => rfl) _))
      refine frz_rows (ys := List.take (findD s.cases o.case) xs ++ ([caseA (hapD s ⟨o.case, o.subj, openT, [], []⟩ o.subj [110, 101, 119])] ++ List.drop (findD s.cases o.case) xs)) ow hH (by rw [hxs]; simp [List.map_take, List.map_drop]) (by simp) ?_
      exact frz_app rfl rfl (frz_list fun x hx => by
          have := List.mem_of_mem_take hx
          rw [hxs] at this
          obtain ⟨c, _, rfl⟩ := List.mem_map.1 this
          exact frz_case c)
        (frz_app rfl rfl (frz_one (hmc.frz hH)) (frz_list fun x hx => by
          have := List.mem_of_mem_drop hx
          rw [hxs] at this
          obtain ⟨c, _, rfl⟩ := List.mem_map.1 this
          exact frz_case c))
    have k1 : (o.kind == 1) = false := by simp [p1]
    have hi0 : i0 = findD s.cases o.case := by rw [← ei0, if_neg p1]
    simp -implicitDefEqProofs only [go_sem, k1]
    by_cases p3 : o.kind = 3
    · have k3' : (o.kind == 3) = true := by simp [p3]
      simp -implicitDefEqProofs only [go_sem, k1, k3']
      have hth := ready_case p0 (.inl p3)
      have hlt := thereD_lt hth
      obtain ⟨j, ej⟩ : ∃ j, findD s.cases o.case = j := ⟨_, rfl⟩
      have hj : j < s.cases.length := by rw [← ej]; exact hlt
      have hjx : j < xs.length := by omega
      rw [ej] at hi0
      subst hi0
      obtain ⟨f, l, ex, of, ol, hap, hys⟩ := hmy hjx hj
      obtain ⟨id1, hg1, o1⟩ := w1.ow (by intro e; rw [e] at hjx; cases hjx)
      have o1' := o1
      obtain ⟨cap, rest, ey, hid, hrl, hcap, hsz⟩ := o1'
      have lA : i0 * 5 = (flatA (xs.take i0)).length := by rw [flatA_length fun z hz => hsz z (List.mem_of_mem_take hz), List.length_take]; omega
      have hidK : K id1 = some (.obj (flatA (xs.take i0) ++ (caseL s.cases[i0] f l ++ (flatA (xs.drop (i0 + 1)) ++ rest))) 63) := by
        rw [sK _ _ hid, flat_at hjx, ex]
        simp [caseL, AV.cells]
      have n14 : id1 ≠ i4 := hz4 id1 hg1
      have n13 : id1 ≠ i3 := fun e => by rw [e, g3] at hg1; cases hg1
      have n15 : id1 ≠ i5 := fun e => o1.none (by rw [e]; exact h5)
      have nf4 : ∀ k, nid f = some k → k ≠ i3 ∧ k ≠ i4 ∧ k ≠ i5 ∧ k ≠ id1 := fun k e => ⟨(fun e' => by have := (of.nid e).1; rw [e', g3] at this; cases this), hz4 k (of.nid e).1, hz5 k (of.nid e).1 (of.nid e).2.1, fun e' => (hys z1 (by simp)).1 k e (by rw [e']; exact o1.nid)⟩
      have nl4 : ∀ k, nid l = some k → k ≠ i3 ∧ k ≠ i4 ∧ k ≠ i5 ∧ k ≠ id1 := fun k e => ⟨(fun e' => by have := (ol.nid e).1; rw [e', g3] at this; cases this), hz4 k (ol.nid e).1, hz5 k (ol.nid e).1 (ol.nid e).2.1, fun e' => (hys z1 (by simp)).2 k e (by rw [e']; exact o1.nid)⟩
      have hff := hf.fields _ (List.getElem_mem hj)
      have hfl := hf.log _ (List.getElem_mem hj)
      rw [ej]
      refine .calls (pick K [i3, i5]) [0, 1, 2, 3, 4, 5, 6, 7, 8] pick_sub (by kernel_rfl) rfl ?_
      simp -implicitDefEqProofs only [go_sem, pick_at (show i3 ∈ [i3, i5] by simp), pick_at (show i5 ∈ [i3, i5] by simp), k3, k5]
      refine (o1.sub sK).idx (U := U) (e := 63) i0 rfl hjx uCase (by decide) ?_
      simp -implicitDefEqProofs only [go_sem, pick_at (show i3 ∈ [i3, i5] by simp), pick_at (show i5 ∈ [i3, i5] by simp), k3, k5]
      refine (show FnOK Tryz.prog 49 [.ptr id1 (i0 * 5), .s o.field, .agg [.v (.int .i64 o.val.kind), .v (.int .i64 o.val.n), .s o.val.s]] K _ from write_ok lA hidK (by decide) (of.sub sK) (s1.trans sK) hff o.field o.val).mono fun r K3 ⟨f', of', e1', fr3, ap3⟩ => ?_
      have kk3 : ∀ k, H1 k ≠ none → k ≠ id1 → nid f ≠ some k → K3 k = H1 k := fun k a b c => (fr3 k (by rw [kK k a]; exact a) b c).trans (kK k a)
      have m3 : K3 i3 = _ := (fr3 i3 (by rw [k3]; simp) n13.symm fun e => (nf4 _ e).1 rfl).trans k3
      have m4 : K3 i4 = _ := (fr3 i4 (by rw [k4]; simp) n14.symm fun e => (nf4 _ e).2.1 rfl).trans k4
      have m5 : K3 i5 = _ := (fr3 i5 (by rw [k5]; simp) n15.symm fun e => (nf4 _ e).2.2.1 rfl).trans k5
      refine ⟨pick_to fun k hk => ?_, ?_⟩
      · simp only [List.mem_cons, List.not_mem_nil, or_false] at hk
        rcases hk with rfl | rfl
        · rw [m3, k3]
        · rw [m5, k5]
      simp -implicitDefEqProofs only [go_sem]
      have sH3 : Ab.Sub H K3 := fun k b hk => by rw [kk3 k (by rw [s1 _ _ hk]; simp) (fun e => by rw [e, hg1] at hk; cases hk) (fun e => by have := (of.nid e).1; rw [hk] at this; cases this)]; exact s1 _ _ hk
      have ol3 : OwE 119 H K3 3 l (s.cases[i0].log.map hapA) := ol.keep fun k e => kk3 k (ol.nid e).2.1 (nl4 k e).2.2.2 (fun e1 => hap k e1 e)
      have hX5 : ∀ y1 y2 : AV, Sized 5 (xs.set i0 (.agg (caseL s.cases[i0] y1 y2))) := fun y1 y2 z hz => by
        rcases List.mem_or_eq_of_mem_set hz with hz | rfl
        · exact hsz z hz
        · rfl
      have mkO : ∀ {G : Heap} {y1 y2 : AV}, G id1 = some (.obj (flatA (xs.take i0) ++ (caseL s.cases[i0] y1 y2 ++ (flatA (xs.drop (i0 + 1)) ++ rest))) 63) → Ow 63 G 5 id1 z1 (xs.set i0 (.agg (caseL s.cases[i0] y1 y2))) := fun {G y1 y2} hG => ⟨cap, rest, by rw [List.length_set]; exact ey, by rw [hG, flat_set hjx]; simp [AV.cells], by rw [List.length_set]; exact hrl, by rw [List.length_set]; exact hcap, hX5 _ _⟩
      have hjs : ∀ x : AV, i0 < (xs.set i0 x).length := fun x => by rw [List.length_set]; exact hjx
      refine .calls (pick K3 [i3, i5]) [0, 1, 2, 3, 4, 5, 6, 7] pick_sub (by kernel_rfl) rfl ?_
      simp -implicitDefEqProofs only [go_sem, pick_at (show i3 ∈ [i3, i5] by simp), pick_at (show i5 ∈ [i3, i5] by simp), m3, m5]
      refine (mkO e1').idx (U := U) (e := 63) i0 rfl (hjs _) uCase (by decide) ?_
      simp -implicitDefEqProofs only [go_sem, pick_at (show i3 ∈ [i3, i5] by simp), pick_at (show i5 ∈ [i3, i5] by simp), m3, m5]
      have hha := happens_ok (h0 := H) (h := K3) (s := s) z1 z2 z3 z4 (k := id1) (c := s.cases[i0]) (f := f') (l := l) lA e1' (by decide) ol3 sH3 hfl o.subj [119, 114, 105, 116, 101]
      rw [hpp, hcC] at hha
      simp only [List.cons_append, List.nil_append] at hha
      refine hha.mono fun r K4 ⟨l', ol', e1'', fr4, ap4⟩ => ?_
      have m3' : K4 i3 = _ := (fr4 i3 (by rw [m3]; simp) n13.symm fun e => (nl4 _ e).1 rfl).trans m3
      have m4' : K4 i4 = _ := (fr4 i4 (by rw [m4]; simp) n14.symm fun e => (nl4 _ e).2.1 rfl).trans m4
      have m5' : K4 i5 = _ := (fr4 i5 (by rw [m5]; simp) n15.symm fun e => (nl4 _ e).2.2.1 rfl).trans m5
      refine ⟨pick_to fun k hk => ?_, ?_⟩
      · simp only [List.mem_cons, List.not_mem_nil, or_false] at hk
        rcases hk with rfl | rfl
        · rw [m3', m3]
        · rw [m5', m5]
      simp -implicitDefEqProofs only [go_sem]
      simp -implicitDefEqProofs only [go_sem, m5', m4', w1.rd.fit, w1.rd.cells, w2.rd.fit, w2.rd.cells, w3.rd.fit, w3.rd.cells, w4.rd.fit, w4.rd.cells]
      obtain ⟨K5, eK5⟩ : ∃ K5, upd K4 i4 (some (.obj [.v (.int .i64 s.tick), z1, z2, z3, z4, .s pid, .v (.bool pset), .v (.int .i64 palg), tgtA ptgt, .sl (prules.map ruleA) .no, .sl (pkids.map polA) .no, oblsA pobls, .v (.int .i64 s.version)] 34)) = K5 := ⟨_, rfl⟩
      rw [eK5]
      have o5 : ∀ k, k ≠ i4 → K5 k = K4 k := fun k a => by rw [← eK5, upd_other _ _ a]
      have kk5 : ∀ k, H k = none → H1 k ≠ none → k ≠ id1 → nid f ≠ some k → nid l ≠ some k → K5 k = H1 k := fun k a b c d e => by
        have h3 := kk3 k b c d
        rw [o5 k (hz4 k a), fr4 k (by rw [h3]; exact b) c e, h3]
      have of5 : OwE 84 H K5 4 f' _ := of'.keep fun id e => by
        have h3 := (of'.nid e).2.1
        have n1 : id ≠ id1 := fun e' => by
          rcases ap3 id e with h | h
          · rw [e', hidK] at h; cases h
          · exact (nf4 id h).2.2.2 e'
        have n2 : nid l ≠ some id := fun e' => by
          rcases ap3 id e with h | h
          · have := kK id (ol.nid e').2.1; rw [h] at this; exact (ol.nid e').2.1 this.symm
          · exact hap id h e'
        rw [o5 id (hz4 id (of'.nid e).1), fr4 id h3 n1 n2]
      have ol5 : OwE 119 H K5 3 l' _ := ol'.keep fun id e => o5 id (hz4 id (ol'.nid e).1)
      have sg4 : Ab.Sub g K4 := fun k b hk => by
        have h1 := hH _ _ hk
        rw [fr4 k (by rw [sH3 _ _ h1]; simp) (fun e => by rw [e, hg1] at h1; cases h1) (fun e => by have := (ol.nid e).1; rw [h1] at this; cases this)]
        exact sH3 _ _ h1
      have sg5 : Ab.Sub g K5 := by rw [← eK5]; exact sg4.put h4' _
      have n1' : nid z1 = some id1 := o1.nid
      have hdo : doD parseD s o = { s with cases := s.cases.modify i0 fun c => hapD s { c with fields := writeD c.fields o.field o.val } o.subj [119, 114, 105, 116, 101] } := by simp [doD, p3, ej]
      refine .mk _ (.refl _) (.refl _) ⟨sg5, storeA (doD parseD s o), ?_, rfl⟩
      rw [hdo]
      refine frz_fin rfl hpp rfl ?_ (((w2.keep fun id e => kk5 id (w2.nid e).1 (w2.nid e).2.1 (fun e1 => a12 id1 n1' (by rw [← e1]; exact e)) (fun e1 => (hys z2 (by simp)).1 id e1 e) (fun e1 => (hys z2 (by simp)).2 id e1 e)).less hH).frz (pureL_map (fun _ => rfl) _)) (((w3.keep fun id e => kk5 id (w3.nid e).1 (w3.nid e).2.1 (fun e1 => a13 id1 n1' (by rw [← e1]; exact e)) (fun e1 => (hys z3 (by simp)).1 id e1 e) (fun e1 => (hys z3 (by simp)).2 id e1 e)).less hH).frz (pureL_map (fun _ => rfl) _)) (((w4.keep fun id e => kk5 id (w4.nid e).1 (w4.nid e).2.1 (fun e1 => a14 id1 n1' (by rw [← e1]; exact e)) (fun e1 => (hys z4 (by simp)).1 id e1 e) (fun e1 => (hys z4 (by simp)).2 id e1 e)).less hH).frz (pureL_map (fun _ => rfl) _))
      exact frz_mod (X := .agg (caseL s.cases[i0] f' l')) (.inr ⟨id1, hg1, mkO ((o5 id1 n14).trans e1'')⟩) hH hnx hj (fun k h1 h2 hk => hlo k h1 h2 hk) (frz_caseL (c := hapD s { s.cases[i0] with fields := writeD s.cases[i0].fields o.field o.val } o.subj [119, 114, 105, 116, 101]) of5 ol5 hH)
    have k3' : (o.kind == 3) = false := by simp [p3]
    simp -implicitDefEqProofs only [go_sem, k1, k3']
    by_cases p4 : o.kind = 4
    · have k4' : (o.kind == 4) = true := by simp [p4]
      simp -implicitDefEqProofs only [go_sem, k1, k3', k4']
      have hth := ready_case p0 (.inr p4)
      have hlt := thereD_lt hth
      obtain ⟨j, ej⟩ : ∃ j, findD s.cases o.case = j := ⟨_, rfl⟩
      have hj : j < s.cases.length := by rw [← ej]; exact hlt
      have hjx : j < xs.length := by omega
      rw [ej] at hi0
      subst hi0
      obtain ⟨f, l, ex, of, ol, hap, hys⟩ := hmy hjx hj
      obtain ⟨id1, hg1, o1⟩ := w1.ow (by intro e; rw [e] at hjx; cases hjx)
      have o1' := o1
      obtain ⟨cap, rest, ey, hid, hrl, hcap, hsz⟩ := o1'
      have lA : i0 * 5 = (flatA (xs.take i0)).length := by rw [flatA_length fun z hz => hsz z (List.mem_of_mem_take hz), List.length_take]; omega
      have hidK : K id1 = some (.obj (flatA (xs.take i0) ++ (caseL s.cases[i0] f l ++ (flatA (xs.drop (i0 + 1)) ++ rest))) 63) := by
        rw [sK _ _ hid, flat_at hjx, ex]
        simp [caseL, AV.cells]
      have n14 : id1 ≠ i4 := hz4 id1 hg1
      have n13 : id1 ≠ i3 := fun e => by rw [e, g3] at hg1; cases hg1
      have n15 : id1 ≠ i5 := fun e => o1.none (by rw [e]; exact h5)
      have nf4 : ∀ k, nid f = some k → k ≠ i3 ∧ k ≠ i4 ∧ k ≠ i5 ∧ k ≠ id1 := fun k e => ⟨(fun e' => by have := (of.nid e).1; rw [e', g3] at this; cases this), hz4 k (of.nid e).1, hz5 k (of.nid e).1 (of.nid e).2.1, fun e' => (hys z1 (by simp)).1 k e (by rw [e']; exact o1.nid)⟩
      have nl4 : ∀ k, nid l = some k → k ≠ i3 ∧ k ≠ i4 ∧ k ≠ i5 ∧ k ≠ id1 := fun k e => ⟨(fun e' => by have := (ol.nid e).1; rw [e', g3] at this; cases this), hz4 k (ol.nid e).1, hz5 k (ol.nid e).1 (ol.nid e).2.1, fun e' => (hys z1 (by simp)).2 k e (by rw [e']; exact o1.nid)⟩
      have hff := hf.fields _ (List.getElem_mem hj)
      have hfl := hf.log _ (List.getElem_mem hj)
      rw [ej]
      simp -implicitDefEqProofs only [go_sem, k5, k3]
      refine (o1.sub sK).idx (U := U) (e := 63) i0 rfl hjx uCase (by decide) ?_
      simp -implicitDefEqProofs only [go_sem, k5, k3, hidK]
      have e2 : List.take (i0 * 5 + 2) (flatA (xs.take i0) ++ (caseL s.cases[i0] f l ++ (flatA (xs.drop (i0 + 1)) ++ rest))) ++ [.s o.to] ++ List.drop (i0 * 5 + 2 + 1) (flatA (xs.take i0) ++ (caseL s.cases[i0] f l ++ (flatA (xs.drop (i0 + 1)) ++ rest))) = flatA (xs.take i0) ++ (caseL { s.cases[i0] with state := o.to } f l ++ (flatA (xs.drop (i0 + 1)) ++ rest)) := by
        have := mid_put (A := flatA (xs.take i0) ++ [.s s.cases[i0].id, .s s.cases[i0].owner]) (B := [.s s.cases[i0].state]) (C := f :: l :: (flatA (xs.drop (i0 + 1)) ++ rest)) (X := [.s o.to]) (k := i0 * 5 + 2) (m := 1) (by rw [lA]; simp) rfl rfl
        simp only [caseL, List.append_assoc, List.cons_append, List.nil_append] at this ⊢
        exact this
      rw [e2]
      obtain ⟨K3, eK3⟩ : ∃ K3, upd K id1 (some (.obj (flatA (xs.take i0) ++ (caseL { s.cases[i0] with state := o.to } f l ++ (flatA (xs.drop (i0 + 1)) ++ rest))) 63)) = K3 := ⟨_, rfl⟩
      rw [eK3]
      refine ⟨by simp only [List.length_append, ← lA, caseL, List.length_cons, List.length_nil]; omega, ?_⟩
      have e1' : K3 id1 = some (.obj (flatA (xs.take i0) ++ (caseL { s.cases[i0] with state := o.to } f l ++ (flatA (xs.drop (i0 + 1)) ++ rest))) 63) := by rw [← eK3, upd_same]
      have fr3 : ∀ k, K k ≠ none → k ≠ id1 → nid f ≠ some k → K3 k = K k := fun k _ hk _ => by rw [← eK3, upd_other _ _ hk]
      have ap3 : ∀ k, nid f = some k → K k = none ∨ nid f = some k := fun k hk => .inr hk
      have kk3 : ∀ k, H1 k ≠ none → k ≠ id1 → nid f ≠ some k → K3 k = H1 k := fun k a b c => (fr3 k (by rw [kK k a]; exact a) b c).trans (kK k a)
      have m3 : K3 i3 = _ := (fr3 i3 (by rw [k3]; simp) n13.symm fun e => (nf4 _ e).1 rfl).trans k3
      have m4 : K3 i4 = _ := (fr3 i4 (by rw [k4]; simp) n14.symm fun e => (nf4 _ e).2.1 rfl).trans k4
      have m5 : K3 i5 = _ := (fr3 i5 (by rw [k5]; simp) n15.symm fun e => (nf4 _ e).2.2.1 rfl).trans k5
      obtain ⟨f', of', ef'⟩ : ∃ f', OwE 84 H K3 4 f' (s.cases[i0].fields.map fieldA) ∧ f = f' := ⟨f, of.keep fun k e => by rw [← eK3, upd_other _ _ (nf4 k e).2.2.2, kK k (of.nid e).2.1], rfl⟩
      rw [ef'] at e1'
      replace ap3 : ∀ k, nid f' = some k → K k = none ∨ nid f = some k := by rw [← ef']; exact ap3
      have sH3 : Ab.Sub H K3 := fun k b hk => by rw [kk3 k (by rw [s1 _ _ hk]; simp) (fun e => by rw [e, hg1] at hk; cases hk) (fun e => by have := (of.nid e).1; rw [hk] at this; cases this)]; exact s1 _ _ hk
      have ol3 : OwE 119 H K3 3 l (s.cases[i0].log.map hapA) := ol.keep fun k e => kk3 k (ol.nid e).2.1 (nl4 k e).2.2.2 (fun e1 => hap k e1 e)
      have hX5 : ∀ y1 y2 : AV, Sized 5 (xs.set i0 (.agg (caseL ({ s.cases[i0] with state := o.to } : CaseD) y1 y2))) := fun y1 y2 z hz => by
        rcases List.mem_or_eq_of_mem_set hz with hz | rfl
        · exact hsz z hz
        · rfl
      have mkO : ∀ {G : Heap} {y1 y2 : AV}, G id1 = some (.obj (flatA (xs.take i0) ++ (caseL ({ s.cases[i0] with state := o.to } : CaseD) y1 y2 ++ (flatA (xs.drop (i0 + 1)) ++ rest))) 63) → Ow 63 G 5 id1 z1 (xs.set i0 (.agg (caseL ({ s.cases[i0] with state := o.to } : CaseD) y1 y2))) := fun {G y1 y2} hG => ⟨cap, rest, by rw [List.length_set]; exact ey, by rw [hG, flat_set hjx]; simp [AV.cells], by rw [List.length_set]; exact hrl, by rw [List.length_set]; exact hcap, hX5 _ _⟩
      have hjs : ∀ x : AV, i0 < (xs.set i0 x).length := fun x => by rw [List.length_set]; exact hjx
      refine .calls (pick K3 [i3, i5]) [0, 1, 2, 3, 4, 5, 6, 7, 8, 9] pick_sub (by kernel_rfl) rfl ?_
      simp -implicitDefEqProofs only [go_sem, pick_at (show i3 ∈ [i3, i5] by simp), pick_at (show i5 ∈ [i3, i5] by simp), m3, m5]
      refine (mkO e1').idx (U := U) (e := 63) i0 rfl (hjs _) uCase (by decide) ?_
      simp -implicitDefEqProofs only [go_sem, pick_at (show i3 ∈ [i3, i5] by simp), pick_at (show i5 ∈ [i3, i5] by simp), m3, m5]
      have hha := happens_ok (h0 := H) (h := K3) (s := s) z1 z2 z3 z4 (k := id1) (c := ({ s.cases[i0] with state := o.to } : CaseD)) (f := f') (l := l) lA e1' (by decide) ol3 sH3 hfl o.subj o.to
      rw [hpp, hcC] at hha
      simp only [List.cons_append, List.nil_append] at hha
      refine hha.mono fun r K4 ⟨l', ol', e1'', fr4, ap4⟩ => ?_
      have m3' : K4 i3 = _ := (fr4 i3 (by rw [m3]; simp) n13.symm fun e => (nl4 _ e).1 rfl).trans m3
      have m4' : K4 i4 = _ := (fr4 i4 (by rw [m4]; simp) n14.symm fun e => (nl4 _ e).2.1 rfl).trans m4
      have m5' : K4 i5 = _ := (fr4 i5 (by rw [m5]; simp) n15.symm fun e => (nl4 _ e).2.2.1 rfl).trans m5
      refine ⟨pick_to fun k hk => ?_, ?_⟩
      · simp only [List.mem_cons, List.not_mem_nil, or_false] at hk
        rcases hk with rfl | rfl
        · rw [m3', m3]
        · rw [m5', m5]
      simp -implicitDefEqProofs only [go_sem]
      simp -implicitDefEqProofs only [go_sem, m5', m4', w1.rd.fit, w1.rd.cells, w2.rd.fit, w2.rd.cells, w3.rd.fit, w3.rd.cells, w4.rd.fit, w4.rd.cells]
      obtain ⟨K5, eK5⟩ : ∃ K5, upd K4 i4 (some (.obj [.v (.int .i64 s.tick), z1, z2, z3, z4, .s pid, .v (.bool pset), .v (.int .i64 palg), tgtA ptgt, .sl (prules.map ruleA) .no, .sl (pkids.map polA) .no, oblsA pobls, .v (.int .i64 s.version)] 34)) = K5 := ⟨_, rfl⟩
      rw [eK5]
      have o5 : ∀ k, k ≠ i4 → K5 k = K4 k := fun k a => by rw [← eK5, upd_other _ _ a]
      have kk5 : ∀ k, H k = none → H1 k ≠ none → k ≠ id1 → nid f ≠ some k → nid l ≠ some k → K5 k = H1 k := fun k a b c d e => by
        have h3 := kk3 k b c d
        rw [o5 k (hz4 k a), fr4 k (by rw [h3]; exact b) c e, h3]
      have of5 : OwE 84 H K5 4 f' _ := of'.keep fun id e => by
        have h3 := (of'.nid e).2.1
        have n1 : id ≠ id1 := fun e' => by
          rcases ap3 id e with h | h
          · rw [e', hidK] at h; cases h
          · exact (nf4 id h).2.2.2 e'
        have n2 : nid l ≠ some id := fun e' => by
          rcases ap3 id e with h | h
          · have := kK id (ol.nid e').2.1; rw [h] at this; exact (ol.nid e').2.1 this.symm
          · exact hap id h e'
        rw [o5 id (hz4 id (of'.nid e).1), fr4 id h3 n1 n2]
      have ol5 : OwE 119 H K5 3 l' _ := ol'.keep fun id e => o5 id (hz4 id (ol'.nid e).1)
      have sg4 : Ab.Sub g K4 := fun k b hk => by
        have h1 := hH _ _ hk
        rw [fr4 k (by rw [sH3 _ _ h1]; simp) (fun e => by rw [e, hg1] at h1; cases h1) (fun e => by have := (ol.nid e).1; rw [h1] at this; cases this)]
        exact sH3 _ _ h1
      have sg5 : Ab.Sub g K5 := by rw [← eK5]; exact sg4.put h4' _
      have n1' : nid z1 = some id1 := o1.nid
      have hdo : doD parseD s o = { s with cases := s.cases.modify i0 fun c => hapD s { c with state := o.to } o.subj o.to } := by simp [doD, p4, ej]
      refine .mk _ (.refl _) (.refl _) ⟨sg5, storeA (doD parseD s o), ?_, rfl⟩
      rw [hdo]
      refine frz_fin rfl hpp rfl ?_ (((w2.keep fun id e => kk5 id (w2.nid e).1 (w2.nid e).2.1 (fun e1 => a12 id1 n1' (by rw [← e1]; exact e)) (fun e1 => (hys z2 (by simp)).1 id e1 e) (fun e1 => (hys z2 (by simp)).2 id e1 e)).less hH).frz (pureL_map (fun _ => rfl) _)) (((w3.keep fun id e => kk5 id (w3.nid e).1 (w3.nid e).2.1 (fun e1 => a13 id1 n1' (by rw [← e1]; exact e)) (fun e1 => (hys z3 (by simp)).1 id e1 e) (fun e1 => (hys z3 (by simp)).2 id e1 e)).less hH).frz (pureL_map (fun _ => rfl) _)) (((w4.keep fun id e => kk5 id (w4.nid e).1 (w4.nid e).2.1 (fun e1 => a14 id1 n1' (by rw [← e1]; exact e)) (fun e1 => (hys z4 (by simp)).1 id e1 e) (fun e1 => (hys z4 (by simp)).2 id e1 e)).less hH).frz (pureL_map (fun _ => rfl) _))
      exact frz_mod (X := .agg (caseL ({ s.cases[i0] with state := o.to } : CaseD) f' l')) (.inr ⟨id1, hg1, mkO ((o5 id1 n14).trans e1'')⟩) hH hnx hj (fun k h1 h2 hk => hlo k h1 h2 hk) (frz_caseL (c := hapD s { s.cases[i0] with state := o.to } o.subj o.to) of5 ol5 hH)
    have k4' : (o.kind == 4) = false := by simp [p4]
    simp -implicitDefEqProofs only [go_sem, k1, k3', k4']
    have kkK : ∀ k, H k = none → H1 k ≠ none → K k = H1 k := fun k _ b => kK k b
    by_cases p5 : o.kind = 5
    · have k5' : (o.kind == 5) = true := by simp [p5]
      simp -implicitDefEqProofs only [go_sem, k1, k3', k4', k5']
      have hrv : 0 < o.review := by
        simp only [formD, takesD, Bool.and_eq_true] at hform
        simpa [okD, p5] using hform.2.1.2
      obtain ⟨n, en⟩ : ∃ n : Nat, o.review = ((n : Nat) : Int) + 1 := ⟨(o.review - 1).toNat, by omega⟩
      have w5 : IntKind.i64.wrap (o.review - 1) = ((n : Nat) : Int) := by rw [wr64 _ (by have := hr.2; omega)]; omega
      have hn5 : n < s.reviews.length := by
        have : readyCloseD s o = 0 := by simpa [readyD, hform, p5] using p0
        unfold readyCloseD at this
        have e1 : revAt s.reviews o.review = s.reviews[n]? := by unfold revAt; rw [if_pos (by omega), show (o.review - 1).toNat = n by omega]
        rw [e1] at this
        by_cases hlt : n < s.reviews.length
        · exact hlt
        · rw [List.getElem?_eq_none (by omega)] at this; cases this
      have hnm : n < (s.reviews.map revA).length := by simpa using hn5
      obtain ⟨id2, hg2, o2⟩ := w2.ow (by intro e; rw [e] at hnm; cases hnm)
      have o2' := o2
      obtain ⟨cap, rest, ey, hid, hrl, hcap, hsz⟩ := o2'
      have n24 : id2 ≠ i4 := hz4 id2 hg2
      have n25 : id2 ≠ i5 := hz5 id2 hg2 o2.none
      have hidK := sK _ _ hid
      simp -implicitDefEqProofs only [go_sem, k5, k3, w5]
      refine (o2.sub sK).idx (U := U) (e := 105) n rfl hnm (by simp only [go_sem]) (by decide) ?_
      simp -implicitDefEqProofs only [go_sem, k5, k3, w5, hidK]
      have e2 : List.take (n * 7 + 6) (flatA (s.reviews.map revA) ++ rest) ++ [.v (.bool false)] ++ List.drop (n * 7 + 6 + 1) (flatA (s.reviews.map revA) ++ rest) = flatA ((s.reviews.modify n fun r => { r with isOpen := false }).map revA) ++ rest := by
        refine (put_flat hsz n hnm 6 [.v (.bool false)] (Nat.le_of_ble_eq_true rfl)).trans ?_
        congr 2
        refine List.ext_getElem (by simp) fun j h1 h2 => ?_
        by_cases e : j = n
        · subst e; simp [List.getElem_modify, revA, AV.cells, Ab.over]
        · rw [List.getElem_set_ne (Ne.symm e)]; simp [List.getElem_modify, Ne.symm e]
      rw [e2]
      refine ⟨by rw [List.length_append, flatA_length hsz]; omega, ?_⟩
      have k5b : ∀ b, upd K id2 b i5 = _ := fun b => (upd_other _ _ n25.symm).trans k5
      have k4b : ∀ b, upd K id2 b i4 = _ := fun b => (upd_other _ _ n24.symm).trans k4
      simp -implicitDefEqProofs only [go_sem, k5b, k4b, w1.rd.fit, w1.rd.cells, w2.rd.fit, w2.rd.cells, w3.rd.fit, w3.rd.cells, w4.rd.fit, w4.rd.cells]
      have hdo : doD parseD s o = { s with reviews := s.reviews.modify n fun r => { r with isOpen := false } } := by simp [doD, p5, en]
      have kz : ∀ a b k, H k = none → H1 k ≠ none → nid z2 ≠ some k → upd (upd K id2 a) i4 b k = H1 k := fun a b k c d e => by rw [upd_other _ _ (hz4 k c), upd_other _ _ (fun e' => e (by rw [e']; exact o2.nid)), kK k d]
      refine .mk _ (.refl _) (.refl _) ⟨(Sub.put (i := id2) sg (hH.none hg2) _).put h4' _, storeA (doD parseD s o), ?_, rfl⟩
      rw [hdo]
      refine frz_fin rfl hpp rfl ((hC.keepx (z := z2) (by simp) a12 (kz _ _)).frz hH) (OwE.frz (xs := (s.reviews.modify n fun r => { r with isOpen := false }).map revA) (.inr ⟨id2, hH.none hg2, cap, rest, by rw [ey]; simp, by rw [upd_other _ _ n24, upd_same], by rw [hrl]; simp, by simpa using hcap, sized_map (f := revA) (n := 7) (fun _ => rfl) _⟩) (pureL_map (fun _ => rfl) _)) (((w3.keep fun id e => kz _ _ id (w3.nid e).1 (w3.nid e).2.1 fun e1 => a23 id e1 e).less hH).frz (pureL_map (fun _ => rfl) _)) (((w4.keep fun id e => kz _ _ id (w4.nid e).1 (w4.nid e).2.1 fun e1 => a24 id e1 e).less hH).frz (pureL_map (fun _ => rfl) _))
    have k5' : (o.kind == 5) = false := by simp [p5]
    simp -implicitDefEqProofs only [go_sem, k1, k3', k4', k5']
    by_cases p6 : o.kind = 6
    · have k6' : (o.kind == 6) = true := by simp [p6]
      simp -implicitDefEqProofs only [go_sem, k1, k3', k4', k5', k6']
      simp -implicitDefEqProofs only [go_sem, k5, k3]
      have hha6 := has_ok hSK.rd o.case o.field (Nat.le_trans hf.roles (by decide))
      rw [hpp, hcC] at hha6
      simp only [List.cons_append, List.nil_append] at hha6
      refine hha6.pthen ?_
      cases dha : hasD s.roles ⟨o.case, o.field⟩
      · simp -implicitDefEqProofs only [go_sem, dha]
        simp -implicitDefEqProofs only [go_sem, k5, k3]
        have hap1 : Rd K 2 (.sl [roleA ⟨o.case, o.field⟩] .full) [roleA ⟨o.case, o.field⟩] := .sl (by intro z hz; rw [List.mem_singleton.1 hz]; rfl) .full
        have hfr := hf.roles
        refine OwE.app (U := U) (tb := 75) (w4.sub sK) (s1.trans sK) hap1 (by simp only [go_sem]) (by decide) (by simp only [go_sem, ne_eq, not_false_eq_true]) (by simp only [go_sem]) (by simp) (by simp only [go_sem, List.length_cons, List.length_nil, List.length_map]; omega) fun id4 y' K3 g4' hor hw ho2 => ?_
        have hor' : K id4 = none ∨ nid z4 = some id4 := by
          rcases hor with hor | ⟨l, c, ey⟩
          · exact .inl hor
          · exact .inr (by rw [ey]; rfl)
        have n44 : i4 ≠ id4 := fun e => by rw [← e, g4] at g4'; cases g4'
        have n45 : i5 ≠ id4 := fun e => by
          rcases hor' with hor | hor
          · rw [← e, k5] at hor; cases hor
          · exact (w4.nid hor).2.1 (by rw [← e]; exact h5)
        have m4 : K3 i4 = _ := (ho2 i4 n44).trans k4
        have m5 : K3 i5 = _ := (ho2 i5 n45).trans k5
        simp -implicitDefEqProofs only [go_sem, m5, hw.rd.fit, hw.rd.cells]
        simp -implicitDefEqProofs only [go_sem, upd_ne, n54, n54.symm, m4, hw.rd.fit, hw.rd.cells, w1.rd.fit, w1.rd.cells, w2.rd.fit, w2.rd.cells, w3.rd.fit, w3.rd.cells, w4.rd.fit, w4.rd.cells]
        have hdo : doD parseD s o = { s with roles := s.roles ++ [⟨o.case, o.field⟩] } := by simp [doD, p6, dha]
        have gid4 : g id4 = none := hH.none g4'
        have kz : ∀ a b k, H k = none → H1 k ≠ none → nid z4 ≠ some k → upd (upd K3 i5 a) i4 b k = H1 k := fun a b k c d e => by
          have : k ≠ id4 := fun e' => by
            rcases hor' with hor | hor
            · have := kK k d; rw [e', hor] at this; exact d (by rw [e']; exact this.symm)
            · exact e (by rw [e']; exact hor)
          rw [upd_other _ _ (hz4 k c), upd_other _ _ (hz5 k c d), ho2 k this, kK k d]
        have sg3 : Ab.Sub g K3 := fun k b hk => by rw [ho2 k (fun e => by rw [e, gid4] at hk; cases hk)]; exact sg _ _ hk
        refine .mk _ (.refl _) (.refl _) ⟨(sg3.put g5 _).put h4' _, storeA (doD parseD s o), ?_, rfl⟩
        rw [hdo]
        refine frz_fin rfl hpp rfl ((hC.keepx (z := z4) (by simp) a14 (kz _ _)).frz hH) (((w2.keep fun id e => kz _ _ id (w2.nid e).1 (w2.nid e).2.1 fun e1 => a24 id e e1).less hH).frz (pureL_map (fun _ => rfl) _)) (((w3.keep fun id e => kz _ _ id (w3.nid e).1 (w3.nid e).2.1 fun e1 => a34 id e e1).less hH).frz (pureL_map (fun _ => rfl) _)) ?_
        have hw' : OwE 75 g K3 2 y' ((s.roles ++ [(⟨o.case, o.field⟩ : RoleD)]).map roleA) := by rw [List.map_append]; exact .inr ⟨id4, gid4, hw⟩
        refine (hw'.keep fun id e => ?_).frz (pureL_map (fun _ => rfl) _)
        have : id = id4 := by have := hw.nid; rw [e] at this; exact Option.some.inj this
        rw [this, upd_other _ _ n44.symm, upd_other _ _ n45.symm]
      · simp -implicitDefEqProofs only [go_sem, dha]
        simp -implicitDefEqProofs only [go_sem, k5, k4, w1.rd.fit, w1.rd.cells, w2.rd.fit, w2.rd.cells, w3.rd.fit, w3.rd.cells, w4.rd.fit, w4.rd.cells]
        have hdo : doD parseD s o = s := by simp [doD, p6, dha]
        rw [hdo]
        refine .mk _ (.refl _) (.refl _) ⟨sg.put h4' _, _, (hS.keepb fun k hk hk1 => ?_).frz hH, rfl⟩
        rw [upd_other _ _ (hz4 k hk), kK k hk1]
    have k6' : (o.kind == 6) = false := by simp [p6]
    simp -implicitDefEqProofs only [go_sem, k1, k3', k4', k5', k6']
    by_cases p7 : o.kind = 7
    · have k7' : (o.kind == 7) = true := by simp [p7]
      simp -implicitDefEqProofs only [go_sem, k1, k3', k4', k5', k6', k7']
      simp -implicitDefEqProofs only [go_sem, k3]
      refine (parse_ok o.text _ (he.sub sg)).pthen ?_
      obtain ⟨⟨pp, e, a⟩, epp⟩ : ∃ x, parseD o.text = x := ⟨_, rfl⟩
      obtain ⟨qid, qset, qalg, qtgt, qrules, qkids, qobls⟩ := pp
      rw [epp]
      simp -implicitDefEqProofs only [go_sem, parsedA, polA, kidsA_eq]
      intro i9 h9
      have n95 : i5 ≠ i9 := fun e => by rw [← e, k5] at h9; cases h9
      have n94 : i4 ≠ i9 := fun e => by rw [← e, k4] at h9; cases h9
      simp -implicitDefEqProofs only [go_sem]
      have g9 : g i9 = none := sg.none h9
      have sg9 : ∀ b, Ab.Sub g (upd K i9 b) := fun b => sg.put g9 b
      have hz9 : ∀ k, H1 k ≠ none → k ≠ i9 := fun k hk e => hk (by have := kK k hk; rw [e, h9] at this; rw [e]; exact this.symm)
      by_cases pe : e = 0
      · have de : (e == 0) = true := by simp [pe]
        have wv : IntKind.i64.wrap (s.version + 1) = s.version + 1 := wr64 _ (by omega)
        simp -implicitDefEqProofs only [go_sem, de]
        simp -implicitDefEqProofs only [go_sem, upd_ne, n95, n95.symm, n94, n94.symm, n54, n54.symm, k5, k4, wv]
        have hdo : doD parseD s o = { s with policy := .mk qid qset qalg qtgt qrules qkids qobls, version := s.version + 1 } := by simp [doD, p7, epp, pe]
        have kz : ∀ a b c k, H k = none → H1 k ≠ none → upd (upd (upd K i9 a) i5 b) i4 c k = H1 k := fun a b c k d e => by rw [upd_other _ _ (hz4 k d), upd_other _ _ (hz5 k d e), upd_other _ _ (hz9 k e), kK k e]
        refine .mk _ (.refl _) (.refl _) ⟨((sg9 _).put g5 _).put h4' _, storeA (doD parseD s o), ?_, rfl⟩
        rw [hdo]
        exact frz_fin rfl rfl rfl ((hC.keepb (kz _ _ _)).frz hH) (((w2.keepb (kz _ _ _)).less hH).frz (pureL_map (fun _ => rfl) _)) (((w3.keepb (kz _ _ _)).less hH).frz (pureL_map (fun _ => rfl) _)) (((w4.keepb (kz _ _ _)).less hH).frz (pureL_map (fun _ => rfl) _))
      · have de : (e == 0) = false := by simp [pe]
        simp -implicitDefEqProofs only [go_sem, de]
        simp -implicitDefEqProofs only [go_sem, upd_ne, n95, n95.symm, n94, n94.symm, n54, n54.symm, k5, k4, w1.rd.fit, w1.rd.cells, w2.rd.fit, w2.rd.cells, w3.rd.fit, w3.rd.cells, w4.rd.fit, w4.rd.cells]
        have hdo : doD parseD s o = s := by simp [doD, p7, epp, pe]
        rw [hdo]
        refine .mk _ (.refl _) (.refl _) ⟨(sg9 _).put h4' _, _, (hS.keepb fun k hk hk1 => ?_).frz hH, rfl⟩
        rw [upd_other _ _ (hz4 k hk), upd_other _ _ (hz9 k hk1), kK k hk1]
    have k7' : (o.kind == 7) = false := by simp [p7]
    simp -implicitDefEqProofs only [go_sem, k1, k3', k4', k5', k6', k7']
    by_cases p8 : o.kind = 8
    · have k8' : (o.kind == 8) = true := by simp [p8]
      simp -implicitDefEqProofs only [go_sem, k1, k3', k4', k5', k6', k7', k8']
      have hrv : 0 < o.review ∧ o.review ≤ 1099511627776 := by
        simp only [formD, takesD, Bool.and_eq_true] at hform
        simpa [okD, p8] using hform.2.1.2
      have htk : ¬ s.tick > 1099511627776 - o.review := by
        intro hgt
        simp [readyD, hform, p8, hgt] at p0
      have w8 : IntKind.i64.wrap (s.tick + o.review) = s.tick + o.review := wr64 _ (by have := ht.1; omega)
      simp -implicitDefEqProofs only [go_sem, k5, k3, w8]
      simp -implicitDefEqProofs only [go_sem, upd_ne, n54, n54.symm, k4, w1.rd.fit, w1.rd.cells, w2.rd.fit, w2.rd.cells, w3.rd.fit, w3.rd.cells, w4.rd.fit, w4.rd.cells]
      have hdo : doD parseD s o = { s with tick := s.tick + o.review } := by simp [doD, p8]
      have kz : ∀ a b k, H k = none → H1 k ≠ none → upd (upd K i5 a) i4 b k = H1 k := fun a b k c d => by rw [upd_other _ _ (hz4 k c), upd_other _ _ (hz5 k c d), kK k d]
      refine .mk _ (.refl _) (.refl _) ⟨(sg.put g5 _).put h4' _, storeA (doD parseD s o), ?_, rfl⟩
      rw [hdo]
      exact frz_fin rfl hpp rfl ((hC.keepb (kz _ _)).frz hH) (((w2.keepb (kz _ _)).less hH).frz (pureL_map (fun _ => rfl) _)) (((w3.keepb (kz _ _)).less hH).frz (pureL_map (fun _ => rfl) _)) (((w4.keepb (kz _ _)).less hH).frz (pureL_map (fun _ => rfl) _))
    have k8' : (o.kind == 8) = false := by simp [p8]
    simp -implicitDefEqProofs only [go_sem, k1, k3', k4', k5', k6', k7', k8']
    simp -implicitDefEqProofs only [go_sem, k5, k4, w1.rd.fit, w1.rd.cells, w2.rd.fit, w2.rd.cells, w3.rd.fit, w3.rd.cells, w4.rd.fit, w4.rd.cells]
    have hdo : doD parseD s o = s := by simp [doD, p1, p3, p4, p5, p6, p7, p8]
    rw [hdo]
    refine .mk _ (.refl _) (.refl _) ⟨sg.put h4' _, _, (hS.keepb fun k hk hk1 => ?_).frz hH, rfl⟩
    rw [upd_other _ _ (hz4 k hk), kK k hk1]
  · have d0 : (readyD s o != 0) = true := by simp [p0]
    simp -implicitDefEqProofs only [go_sem, d0]
    simp -implicitDefEqProofs only [go_sem, k5, k4, w1.rd.fit, w1.rd.cells, w2.rd.fit, w2.rd.cells, w3.rd.fit, w3.rd.cells, w4.rd.fit, w4.rd.cells]
    have hdone : doneD parseD s o = s := by simp [doneD, p0]
    rw [hdone]
    refine .mk _ (.refl _) (.refl _) ⟨sg.put h4' _, _, (hS.keepb fun k hk hk1 => ?_).frz hH, rfl⟩
    rw [upd_other _ _ (hz4 k hk), kK k hk1]
end Go.Proofs.YtnhelgnmadbpgaaGreatDoor

set_option linter.unusedSimpArgs false
set_option linter.unusedVariables false
namespace Go.Bf
def leastT : Txt := [112, 111, 108, 105, 99, 121, 32, 111, 112, 101, 110, 32, 112, 101, 114, 109, 105, 116, 117, 110, 108, 101, 115, 115, 32, 123, 32, 125]
def leastP : PolD := .mk openT false 6 [] [] [] []
def newD : StoreD := ⟨0, [], [], [], [], leastP, 0⟩
end Go.Bf
namespace Go.Proofs.YtnhelgnmadbpgaaGreatDoor
open Go Go.Ab Go.Bf
theorem upd_comm' {H : Heap} {i j : Nat} {a b : Option Blk} (c : Option Blk) (h : i ≠ j) : upd (upd (upd H i a) j b) i c = upd (upd H i c) j b := by
  funext k
  by_cases e : k = i
  · rw [e, upd_same, upd_other _ _ h, upd_same]
  · rw [upd_other _ _ e]
    by_cases e2 : k = j
    · rw [e2, upd_same, upd_same]
    · rw [upd_other _ _ e2, upd_other _ _ e2, upd_other _ _ e, upd_other _ _ e]
theorem least_is : parseD leastT = (leastP, 0, 0) := by kernel_rfl
theorem least_polE : polE 1 leastP := by
  unfold leastP polE
  exact ⟨by decide, by decide, by decide, by decide, fun h => (by cases h), fun _ => ⟨rfl, by decide⟩, rfl, rfl, by decide, by decide, fun r hr => (by cases hr), trivial⟩
theorem few_new : Few newD := ⟨by decide, fun c hc => (by cases hc), fun c hc => (by cases hc), by decide, by decide, by decide⟩
theorem new_ok (h : Heap) (he : ErrT h) : FnOK Tryz.prog 13 [] h fun r h' => r = storeA newD ∧ h' = h :=
  FnOK.freeze fun g hg _ => by
  replace he := he.sub hg
  refine FnOK.body hU hm Tryz.func13 rfl (by kernel_rfl) 11 rfl [.cell 0 34] rfl (Nat.le_of_ble_eq_true rfl) (fun hwf => ?_)
  simp -implicitDefEqProofs only [go_sem]
  intro i1 h1
  simp -implicitDefEqProofs only [go_sem]
  refine (parse_ok leastT _ (he.sub (.upd_new h1))).pthen ?_
  rw [least_is]
  simp -implicitDefEqProofs only [go_sem, parsedA, leastP, polA, tgtA, oblsA, kidsA, openT, List.map_nil]
  intro i2 h2
  have n21 := ne_upd h2
  have n2 := upd_none h2
  simp -implicitDefEqProofs only [go_sem, upd_ne, n21, n21.symm]
  refine .mk _ (.refl _) (.refl _) ⟨?_, storeA newD, frz_fin (S := newD) rfl rfl rfl frz_empty frz_empty frz_empty frz_empty, rfl⟩
  rw [upd_comm' _ n21.symm]
  exact ((Sub.refl g).put h1 _).put n2 _
theorem id_ok (s : Txt) (h : Heap) : FnOK Tryz.prog 50 [.s s] h fun r h' => r = valA (idV s) ∧ h' = h := by
  refine FnOK.body hU hm Tryz.func50 rfl (by kernel_rfl) 5 rfl [.cell 2 38] rfl (Nat.le_of_ble_eq_true rfl) (fun hwf => ?_)
  simp -implicitDefEqProofs only [go_sem]
  intro i1 h1
  simp -implicitDefEqProofs only [go_sem]
  exact .mk _ (.refl _) (.upd_new h1) ⟨rfl, rfl⟩
theorem given_ok (cat : Int) (name : Txt) (xs : List AV) (q : Perm) (h : Heap) : FnOK Tryz.prog 51 [.v (.int .i64 cat), .s name, .sl xs q] h fun r h' => r = .agg [.v (.int .i64 cat), .s name, .sl xs q] ∧ h' = h := by
  refine FnOK.body hU hm Tryz.func51 rfl (by kernel_rfl) 11 rfl [.cell 6 43] rfl (Nat.le_of_ble_eq_true rfl) (fun hwf => ?_)
  simp -implicitDefEqProofs only [go_sem]
  intro i1 h1
  simp -implicitDefEqProofs only [go_sem]
  exact .mk _ (.refl _) (.upd_new h1) ⟨rfl, rfl⟩
theorem lgiven_ok (cat : Int) (name : Txt) (k n : Int) (s : Txt) (h : Heap) : FnOK Tryz.prog 15 [.v (.int .i64 cat), .s name, .v (.int .i64 k), .v (.int .i64 n), .s s] h fun r h' => r = .agg [.v (.int .i64 cat), .s name, .sl [valA ⟨k, n, s⟩] .full] ∧ h' = h := by
  refine FnOK.body hU hm Tryz.func15 rfl (by kernel_rfl) 19 rfl [.cell 10 43] rfl (Nat.le_of_ble_eq_true rfl) (fun hwf => ?_)
  simp -implicitDefEqProofs only [go_sem]
  intro i1 h1
  simp -implicitDefEqProofs only [go_sem]
  exact .mk _ (.refl _) (.upd_new h1) ⟨rfl, rfl⟩
theorem ixHap_ok {α : Type} (y : AV) (xs : List AV) (ds : List α) (q : α → Bool) (g : FuncId) (cap : List AV) (h : Heap) (hb : Rd h 3 y xs) (hn : xs.length = ds.length) (hl : xs.length ≤ 1000000000) (hx : ∀ x ∈ xs, isAggA x = true)
    (hp : ∀ i (h1 : i < xs.length) (h2 : i < ds.length), FnOK Tryz.prog g (xs[i] :: cap) h fun r h' => r = .v (.bool (q ds[i])) ∧ h' = h) :
    FnOK Tryz.prog 166 [y, .fn g cap] h fun r h' => r = .v (.int .i64 (ixD q ds)) ∧ h' = h := by
  refine FnOK.body hU hm Tryz.func166 rfl (by kernel_rfl) 19 rfl [.tmp 4] rfl (Nat.le_of_ble_eq_true rfl) (fun hwf => ?_)
  simp -implicitDefEqProofs only [go_sem, hb.len]
  refine .intro (fun m ρ h' => h' = h ∧ ∃ i : Nat, i ≤ xs.length ∧ m = xs.length - i ∧ (∀ j (hj : j < i) (h2 : j < ds.length), q ds[j] = false) ∧ lk ρ 0 = some y ∧ lk ρ 1 = some (.fn g cap) ∧ lk ρ 7 = some (.v (.int .i64 xs.length)) ∧ lk ρ 8 = some (.v (.int .i64 i))) xs.length ?_ ?_
  · refine ⟨rfl, 0, by omega, rfl, fun j hj => (by omega), ?_, ?_, ?_, ?_⟩ <;> simp -implicitDefEqProofs only [go_sem]
  · rintro m ρ h' ⟨rfl, i, hi, rfl, hc, r0, r1, r7, r8⟩
    simp -implicitDefEqProofs only [go_sem, r0, r1, r7, r8]
    refine .intro (fun e => ?_) (fun e => ?_)
    · have hlt : i < xs.length := Int.ofNat_lt.1 (of_decide_eq_true e)
      have hlt2 : i < ds.length := by omega
      have w1 : IntKind.i64.wrap ((i : Int) + 1) = ((i + 1 : Nat) : Int) := by rw [wr64 _ (by omega)]; omega
      simp -implicitDefEqProofs only [go_sem, r0, r1, r7, r8]
      refine hb.idx (e := 119) i rfl hlt (by simp only [go_sem]) (by decide) fun p hp1 => ?_
      have hld := hp1.all (U := U) (ty := 119) (by simp only [go_sem]) (by simp only [go_sem]; exact hb.1 _ (List.getElem_mem hlt)) (by simp only [go_sem]; rw [hx _ (List.getElem_mem hlt)])
      simp -implicitDefEqProofs only [go_sem, r0, r1, r7, r8, hld]
      refine (show FnOK Tryz.prog g (xs[i] :: cap) _ _ from hp i hlt hlt2).pthen ?_
      cases d1 : q ds[i]
      · simp -implicitDefEqProofs only [go_sem, r0, r1, r7, r8, w1]
        refine ⟨_, ?_, rfl, i + 1, by omega, rfl, fun j hj h2 => ?_, ?_, ?_, ?_, ?_⟩
        · omega
        · by_cases hji : j = i
          · subst hji; exact d1
          · exact hc j (by omega) h2
        all_goals simp -implicitDefEqProofs only [go_sem, r0, r1, r7, r8, w1]
      · simp -implicitDefEqProofs only [go_sem, r0, r1, r7, r8]
        exact .same (.refl _) ⟨by rw [ixD_at hlt2 d1 fun j hj => hc j hj (by omega)]; rfl, rfl⟩
    · have hge : i = xs.length := by have := of_decide_eq_false e; omega
      simp -implicitDefEqProofs only [go_sem, r0, r1, r7, r8]
      exact .same (.refl _) ⟨by rw [ixD_none fun j hj => hc j (by omega) hj]; rfl, rfl⟩
theorem took1_ok {h : Heap} (x : HapD) {k : Nat} {subj : Txt} (hk : h k = some (.obj [.s subj] 9)) : FnOK Tryz.prog 132 [hapA x, .ptr k 0] h fun r h' => r = .v (.bool (x.actor == subj)) ∧ h' = h := by
  refine FnOK.body hU hm Tryz.func132 rfl (by kernel_rfl) 8 rfl [.tmp 3] rfl (Nat.le_of_ble_eq_true rfl) (fun hwf => ?_)
  simp -implicitDefEqProofs only [go_sem, hapA]
  intro i1 h1
  have n1 : k ≠ i1 := fun e => by subst e; rw [hk] at h1; cases h1
  simp -implicitDefEqProofs only [go_sem, upd_ne, n1, n1.symm, hk]
  exact .mk _ (.refl _) (.upd_new h1) ⟨rfl, rfl⟩
theorem any_ix {α : Type} (q : α → Bool) (l : List α) : decide ((0 : Int) ≤ ixD q l) = l.any q := by
  unfold ixD
  by_cases h : l.findIdx q < l.length
  · rw [if_pos h, decide_eq_true (by omega)]
    exact (List.any_eq_true.2 ⟨_, List.getElem_mem h, List.findIdx_getElem (w := h)⟩).symm
  · rw [if_neg h]
    have e : l.findIdx q = l.length := by
      have : l.findIdx q ≤ l.length := List.findIdx_le_length
      omega
    have := List.findIdx_eq_length.1 e
    rw [decide_eq_false (by decide)]
    exact (List.any_eq_false.2 fun x hx => by rw [this x hx]; decide).symm
theorem hasHap_ok (y : AV) (ds : List HapD) (q : HapD → Bool) (g : FuncId) (cap : List AV) (h : Heap) (hb : Rd h 3 y (ds.map hapA)) (hl : ds.length ≤ 1000000000)
    (hp : ∀ i (h2 : i < ds.length), FnOK Tryz.prog g (hapA ds[i] :: cap) h fun r h' => r = .v (.bool (q ds[i])) ∧ h' = h) :
    FnOK Tryz.prog 131 [y, .fn g cap] h fun r h' => r = .v (.bool (ds.any q)) ∧ h' = h := by
  refine FnOK.body hU hm Tryz.func131 rfl (by kernel_rfl) 9 rfl [.tmp 4] rfl (Nat.le_of_ble_eq_true rfl) (fun hwf => ?_)
  simp -implicitDefEqProofs only [go_sem]
  refine (ixHap_ok y _ ds q g cap h hb (by simp) (by simpa using hl) (agg_map (fun _ => rfl) _) fun i a b => by rw [List.getElem_map]; exact hp i b).pthen ?_
  simp -implicitDefEqProofs only [go_sem, any_ix]
  exact .same (.refl _) ⟨rfl, rfl⟩
theorem took_ok {h : Heap} {x : AV} {c : CaseD} (hb : RdC h x c) (subj : Txt) (hl : c.log.length ≤ 1000000000) : FnOK Tryz.prog 97 [x, .s subj] h fun r h' => r = valA (tookD c.log subj) ∧ h' = h := by
  obtain ⟨f, l, rfl, hf, hlg⟩ := hb
  refine FnOK.body hU hm Tryz.func97 rfl (by kernel_rfl) 13 rfl [.cell 4 38] rfl (Nat.le_of_ble_eq_true rfl) (fun hwf => ?_)
  simp -implicitDefEqProofs only [go_sem]
  intro i1 h1
  simp -implicitDefEqProofs only [go_sem]
  intro i2 h2
  have n21 := ne_upd h2
  have n2 := upd_none h2
  simp -implicitDefEqProofs only [go_sem, upd_ne, n21, n21.symm]
  intro i3 h3
  have n32 := ne_upd h3
  have h3' := upd_none h3
  have n31 := ne_upd h3'
  have n3 := upd_none h3'
  simp -implicitDefEqProofs only [go_sem, upd_ne, n21, n21.symm, n31, n31.symm, n32, n32.symm]
  intro i4 h4
  have n43 := ne_upd h4
  have h4' := upd_none h4
  have n42 := ne_upd h4'
  have h4'' := upd_none h4'
  have n41 := ne_upd h4''
  have n4 := upd_none h4''
  have hs : ∀ a b d e, Ab.Sub h (upd (upd (upd (upd h i1 a) i2 b) i3 d) i4 e) := fun a b d e => ((((Sub.refl h).put h1 a).put n2 b).put n3 d).put n4 e
  simp -implicitDefEqProofs only [go_sem, upd_ne, n21, n21.symm, n31, n31.symm, n32, n32.symm, n41, n41.symm, n42, n42.symm, n43, n43.symm]
  refine (hasHap_ok l c.log (fun x => x.actor == subj) _ [.ptr i2 0] _ (hlg.sub (hs _ _ _ _)) hl fun i b => took1_ok _ (by simp only [upd_ne, n42.symm, n32.symm, upd_same', not_false_eq_true])).pthen ?_
  cases d1 : c.log.any fun x => x.actor == subj
  · simp -implicitDefEqProofs only [go_sem, upd_ne, n21, n21.symm, n31, n31.symm, n32, n32.symm, n41, n41.symm, n42, n42.symm, n43, n43.symm, d1]
    exact .mk _ (.refl _) (by repeat' first | exact .refl _ | (refine Sub.put ?_ (by assumption) _)) ⟨by simp [tookD, d1, valA, oneOr], rfl⟩
  · simp -implicitDefEqProofs only [go_sem, upd_ne, n21, n21.symm, n31, n31.symm, n32, n32.symm, n41, n41.symm, n42, n42.symm, n43, n43.symm, d1]
    exact .mk _ (.refl _) (by repeat' first | exact .refl _ | (refine Sub.put ?_ (by assumption) _)) ⟨by simp [tookD, d1, valA, oneOr], rfl⟩
end Go.Proofs.YtnhelgnmadbpgaaGreatDoor

set_option linter.unusedSimpArgs false
set_option linter.unusedVariables false
namespace Go.Proofs.YtnhelgnmadbpgaaGreatDoor
open Go Go.Ab Go.Bf
def givQ (g : GivD) (q : Perm) : AV := .agg [.v (.int .i64 g.cat), .s g.name, .sl (g.bag.map valA) q]
def GRow (ys : List AV) (gs : List GivD) : Prop := ys.length = gs.length ∧ ∀ j (h1 : j < ys.length) (h2 : j < gs.length), ∃ q, ys[j] = givQ gs[j] q
theorem GRow.sized {ys : List AV} {gs : List GivD} (h : GRow ys gs) : Sized 3 ys := fun z hz => by
  obtain ⟨i, hi, rfl⟩ := List.mem_iff_getElem.1 hz
  obtain ⟨q, e⟩ := h.2 i hi (by rw [← h.1]; exact hi)
  rw [e]; rfl
theorem GRow.nil : GRow [] [] := ⟨rfl, fun j h => by cases h⟩
theorem GRow.one (g : GivD) (q : Perm) : GRow [givQ g q] [g] := ⟨rfl, fun j h1 h2 => by
  obtain rfl : j = 0 := by simpa using h1
  exact ⟨q, rfl⟩⟩
theorem GRow.app {ys zs : List AV} {gs ks : List GivD} (h : GRow ys gs) (k : GRow zs ks) : GRow (ys ++ zs) (gs ++ ks) := ⟨by simp [h.1, k.1], fun j h1 h2 => by
  have hl := h.1
  by_cases e : j < ys.length
  · rw [List.getElem_append_left e, List.getElem_append_left (by omega)]; exact h.2 j e (by omega)
  · rw [List.getElem_append_right (by omega), List.getElem_append_right (by omega)]
    simp only [List.length_append] at h1 h2
    obtain ⟨q, e'⟩ := k.2 (j - ys.length) (by omega) (by omega)
    exact ⟨q, by rw [e']; simp only [hl]⟩⟩
theorem GRow.weak {ys : List AV} {gs : List GivD} (h : GRow ys gs) (q : Perm) : Weak (.sl ys q) (givsA gs) := by
  refine .deep _ _ q (by simp [h.1]) (fun k h1 h2 => ?_) fun k h1 h2 j h3 h4 => ?_
  · obtain ⟨q', e'⟩ := h.2 k h1 (by rw [← h.1]; exact h1)
    rw [e', List.getElem_map]; rfl
  · obtain ⟨q', e'⟩ := h.2 k h1 (by rw [← h.1]; exact h1)
    simp only [e', List.getElem_map]
    simp only [e', givQ, AV.cells] at h3
    simp only [givQ, givA, AV.cells]
    rcases j with _ | _ | _ | j
    · exact .refl _
    · exact .refl _
    · exact .sl _ _
    · simp at h3; omega
theorem GRow.givs (gs : List GivD) : GRow (gs.map givA) gs := ⟨by simp, fun j h1 h2 => ⟨.no, by rw [List.getElem_map]; rfl⟩⟩
theorem uGiven : (U 43).sz = 3 := by simp only [go_sem]
theorem sized_one (g : GivD) (q : Perm) : Sized 3 [givQ g q] := fun z hz => by rw [List.mem_singleton.1 hz]; rfl
def headGs (c : CaseD) (subj : Txt) : List GivD := [⟨3, idT, [idV c.id]⟩, ⟨3, [111, 119, 110, 101, 114], [idV c.owner]⟩, ⟨3, [115, 116, 97, 116, 101], [idV c.state]⟩, ⟨3, [101, 118, 101, 110, 116, 115], [⟨2, c.log.length, []⟩]⟩, ⟨3, [116, 111, 111, 107], [tookD c.log subj]⟩]
def lastGs (c : CaseD) : List GivD := match c.log.getLast? with
  | some x => [⟨3, [108, 97, 115, 116], [idV x.actor]⟩]
  | none => []
def fieldGs (l : List FieldD) : List GivD := (l.filter fun f => decide (f.name.length ≤ 14)).map fun f => ⟨3, [102, 95] ++ f.name, [f.val]⟩
theorem fieldGs_succ (l : List FieldD) (i : Nat) (h : i < l.length) : fieldGs (l.take (i + 1)) = fieldGs (l.take i) ++ (if l[i].name.length ≤ 14 then [⟨3, [102, 95] ++ l[i].name, [l[i].val]⟩] else []) := by
  unfold fieldGs
  rw [List.take_succ_eq_append_getElem h, List.filter_append, List.map_append]
  congr 1
  by_cases hh : l[i].name.length ≤ 14 <;> simp [hh]
theorem askCaseD_eq (c : CaseD) (subj : Txt) : askCaseD c subj = headGs c subj ++ lastGs c ++ fieldGs c.fields := rfl
set_option maxRecDepth 100000 in
theorem askCase_ok {h : Heap} (c : CaseD) (subj : Txt) (hl : c.log.length ≤ 1000000) (hlf : c.fields.length ≤ 1000000) : FnOK Tryz.prog 52 [caseA c, .s subj] h fun r h' => r = givsA (askCaseD c subj) ∧ h' = h := by
  refine FnOK.body hU hm Tryz.func52 rfl (by kernel_rfl) 77 rfl [.tmp 4] rfl (Nat.le_of_ble_eq_true rfl) (fun hwf => ?_)
  simp -implicitDefEqProofs only [go_sem, caseA, caseC, fieldsA, logA]
  intro i1 h1
  simp -implicitDefEqProofs only [go_sem]
  refine .quiet (by kernel_rfl) ?_
  simp -implicitDefEqProofs only [go_sem]
  refine ⟨_, id_ok _ _, ?_⟩
  simp -implicitDefEqProofs only [go_sem, valA, idV]
  refine ⟨_, given_ok _ _ _ _ _, ?_⟩
  simp -implicitDefEqProofs only [go_sem, valA, idV]
  refine ⟨_, id_ok _ _, ?_⟩
  simp -implicitDefEqProofs only [go_sem, valA, idV]
  refine ⟨_, given_ok _ _ _ _ _, ?_⟩
  simp -implicitDefEqProofs only [go_sem, valA, idV]
  refine ⟨_, id_ok _ _, ?_⟩
  simp -implicitDefEqProofs only [go_sem, valA, idV]
  refine ⟨_, given_ok _ _ _ _ _, ?_⟩
  simp -implicitDefEqProofs only [go_sem, valA, idV]
  refine ⟨_, given_ok _ _ _ _ _, ?_⟩
  simp -implicitDefEqProofs only [go_sem, valA, idV]
  refine ⟨_, took_ok (show RdC _ (.agg [.s c.id, .s c.owner, .s c.state, .sl (c.fields.map fieldA) .no, .sl (c.log.map hapA) .no]) c from rdC _ c) subj (by omega), ?_⟩
  simp -implicitDefEqProofs only [go_sem, valA]
  refine ⟨_, given_ok _ _ _ _ _, ?_⟩
  simp -implicitDefEqProofs only [go_sem, valA, List.length_map]
  have hs1 : ∀ b, Ab.Sub h (upd h i1 b) := fun b => (Sub.refl h).put h1 b
  have hrow5 : GRow [.agg [.v (.int .i64 3), .s [105, 100], .sl [.agg [.v (.int .i64 5), .v (.int .i64 0), .s c.id]] .full], .agg [.v (.int .i64 3), .s [111, 119, 110, 101, 114], .sl [.agg [.v (.int .i64 5), .v (.int .i64 0), .s c.owner]] .full], .agg [.v (.int .i64 3), .s [115, 116, 97, 116, 101], .sl [.agg [.v (.int .i64 5), .v (.int .i64 0), .s c.state]] .full], .agg [.v (.int .i64 3), .s [101, 118, 101, 110, 116, 115], .sl [.agg [.v (.int .i64 2), .v (.int .i64 c.log.length), .s []]] .full], .agg [.v (.int .i64 3), .s [116, 111, 111, 107], .sl [valA (tookD c.log subj)] .full]] (headGs c subj) := (GRow.one ⟨3, idT, [idV c.id]⟩ .full).app ((GRow.one ⟨3, [111, 119, 110, 101, 114], [idV c.owner]⟩ .full).app ((GRow.one ⟨3, [115, 116, 97, 116, 101], [idV c.state]⟩ .full).app ((GRow.one ⟨3, [101, 118, 101, 110, 116, 115], [⟨2, c.log.length, []⟩]⟩ .full).app (GRow.one ⟨3, [116, 111, 111, 107], [tookD c.log subj]⟩ .full))))
  simp only [valA] at hrow5
  cases d1 : decide ((0 : Int) < (c.log.length : Int))
  · have hl0 : c.log = [] := List.length_eq_zero_iff.1 (by have := of_decide_eq_false d1; omega)
    simp -implicitDefEqProofs only [go_sem, d1]
    simp -implicitDefEqProofs only [go_sem, List.length_map]
    refine .intro (fun m ρ H => ∃ (i : Nat) (y : AV) (ys : List AV), Acc U 43 h H y ys ∧ H i1 = some (.obj [.s c.id, .s c.owner, .s c.state, .sl (c.fields.map fieldA) .no, .sl (c.log.map hapA) .no] 63) ∧ GRow ys (headGs c subj ++ fieldGs (c.fields.take i)) ∧ i ≤ c.fields.length ∧ m = c.fields.length - i ∧ lk ρ 5 = some y ∧ lk ρ 2 = some (.ptr i1 0) ∧ lk ρ 55 = some (.sl (c.fields.map fieldA) .no) ∧ lk ρ 56 = some (.v (.int .i64 c.fields.length)) ∧ lk ρ 57 = some (.v (.int .i64 i))) c.fields.length ?_ ?_
    · refine ⟨0, _, _, .full (hs1 _), upd_same .., (by have := hrow5; simpa [fieldGs] using this), by omega, rfl, ?_, ?_, ?_, ?_, ?_⟩ <;> simp -implicitDefEqProofs only [go_sem]
    · rintro m ρ H ⟨i, y, ys, hy, g1, hrow, hi, rfl, r5, r2, r55, r56, r57⟩
      simp -implicitDefEqProofs only [go_sem, r5, r2, r55, r56, r57]
      refine .intro (fun e => ?_) (fun e => ?_)
      · have hlt : i < c.fields.length := Int.ofNat_lt.1 (of_decide_eq_true e)
        have w1 : IntKind.i64.wrap ((i : Int) + 1) = ((i + 1 : Nat) : Int) := by rw [wr64 _ (by omega)]; omega
        simp -implicitDefEqProofs only [go_sem, r5, r2, r55, r56, r57]
        refine .at i (by simpa using hlt) (by rw [List.getElem_map]; rfl) ?_
        simp -implicitDefEqProofs only [go_sem, r5, r2, r55, r56, r57, List.getElem_map, fieldA]
        intro i8 h8
        have n81 : i1 ≠ i8 := fun e => by rw [← e, g1] at h8; cases h8
        simp -implicitDefEqProofs only [go_sem, upd_ne, n81, n81.symm, r5, r2, r55, r56, r57]
        cases d2 : decide ((c.fields[i].name.length : Int) ≤ 14)
        · simp -implicitDefEqProofs only [go_sem, upd_ne, n81, n81.symm, r5, r2, r55, r56, r57, d2, w1]
          have hskip : fieldGs (c.fields.take (i + 1)) = fieldGs (c.fields.take i) := by
            have : ¬ c.fields[i].name.length ≤ 14 := by have := of_decide_eq_false d2; omega
            rw [fieldGs_succ _ _ hlt, if_neg this, List.append_nil]
          refine ⟨_, ?_, i + 1, y, ys, hy.sub (.upd_new h8), (upd_other _ _ n81).trans g1, by rw [hskip]; exact hrow, by omega, rfl, ?_, ?_, ?_, ?_, ?_⟩
          · omega
          all_goals simp -implicitDefEqProofs only [go_sem, r5, r2, r55, r56, r57, w1]
        · simp -implicitDefEqProofs only [go_sem, upd_ne, n81, n81.symm, r5, r2, r55, r56, r57, d2, w1]
          have h14 : c.fields[i].name.length ≤ 14 := by have := of_decide_eq_true d2; omega
          refine ⟨by have : (1000 : Nat) < lim := (by decide); omega, ?_⟩
          refine (given_ok _ _ _ _ _).pthen ?_
          simp -implicitDefEqProofs only [go_sem, upd_ne, n81, n81.symm, r5, r2, r55, r56, r57, d2, w1]
          refine (hy.sub (.upd_new h8)).app (zs := [givQ ⟨3, [102, 95] ++ c.fields[i].name, [c.fields[i].val]⟩ .full]) (by rw [uGiven]; decide) (by simp only [go_sem, ne_eq, not_false_eq_true]) (fun k hk => (Rd.sl (sized_one _ _) .full : Rd _ 3 _ _).src uGiven hk) (by rw [uGiven]; exact hrow.sized) (by rw [uGiven]; exact sized_one _ _) (by
            have hln : (fieldGs (c.fields.take i)).length ≤ i := by unfold fieldGs; rw [List.length_map]; exact Nat.le_trans (List.length_filter_le _ _) (by rw [List.length_take]; omega)
            simp only [go_sem, hrow.1, List.length_cons, List.length_nil, List.length_append, headGs]; omega) fun y' H' hy' kp => ?_
          simp -implicitDefEqProofs only [go_sem, upd_ne, n81, n81.symm, r5, r2, r55, r56, r57, d2, w1]
          refine ⟨_, ?_, i + 1, y', _, hy', kp _ _ _ ((upd_other _ _ n81).trans g1), by rw [fieldGs_succ _ _ hlt, if_pos h14, ← List.append_assoc]; exact hrow.app (GRow.one _ _), by omega, rfl, ?_, ?_, ?_, ?_, ?_⟩
          · omega
          all_goals simp -implicitDefEqProofs only [go_sem, r5, r2, r55, r56, r57, w1]
      · have hge : i = c.fields.length := by have := of_decide_eq_false e; omega
        subst hge
        rw [List.take_length] at hrow
        obtain ⟨q, rfl⟩ := hy.row
        simp -implicitDefEqProofs only [go_sem, r5, r2, r55, r56, r57]
        exact .mk (givsA (askCaseD c subj)) (show Weak (.sl ys q) _ by rw [askCaseD_eq, lastGs, hl0]; simpa using hrow.weak q) hy.1 ⟨rfl, rfl⟩
  · have hl1 : 0 < c.log.length := by have := of_decide_eq_true d1; omega
    simp -implicitDefEqProofs only [go_sem, d1]
    have w0 : IntKind.i64.wrap ((c.log.length : Int) - 1) = ((c.log.length - 1 : Nat) : Int) := by rw [wr64 _ (by omega)]; omega
    simp -implicitDefEqProofs only [go_sem, w0]
    refine .at (c.log.length - 1) (by simp; omega) (by rw [List.getElem_map]; rfl) ?_
    simp -implicitDefEqProofs only [go_sem, List.getElem_map, hapA]
    rw [if_neg (fun hh => hh.1)]
    refine (id_ok _ _).pthen ?_
    simp -implicitDefEqProofs only [go_sem, valA, idV]
    refine (given_ok _ _ _ _ _).pthen ?_
    simp -implicitDefEqProofs only [go_sem, valA, idV]
    have hgl : c.log.getLast? = some c.log[c.log.length - 1] := by rw [List.getLast?_eq_getElem?, List.getElem?_eq_getElem (by omega)]
    have hlast : GRow [.agg [.v (.int .i64 3), .s [108, 97, 115, 116], .sl [.agg [.v (.int .i64 5), .v (.int .i64 0), .s c.log[c.log.length - 1].actor]] .full]] (lastGs c) := by
      unfold lastGs
      rw [hgl]
      exact GRow.one ⟨3, [108, 97, 115, 116], [idV c.log[c.log.length - 1].actor]⟩ .full
    refine .accs (hs1 _) fun y0 H0 hy0 kp0 => ?_
    simp -implicitDefEqProofs only [go_sem, kp0 _ _ _ (upd_same ..), List.length_map]
    refine .intro (fun m ρ H => ∃ (i : Nat) (y : AV) (ys : List AV), Acc U 43 h H y ys ∧ H i1 = some (.obj [.s c.id, .s c.owner, .s c.state, .sl (c.fields.map fieldA) .no, .sl (c.log.map hapA) .no] 63) ∧ GRow ys ((headGs c subj ++ lastGs c) ++ fieldGs (c.fields.take i)) ∧ i ≤ c.fields.length ∧ m = c.fields.length - i ∧ lk ρ 5 = some y ∧ lk ρ 2 = some (.ptr i1 0) ∧ lk ρ 55 = some (.sl (c.fields.map fieldA) .no) ∧ lk ρ 56 = some (.v (.int .i64 c.fields.length)) ∧ lk ρ 57 = some (.v (.int .i64 i))) c.fields.length ?_ ?_
    · refine ⟨0, _, _, hy0, kp0 _ _ _ (upd_same ..), (by have := hrow5.app hlast; simpa [fieldGs] using this), by omega, rfl, ?_, ?_, ?_, ?_, ?_⟩ <;> simp -implicitDefEqProofs only [go_sem]
    · rintro m ρ H ⟨i, y, ys, hy, g1, hrow, hi, rfl, r5, r2, r55, r56, r57⟩
      simp -implicitDefEqProofs only [go_sem, r5, r2, r55, r56, r57]
      refine .intro (fun e => ?_) (fun e => ?_)
      · have hlt : i < c.fields.length := Int.ofNat_lt.1 (of_decide_eq_true e)
        have w1 : IntKind.i64.wrap ((i : Int) + 1) = ((i + 1 : Nat) : Int) := by rw [wr64 _ (by omega)]; omega
        simp -implicitDefEqProofs only [go_sem, r5, r2, r55, r56, r57]
        refine .at i (by simpa using hlt) (by rw [List.getElem_map]; rfl) ?_
        simp -implicitDefEqProofs only [go_sem, r5, r2, r55, r56, r57, List.getElem_map, fieldA]
        intro i8 h8
        have n81 : i1 ≠ i8 := fun e => by rw [← e, g1] at h8; cases h8
        simp -implicitDefEqProofs only [go_sem, upd_ne, n81, n81.symm, r5, r2, r55, r56, r57]
        cases d2 : decide ((c.fields[i].name.length : Int) ≤ 14)
        · simp -implicitDefEqProofs only [go_sem, upd_ne, n81, n81.symm, r5, r2, r55, r56, r57, d2, w1]
          have hskip : fieldGs (c.fields.take (i + 1)) = fieldGs (c.fields.take i) := by
            have : ¬ c.fields[i].name.length ≤ 14 := by have := of_decide_eq_false d2; omega
            rw [fieldGs_succ _ _ hlt, if_neg this, List.append_nil]
          refine ⟨_, ?_, i + 1, y, ys, hy.sub (.upd_new h8), (upd_other _ _ n81).trans g1, by rw [hskip]; exact hrow, by omega, rfl, ?_, ?_, ?_, ?_, ?_⟩
          · omega
          all_goals simp -implicitDefEqProofs only [go_sem, r5, r2, r55, r56, r57, w1]
        · simp -implicitDefEqProofs only [go_sem, upd_ne, n81, n81.symm, r5, r2, r55, r56, r57, d2, w1]
          have h14 : c.fields[i].name.length ≤ 14 := by have := of_decide_eq_true d2; omega
          refine ⟨by have : (1000 : Nat) < lim := (by decide); omega, ?_⟩
          refine (given_ok _ _ _ _ _).pthen ?_
          simp -implicitDefEqProofs only [go_sem, upd_ne, n81, n81.symm, r5, r2, r55, r56, r57, d2, w1]
          refine (hy.sub (.upd_new h8)).app (zs := [givQ ⟨3, [102, 95] ++ c.fields[i].name, [c.fields[i].val]⟩ .full]) (by rw [uGiven]; decide) (by simp only [go_sem, ne_eq, not_false_eq_true]) (fun k hk => (Rd.sl (sized_one _ _) .full : Rd _ 3 _ _).src uGiven hk) (by rw [uGiven]; exact hrow.sized) (by rw [uGiven]; exact sized_one _ _) (by
            have hln : (fieldGs (c.fields.take i)).length ≤ i := by unfold fieldGs; rw [List.length_map]; exact Nat.le_trans (List.length_filter_le _ _) (by rw [List.length_take]; omega)
            simp only [go_sem, hrow.1, List.length_cons, List.length_nil, List.length_append, headGs, lastGs, hgl]; omega) fun y' H' hy' kp => ?_
          simp -implicitDefEqProofs only [go_sem, upd_ne, n81, n81.symm, r5, r2, r55, r56, r57, d2, w1]
          refine ⟨_, ?_, i + 1, y', _, hy', kp _ _ _ ((upd_other _ _ n81).trans g1), by rw [fieldGs_succ _ _ hlt, if_pos h14, ← List.append_assoc]; exact hrow.app (GRow.one _ _), by omega, rfl, ?_, ?_, ?_, ?_, ?_⟩
          · omega
          all_goals simp -implicitDefEqProofs only [go_sem, r5, r2, r55, r56, r57, w1]
      · have hge : i = c.fields.length := by have := of_decide_eq_false e; omega
        subst hge
        rw [List.take_length] at hrow
        obtain ⟨q, rfl⟩ := hy.row
        simp -implicitDefEqProofs only [go_sem, r5, r2, r55, r56, r57]
        exact .mk (givsA (askCaseD c subj)) (show Weak (.sl ys q) _ by rw [askCaseD_eq]; exact hrow.weak q) hy.1 ⟨rfl, rfl⟩
end Go.Proofs.YtnhelgnmadbpgaaGreatDoor

set_option linter.unusedSimpArgs false
set_option linter.unusedVariables false
namespace Go.Proofs.YtnhelgnmadbpgaaGreatDoor
open Go Go.Ab Go.Bf
theorem rolesOf_yes {l : List RoleD} {subj : Txt} {i : Nat} (h : i < l.length) (h1 : l[i].subj = subj) (h2 : (rolesOf (l.take i) subj).length < 16) : rolesOf (l.take (i + 1)) subj = rolesOf (l.take i) subj ++ [idV l[i].role] := by
  unfold rolesOf at h2 ⊢
  rw [List.take_succ_eq_append_getElem h, List.filter_append, List.map_append]
  rw [List.length_take] at h2
  have hl : (((l.take i).filter fun r => r.subj == subj).map fun r => idV r.role).length < 16 := by omega
  rw [List.take_append, List.take_of_length_le (by omega), List.filter_cons, List.filter_nil, if_pos (by simp [h1])]
  congr 1
  rw [List.take_of_length_le (by simp; simp at hl; omega)]; rfl
theorem rolesOf_no {l : List RoleD} {subj : Txt} {i : Nat} (h : i < l.length) (h1 : l[i].subj ≠ subj ∨ ¬ (rolesOf (l.take i) subj).length < 16) : rolesOf (l.take (i + 1)) subj = rolesOf (l.take i) subj := by
  unfold rolesOf at h1 ⊢
  rw [List.take_succ_eq_append_getElem h, List.filter_append, List.map_append, List.take_append]
  by_cases hs : l[i].subj = subj
  · have h2 := h1.resolve_left (fun h => h hs)
    rw [List.length_take] at h2
    rw [show 16 - (((l.take i).filter fun r => r.subj == subj).map fun r => idV r.role).length = 0 by omega, List.take_zero, List.append_nil]
  · rw [List.filter_cons, List.filter_nil, if_neg (by simpa using hs)]
    simp
theorem rolesOf_le (l : List RoleD) (subj : Txt) : (rolesOf l subj).length ≤ 16 := by unfold rolesOf; rw [List.length_take]; omega
def askHead (s : StoreD) (o : OpD) : List GivD := [⟨1, idT, [idV o.subj]⟩, ⟨1, [114, 111, 108, 101], rolesOf s.roles o.subj⟩, ⟨2, [110, 97, 109, 101], [idV (actionD o.kind)]⟩]
theorem few_case {s : StoreD} (hf : Few s) (id : Txt) : (caseD s.cases id).log.length ≤ 1000000 ∧ (caseD s.cases id).fields.length ≤ 1000000 := by
  cases e : thereD s.cases id
  · rw [caseD_no e]; exact ⟨Nat.zero_le _, Nat.zero_le _⟩
  · rw [caseD_at e]; exact ⟨hf.log _ (List.getElem_mem _), hf.fields _ (List.getElem_mem _)⟩
theorem askCase_len (c : CaseD) (subj : Txt) : (askCaseD c subj).length ≤ 6 + c.fields.length := by
  rw [askCaseD_eq, List.length_append, List.length_append]
  have h1 : (lastGs c).length ≤ 1 := by unfold lastGs; split <;> simp
  have h2 : (fieldGs c.fields).length ≤ c.fields.length := by unfold fieldGs; rw [List.length_map]; exact List.length_filter_le _ _
  have h3 : (headGs c subj).length = 5 := rfl
  omega
theorem hsub_none {h G : Heap} {i : Nat} (hs : Ab.Sub h G) (hi : G i = none) : h i = none := hs.none hi
theorem uValue : (U 38).sz = 3 := by simp only [go_sem]
set_option maxRecDepth 100000 in
theorem ask_ok {h : Heap} {x : AV} {s : StoreD} (hb : RdS h x s) (o : OpD) (hf : Few s) (hk : i64 o.kind) : FnOK Tryz.prog 17 [x, opA o] h fun r h' => r = givsA (askD s o) ∧ h' = h := by
  have hca := fun (G : Heap) (hG : Ab.Sub h G) => case_ok (hb.sub hG) o.case hf
  obtain ⟨y1, y2, y3, y4, rfl, ⟨xs, hc, hn, hcs⟩, h2, h3, h4⟩ := hb
  cases hpp : s.policy with
  | mk pid pset palg ptgt prules pkids pobls =>
  have hcC : polC (.mk pid pset palg ptgt prules pkids pobls) = [.s pid, .v (.bool pset), .v (.int .i64 palg), tgtA ptgt, .sl (prules.map ruleA) .no, .sl (pkids.map polA) .no, oblsA pobls] := by simp [polC, kidsA_eq]
  rw [hpp, hcC] at hca
  simp only [List.cons_append, List.nil_append] at hca
  have hfr := hf.roles
  refine FnOK.body hU hm Tryz.func17 rfl (by kernel_rfl) 99 rfl [.tmp 4] rfl (Nat.le_of_ble_eq_true rfl) (fun hwf => ?_)
  simp -implicitDefEqProofs only [go_sem, hcC, opA, opC, List.cons_append, List.nil_append]
  intro i1 h1
  simp -implicitDefEqProofs only [go_sem]
  intro i2 h2'
  have n21 := ne_upd h2'
  have n2 := upd_none h2'
  simp -implicitDefEqProofs only [go_sem, upd_ne, n21, n21.symm, h4.len, List.length_map]
  obtain ⟨H, eH⟩ : ∃ H, upd (upd h i1 (some (.obj [.v (.int .i64 s.tick), y1, y2, y3, y4, .s pid, .v (.bool pset), .v (.int .i64 palg), tgtA ptgt, .sl (prules.map ruleA) .no, .sl (pkids.map polA) .no, oblsA pobls, .v (.int .i64 s.version)] 34))) i2 (some (.obj (opC o) 40)) = H := ⟨_, rfl⟩
  have hH : Ab.Sub h H := by rw [← eH]; exact ((Sub.refl h).put h1 _).put n2 _
  have g1 : H i1 = some (.obj [.v (.int .i64 s.tick), y1, y2, y3, y4, .s pid, .v (.bool pset), .v (.int .i64 palg), tgtA ptgt, .sl (prules.map ruleA) .no, .sl (pkids.map polA) .no, oblsA pobls, .v (.int .i64 s.version)] 34) := by rw [← eH, upd_other _ _ n21.symm, upd_same]
  have g2 : H i2 = some (.obj (opC o) 40) := by rw [← eH, upd_same]
  simp only [opC] at eH g2
  rw [eH]
  clear eH
  refine .intro (fun m ρ G => ∃ (i : Nat) (y : AV), Acc U 38 H G y ((rolesOf (s.roles.take i) o.subj).map valA) ∧ i ≤ s.roles.length ∧ m = s.roles.length - i ∧ lk ρ 5 = some y ∧ lk ρ 2 = some (.ptr i1 0) ∧ lk ρ 3 = some (.ptr i2 0) ∧ lk ρ 12 = some y4 ∧ lk ρ 13 = some (.v (.int .i64 s.roles.length)) ∧ lk ρ 14 = some (.v (.int .i64 i))) s.roles.length ?_ ?_
  · refine ⟨0, _, .full (.refl _), by omega, rfl, ?_, ?_, ?_, ?_, ?_, ?_⟩ <;> simp -implicitDefEqProofs only [go_sem, rolesOf, List.take_zero, List.filter_nil, List.map_nil]
  · rintro m ρ G ⟨i, y, hy, hi, rfl, r5, r2, r3, r12, r13, r14⟩
    have k1 := hy.1 _ _ g1
    have k2 := hy.1 _ _ g2
    simp -implicitDefEqProofs only [go_sem, r5, r2, r3, r12, r13, r14]
    refine .intro (fun e => ?_) (fun e => ?_)
    · have hlt : i < s.roles.length := Int.ofNat_lt.1 (of_decide_eq_true e)
      have w1 : IntKind.i64.wrap ((i : Int) + 1) = ((i + 1 : Nat) : Int) := by rw [wr64 _ (by omega)]; omega
      simp -implicitDefEqProofs only [go_sem, r5, r2, r3, r12, r13, r14]
      refine (h4.sub (hH.trans hy.1)).idx (e := 75) i rfl (by simpa using hlt) uRole (by decide) fun p hp1 => ?_
      have hld := hp1.all (U := U) (ty := 75) (by simp only [go_sem]) (by rw [uRole, List.getElem_map]; rfl) (by simp only [go_sem]; rw [List.getElem_map]; rfl)
      simp -implicitDefEqProofs only [go_sem, r5, r2, r3, r12, r13, r14, hld, List.getElem_map, roleA]
      intro i7 h7
      have n71 : i1 ≠ i7 := fun e => by rw [← e, k1] at h7; cases h7
      have n72 : i2 ≠ i7 := fun e => by rw [← e, k2] at h7; cases h7
      simp -implicitDefEqProofs only [go_sem, upd_ne, n71, n71.symm, n72, n72.symm, k1, k2, r5, r2, r3, r12, r13, r14]
      have hy7 := hy.sub (.upd_new h7 (k := some (.obj [.s s.roles[i].subj, .s s.roles[i].role] 75)))
      have lr := rolesOf_le (s.roles.take i) o.subj
      cases d1 : (s.roles[i].subj == o.subj)
      · have p1 : s.roles[i].subj ≠ o.subj := by simpa using d1
        simp -implicitDefEqProofs only [go_sem, upd_ne, n71, n71.symm, n72, n72.symm, k1, k2, r5, r2, r3, r12, r13, r14, d1, w1]
        refine ⟨_, ?_, i + 1, y, by rw [rolesOf_no hlt (.inl p1)]; exact hy7, by omega, rfl, ?_, ?_, ?_, ?_, ?_, ?_⟩
        · omega
        all_goals simp -implicitDefEqProofs only [go_sem, r5, r2, r3, r12, r13, r14, w1]
      · have p1 : s.roles[i].subj = o.subj := by simpa using d1
        simp -implicitDefEqProofs only [go_sem, upd_ne, n71, n71.symm, n72, n72.symm, k1, k2, r5, r2, r3, r12, r13, r14, d1, hy.len, List.length_map]
        cases d2 : decide (((rolesOf (s.roles.take i) o.subj).length : Int) < 16)
        · have p2 : ¬ (rolesOf (s.roles.take i) o.subj).length < 16 := by have := of_decide_eq_false d2; omega
          simp -implicitDefEqProofs only [go_sem, upd_ne, n71, n71.symm, n72, n72.symm, k1, k2, r5, r2, r3, r12, r13, r14, d1, d2, hy.len, List.length_map, w1]
          refine ⟨_, ?_, i + 1, y, by rw [rolesOf_no hlt (.inr p2)]; exact hy7, by omega, rfl, ?_, ?_, ?_, ?_, ?_, ?_⟩
          · omega
          all_goals simp -implicitDefEqProofs only [go_sem, r5, r2, r3, r12, r13, r14, w1]
        · have p2 : (rolesOf (s.roles.take i) o.subj).length < 16 := by have := of_decide_eq_true d2; omega
          simp -implicitDefEqProofs only [go_sem, upd_ne, n71, n71.symm, n72, n72.symm, k1, k2, r5, r2, r3, r12, r13, r14, d1, d2, hy.len, List.length_map, w1]
          refine (id_ok _ _).pthen ?_
          simp -implicitDefEqProofs only [go_sem, upd_ne, n71, n71.symm, n72, n72.symm, k1, k2, r5, r2, r3, r12, r13, r14, valA, idV]
          refine hy7.app (zs := [valA (idV s.roles[i].role)]) (by rw [uValue]; decide) (by simp only [go_sem, ne_eq, not_false_eq_true]) (fun k hk => (Rd.sl (fun z hz => by rw [List.mem_singleton.1 hz]; rfl) .full : Rd _ 3 _ _).src uValue hk) (by rw [uValue]; exact sized_map (f := valA) (fun _ => rfl) _) (by rw [uValue]; exact sized_map (f := valA) (fun _ => rfl) [idV s.roles[i].role]) (by simp only [go_sem, List.length_map, List.length_cons, List.length_nil]; omega) fun y' H' hy' kp => ?_
          simp -implicitDefEqProofs only [go_sem, upd_ne, n71, n71.symm, n72, n72.symm, k1, k2, r5, r2, r3, r12, r13, r14, w1]
          refine ⟨_, ?_, i + 1, y', by rw [rolesOf_yes hlt p1 p2, List.map_append]; exact hy', by omega, rfl, ?_, ?_, ?_, ?_, ?_, ?_⟩
          · omega
          all_goals simp -implicitDefEqProofs only [go_sem, r5, r2, r3, r12, r13, r14, w1]
    · have hge : i = s.roles.length := by have := of_decide_eq_false e; omega
      subst hge
      rw [List.take_length] at hy
      simp -implicitDefEqProofs only [go_sem, r5, r2, r3, r12, r13, r14]
      obtain ⟨q5, rfl⟩ := hy.row
      refine .quiet (by kernel_rfl) ?_
      simp -implicitDefEqProofs only [go_sem, k1, k2, r2, r3, r5]
      refine ⟨_, id_ok _ _, ?_⟩
      simp -implicitDefEqProofs only [go_sem, k1, k2, r2, r3, r5, valA, idV]
      refine ⟨_, given_ok _ _ _ _ _, ?_⟩
      simp -implicitDefEqProofs only [go_sem, k1, k2, r2, r3, r5, valA, idV]
      refine ⟨_, given_ok _ _ _ _ _, ?_⟩
      simp -implicitDefEqProofs only [go_sem, k1, k2, r2, r3, r5, valA, idV]
      refine ⟨_, action_ok _ hk _, ?_⟩
      simp -implicitDefEqProofs only [go_sem, k1, k2, r2, r3, r5, valA, idV]
      refine ⟨_, id_ok _ _, ?_⟩
      simp -implicitDefEqProofs only [go_sem, k1, k2, r2, r3, r5, valA, idV]
      refine ⟨_, given_ok _ _ _ _ _, ?_⟩
      simp -implicitDefEqProofs only [go_sem, k1, k2, r2, r3, r5, valA, idV]
      have hak := fun (G : Heap) => askCase_ok (h := G) (caseD s.cases o.case) o.subj (few_case hf o.case).1 (few_case hf o.case).2
      simp only [caseA, caseC, fieldsA, logA] at hak
      have hakl := askCase_len (caseD s.cases o.case) o.subj
      have hakf := (few_case hf o.case).2
      have hr0 : GRow [.agg [.v (.int .i64 1), .s [105, 100], .sl [.agg [.v (.int .i64 5), .v (.int .i64 0), .s o.subj]] .full], .agg [.v (.int .i64 1), .s [114, 111, 108, 101], .sl ((rolesOf s.roles o.subj).map valA) q5], .agg [.v (.int .i64 2), .s [110, 97, 109, 101], .sl [.agg [.v (.int .i64 5), .v (.int .i64 0), .s (actionD o.kind)]] .full]] (askHead s o) := (GRow.one ⟨1, idT, [idV o.subj]⟩ .full).app ((GRow.one ⟨1, [114, 111, 108, 101], rolesOf s.roles o.subj⟩ q5).app (GRow.one ⟨2, [110, 97, 109, 101], [idV (actionD o.kind)]⟩ .full))
      by_cases pf : o.field = []
      · have df : (o.field == ([] : Txt)) = true := by simp [pf]
        simp -implicitDefEqProofs only [go_sem, k1, k2, r2, r3, df]
        by_cases pt : o.to = []
        · have dt : (o.to == ([] : Txt)) = true := by simp [pt]
          simp -implicitDefEqProofs only [go_sem, k1, k2, r2, r3, dt]
          refine (given_ok _ _ _ _ _).pthen ?_
          simp -implicitDefEqProofs only [go_sem, k1, k2, r2, r3, valA, idV]
          refine .accs hy.1 fun y1 G1 hy1 kp1 => ?_
          have k1_1 := kp1 _ _ _ k1
          have k2_1 := kp1 _ _ _ k2
          have hr1 := hr0.app (GRow.one (⟨4, [110, 111, 119], [⟨4, s.tick, []⟩]⟩ : GivD) .full)
          simp -implicitDefEqProofs only [go_sem, k1_1, k2_1, r2, r3]
          refine (hca _ (hH.trans hy1.1)).pthen ?_
          simp -implicitDefEqProofs only [go_sem, k1_1, k2_1, r2, r3, caseA, caseC, fieldsA, logA]
          intro i20 h20
          have n21 : i1 ≠ i20 := fun e => by rw [← e, k1_1] at h20; cases h20
          have n22 : i2 ≠ i20 := fun e => by rw [← e, k2_1] at h20; cases h20
          simp -implicitDefEqProofs only [go_sem, upd_ne, n21, n21.symm, n22, n22.symm, k1_1, k2_1, r2, r3]
          obtain ⟨q2, eq2⟩ := hy1.row
          cases dth : thereD s.cases o.case
          · simp -implicitDefEqProofs only [go_sem, upd_ne, n21, n21.symm, n22, n22.symm, k1_1, k2_1, r2, r3, dth]
            exact .mk (givsA (askD s o)) (show Weak y1 _ by rw [eq2, show askD s o = (askHead s o ++ [(⟨4, [110, 111, 119], [⟨4, s.tick, []⟩]⟩ : GivD)]) by simp [askD, askHead, dth, pf, pt]]; exact hr1.weak q2) ((hH.trans hy1.1).put (hsub_none (hH.trans hy1.1) h20) _) ⟨rfl, rfl⟩
          · simp -implicitDefEqProofs only [go_sem, upd_ne, n21, n21.symm, n22, n22.symm, k1_1, k2_1, r2, r3, dth]
            by_cases p6 : o.kind = 6
            · have d6 : (o.kind != 6) = false := by simp [p6]
              simp -implicitDefEqProofs only [go_sem, upd_ne, n21, n21.symm, n22, n22.symm, k1_1, k2_1, r2, r3, dth, d6]
              exact .mk (givsA (askD s o)) (show Weak y1 _ by rw [eq2, show askD s o = (askHead s o ++ [(⟨4, [110, 111, 119], [⟨4, s.tick, []⟩]⟩ : GivD)]) by simp [askD, askHead, dth, p6, pf, pt]]; exact hr1.weak q2) ((hH.trans hy1.1).put (hsub_none (hH.trans hy1.1) h20) _) ⟨rfl, rfl⟩
            · have d6 : (o.kind != 6) = true := by simp [p6]
              simp -implicitDefEqProofs only [go_sem, upd_ne, n21, n21.symm, n22, n22.symm, k1_1, k2_1, r2, r3, dth, d6]
              refine (hak _).pthen ?_
              simp -implicitDefEqProofs only [go_sem, upd_ne, n21, n21.symm, n22, n22.symm, k1_1, k2_1, r2, r3, dth, d6, givsA]
              refine (hy1.sub (.upd_new h20)).app (zs := (askCaseD (caseD s.cases o.case) o.subj).map givA) (by rw [uGiven]; decide) (by simp only [go_sem, ne_eq, not_false_eq_true]) (fun k hk => (rd_map givA 3 (fun _ => rfl) _ _).src uGiven hk) (by rw [uGiven]; exact hr1.sized) (by rw [uGiven]; exact sized_map (f := givA) (fun _ => rfl) _) (by simp only [go_sem, hr1.1, List.length_append, List.length_map, askHead, List.length_cons, List.length_nil] <;> omega) fun yz Gz hyz kpz => ?_
              simp -implicitDefEqProofs only [go_sem, upd_ne, n21, n21.symm, n22, n22.symm, k1_1, k2_1, r2, r3, dth, d6]
              obtain ⟨qz, eqz⟩ := hyz.row
              exact .mk (givsA (askD s o)) (show Weak yz _ by rw [eqz, show askD s o = (askHead s o ++ [(⟨4, [110, 111, 119], [⟨4, s.tick, []⟩]⟩ : GivD)]) ++ askCaseD (caseD s.cases o.case) o.subj by simp [askD, askHead, dth, p6, pf, pt]]; exact (hr1.app (GRow.givs _)).weak qz) (hH.trans hyz.1) ⟨rfl, rfl⟩
        · have dt : (o.to == ([] : Txt)) = false := by simp [pt]
          simp -implicitDefEqProofs only [go_sem, k1, k2, r2, r3, dt]
          refine (id_ok _ _).pthen ?_
          simp -implicitDefEqProofs only [go_sem, k1, k2, r2, r3, valA, idV]
          refine (given_ok _ _ _ _ _).pthen ?_
          simp -implicitDefEqProofs only [go_sem, k1, k2, r2, r3, valA, idV]
          refine .accs hy.1 fun y3 G3 hy3 kp3 => ?_
          have k1_3 := kp3 _ _ _ k1
          have k2_3 := kp3 _ _ _ k2
          have hr3 := hr0.app (GRow.one (⟨2, [116, 111], [idV o.to]⟩ : GivD) .full)
          simp -implicitDefEqProofs only [go_sem, k1_3, k2_3, r2, r3]
          refine (given_ok _ _ _ _ _).pthen ?_
          simp -implicitDefEqProofs only [go_sem, k1_3, k2_3, r2, r3, valA, idV]
          refine hy3.app (zs := [givQ (⟨4, [110, 111, 119], [⟨4, s.tick, []⟩]⟩) .full]) (by rw [uGiven]; decide) (by simp only [go_sem, ne_eq, not_false_eq_true]) (fun k hk => (Rd.sl (sized_one _ _) .full : Rd _ 3 _ _).src uGiven hk) (by rw [uGiven]; exact hr3.sized) (by rw [uGiven]; exact sized_one _ _) (by simp only [go_sem, hr3.1, List.length_append, askHead, List.length_cons, List.length_nil] <;> omega) fun y4 G4 hy4 kp4 => ?_
          have k1_4 := kp4 _ _ _ k1_3
          have k2_4 := kp4 _ _ _ k2_3
          have hr4 := hr3.app (GRow.one (⟨4, [110, 111, 119], [⟨4, s.tick, []⟩]⟩ : GivD) .full)
          simp -implicitDefEqProofs only [go_sem, k1_4, k2_4, r2, r3]
          refine (hca _ (hH.trans hy4.1)).pthen ?_
          simp -implicitDefEqProofs only [go_sem, k1_4, k2_4, r2, r3, caseA, caseC, fieldsA, logA]
          intro i50 h50
          have n51 : i1 ≠ i50 := fun e => by rw [← e, k1_4] at h50; cases h50
          have n52 : i2 ≠ i50 := fun e => by rw [← e, k2_4] at h50; cases h50
          simp -implicitDefEqProofs only [go_sem, upd_ne, n51, n51.symm, n52, n52.symm, k1_4, k2_4, r2, r3]
          obtain ⟨q5, eq5⟩ := hy4.row
          cases dth : thereD s.cases o.case
          · simp -implicitDefEqProofs only [go_sem, upd_ne, n51, n51.symm, n52, n52.symm, k1_4, k2_4, r2, r3, dth]
            exact .mk (givsA (askD s o)) (show Weak y4 _ by rw [eq5, show askD s o = ((askHead s o ++ [(⟨2, [116, 111], [idV o.to]⟩ : GivD)]) ++ [(⟨4, [110, 111, 119], [⟨4, s.tick, []⟩]⟩ : GivD)]) by simp [askD, askHead, dth, pf, pt]]; exact hr4.weak q5) ((hH.trans hy4.1).put (hsub_none (hH.trans hy4.1) h50) _) ⟨rfl, rfl⟩
          · simp -implicitDefEqProofs only [go_sem, upd_ne, n51, n51.symm, n52, n52.symm, k1_4, k2_4, r2, r3, dth]
            by_cases p6 : o.kind = 6
            · have d6 : (o.kind != 6) = false := by simp [p6]
              simp -implicitDefEqProofs only [go_sem, upd_ne, n51, n51.symm, n52, n52.symm, k1_4, k2_4, r2, r3, dth, d6]
              exact .mk (givsA (askD s o)) (show Weak y4 _ by rw [eq5, show askD s o = ((askHead s o ++ [(⟨2, [116, 111], [idV o.to]⟩ : GivD)]) ++ [(⟨4, [110, 111, 119], [⟨4, s.tick, []⟩]⟩ : GivD)]) by simp [askD, askHead, dth, p6, pf, pt]]; exact hr4.weak q5) ((hH.trans hy4.1).put (hsub_none (hH.trans hy4.1) h50) _) ⟨rfl, rfl⟩
            · have d6 : (o.kind != 6) = true := by simp [p6]
              simp -implicitDefEqProofs only [go_sem, upd_ne, n51, n51.symm, n52, n52.symm, k1_4, k2_4, r2, r3, dth, d6]
              refine (hak _).pthen ?_
              simp -implicitDefEqProofs only [go_sem, upd_ne, n51, n51.symm, n52, n52.symm, k1_4, k2_4, r2, r3, dth, d6, givsA]
              refine (hy4.sub (.upd_new h50)).app (zs := (askCaseD (caseD s.cases o.case) o.subj).map givA) (by rw [uGiven]; decide) (by simp only [go_sem, ne_eq, not_false_eq_true]) (fun k hk => (rd_map givA 3 (fun _ => rfl) _ _).src uGiven hk) (by rw [uGiven]; exact hr4.sized) (by rw [uGiven]; exact sized_map (f := givA) (fun _ => rfl) _) (by simp only [go_sem, hr4.1, List.length_append, List.length_map, askHead, List.length_cons, List.length_nil] <;> omega) fun yz Gz hyz kpz => ?_
              simp -implicitDefEqProofs only [go_sem, upd_ne, n51, n51.symm, n52, n52.symm, k1_4, k2_4, r2, r3, dth, d6]
              obtain ⟨qz, eqz⟩ := hyz.row
              exact .mk (givsA (askD s o)) (show Weak yz _ by rw [eqz, show askD s o = ((askHead s o ++ [(⟨2, [116, 111], [idV o.to]⟩ : GivD)]) ++ [(⟨4, [110, 111, 119], [⟨4, s.tick, []⟩]⟩ : GivD)]) ++ askCaseD (caseD s.cases o.case) o.subj by simp [askD, askHead, dth, p6, pf, pt]]; exact (hr4.app (GRow.givs _)).weak qz) (hH.trans hyz.1) ⟨rfl, rfl⟩
      · have df : (o.field == ([] : Txt)) = false := by simp [pf]
        simp -implicitDefEqProofs only [go_sem, k1, k2, r2, r3, df]
        refine (id_ok _ _).pthen ?_
        simp -implicitDefEqProofs only [go_sem, k1, k2, r2, r3, valA, idV]
        refine (given_ok _ _ _ _ _).pthen ?_
        simp -implicitDefEqProofs only [go_sem, k1, k2, r2, r3, valA, idV]
        refine .accs hy.1 fun y6 G6 hy6 kp6 => ?_
        have k1_6 := kp6 _ _ _ k1
        have k2_6 := kp6 _ _ _ k2
        have hr6 := hr0.app (GRow.one (⟨2, [102, 105, 101, 108, 100], [idV o.field]⟩ : GivD) .full)
        simp -implicitDefEqProofs only [go_sem, k1_6, k2_6, r2, r3]
        by_cases pt : o.to = []
        · have dt : (o.to == ([] : Txt)) = true := by simp [pt]
          simp -implicitDefEqProofs only [go_sem, k1_6, k2_6, r2, r3, dt]
          refine (given_ok _ _ _ _ _).pthen ?_
          simp -implicitDefEqProofs only [go_sem, k1_6, k2_6, r2, r3, valA, idV]
          refine hy6.app (zs := [givQ (⟨4, [110, 111, 119], [⟨4, s.tick, []⟩]⟩) .full]) (by rw [uGiven]; decide) (by simp only [go_sem, ne_eq, not_false_eq_true]) (fun k hk => (Rd.sl (sized_one _ _) .full : Rd _ 3 _ _).src uGiven hk) (by rw [uGiven]; exact hr6.sized) (by rw [uGiven]; exact sized_one _ _) (by simp only [go_sem, hr6.1, List.length_append, askHead, List.length_cons, List.length_nil] <;> omega) fun y7 G7 hy7 kp7 => ?_
          have k1_7 := kp7 _ _ _ k1_6
          have k2_7 := kp7 _ _ _ k2_6
          have hr7 := hr6.app (GRow.one (⟨4, [110, 111, 119], [⟨4, s.tick, []⟩]⟩ : GivD) .full)
          simp -implicitDefEqProofs only [go_sem, k1_7, k2_7, r2, r3]
          refine (hca _ (hH.trans hy7.1)).pthen ?_
          simp -implicitDefEqProofs only [go_sem, k1_7, k2_7, r2, r3, caseA, caseC, fieldsA, logA]
          intro i80 h80
          have n81 : i1 ≠ i80 := fun e => by rw [← e, k1_7] at h80; cases h80
          have n82 : i2 ≠ i80 := fun e => by rw [← e, k2_7] at h80; cases h80
          simp -implicitDefEqProofs only [go_sem, upd_ne, n81, n81.symm, n82, n82.symm, k1_7, k2_7, r2, r3]
          obtain ⟨q8, eq8⟩ := hy7.row
          cases dth : thereD s.cases o.case
          · simp -implicitDefEqProofs only [go_sem, upd_ne, n81, n81.symm, n82, n82.symm, k1_7, k2_7, r2, r3, dth]
            exact .mk (givsA (askD s o)) (show Weak y7 _ by rw [eq8, show askD s o = ((askHead s o ++ [(⟨2, [102, 105, 101, 108, 100], [idV o.field]⟩ : GivD)]) ++ [(⟨4, [110, 111, 119], [⟨4, s.tick, []⟩]⟩ : GivD)]) by simp [askD, askHead, dth, pf, pt]]; exact hr7.weak q8) ((hH.trans hy7.1).put (hsub_none (hH.trans hy7.1) h80) _) ⟨rfl, rfl⟩
          · simp -implicitDefEqProofs only [go_sem, upd_ne, n81, n81.symm, n82, n82.symm, k1_7, k2_7, r2, r3, dth]
            by_cases p6 : o.kind = 6
            · have d6 : (o.kind != 6) = false := by simp [p6]
              simp -implicitDefEqProofs only [go_sem, upd_ne, n81, n81.symm, n82, n82.symm, k1_7, k2_7, r2, r3, dth, d6]
              exact .mk (givsA (askD s o)) (show Weak y7 _ by rw [eq8, show askD s o = ((askHead s o ++ [(⟨2, [102, 105, 101, 108, 100], [idV o.field]⟩ : GivD)]) ++ [(⟨4, [110, 111, 119], [⟨4, s.tick, []⟩]⟩ : GivD)]) by simp [askD, askHead, dth, p6, pf, pt]]; exact hr7.weak q8) ((hH.trans hy7.1).put (hsub_none (hH.trans hy7.1) h80) _) ⟨rfl, rfl⟩
            · have d6 : (o.kind != 6) = true := by simp [p6]
              simp -implicitDefEqProofs only [go_sem, upd_ne, n81, n81.symm, n82, n82.symm, k1_7, k2_7, r2, r3, dth, d6]
              refine (hak _).pthen ?_
              simp -implicitDefEqProofs only [go_sem, upd_ne, n81, n81.symm, n82, n82.symm, k1_7, k2_7, r2, r3, dth, d6, givsA]
              refine (hy7.sub (.upd_new h80)).app (zs := (askCaseD (caseD s.cases o.case) o.subj).map givA) (by rw [uGiven]; decide) (by simp only [go_sem, ne_eq, not_false_eq_true]) (fun k hk => (rd_map givA 3 (fun _ => rfl) _ _).src uGiven hk) (by rw [uGiven]; exact hr7.sized) (by rw [uGiven]; exact sized_map (f := givA) (fun _ => rfl) _) (by simp only [go_sem, hr7.1, List.length_append, List.length_map, askHead, List.length_cons, List.length_nil] <;> omega) fun yz Gz hyz kpz => ?_
              simp -implicitDefEqProofs only [go_sem, upd_ne, n81, n81.symm, n82, n82.symm, k1_7, k2_7, r2, r3, dth, d6]
              obtain ⟨qz, eqz⟩ := hyz.row
              exact .mk (givsA (askD s o)) (show Weak yz _ by rw [eqz, show askD s o = ((askHead s o ++ [(⟨2, [102, 105, 101, 108, 100], [idV o.field]⟩ : GivD)]) ++ [(⟨4, [110, 111, 119], [⟨4, s.tick, []⟩]⟩ : GivD)]) ++ askCaseD (caseD s.cases o.case) o.subj by simp [askD, askHead, dth, p6, pf, pt]]; exact (hr7.app (GRow.givs _)).weak qz) (hH.trans hyz.1) ⟨rfl, rfl⟩
        · have dt : (o.to == ([] : Txt)) = false := by simp [pt]
          simp -implicitDefEqProofs only [go_sem, k1_6, k2_6, r2, r3, dt]
          refine (id_ok _ _).pthen ?_
          simp -implicitDefEqProofs only [go_sem, k1_6, k2_6, r2, r3, valA, idV]
          refine (given_ok _ _ _ _ _).pthen ?_
          simp -implicitDefEqProofs only [go_sem, k1_6, k2_6, r2, r3, valA, idV]
          refine hy6.app (zs := [givQ (⟨2, [116, 111], [idV o.to]⟩) .full]) (by rw [uGiven]; decide) (by simp only [go_sem, ne_eq, not_false_eq_true]) (fun k hk => (Rd.sl (sized_one _ _) .full : Rd _ 3 _ _).src uGiven hk) (by rw [uGiven]; exact hr6.sized) (by rw [uGiven]; exact sized_one _ _) (by simp only [go_sem, hr6.1, List.length_append, askHead, List.length_cons, List.length_nil] <;> omega) fun y9 G9 hy9 kp9 => ?_
          have k1_9 := kp9 _ _ _ k1_6
          have k2_9 := kp9 _ _ _ k2_6
          have hr9 := hr6.app (GRow.one (⟨2, [116, 111], [idV o.to]⟩ : GivD) .full)
          simp -implicitDefEqProofs only [go_sem, k1_9, k2_9, r2, r3]
          refine (given_ok _ _ _ _ _).pthen ?_
          simp -implicitDefEqProofs only [go_sem, k1_9, k2_9, r2, r3, valA, idV]
          refine hy9.app (zs := [givQ (⟨4, [110, 111, 119], [⟨4, s.tick, []⟩]⟩) .full]) (by rw [uGiven]; decide) (by simp only [go_sem, ne_eq, not_false_eq_true]) (fun k hk => (Rd.sl (sized_one _ _) .full : Rd _ 3 _ _).src uGiven hk) (by rw [uGiven]; exact hr9.sized) (by rw [uGiven]; exact sized_one _ _) (by simp only [go_sem, hr9.1, List.length_append, askHead, List.length_cons, List.length_nil] <;> omega) fun y10 G10 hy10 kp10 => ?_
          have k1_10 := kp10 _ _ _ k1_9
          have k2_10 := kp10 _ _ _ k2_9
          have hr10 := hr9.app (GRow.one (⟨4, [110, 111, 119], [⟨4, s.tick, []⟩]⟩ : GivD) .full)
          simp -implicitDefEqProofs only [go_sem, k1_10, k2_10, r2, r3]
          refine (hca _ (hH.trans hy10.1)).pthen ?_
          simp -implicitDefEqProofs only [go_sem, k1_10, k2_10, r2, r3, caseA, caseC, fieldsA, logA]
          intro i110 h110
          have n111 : i1 ≠ i110 := fun e => by rw [← e, k1_10] at h110; cases h110
          have n112 : i2 ≠ i110 := fun e => by rw [← e, k2_10] at h110; cases h110
          simp -implicitDefEqProofs only [go_sem, upd_ne, n111, n111.symm, n112, n112.symm, k1_10, k2_10, r2, r3]
          obtain ⟨q11, eq11⟩ := hy10.row
          cases dth : thereD s.cases o.case
          · simp -implicitDefEqProofs only [go_sem, upd_ne, n111, n111.symm, n112, n112.symm, k1_10, k2_10, r2, r3, dth]
            exact .mk (givsA (askD s o)) (show Weak y10 _ by rw [eq11, show askD s o = (((askHead s o ++ [(⟨2, [102, 105, 101, 108, 100], [idV o.field]⟩ : GivD)]) ++ [(⟨2, [116, 111], [idV o.to]⟩ : GivD)]) ++ [(⟨4, [110, 111, 119], [⟨4, s.tick, []⟩]⟩ : GivD)]) by simp [askD, askHead, dth, pf, pt]]; exact hr10.weak q11) ((hH.trans hy10.1).put (hsub_none (hH.trans hy10.1) h110) _) ⟨rfl, rfl⟩
          · simp -implicitDefEqProofs only [go_sem, upd_ne, n111, n111.symm, n112, n112.symm, k1_10, k2_10, r2, r3, dth]
            by_cases p6 : o.kind = 6
            · have d6 : (o.kind != 6) = false := by simp [p6]
              simp -implicitDefEqProofs only [go_sem, upd_ne, n111, n111.symm, n112, n112.symm, k1_10, k2_10, r2, r3, dth, d6]
              exact .mk (givsA (askD s o)) (show Weak y10 _ by rw [eq11, show askD s o = (((askHead s o ++ [(⟨2, [102, 105, 101, 108, 100], [idV o.field]⟩ : GivD)]) ++ [(⟨2, [116, 111], [idV o.to]⟩ : GivD)]) ++ [(⟨4, [110, 111, 119], [⟨4, s.tick, []⟩]⟩ : GivD)]) by simp [askD, askHead, dth, p6, pf, pt]]; exact hr10.weak q11) ((hH.trans hy10.1).put (hsub_none (hH.trans hy10.1) h110) _) ⟨rfl, rfl⟩
            · have d6 : (o.kind != 6) = true := by simp [p6]
              simp -implicitDefEqProofs only [go_sem, upd_ne, n111, n111.symm, n112, n112.symm, k1_10, k2_10, r2, r3, dth, d6]
              refine (hak _).pthen ?_
              simp -implicitDefEqProofs only [go_sem, upd_ne, n111, n111.symm, n112, n112.symm, k1_10, k2_10, r2, r3, dth, d6, givsA]
              refine (hy10.sub (.upd_new h110)).app (zs := (askCaseD (caseD s.cases o.case) o.subj).map givA) (by rw [uGiven]; decide) (by simp only [go_sem, ne_eq, not_false_eq_true]) (fun k hk => (rd_map givA 3 (fun _ => rfl) _ _).src uGiven hk) (by rw [uGiven]; exact hr10.sized) (by rw [uGiven]; exact sized_map (f := givA) (fun _ => rfl) _) (by simp only [go_sem, hr10.1, List.length_append, List.length_map, askHead, List.length_cons, List.length_nil] <;> omega) fun yz Gz hyz kpz => ?_
              simp -implicitDefEqProofs only [go_sem, upd_ne, n111, n111.symm, n112, n112.symm, k1_10, k2_10, r2, r3, dth, d6]
              obtain ⟨qz, eqz⟩ := hyz.row
              exact .mk (givsA (askD s o)) (show Weak yz _ by rw [eqz, show askD s o = (((askHead s o ++ [(⟨2, [102, 105, 101, 108, 100], [idV o.field]⟩ : GivD)]) ++ [(⟨2, [116, 111], [idV o.to]⟩ : GivD)]) ++ [(⟨4, [110, 111, 119], [⟨4, s.tick, []⟩]⟩ : GivD)]) ++ askCaseD (caseD s.cases o.case) o.subj by simp [askD, askHead, dth, p6, pf, pt]]; exact (hr10.app (GRow.givs _)).weak qz) (hH.trans hyz.1) ⟨rfl, rfl⟩
end Go.Proofs.YtnhelgnmadbpgaaGreatDoor

set_option linter.unusedSimpArgs false
set_option linter.unusedVariables false
namespace Go.Bf
open Go Go.Ab
def eqVal (a b : ValD) : Bool := a.kind == b.kind && (a.n == b.n && a.s == b.s)
def eqL {α : Type} (f : α → α → Bool) : List α → List α → Bool
  | [], [] => true
  | x :: a, y :: b => f x y && eqL f a b
  | _, _ => false
theorem eqL_true {α : Type} {f : α → α → Bool} : ∀ {a b : List α}, a.length = b.length → (∀ j (h1 : j < a.length) (h2 : j < b.length), f a[j] b[j] = true) → eqL f a b = true
  | [], [], _, _ => rfl
  | x :: a, y :: b, hl, h => by
    simp only [eqL, Bool.and_eq_true]
    exact ⟨h 0 (by simp) (by simp), eqL_true (by simpa using hl) fun j h1 h2 => h (j + 1) (by simpa using h1) (by simpa using h2)⟩
theorem eqL_len {α : Type} {f : α → α → Bool} : ∀ {a b : List α}, a.length ≠ b.length → eqL f a b = false
  | [], [], h => (h rfl).elim
  | [], _ :: _, _ => rfl
  | _ :: _, [], _ => rfl
  | x :: a, y :: b, h => by
    simp only [eqL]
    rw [eqL_len (fun e => h (by simp [e])), Bool.and_false]
theorem eqL_at {α : Type} {f : α → α → Bool} : ∀ {a b : List α} (j : Nat) (h1 : j < a.length) (h2 : j < b.length), f a[j] b[j] = false → eqL f a b = false
  | x :: a, y :: b, 0, _, _, h => by simp only [List.getElem_cons_zero] at h; simp [eqL, h]
  | x :: a, y :: b, j + 1, h1, h2, h => by
    simp only [eqL]
    rw [eqL_at j (by simpa using h1) (by simpa using h2) (by simpa using h), Bool.and_false]
end Go.Bf
namespace Go.Proofs.YtnhelgnmadbpgaaGreatDoor
open Go Go.Ab Go.Bf
end Go.Proofs.YtnhelgnmadbpgaaGreatDoor

set_option linter.unusedSimpArgs false
set_option linter.unusedVariables false
namespace Go.Bf
open Go Go.Ab
def eqRoleD (a b : RoleD) : Bool := a.subj == b.subj && a.role == b.role
end Go.Bf
namespace Go.Proofs.YtnhelgnmadbpgaaGreatDoor
open Go Go.Ab Go.Bf
theorem sameValue_ok (a b : List ValD) (q1 q2 : Perm) (h : Heap) : FnOK Tryz.prog 40 [.sl (a.map valA) q1, .sl (b.map valA) q2] h fun r h' => r = .v (.bool (eqL eqVal a b)) ∧ h' = h := by
  refine FnOK.body hU hm Tryz.func40 rfl (by kernel_rfl) 26 rfl [.tmp 4] rfl (Nat.le_of_ble_eq_true rfl) (fun hwf => ?_)
  cases d1 : ((a.length : Int) != (b.length : Int))
  case true =>
    have e1 : a.length ≠ b.length := by
      intro e; rw [e] at d1; simp at d1
    simp -implicitDefEqProofs only [go_sem, List.length_map, d1]
    exact .same (.refl _) ⟨by rw [eqL_len e1]; rfl, rfl⟩
  have e1 : a.length = b.length := by have : (a.length : Int) = b.length := by simpa using d1
                                      omega
  simp -implicitDefEqProofs only [go_sem, List.length_map, d1]
  refine .intro (fun m ρ h' => Ab.Sub h h' ∧ ∃ i : Nat, i ≤ a.length ∧ m = a.length - i ∧ (∀ j (h1 : j < a.length) (h2 : j < b.length), j < i → eqVal a[j] b[j] = true) ∧ lk ρ 0 = some (.sl (a.map valA) q1) ∧ lk ρ 1 = some (.sl (b.map valA) q2) ∧ lk ρ 5 = some (.v (.int .i64 i))) a.length ?_ ?_
  · refine ⟨.refl _, 0, by omega, rfl, fun j _ _ hj => (by omega), ?_, ?_, ?_⟩ <;> simp -implicitDefEqProofs only [go_sem]
  · rintro m ρ h' ⟨hs, i, hi, rfl, hc, r0, r1, r5⟩
    simp -implicitDefEqProofs only [go_sem, r0, r1, r5, List.length_map]
    refine .intro (fun e => ?_) (fun e => ?_)
    · have hlt : i < a.length := Int.ofNat_lt.1 (of_decide_eq_true e)
      have hlt2 : i < b.length := by omega
      have w1 : IntKind.i64.wrap ((i : Int) + 1) = ((i + 1 : Nat) : Int) := by
        have := hwf (.sl (a.map valA) q1) (by simp)
        simp only [wfA, wf1, lim, List.length_map] at this
        rw [wr64 _ (by omega)]; omega
      simp -implicitDefEqProofs only [go_sem, r0, r1, r5, List.length_map]
      refine ⟨.of (by kernel_rfl), ?_⟩
      refine .at i (by simpa using hlt) (by rw [List.getElem_map]; rfl) ?_
      simp -implicitDefEqProofs only [go_sem, r0, r1, r5, List.getElem_map, valA]
      refine .at i (by simpa using hlt2) (by rw [List.getElem_map]; rfl) ?_
      simp -implicitDefEqProofs only [go_sem, r0, r1, r5, List.getElem_map, valA]
      cases d3 : eqVal a[i] b[i]
      · have d4 := d3
        simp only [eqVal] at d4
        simp -implicitDefEqProofs only [go_sem, r0, r1, r5, d4]
        exact .mk _ (.refl _) hs ⟨by rw [eqL_at i hlt hlt2 d3]; rfl, rfl⟩
      · have d4 := d3
        simp only [eqVal] at d4
        simp -implicitDefEqProofs only [go_sem, r0, r1, r5, d4, w1]
        refine ⟨_, ?_, hs, i + 1, by omega, rfl, fun j h1 h2 hj => ?_, ?_, ?_, ?_⟩
        · omega
        · by_cases hji : j = i
          · subst hji; exact d3
          · exact hc j h1 h2 (by omega)
        all_goals simp -implicitDefEqProofs only [go_sem, r0, r1, r5, w1]
    · have hge : i = a.length := by have := of_decide_eq_false e; omega
      subst hge
      simp -implicitDefEqProofs only [go_sem, r0, r1, r5]
      exact .mk _ (.refl _) hs ⟨by rw [eqL_true e1 fun j h1 h2 => hc j h1 h2 h1]; rfl, rfl⟩
theorem sameRole_ok (a b : List RoleD) (q1 q2 : Perm) (h : Heap) : FnOK Tryz.prog 35 [.sl (a.map roleA) q1, .sl (b.map roleA) q2] h fun r h' => r = .v (.bool (eqL eqRoleD a b)) ∧ h' = h := by
  refine FnOK.body hU hm Tryz.func35 rfl (by kernel_rfl) 26 rfl [.tmp 4] rfl (Nat.le_of_ble_eq_true rfl) (fun hwf => ?_)
  cases d1 : ((a.length : Int) != (b.length : Int))
  case true =>
    have e1 : a.length ≠ b.length := by
      intro e; rw [e] at d1; simp at d1
    simp -implicitDefEqProofs only [go_sem, List.length_map, d1]
    exact .same (.refl _) ⟨by rw [eqL_len e1]; rfl, rfl⟩
  have e1 : a.length = b.length := by have : (a.length : Int) = b.length := by simpa using d1
                                      omega
  simp -implicitDefEqProofs only [go_sem, List.length_map, d1]
  refine .intro (fun m ρ h' => Ab.Sub h h' ∧ ∃ i : Nat, i ≤ a.length ∧ m = a.length - i ∧ (∀ j (h1 : j < a.length) (h2 : j < b.length), j < i → eqRoleD a[j] b[j] = true) ∧ lk ρ 0 = some (.sl (a.map roleA) q1) ∧ lk ρ 1 = some (.sl (b.map roleA) q2) ∧ lk ρ 5 = some (.v (.int .i64 i))) a.length ?_ ?_
  · refine ⟨.refl _, 0, by omega, rfl, fun j _ _ hj => (by omega), ?_, ?_, ?_⟩ <;> simp -implicitDefEqProofs only [go_sem]
  · rintro m ρ h' ⟨hs, i, hi, rfl, hc, r0, r1, r5⟩
    simp -implicitDefEqProofs only [go_sem, r0, r1, r5, List.length_map]
    refine .intro (fun e => ?_) (fun e => ?_)
    · have hlt : i < a.length := Int.ofNat_lt.1 (of_decide_eq_true e)
      have hlt2 : i < b.length := by omega
      have w1 : IntKind.i64.wrap ((i : Int) + 1) = ((i + 1 : Nat) : Int) := by
        have := hwf (.sl (a.map roleA) q1) (by simp)
        simp only [wfA, wf1, lim, List.length_map] at this
        rw [wr64 _ (by omega)]; omega
      simp -implicitDefEqProofs only [go_sem, r0, r1, r5, List.length_map]
      refine ⟨.of (by kernel_rfl), ?_⟩
      refine .at i (by simpa using hlt) (by rw [List.getElem_map]; rfl) ?_
      simp -implicitDefEqProofs only [go_sem, r0, r1, r5, List.getElem_map, roleA]
      refine .at i (by simpa using hlt2) (by rw [List.getElem_map]; rfl) ?_
      simp -implicitDefEqProofs only [go_sem, r0, r1, r5, List.getElem_map, roleA]
      cases d3 : eqRoleD a[i] b[i]
      · have d4 := d3
        simp only [eqRoleD] at d4
        simp -implicitDefEqProofs only [go_sem, r0, r1, r5, d4]
        exact .mk _ (.refl _) hs ⟨by rw [eqL_at i hlt hlt2 d3]; rfl, rfl⟩
      · have d4 := d3
        simp only [eqRoleD] at d4
        simp -implicitDefEqProofs only [go_sem, r0, r1, r5, d4, w1]
        refine ⟨_, ?_, hs, i + 1, by omega, rfl, fun j h1 h2 hj => ?_, ?_, ?_, ?_⟩
        · omega
        · by_cases hji : j = i
          · subst hji; exact d3
          · exact hc j h1 h2 (by omega)
        all_goals simp -implicitDefEqProofs only [go_sem, r0, r1, r5, w1]
    · have hge : i = a.length := by have := of_decide_eq_false e; omega
      subst hge
      simp -implicitDefEqProofs only [go_sem, r0, r1, r5]
      exact .mk _ (.refl _) hs ⟨by rw [eqL_true e1 fun j h1 h2 => hc j h1 h2 h1]; rfl, rfl⟩
end Go.Proofs.YtnhelgnmadbpgaaGreatDoor

set_option linter.unusedSimpArgs false
set_option linter.unusedVariables false
namespace Go.Bf
open Go Go.Ab
def eqGiv (g h : GivD) : Bool := g.cat == h.cat && (g.name == h.name && eqL eqVal g.bag h.bag)
def asksD (a b : List GivD) : Bool := decide (a.length = b.length) && a.all fun g => b.any (eqGiv g)
theorem any_succ {α : Type} {q : α → Bool} {l : List α} {i : Nat} (h : i < l.length) : (l.take (i + 1)).any q = ((l.take i).any q || q l[i]) := by
  rw [List.take_succ_eq_append_getElem h, List.any_append]; simp
theorem asksD_true {a b : List GivD} (h1 : a.length = b.length) (h2 : ∀ j (h : j < a.length), b.any (eqGiv a[j]) = true) : asksD a b = true := by
  simp only [asksD, Bool.and_eq_true, decide_eq_true_eq, List.all_eq_true]
  refine ⟨h1, fun g hg => ?_⟩
  obtain ⟨j, hj, rfl⟩ := List.mem_iff_getElem.1 hg
  exact h2 j hj
theorem asksD_len {a b : List GivD} (h1 : a.length ≠ b.length) : asksD a b = false := by simp [asksD, h1]
theorem asksD_at {a b : List GivD} (j : Nat) (h : j < a.length) (h2 : b.any (eqGiv a[j]) = false) : asksD a b = false := by
  simp only [asksD, Bool.and_eq_false_iff]
  exact .inr (List.all_eq_false.2 ⟨_, List.getElem_mem h, by rw [h2]; decide⟩)
end Go.Bf
namespace Go.Proofs.YtnhelgnmadbpgaaGreatDoor
open Go Go.Ab Go.Bf
set_option maxRecDepth 100000 in
theorem asks_ok {xs ys : List AV} {a b : List GivD} (hx : GRow xs a) (hy : GRow ys b) (q1 q2 : Perm) (h : Heap) : FnOK Tryz.prog 16 [.sl xs q1, .sl ys q2] h fun r h' => r = .v (.bool (asksD a b)) ∧ h' = h := by
  have hxl := hx.1
  have hyl := hy.1
  refine FnOK.body hU hm Tryz.func16 rfl (by kernel_rfl) 53 rfl [.tmp 4] rfl (Nat.le_of_ble_eq_true rfl) (fun hwf => ?_)
  have hlx : xs.length < lim := hwf (.sl xs q1) (by simp)
  have hly : ys.length < lim := hwf (.sl ys q2) (by simp)
  simp only [lim] at hlx hly
  cases d1 : ((a.length : Int) != (b.length : Int))
  case true =>
    have e1 : a.length ≠ b.length := by
      intro e; rw [e] at d1; simp at d1
    simp -implicitDefEqProofs only [go_sem, hxl, hyl, d1]
    exact .same (.refl _) ⟨by rw [asksD_len e1]; rfl, rfl⟩
  have e1 : a.length = b.length := by have : (a.length : Int) = b.length := by simpa using d1
                                      omega
  simp -implicitDefEqProofs only [go_sem, hxl, hyl, d1]
  refine .intro (fun m ρ h' => Ab.Sub h h' ∧ ∃ i : Nat, i ≤ a.length ∧ m = a.length - i ∧ (∀ j (h1 : j < a.length), j < i → b.any (eqGiv a[j]) = true) ∧ lk ρ 1 = some (.sl ys q2) ∧ lk ρ 15 = some (.sl xs q1) ∧ lk ρ 16 = some (.v (.int .i64 a.length)) ∧ lk ρ 17 = some (.v (.int .i64 i))) a.length ?_ ?_
  · refine ⟨.refl _, 0, by omega, rfl, fun j _ hj => (by omega), ?_, ?_, ?_, ?_⟩ <;> simp -implicitDefEqProofs only [go_sem]
  · rintro m ρ h' ⟨hs, i, hi, rfl, hc, r1, r15, r16, r17⟩
    simp -implicitDefEqProofs only [go_sem, r1, r15, r16, r17]
    refine .intro (fun e => ?_) (fun e => ?_)
    · have hlt : i < a.length := Int.ofNat_lt.1 (of_decide_eq_true e)
      have hltx : i < xs.length := by omega
      have w1 : IntKind.i64.wrap ((i : Int) + 1) = ((i + 1 : Nat) : Int) := by rw [wr64 _ (by omega)]; omega
      obtain ⟨qi, exi⟩ := hx.2 i hltx hlt
      simp -implicitDefEqProofs only [go_sem, r1, r15, r16, r17]
      refine .at i hltx (by rw [exi]; rfl) ?_
      simp -implicitDefEqProofs only [go_sem, r1, r15, r16, r17, exi, givQ]
      intro i6 h6
      simp -implicitDefEqProofs only [go_sem, r1, r15, r16, r17, hyl]
      refine .intro (fun m ρ G => Ab.Sub h' G ∧ G i6 = some (.obj [.v (.int .i64 a[i].cat), .s a[i].name, .sl (a[i].bag.map valA) qi] 43) ∧ ∃ j : Nat, j ≤ b.length ∧ m = b.length - j ∧ lk ρ 1 = some (.sl ys q2) ∧ lk ρ 15 = some (.sl xs q1) ∧ lk ρ 16 = some (.v (.int .i64 a.length)) ∧ lk ρ 17 = some (.v (.int .i64 i)) ∧ lk ρ 6 = some (.ptr i6 0) ∧ lk ρ 7 = some (.v (.bool ((b.take j).any (eqGiv a[i])))) ∧ lk ρ 21 = some (.sl ys q2) ∧ lk ρ 22 = some (.v (.int .i64 b.length)) ∧ lk ρ 23 = some (.v (.int .i64 j))) b.length ?_ ?_
      · refine ⟨.upd_new h6, upd_same .., 0, by omega, rfl, ?_, ?_, ?_, ?_, ?_, ?_, ?_, ?_, ?_⟩ <;> simp -implicitDefEqProofs only [go_sem, r1, r15, r16, r17, List.take_zero, List.any_nil]
      · rintro m ρ G ⟨hG, g6, j, hj, rfl, r1, r15, r16, r17, r6, r7, r21, r22, r23⟩
        simp -implicitDefEqProofs only [go_sem, r1, r15, r16, r17, r6, r7, r21, r22, r23]
        refine .intro (fun e => ?_) (fun e => ?_)
        · have hlt2 : j < b.length := Int.ofNat_lt.1 (of_decide_eq_true e)
          have hlty : j < ys.length := by omega
          have w2 : IntKind.i64.wrap ((j : Int) + 1) = ((j + 1 : Nat) : Int) := by rw [wr64 _ (by omega)]; omega
          obtain ⟨qj, eyj⟩ := hy.2 j hlty hlt2
          simp -implicitDefEqProofs only [go_sem, r1, r15, r16, r17, r6, r7, r21, r22, r23]
          refine .at j hlty (by rw [eyj]; rfl) ?_
          simp -implicitDefEqProofs only [go_sem, r1, r15, r16, r17, r6, r7, r21, r22, r23, eyj, givQ]
          intro i9 h9
          have n96 : i6 ≠ i9 := fun e => by rw [← e, g6] at h9; cases h9
          simp -implicitDefEqProofs only [go_sem, upd_ne, n96, n96.symm, g6, r1, r15, r16, r17, r6, r7, r21, r22, r23]
          have hG9 : ∀ b, Ab.Sub h' (upd G i9 b) := fun b => hG.put (hG.none h9) b
          have g69 : ∀ b, upd G i9 b i6 = _ := fun b => (upd_other _ _ n96).trans g6
          cases d0 : (b.take j).any (eqGiv a[i])
          · simp -implicitDefEqProofs only [go_sem, upd_ne, n96, n96.symm, g6, r1, r15, r16, r17, r6, r7, r21, r22, r23, d0]
            cases dc : (a[i].cat == b[j].cat)
            · have ef : (b.take (j + 1)).any (eqGiv a[i]) = false := by rw [any_succ hlt2, d0, eqGiv, dc]; rfl
              simp -implicitDefEqProofs only [go_sem, upd_ne, n96, n96.symm, g6, r1, r15, r16, r17, r6, r7, r21, r22, r23, d0, dc, w2]
              refine ⟨_, ?_, hG9 _, g69 _, j + 1, by omega, rfl, ?_, ?_, ?_, ?_, ?_, ?_, ?_, ?_, ?_⟩
              · omega
              all_goals simp -implicitDefEqProofs only [go_sem, r1, r15, r16, r17, r6, r7, r21, r22, r23, ef, w2]
            · simp -implicitDefEqProofs only [go_sem, upd_ne, n96, n96.symm, g6, r1, r15, r16, r17, r6, r7, r21, r22, r23, d0, dc]
              cases dn : (a[i].name == b[j].name)
              · have ef : (b.take (j + 1)).any (eqGiv a[i]) = false := by rw [any_succ hlt2, d0, eqGiv, dc, dn]; rfl
                simp -implicitDefEqProofs only [go_sem, upd_ne, n96, n96.symm, g6, r1, r15, r16, r17, r6, r7, r21, r22, r23, d0, dc, dn, w2]
                refine ⟨_, ?_, hG9 _, g69 _, j + 1, by omega, rfl, ?_, ?_, ?_, ?_, ?_, ?_, ?_, ?_, ?_⟩
                · omega
                all_goals simp -implicitDefEqProofs only [go_sem, r1, r15, r16, r17, r6, r7, r21, r22, r23, ef, w2]
              · simp -implicitDefEqProofs only [go_sem, upd_ne, n96, n96.symm, g6, r1, r15, r16, r17, r6, r7, r21, r22, r23, d0, dc, dn]
                refine (sameValue_ok a[i].bag b[j].bag qi qj _).pthen ?_
                have ef : (b.take (j + 1)).any (eqGiv a[i]) = eqL eqVal a[i].bag b[j].bag := by rw [any_succ hlt2, d0, eqGiv, dc, dn]; rfl
                simp -implicitDefEqProofs only [go_sem, upd_ne, n96, n96.symm, g6, r1, r15, r16, r17, r6, r7, r21, r22, r23, d0, dc, dn, w2]
                refine ⟨_, ?_, hG9 _, g69 _, j + 1, by omega, rfl, ?_, ?_, ?_, ?_, ?_, ?_, ?_, ?_, ?_⟩
                · omega
                all_goals simp -implicitDefEqProofs only [go_sem, r1, r15, r16, r17, r6, r7, r21, r22, r23, ef, w2]
          · have ef : (b.take (j + 1)).any (eqGiv a[i]) = true := by rw [any_succ hlt2, d0]; rfl
            simp -implicitDefEqProofs only [go_sem, upd_ne, n96, n96.symm, g6, r1, r15, r16, r17, r6, r7, r21, r22, r23, d0, w2]
            refine ⟨_, ?_, hG9 _, g69 _, j + 1, by omega, rfl, ?_, ?_, ?_, ?_, ?_, ?_, ?_, ?_, ?_⟩
            · omega
            all_goals simp -implicitDefEqProofs only [go_sem, r1, r15, r16, r17, r6, r7, r21, r22, r23, ef, w2]
        · have hge : j = b.length := by have := of_decide_eq_false e; omega
          subst hge
          rw [List.take_length] at r7
          simp -implicitDefEqProofs only [go_sem, r1, r15, r16, r17, r6, r7, r21, r22, r23]
          cases d0 : b.any (eqGiv a[i])
          · simp -implicitDefEqProofs only [go_sem, r1, r15, r16, r17, r6, r7, r21, r22, r23, d0]
            exact .mk _ (.refl _) (hs.trans hG) ⟨by rw [asksD_at i hlt d0]; rfl, rfl⟩
          · simp -implicitDefEqProofs only [go_sem, r1, r15, r16, r17, r6, r7, r21, r22, r23, d0, w1]
            refine ⟨_, ?_, hs.trans hG, i + 1, by omega, rfl, fun k h1 hk => ?_, ?_, ?_, ?_, ?_⟩
            · omega
            · by_cases hki : k = i
              · subst hki; exact d0
              · exact hc k h1 (by omega)
            all_goals simp -implicitDefEqProofs only [go_sem, r1, r15, r16, r17, r6, r7, r21, r22, r23, w1]
    · have hge : i = a.length := by have := of_decide_eq_false e; omega
      subst hge
      simp -implicitDefEqProofs only [go_sem, r1, r15, r16, r17]
      exact .mk _ (.refl _) hs ⟨by rw [asksD_true e1 fun j h1 => hc j h1 h1]; rfl, rfl⟩
end Go.Proofs.YtnhelgnmadbpgaaGreatDoor

set_option linter.unusedSimpArgs false
set_option linter.unusedVariables false
namespace Go.Bf
def annT : Txt := [97, 110, 110]
def bobT : Txt := [98, 111, 98]
def runO1 : OpD := ⟨1, annT, [99, 49], [], [], zeroVal, 0, [], [], false⟩
def runO2 : OpD := ⟨2, bobT, [99, 49], [120], [], zeroVal, 0, [], [], false⟩
def runS : StoreD := ⟨0, [⟨[99, 49], annT, openT, [], [⟨0, annT, [110, 101, 119]⟩]⟩], [], [], [], leastP, 0⟩
def runG : List GivD := [⟨1, idT, [idV bobT]⟩, ⟨1, [114, 111, 108, 101], []⟩, ⟨2, [110, 97, 109, 101], [idV [114, 101, 97, 100]]⟩, ⟨2, [102, 105, 101, 108, 100], [idV [120]]⟩, ⟨4, [110, 111, 119], [⟨4, 0, []⟩]⟩, ⟨3, idT, [idV [99, 49]]⟩, ⟨3, [111, 119, 110, 101, 114], [idV annT]⟩, ⟨3, [115, 116, 97, 116, 101], [idV openT]⟩, ⟨3, [101, 118, 101, 110, 116, 115], [⟨2, 1, []⟩]⟩, ⟨3, [116, 111, 111, 107], [⟨1, 0, []⟩]⟩, ⟨3, [108, 97, 115, 116], [idV annT]⟩]
end Go.Bf
namespace Go.Proofs.YtnhelgnmadbpgaaGreatDoor
open Go Go.Ab Go.Bf
theorem run_store : doneD parseD newD runO1 = runS := by kernel_rfl
theorem run_asks : asksD (askD runS runO2) runG = true := by kernel_rfl
theorem few_run : Few runS := ⟨by decide, fun c hc => (by rw [List.mem_singleton.1 hc]; decide), fun c hc => (by rw [List.mem_singleton.1 hc]; decide), by decide, by decide, by decide⟩
theorem run_rows : GRow [givQ ⟨1, idT, [idV bobT]⟩ .full, givQ ⟨1, [114, 111, 108, 101], []⟩ .full, givQ ⟨2, [110, 97, 109, 101], [idV [114, 101, 97, 100]]⟩ .full, givQ ⟨2, [102, 105, 101, 108, 100], [idV [120]]⟩ .full, givQ ⟨4, [110, 111, 119], [⟨4, 0, []⟩]⟩ .full, givQ ⟨3, idT, [idV [99, 49]]⟩ .full, givQ ⟨3, [111, 119, 110, 101, 114], [idV annT]⟩ .full, givQ ⟨3, [115, 116, 97, 116, 101], [idV openT]⟩ .full, givQ ⟨3, [101, 118, 101, 110, 116, 115], [⟨2, 1, []⟩]⟩ .full, givQ ⟨3, [116, 111, 111, 107], [⟨1, 0, []⟩]⟩ .full, givQ ⟨3, [108, 97, 115, 116], [idV annT]⟩ .full] runG :=
  ((((((((((GRow.one _ _).app (GRow.one _ _)).app (GRow.one _ _)).app (GRow.one _ _)).app (GRow.one _ _)).app (GRow.one _ _)).app (GRow.one _ _)).app (GRow.one _ _)).app (GRow.one _ _)).app (GRow.one _ _)).app (GRow.one _ _)
set_option maxRecDepth 100000 in
theorem casesRuns_ok (h : Heap) (he : ErrT h) : FnOK Tryz.prog 3 [] h fun r h' => r = .v (.bool true) ∧ h' = h := by
  have hd := fun (G : Heap) (hG : Ab.Sub h G) => done_ok (rdS G newD) runO1 few_new least_polE ⟨by decide, by decide⟩ ⟨by decide, by decide⟩ ⟨by decide, by decide⟩ (he.sub hG)
  have ha := fun (G : Heap) => ask_ok (rdS G runS) runO2 few_run ⟨by decide, by decide⟩
  rw [run_store] at hd
  refine FnOK.body hU hm Tryz.func3 rfl (by kernel_rfl) 23 rfl [.tmp 0] rfl (Nat.le_of_ble_eq_true rfl) (fun hwf => ?_)
  simp -implicitDefEqProofs only [go_sem]
  refine (new_ok _ he).pthen ?_
  simp -implicitDefEqProofs only [go_sem]
  refine (show FnOK Tryz.prog _ [storeA newD, opA runO1] _ _ from hd _ (.refl _)).pthen ?_
  simp -implicitDefEqProofs only [go_sem]
  intro i1 h1
  have es : storeA runS = .agg [.v (.int .i64 0), casesA runS.cases, .sl [] .no, .sl [] .no, .sl [] .no, .s openT, .v (.bool false), .v (.int .i64 6), .sl [] .no, .sl [] .no, .sl [] .no, .sl [] .no, .v (.int .i64 0)] := rfl
  rw [es] at ha ⊢
  have hcs : ∃ l, casesA runS.cases = .sl l .no := ⟨_, rfl⟩
  obtain ⟨lc, elc⟩ := hcs
  rw [elc] at ha ⊢
  simp -implicitDefEqProofs only [go_sem]
  refine (lgiven_ok _ _ _ _ _ _).pthen ?_
  simp -implicitDefEqProofs only [go_sem, valA]
  refine (lgiven_ok _ _ _ _ _ _).pthen ?_
  simp -implicitDefEqProofs only [go_sem, valA]
  refine (lgiven_ok _ _ _ _ _ _).pthen ?_
  simp -implicitDefEqProofs only [go_sem, valA]
  refine (lgiven_ok _ _ _ _ _ _).pthen ?_
  simp -implicitDefEqProofs only [go_sem, valA]
  refine (lgiven_ok _ _ _ _ _ _).pthen ?_
  simp -implicitDefEqProofs only [go_sem, valA]
  refine (lgiven_ok _ _ _ _ _ _).pthen ?_
  simp -implicitDefEqProofs only [go_sem, valA]
  refine (lgiven_ok _ _ _ _ _ _).pthen ?_
  simp -implicitDefEqProofs only [go_sem, valA]
  refine (lgiven_ok _ _ _ _ _ _).pthen ?_
  simp -implicitDefEqProofs only [go_sem, valA]
  refine (lgiven_ok _ _ _ _ _ _).pthen ?_
  simp -implicitDefEqProofs only [go_sem, valA]
  refine (lgiven_ok _ _ _ _ _ _).pthen ?_
  simp -implicitDefEqProofs only [go_sem, valA]
  refine (show FnOK Tryz.prog _ [_, opA runO2] _ _ from ha _).pthen ?_
  simp -implicitDefEqProofs only [go_sem, givsA]
  refine (asks_ok (GRow.givs (askD runS runO2)) run_rows .no .full _).pthen ?_
  simp -implicitDefEqProofs only [go_sem, run_asks]
  exact .mk _ (.refl _) (.upd_new h1) ⟨rfl, rfl⟩
def pow10V : List Value := Lib.pow10Tab.map fun z => Value.int .u64 z
def startH (ev : Value) : Heap := tabH [(3, pow10V), (2, [ev])]
theorem start_err {ev : Value} (hev : ev = .nilIface ∨ ∃ te pe, ev = .iface te pe) : ErrT (startH ev) := ⟨ev, hev, 1, rfl⟩
end Go.Proofs.YtnhelgnmadbpgaaGreatDoor

set_option linter.unusedSimpArgs false
set_option linter.unusedVariables false
namespace Go.Bf
open Go Go.Ab
def withinD (m : Int) (b : Nat) : Nat := (if m.tmod (b + 1) < 0 then m.tmod (b + 1) + (b + 1) else m.tmod (b + 1)).toNat
theorem withinD_le (m : Int) (b : Nat) : withinD m b ≤ b := by
  have t1 := Int.tmod_lt_of_pos m (show (0 : Int) < b + 1 by omega)
  have t2 := Int.lt_tmod_of_pos m (show (0 : Int) < b + 1 by omega)
  unfold withinD
  split <;> omega
end Go.Bf
namespace Go.Proofs.YtnhelgnmadbpgaaGreatDoor
open Go Go.Ab Go.Bf
theorem within_ok (m : Int) (b : Nat) (h : Heap) (hm' : -9223372036854775808 ≤ m ∧ m ≤ 9223372036854775807) (hb : b ≤ 1099511627776) :
    FnOK Tryz.prog 36 [.v (.int .i64 m), .v (.int .i64 0), .v (.int .i64 b)] h fun r h' => r = .v (.int .i64 (withinD m b)) ∧ h' = h := by
  have w0 : IntKind.i64.wrap ((b : Int) - 0) = b := IntWalk.i64_in _ (by omega)
  have w1 : IntKind.i64.wrap (b : Int) = b := IntWalk.i64_in _ (by omega)
  have w2 : IntKind.i64.wrap ((b : Int) + 1) = (b : Int) + 1 := IntWalk.i64_in _ (by omega)
  have t1 := Int.tmod_lt_of_pos m (show 0 < (b : Int) + 1 by omega)
  have t2 := Int.lt_tmod_of_pos m (show 0 < (b : Int) + 1 by omega)
  have hd : (withinD m b : Int) = if m.tmod (b + 1) < 0 then m.tmod (b + 1) + (b + 1) else m.tmod (b + 1) := by
    unfold withinD; split <;> omega
  generalize hq : m.tmod ((b : Int) + 1) = q at t1 t2 hd
  have w3 : IntKind.i64.wrap (q + b) = q + b := IntWalk.i64_in _ (by omega)
  have w4 : IntKind.i64.wrap (q + b - 0) = q + b := by rw [Int.sub_zero]; exact w3
  have w5 : IntKind.i64.wrap (q + b + 1) = q + b + 1 := IntWalk.i64_in _ (by omega)
  refine FnOK.body hU hm Tryz.func36 rfl (by kernel_rfl) 24 rfl [.tmp 6] rfl (Nat.le_of_ble_eq_true rfl) (fun hwf => ?_)
  simp -implicitDefEqProofs only [go_sem, w0, w1, w2, hq, Int.sub_zero]
  refine ⟨by omega, .intro (fun e => ?_) (fun e => ?_)⟩
  · have e := of_decide_eq_true e
    rw [if_pos e] at hd
    simp -implicitDefEqProofs only [go_sem, w3, w4, w5, Int.sub_zero]
    have w6 : IntKind.i64.wrap (0 + (q + b + 1)) = q + b + 1 := by rw [Int.zero_add]; exact w5
    have w7 : IntKind.i64.wrap (q + b + 1) = q + b + 1 := IntWalk.i64_in _ (by omega)
    simp -implicitDefEqProofs only [go_sem, w6, w7, Int.zero_add]
    exact .same (.refl _) ⟨by rw [hd]; simp only [oneOr]; rw [Int.add_assoc], rfl⟩
  · have e := of_decide_eq_false e
    rw [if_neg e] at hd
    have w7 : IntKind.i64.wrap q = q := IntWalk.i64_in q (by omega)
    have w6 : IntKind.i64.wrap (0 + q) = q := by rw [Int.zero_add]; exact w7
    simp -implicitDefEqProofs only [go_sem, w6, w7, Int.zero_add]
    exact .same (.refl _) ⟨by rw [hd]; rfl, rfl⟩
end Go.Proofs.YtnhelgnmadbpgaaGreatDoor

set_option linter.unusedSimpArgs false
set_option linter.unusedVariables false
namespace Go.Bf
open Go Go.Ab
end Go.Bf
namespace Go.Proofs.YtnhelgnmadbpgaaGreatDoor
open Go Go.Ab Go.Bf
end Go.Proofs.YtnhelgnmadbpgaaGreatDoor

set_option linter.unusedSimpArgs false
set_option linter.unusedVariables false
namespace Go.Bf
open Go Go.Ab
def isGiv (cat : Int) (name : Txt) (g : GivD) : Bool := g.cat == cat && g.name == name
def getD (l : List GivD) (cat : Int) (name : Txt) : List ValD := match l.find? (isGiv cat name) with
  | some g => g.bag
  | none => []
end Go.Bf
namespace Go.Proofs.YtnhelgnmadbpgaaGreatDoor
open Go Go.Ab Go.Bf
theorem ixGiv_ok {α : Type} (y : AV) (xs : List AV) (ds : List α) (q : α → Bool) (g : FuncId) (cap : List AV) (h : Heap) (hb : Rd h 3 y xs) (hn : xs.length = ds.length) (hl : xs.length ≤ 1000000000) (hx : ∀ x ∈ xs, isAggA x = true)
    (hp : ∀ i (h1 : i < xs.length) (h2 : i < ds.length), FnOK Tryz.prog g (xs[i] :: cap) h fun r h' => r = .v (.bool (q ds[i])) ∧ h' = h) :
    FnOK Tryz.prog 111 [y, .fn g cap] h fun r h' => r = .v (.int .i64 (ixD q ds)) ∧ h' = h := by
  refine FnOK.body hU hm Tryz.func111 rfl (by kernel_rfl) 19 rfl [.tmp 4] rfl (Nat.le_of_ble_eq_true rfl) (fun hwf => ?_)
  simp -implicitDefEqProofs only [go_sem, hb.len]
  refine .intro (fun m ρ h' => h' = h ∧ ∃ i : Nat, i ≤ xs.length ∧ m = xs.length - i ∧ (∀ j (hj : j < i) (h2 : j < ds.length), q ds[j] = false) ∧ lk ρ 0 = some y ∧ lk ρ 1 = some (.fn g cap) ∧ lk ρ 7 = some (.v (.int .i64 xs.length)) ∧ lk ρ 8 = some (.v (.int .i64 i))) xs.length ?_ ?_
  · refine ⟨rfl, 0, by omega, rfl, fun j hj => (by omega), ?_, ?_, ?_, ?_⟩ <;> simp -implicitDefEqProofs only [go_sem]
  · rintro m ρ h' ⟨rfl, i, hi, rfl, hc, r0, r1, r7, r8⟩
    simp -implicitDefEqProofs only [go_sem, r0, r1, r7, r8]
    refine .intro (fun e => ?_) (fun e => ?_)
    · have hlt : i < xs.length := Int.ofNat_lt.1 (of_decide_eq_true e)
      have hlt2 : i < ds.length := by omega
      have w1 : IntKind.i64.wrap ((i : Int) + 1) = ((i + 1 : Nat) : Int) := by rw [wr64 _ (by omega)]; omega
      simp -implicitDefEqProofs only [go_sem, r0, r1, r7, r8]
      refine hb.idx (e := 43) i rfl hlt (by simp only [go_sem]) (by decide) fun p hp1 => ?_
      have hld := hp1.all (U := U) (ty := 43) (by simp only [go_sem]) (by simp only [go_sem]; exact hb.1 _ (List.getElem_mem hlt)) (by simp only [go_sem]; rw [hx _ (List.getElem_mem hlt)])
      simp -implicitDefEqProofs only [go_sem, r0, r1, r7, r8, hld]
      refine (show FnOK Tryz.prog g (xs[i] :: cap) _ _ from hp i hlt hlt2).pthen ?_
      cases d1 : q ds[i]
      · simp -implicitDefEqProofs only [go_sem, r0, r1, r7, r8, w1]
        refine ⟨_, ?_, rfl, i + 1, by omega, rfl, fun j hj h2 => ?_, ?_, ?_, ?_, ?_⟩
        · omega
        · by_cases hji : j = i
          · subst hji; exact d1
          · exact hc j (by omega) h2
        all_goals simp -implicitDefEqProofs only [go_sem, r0, r1, r7, r8, w1]
      · simp -implicitDefEqProofs only [go_sem, r0, r1, r7, r8]
        exact .same (.refl _) ⟨by rw [ixD_at hlt2 d1 fun j hj => hc j hj (by omega)]; rfl, rfl⟩
    · have hge : i = xs.length := by have := of_decide_eq_false e; omega
      simp -implicitDefEqProofs only [go_sem, r0, r1, r7, r8]
      exact .same (.refl _) ⟨by rw [ixD_none fun j hj => hc j (by omega) hj]; rfl, rfl⟩
theorem place1_ok {h : Heap} (g : GivD) {k1 k2 : Nat} {cat : Int} {name : Txt} (h1 : h k1 = some (.obj [.v (.int .i64 cat)] 3)) (h2 : h k2 = some (.obj [.s name] 9)) : FnOK Tryz.prog 112 [givA g, .ptr k1 0, .ptr k2 0] h fun r h' => r = .v (.bool (isGiv cat name g)) ∧ h' = h := by
  refine FnOK.body hU hm Tryz.func112 rfl (by kernel_rfl) 15 rfl [.tmp 4] rfl (Nat.le_of_ble_eq_true rfl) (fun hwf => ?_)
  simp -implicitDefEqProofs only [go_sem, givA]
  intro i1 hi1
  have n1 : k1 ≠ i1 := fun e => by subst e; rw [h1] at hi1; cases hi1
  have n2 : k2 ≠ i1 := fun e => by subst e; rw [h2] at hi1; cases hi1
  simp -implicitDefEqProofs only [go_sem, upd_ne, n1, n1.symm, n2, n2.symm, h1, h2]
  cases d1 : (g.cat == cat)
  · simp -implicitDefEqProofs only [go_sem, upd_ne, n1, n1.symm, n2, n2.symm, h1, h2, d1]
    exact .mk _ (.refl _) (.upd_new hi1) ⟨by simp only [isGiv, d1]; rfl, rfl⟩
  · simp -implicitDefEqProofs only [go_sem, upd_ne, n1, n1.symm, n2, n2.symm, h1, h2, d1]
    exact .mk _ (.refl _) (.upd_new hi1) ⟨by simp only [isGiv, d1]; rfl, rfl⟩
theorem place_ok (gs : List GivD) (cat : Int) (name : Txt) (hl : gs.length ≤ 1000000000) (h : Heap) : FnOK Tryz.prog 77 [givsA gs, .v (.int .i64 cat), .s name] h fun r h' => r = .v (.int .i64 (ixD (isGiv cat name) gs)) ∧ h' = h := by
  refine FnOK.body hU hm Tryz.func77 rfl (by kernel_rfl) 10 rfl [.tmp 6] rfl (Nat.le_of_ble_eq_true rfl) (fun hwf => ?_)
  simp -implicitDefEqProofs only [go_sem, givsA]
  intro i1 h1
  simp -implicitDefEqProofs only [go_sem]
  intro i2 h2
  have n21 := ne_upd h2
  have n2 := upd_none h2
  have hs : ∀ a b, Ab.Sub h (upd (upd h i1 a) i2 b) := fun a b => ((Sub.refl h).put h1 a).put n2 b
  simp -implicitDefEqProofs only [go_sem, upd_ne, n21, n21.symm]
  refine (ixGiv_ok _ _ gs (isGiv cat name) _ [.ptr i1 0, .ptr i2 0] _ (rd_map givA 3 (fun _ => rfl) _ gs) (by simp) (by simpa using hl) (agg_map (fun _ => rfl) _) fun i a b => by
    rw [List.getElem_map]; exact place1_ok _ (by rw [upd_other _ _ n21.symm, upd_same]) (upd_same ..)).pthen ?_
  simp -implicitDefEqProofs only [go_sem]
  exact .mk _ (.refl _) (hs _ _) ⟨rfl, rfl⟩
theorem get_at {gs : List GivD} {cat : Int} {name : Txt} (h : gs.findIdx (isGiv cat name) < gs.length) : getD gs cat name = gs[gs.findIdx (isGiv cat name)].bag := by
  unfold getD
  rw [show gs.find? (isGiv cat name) = some gs[gs.findIdx (isGiv cat name)] from List.find?_eq_some_iff_getElem.2 ⟨List.findIdx_getElem (w := h), _, h, rfl, fun j hj => by simpa using List.not_of_lt_findIdx hj⟩]
theorem get_no {gs : List GivD} {cat : Int} {name : Txt} (h : ¬ gs.findIdx (isGiv cat name) < gs.length) : getD gs cat name = [] := by
  unfold getD
  have e : gs.findIdx (isGiv cat name) = gs.length := by
    have : gs.findIdx (isGiv cat name) ≤ gs.length := List.findIdx_le_length
    omega
  rw [List.find?_eq_none.2 fun x hx => by simpa using List.findIdx_eq_length.1 e x hx]
theorem get_ok (gs : List GivD) (cat : Int) (name : Txt) (hl : gs.length ≤ 1000000000) (hb : ∀ g ∈ gs, g.bag.length ≤ 1000000) (h : Heap) : FnOK Tryz.prog 39 [givsA gs, .agg [.v (.int .i64 cat), .s name, .v (.bool false)]] h fun r h' => r = .tup [.sl ((getD gs cat name).map valA) .no, .v (.int .i64 0)] ∧ h' = h := by
  have hpl := fun G => place_ok gs cat name hl G
  simp only [givsA] at hpl
  refine FnOK.body hU hm Tryz.func39 rfl (by kernel_rfl) 30 rfl [.tmp 4, .tmp 5] rfl (Nat.le_of_ble_eq_true rfl) (fun hwf => ?_)
  simp -implicitDefEqProofs only [go_sem, givsA]
  intro i1 h1
  simp -implicitDefEqProofs only [go_sem]
  refine (hpl _).pthen ?_
  by_cases hx : gs.findIdx (isGiv cat name) < gs.length
  · have e1 : ixD (isGiv cat name) gs = (gs.findIdx (isGiv cat name) : Nat) := by rw [ixD]; exact if_pos hx
    have d1 : decide ((0 : Int) ≤ ((gs.findIdx (isGiv cat name) : Nat) : Int)) = true := decide_eq_true (by omega)
    rw [e1]
    simp -implicitDefEqProofs only [go_sem, d1]
    refine .at (gs.findIdx (isGiv cat name)) (by simpa using hx) (by rw [List.getElem_map]; rfl) ?_
    simp -implicitDefEqProofs only [go_sem, List.getElem_map, givA]
    rw [if_neg (fun hh => hh.1)]
    have hlb := hb _ (List.getElem_mem hx)
    refine (clpValue_ok _ (gs[gs.findIdx (isGiv cat name)].bag.map valA) _ (rd_map valA 3 (fun _ => rfl) _ _) (by simpa using hlb) (pureL_map (fun _ => rfl) _)).pthen ?_
    cases d2 : ((gs[gs.findIdx (isGiv cat name)].bag.length : Int) == 0)
    · simp -implicitDefEqProofs only [go_sem, d1, d2, List.length_map]
      exact .mk _ (.refl _) (.upd_new h1) ⟨by rw [get_at hx]; rfl, rfl⟩
    · simp -implicitDefEqProofs only [go_sem, d1, d2, List.length_map]
      exact .mk _ (.refl _) (.upd_new h1) ⟨by rw [get_at hx]; rfl, rfl⟩
  · have e1 : ixD (isGiv cat name) gs = -1 := by rw [ixD]; exact if_neg hx
    have d1 : decide ((0 : Int) ≤ -1) = false := rfl
    rw [e1]
    simp -implicitDefEqProofs only [go_sem, d1]
    refine .mk (.tup [.sl [] .no, .v (.int .i64 0)]) (.tup _ _ rfl fun i a b => ?_) (.upd_new h1) ⟨by rw [get_no hx]; rfl, rfl⟩
    rcases i with _ | _ | i
    · exact .sl _ _
    · exact .refl _
    · simp at a; omega
end Go.Proofs.YtnhelgnmadbpgaaGreatDoor

set_option linter.unusedSimpArgs false
set_option linter.unusedVariables false
namespace Go.Bf
open Go Go.Ab
end Go.Bf
namespace Go.Proofs.YtnhelgnmadbpgaaGreatDoor
open Go Go.Ab Go.Bf
theorem ask_bags (s : StoreD) (o : OpD) : ∀ g ∈ askD s o, g.bag.length ≤ 1000000 := by
  intro g hg
  have hle := rolesOf_le s.roles o.subj
  simp only [askD, List.mem_append, List.mem_cons, List.not_mem_nil, or_false] at hg
  rcases hg with (((((rfl | rfl | rfl) | hg) | hg) | rfl) | hg)
  · simp
  · simp only; omega
  · simp
  · split at hg
    · cases hg
    · rw [List.mem_singleton.1 hg]; simp
  · split at hg
    · cases hg
    · rw [List.mem_singleton.1 hg]; simp
  · simp
  · split at hg
    · simp only [askCaseD, List.mem_append, List.mem_cons, List.not_mem_nil, or_false, List.mem_map] at hg
      rcases hg with (((rfl | rfl | rfl | rfl | rfl) | hg) | ⟨f, _, rfl⟩)
      · simp
      · simp
      · simp
      · simp
      · simp
      · split at hg
        · rw [List.mem_singleton.1 hg]; simp
        · cases hg
      · simp
    · cases hg
end Go.Proofs.YtnhelgnmadbpgaaGreatDoor

set_option linter.unusedSimpArgs false
set_option linter.unusedVariables false
namespace Go.Bf
open Go Go.Ab
def bossT : Txt := [98, 111, 115, 115]
def roleS (rs : List RoleD) : StoreD := ⟨0, [], [], [], rs, leastP, 0⟩
def roleO (r : RoleD) : OpD := ⟨6, bossT, r.subj, r.role, [], zeroVal, 0, [], [], false⟩
def two (a : UInt8) (n : Nat) : Txt := [a, (97 + n).toUInt8]
theorem two_s : ∀ n, n < 6 → nameOK (two 115 n) = true := by decide
theorem two_r : ∀ n, n < 20 → nameOK (two 114 n) = true := by decide
theorem role_form {r : RoleD} (h1 : nameOK r.subj = true) (h2 : nameOK r.role = true) : formD (roleO r) = true := by
  have e0 : nameOK [] = false := by kernel_rfl
  have n1 : r.subj ≠ [] := fun e => by rw [e, e0] at h1; cases h1
  have n2 : r.role ≠ [] := fun e => by rw [e, e0] at h2; cases h2
  have e : nameOK bossT = true := by kernel_rfl
  have t : takesD (roleO r) = true := by
    simp only [takesD, okD, roleO, bareD, onlyD, eqOp, zeroVal]
    simp [n1, n2]
  simp only [formD, t]
  simp [roleO, e, reasonD, emptyD, eqV, zeroVal, h1, h2]
theorem role_ready {rs : List RoleD} {r : RoleD} (h1 : nameOK r.subj = true) (h2 : nameOK r.role = true) : readyD (roleS rs) (roleO r) = if 64 ≤ rs.length ∧ hasD rs r = false then 6 else 0 := by
  unfold readyD
  rw [role_form h1 h2]
  simp [roleO, roleS]
theorem role_done {rs : List RoleD} {r : RoleD} (par : Txt → PolD × Int × Int) (h1 : nameOK r.subj = true) (h2 : nameOK r.role = true) : doneD par (roleS rs) (roleO r) = if hasD rs r then roleS rs else if 64 ≤ rs.length then roleS rs else roleS (rs ++ [r]) := by
  unfold doneD
  rw [role_ready h1 h2]
  cases hh : hasD rs r
  · by_cases hl : 64 ≤ rs.length
    · simp [hl]
    · simp only [hl, false_and, if_false, if_true]
      simp [doD, roleO, roleS, hh]
  · simp [doD, roleO, roleS, hh]
theorem role_ask (rs : List RoleD) (name : Txt) : getD (askD (roleS rs) ⟨8, name, [], [], [], zeroVal, 1, [], [], false⟩) 1 [114, 111, 108, 101] = rolesOf rs name := by
  simp [askD, getD, isGiv, roleS, thereD, idT, List.find?]
end Go.Bf
namespace Go.Proofs.YtnhelgnmadbpgaaGreatDoor
open Go Go.Ab Go.Bf
theorem few_role {rs : List RoleD} (h : rs.length ≤ 64) : Few (roleS rs) := ⟨by simp [roleS], fun c hc => (by cases hc), fun c hc => (by cases hc), by simp [roleS], by simp [roleS], by simp only [roleS]; omega⟩
end Go.Proofs.YtnhelgnmadbpgaaGreatDoor

set_option linter.unusedSimpArgs false
set_option linter.unusedVariables false
namespace Go.Bf
open Go Go.Ab
def cT : Txt := [99]
end Go.Bf
namespace Go.Proofs.YtnhelgnmadbpgaaGreatDoor
open Go Go.Ab Go.Bf
end Go.Proofs.YtnhelgnmadbpgaaGreatDoor

set_option linter.unusedSimpArgs false
set_option linter.unusedVariables false
namespace Go.Bf
open Go Go.Ab
abbrev lt (a b : Txt) : Prop := Op.bytesLess a b = true
theorem lt_irrefl : ∀ a : Txt, ¬ lt a a
  | [] => by simp [lt, Op.bytesLess]
  | a :: x => by
    have := lt_irrefl x
    simp only [lt, Op.bytesLess, Bool.or_eq_true, Bool.and_eq_true, decide_eq_true_eq, beq_self_eq_true, true_and, not_or]
    exact ⟨UInt8.lt_irrefl a, this⟩
theorem lt_trans : ∀ {a b c : Txt}, lt a b → lt b c → lt a c
  | _, [], _, h, _ => by cases ‹Txt› <;> simp [lt, Op.bytesLess] at h
  | [], b :: y, c, _, h => by cases c <;> simp [lt, Op.bytesLess] at h ⊢
  | a :: x, b :: y, [], _, h => by simp [lt, Op.bytesLess] at h
  | a :: x, b :: y, c :: z, h1, h2 => by
    simp only [lt, Op.bytesLess, Bool.or_eq_true, Bool.and_eq_true, decide_eq_true_eq, beq_iff_eq] at h1 h2 ⊢
    rcases h1 with h1 | ⟨rfl, h1⟩
    · rcases h2 with h2 | ⟨rfl, h2⟩
      · exact .inl (UInt8.lt_trans h1 h2)
      · exact .inl h1
    · rcases h2 with h2 | ⟨rfl, h2⟩
      · exact .inl h2
      · exact .inr ⟨rfl, lt_trans h1 h2⟩
def Asc (cs : List CaseD) : Prop := cs.Pairwise fun a b => lt a.id b.id
end Go.Bf

set_option linter.unusedSimpArgs false
set_option linter.unusedVariables false
namespace Go.Bf
open Go Go.Ab
def mkC (who id : Txt) : CaseD := ⟨id, who, openT, [], [⟨0, who, [110, 101, 119]⟩]⟩
def hasC (cs : List CaseD) (id : Txt) : Bool := cs.any fun c => c.id == id
end Go.Bf
namespace Go.Proofs.YtnhelgnmadbpgaaGreatDoor
open Go Go.Ab Go.Bf
end Go.Proofs.YtnhelgnmadbpgaaGreatDoor

set_option linter.unusedSimpArgs false
set_option linter.unusedVariables false
namespace Go.Ab
open Go
section
variable {α : Type}
def dget (l : List (List UInt8 × α)) (k : List UInt8) : Option α := (l.find? fun p => p.1 == k).map (·.2)
end
end Go.Ab

set_option linter.unusedSimpArgs false
set_option linter.unusedVariables false
namespace Go.Bf
open Go Go.Ab Go.Proofs.YtnhelgnmadbpgaaGreatDoor
theorem byte_small {m : Nat} (h : m < 256) : (((UInt8.ofNat m).toNat : Nat) : Int) = (m : Int) := by
  have : (UInt8.ofNat m).toNat = m := by simp [UInt8.toNat_ofNat']; omega
  rw [this]
theorem byte_one (n : Nat) (h : n ≤ 100) : IntKind.u8.wrap (IntKind.i64.wrap (97 + (n : Int))) = ((UInt8.ofNat (97 + n)).toNat : Int) := by
  rw [IntWalk.i64_in _ (by omega), IntWalk.u8_in _ (by omega), byte_small (by omega)]
  omega
structure Own (cs : List CaseD) (own : List (Txt × Txt)) : Prop where
  asc : Asc cs
  len : cs.length = own.length
  small : cs.length ≤ 64
  mem : ∀ c ∈ cs, c = mkC c.owner c.id ∧ dget own c.id = some c.owner
  has : ∀ id, hasC cs id = (dget own id).isSome
  who : ∀ id w, dget own id = some w → w ≠ []
  keys : ∀ p ∈ own, p.1.length ≤ 3
end Go.Bf
namespace Go.Proofs.YtnhelgnmadbpgaaGreatDoor
open Go Go.Ab Go.Bf
end Go.Proofs.YtnhelgnmadbpgaaGreatDoor

set_option linter.unusedSimpArgs false
set_option linter.unusedVariables false
namespace Go.Proofs.YtnhelgnmadbpgaaGreatDoor
open Go Go.Ab Go.Bf
def roL (rs : List RoleD) : List AV := [.v (.int .i64 0), .sl [] .no, .sl [] .no, .sl [] .no, .sl (rs.map roleA) .no, .s [111, 112, 101, 110], .v (.bool false), .v (.int .i64 6), .sl [] .no, .sl [] .no, .sl [] .no, .sl [] .no, .v (.int .i64 0)]
theorem roL_eq (rs : List RoleD) : storeA (roleS rs) = .agg (roL rs) := rfl
theorem ro_new : newD = roleS [] := rfl
theorem role_eqc (x : RoleD) (s r : Txt) : (x.subj == s && x.role == r) = eqRole ⟨s, r⟩ x := by
  simp only [eqRole, BEq.comm (a := x.subj), BEq.comm (a := x.role)]
theorem role_refl (rs : List RoleD) : eqL eqRoleD rs rs = true := eqL_true rfl fun j h1 h2 => by simp [eqRoleD]
theorem val_refl (vs : List ValD) : eqL eqVal vs vs = true := eqL_true rfl fun j h1 h2 => by simp [eqVal]
theorem roles_snoc (l : List RoleD) (x : RoleD) (s : Txt) : rolesOf (l ++ [x]) s = if x.subj = s ∧ (rolesOf l s).length < 16 then rolesOf l s ++ [idV x.role] else rolesOf l s := by
  unfold rolesOf
  rw [List.filter_append, List.map_append]
  generalize (l.filter fun r => r.subj == s).map (fun r => idV r.role) = A
  by_cases e : x.subj = s
  · have : [x].filter (fun r => r.subj == s) = [x] := by simp [e]
    rw [this]
    by_cases hl : A.length < 16
    · have h1 : (A.take 16).length < 16 := by simp; omega
      have h2 : A.take 16 = A := List.take_of_length_le (by omega)
      simp only [List.map_cons, List.map_nil, e, true_and]
      rw [List.take_of_length_le (by simp; omega), h2]
      simp [hl]
    · have h1 : ¬ (A.take 16).length < 16 := by simp; omega
      simp only [List.map_cons, List.map_nil, h1, and_false, if_false]
      rw [List.take_append_of_le_length (by omega)]
  · have : [x].filter (fun r => r.subj == s) = [] := by simp [e]
    rw [this]
    simp [e]
theorem acc_put {e : TypeId} {h h' : Heap} {y : AV} {xs : List AV} {id : Nat} {cs : List AV} {t : TypeId} (ha : Acc U e h h' y xs) (h0 : h id = none) (h1 : h' id = some (.obj cs t)) (b : Option Blk) : Acc U e h (upd h' id b) y xs := by
  obtain ⟨a, rfl | ⟨k, i1, rfl, i2⟩⟩ := ha
  · exact ⟨a.put h0 _, .inl rfl⟩
  · refine ⟨a.put h0 _, .inr ⟨k, i1, rfl, ?_⟩⟩
    rw [upd_other _ _ fun e => by rw [e, h1] at i2; cases i2]
    exact i2
set_option maxRecDepth 100000 in
theorem casesRoles_ok (x y : AV) (dx : Dat U 77 x) (dy : Dat U 77 y) (h : Heap) (he : ErrT h) : FnOK Tryz.prog 10 [x, y] h fun r h' => r = .v (.bool true) ∧ h' = h := by
  obtain ⟨l, rfl, hl, hln⟩ := dx.ints (e := 3) (by simp only [go_sem]) (by simp only [go_sem])
  obtain ⟨l', rfl, hl', hln'⟩ := dy.ints (e := 3) (by simp only [go_sem]) (by simp only [go_sem])
  have hml : maxLen = 9223372036854775807 := rfl
  refine FnOK.body hU hm Tryz.func10 rfl (by kernel_rfl) 167 rfl [.tmp 4] rfl (Nat.le_of_ble_eq_true rfl) (fun hwf => ?_)
  simp -implicitDefEqProofs only [go_sem]
  refine (new_ok _ he).pthen ?_
  rw [ro_new, roL_eq]
  simp -implicitDefEqProofs only [go_sem, roL]
  intro i5 h5
  simp -implicitDefEqProofs only [go_sem]
  have hsz : (U 75).sz = 2 := by simp only [go_sem]
  have hvz : (U 38).sz = 3 := by simp only [go_sem]
  refine .intro (fun m ρ H => ∃ (i : Nat) (rs : List RoleD) (y : AV), H i5 = some (.obj (roL rs) 34) ∧ Acc U 75 h H y (rs.map roleA) ∧ rs.length ≤ 64 ∧ i ≤ l.length ∧ i ≤ l'.length ∧ i ≤ 90 ∧ m = l.length - i ∧ lk ρ 0 = some (.sl (l.map iA) .no) ∧ lk ρ 1 = some (.sl (l'.map iA) .no) ∧ lk ρ 5 = some (.ptr i5 0) ∧ lk ρ 6 = some y ∧ lk ρ 7 = some (.v (.int .i64 i))) l.length ?_ ?_
  · refine ⟨0, [], .sl [] .full, upd_same .., .full (.upd_new h5), by simp, by omega, by omega, by omega, rfl, ?_, ?_, ?_, ?_, ?_⟩ <;> simp -implicitDefEqProofs only [go_sem]
  · rintro m ρ H ⟨i, rs, y, g5, hy, hrl, hi, hi', hi90, rfl, r0, r1, r5, r6, r7⟩
    simp only [roL] at g5
    have hs := hy.1
    have hfin : ∀ (G : Heap), Ab.Sub h G → FnOK Tryz.prog 3 [] G fun r h' => r = .v (.bool true) ∧ h' = G := fun G hG => casesRuns_ok _ (he.sub hG)
    obtain ⟨qy, eqy⟩ := hy.row
    subst eqy
    simp -implicitDefEqProofs only [go_sem, r0, r1, r5, r6, r7, List.length_map]
    by_cases hgo : i < l.length ∧ i < l'.length ∧ i < 90
    · obtain ⟨hlt, hlt', hlt90⟩ := hgo
      have d1 : decide ((i : Int) < (l.length : Int)) = true := decide_eq_true (by omega)
      have d2 : decide ((i : Int) < (l'.length : Int)) = true := decide_eq_true (by omega)
      have d3 : decide ((i : Int) < 90) = true := decide_eq_true (by omega)
      simp -implicitDefEqProofs only [go_sem, r0, r1, r5, r6, r7, List.length_map, d1, d2, d3]
      have hlm := hln _ (List.getElem_mem hlt)
      have hlm' := hln' _ (List.getElem_mem hlt')
      refine .tree H (.quiet [0, 1, 2, 3] 4 (.quiet [5, 6, 7, 8, 9, 10, 11, 12, 13] 14 (.seq [15, 16, 17, 18, 19, 20, 21, 22]))) (.refl _) (by kernel_rfl) rfl ?_
      simp -implicitDefEqProofs only [go_sem, r0, r1, r5, r6, r7]
      refine .at i (by simpa using hlt) (by rw [List.getElem_map]; rfl) ?_
      simp -implicitDefEqProofs only [go_sem, r0, r1, r5, r6, r7, List.getElem_map, iA]
      refine .of (within_ok l[i] 5 · hlm (by decide)) ?_
      have hwl := withinD_le l[i] 5
      generalize withinD l[i] 5 = n1 at hwl ⊢
      simp -implicitDefEqProofs only [go_sem, r0, r1, r5, r6, r7]
      refine ⟨rfl, [UInt8.ofNat (97 + n1)], by rw [byte_one n1 (by omega)]; rfl, ?_⟩
      simp -implicitDefEqProofs only [go_sem, r0, r1, r5, r6, r7, List.cons_append, List.nil_append]
      refine ⟨by decide, ?_⟩
      refine .at i (by simpa using hlt') (by rw [List.getElem_map]; rfl) ?_
      simp -implicitDefEqProofs only [go_sem, r0, r1, r5, r6, r7, List.getElem_map, iA]
      refine .of (within_ok l'[i] 19 · hlm' (by decide)) ?_
      have hwl' := withinD_le l'[i] 19
      generalize withinD l'[i] 19 = n2 at hwl' ⊢
      simp -implicitDefEqProofs only [go_sem, r0, r1, r5, r6, r7]
      refine ⟨rfl, [UInt8.ofNat (97 + n2)], by rw [byte_one n2 (by omega)]; rfl, ?_⟩
      simp -implicitDefEqProofs only [go_sem, r0, r1, r5, r6, r7, List.cons_append, List.nil_append]
      refine ⟨by decide, ?_⟩
      have hn1 : nameOK (two 115 n1) = true := two_s n1 (by omega)
      have hn2 : nameOK (two 114 n2) = true := two_r n2 (by omega)
      have e1 : ([115, UInt8.ofNat (97 + n1)] : Txt) = two 115 n1 := rfl
      have e2 : ([114, UInt8.ofNat (97 + n2)] : Txt) = two 114 n2 := rfl
      rw [e1, e2]
      generalize two 115 n1 = sub at hn1 ⊢
      generalize two 114 n2 = rol at hn2 ⊢
      intro i8 h8
      have n85 : i8 ≠ i5 := fun e => by rw [e, g5] at h8; cases h8
      simp -implicitDefEqProofs only [go_sem, upd_ne, n85, n85.symm, r0, r1, r5, r6, r7]
      refine ⟨(Sub.refl H).put h8 _, (Sub.refl H).put h8 _, ?_⟩
      simp -implicitDefEqProofs only [go_sem, upd_ne, n85, n85.symm, r0, r1, r5, r6, r7, List.length_map]
      refine .intro (fun m ρ2 H2 => ∃ (j : Nat), Ab.Sub (upd H i8 (some (.obj [.s sub, .s rol] 75))) H2 ∧ j ≤ rs.length ∧ m = rs.length - j ∧ lk ρ2 0 = some (.sl (l.map iA) .no) ∧ lk ρ2 1 = some (.sl (l'.map iA) .no) ∧ lk ρ2 5 = some (.ptr i5 0) ∧ lk ρ2 6 = some (.sl (rs.map roleA) qy) ∧ lk ρ2 7 = some (.v (.int .i64 i)) ∧ lk ρ2 8 = some (.ptr i8 0) ∧ lk ρ2 9 = some (.v (.bool (hasD (rs.take j) ⟨sub, rol⟩))) ∧ lk ρ2 59 = some (.sl (rs.map roleA) qy) ∧ lk ρ2 60 = some (.v (.int .i64 rs.length)) ∧ lk ρ2 61 = some (.v (.int .i64 j))) rs.length ?_ ?_
      · refine ⟨0, .refl _, by omega, rfl, ?_, ?_, ?_, ?_, ?_, ?_, ?_, ?_, ?_, ?_⟩ <;> simp -implicitDefEqProofs only [go_sem, r0, r1, r5, r6, r7, List.length_map]
        rfl
      · rintro m2 ρ2 H2 ⟨j, hs2, hj, rfl, s0, s1, s5, s6, s7, s8, s9, s59, s60, s61⟩
        have k8 : H2 i8 = some (.obj [.s sub, .s rol] 75) := hs2 _ _ (upd_same ..)
        have k5 := hs2 i5 _ (by rw [upd_other _ _ n85.symm, g5])
        have hsH : Ab.Sub h H2 := (hs.trans (.upd_new h8)).trans hs2
        cases e1 : decide ((j : Int) < (rs.length : Int))
        · have hje : j = rs.length := by have := of_decide_eq_false e1; omega
          rw [hje, List.take_length] at s9
          simp -implicitDefEqProofs only [go_sem, s0, s1, s5, s6, s7, s8, s9, s59, s60, s61, e1, k8, k5]
          intro i12 h12
          have n128 : i12 ≠ i8 := fun e => by rw [e, k8] at h12; cases h12
          have n125 : i12 ≠ i5 := fun e => by rw [e, k5] at h12; cases h12
          have hrd := fun (G : Heap) => ready_ok (rdS G (roleS rs)) (roleO ⟨sub, rol⟩) (few_role hrl) ⟨by simp [roleO], by simp [roleO]⟩ ⟨by simp [roleS], by simp [roleS]⟩
          have hdn := fun (G : Heap) (hG : Ab.Sub h G) => done_ok (rdS G (roleS rs)) (roleO ⟨sub, rol⟩) (few_role hrl) least_polE ⟨by simp [roleO], by simp [roleO]⟩ ⟨by simp [roleS], by simp [roleS]⟩ ⟨by simp [roleS], by simp [roleS]⟩ (he.sub hG)
          have hhs := fun (G : Heap) => has_ok (rdS G (roleS rs)) sub rol (by show rs.length ≤ _; omega)
          rw [role_ready hn1 hn2] at hrd
          rw [role_done _ hn1 hn2] at hdn
          have hO := hy.sub ((Sub.upd_new h8).trans hs2)
          have w2 : IntKind.i64.wrap ((i : Int) + 1) = ((i + 1 : Nat) : Int) := by rw [wr64 _ (by omega)]; omega
          cases dh : hasD rs ⟨sub, rol⟩
          · by_cases hfull : 64 ≤ rs.length
            · simp only [dh, and_true, hfull, if_true, Bool.false_eq_true, if_false] at hrd hdn
              have dl : decide ((rs.length : Int) < 64) = false := decide_eq_false (by omega)
              simp -implicitDefEqProofs only [go_sem, upd_ne, n128, n128.symm, n125, n125.symm, s0, s1, s5, s6, s7, s8, s9, s59, s60, s61, k8, k5, dh, dl, List.length_map]
              refine (show FnOK Tryz.prog _ [storeA (roleS rs), opA (roleO ⟨sub, rol⟩)] _ _ from hrd _).pthen ?_
              simp -implicitDefEqProofs only [go_sem, upd_ne, n128, n128.symm, n125, n125.symm, s0, s1, s5, s6, s7, s8, s9, s59, s60, s61, k8, k5, dh]
              refine (show FnOK Tryz.prog _ [storeA (roleS rs), .s sub, .s rol] _ _ from hhs _).pthen ?_
              rw [show hasD (roleS rs).roles ⟨sub, rol⟩ = false from dh]
              simp -implicitDefEqProofs only [go_sem, upd_ne, n128, n128.symm, n125, n125.symm, s0, s1, s5, s6, s7, s8, s9, s59, s60, s61, k8, k5, dh]
              refine (show FnOK Tryz.prog _ [storeA (roleS rs), opA (roleO ⟨sub, rol⟩)] _ _ from hdn _ ((hO.1).trans (.upd_new h12))).pthen ?_
              rw [roL_eq]
              simp -implicitDefEqProofs only [go_sem, upd_ne, n128, n128.symm, n125, n125.symm, s0, s1, s5, s6, s7, s8, s9, s59, s60, s61, k8, k5, dh, roL, w2]
              refine ⟨_, ?_, i + 1, rs, _, by rw [upd_same], acc_put (hO.sub (.upd_new h12)) h5 (by rw [upd_other _ _ n125.symm, k5]) _, hrl, by omega, by omega, by omega, rfl, ?_, ?_, ?_, ?_, ?_⟩
              · omega
              all_goals simp -implicitDefEqProofs only [go_sem, s0, s1, s5, s6, s7, w2]
            · simp only [dh, and_true, hfull, if_false, Bool.false_eq_true, if_false] at hrd hdn
              have dl : decide ((rs.length : Int) < 64) = true := decide_eq_true (by omega)
              simp -implicitDefEqProofs only [go_sem, upd_ne, n128, n128.symm, n125, n125.symm, s0, s1, s5, s6, s7, s8, s9, s59, s60, s61, k8, k5, dh, dl, List.length_map]
              refine (show FnOK Tryz.prog _ [storeA (roleS rs), opA (roleO ⟨sub, rol⟩)] _ _ from hrd _).pthen ?_
              simp -implicitDefEqProofs only [go_sem, upd_ne, n128, n128.symm, n125, n125.symm, s0, s1, s5, s6, s7, s8, s9, s59, s60, s61, k8, k5, dh]
              refine (show FnOK Tryz.prog _ [storeA (roleS rs), .s sub, .s rol] _ _ from hhs _).pthen ?_
              rw [show hasD (roleS rs).roles ⟨sub, rol⟩ = false from dh]
              simp -implicitDefEqProofs only [go_sem, upd_ne, n128, n128.symm, n125, n125.symm, s0, s1, s5, s6, s7, s8, s9, s59, s60, s61, k8, k5, dh]
              refine (show FnOK Tryz.prog _ [storeA (roleS rs), opA (roleO ⟨sub, rol⟩)] _ _ from hdn _ ((hO.1).trans (.upd_new h12))).pthen ?_
              rw [roL_eq]
              simp -implicitDefEqProofs only [go_sem, upd_ne, n128, n128.symm, n125, n125.symm, s0, s1, s5, s6, s7, s8, s9, s59, s60, s61, k8, k5, dh, roL, w2, n85, n85.symm]
              refine Acc.app (xs := rs.map roleA) (acc_put (hO.sub (.upd_new h12)) h5 (by rw [upd_other _ _ n125.symm, k5]) _) (zs := [roleA ⟨sub, rol⟩]) (by rw [hsz]; decide) (by simp only [go_sem, ne_eq, not_false_eq_true]) (fun k hk => hk) (by rw [hsz]; exact sized_map (f := roleA) (fun _ => rfl) _) (by rw [hsz]; intro z hz; rw [List.mem_singleton.1 hz]; rfl) (by simp only [go_sem, List.length_append, List.length_map, List.length_cons, List.length_nil] <;> omega) fun yz Gz hyz kpz => ?_
              simp -implicitDefEqProofs only [go_sem, s0, s1, s5, s6, s7, s8, s9, w2]
              refine ⟨_, ?_, i + 1, rs ++ [⟨sub, rol⟩], yz, by rw [kpz i5 _ _ (upd_same ..)], by rw [List.map_append]; exact hyz, by simp; omega, by omega, by omega, by omega, rfl, ?_, ?_, ?_, ?_, ?_⟩
              · omega
              all_goals simp -implicitDefEqProofs only [go_sem, s0, s1, s5, s6, s7, w2]
          · simp only [dh, Bool.true_eq_false, and_false, if_false, if_true] at hrd hdn
            simp -implicitDefEqProofs only [go_sem, upd_ne, n128, n128.symm, n125, n125.symm, s0, s1, s5, s6, s7, s8, s9, s59, s60, s61, k8, k5, dh]
            refine (show FnOK Tryz.prog _ [storeA (roleS rs), opA (roleO ⟨sub, rol⟩)] _ _ from hrd _).pthen ?_
            simp -implicitDefEqProofs only [go_sem, upd_ne, n128, n128.symm, n125, n125.symm, s0, s1, s5, s6, s7, s8, s9, s59, s60, s61, k8, k5, dh]
            refine (show FnOK Tryz.prog _ [storeA (roleS rs), .s sub, .s rol] _ _ from hhs _).pthen ?_
            rw [show hasD (roleS rs).roles ⟨sub, rol⟩ = true from dh]
            simp -implicitDefEqProofs only [go_sem, upd_ne, n128, n128.symm, n125, n125.symm, s0, s1, s5, s6, s7, s8, s9, s59, s60, s61, k8, k5, dh]
            refine (show FnOK Tryz.prog _ [storeA (roleS rs), opA (roleO ⟨sub, rol⟩)] _ _ from hdn _ ((hO.1).trans (.upd_new h12))).pthen ?_
            rw [roL_eq]
            simp -implicitDefEqProofs only [go_sem, upd_ne, n128, n128.symm, n125, n125.symm, s0, s1, s5, s6, s7, s8, s9, s59, s60, s61, k8, k5, dh, roL, w2]
            refine ⟨_, ?_, i + 1, rs, _, by rw [upd_same], acc_put (hO.sub (.upd_new h12)) h5 (by rw [upd_other _ _ n125.symm, k5]) _, hrl, by omega, by omega, by omega, rfl, ?_, ?_, ?_, ?_, ?_⟩
            · omega
            all_goals simp -implicitDefEqProofs only [go_sem, s0, s1, s5, s6, s7, w2]
        · have hjl : j < rs.length := Int.ofNat_lt.1 (of_decide_eq_true e1)
          have htk : hasD (rs.take (j + 1)) ⟨sub, rol⟩ = (hasD (rs.take j) ⟨sub, rol⟩ || eqRole ⟨sub, rol⟩ rs[j]) := by
            unfold hasD
            rw [← List.take_append_getElem hjl, List.any_append]
            simp only [List.any_cons, List.any_nil, Bool.or_false]
          have w1 : IntKind.i64.wrap ((j : Int) + 1) = ((j + 1 : Nat) : Int) := by rw [wr64 _ (by omega)]; omega
          simp -implicitDefEqProofs only [go_sem, s0, s1, s5, s6, s7, s8, s9, s59, s60, s61, e1]
          refine .at j (by simpa using hjl) (by rw [List.getElem_map]; rfl) ?_
          simp -implicitDefEqProofs only [go_sem, s0, s1, s5, s6, s7, s8, s9, s59, s60, s61, List.getElem_map, roleA]
          intro i11 h11
          have n118 : i11 ≠ i8 := fun e => by rw [e, k8] at h11; cases h11
          cases hb : hasD (rs.take j) ⟨sub, rol⟩
          · simp -implicitDefEqProofs only [go_sem, upd_ne, n118, n118.symm, s0, s1, s5, s6, s7, s8, s9, s59, s60, s61, k8, hb, w1]
            refine ⟨_, ?_, j + 1, hs2.trans (.upd_new h11), by omega, rfl, ?_, ?_, ?_, ?_, ?_, ?_, ?_, ?_, ?_, ?_⟩
            · omega
            all_goals simp -implicitDefEqProofs only [go_sem, s0, s1, s5, s6, s7, s8, s9, s59, s60, s61, w1, htk, hb, Bool.false_or]
            rw [role_eqc]
          · simp -implicitDefEqProofs only [go_sem, upd_ne, n118, n118.symm, s0, s1, s5, s6, s7, s8, s9, s59, s60, s61, k8, hb, w1]
            refine ⟨_, ?_, j + 1, hs2.trans (.upd_new h11), by omega, rfl, ?_, ?_, ?_, ?_, ?_, ?_, ?_, ?_, ?_, ?_⟩
            · omega
            all_goals simp -implicitDefEqProofs only [go_sem, s0, s1, s5, s6, s7, s8, s9, s59, s60, s61, w1, htk, hb, Bool.true_or]
    · cases d1 : decide ((i : Int) < (l.length : Int))
      · simp -implicitDefEqProofs only [go_sem, r0, r1, r5, r6, r7, List.length_map, d1]
        refine .intro (fun m ρ3 H3 => ∃ (k : Nat), Ab.Sub H H3 ∧ k ≤ 6 ∧ m = 6 - k ∧ lk ρ3 5 = some (.ptr i5 0) ∧ lk ρ3 6 = some (.sl (rs.map roleA) qy) ∧ lk ρ3 14 = some (.v (.int .i64 k))) 6 ?_ ?_
        · refine ⟨0, .refl _, by omega, rfl, ?_, ?_, ?_⟩ <;> simp -implicitDefEqProofs only [go_sem, r5, r6]
        · rintro m3 ρ3 H3 ⟨k, hs3, hk, rfl, t5, t6, t14⟩
          have k5 := hs3 i5 _ g5
          cases e1 : decide ((k : Int) < 6)
          · simp -implicitDefEqProofs only [go_sem, t5, t6, t14, e1, k5]
            refine (sameRole_ok rs rs .no qy _).pthen ?_
            rw [role_refl]
            simp -implicitDefEqProofs only [go_sem, t5, t6, t14]
            refine (hfin _ (hs.trans hs3)).pthen ?_
            simp -implicitDefEqProofs only [go_sem, t5, t6, t14]
            exact .mk _ (.refl _) (hs.trans hs3) ⟨rfl, rfl⟩
          · have hk6 : k < 6 := Int.ofNat_lt.1 (of_decide_eq_true e1)
            simp -implicitDefEqProofs only [go_sem, t5, t6, t14, e1, k5]
            refine ⟨rfl, [UInt8.ofNat (97 + k)], by rw [byte_one k (by omega)]; rfl, ?_⟩
            simp -implicitDefEqProofs only [go_sem, t5, t6, t14, List.cons_append, List.nil_append]
            have e1 : ([115, UInt8.ofNat (97 + k)] : Txt) = two 115 k := rfl
            rw [e1]
            have hn1 : nameOK (two 115 k) = true := two_s k (by omega)
            generalize two 115 k = nm at hn1 ⊢
            refine ⟨by decide, ?_⟩
            refine .intro (fun m ρ4 H4 => ∃ (j : Nat) (y : AV), Acc U 38 H3 H4 y ((rolesOf (rs.take j) nm).map valA) ∧ j ≤ rs.length ∧ m = rs.length - j ∧ lk ρ4 5 = some (.ptr i5 0) ∧ lk ρ4 6 = some (.sl (rs.map roleA) qy) ∧ lk ρ4 14 = some (.v (.int .i64 k)) ∧ lk ρ4 15 = some (.s nm) ∧ lk ρ4 16 = some y ∧ lk ρ4 121 = some (.sl (rs.map roleA) qy) ∧ lk ρ4 122 = some (.v (.int .i64 rs.length)) ∧ lk ρ4 123 = some (.v (.int .i64 j))) rs.length ?_ ?_
            · refine ⟨0, .sl [] .full, .full (.refl _), by omega, rfl, ?_, ?_, ?_, ?_, ?_, ?_, ?_, ?_⟩ <;> simp -implicitDefEqProofs only [go_sem, t5, t6, t14, List.length_map]
            · rintro m4 ρ4 H4 ⟨j, y4, hy4, hj, rfl, u5, u6, u14, u15, u16, u121, u122, u123⟩
              have k5' := hy4.1 i5 _ k5
              obtain ⟨q4, eq4⟩ := hy4.row
              subst eq4
              cases e2 : decide ((j : Int) < (rs.length : Int))
              · have hje : j = rs.length := by have := of_decide_eq_false e2; omega
                rw [hje, List.take_length] at u16
                simp -implicitDefEqProofs only [go_sem, u5, u6, u14, u15, u16, u121, u122, u123, e2, k5']
                refine (show FnOK Tryz.prog _ [storeA (roleS rs), opA ⟨8, nm, [], [], [], zeroVal, 1, [], [], false⟩] _ _ from ask_ok (rdS _ (roleS rs)) ⟨8, nm, [], [], [], zeroVal, 1, [], [], false⟩ (few_role hrl) ⟨by simp, by simp⟩).pthen ?_
                simp -implicitDefEqProofs only [go_sem, u5, u6, u14, u15, u16, u121, u122, u123]
                refine (get_ok (askD (roleS rs) ⟨8, nm, [], [], [], zeroVal, 1, [], [], false⟩) 1 [114, 111, 108, 101] (by simp [askD, roleS, thereD]) (ask_bags _ _) _).pthen ?_
                rw [role_ask]
                simp -implicitDefEqProofs only [go_sem, u5, u6, u14, u15, u16, u121, u122, u123]
                refine (sameValue_ok (rolesOf rs nm) (rolesOf rs nm) .no q4 _).pthen ?_
                rw [val_refl]
                have w6 : IntKind.i64.wrap ((k : Int) + 1) = ((k + 1 : Nat) : Int) := by rw [wr64 _ (by omega)]; omega
                simp -implicitDefEqProofs only [go_sem, u5, u6, u14, u15, u16, u121, u122, u123, w6]
                refine ⟨_, ?_, k + 1, hs3.trans hy4.1, by omega, rfl, ?_, ?_, ?_⟩
                · omega
                all_goals simp -implicitDefEqProofs only [go_sem, u5, u6, u14, u15, u16, w6]
              · have hjl : j < rs.length := Int.ofNat_lt.1 (of_decide_eq_true e2)
                have w1 : IntKind.i64.wrap ((j : Int) + 1) = ((j + 1 : Nat) : Int) := by rw [wr64 _ (by omega)]; omega
                have hsn := roles_snoc (rs.take j) rs[j] nm
                rw [List.take_append_getElem hjl] at hsn
                simp -implicitDefEqProofs only [go_sem, u5, u6, u14, u15, u16, u121, u122, u123, e2]
                refine .at j (by simpa using hjl) (by rw [List.getElem_map]; rfl) ?_
                simp -implicitDefEqProofs only [go_sem, u5, u6, u14, u15, u16, u121, u122, u123, List.getElem_map, roleA]
                intro i18 h18
                by_cases hs1 : rs[j].subj = nm
                · have ds : (rs[j].subj == nm) = true := by simpa using hs1
                  by_cases hs2 : (rolesOf (rs.take j) nm).length < 16
                  · rw [if_pos ⟨hs1, hs2⟩] at hsn
                    have dl : decide (((rolesOf (rs.take j) nm).length : Int) < 16) = true := decide_eq_true (by omega)
                    simp -implicitDefEqProofs only [go_sem, u5, u6, u14, u15, u16, u121, u122, u123, ds, dl, List.length_map]
                    refine Acc.app (hy4.sub (.upd_new h18)) (zs := [valA (idV rs[j].role)]) (by rw [hvz]; decide) (by simp only [go_sem, ne_eq, not_false_eq_true]) (fun k hk => hk) (by rw [hvz]; exact sized_map (f := valA) (fun _ => rfl) _) (by rw [hvz]; intro z hz; rw [List.mem_singleton.1 hz]; rfl) (by simp only [go_sem, List.length_append, List.length_map, List.length_cons, List.length_nil] <;> omega) fun yz Gz hyz kpz => ?_
                    simp -implicitDefEqProofs only [go_sem, u5, u6, u14, u15, u16, u121, u122, u123, w1]
                    refine ⟨_, ?_, j + 1, yz, by rw [hsn, List.map_append]; exact hyz, by omega, rfl, ?_, ?_, ?_, ?_, ?_, ?_, ?_, ?_⟩
                    · omega
                    all_goals simp -implicitDefEqProofs only [go_sem, u5, u6, u14, u15, u16, u121, u122, u123, w1]
                  · rw [if_neg fun h => hs2 h.2] at hsn
                    have dl : decide (((rolesOf (rs.take j) nm).length : Int) < 16) = false := decide_eq_false (by omega)
                    simp -implicitDefEqProofs only [go_sem, u5, u6, u14, u15, u16, u121, u122, u123, ds, dl, List.length_map, w1]
                    refine ⟨_, ?_, j + 1, _, by rw [hsn]; exact hy4.sub (.upd_new h18), by omega, rfl, ?_, ?_, ?_, ?_, ?_, ?_, ?_, ?_⟩
                    · omega
                    all_goals simp -implicitDefEqProofs only [go_sem, u5, u6, u14, u15, u16, u121, u122, u123, w1]
                · have ds : (rs[j].subj == nm) = false := by simpa using hs1
                  rw [if_neg fun h => hs1 h.1] at hsn
                  simp -implicitDefEqProofs only [go_sem, u5, u6, u14, u15, u16, u121, u122, u123, ds, w1]
                  refine ⟨_, ?_, j + 1, _, by rw [hsn]; exact hy4.sub (.upd_new h18), by omega, rfl, ?_, ?_, ?_, ?_, ?_, ?_, ?_, ?_⟩
                  · omega
                  all_goals simp -implicitDefEqProofs only [go_sem, u5, u6, u14, u15, u16, u121, u122, u123, w1]
      · simp -implicitDefEqProofs only [go_sem, r0, r1, r5, r6, r7, List.length_map, d1]
        cases d2 : decide ((i : Int) < (l'.length : Int))
        · simp -implicitDefEqProofs only [go_sem, r0, r1, r5, r6, r7, List.length_map, d1, d2]
          refine .intro (fun m ρ3 H3 => ∃ (k : Nat), Ab.Sub H H3 ∧ k ≤ 6 ∧ m = 6 - k ∧ lk ρ3 5 = some (.ptr i5 0) ∧ lk ρ3 6 = some (.sl (rs.map roleA) qy) ∧ lk ρ3 14 = some (.v (.int .i64 k))) 6 ?_ ?_
          · refine ⟨0, .refl _, by omega, rfl, ?_, ?_, ?_⟩ <;> simp -implicitDefEqProofs only [go_sem, r5, r6]
          · rintro m3 ρ3 H3 ⟨k, hs3, hk, rfl, t5, t6, t14⟩
            have k5 := hs3 i5 _ g5
            cases e1 : decide ((k : Int) < 6)
            · simp -implicitDefEqProofs only [go_sem, t5, t6, t14, e1, k5]
              refine (sameRole_ok rs rs .no qy _).pthen ?_
              rw [role_refl]
              simp -implicitDefEqProofs only [go_sem, t5, t6, t14]
              refine (hfin _ (hs.trans hs3)).pthen ?_
              simp -implicitDefEqProofs only [go_sem, t5, t6, t14]
              exact .mk _ (.refl _) (hs.trans hs3) ⟨rfl, rfl⟩
            · have hk6 : k < 6 := Int.ofNat_lt.1 (of_decide_eq_true e1)
              simp -implicitDefEqProofs only [go_sem, t5, t6, t14, e1, k5]
              refine ⟨rfl, [UInt8.ofNat (97 + k)], by rw [byte_one k (by omega)]; rfl, ?_⟩
              simp -implicitDefEqProofs only [go_sem, t5, t6, t14, List.cons_append, List.nil_append]
              have e1 : ([115, UInt8.ofNat (97 + k)] : Txt) = two 115 k := rfl
              rw [e1]
              have hn1 : nameOK (two 115 k) = true := two_s k (by omega)
              generalize two 115 k = nm at hn1 ⊢
              refine ⟨by decide, ?_⟩
              refine .intro (fun m ρ4 H4 => ∃ (j : Nat) (y : AV), Acc U 38 H3 H4 y ((rolesOf (rs.take j) nm).map valA) ∧ j ≤ rs.length ∧ m = rs.length - j ∧ lk ρ4 5 = some (.ptr i5 0) ∧ lk ρ4 6 = some (.sl (rs.map roleA) qy) ∧ lk ρ4 14 = some (.v (.int .i64 k)) ∧ lk ρ4 15 = some (.s nm) ∧ lk ρ4 16 = some y ∧ lk ρ4 121 = some (.sl (rs.map roleA) qy) ∧ lk ρ4 122 = some (.v (.int .i64 rs.length)) ∧ lk ρ4 123 = some (.v (.int .i64 j))) rs.length ?_ ?_
              · refine ⟨0, .sl [] .full, .full (.refl _), by omega, rfl, ?_, ?_, ?_, ?_, ?_, ?_, ?_, ?_⟩ <;> simp -implicitDefEqProofs only [go_sem, t5, t6, t14, List.length_map]
              · rintro m4 ρ4 H4 ⟨j, y4, hy4, hj, rfl, u5, u6, u14, u15, u16, u121, u122, u123⟩
                have k5' := hy4.1 i5 _ k5
                obtain ⟨q4, eq4⟩ := hy4.row
                subst eq4
                cases e2 : decide ((j : Int) < (rs.length : Int))
                · have hje : j = rs.length := by have := of_decide_eq_false e2; omega
                  rw [hje, List.take_length] at u16
                  simp -implicitDefEqProofs only [go_sem, u5, u6, u14, u15, u16, u121, u122, u123, e2, k5']
                  refine (show FnOK Tryz.prog _ [storeA (roleS rs), opA ⟨8, nm, [], [], [], zeroVal, 1, [], [], false⟩] _ _ from ask_ok (rdS _ (roleS rs)) ⟨8, nm, [], [], [], zeroVal, 1, [], [], false⟩ (few_role hrl) ⟨by simp, by simp⟩).pthen ?_
                  simp -implicitDefEqProofs only [go_sem, u5, u6, u14, u15, u16, u121, u122, u123]
                  refine (get_ok (askD (roleS rs) ⟨8, nm, [], [], [], zeroVal, 1, [], [], false⟩) 1 [114, 111, 108, 101] (by simp [askD, roleS, thereD]) (ask_bags _ _) _).pthen ?_
                  rw [role_ask]
                  simp -implicitDefEqProofs only [go_sem, u5, u6, u14, u15, u16, u121, u122, u123]
                  refine (sameValue_ok (rolesOf rs nm) (rolesOf rs nm) .no q4 _).pthen ?_
                  rw [val_refl]
                  have w6 : IntKind.i64.wrap ((k : Int) + 1) = ((k + 1 : Nat) : Int) := by rw [wr64 _ (by omega)]; omega
                  simp -implicitDefEqProofs only [go_sem, u5, u6, u14, u15, u16, u121, u122, u123, w6]
                  refine ⟨_, ?_, k + 1, hs3.trans hy4.1, by omega, rfl, ?_, ?_, ?_⟩
                  · omega
                  all_goals simp -implicitDefEqProofs only [go_sem, u5, u6, u14, u15, u16, w6]
                · have hjl : j < rs.length := Int.ofNat_lt.1 (of_decide_eq_true e2)
                  have w1 : IntKind.i64.wrap ((j : Int) + 1) = ((j + 1 : Nat) : Int) := by rw [wr64 _ (by omega)]; omega
                  have hsn := roles_snoc (rs.take j) rs[j] nm
                  rw [List.take_append_getElem hjl] at hsn
                  simp -implicitDefEqProofs only [go_sem, u5, u6, u14, u15, u16, u121, u122, u123, e2]
                  refine .at j (by simpa using hjl) (by rw [List.getElem_map]; rfl) ?_
                  simp -implicitDefEqProofs only [go_sem, u5, u6, u14, u15, u16, u121, u122, u123, List.getElem_map, roleA]
                  intro i18 h18
                  by_cases hs1 : rs[j].subj = nm
                  · have ds : (rs[j].subj == nm) = true := by simpa using hs1
                    by_cases hs2 : (rolesOf (rs.take j) nm).length < 16
                    · rw [if_pos ⟨hs1, hs2⟩] at hsn
                      have dl : decide (((rolesOf (rs.take j) nm).length : Int) < 16) = true := decide_eq_true (by omega)
                      simp -implicitDefEqProofs only [go_sem, u5, u6, u14, u15, u16, u121, u122, u123, ds, dl, List.length_map]
                      refine Acc.app (hy4.sub (.upd_new h18)) (zs := [valA (idV rs[j].role)]) (by rw [hvz]; decide) (by simp only [go_sem, ne_eq, not_false_eq_true]) (fun k hk => hk) (by rw [hvz]; exact sized_map (f := valA) (fun _ => rfl) _) (by rw [hvz]; intro z hz; rw [List.mem_singleton.1 hz]; rfl) (by simp only [go_sem, List.length_append, List.length_map, List.length_cons, List.length_nil] <;> omega) fun yz Gz hyz kpz => ?_
                      simp -implicitDefEqProofs only [go_sem, u5, u6, u14, u15, u16, u121, u122, u123, w1]
                      refine ⟨_, ?_, j + 1, yz, by rw [hsn, List.map_append]; exact hyz, by omega, rfl, ?_, ?_, ?_, ?_, ?_, ?_, ?_, ?_⟩
                      · omega
                      all_goals simp -implicitDefEqProofs only [go_sem, u5, u6, u14, u15, u16, u121, u122, u123, w1]
                    · rw [if_neg fun h => hs2 h.2] at hsn
                      have dl : decide (((rolesOf (rs.take j) nm).length : Int) < 16) = false := decide_eq_false (by omega)
                      simp -implicitDefEqProofs only [go_sem, u5, u6, u14, u15, u16, u121, u122, u123, ds, dl, List.length_map, w1]
                      refine ⟨_, ?_, j + 1, _, by rw [hsn]; exact hy4.sub (.upd_new h18), by omega, rfl, ?_, ?_, ?_, ?_, ?_, ?_, ?_, ?_⟩
                      · omega
                      all_goals simp -implicitDefEqProofs only [go_sem, u5, u6, u14, u15, u16, u121, u122, u123, w1]
                  · have ds : (rs[j].subj == nm) = false := by simpa using hs1
                    rw [if_neg fun h => hs1 h.1] at hsn
                    simp -implicitDefEqProofs only [go_sem, u5, u6, u14, u15, u16, u121, u122, u123, ds, w1]
                    refine ⟨_, ?_, j + 1, _, by rw [hsn]; exact hy4.sub (.upd_new h18), by omega, rfl, ?_, ?_, ?_, ?_, ?_, ?_, ?_, ?_⟩
                    · omega
                    all_goals simp -implicitDefEqProofs only [go_sem, u5, u6, u14, u15, u16, u121, u122, u123, w1]
        · have d3 : decide ((i : Int) < 90) = false := decide_eq_false fun h3 => hgo ⟨by have := of_decide_eq_true d1; omega, by have := of_decide_eq_true d2; omega, by omega⟩
          simp -implicitDefEqProofs only [go_sem, r0, r1, r5, r6, r7, List.length_map, d1, d2, d3]
          refine .intro (fun m ρ3 H3 => ∃ (k : Nat), Ab.Sub H H3 ∧ k ≤ 6 ∧ m = 6 - k ∧ lk ρ3 5 = some (.ptr i5 0) ∧ lk ρ3 6 = some (.sl (rs.map roleA) qy) ∧ lk ρ3 14 = some (.v (.int .i64 k))) 6 ?_ ?_
          · refine ⟨0, .refl _, by omega, rfl, ?_, ?_, ?_⟩ <;> simp -implicitDefEqProofs only [go_sem, r5, r6]
          · rintro m3 ρ3 H3 ⟨k, hs3, hk, rfl, t5, t6, t14⟩
            have k5 := hs3 i5 _ g5
            cases e1 : decide ((k : Int) < 6)
            · simp -implicitDefEqProofs only [go_sem, t5, t6, t14, e1, k5]
              refine (sameRole_ok rs rs .no qy _).pthen ?_
              rw [role_refl]
              simp -implicitDefEqProofs only [go_sem, t5, t6, t14]
              refine (hfin _ (hs.trans hs3)).pthen ?_
              simp -implicitDefEqProofs only [go_sem, t5, t6, t14]
              exact .mk _ (.refl _) (hs.trans hs3) ⟨rfl, rfl⟩
            · have hk6 : k < 6 := Int.ofNat_lt.1 (of_decide_eq_true e1)
              simp -implicitDefEqProofs only [go_sem, t5, t6, t14, e1, k5]
              refine ⟨rfl, [UInt8.ofNat (97 + k)], by rw [byte_one k (by omega)]; rfl, ?_⟩
              simp -implicitDefEqProofs only [go_sem, t5, t6, t14, List.cons_append, List.nil_append]
              have e1 : ([115, UInt8.ofNat (97 + k)] : Txt) = two 115 k := rfl
              rw [e1]
              have hn1 : nameOK (two 115 k) = true := two_s k (by omega)
              generalize two 115 k = nm at hn1 ⊢
              refine ⟨by decide, ?_⟩
              refine .intro (fun m ρ4 H4 => ∃ (j : Nat) (y : AV), Acc U 38 H3 H4 y ((rolesOf (rs.take j) nm).map valA) ∧ j ≤ rs.length ∧ m = rs.length - j ∧ lk ρ4 5 = some (.ptr i5 0) ∧ lk ρ4 6 = some (.sl (rs.map roleA) qy) ∧ lk ρ4 14 = some (.v (.int .i64 k)) ∧ lk ρ4 15 = some (.s nm) ∧ lk ρ4 16 = some y ∧ lk ρ4 121 = some (.sl (rs.map roleA) qy) ∧ lk ρ4 122 = some (.v (.int .i64 rs.length)) ∧ lk ρ4 123 = some (.v (.int .i64 j))) rs.length ?_ ?_
              · refine ⟨0, .sl [] .full, .full (.refl _), by omega, rfl, ?_, ?_, ?_, ?_, ?_, ?_, ?_, ?_⟩ <;> simp -implicitDefEqProofs only [go_sem, t5, t6, t14, List.length_map]
              · rintro m4 ρ4 H4 ⟨j, y4, hy4, hj, rfl, u5, u6, u14, u15, u16, u121, u122, u123⟩
                have k5' := hy4.1 i5 _ k5
                obtain ⟨q4, eq4⟩ := hy4.row
                subst eq4
                cases e2 : decide ((j : Int) < (rs.length : Int))
                · have hje : j = rs.length := by have := of_decide_eq_false e2; omega
                  rw [hje, List.take_length] at u16
                  simp -implicitDefEqProofs only [go_sem, u5, u6, u14, u15, u16, u121, u122, u123, e2, k5']
                  refine (show FnOK Tryz.prog _ [storeA (roleS rs), opA ⟨8, nm, [], [], [], zeroVal, 1, [], [], false⟩] _ _ from ask_ok (rdS _ (roleS rs)) ⟨8, nm, [], [], [], zeroVal, 1, [], [], false⟩ (few_role hrl) ⟨by simp, by simp⟩).pthen ?_
                  simp -implicitDefEqProofs only [go_sem, u5, u6, u14, u15, u16, u121, u122, u123]
                  refine (get_ok (askD (roleS rs) ⟨8, nm, [], [], [], zeroVal, 1, [], [], false⟩) 1 [114, 111, 108, 101] (by simp [askD, roleS, thereD]) (ask_bags _ _) _).pthen ?_
                  rw [role_ask]
                  simp -implicitDefEqProofs only [go_sem, u5, u6, u14, u15, u16, u121, u122, u123]
                  refine (sameValue_ok (rolesOf rs nm) (rolesOf rs nm) .no q4 _).pthen ?_
                  rw [val_refl]
                  have w6 : IntKind.i64.wrap ((k : Int) + 1) = ((k + 1 : Nat) : Int) := by rw [wr64 _ (by omega)]; omega
                  simp -implicitDefEqProofs only [go_sem, u5, u6, u14, u15, u16, u121, u122, u123, w6]
                  refine ⟨_, ?_, k + 1, hs3.trans hy4.1, by omega, rfl, ?_, ?_, ?_⟩
                  · omega
                  all_goals simp -implicitDefEqProofs only [go_sem, u5, u6, u14, u15, u16, w6]
                · have hjl : j < rs.length := Int.ofNat_lt.1 (of_decide_eq_true e2)
                  have w1 : IntKind.i64.wrap ((j : Int) + 1) = ((j + 1 : Nat) : Int) := by rw [wr64 _ (by omega)]; omega
                  have hsn := roles_snoc (rs.take j) rs[j] nm
                  rw [List.take_append_getElem hjl] at hsn
                  simp -implicitDefEqProofs only [go_sem, u5, u6, u14, u15, u16, u121, u122, u123, e2]
                  refine .at j (by simpa using hjl) (by rw [List.getElem_map]; rfl) ?_
                  simp -implicitDefEqProofs only [go_sem, u5, u6, u14, u15, u16, u121, u122, u123, List.getElem_map, roleA]
                  intro i18 h18
                  by_cases hs1 : rs[j].subj = nm
                  · have ds : (rs[j].subj == nm) = true := by simpa using hs1
                    by_cases hs2 : (rolesOf (rs.take j) nm).length < 16
                    · rw [if_pos ⟨hs1, hs2⟩] at hsn
                      have dl : decide (((rolesOf (rs.take j) nm).length : Int) < 16) = true := decide_eq_true (by omega)
                      simp -implicitDefEqProofs only [go_sem, u5, u6, u14, u15, u16, u121, u122, u123, ds, dl, List.length_map]
                      refine Acc.app (hy4.sub (.upd_new h18)) (zs := [valA (idV rs[j].role)]) (by rw [hvz]; decide) (by simp only [go_sem, ne_eq, not_false_eq_true]) (fun k hk => hk) (by rw [hvz]; exact sized_map (f := valA) (fun _ => rfl) _) (by rw [hvz]; intro z hz; rw [List.mem_singleton.1 hz]; rfl) (by simp only [go_sem, List.length_append, List.length_map, List.length_cons, List.length_nil] <;> omega) fun yz Gz hyz kpz => ?_
                      simp -implicitDefEqProofs only [go_sem, u5, u6, u14, u15, u16, u121, u122, u123, w1]
                      refine ⟨_, ?_, j + 1, yz, by rw [hsn, List.map_append]; exact hyz, by omega, rfl, ?_, ?_, ?_, ?_, ?_, ?_, ?_, ?_⟩
                      · omega
                      all_goals simp -implicitDefEqProofs only [go_sem, u5, u6, u14, u15, u16, u121, u122, u123, w1]
                    · rw [if_neg fun h => hs2 h.2] at hsn
                      have dl : decide (((rolesOf (rs.take j) nm).length : Int) < 16) = false := decide_eq_false (by omega)
                      simp -implicitDefEqProofs only [go_sem, u5, u6, u14, u15, u16, u121, u122, u123, ds, dl, List.length_map, w1]
                      refine ⟨_, ?_, j + 1, _, by rw [hsn]; exact hy4.sub (.upd_new h18), by omega, rfl, ?_, ?_, ?_, ?_, ?_, ?_, ?_, ?_⟩
                      · omega
                      all_goals simp -implicitDefEqProofs only [go_sem, u5, u6, u14, u15, u16, u121, u122, u123, w1]
                  · have ds : (rs[j].subj == nm) = false := by simpa using hs1
                    rw [if_neg fun h => hs1 h.1] at hsn
                    simp -implicitDefEqProofs only [go_sem, u5, u6, u14, u15, u16, u121, u122, u123, ds, w1]
                    refine ⟨_, ?_, j + 1, _, by rw [hsn]; exact hy4.sub (.upd_new h18), by omega, rfl, ?_, ?_, ?_, ?_, ?_, ?_, ?_, ?_⟩
                    · omega
                    all_goals simp -implicitDefEqProofs only [go_sem, u5, u6, u14, u15, u16, u121, u122, u123, w1]
theorem casesRoles_law (ev : Value) (hev : ev = .nilIface ∨ ∃ te pe, ev = .iface te pe) (x y : AV) (dx : Dat U 77 x) (dy : Dat U 77 y) : FnOK Tryz.prog 10 [x, y] (tabH [(3, pow10V), (2, [ev])]) fun r _ => r = .v (.bool true) := (casesRoles_ok x y dx dy _ (start_err hev)).mono fun _ _ h => h.1
end Go.Proofs.YtnhelgnmadbpgaaGreatDoor
