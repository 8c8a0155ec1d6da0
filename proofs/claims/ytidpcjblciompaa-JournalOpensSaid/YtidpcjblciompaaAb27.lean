/- A region that draws its order, its operations that change memory one at a time: one walk, in an order of ours, serves every order that the region may draw. -/
import Derived.Test.YtidpcjblciompaaAb14
set_option linter.unusedSimpArgs false
set_option linter.unusedVariables false
namespace Go.Ab
open Go

section
variable {P : Program} {U : TypeId → TI} {ops : Array Oper} {md : Region.Mode} {hm : Heap}

/-- May an operation change memory? -/
def effB : Op → Bool
  | .call c => match c.callee with
    | .value _ => true
    | .builtin .append => true
    | .builtin .copy => true
    | _ => false
  | .alloc _ => true
  | .box _ _ => true
  | .store _ _ _ => true
  | .makeSlice _ _ _ => true
  | _ => false

/-- A still operation leaves X, in whatever memory holds 'hm'. -/
def DPure (P : Program) (o : Oper) (F : EF) (hm : Heap) (X : AV) : Prop :=
  ∀ (c : Cx) (a : Act), Sub hm c.h → Good c → a.defers = [] → (∀ t ∈ opSlots o.op, ∀ x, F t = some x → Rep c x (a.tmps.getD t undef)) →
    ∃ u c', (execOp a.eval o).run P c.w = .ok (.value u) c'.w ∧ Good c' ∧ Ext c c' ∧ c'.h = c.h ∧ Rep c' X u
/-- Any operation, in a memory that holds h. -/
def EOK (P : Program) (o : Oper) (F : EF) (h : Heap) (Q : AV → Heap → Prop) : Prop :=
  ∀ (c : Cx) (a : Act), Sub h c.h → Good c → a.defers = [] → (∀ t ∈ opSlots o.op, ∀ x, F t = some x → Rep c x (a.tmps.getD t undef)) → Upon1 P c Q ((execOp a.eval o).run P c.w)

theorem env_restrict {c : Cx} {a : Act} {ρ : Env} {o : Oper} (hd : a.defers = []) (hr : ∀ t ∈ opSlots o.op, ∀ x, lk ρ t = some x → Rep c x (a.tmps.getD t undef)) : EnvSat c a.tmps.size (restrict ρ (opSlots o.op)) a :=
  ⟨rfl, hd, fun t x hx => by
    rw [lk_restrict] at hx
    split at hx
    · rename_i hc
      exact hr t (by rwa [List.contains_iff_mem] at hc) x hx
    · cases hx⟩
theorem ev_restrict (ρ : Env) (o : Oper) : ∀ x ∈ o.op.operands, ev (restrict ρ (opSlots o.op)) x = ev ρ x := fun x hx => ev_congr fun t ht => by
  subst ht
  rw [lk_restrict, if_pos]
  rw [List.contains_iff_mem]
  simp only [opSlots, List.mem_filterMap]
  exact ⟨.tmp t, by simpa using hx, rfl⟩

theorem pure_sound {ρ : Env} {o : Oper} {Q : AV → Prop} (hU : ∀ t, AgreeT P U t) (hp : pv U ρ hm o.op Q) : ∃ X, Q X ∧ DPure P o (lk ρ) hm X := by
  rw [← pv_congr (ev_restrict ρ o)] at hp
  obtain ⟨X, hQ, hX⟩ := pv_sound hU hp
  exact ⟨X, hQ, fun c a hs g hd hr => hX c a _ hs g (env_restrict hd hr)⟩

theorem vcOp_congrE {ρ ρ' : Env} {h : Heap} {o : Oper} {Q : AV → Heap → Prop} (hb : effB o.op = true) (he : ∀ x ∈ o.op.operands, ev ρ x = ev ρ' x) : vcOp P U ρ h o Q = vcOp P U ρ' h o Q := by
  obtain ⟨d, op, t, p, a, g⟩ := o
  simp only at hb he
  cases op with
  | alloc t => rfl
  | box t x => simp only [vcOp, withv, he x (by simp [Op.operands])]
  | store t a x => simp only [vcOp, withv, he a (by simp [Op.operands]), he x (by simp [Op.operands])]
  | makeSlice t l m => simp only [vcOp, withv, he l (by simp [Op.operands]), he m (by simp [Op.operands])]
  | call c =>
    obtain ⟨cal, args, ts⟩ := c
    have ha : ∀ x ∈ args.toList, ev ρ x = ev ρ' x := fun x hx => he x (by simp only [Op.operands, Call.operands, Array.mem_append]; exact .inr (by simpa using hx))
    cases cal with
    | value q =>
      simp only [vcOp, withv, withvs, he q (by simp [Op.operands, Call.operands]), evs_congr ha]
    | builtin b =>
      cases b with
      | append =>
        simp only [vcOp]
        split
        · rename_i x y ts' tx h1 h2
          simp only [withv, ha x (by rw [h1]; simp), ha y (by rw [h1]; simp)]
        · rfl
      | copy =>
        simp only [vcOp]
        split
        · rename_i x y ts' tx h1 h2
          simp only [withv, ha x (by rw [h1]; simp), ha y (by rw [h1]; simp)]
        · rfl
      | _ => simp [effB] at hb
    | _ => simp [effB] at hb
  | _ => simp [effB] at hb
/-- What an operation that may change memory comes to. -/
def vcE (P : Program) (U : TypeId → TI) (ρ : Env) (h : Heap) (o : Oper) (Q : AV → Heap → Prop) : Prop := vcOp P U ρ h o Q
theorem vcE_sound {ρ : Env} {h : Heap} {o : Oper} {Q : AV → Heap → Prop} (hU : ∀ t, AgreeT P U t) (hb : effB o.op = true) (hk : vcE P U ρ h o Q) : EOK P o (lk ρ) h Q := by
  intro c a hs g hd hr
  unfold vcE at hk
  rw [← vcOp_congrE hb (ev_restrict ρ o)] at hk
  exact vcOp_sound hU hk hs g (env_restrict hd hr)

def hStep (P : Program) (ops : Array Oper) (hm : Heap) (o : Oper) (K : EF → Heap → Prop) (F : EF) (h : Heap) : Prop :=
  (wantedF ops F o = some true ∧ (effB o.op = true ∧ (∃ Q : AV → Heap → Prop, EOK P o F h Q ∧ ∀ X h', Q X h' → Sub hm h' ∧ K (putF F o.dst X) h') ∨ effB o.op = false ∧ ∃ X, DPure P o F hm X ∧ K (putF F o.dst X) h)) ∨
  (wantedF ops F o = some false ∧ K (putF F o.dst (.v undef)) h)

def hOp (P : Program) (ops : Array Oper) (hm : Heap) (i : Nat) (K : EF → Heap → Prop) (F : EF) (h : Heap) : Prop :=
  match ops[i]? with
  | none => K F h
  | some o => hStep P ops hm o K F h

def hAny (P : Program) (md : Region.Mode) (ops : Array Oper) (hm : Heap) (Q : EF → Heap → Prop) : Nat → Array Bool → EF → Heap → Prop
  | 0, listed, F, h => Region.ready md ops listed = [] ∧ Q F h
  | fuel + 1, listed, F, h => (Region.ready md ops listed = [] → Q F h) ∧ ∀ i ∈ Region.ready md ops listed, hOp P ops hm i (hAny P md ops hm Q fuel (listed.setIfInBounds i true)) F h

theorem hStep_mono {o : Oper} {F : EF} {h : Heap} {K K' : EF → Heap → Prop} (hk : ∀ F h, K F h → K' F h) (hs : hStep P ops hm o K F h) : hStep P ops hm o K' F h := by
  rcases hs with ⟨h1, ⟨h2, Q, h3, h4⟩ | ⟨h2, X, h3, h4⟩⟩ | ⟨h1, h2⟩
  · exact .inl ⟨h1, .inl ⟨h2, Q, h3, fun X h' hq => ⟨(h4 X h' hq).1, hk _ _ (h4 X h' hq).2⟩⟩⟩
  · exact .inl ⟨h1, .inr ⟨h2, X, h3, hk _ _ h4⟩⟩
  · exact .inr ⟨h1, hk _ _ h2⟩
theorem hOp_mono {i : Nat} {F : EF} {h : Heap} {K K' : EF → Heap → Prop} (hk : ∀ F h, K F h → K' F h) (hs : hOp P ops hm i K F h) : hOp P ops hm i K' F h := by
  unfold hOp at *
  split
  · rename_i ho; simp only [ho] at hs; exact hk _ _ hs
  · rename_i o ho; simp only [ho] at hs; exact hStep_mono hk hs

/-- In a frame the still operation 'o' leaves X. -/
def YP (P : Program) (ops : Array Oper) (hm : Heap) (o : Oper) (X : AV) (F : EF) : Prop :=
  (wantedF ops F o = some true ∧ effB o.op = false ∧ DPure P o F hm X) ∨ (wantedF ops F o = some false ∧ X = .v undef)

theorem hStep_of_YP {o : Oper} {X : AV} {F : EF} {h : Heap} {K : EF → Heap → Prop} (hy : YP P ops hm o X F) (hk : K (putF F o.dst X) h) : hStep P ops hm o K F h := by
  rcases hy with ⟨h1, h2, h3⟩ | ⟨h1, rfl⟩
  · exact .inl ⟨h1, .inr ⟨h2, X, h3, hk⟩⟩
  · exact .inr ⟨h1, hk⟩
theorem YP_of_hStep {o : Oper} {F : EF} {h : Heap} {K : EF → Heap → Prop} (he : effB o.op = false) (hs : hStep P ops hm o K F h) : ∃ X, YP P ops hm o X F ∧ K (putF F o.dst X) h := by
  rcases hs with ⟨h1, ⟨h2, _⟩ | ⟨h2, X, h3, h4⟩⟩ | ⟨h1, h2⟩
  · rw [he] at h2; cases h2
  · exact ⟨X, .inl ⟨h1, h2, h3⟩, h4⟩
  · exact ⟨_, .inr ⟨h1, rfl⟩, h2⟩

theorem DPure_congr {o : Oper} {F F' : EF} {X : AV} (hf : ∀ t ∈ opSlots o.op, F t = F' t) (hd : DPure P o F hm X) : DPure P o F' hm X :=
  fun c a hs g hdf hr => hd c a hs g hdf fun t ht x hx => hr t ht x (by rw [← hf t ht]; exact hx)
theorem EOK_congr {o : Oper} {F F' : EF} {h : Heap} {Q : AV → Heap → Prop} (hf : ∀ t ∈ opSlots o.op, F t = F' t) (hd : EOK P o F h Q) : EOK P o F' h Q :=
  fun c a hs g hdf hr => hd c a hs g hdf fun t ht x hx => hr t ht x (by rw [← hf t ht]; exact hx)
theorem YP_congr {o : Oper} {F F' : EF} {X : AV} (hf : ∀ t ∈ o.looksAt ops, F t = F' t) (hy : YP P ops hm o X F) : YP P ops hm o X F' := by
  rcases hy with ⟨h1, h0, h2⟩ | ⟨h1, h2⟩
  · exact .inl ⟨by rw [← wantedF_congr hf]; exact h1, h0, DPure_congr (fun t ht => hf t (slots_looks ht)) h2⟩
  · exact .inr ⟨by rw [← wantedF_congr hf]; exact h1, h2⟩

theorem hOp_put {j : Nat} {oi oj : Oper} {X : AV} (hj : ops[j]? = some oj) (hap : oi.apart ops oj = true) {K : EF → Heap → Prop} {F : EF} {h : Heap}
    (hy : YP P ops hm oi X F) (hs : hOp P ops hm j K (putF F oi.dst X) h) : hOp P ops hm j (fun F' h' => YP P ops hm oi X F' ∧ K (putF F' oi.dst X) h') F h := by
  obtain ⟨h1, h2, h3⟩ := Oper.apart_spec hap
  unfold hOp at *
  simp only [hj] at *
  have hlook : ∀ t ∈ oj.looksAt ops, putF F oi.dst X t = F t := fun t ht => putF_other fun e he hte => h1 e he (hte ▸ ht)
  have hlook2 : ∀ u, ∀ t ∈ oi.looksAt ops, F t = putF F oj.dst u t := fun u t ht => (putF_other fun e he hte => h3 e he (hte ▸ ht)).symm
  rcases hs with ⟨w1, ⟨w0, Q, w2, w3⟩ | ⟨w0, Y, w2, w3⟩⟩ | ⟨w1, w2⟩
  · refine .inl ⟨by rw [← wantedF_congr hlook]; exact w1, .inl ⟨w0, Q, EOK_congr (fun t ht => hlook t (slots_looks ht)) w2, fun Y h' hq => ⟨(w3 Y h' hq).1, YP_congr (hlook2 Y) hy, ?_⟩⟩⟩
    rw [← putF_comm F X Y h2]; exact (w3 Y h' hq).2
  · refine .inl ⟨by rw [← wantedF_congr hlook]; exact w1, .inr ⟨w0, Y, DPure_congr (fun t ht => hlook t (slots_looks ht)) w2, YP_congr (hlook2 Y) hy, ?_⟩⟩
    rw [← putF_comm F X Y h2]; exact w3
  · refine .inr ⟨by rw [← wantedF_congr hlook]; exact w1, YP_congr (hlook2 _) hy, ?_⟩
    rw [← putF_comm F X _ h2]; exact w2

theorem hOp_of_YP {i : Nat} {oi : Oper} {X : AV} {F : EF} {h : Heap} {K : EF → Heap → Prop} (hi : ops[i]? = some oi) (hy : YP P ops hm oi X F) (hk : K (putF F oi.dst X) h) : hOp P ops hm i K F h := by
  unfold hOp
  simp only [hi]
  exact hStep_of_YP hy hk

/-- A still operation that may come up now may be taken first. -/
theorem hAny_first {Q : EF → Heap → Prop} {i : Nat} {oi : Oper} {X : AV} (hi : ops[i]? = some oi) :
    ∀ (fuel : Nat) (listed : Array Bool) (F : EF) (h : Heap),
      (∀ j oj, ops[j]? = some oj → j ≠ i → listed.getD j true = false → (∀ e ∈ oj.after, Region.binds md e = true → e.on ≠ i) → oi.apart ops oj = true) →
      i ∈ Region.ready md ops listed → YP P ops hm oi X F →
      hAny P md ops hm Q fuel (listed.setIfInBounds i true) (putF F oi.dst X) h → hAny P md ops hm Q (fuel + 1) listed F h := by
  intro fuel
  induction fuel with
  | zero =>
    intro listed F h _ hr hy H
    refine ⟨fun e => (by rw [e] at hr; cases hr), fun j hj => ?_⟩
    by_cases hji : j = i
    · subst hji; exact hOp_of_YP hi hy H
    · have := ready_mono hj hji
      rw [H.1] at this
      cases this
  | succ fuel ih =>
    intro listed F h hfree hr hy H
    refine ⟨fun e => (by rw [e] at hr; cases hr), fun j hj => ?_⟩
    by_cases hji : j = i
    · subst hji; exact hOp_of_YP hi hy H
    · have h1 := H.2 j (ready_mono hj hji)
      obtain ⟨hjun, oj, hoj, hall⟩ := mem_ready.1 hj
      have hnot : ∀ e ∈ oj.after, Region.binds md e = true → e.on ≠ i := fun e he hb heq => by
        have h1 := hall e he hb
        have h0 := (mem_ready.1 hr).1
        rw [heq] at h1
        rcases Nat.lt_or_ge i listed.size with h' | h'
        · simp [h'] at h0 h1; rw [h0] at h1; cases h1
        · simp [Array.getElem?_eq_none h'] at h1
      have h2 := hOp_put hoj (hfree j oj hoj hji hjun hnot) hy h1
      have hfree' : ∀ k ok, ops[k]? = some ok → k ≠ i → (listed.setIfInBounds j true).getD k true = false →
          (∀ e ∈ ok.after, Region.binds md e = true → e.on ≠ i) → oi.apart ops ok = true := fun k ok hk hki hun hno => by
        refine hfree k ok hk hki ?_ hno
        by_cases hjk : j = k
        · subst hjk; exact hjun
        · rw [getD_set_ne true hjk] at hun; exact hun
      refine hOp_mono (fun F' h' h3 => ih (listed.setIfInBounds j true) F' h' hfree' (ready_mono hr (Ne.symm hji)) h3.1 ?_) h2
      rw [Array.setIfInBounds_comm _ _ hji]
      exact h3.2

/-- An order of ours: still operations as soon as they may come; another when it alone may. -/
def orderOK (md : Region.Mode) (ops : Array Oper) : List Nat → Array Bool → Bool
  | [], listed => (Region.ready md ops listed).isEmpty
  | k :: ks, listed => (match ops[k]? with
    | some o => if effB o.op then Region.ready md ops listed == [k] else (Region.ready md ops listed).contains k && Region.free md ops listed k
    | none => false) && orderOK md ops ks (listed.setIfInBounds k true)

def hList (P : Program) (ops : Array Oper) (hm : Heap) (Q : EF → Heap → Prop) : List Nat → EF → Heap → Prop
  | [], F, h => Q F h
  | i :: r, F, h => hOp P ops hm i (hList P ops hm Q r) F h

theorem hAny_order {Q : EF → Heap → Prop} : ∀ (l : List Nat) (listed : Array Bool) (F : EF) (h : Heap),
    orderOK md ops l listed = true → hList P ops hm Q l F h → hAny P md ops hm Q l.length listed F h
  | [], _, _, _, hB, hd => ⟨by simpa [orderOK] using hB, hd⟩
  | k :: l, listed, F, h, hB, hd => by
    simp only [orderOK, Bool.and_eq_true] at hB
    obtain ⟨hB, hB'⟩ := hB
    cases h0 : ops[k]? with
    | none => rw [h0] at hB; cases hB
    | some o =>
      rw [h0] at hB
      simp only at hB
      cases he : effB o.op with
      | true =>
        rw [he, if_pos rfl] at hB
        have hB := beq_iff_eq.1 hB
        refine ⟨fun e => (by rw [hB] at e; cases e), fun j hj => ?_⟩
        rw [hB] at hj
        obtain rfl : j = k := by simpa using hj
        exact hOp_mono (fun F' h' hh => hAny_order l _ F' h' hB' hh) hd
      | false =>
        rw [he, if_neg (by simp), Bool.and_eq_true] at hB
        have hd : hStep P ops hm o (hList P ops hm Q l) F h := by
          have : hOp P ops hm k (hList P ops hm Q l) F h := hd
          unfold hOp at this
          simpa only [h0] using this
        obtain ⟨X, hy, hK⟩ := YP_of_hStep he hd
        exact hAny_first h0 l.length listed F h (Region.free_spec h0 hB.2) (by simpa using hB.1) hy (hAny_order l _ _ _ hB' hK)

/-! ### .. and whose last operation waits for all the others -/
def hAnyE (P : Program) (md : Region.Mode) (ops : Array Oper) (hm : Heap) (z : Nat) (Q : EF → Heap → Prop) : Nat → Array Bool → EF → Heap → Prop
  | 0, listed, F, h => (Region.ready md ops listed = [z] ∧ Region.ready md ops (listed.setIfInBounds z true) = []) ∧ Q F h
  | fuel + 1, listed, F, h => Region.ready md ops listed ≠ [] ∧ ∀ i ∈ Region.ready md ops listed, hOp P ops hm i (hAnyE P md ops hm z Q fuel (listed.setIfInBounds i true)) F h

/-- What is listed is so with all that it waits for. -/
def Closed (md : Region.Mode) (ops : Array Oper) (listed : Array Bool) : Prop := ∀ j oj, ops[j]? = some oj → listed.getD j false = true → ∀ e ∈ oj.after, Region.binds md e = true → listed.getD e.on false = true
def predsOf (md : Region.Mode) (ops : Array Oper) (k : Nat) : List Nat := match ops[k]? with
  | some o => (o.after.toList.filter (Region.binds md)).map (·.on)
  | none => []
def ancStep (md : Region.Mode) (ops : Array Oper) (s : List Nat) : List Nat := (List.range ops.size).filter fun k => s.contains k || s.any fun j => (predsOf md ops j).contains k
/-- Does this operation wait for all the others, be it through others? -/
def zOKt (md : Region.Mode) (ops : Array Oper) (z : Nat) : Bool := (List.range ops.size).all fun k => (ancStep md ops (ancStep md ops (ancStep md ops [z]))).contains k

theorem ancStep_spec {z : Nat} {listed : Array Bool} (hc : Closed md ops listed) (hz : z ∈ Region.ready md ops listed) {s : List Nat} (hs : ∀ k ∈ s, k ≠ z → listed.getD k false = true) : ∀ k ∈ ancStep md ops s, k ≠ z → listed.getD k false = true := by
  intro k hk hkz
  simp only [ancStep, List.mem_filter, Bool.or_eq_true, List.contains_iff_mem, List.any_eq_true] at hk
  obtain ⟨_, h1 | ⟨j, hj, hp⟩⟩ := hk
  · exact hs k h1 hkz
  · unfold predsOf at hp
    cases ho : ops[j]? with
    | none => rw [ho] at hp; cases hp
    | some o =>
      rw [ho] at hp
      simp only [List.mem_map, List.mem_filter] at hp
      obtain ⟨e, ⟨he, hb⟩, rfl⟩ := hp
      by_cases hjz : j = z
      · subst hjz
        obtain ⟨_, oz, hoz, hall⟩ := mem_ready.1 hz
        rw [ho] at hoz
        cases hoz
        have := hall e (by simpa using he) hb
        simpa using this
      · exact hc j o ho (hs j hj hjz) e (by simpa using he) hb
theorem zOKt_spec {z : Nat} (hz : zOKt md ops z = true) {listed : Array Bool} (hc : Closed md ops listed) {i : Nat} (h1 : z ∈ Region.ready md ops listed) (h2 : i ∈ Region.ready md ops listed) : i = z := by
  obtain ⟨hun, oi, hoi, _⟩ := mem_ready.1 h2
  have hlt : i < ops.size := (Array.getElem?_eq_some_iff.1 hoi).1
  unfold zOKt at hz
  rw [List.all_eq_true] at hz
  have hm := hz i (List.mem_range.2 hlt)
  rw [List.contains_iff_mem] at hm
  have s0 : ∀ k ∈ [z], k ≠ z → listed.getD k false = true := fun k hk hn => absurd (by simpa using hk) hn
  have s3 := ancStep_spec hc h1 (ancStep_spec hc h1 (ancStep_spec hc h1 s0))
  by_cases e : i = z
  · exact e
  · have := s3 i hm e
    exfalso
    rcases Nat.lt_or_ge i listed.size with h' | h'
    · simp [h'] at hun this; rw [hun] at this; cases this
    · simp [Array.getElem?_eq_none h'] at this
theorem Closed.set {listed : Array Bool} (hc : Closed md ops listed) {j : Nat} (hj : j ∈ Region.ready md ops listed) : Closed md ops (listed.setIfInBounds j true) := by
  have up : ∀ k, listed.getD k false = true → (listed.setIfInBounds j true).getD k false = true := fun k hk => by
    by_cases e : j = k
    · subst e
      rcases Nat.lt_or_ge j listed.size with h' | h'
      · simp [h']
      · simp [Array.getElem?_eq_none h'] at hk
    · rw [getD_set_ne false e]; exact hk
  intro k ok hk hl e he hb
  by_cases hkj : j = k
  · subst hkj
    obtain ⟨_, oj, hoj, hall⟩ := mem_ready.1 hj
    rw [hk] at hoj
    cases hoj
    refine up _ ?_
    have := hall e he hb
    simpa using this
  · rw [getD_set_ne false hkj] at hl
    exact up _ (hc k ok hk hl e he hb)
theorem Closed.none (md : Region.Mode) (ops : Array Oper) (m : Nat) : Closed md ops (Array.replicate m false) := fun j oj _ hl => by
  rcases Nat.lt_or_ge j m with h' | h'
  · simp [h'] at hl
  · simp [Array.getElem?_eq_none, h'] at hl

theorem hAnyE_first {Q : EF → Heap → Prop} {z i : Nat} {oi : Oper} {X : AV} (hz : zOKt md ops z = true) (hi : ops[i]? = some oi) :
    ∀ (fuel : Nat) (listed : Array Bool) (F : EF) (h : Heap), Closed md ops listed →
      (∀ j oj, ops[j]? = some oj → j ≠ i → listed.getD j true = false → (∀ e ∈ oj.after, Region.binds md e = true → e.on ≠ i) → oi.apart ops oj = true) →
      i ∈ Region.ready md ops listed → YP P ops hm oi X F →
      hAnyE P md ops hm z Q fuel (listed.setIfInBounds i true) (putF F oi.dst X) h → hAnyE P md ops hm z Q (fuel + 1) listed F h := by
  intro fuel
  induction fuel with
  | zero =>
    intro listed F h hcl _ hr hy H
    refine ⟨fun e => (by rw [e] at hr; cases hr), fun j hj => ?_⟩
    by_cases hji : j = i
    · subst hji; exact hOp_of_YP hi hy H
    · have := ready_mono hj hji
      rw [H.1.1] at this
      obtain rfl : j = z := by simpa using this
      exact (hji (zOKt_spec hz hcl hj hr).symm).elim
  | succ fuel ih =>
    intro listed F h hcl hfree hr hy H
    refine ⟨fun e => (by rw [e] at hr; cases hr), fun j hj => ?_⟩
    by_cases hji : j = i
    · subst hji; exact hOp_of_YP hi hy H
    · have h1 := H.2 j (ready_mono hj hji)
      obtain ⟨hjun, oj, hoj, hall⟩ := mem_ready.1 hj
      have hnot : ∀ e ∈ oj.after, Region.binds md e = true → e.on ≠ i := fun e he hb heq => by
        have h1 := hall e he hb
        have h0 := (mem_ready.1 hr).1
        rw [heq] at h1
        rcases Nat.lt_or_ge i listed.size with h' | h'
        · simp [h'] at h0 h1; rw [h0] at h1; cases h1
        · simp [Array.getElem?_eq_none h'] at h1
      have h2 := hOp_put hoj (hfree j oj hoj hji hjun hnot) hy h1
      have hfree' : ∀ k ok, ops[k]? = some ok → k ≠ i → (listed.setIfInBounds j true).getD k true = false →
          (∀ e ∈ ok.after, Region.binds md e = true → e.on ≠ i) → oi.apart ops ok = true := fun k ok hk hki hun hno => by
        refine hfree k ok hk hki ?_ hno
        by_cases hjk : j = k
        · subst hjk; exact hjun
        · rw [getD_set_ne true hjk] at hun; exact hun
      refine hOp_mono (fun F' h' h3 => ih (listed.setIfInBounds j true) F' h' (hcl.set hj) hfree' (ready_mono hr (Ne.symm hji)) h3.1 ?_) h2
      rw [Array.setIfInBounds_comm _ _ hji]
      exact h3.2

def orderE (md : Region.Mode) (ops : Array Oper) (z : Nat) : List Nat → Array Bool → Bool
  | [], listed => Region.ready md ops listed == [z] && (Region.ready md ops (listed.setIfInBounds z true)).isEmpty
  | k :: ks, listed => (match ops[k]? with
    | some o => if effB o.op then Region.ready md ops listed == [k] else (Region.ready md ops listed).contains k && Region.free md ops listed k
    | none => false) && orderE md ops z ks (listed.setIfInBounds k true)

theorem hAnyE_order {Q : EF → Heap → Prop} {z : Nat} (hz : zOKt md ops z = true) : ∀ (l : List Nat) (listed : Array Bool) (F : EF) (h : Heap), Closed md ops listed →
    orderE md ops z l listed = true → hList P ops hm Q l F h → hAnyE P md ops hm z Q l.length listed F h
  | [], _, _, _, _, hB, hd => ⟨by simpa [orderE] using hB, hd⟩
  | k :: l, listed, F, h, hcl, hB, hd => by
    simp only [orderE, Bool.and_eq_true] at hB
    obtain ⟨hB, hB'⟩ := hB
    cases h0 : ops[k]? with
    | none => rw [h0] at hB; cases hB
    | some o =>
      rw [h0] at hB
      simp only at hB
      cases he : effB o.op with
      | true =>
        rw [he, if_pos rfl] at hB
        have hB := beq_iff_eq.1 hB
        refine ⟨fun e => (by rw [hB] at e; cases e), fun j hj => ?_⟩
        rw [hB] at hj
        obtain rfl : j = k := by simpa using hj
        exact hOp_mono (fun F' h' hh => hAnyE_order hz l _ F' h' (hcl.set (by rw [hB]; simp)) hB' hh) hd
      | false =>
        rw [he, if_neg (by simp), Bool.and_eq_true] at hB
        have hd : hStep P ops hm o (hList P ops hm Q l) F h := by
          have : hOp P ops hm k (hList P ops hm Q l) F h := hd
          unfold hOp at this
          simpa only [h0] using this
        obtain ⟨X, hy, hK⟩ := YP_of_hStep he hd
        have hin : k ∈ Region.ready md ops listed := by simpa using hB.1
        exact hAnyE_first hz h0 l.length listed F h hcl (Region.free_spec h0 hB.2) hin hy (hAnyE_order hz l _ _ _ (hcl.set hin) hB' hK)

theorem hOp_sound {n : Nat} {i : Nat} {K : EF → Heap → Prop} {K' : Act → World → Prop} {Q : Exit → Act → World → Prop} {c0 : Cx} (hdst : ∀ o ∈ ops.toList, dstOK n o.dst = true)
    (hk : ∀ c F h a, Ext c0 c → Sub h c.h → Sub hm c.h → Good c → EnvF c n F a → K F h → K' a c.w) {c : Cx} {F : EF} {h : Heap} {a : Act} (hE : Ext c0 c) (hs : Sub h c.h) (hs' : Sub hm c.h) (g : Good c) (he : EnvF c n F a) (hd : hOp P ops hm i K F h) : wpOp P ops Q i K' a c.w := by
  unfold hOp at hd
  unfold wpOp
  split
  · rename_i ho; simp only [ho] at hd; exact hk c F h a hE hs hs' g he hd
  · rename_i o ho
    simp only [ho] at hd
    have hdo : dstOK n o.dst = true := hdst o (by simpa using Array.mem_of_getElem? ho)
    rcases hd with ⟨h1, ⟨h0, R, h2, h3⟩ | ⟨h0, X, h2, h3⟩⟩ | ⟨h1, h2⟩
    · rw [if_pos (wantedF_spec he h1)]
      left
      have hu := h2 c a hs g he.2.1 (fun t _ x hx => he.2.2 t x hx)
      have next : ∀ u w', Comes1 c R u w' → K' (a.put o.dst u) w' := by
        rintro u w' ⟨c', x, h', rfl, g', hE', hr, hs2, hR⟩
        obtain ⟨k1, k2⟩ := h3 x h' hR
        exact hk c' _ h' _ (hE.trans hE') hs2 (fun j b hj => hs2 _ _ (k1 _ _ hj)) g' ((he.mono hE').put hdo hr) k2
      unfold Oper.wp
      generalize (execOp a.eval o).run P c.w = r at hu
      cases r with
      | ok nx w' =>
        cases nx <;> simp only [Upon1] at hu <;> simp only [Oper.upon]
        case value u => exact next u w' hu
        case skip => exact next undef w' hu
        case enter f args =>
          obtain ⟨rfl, hc⟩ := hu
          exact hc.mono fun e w'' ⟨u, he, hcm⟩ => by subst he; exact next u w'' hcm
      | halt x w' => exact hu.elim
    · rw [if_pos (wantedF_spec he h1)]
      left
      obtain ⟨u, c', e1, g', hE', e2, hr⟩ := h2 c a hs' g he.2.1 (fun t _ x hx => he.2.2 t x hx)
      unfold Oper.wp
      rw [e1]
      simp only [Oper.upon]
      exact hk c' _ h _ (hE.trans hE') (by rw [e2]; exact hs) (by rw [e2]; exact hs') g' ((he.mono hE').put hdo hr) h3
    · rw [if_neg (by rw [wantedF_spec he h1]; simp)]
      exact hk c _ h _ hE hs hs' g (he.put hdo (.v _)) h2

theorem hAny_sound {n : Nat} {Q : EF → Heap → Prop} {Q' : Exit → Act → World → Prop} {c0 : Cx} (hdst : ∀ o ∈ ops.toList, dstOK n o.dst = true)
    (hQ : ∀ c F h a, Ext c0 c → Sub h c.h → Good c → EnvF c n F a → Q F h → Q' .normal a c.w) : ∀ (fuel : Nat) (listed : Array Bool) (c : Cx) (F : EF) (h : Heap) (a : Act), Ext c0 c → Sub h c.h → Sub hm c.h → Good c → EnvF c n F a →
      hAny P md ops hm Q fuel listed F h → wpAny P md ops Q' fuel listed a c.w
  | 0, _, c, F, h, a, h1, h2, _, h3, h4, hd => ⟨hd.1, hQ c F h a h1 h2 h3 h4 hd.2⟩
  | fuel + 1, listed, c, F, h, a, h1, h2, h2', h3, h4, hd =>
    ⟨fun e => hQ c F h a h1 h2 h3 h4 (hd.1 e), fun i hi => hOp_sound hdst (fun c F h a k1 k2 k2' k3 k4 hk => hAny_sound hdst hQ fuel _ c F h a k1 k2 k2' k3 k4 hk) h1 h2 h2' h3 h4 (hd.2 i hi)⟩

theorem hAnyE_sound {n z : Nat} {Q : EF → Heap → Prop} {Q' : Exit → Act → World → Prop} {c0 : Cx} (hdst : ∀ o ∈ ops.toList, dstOK n o.dst = true)
    (hQ : ∀ c F h a, Ext c0 c → Sub h c.h → Good c → EnvF c n F a → Q F h → wpOp P ops Q' z (fun a' w' => Q' .normal a' w') a c.w) : ∀ (fuel : Nat) (listed : Array Bool) (c : Cx) (F : EF) (h : Heap) (a : Act), Ext c0 c → Sub h c.h → Sub hm c.h → Good c → EnvF c n F a →
      hAnyE P md ops hm z Q fuel listed F h → wpAny P md ops Q' (fuel + 1) listed a c.w
  | 0, listed, c, F, h, a, h1, h2, _, h3, h4, hd => ⟨fun e => (by rw [hd.1.1] at e; cases e), fun i hi => by
      rw [hd.1.1] at hi
      obtain rfl : i = z := by simpa using hi
      exact wpOp_mono (fun a w hh => ⟨hd.1.2, hh⟩) (hQ c F h a h1 h2 h3 h4 hd.2)⟩
  | fuel + 1, listed, c, F, h, a, h1, h2, h2', h3, h4, hd =>
    ⟨fun e => absurd e hd.1, fun i hi => hOp_sound hdst (fun c F h a k1 k2 k2' k3 k4 hk => hAnyE_sound hdst hQ fuel _ c F h a k1 k2 k2' k3 k4 hk) h1 h2 h2' h3 h4 (hd.2 i hi)⟩

/-- The walk: in an order of ours. -/
def vcOne (P : Program) (U : TypeId → TI) (hm : Heap) (o : Oper) (ρ : Env) (h : Heap) (K : AV → Heap → Prop) : Prop :=
  if effB o.op then vcE P U ρ h o (fun X h' => Sub hm h' ∧ K X h') else pv U ρ hm o.op (fun X => K X h)
def vcDrH (P : Program) (U : TypeId → TI) (n : Nat) (all : List Oper) (hm : Heap) : List Nat → Env → Heap → (Env → Heap → Prop) → Prop
  | [], ρ, h, K => K ρ h
  | i :: is, ρ, h, K => match all[i]? with
    | none => False
    | some o => guardA all ρ o.guard (fun ρ => vcOne P U hm o ρ h fun X h' => vcDrH P U n all hm is (put ρ o.dst X) h' K) (fun ρ => vcDrH P U n all hm is (put ρ o.dst (.v undef)) h K)

theorem lk_learn' {ρ : Env} {d : Nat} {x : AV} (hd : lk ρ d = some x) : lk ((d, x) :: ρ) = lk ρ := by
  funext t
  simp only [lk]
  split
  · rename_i e; subst e; exact hd.symm
  · rfl

theorem vcDrH_hList {n : Nat} (hU : ∀ t, AgreeT P U t) {all : List Oper} {K : Env → Heap → Prop} : ∀ (l : List Nat) (ρ : Env) (h : Heap), vcDrH P U n all hm l ρ h K → hList P all.toArray hm (fun F h => ∃ ρ, lk ρ = F ∧ K ρ h) l (lk ρ) h
  | [], ρ, h, hk => ⟨ρ, rfl, hk⟩
  | i :: is, ρ, h, hk => by
    simp only [vcDrH] at hk
    show hOp _ _ _ _ _ _ _
    unfold hOp
    have e0 : (all.toArray)[i]? = all[i]? := by simp
    rw [e0]
    cases hi : all[i]? with
    | none => rw [hi] at hk; exact hk.elim
    | some o =>
      rw [hi] at hk
      simp only at hk ⊢
      have yes : ∀ ρ', wantedF all.toArray (lk ρ) o = some true → lk ρ' = lk ρ → vcOne P U hm o ρ' h (fun X h' => vcDrH P U n all hm is (put ρ' o.dst X) h' K) → hStep P all.toArray hm o (hList P all.toArray hm (fun F h => ∃ ρ, lk ρ = F ∧ K ρ h) is) (lk ρ) h := by
        intro ρ' hw hl hv
        unfold vcOne at hv
        cases he : effB o.op with
        | true =>
          rw [he, if_pos rfl] at hv
          have := vcE_sound hU he hv
          rw [hl] at this
          refine .inl ⟨hw, .inl ⟨he, _, this, fun X h' hq => ⟨hq.1, ?_⟩⟩⟩
          have := vcDrH_hList hU is _ _ hq.2
          rw [lk_put, hl] at this
          exact this
        | false =>
          rw [he, if_neg (by simp)] at hv
          obtain ⟨X, hQ, hX⟩ := pure_sound hU hv
          rw [hl] at hX
          refine .inl ⟨hw, .inr ⟨he, X, hX, ?_⟩⟩
          have := vcDrH_hList hU is _ _ hQ
          rw [lk_put, hl] at this
          exact this
      have no : ∀ ρ', wantedF all.toArray (lk ρ) o = some false → lk ρ' = lk ρ → vcDrH P U n all hm is (put ρ' o.dst (.v undef)) h K → hStep P all.toArray hm o (hList P all.toArray hm (fun F h => ∃ ρ, lk ρ = F ∧ K ρ h) is) (lk ρ) h := by
        intro ρ' hw hl hv
        have := vcDrH_hList hU is _ _ hv
        rw [lk_put, hl] at this
        exact .inr ⟨hw, this⟩
      unfold guardA at hk
      split at hk
      · rename_i hg
        exact yes ρ (by simp [wantedF, hg]) rfl hk
      · rename_i g want hg
        split at hk
        · rename_i d hd'
          have hd2 : ((all.toArray)[g]?).bind (·.dst) = some d := by simpa [dstAt] using hd'
          split at hk
          · rename_i t ht
            have hw : wantedF all.toArray (lk ρ) o = some (t == want) := by
              unfold wantedF
              simp only [hg]
              rw [hd2]
              simp only [ht]
            by_cases e : t = want
            · exact yes _ (by rw [hw, e]; simp) (lk_learn' (by rw [ht, e])) (hk.1 e)
            · have e' : t = !want := by cases t <;> cases want <;> simp_all
              exact no _ (by rw [hw]; simp [e]) (lk_learn' (by rw [ht, e'])) (hk.2 e')
          · rename_i vs ht
            refine no ρ ?_ rfl hk
            unfold wantedF
            simp only [hg]
            rw [hd2]
            simp only [ht]
          · exact hk.elim
        · exact hk.elim

end
end Go.Ab
