/- The law JournalPlays: pack 2 of its texts. -/
import Derived.Below
import Derived.OpenShut
import Derived.Test.YtidpcjblciompaaProg
import Derived.KernelRfl
import Derived.Test.YtidpcjblciompaaQ1
/- A region that draws its order, its operations that change memory one at a time: one walk, in an order of ours, serves every order that the region may draw. -/
set_option linter.unusedSimpArgs false
set_option linter.unusedVariables false
namespace Go.Ab
open Go

section
variable {P : Program} {U : TypeId → TI} {ops : Array Oper} {md : Region.Mode} {hm : Heap}

/-- May an operation change memory? -/
def effB : Op → Bool
  | .call c => match c.callee with
    | .value _ => true
    | .builtin .append => true
    | .builtin .copy => true
    | _ => false
  | .alloc _ => true
  | .box _ _ => true
  | .store _ _ _ => true
  | .makeSlice _ _ _ => true
  | _ => false

/-- A still operation leaves X, in whatever memory holds 'hm'. -/
def DPure (P : Program) (o : Oper) (F : EF) (hm : Heap) (X : AV) : Prop :=
  ∀ (c : Cx) (a : Act), Sub hm c.h → Good c → a.defers = [] → (∀ t ∈ opSlots o.op, ∀ x, F t = some x → Rep c x (a.tmps.getD t undef)) →
    ∃ u c', (execOp a.eval o).run P c.w = .ok (.value u) c'.w ∧ Good c' ∧ Ext c c' ∧ c'.h = c.h ∧ Rep c' X u
/-- Any operation, in a memory that holds h. -/
def EOK (P : Program) (o : Oper) (F : EF) (h : Heap) (Q : AV → Heap → Prop) : Prop :=
  ∀ (c : Cx) (a : Act), Sub h c.h → Good c → a.defers = [] → (∀ t ∈ opSlots o.op, ∀ x, F t = some x → Rep c x (a.tmps.getD t undef)) → Upon1 P c Q ((execOp a.eval o).run P c.w)

theorem env_restrict {c : Cx} {a : Act} {ρ : Env} {o : Oper} (hd : a.defers = []) (hr : ∀ t ∈ opSlots o.op, ∀ x, lk ρ t = some x → Rep c x (a.tmps.getD t undef)) : EnvSat c a.tmps.size (restrict ρ (opSlots o.op)) a :=
  ⟨rfl, hd, fun t x hx => by
    rw [lk_restrict] at hx
    split at hx
    · rename_i hc
      exact hr t (by rwa [List.contains_iff_mem] at hc) x hx
    · cases hx⟩
theorem ev_restrict (ρ : Env) (o : Oper) : ∀ x ∈ o.op.operands, ev (restrict ρ (opSlots o.op)) x = ev ρ x := fun x hx => ev_congr fun t ht => by
  subst ht
  rw [lk_restrict, if_pos]
  rw [List.contains_iff_mem]
  simp only [opSlots, List.mem_filterMap]
  exact ⟨.tmp t, by simpa using hx, rfl⟩

theorem pure_sound {ρ : Env} {o : Oper} {Q : AV → Prop} (hU : ∀ t, AgreeT P U t) (hp : pv U ρ hm o.op Q) : ∃ X, Q X ∧ DPure P o (lk ρ) hm X := by
  rw [← pv_congr (ev_restrict ρ o)] at hp
  obtain ⟨X, hQ, hX⟩ := pv_sound hU hp
  exact ⟨X, hQ, fun c a hs g hd hr => hX c a _ hs g (env_restrict hd hr)⟩

theorem vcOp_congrE {ρ ρ' : Env} {h : Heap} {o : Oper} {Q : AV → Heap → Prop} (hb : effB o.op = true) (he : ∀ x ∈ o.op.operands, ev ρ x = ev ρ' x) : vcOp P U ρ h o Q = vcOp P U ρ' h o Q := by
  obtain ⟨d, op, t, p, a, g⟩ := o
  simp only at hb he
  cases op with
  | alloc t => rfl
  | box t x => simp only [vcOp, withv, he x (by simp [Op.operands])]
  | store t a x => simp only [vcOp, withv, he a (by simp [Op.operands]), he x (by simp [Op.operands])]
  | makeSlice t l m => simp only [vcOp, withv, he l (by simp [Op.operands]), he m (by simp [Op.operands])]
  | call c =>
    obtain ⟨cal, args, ts⟩ := c
    have ha : ∀ x ∈ args.toList, ev ρ x = ev ρ' x := fun x hx => he x (by simp only [Op.operands, Call.operands, Array.mem_append]; exact .inr (by simpa using hx))
    cases cal with
    | value q =>
      simp only [vcOp, withv, withvs, he q (by simp [Op.operands, Call.operands]), evs_congr ha]
    | builtin b =>
      cases b with
      | append =>
        simp only [vcOp]
        split
        · rename_i x y ts' tx h1 h2
          simp only [withv, ha x (by rw [h1]; simp), ha y (by rw [h1]; simp)]
        · rfl
      | copy =>
        simp only [vcOp]
        split
        · rename_i x y ts' tx h1 h2
          simp only [withv, ha x (by rw [h1]; simp), ha y (by rw [h1]; simp)]
        · rfl
      | _ => simp [effB] at hb
    | _ => simp [effB] at hb
  | _ => simp [effB] at hb
/-- What an operation that may change memory comes to. -/
def vcE (P : Program) (U : TypeId → TI) (ρ : Env) (h : Heap) (o : Oper) (Q : AV → Heap → Prop) : Prop := vcOp P U ρ h o Q
theorem vcE_sound {ρ : Env} {h : Heap} {o : Oper} {Q : AV → Heap → Prop} (hU : ∀ t, AgreeT P U t) (hb : effB o.op = true) (hk : vcE P U ρ h o Q) : EOK P o (lk ρ) h Q := by
  intro c a hs g hd hr
  unfold vcE at hk
  rw [← vcOp_congrE hb (ev_restrict ρ o)] at hk
  exact vcOp_sound hU hk hs g (env_restrict hd hr)

def hStep (P : Program) (ops : Array Oper) (hm : Heap) (o : Oper) (K : EF → Heap → Prop) (F : EF) (h : Heap) : Prop :=
  (wantedF ops F o = some true ∧ (effB o.op = true ∧ (∃ Q : AV → Heap → Prop, EOK P o F h Q ∧ ∀ X h', Q X h' → Sub hm h' ∧ K (putF F o.dst X) h') ∨ effB o.op = false ∧ ∃ X, DPure P o F hm X ∧ K (putF F o.dst X) h)) ∨
  (wantedF ops F o = some false ∧ K (putF F o.dst (.v undef)) h)

def hOp (P : Program) (ops : Array Oper) (hm : Heap) (i : Nat) (K : EF → Heap → Prop) (F : EF) (h : Heap) : Prop :=
  match ops[i]? with
  | none => K F h
  | some o => hStep P ops hm o K F h

def hAny (P : Program) (md : Region.Mode) (ops : Array Oper) (hm : Heap) (Q : EF → Heap → Prop) : Nat → Array Bool → EF → Heap → Prop
  | 0, listed, F, h => Region.ready md ops listed = [] ∧ Q F h
  | fuel + 1, listed, F, h => (Region.ready md ops listed = [] → Q F h) ∧ ∀ i ∈ Region.ready md ops listed, hOp P ops hm i (hAny P md ops hm Q fuel (listed.setIfInBounds i true)) F h

theorem hStep_mono {o : Oper} {F : EF} {h : Heap} {K K' : EF → Heap → Prop} (hk : ∀ F h, K F h → K' F h) (hs : hStep P ops hm o K F h) : hStep P ops hm o K' F h := by
  rcases hs with ⟨h1, ⟨h2, Q, h3, h4⟩ | ⟨h2, X, h3, h4⟩⟩ | ⟨h1, h2⟩
  · exact .inl ⟨h1, .inl ⟨h2, Q, h3, fun X h' hq => ⟨(h4 X h' hq).1, hk _ _ (h4 X h' hq).2⟩⟩⟩
  · exact .inl ⟨h1, .inr ⟨h2, X, h3, hk _ _ h4⟩⟩
  · exact .inr ⟨h1, hk _ _ h2⟩
theorem hOp_mono {i : Nat} {F : EF} {h : Heap} {K K' : EF → Heap → Prop} (hk : ∀ F h, K F h → K' F h) (hs : hOp P ops hm i K F h) : hOp P ops hm i K' F h := by
  unfold hOp at *
  split
  · rename_i ho; simp only [ho] at hs; exact hk _ _ hs
  · rename_i o ho; simp only [ho] at hs; exact hStep_mono hk hs

/-- In a frame the still operation 'o' leaves X. -/
def YP (P : Program) (ops : Array Oper) (hm : Heap) (o : Oper) (X : AV) (F : EF) : Prop :=
  (wantedF ops F o = some true ∧ effB o.op = false ∧ DPure P o F hm X) ∨ (wantedF ops F o = some false ∧ X = .v undef)

theorem hStep_of_YP {o : Oper} {X : AV} {F : EF} {h : Heap} {K : EF → Heap → Prop} (hy : YP P ops hm o X F) (hk : K (putF F o.dst X) h) : hStep P ops hm o K F h := by
  rcases hy with ⟨h1, h2, h3⟩ | ⟨h1, rfl⟩
  · exact .inl ⟨h1, .inr ⟨h2, X, h3, hk⟩⟩
  · exact .inr ⟨h1, hk⟩
theorem YP_of_hStep {o : Oper} {F : EF} {h : Heap} {K : EF → Heap → Prop} (he : effB o.op = false) (hs : hStep P ops hm o K F h) : ∃ X, YP P ops hm o X F ∧ K (putF F o.dst X) h := by
  rcases hs with ⟨h1, ⟨h2, _⟩ | ⟨h2, X, h3, h4⟩⟩ | ⟨h1, h2⟩
  · rw [he] at h2; cases h2
  · exact ⟨X, .inl ⟨h1, h2, h3⟩, h4⟩
  · exact ⟨_, .inr ⟨h1, rfl⟩, h2⟩

theorem DPure_congr {o : Oper} {F F' : EF} {X : AV} (hf : ∀ t ∈ opSlots o.op, F t = F' t) (hd : DPure P o F hm X) : DPure P o F' hm X :=
  fun c a hs g hdf hr => hd c a hs g hdf fun t ht x hx => hr t ht x (by rw [← hf t ht]; exact hx)
theorem EOK_congr {o : Oper} {F F' : EF} {h : Heap} {Q : AV → Heap → Prop} (hf : ∀ t ∈ opSlots o.op, F t = F' t) (hd : EOK P o F h Q) : EOK P o F' h Q :=
  fun c a hs g hdf hr => hd c a hs g hdf fun t ht x hx => hr t ht x (by rw [← hf t ht]; exact hx)
theorem YP_congr {o : Oper} {F F' : EF} {X : AV} (hf : ∀ t ∈ o.looksAt ops, F t = F' t) (hy : YP P ops hm o X F) : YP P ops hm o X F' := by
  rcases hy with ⟨h1, h0, h2⟩ | ⟨h1, h2⟩
  · exact .inl ⟨by rw [← wantedF_congr hf]; exact h1, h0, DPure_congr (fun t ht => hf t (slots_looks ht)) h2⟩
  · exact .inr ⟨by rw [← wantedF_congr hf]; exact h1, h2⟩

theorem hOp_put {j : Nat} {oi oj : Oper} {X : AV} (hj : ops[j]? = some oj) (hap : oi.apart ops oj = true) {K : EF → Heap → Prop} {F : EF} {h : Heap}
    (hy : YP P ops hm oi X F) (hs : hOp P ops hm j K (putF F oi.dst X) h) : hOp P ops hm j (fun F' h' => YP P ops hm oi X F' ∧ K (putF F' oi.dst X) h') F h := by
  obtain ⟨h1, h2, h3⟩ := Oper.apart_spec hap
  unfold hOp at *
  simp only [hj] at *
  have hlook : ∀ t ∈ oj.looksAt ops, putF F oi.dst X t = F t := fun t ht => putF_other fun e he hte => h1 e he (hte ▸ ht)
  have hlook2 : ∀ u, ∀ t ∈ oi.looksAt ops, F t = putF F oj.dst u t := fun u t ht => (putF_other fun e he hte => h3 e he (hte ▸ ht)).symm
  rcases hs with ⟨w1, ⟨w0, Q, w2, w3⟩ | ⟨w0, Y, w2, w3⟩⟩ | ⟨w1, w2⟩
  · refine .inl ⟨by rw [← wantedF_congr hlook]; exact w1, .inl ⟨w0, Q, EOK_congr (fun t ht => hlook t (slots_looks ht)) w2, fun Y h' hq => ⟨(w3 Y h' hq).1, YP_congr (hlook2 Y) hy, ?_⟩⟩⟩
    rw [← putF_comm F X Y h2]; exact (w3 Y h' hq).2
  · refine .inl ⟨by rw [← wantedF_congr hlook]; exact w1, .inr ⟨w0, Y, DPure_congr (fun t ht => hlook t (slots_looks ht)) w2, YP_congr (hlook2 Y) hy, ?_⟩⟩
    rw [← putF_comm F X Y h2]; exact w3
  · refine .inr ⟨by rw [← wantedF_congr hlook]; exact w1, YP_congr (hlook2 _) hy, ?_⟩
    rw [← putF_comm F X _ h2]; exact w2

theorem hOp_of_YP {i : Nat} {oi : Oper} {X : AV} {F : EF} {h : Heap} {K : EF → Heap → Prop} (hi : ops[i]? = some oi) (hy : YP P ops hm oi X F) (hk : K (putF F oi.dst X) h) : hOp P ops hm i K F h := by
  unfold hOp
  simp only [hi]
  exact hStep_of_YP hy hk

/-- A still operation that may come up now may be taken first. -/
theorem hAny_first {Q : EF → Heap → Prop} {i : Nat} {oi : Oper} {X : AV} (hi : ops[i]? = some oi) :
    ∀ (fuel : Nat) (listed : Array Bool) (F : EF) (h : Heap),
      (∀ j oj, ops[j]? = some oj → j ≠ i → listed.getD j true = false → (∀ e ∈ oj.after, Region.binds md e = true → e.on ≠ i) → oi.apart ops oj = true) →
      i ∈ Region.ready md ops listed → YP P ops hm oi X F →
      hAny P md ops hm Q fuel (listed.setIfInBounds i true) (putF F oi.dst X) h → hAny P md ops hm Q (fuel + 1) listed F h := by
  intro fuel
  induction fuel with
  | zero =>
    intro listed F h _ hr hy H
    refine ⟨fun e => (by rw [e] at hr; cases hr), fun j hj => ?_⟩
    by_cases hji : j = i
    · subst hji; exact hOp_of_YP hi hy H
    · have := ready_mono hj hji
      rw [H.1] at this
      cases this
  | succ fuel ih =>
    intro listed F h hfree hr hy H
    refine ⟨fun e => (by rw [e] at hr; cases hr), fun j hj => ?_⟩
    by_cases hji : j = i
    · subst hji; exact hOp_of_YP hi hy H
    · have h1 := H.2 j (ready_mono hj hji)
      obtain ⟨hjun, oj, hoj, hall⟩ := mem_ready.1 hj
      have hnot : ∀ e ∈ oj.after, Region.binds md e = true → e.on ≠ i := fun e he hb heq => by
        have h1 := hall e he hb
        have h0 := (mem_ready.1 hr).1
        rw [heq] at h1
        rcases Nat.lt_or_ge i listed.size with h' | h'
        · simp [h'] at h0 h1; rw [h0] at h1; cases h1
        · simp [Array.getElem?_eq_none h'] at h1
      have h2 := hOp_put hoj (hfree j oj hoj hji hjun hnot) hy h1
      have hfree' : ∀ k ok, ops[k]? = some ok → k ≠ i → (listed.setIfInBounds j true).getD k true = false →
          (∀ e ∈ ok.after, Region.binds md e = true → e.on ≠ i) → oi.apart ops ok = true := fun k ok hk hki hun hno => by
        refine hfree k ok hk hki ?_ hno
        by_cases hjk : j = k
        · subst hjk; exact hjun
        · rw [getD_set_ne true hjk] at hun; exact hun
      refine hOp_mono (fun F' h' h3 => ih (listed.setIfInBounds j true) F' h' hfree' (ready_mono hr (Ne.symm hji)) h3.1 ?_) h2
      rw [Array.setIfInBounds_comm _ _ hji]
      exact h3.2

/-- An order of ours: still operations as soon as they may come; another when it alone may. -/
def orderOK (md : Region.Mode) (ops : Array Oper) : List Nat → Array Bool → Bool
  | [], listed => (Region.ready md ops listed).isEmpty
  | k :: ks, listed => (match ops[k]? with
    | some o => if effB o.op then Region.ready md ops listed == [k] else (Region.ready md ops listed).contains k && Region.free md ops listed k
    | none => false) && orderOK md ops ks (listed.setIfInBounds k true)

def hList (P : Program) (ops : Array Oper) (hm : Heap) (Q : EF → Heap → Prop) : List Nat → EF → Heap → Prop
  | [], F, h => Q F h
  | i :: r, F, h => hOp P ops hm i (hList P ops hm Q r) F h

theorem hAny_order {Q : EF → Heap → Prop} : ∀ (l : List Nat) (listed : Array Bool) (F : EF) (h : Heap),
    orderOK md ops l listed = true → hList P ops hm Q l F h → hAny P md ops hm Q l.length listed F h
  | [], _, _, _, hB, hd => ⟨by simpa [orderOK] using hB, hd⟩
  | k :: l, listed, F, h, hB, hd => by
    simp only [orderOK, Bool.and_eq_true] at hB
    obtain ⟨hB, hB'⟩ := hB
    cases h0 : ops[k]? with
    | none => rw [h0] at hB; cases hB
    | some o =>
      rw [h0] at hB
      simp only at hB
      cases he : effB o.op with
      | true =>
        rw [he, if_pos rfl] at hB
        have hB := beq_iff_eq.1 hB
        refine ⟨fun e => (by rw [hB] at e; cases e), fun j hj => ?_⟩
        rw [hB] at hj
        obtain rfl : j = k := by simpa using hj
        exact hOp_mono (fun F' h' hh => hAny_order l _ F' h' hB' hh) hd
      | false =>
        rw [he, if_neg (by simp), Bool.and_eq_true] at hB
        have hd : hStep P ops hm o (hList P ops hm Q l) F h := by
          have : hOp P ops hm k (hList P ops hm Q l) F h := hd
          unfold hOp at this
          simpa only [h0] using this
        obtain ⟨X, hy, hK⟩ := YP_of_hStep he hd
        exact hAny_first h0 l.length listed F h (Region.free_spec h0 hB.2) (by simpa using hB.1) hy (hAny_order l _ _ _ hB' hK)

/-! ### .. and whose last operation waits for all the others -/
def hAnyE (P : Program) (md : Region.Mode) (ops : Array Oper) (hm : Heap) (z : Nat) (Q : EF → Heap → Prop) : Nat → Array Bool → EF → Heap → Prop
  | 0, listed, F, h => (Region.ready md ops listed = [z] ∧ Region.ready md ops (listed.setIfInBounds z true) = []) ∧ Q F h
  | fuel + 1, listed, F, h => Region.ready md ops listed ≠ [] ∧ ∀ i ∈ Region.ready md ops listed, hOp P ops hm i (hAnyE P md ops hm z Q fuel (listed.setIfInBounds i true)) F h

/-- What is listed is so with all that it waits for. -/
def Closed (md : Region.Mode) (ops : Array Oper) (listed : Array Bool) : Prop := ∀ j oj, ops[j]? = some oj → listed.getD j false = true → ∀ e ∈ oj.after, Region.binds md e = true → listed.getD e.on false = true
def predsOf (md : Region.Mode) (ops : Array Oper) (k : Nat) : List Nat := match ops[k]? with
  | some o => (o.after.toList.filter (Region.binds md)).map (·.on)
  | none => []
def ancStep (md : Region.Mode) (ops : Array Oper) (s : List Nat) : List Nat := (List.range ops.size).filter fun k => s.contains k || s.any fun j => (predsOf md ops j).contains k
/-- Does this operation wait for all the others, be it through others? -/
def zOKt (md : Region.Mode) (ops : Array Oper) (z : Nat) : Bool := (List.range ops.size).all fun k => (ancStep md ops (ancStep md ops (ancStep md ops [z]))).contains k

theorem ancStep_spec {z : Nat} {listed : Array Bool} (hc : Closed md ops listed) (hz : z ∈ Region.ready md ops listed) {s : List Nat} (hs : ∀ k ∈ s, k ≠ z → listed.getD k false = true) : ∀ k ∈ ancStep md ops s, k ≠ z → listed.getD k false = true := by
  intro k hk hkz
  simp only [ancStep, List.mem_filter, Bool.or_eq_true, List.contains_iff_mem, List.any_eq_true] at hk
  obtain ⟨_, h1 | ⟨j, hj, hp⟩⟩ := hk
  · exact hs k h1 hkz
  · unfold predsOf at hp
    cases ho : ops[j]? with
    | none => rw [ho] at hp; cases hp
    | some o =>
      rw [ho] at hp
      simp only [List.mem_map, List.mem_filter] at hp
      obtain ⟨e, ⟨he, hb⟩, rfl⟩ := hp
      by_cases hjz : j = z
      · subst hjz
        obtain ⟨_, oz, hoz, hall⟩ := mem_ready.1 hz
        rw [ho] at hoz
        cases hoz
        have := hall e (by simpa using he) hb
        simpa using this
      · exact hc j o ho (hs j hj hjz) e (by simpa using he) hb
theorem zOKt_spec {z : Nat} (hz : zOKt md ops z = true) {listed : Array Bool} (hc : Closed md ops listed) {i : Nat} (h1 : z ∈ Region.ready md ops listed) (h2 : i ∈ Region.ready md ops listed) : i = z := by
  obtain ⟨hun, oi, hoi, _⟩ := mem_ready.1 h2
  have hlt : i < ops.size := (Array.getElem?_eq_some_iff.1 hoi).1
  unfold zOKt at hz
  rw [List.all_eq_true] at hz
  have hm := hz i (List.mem_range.2 hlt)
  rw [List.contains_iff_mem] at hm
  have s0 : ∀ k ∈ [z], k ≠ z → listed.getD k false = true := fun k hk hn => absurd (by simpa using hk) hn
  have s3 := ancStep_spec hc h1 (ancStep_spec hc h1 (ancStep_spec hc h1 s0))
  by_cases e : i = z
  · exact e
  · have := s3 i hm e
    exfalso
    rcases Nat.lt_or_ge i listed.size with h' | h'
    · simp [h'] at hun this; rw [hun] at this; cases this
    · simp [Array.getElem?_eq_none h'] at this
theorem Closed.set {listed : Array Bool} (hc : Closed md ops listed) {j : Nat} (hj : j ∈ Region.ready md ops listed) : Closed md ops (listed.setIfInBounds j true) := by
  have up : ∀ k, listed.getD k false = true → (listed.setIfInBounds j true).getD k false = true := fun k hk => by
    by_cases e : j = k
    · subst e
      rcases Nat.lt_or_ge j listed.size with h' | h'
      · simp [h']
      · simp [Array.getElem?_eq_none h'] at hk
    · rw [getD_set_ne false e]; exact hk
  intro k ok hk hl e he hb
  by_cases hkj : j = k
  · subst hkj
    obtain ⟨_, oj, hoj, hall⟩ := mem_ready.1 hj
    rw [hk] at hoj
    cases hoj
    refine up _ ?_
    have := hall e he hb
    simpa using this
  · rw [getD_set_ne false hkj] at hl
    exact up _ (hc k ok hk hl e he hb)
theorem Closed.none (md : Region.Mode) (ops : Array Oper) (m : Nat) : Closed md ops (Array.replicate m false) := fun j oj _ hl => by
  rcases Nat.lt_or_ge j m with h' | h'
  · simp [h'] at hl
  · simp [Array.getElem?_eq_none, h'] at hl

theorem hAnyE_first {Q : EF → Heap → Prop} {z i : Nat} {oi : Oper} {X : AV} (hz : zOKt md ops z = true) (hi : ops[i]? = some oi) :
    ∀ (fuel : Nat) (listed : Array Bool) (F : EF) (h : Heap), Closed md ops listed →
      (∀ j oj, ops[j]? = some oj → j ≠ i → listed.getD j true = false → (∀ e ∈ oj.after, Region.binds md e = true → e.on ≠ i) → oi.apart ops oj = true) →
      i ∈ Region.ready md ops listed → YP P ops hm oi X F →
      hAnyE P md ops hm z Q fuel (listed.setIfInBounds i true) (putF F oi.dst X) h → hAnyE P md ops hm z Q (fuel + 1) listed F h := by
  intro fuel
  induction fuel with
  | zero =>
    intro listed F h hcl _ hr hy H
    refine ⟨fun e => (by rw [e] at hr; cases hr), fun j hj => ?_⟩
    by_cases hji : j = i
    · subst hji; exact hOp_of_YP hi hy H
    · have := ready_mono hj hji
      rw [H.1.1] at this
      obtain rfl : j = z := by simpa using this
      exact (hji (zOKt_spec hz hcl hj hr).symm).elim
  | succ fuel ih =>
    intro listed F h hcl hfree hr hy H
    refine ⟨fun e => (by rw [e] at hr; cases hr), fun j hj => ?_⟩
    by_cases hji : j = i
    · subst hji; exact hOp_of_YP hi hy H
    · have h1 := H.2 j (ready_mono hj hji)
      obtain ⟨hjun, oj, hoj, hall⟩ := mem_ready.1 hj
      have hnot : ∀ e ∈ oj.after, Region.binds md e = true → e.on ≠ i := fun e he hb heq => by
        have h1 := hall e he hb
        have h0 := (mem_ready.1 hr).1
        rw [heq] at h1
        rcases Nat.lt_or_ge i listed.size with h' | h'
        · simp [h'] at h0 h1; rw [h0] at h1; cases h1
        · simp [Array.getElem?_eq_none h'] at h1
      have h2 := hOp_put hoj (hfree j oj hoj hji hjun hnot) hy h1
      have hfree' : ∀ k ok, ops[k]? = some ok → k ≠ i → (listed.setIfInBounds j true).getD k true = false →
          (∀ e ∈ ok.after, Region.binds md e = true → e.on ≠ i) → oi.apart ops ok = true := fun k ok hk hki hun hno => by
        refine hfree k ok hk hki ?_ hno
        by_cases hjk : j = k
        · subst hjk; exact hjun
        · rw [getD_set_ne true hjk] at hun; exact hun
      refine hOp_mono (fun F' h' h3 => ih (listed.setIfInBounds j true) F' h' (hcl.set hj) hfree' (ready_mono hr (Ne.symm hji)) h3.1 ?_) h2
      rw [Array.setIfInBounds_comm _ _ hji]
      exact h3.2

def orderE (md : Region.Mode) (ops : Array Oper) (z : Nat) : List Nat → Array Bool → Bool
  | [], listed => Region.ready md ops listed == [z] && (Region.ready md ops (listed.setIfInBounds z true)).isEmpty
  | k :: ks, listed => (match ops[k]? with
    | some o => if effB o.op then Region.ready md ops listed == [k] else (Region.ready md ops listed).contains k && Region.free md ops listed k
    | none => false) && orderE md ops z ks (listed.setIfInBounds k true)

theorem hAnyE_order {Q : EF → Heap → Prop} {z : Nat} (hz : zOKt md ops z = true) : ∀ (l : List Nat) (listed : Array Bool) (F : EF) (h : Heap), Closed md ops listed →
    orderE md ops z l listed = true → hList P ops hm Q l F h → hAnyE P md ops hm z Q l.length listed F h
  | [], _, _, _, _, hB, hd => ⟨by simpa [orderE] using hB, hd⟩
  | k :: l, listed, F, h, hcl, hB, hd => by
    simp only [orderE, Bool.and_eq_true] at hB
    obtain ⟨hB, hB'⟩ := hB
    cases h0 : ops[k]? with
    | none => rw [h0] at hB; cases hB
    | some o =>
      rw [h0] at hB
      simp only at hB
      cases he : effB o.op with
      | true =>
        rw [he, if_pos rfl] at hB
        have hB := beq_iff_eq.1 hB
        refine ⟨fun e => (by rw [hB] at e; cases e), fun j hj => ?_⟩
        rw [hB] at hj
        obtain rfl : j = k := by simpa using hj
        exact hOp_mono (fun F' h' hh => hAnyE_order hz l _ F' h' (hcl.set (by rw [hB]; simp)) hB' hh) hd
      | false =>
        rw [he, if_neg (by simp), Bool.and_eq_true] at hB
        have hd : hStep P ops hm o (hList P ops hm Q l) F h := by
          have : hOp P ops hm k (hList P ops hm Q l) F h := hd
          unfold hOp at this
          simpa only [h0] using this
        obtain ⟨X, hy, hK⟩ := YP_of_hStep he hd
        have hin : k ∈ Region.ready md ops listed := by simpa using hB.1
        exact hAnyE_first hz h0 l.length listed F h hcl (Region.free_spec h0 hB.2) hin hy (hAnyE_order hz l _ _ _ (hcl.set hin) hB' hK)

theorem hOp_sound {n : Nat} {i : Nat} {K : EF → Heap → Prop} {K' : Act → World → Prop} {Q : Exit → Act → World → Prop} {c0 : Cx} (hdst : ∀ o ∈ ops.toList, dstOK n o.dst = true)
    (hk : ∀ c F h a, Ext c0 c → Sub h c.h → Sub hm c.h → Good c → EnvF c n F a → K F h → K' a c.w) {c : Cx} {F : EF} {h : Heap} {a : Act} (hE : Ext c0 c) (hs : Sub h c.h) (hs' : Sub hm c.h) (g : Good c) (he : EnvF c n F a) (hd : hOp P ops hm i K F h) : wpOp P ops Q i K' a c.w := by
  unfold hOp at hd
  unfold wpOp
  split
  · rename_i ho; simp only [ho] at hd; exact hk c F h a hE hs hs' g he hd
  · rename_i o ho
    simp only [ho] at hd
    have hdo : dstOK n o.dst = true := hdst o (by simpa using Array.mem_of_getElem? ho)
    rcases hd with ⟨h1, ⟨h0, R, h2, h3⟩ | ⟨h0, X, h2, h3⟩⟩ | ⟨h1, h2⟩
    · rw [if_pos (wantedF_spec he h1)]
      left
      have hu := h2 c a hs g he.2.1 (fun t _ x hx => he.2.2 t x hx)
      have next : ∀ u w', Comes1 c R u w' → K' (a.put o.dst u) w' := by
        rintro u w' ⟨c', x, h', rfl, g', hE', hr, hs2, hR⟩
        obtain ⟨k1, k2⟩ := h3 x h' hR
        exact hk c' _ h' _ (hE.trans hE') hs2 (fun j b hj => hs2 _ _ (k1 _ _ hj)) g' ((he.mono hE').put hdo hr) k2
      unfold Oper.wp
      generalize (execOp a.eval o).run P c.w = r at hu
      cases r with
      | ok nx w' =>
        cases nx <;> simp only [Upon1] at hu <;> simp only [Oper.upon]
        case value u => exact next u w' hu
        case skip => exact next undef w' hu
        case enter f args =>
          obtain ⟨rfl, hc⟩ := hu
          exact hc.mono fun e w'' ⟨u, he, hcm⟩ => by subst he; exact next u w'' hcm
      | halt x w' => exact hu.elim
    · rw [if_pos (wantedF_spec he h1)]
      left
      obtain ⟨u, c', e1, g', hE', e2, hr⟩ := h2 c a hs' g he.2.1 (fun t _ x hx => he.2.2 t x hx)
      unfold Oper.wp
      rw [e1]
      simp only [Oper.upon]
      exact hk c' _ h _ (hE.trans hE') (by rw [e2]; exact hs) (by rw [e2]; exact hs') g' ((he.mono hE').put hdo hr) h3
    · rw [if_neg (by rw [wantedF_spec he h1]; simp)]
      exact hk c _ h _ hE hs hs' g (he.put hdo (.v _)) h2

theorem hAny_sound {n : Nat} {Q : EF → Heap → Prop} {Q' : Exit → Act → World → Prop} {c0 : Cx} (hdst : ∀ o ∈ ops.toList, dstOK n o.dst = true)
    (hQ : ∀ c F h a, Ext c0 c → Sub h c.h → Good c → EnvF c n F a → Q F h → Q' .normal a c.w) : ∀ (fuel : Nat) (listed : Array Bool) (c : Cx) (F : EF) (h : Heap) (a : Act), Ext c0 c → Sub h c.h → Sub hm c.h → Good c → EnvF c n F a →
      hAny P md ops hm Q fuel listed F h → wpAny P md ops Q' fuel listed a c.w
  | 0, _, c, F, h, a, h1, h2, _, h3, h4, hd => ⟨hd.1, hQ c F h a h1 h2 h3 h4 hd.2⟩
  | fuel + 1, listed, c, F, h, a, h1, h2, h2', h3, h4, hd =>
    ⟨fun e => hQ c F h a h1 h2 h3 h4 (hd.1 e), fun i hi => hOp_sound hdst (fun c F h a k1 k2 k2' k3 k4 hk => hAny_sound hdst hQ fuel _ c F h a k1 k2 k2' k3 k4 hk) h1 h2 h2' h3 h4 (hd.2 i hi)⟩

theorem hAnyE_sound {n z : Nat} {Q : EF → Heap → Prop} {Q' : Exit → Act → World → Prop} {c0 : Cx} (hdst : ∀ o ∈ ops.toList, dstOK n o.dst = true)
    (hQ : ∀ c F h a, Ext c0 c → Sub h c.h → Good c → EnvF c n F a → Q F h → wpOp P ops Q' z (fun a' w' => Q' .normal a' w') a c.w) : ∀ (fuel : Nat) (listed : Array Bool) (c : Cx) (F : EF) (h : Heap) (a : Act), Ext c0 c → Sub h c.h → Sub hm c.h → Good c → EnvF c n F a →
      hAnyE P md ops hm z Q fuel listed F h → wpAny P md ops Q' (fuel + 1) listed a c.w
  | 0, listed, c, F, h, a, h1, h2, _, h3, h4, hd => ⟨fun e => (by rw [hd.1.1] at e; cases e), fun i hi => by
      rw [hd.1.1] at hi
      obtain rfl : i = z := by simpa using hi
      exact wpOp_mono (fun a w hh => ⟨hd.1.2, hh⟩) (hQ c F h a h1 h2 h3 h4 hd.2)⟩
  | fuel + 1, listed, c, F, h, a, h1, h2, h2', h3, h4, hd =>
    ⟨fun e => absurd e hd.1, fun i hi => hOp_sound hdst (fun c F h a k1 k2 k2' k3 k4 hk => hAnyE_sound hdst hQ fuel _ c F h a k1 k2 k2' k3 k4 hk) h1 h2 h2' h3 h4 (hd.2 i hi)⟩

/-- The walk: in an order of ours. -/
def vcOne (P : Program) (U : TypeId → TI) (hm : Heap) (o : Oper) (ρ : Env) (h : Heap) (K : AV → Heap → Prop) : Prop :=
  if effB o.op then vcE P U ρ h o (fun X h' => Sub hm h' ∧ K X h') else pv U ρ hm o.op (fun X => K X h)
def vcDrH (P : Program) (U : TypeId → TI) (n : Nat) (all : List Oper) (hm : Heap) : List Nat → Env → Heap → (Env → Heap → Prop) → Prop
  | [], ρ, h, K => K ρ h
  | i :: is, ρ, h, K => match all[i]? with
    | none => False
    | some o => guardA all ρ o.guard (fun ρ => vcOne P U hm o ρ h fun X h' => vcDrH P U n all hm is (put ρ o.dst X) h' K) (fun ρ => vcDrH P U n all hm is (put ρ o.dst (.v undef)) h K)

theorem lk_learn' {ρ : Env} {d : Nat} {x : AV} (hd : lk ρ d = some x) : lk ((d, x) :: ρ) = lk ρ := by
  funext t
  simp only [lk]
  split
  · rename_i e; subst e; exact hd.symm
  · rfl

theorem vcDrH_hList {n : Nat} (hU : ∀ t, AgreeT P U t) {all : List Oper} {K : Env → Heap → Prop} : ∀ (l : List Nat) (ρ : Env) (h : Heap), vcDrH P U n all hm l ρ h K → hList P all.toArray hm (fun F h => ∃ ρ, lk ρ = F ∧ K ρ h) l (lk ρ) h
  | [], ρ, h, hk => ⟨ρ, rfl, hk⟩
  | i :: is, ρ, h, hk => by
    simp only [vcDrH] at hk
    show hOp _ _ _ _ _ _ _
    unfold hOp
    have e0 : (all.toArray)[i]? = all[i]? := by simp
    rw [e0]
    cases hi : all[i]? with
    | none => rw [hi] at hk; exact hk.elim
    | some o =>
      rw [hi] at hk
      simp only at hk ⊢
      have yes : ∀ ρ', wantedF all.toArray (lk ρ) o = some true → lk ρ' = lk ρ → vcOne P U hm o ρ' h (fun X h' => vcDrH P U n all hm is (put ρ' o.dst X) h' K) → hStep P all.toArray hm o (hList P all.toArray hm (fun F h => ∃ ρ, lk ρ = F ∧ K ρ h) is) (lk ρ) h := by
        intro ρ' hw hl hv
        unfold vcOne at hv
        cases he : effB o.op with
        | true =>
          rw [he, if_pos rfl] at hv
          have := vcE_sound hU he hv
          rw [hl] at this
          refine .inl ⟨hw, .inl ⟨he, _, this, fun X h' hq => ⟨hq.1, ?_⟩⟩⟩
          have := vcDrH_hList hU is _ _ hq.2
          rw [lk_put, hl] at this
          exact this
        | false =>
          rw [he, if_neg (by simp)] at hv
          obtain ⟨X, hQ, hX⟩ := pure_sound hU hv
          rw [hl] at hX
          refine .inl ⟨hw, .inr ⟨he, X, hX, ?_⟩⟩
          have := vcDrH_hList hU is _ _ hQ
          rw [lk_put, hl] at this
          exact this
      have no : ∀ ρ', wantedF all.toArray (lk ρ) o = some false → lk ρ' = lk ρ → vcDrH P U n all hm is (put ρ' o.dst (.v undef)) h K → hStep P all.toArray hm o (hList P all.toArray hm (fun F h => ∃ ρ, lk ρ = F ∧ K ρ h) is) (lk ρ) h := by
        intro ρ' hw hl hv
        have := vcDrH_hList hU is _ _ hv
        rw [lk_put, hl] at this
        exact .inr ⟨hw, this⟩
      unfold guardA at hk
      split at hk
      · rename_i hg
        exact yes ρ (by simp [wantedF, hg]) rfl hk
      · rename_i g want hg
        split at hk
        · rename_i d hd'
          have hd2 : ((all.toArray)[g]?).bind (·.dst) = some d := by simpa [dstAt] using hd'
          split at hk
          · rename_i t ht
            have hw : wantedF all.toArray (lk ρ) o = some (t == want) := by
              unfold wantedF
              simp only [hg]
              rw [hd2]
              simp only [ht]
            by_cases e : t = want
            · exact yes _ (by rw [hw, e]; simp) (lk_learn' (by rw [ht, e])) (hk.1 e)
            · have e' : t = !want := by cases t <;> cases want <;> simp_all
              exact no _ (by rw [hw]; simp [e]) (lk_learn' (by rw [ht, e'])) (hk.2 e')
          · rename_i vs ht
            refine no ρ ?_ rfl hk
            unfold wantedF
            simp only [hg]
            rw [hd2]
            simp only [ht]
          · exact hk.elim
        · exact hk.elim

end
end Go.Ab

/- Code: what it is enough to show of it; a function's contract out of its body. -/
set_option linter.unusedSimpArgs false
set_option linter.unusedVariables false
namespace Go.Ab
open Go

section
variable (P : Program) (U : TypeId → TI) (n : Nat)

/-- What must hold behind the first of two pieces. -/
def KSeq (next : Env → Heap → Prop) (K : Exit → Env → Heap → Prop) (e : Exit) (ρ : Env) (h : Heap) : Prop :=
  match e with
  | .normal => next ρ h
  | e => K e ρ h

def KBlock (id : Nat) (K : Exit → Env → Heap → Prop) (e : Exit) (ρ : Env) (h : Heap) : Prop :=
  match e with
  | .exit j => if j = id then K .normal ρ h else K (.exit j) ρ h
  | e => K e ρ h

def wf1 : AV → Prop
  | .s l => l.length < lim
  | .sl xs _ => xs.length < lim
  | _ => True

/-- Lengths are such that an int holds them. -/
def wfA : AV → Prop
  | .agg cs => ∀ x ∈ cs, wf1 x
  | .pe y _ => ∀ x ∈ y.cells, wf1 x
  | x => wf1 x

def Wf (ρ : Env) : Prop := ∀ t x, lk ρ t = some x → wfA x

/-- A loop: what holds at each round's head, and what each round lowers. -/
def LoopVC (body : Env → Heap → (Exit → Env → Heap → Prop) → Prop) (ρ : Env) (h : Heap) (K : Exit → Env → Heap → Prop) : Prop :=
  Wf ρ → ∃ (I : Nat → Env → Heap → Prop) (m : Nat), I m ρ h ∧ ∀ m ρ h, I m ρ h → body ρ h (KSeq (fun ρ' h' => ∃ m', m' < m ∧ I m' ρ' h') K)

/-- A region that draws its order, in the order of the text. -/
def vcDr (all : List Oper) : List Oper → Env → Heap → (Env → Prop) → Prop
  | [], ρ, _, K => K ρ
  | o :: os, ρ, h, K => dstOK n o.dst = true ∧ guardA all ρ o.guard
      (fun ρ => vcD1 P U ρ h o fun X => vcDr all os (put ρ o.dst X) h K)
      (fun ρ => vcDr all os (put ρ o.dst (.v undef)) h K)

def lexOK (ops : Array Oper) : Bool := Region.lexFrom .any ops ops.size 0 (Array.replicate ops.size false)

/-- Is the last operation a store? -/
def isStore : Op → Bool
  | .store .. => true
  | _ => false
def lastS : List Oper → Bool
  | [] => false
  | [o] => isStore o.op && o.guard.isNone
  | _ :: b :: r => lastS (b :: r)
def lexS (ops : Array Oper) : Bool := zOK .any ops (ops.size - 1) && lexE .any ops (ops.size - 1) (ops.size - 1) 0 (Array.replicate ops.size false)
/-- What the last operation comes to. -/
def lastK (l : List Oper) (h : Heap) (K : Env → Heap → Prop) (ρ : Env) : Prop := match l.getLast? with
  | some o => vcOp P U ρ h o fun X h' => K (put ρ o.dst X) h'
  | none => False

def stillL (l : List Oper) : Bool := l.all fun o => !effB o.op
/-- A region that draws and holds operations that may change memory. -/
def vcDrE (P : Program) (U : TypeId → TI) (n : Nat) (ops : Array Oper) (ρ : Env) (h : Heap) (K : Env → Heap → Prop) : Prop :=
  (ops.toList.all fun o => dstOK n o.dst) = true ∧
  (lexOK ops = true ∧ vcDr P U n ops.toList ops.toList ρ h (fun ρ => K ρ h) ∨
   (∃ (hm : Heap) (l : List Nat), Sub hm h ∧ orderOK .any ops l (Array.replicate ops.size false) = true ∧ l.length = ops.size ∧ vcDrH P U n ops.toList hm l ρ h K) ∨
   ∃ (hm : Heap) (l : List Nat), Sub hm h ∧ zOKt .any ops l.length = true ∧ (ops.toList.getLast?.map fun o => o.guard.isNone) = some true ∧ orderE .any ops l.length l (Array.replicate ops.size false) = true ∧ l.length + 1 = ops.size ∧ vcDrH P U n ops.toList hm l ρ h (fun ρ h => lastK P U ops.toList h K ρ))

/-- Code. -/
def vcCode : Code → Env → Heap → (Exit → Env → Heap → Prop) → Prop
  | .skip, ρ, h, K => K .normal ρ h
  | .region _ ops draw, ρ, h, K => if draw then (if lastS ops.toList && stillL ops.toList.dropLast then (lexS ops && ops.toList.all fun o => dstOK n o.dst) = true ∧ vcDr P U n ops.toList ops.toList.dropLast ρ h (lastK P U ops.toList h (K .normal)) else if stillL ops.toList = false then vcDrE P U n ops ρ h (K .normal) else (lexOK ops && ops.toList.all fun o => dstOK n o.dst) = true ∧ vcDr P U n ops.toList ops.toList ρ h (fun ρ => K .normal ρ h)) else vcOps P U n ops.toList ops.toList ρ h (K .normal)
  | .seq a b, ρ, h, K => vcCode a ρ h (KSeq (fun ρ h => vcCode b ρ h K) K)
  | .cond c a b, ρ, h, K => withv ρ c fun
    | .v (.bool t) => (t = true → vcCode a ρ h K) ∧ (t = false → vcCode b ρ h K)
    | _ => False
  | .block id c, ρ, h, K => vcCode c ρ h (KBlock id K)
  | .loop c, ρ, h, K => LoopVC (fun ρ h K => vcCode c ρ h K) ρ h K
  | .exit id, ρ, h, K => K (.exit id) ρ h
  | .ret, ρ, h, K => K .ret ρ h
  | .label _, ρ, h, K => K .normal ρ h
  | .goto l, ρ, h, K => K (.goto l) ρ h
  | _, _, _, _ => False

/-- Code that may be run from whatever memory is so. -/
def WP (c : Code) (ρ : Env) (h : Heap) (K : Exit → Env → Heap → Prop) : Prop :=
  ∀ cx a, Sub h cx.h → Good cx → EnvSat cx n ρ a → c.wp P (WPK n K cx) a cx.w

end

section
variable {P : Program} {U : TypeId → TI} {n : Nat}

theorem WPK.mono {K K' : Exit → Env → Heap → Prop} {c0 : Cx} (hk : ∀ e ρ h, K e ρ h → K' e ρ h) {e : Exit} {a : Act} {w : World} (h : WPK n K c0 e a w) : WPK n K' c0 e a w := by
  obtain ⟨c, ρ, hh, h1, h2, h3, h4, h5, h6⟩ := h
  exact ⟨c, ρ, hh, h1, h2, h3, h4, h5, hk _ _ _ h6⟩

theorem WP.weaken {c : Code} {ρ : Env} {h : Heap} {K K' : Exit → Env → Heap → Prop} (hw : WP P n c ρ h K) (hk : ∀ e ρ h, K e ρ h → K' e ρ h) : WP P n c ρ h K' :=
  fun cx a h1 h2 h3 => wp_mono (hw cx a h1 h2 h3) fun _ _ _ => WPK.mono hk

theorem WP.seq {c d : Code} {ρ : Env} {h : Heap} {K : Exit → Env → Heap → Prop} (hc : WP P n c ρ h (KSeq (WP P n d · · K) K)) : WP P n (.seq c d) ρ h K := by
  intro cx a h1 h2 h3
  refine wp_seq (wp_mono (hc cx a h1 h2 h3) fun e a w hq => ?_)
  obtain ⟨c', ρ', h', rfl, g, hE, he, hs, hk⟩ := hq
  cases e with
  | normal =>
    have := hk c' a hs g he
    exact wp_mono this fun _ _ _ => WPK.after hE
  | _ => exact ⟨c', ρ', h', rfl, g, hE, he, hs, hk⟩

theorem WP.block {id : Nat} {c : Code} {ρ : Env} {h : Heap} {K : Exit → Env → Heap → Prop} (hc : WP P n c ρ h (KBlock id K)) : WP P n (.block id c) ρ h K := by
  intro cx a h1 h2 h3
  refine wp_block (wp_mono (hc cx a h1 h2 h3) fun e a w hq => ?_)
  obtain ⟨c', ρ', h', rfl, g, hE, he, hs, hk⟩ := hq
  cases e with
  | exit j =>
    simp only [Exit.inBlock, KBlock] at hk ⊢
    split
    · rename_i e; rw [if_pos e] at hk; exact ⟨c', ρ', h', rfl, g, hE, he, hs, hk⟩
    · rename_i e; rw [if_neg e] at hk; exact ⟨c', ρ', h', rfl, g, hE, he, hs, hk⟩
  | _ => exact ⟨c', ρ', h', rfl, g, hE, he, hs, hk⟩

/-- A loop that counts down. -/
theorem wp_loop_down {c : Code} {Q : Exit → Act → World → Prop} (I : Nat → Act → World → Prop) (round : ∀ m a w, I m a w → c.wp P (Exit.then (fun a' w' => ∃ m', m' < m ∧ I m' a' w') Q) a w) :
    ∀ m a w, I m a w → (Code.loop c).wp P Q a w := by
  intro m a w h0 b k cs
  have key : ∀ n a w, I n a w → ∃ e a' w', Q e a' w' ∧ Arrives P (lone (b.at a (.code c :: .inLoop c :: k)) cs w) b k cs e a' w' := by
    intro n
    induction n using Nat.strongRecOn with
    | _ n ih =>
      intro a w hI
      obtain ⟨e, a₁, w₁, hq, harr⟩ := round n a w hI b (.inLoop c :: k) cs
      cases e with
      | normal =>
        obtain ⟨m', hlt, hI₁⟩ := hq
        obtain ⟨e₂, a₂, w₂, hq₂, harr₂⟩ := ih m' hlt a₁ w₁ hI₁
        exact ⟨e₂, a₂, w₂, hq₂, .of_steps (Steps.trans harr (.one step_inLoop)) harr₂⟩
      | exit id => exact ⟨_, a₁, w₁, hq, .pass (x := .inLoop c) rfl (fun _ _ => .inl (by simp)) harr⟩
      | goto l => exact ⟨_, a₁, w₁, hq, .pass (x := .inLoop c) rfl (fun _ _ => .inl (by simp)) harr⟩
      | ret => exact ⟨_, a₁, w₁, hq, .pass (x := .inLoop c) rfl (fun _ _ => .inl (by simp)) harr⟩
      | panic ch => exact ⟨_, a₁, w₁, hq, .pass (x := .inLoop c) rfl (fun _ _ => .inl (by simp)) harr⟩
      | outgrown => exact ⟨_, a₁, w₁, hq, .pass (x := .inLoop c) rfl (fun _ _ => .inl (by simp)) harr⟩
  obtain ⟨e, a', w', hq, harr⟩ := key m a w h0
  exact ⟨e, a', w', hq, .of_steps (.one step_loop) harr⟩

theorem WP.loop {c : Code} {ρ : Env} {h : Heap} {K : Exit → Env → Heap → Prop} (I : Nat → Env → Heap → Prop) (m : Nat) (h0 : I m ρ h) (round : ∀ m ρ h, I m ρ h → WP P n c ρ h (KSeq (fun ρ' h' => ∃ m', m' < m ∧ I m' ρ' h') K)) :
    WP P n (.loop c) ρ h K := by
  intro cx a h1 h2 h3
  refine wp_loop_down (fun m a w => ∃ c' ρ' h', c'.w = w ∧ Good c' ∧ Ext cx c' ∧ EnvSat c' n ρ' a ∧ Sub h' c'.h ∧ I m ρ' h') ?_ m a cx.w ⟨cx, ρ, h, rfl, h2, .refl _, h3, h1, h0⟩
  rintro m a w ⟨c', ρ', h', rfl, g, hE, he, hs, hI⟩
  refine wp_mono (round m ρ' h' hI c' a hs g he) fun e a w hq => ?_
  obtain ⟨c2, ρ2, h2, rfl, g2, hE2, he2, hs2, hk⟩ := hq
  cases e with
  | normal =>
    obtain ⟨m', hlt, hI'⟩ := hk
    exact ⟨m', hlt, c2, ρ2, h2, rfl, g2, hE.trans hE2, he2, hs2, hI'⟩
  | _ => exact ⟨c2, ρ2, h2, rfl, g2, hE.trans hE2, he2, hs2, hk⟩

theorem WP.ops (hU : ∀ t, AgreeT P U t) {id : Nat} {ops : Array Oper} {ρ : Env} {h : Heap} {K : Exit → Env → Heap → Prop} (hk : vcOps P U n ops.toList ops.toList ρ h (K .normal)) : WP P n (.region id ops false) ρ h K := by
  intro cx a h1 h2 h3
  refine wp_region_list ?_
  have := vcOps_sound (K := K) hU cx ops.toList ρ h hk cx a (.refl _) h1 h2 h3
  simpa using this

theorem Rep.wf1 {c : Cx} {x : AV} {u : Value} (h : Rep c x u) : wf1 x := by
  cases x with
  | s l => exact h.s_inv.2
  | sl xs p => obtain ⟨a, cap, sz, val, _, hs⟩ := h.sl_inv; have := hs.hc; have := hs.hm; simp only [Ab.wf1]; omega
  | _ => trivial

theorem Rep.wf {c : Cx} {x : AV} {u : Value} (h : Rep c x u) : wfA x := by
  cases x with
  | agg cs =>
    obtain ⟨vs, _, _, hr, _⟩ := h.agg_inv
    intro x hx
    obtain ⟨i, hi, rfl⟩ := List.mem_iff_getElem.1 hx
    exact (hr i hi).wf1
  | pe y off =>
    obtain ⟨b, o, val, _, _, _, hr, _⟩ := h.pe_inv
    intro x hx
    obtain ⟨i, hi, rfl⟩ := List.mem_iff_getElem.1 hx
    exact (hr i hi).wf1
  | _ => exact h.wf1

theorem EnvSat.wf {c : Cx} {ρ : Env} {a : Act} (h : EnvSat c n ρ a) : Wf ρ := fun t x hx => (h.rep t x hx).wf

theorem lk_learn {ρ : Env} {d : Nat} {x : AV} (hd : lk ρ d = some x) : lk ((d, x) :: ρ) = lk ρ := by
  funext t
  simp only [lk]
  split
  · rename_i e; subst e; exact hd.symm
  · rfl

theorem vcDr_dList (hU : ∀ t, AgreeT P U t) {all : List Oper} {h : Heap} {K : Env → Prop} : ∀ (l : List Oper) (ρ : Env), vcDr P U n all l ρ h K → dList P all.toArray h (fun F => ∃ ρ, lk ρ = F ∧ K ρ) l (lk ρ)
  | [], ρ, hk => ⟨ρ, rfl, hk⟩
  | o :: os, ρ, hk => by
    obtain ⟨hd, hk⟩ := hk
    have yes : ∀ ρ', wantedF all.toArray (lk ρ) o = some true → lk ρ' = lk ρ → (vcD1 P U ρ' h o fun X => vcDr P U n all os (put ρ' o.dst X) h K) → dStep P all.toArray h o (dList P all.toArray h (fun F => ∃ ρ, lk ρ = F ∧ K ρ) os) (lk ρ) := by
      intro ρ' hw hl hv
      obtain ⟨X, hQ, hX⟩ := vcD1_sound hU hv
      have := vcDr_dList hU os _ hQ
      rw [lk_put, hl] at this
      rw [hl] at hX
      exact .inl ⟨hw, X, hX, this⟩
    have no : ∀ ρ', wantedF all.toArray (lk ρ) o = some false → lk ρ' = lk ρ → vcDr P U n all os (put ρ' o.dst (.v undef)) h K → dStep P all.toArray h o (dList P all.toArray h (fun F => ∃ ρ, lk ρ = F ∧ K ρ) os) (lk ρ) := by
      intro ρ' hw hl hv
      have := vcDr_dList hU os _ hv
      rw [lk_put, hl] at this
      exact .inr ⟨hw, this⟩
    unfold guardA at hk
    split at hk
    · rename_i hg
      exact yes ρ (by simp [wantedF, hg]) rfl hk
    · rename_i g want hg
      split at hk
      · rename_i d hd'
        have hd2 : ((all.toArray)[g]?).bind (·.dst) = some d := by simpa [dstAt] using hd'
        split at hk
        · rename_i t ht
          have hw : wantedF all.toArray (lk ρ) o = some (t == want) := by
            unfold wantedF
            simp only [hg]
            rw [hd2]
            simp only [ht]
          by_cases e : t = want
          · exact yes _ (by rw [hw, e]; simp) (lk_learn (by rw [ht, e])) (hk.1 e)
          · have e' : t = !want := by cases t <;> cases want <;> simp_all
            exact no _ (by rw [hw]; simp [e]) (lk_learn (by rw [ht, e'])) (hk.2 e')
        · rename_i vs ht
          refine no ρ ?_ rfl hk
          unfold wantedF
          simp only [hg]
          rw [hd2]
          simp only [ht]
        · exact hk.elim
      · exact hk.elim

/-- A region that draws. -/
theorem WP.draw (hU : ∀ t, AgreeT P U t) (hm : P.follows .mixedOrders = true) {id : Nat} {ops : Array Oper} {ρ : Env} {h : Heap} {K : Exit → Env → Heap → Prop} (hdst : ∀ o ∈ ops.toList, dstOK n o.dst = true) (hB : lexOK ops = true)
    (hk : vcDr P U n ops.toList ops.toList ρ h (fun ρ => K .normal ρ h)) : WP P n (.region id ops true) ρ h K := by
  intro cx a h1 h2 h3
  have hd := vcDr_dList hU ops.toList ρ hk
  have hd2 := dAny_lex (md := .any) (ops := ops) ops.toList 0 (Array.replicate ops.size false) (lk ρ) (by simp) (by simpa [lexOK] using hB) (by simpa using hd)
  refine wp_region_any hm ?_
  have hE : Ext cx { cx with w := { cx.w with drawn := cx.w.drawn + 1 } } := Ext.draw rfl rfl rfl rfl
  have := dAny_sound (n := n) (Q' := WPK n K cx) (c0 := cx) hdst (fun c F a hE hs g he hQ => by
    obtain ⟨ρ', rfl, hK⟩ := hQ
    exact ⟨c, ρ', h, rfl, g, hE, ⟨he.1, he.2.1, he.2.2⟩, hs, hK⟩) _ _ { cx with w := { cx.w with drawn := cx.w.drawn + 1 } } (lk ρ) a hE h1 (h2.draw rfl rfl rfl rfl)
    ⟨h3.size, h3.defers, fun t x hx => (h3.rep t x hx).mono hE⟩ hd2
  simpa using this

/-- A region that draws, some operations of which change memory. -/
theorem WP.drawH (hU : ∀ t, AgreeT P U t) (hm : P.follows .mixedOrders = true) {id : Nat} {ops : Array Oper} {ρ : Env} {h hl : Heap} {K : Exit → Env → Heap → Prop} {l : List Nat} (hdst : ∀ o ∈ ops.toList, dstOK n o.dst = true) (hsub : Sub hl h)
    (hB : orderOK .any ops l (Array.replicate ops.size false) = true) (hlen : l.length = ops.size)
    (hk : vcDrH P U n ops.toList hl l ρ h (K .normal)) : WP P n (.region id ops true) ρ h K := by
  intro cx a h1 h2 h3
  have hd := vcDrH_hList hU l ρ h hk
  rw [Array.toArray_toList] at hd
  have hd2 := hAny_order (md := .any) l (Array.replicate ops.size false) (lk ρ) h hB hd
  refine wp_region_any hm ?_
  have hE : Ext cx { cx with w := { cx.w with drawn := cx.w.drawn + 1 } } := Ext.draw rfl rfl rfl rfl
  have := hAny_sound (n := n) (Q' := WPK n K cx) (c0 := cx) hdst (fun c F h a hE hs g he hQ => by
    obtain ⟨ρ', rfl, hK⟩ := hQ
    exact ⟨c, ρ', h, rfl, g, hE, ⟨he.1, he.2.1, he.2.2⟩, hs, hK⟩) _ _ { cx with w := { cx.w with drawn := cx.w.drawn + 1 } } (lk ρ) h a hE h1 (fun i k hi => h1 _ _ (hsub _ _ hi)) (h2.draw rfl rfl rfl rfl)
    ⟨h3.size, h3.defers, fun t x hx => (h3.rep t x hx).mono hE⟩ hd2
  rw [hlen] at this
  simpa using this

theorem lastS_spec : ∀ {l : List Oper}, lastS l = true → ∃ o, l.getLast? = some o ∧ o.guard = none
  | [o], h => ⟨o, rfl, by simp only [lastS, Bool.and_eq_true] at h; simpa using h.2⟩
  | _ :: b :: r, h => by
    obtain ⟨o, h1, h2⟩ := lastS_spec (l := b :: r) h
    exact ⟨o, by rw [List.getLast?_cons_cons]; exact h1, h2⟩

/-- .. and the last of which waits for all the others. -/
theorem WP.drawZ (hU : ∀ t, AgreeT P U t) (hm : P.follows .mixedOrders = true) {id : Nat} {ops : Array Oper} {ρ : Env} {h hl : Heap} {K : Exit → Env → Heap → Prop} {l : List Nat} (hdst : ∀ o ∈ ops.toList, dstOK n o.dst = true) (hsub : Sub hl h)
    (hz : zOKt .any ops l.length = true) (hg : (ops.toList.getLast?.map fun o => o.guard.isNone) = some true) (hB : orderE .any ops l.length l (Array.replicate ops.size false) = true) (hlen : l.length + 1 = ops.size)
    (hk : vcDrH P U n ops.toList hl l ρ h (fun ρ h => lastK P U ops.toList h (K .normal) ρ)) : WP P n (.region id ops true) ρ h K := by
  intro cx a h1 h2 h3
  obtain ⟨oz, hoz, hgz⟩ := Option.map_eq_some_iff.1 hg
  have hgz : oz.guard = none := by simpa using hgz
  have hzz : ops[l.length]? = some oz := by
    rw [List.getLast?_eq_getElem?] at hoz
    rw [show l.length = ops.size - 1 by omega]
    simpa using hoz
  have hd := vcDrH_hList hU l ρ h hk
  rw [Array.toArray_toList] at hd
  have hd2 := hAnyE_order (md := .any) hz l (Array.replicate ops.size false) (lk ρ) h (.none _ _ _) hB hd
  refine wp_region_any hm ?_
  have hE : Ext cx { cx with w := { cx.w with drawn := cx.w.drawn + 1 } } := Ext.draw rfl rfl rfl rfl
  have := hAnyE_sound (n := n) (Q' := WPK n K cx) (c0 := cx) hdst (fun c F h a hE hs g he hQ => by
    obtain ⟨ρ', rfl, hK⟩ := hQ
    unfold lastK at hK
    rw [hoz] at hK
    simp only at hK
    have he' : EnvSat c n ρ' a := ⟨he.1, he.2.1, he.2.2⟩
    have hdz : dstOK n oz.dst = true := hdst oz (by simpa using Array.mem_of_getElem? hzz)
    have hu := vcOp_sound hU hK hs g he'
    unfold wpOp
    rw [hzz]
    simp only
    rw [if_pos (by simp [Region.wanted, hgz])]
    left
    have next : ∀ u w', Comes1 c (fun X h' => K .normal (put ρ' oz.dst X) h') u w' → WPK n K cx .normal (a.put oz.dst u) w' := by
      rintro u w' ⟨c', x, h', rfl, g', hE', hr, hs', hK⟩
      exact ⟨c', _, h', rfl, g', hE.trans hE', (he'.mono hE').put hdz hr, hs', hK⟩
    unfold Oper.wp
    generalize (execOp a.eval oz).run P c.w = r at hu
    cases r with
    | ok nx w' =>
      cases nx <;> simp only [Upon1] at hu <;> simp only [Oper.upon]
      case value u => exact next u w' hu
      case skip => exact next undef w' hu
      case enter f args =>
        obtain ⟨rfl, hc⟩ := hu
        exact hc.mono fun e w'' ⟨u, he, hcm⟩ => by subst he; exact next u w'' hcm
    | halt x w' => exact hu.elim) _ _ { cx with w := { cx.w with drawn := cx.w.drawn + 1 } } (lk ρ) h a hE h1 (fun i k hi => h1 _ _ (hsub _ _ hi)) (h2.draw rfl rfl rfl rfl)
    ⟨h3.size, h3.defers, fun t x hx => (h3.rep t x hx).mono hE⟩ hd2
  rw [hlen] at this
  exact this

/-- A region that draws, its last operation a store. -/
theorem WP.drawS (hU : ∀ t, AgreeT P U t) (hm : P.follows .mixedOrders = true) {id : Nat} {ops : Array Oper} {ρ : Env} {h : Heap} {K : Exit → Env → Heap → Prop} (hdst : ∀ o ∈ ops.toList, dstOK n o.dst = true) (hl : lastS ops.toList = true) (hB : lexS ops = true)
    (hk : vcDr P U n ops.toList ops.toList.dropLast ρ h (lastK P U ops.toList h (K .normal))) : WP P n (.region id ops true) ρ h K := by
  obtain ⟨oz, hoz, hgz⟩ := lastS_spec hl
  intro cx a h1 h2 h3
  unfold lexS at hB
  rw [Bool.and_eq_true] at hB
  have hd := vcDr_dList hU ops.toList.dropLast ρ hk
  have hpos : 0 < ops.size := by
    rcases Nat.eq_zero_or_pos ops.size with e | e
    · have : ops.toList = [] := by simpa using Array.eq_empty_of_size_eq_zero e
      rw [this] at hoz; cases hoz
    · exact e
  have hz : ops[ops.size - 1]? = some oz := by
    rw [List.getLast?_eq_getElem?] at hoz
    simpa using hoz
  have hlen : ops.toList.dropLast.length = ops.size - 1 := by simp
  have hd2 := dAnyE_lex (md := .any) (ops := ops) hB.1 ops.toList.dropLast 0 (Array.replicate ops.size false) (lk ρ) (fun j hj => by
    rw [List.getElem?_dropLast]
    simp at hj
    simp [hj]) (by rw [hlen]; exact hB.2) (by simpa using hd)
  refine wp_region_any hm ?_
  have hE : Ext cx { cx with w := { cx.w with drawn := cx.w.drawn + 1 } } := Ext.draw rfl rfl rfl rfl
  have := dAnyE_sound (n := n) (Q' := WPK n K cx) (c0 := cx) hdst (fun c F a hE hs g he hQ => by
    obtain ⟨ρ', rfl, hK⟩ := hQ
    unfold lastK at hK
    rw [hoz] at hK
    simp only at hK
    have he' : EnvSat c n ρ' a := ⟨he.1, he.2.1, he.2.2⟩
    have hdz : dstOK n oz.dst = true := hdst oz (by simpa using Array.mem_of_getElem? hz)
    have hu := vcOp_sound hU hK hs g he'
    unfold wpOp
    rw [hz]
    simp only
    rw [if_pos (by simp [Region.wanted, hgz])]
    left
    have next : ∀ u w', Comes1 c (fun X h' => K .normal (put ρ' oz.dst X) h') u w' → WPK n K cx .normal (a.put oz.dst u) w' := by
      rintro u w' ⟨c', x, h', rfl, g', hE', hr, hs', hK⟩
      exact ⟨c', _, h', rfl, g', hE.trans hE', (he'.mono hE').put hdz hr, hs', hK⟩
    unfold Oper.wp
    generalize (execOp a.eval oz).run P c.w = r at hu
    cases r with
    | ok nx w' =>
      cases nx <;> simp only [Upon1] at hu <;> simp only [Oper.upon]
      case value u => exact next u w' hu
      case skip => exact next undef w' hu
      case enter f args =>
        obtain ⟨rfl, hc⟩ := hu
        exact hc.mono fun e w'' ⟨u, he, hcm⟩ => by subst he; exact next u w'' hcm
    | halt x w' => exact hu.elim) _ _ { cx with w := { cx.w with drawn := cx.w.drawn + 1 } } (lk ρ) a hE h1 (h2.draw rfl rfl rfl rfl)
    ⟨h3.size, h3.defers, fun t x hx => (h3.rep t x hx).mono hE⟩ hd2
  rw [hlen, Nat.sub_add_cancel hpos] at this
  exact this

/-- CODE. -/
theorem vcCode_sound (hU : ∀ t, AgreeT P U t) (hm : P.follows .mixedOrders = true) : ∀ (c : Code) (ρ : Env) (h : Heap) (K : Exit → Env → Heap → Prop), vcCode P U n c ρ h K → WP P n c ρ h K
  | .skip, ρ, h, K, hk => fun cx a h1 h2 h3 => wp_skip ⟨cx, ρ, h, rfl, h2, .refl _, h3, h1, hk⟩
  | .region id ops draw, ρ, h, K, hk => by
    simp only [vcCode] at hk
    cases draw with
    | true =>
      simp only [if_true] at hk
      split at hk
      · rename_i hl
        obtain ⟨hb, hk⟩ := hk
        rw [Bool.and_eq_true, List.all_eq_true] at hb
        rw [Bool.and_eq_true] at hl
        exact WP.drawS hU hm hb.2 hl.1 hb.1 hk
      · split at hk
        · obtain ⟨hb, hk⟩ := hk
          rw [List.all_eq_true] at hb
          rcases hk with ⟨h1, hk⟩ | ⟨hm', l, h1, h2, h3, hk⟩ | ⟨hm', l, h1, h2, h4, h5, h6, hk⟩
          · exact WP.draw hU hm hb h1 hk
          · exact WP.drawH hU hm hb h1 h2 h3 hk
          · exact WP.drawZ hU hm hb h1 h2 h4 h5 h6 hk
        · obtain ⟨hb, hk⟩ := hk
          rw [Bool.and_eq_true, List.all_eq_true] at hb
          exact WP.draw hU hm hb.2 hb.1 hk
    | false => exact WP.ops hU (by simpa using hk)
  | .seq a b, ρ, h, K, hk => by
    simp only [vcCode] at hk
    refine WP.seq ((vcCode_sound hU hm a ρ h _ hk).weaken fun e ρ' h' hh => ?_)
    cases e with
    | normal => exact vcCode_sound hU hm b ρ' h' K hh
    | _ => exact hh
  | .cond c a b, ρ, h, K, hk => by
    simp only [vcCode] at hk
    obtain ⟨y, hy, hk⟩ := withv_elim hk
    split at hk
    · rename_i t
      intro cx ac h1 h2 h3
      have hv := (ev_rep h3 hy).v_inv
      exact wp_cond_split hv (fun e => vcCode_sound hU hm a ρ h K (hk.1 e) cx ac h1 h2 h3) (fun e => vcCode_sound hU hm b ρ h K (hk.2 e) cx ac h1 h2 h3)
    · exact hk.elim
  | .block id c, ρ, h, K, hk => WP.block (vcCode_sound hU hm c ρ h _ (by simpa only [vcCode] using hk))
  | .loop c, ρ, h, K, hk => by
    simp only [vcCode] at hk
    intro cx a h1 h2 h3
    obtain ⟨I, m, h0, hr⟩ := hk h3.wf
    exact WP.loop I m h0 (fun m ρ h hI => vcCode_sound hU hm c ρ h _ (hr m ρ h hI)) cx a h1 h2 h3
  | .exit id, ρ, h, K, hk => fun cx a h1 h2 h3 => wp_exit ⟨cx, ρ, h, rfl, h2, .refl _, h3, h1, by simpa only [vcCode] using hk⟩
  | .ret, ρ, h, K, hk => fun cx a h1 h2 h3 => wp_ret ⟨cx, ρ, h, rfl, h2, .refl _, h3, h1, by simpa only [vcCode] using hk⟩
  | .label l, ρ, h, K, hk => fun cx a h1 h2 h3 => wp_label ⟨cx, ρ, h, rfl, h2, .refl _, h3, h1, by simpa only [vcCode] using hk⟩
  | .goto l, ρ, h, K, hk => fun cx a h1 h2 h3 => wp_goto ⟨cx, ρ, h, rfl, h2, .refl _, h3, h1, by simpa only [vcCode] using hk⟩
  | .rangeFunc .., _, _, _, hk => by simp [vcCode] at hk
  | .scope _, _, _, _, hk => by simp [vcCode] at hk
  | .refuse _, _, _, _, hk => by simp [vcCode] at hk

/-- The results of a function, out of its slots. -/
def resA (ρ : Env) (h : Heap) (U : TypeId → TI) : List ResultVar → (List AV → Prop) → Prop
  | [], k => k []
  | .tmp t :: r, k => match lk ρ t with
    | some x => resA ρ h U r fun xs => k (x :: xs)
    | none => False
  | .cell t ty :: r, k => match lk ρ t with
    | some (.ptr id off) => match h id with
      | some (.obj cs _) => (U ty).sz ≠ 0 ∧ (U ty).k ≠ .other ∧ partA cs off (U ty) fun x => resA ρ h U r fun xs => k (x :: xs)
      | _ => False
    | _ => False

def oneOr (xs : List AV) : AV := match xs with
  | [x] => x
  | xs => .tup xs

/-- Less is known of the room behind slices. -/
inductive Weak : AV → AV → Prop where
  | refl (x : AV) : Weak x x
  | sl (xs : List AV) (p : Perm) : Weak (.sl xs p) (.sl xs .no)
  | agg (xs ys : List AV) (hl : xs.length = ys.length) (h : ∀ i (h1 : i < xs.length) (h2 : i < ys.length), Weak xs[i] ys[i]) : Weak (.agg xs) (.agg ys)
  | tup (xs ys : List AV) (hl : xs.length = ys.length) (h : ∀ i (h1 : i < xs.length) (h2 : i < ys.length), Weak xs[i] ys[i]) : Weak (.tup xs) (.tup ys)

theorem Rep.weak {c : Cx} {x y : AV} (hw : Weak x y) : ∀ {u : Value}, Rep c x u → Rep c y u := by
  induction hw with
  | refl x => exact id
  | sl xs p =>
    intro u h
    obtain ⟨a, cap, sz, val, rfl, hs⟩ := h.sl_inv
    exact .sl xs .no a cap sz val hs.hc hs.hm hs.h0 hs.hs hs.hz hs.hf hs.hr hs.ho trivial
  | agg xs ys hl h ih =>
    intro u hu
    obtain ⟨vs, rfl, h1, h2, h3⟩ := hu.agg_inv
    exact .agg ys vs (by omega) (fun i hi => ih i (by omega) hi (h2 i (by omega))) (fun i hi => h3 i (by omega))
  | tup xs ys hl h ih =>
    intro u hu
    obtain ⟨vs, rfl, h1, h2⟩ := hu.tup_inv
    exact .tup ys vs (by omega) (fun i hi => ih i (by omega) hi (h2 i (by omega)))

theorem FnOK.weak {f : FuncId} {args args' : List AV} {h : Heap} {Q : AV → Heap → Prop} (hf : FnOK P f args' h Q) (hl : args.length = args'.length) (hw : ∀ i (h1 : i < args.length) (h2 : i < args'.length), Weak args[i] args'[i]) : FnOK P f args h Q :=
  ⟨hf.1, fun c vs h1 h2 h3 h4 => hf.2 c vs h1 h2 (by omega) fun i hi => (h4 i (by omega)).weak (hw i (by omega) hi)⟩

theorem resA_sound (hU : ∀ t, AgreeT P U t) {c : Cx} {ρ : Env} {h : Heap} {a : Act} (hs : Sub h c.h) (g : Good c) (he : EnvSat c n ρ a) : ∀ (rs : List ResultVar) (k : List AV → Prop), resA ρ h U rs k →
    ∃ (xs : List AV) (vs : List Value), k xs ∧ vs.length = xs.length ∧ (∀ i (h1 : i < xs.length) (h2 : i < vs.length), Rep c xs[i] vs[i]) ∧
      (rs.mapM fun (r : ResultVar) => match r with | .tmp t => (pure (a.tmps.getD t undef) : Sem Value) | .cell q t => do loadVar t (← asAddr (a.tmps.getD q undef))).run P c.w = .ok vs c.w
  | [], k, hk => ⟨[], [], hk, rfl, fun i h => (by cases h), by simp⟩
  | .tmp t :: r, k, hk => by
    simp only [resA] at hk
    split at hk
    · rename_i x hx
      obtain ⟨xs, vs, h1, h2, h3, h4⟩ := resA_sound hU hs g he r _ hk
      refine ⟨x :: xs, a.tmps.getD t undef :: vs, h1, by simp [h2], fun i hi1 hi2 => ?_, ?_⟩
      · cases i with
        | zero => exact he.rep _ _ hx
        | succ i => exact h3 i (by simpa using hi1) (by simpa using hi2)
      · simp only [List.mapM_cons, Sem.run_bind, Sem.run_pure, Result.andThen_ok, h4]
    · exact hk.elim
  | .cell t ty :: r, k, hk => by
    simp only [resA] at hk
    split at hk
    · rename_i id off hx
      split at hk
      · rename_i cs t' hid
        obtain ⟨hz, ht, hk⟩ := hk
        obtain ⟨x, hk, hX⟩ := partA_load (P := P) hU hz ht hk
        obtain ⟨xs, vs, h1, h2, h3, h4⟩ := resA_sound hU hs g he r _ hk
        obtain ⟨hu, _⟩ := (he.rep _ _ hx).ptr_inv
        obtain ⟨us, u1, u2, u3⟩ := g.obj id cs t' (hs _ _ hid)
        obtain ⟨v, v1, v2⟩ := hX c (c.φ id).block 0 (fun j => us.getD j undef) (fun j hj => by
          have : j < us.size := by omega
          simp [World.cell?, u1, this]) (fun j hj => (u3 j hj).1) (fun j hj => (u3 j hj).2)
        rw [Nat.zero_add] at v1
        refine ⟨x :: xs, v :: vs, h1, by simp [h2], fun i hi1 hi2 => ?_, ?_⟩
        · cases i with
          | zero => exact v2
          | succ i => exact h3 i (by simpa using hi1) (by simpa using hi2)
        · have ha : (asAddr (a.tmps.getD t undef)).run P c.w = .ok ⟨(c.φ id).block, off, none⟩ c.w := by rw [hu]; rfl
          simp only [List.mapM_cons, Sem.run_bind, ha, Sem.run_pure, Result.andThen_ok, v1, h4]
      · exact hk.elim
    · exact hk.elim

def envOf (args : List AV) : Env := args.zipIdx.map fun p => (p.2, p.1)

theorem lk_envOf : ∀ (args : List AV) (k t : Nat), lk ((args.zipIdx k).map fun p => (p.2, p.1)) t = if k ≤ t then args[t - k]? else none
  | [], k, t => by simp [lk]
  | x :: r, k, t => by
    have ih := lk_envOf r (k + 1) t
    simp only [List.zipIdx_cons, List.map_cons, lk, ih]
    by_cases e : k = t
    · subst e; simp
    · rw [if_neg e]
      by_cases h : k ≤ t
      · rw [if_pos (by omega), if_pos h]
        rw [show t - k = (t - (k + 1)) + 1 by omega]
        rfl
      · rw [if_neg (by omega), if_neg h]

/-- What a function's body must come to. -/
def bodyK (U : TypeId → TI) (rs : List ResultVar) (Q : AV → Heap → Prop) (e : Exit) (ρ : Env) (h : Heap) : Prop :=
  (match e with | .ret | .normal => True | _ => False) ∧ resA ρ h U rs fun xs => ∃ y h', Weak (oneOr xs) y ∧ Sub h' h ∧ Q y h'

/-- A CONTRACT OUT OF THE BODY. -/
theorem FnOK.of_wp0 (hU : ∀ t, AgreeT P U t) {f : FuncId} {fn : Func} {c : Code} {args : List AV} {h : Heap} {Q : AV → Heap → Prop} (hf : P.funcs[f]? = some fn) (hb : fn.body = some c)
    (hn : (fn.name == "runtime.NumGoroutine") = false) (hl : args.length ≤ fn.ntmps)
    (hk : (∀ x ∈ args, wfA x) → WP P fn.ntmps c (envOf args) h (bodyK U fn.results.toList Q)) : FnOK P f args h Q := by
  refine ⟨⟨fn, hf, hn, by rw [hb]; rfl⟩, fun cx vs hs g hv hr => calls_of_wp hf hb ?_⟩
  have hwf : ∀ x ∈ args, wfA x := fun x hx => by
    obtain ⟨i, hi, rfl⟩ := List.mem_iff_getElem.1 hx
    exact (hr i hi).wf
  have hw := hk hwf
  have he : EnvSat cx fn.ntmps (envOf args) { tmps := vs ++ Array.replicate (fn.ntmps - vs.size) undef, defers := [] } := by
    refine ⟨by simp; omega, rfl, fun t x hx => ?_⟩
    have := lk_envOf args 0 t
    simp only [Nat.zero_le, if_true, Nat.sub_zero] at this
    have e : lk (envOf args) t = args[t]? := this
    rw [e] at hx
    obtain ⟨hi, rfl⟩ := List.getElem?_eq_some_iff.1 hx
    have h1 := hr t hi
    have h2 : t < vs.size := by omega
    have e2 : (vs ++ Array.replicate (fn.ntmps - vs.size) undef).getD t undef = vs.getD t undef := by
      rw [Array.getD, dif_pos (by simp; omega), Array.getD, dif_pos h2]
      exact Array.getElem_append_left h2
    simp only [e2]
    exact h1
  refine wp_mono (hw cx _ hs g he) fun e a w hq => ?_
  obtain ⟨c', ρ', h', rfl, g', hE, he', hs', hk1, hk2⟩ := hq
  obtain ⟨xs, us, ⟨y, h'', hwk, hsub, hQ⟩, hl', hr', hrun⟩ := resA_sound hU hs' g' he' _ _ hk2
  have hres : ∃ u, (results fn a.tmps).run P c'.w = .ok u c'.w ∧ Rep c' (oneOr xs) u := by
    have hrun' : (fn.results.mapM fun (r : ResultVar) => match r with | .tmp t => (pure (a.tmps.getD t undef) : Sem Value) | .cell q t => do loadVar t (← asAddr (a.tmps.getD q undef))).run P c'.w = .ok us.toArray c'.w := by
      rw [Array.mapM_eq_mapM_toList, Sem.run_map, hrun]; rfl
    have hres0 : (results fn a.tmps).run P c'.w = .ok (if h : us.toArray.size = 1 then us.toArray[0] else .tuple us.toArray) c'.w := by
      have e0 : results fn a.tmps = (fn.results.mapM fun (r : ResultVar) => match r with | .tmp t => (pure (a.tmps.getD t undef) : Sem Value) | .cell q t => do loadVar t (← asAddr (a.tmps.getD q undef))) >>= fun vs => pure (if h : vs.size = 1 then vs[0] else .tuple vs) := rfl
      rw [e0, Sem.run_bind, hrun']
      rfl
    by_cases h1 : us.length = 1
    · obtain ⟨u, rfl⟩ := List.length_eq_one_iff.1 h1
      obtain ⟨x, rfl⟩ := List.length_eq_one_iff.1 (hl'.symm.trans h1)
      refine ⟨u, ?_, hr' 0 (by simp) (by simp)⟩
      rw [hres0]
      simp
    · refine ⟨.tuple us.toArray, ?_, ?_⟩
      · rw [hres0]
        simp [h1]
      · have : oneOr xs = .tup xs := by
          cases xs with
          | nil => rfl
          | cons x r => cases r with
            | nil => exact (h1 (by simpa using hl')).elim
            | cons y q => rfl
        rw [this]
        refine .tup xs _ (by simp [hl']) fun i hi => ?_
        have := hr' i hi (by omega)
        simpa [show i < us.length by omega] using this
  obtain ⟨u, hu1, hu2⟩ := hres
  have fin : a.defers = [] ∧ ∃ v, (results fn a.tmps).run P c'.w = .ok v c'.w ∧ ∃ u, Ending.returned v = .returned u ∧ Comes1 cx Q u c'.w :=
    ⟨he'.defers, u, hu1, u, rfl, c', y, h'', rfl, g', hE, hu2.weak hwk, fun id k hk => hs' _ _ (hsub _ _ hk), hQ⟩
  cases e with
  | normal => exact fin
  | ret => exact fin
  | _ => exact hk1.elim

theorem FnOK.of_vc (hU : ∀ t, AgreeT P U t) (hm : P.follows .mixedOrders = true) {f : FuncId} {fn : Func} {c : Code} {args : List AV} {h : Heap} {Q : AV → Heap → Prop} (hf : P.funcs[f]? = some fn) (hb : fn.body = some c)
    (hn : (fn.name == "runtime.NumGoroutine") = false) (hl : args.length ≤ fn.ntmps)
    (hk : (∀ x ∈ args, wfA x) → vcCode P U fn.ntmps c (envOf args) h (bodyK U fn.results.toList Q)) : FnOK P f args h Q :=
  FnOK.of_wp0 hU hf hb hn hl fun hw => vcCode_sound hU hm c _ h _ (hk hw)

end
end Go.Ab

/- A table of types is as the program's own, asked by a Bool; small facts for the use of all this. -/
set_option linter.unusedSimpArgs false
set_option linter.unusedVariables false
namespace Go.Ab
open Go

def zeroB1 : AV → Value → Bool
  | .v (.int k n), .int k' m => decide (k = k') && decide (n = m)
  | .v (.bool a), .bool b => a == b
  | .s [], .string b => b.data.toList.isEmpty
  | .sl [] .full, .slice none 0 0 => true
  | .v (.pointer none), .pointer none => true
  | .v .nilIface, .nilIface => true
  | .v .nilFunc, .nilFunc => true
  | .v (.map none), .map none => true
  | .v (.complex k a b), .complex k' a' b' => decide (k = k') && a == a' && b == b'
  | _, _ => false

theorem zeroB1_rep {x : AV} {v : Value} (h : zeroB1 x v = true) (c : Cx) : Rep c x v ∧ v.oneCell' = true := by
  unfold zeroB1 at h
  split at h
  · simp at h; obtain ⟨rfl, rfl⟩ := h; exact ⟨.v _, rfl⟩
  · simp at h; subst h; exact ⟨.v _, rfl⟩
  · rename_i b
    have e : b = ⟨([] : List UInt8).toArray⟩ := by
      apply ByteArray.ext
      simpa using h
    subst e
    exact ⟨.s [] (by decide), rfl⟩
  · exact ⟨rep_ofV1 c (.slice none 0 0), rfl⟩
  · exact ⟨.v _, rfl⟩
  · exact ⟨.v _, rfl⟩
  · exact ⟨.v _, rfl⟩
  · exact ⟨.v _, rfl⟩
  · simp at h; obtain ⟨⟨rfl, rfl⟩, rfl⟩ := h; exact ⟨.v _, rfl⟩
  · cases h

def zeroBs : List AV → List Value → Bool
  | [], [] => true
  | x :: xs, v :: vs => zeroB1 x v && zeroBs xs vs
  | _, _ => false

theorem zeroBs_spec : ∀ {xs : List AV} {vs : List Value}, zeroBs xs vs = true → xs.length = vs.length ∧ ∀ i (h1 : i < xs.length) (h2 : i < vs.length), zeroB1 xs[i] vs[i] = true
  | [], [], _ => ⟨rfl, fun i h => (by cases h)⟩
  | x :: xs, v :: vs, h => by
    simp only [zeroBs, Bool.and_eq_true] at h
    obtain ⟨h1, h2⟩ := zeroBs_spec h.2
    refine ⟨by simp [h1], fun i a b => ?_⟩
    cases i with
    | zero => exact h.1
    | succ i => exact h2 i (by simpa using a) (by simpa using b)
  | [], _ :: _, h => by simp [zeroBs] at h
  | _ :: _, [], h => by simp [zeroBs] at h

def zeroB : AV → Value → Bool
  | .agg xs, .agg vs => zeroBs xs vs.toList
  | x, v => zeroB1 x v

theorem zeroB_rep {x : AV} {v : Value} (h : zeroB x v = true) (c : Cx) : Rep c x v := by
  unfold zeroB at h
  split at h
  · rename_i xs vs
    obtain ⟨h1, h2⟩ := zeroBs_spec h
    have hl : vs.size = xs.length := by simpa using h1.symm
    refine .agg xs vs hl (fun i hi => ?_) (fun i hi => ?_)
    · have := (zeroB1_rep (h2 i hi (by simp; omega)) c).1
      simpa [show i < vs.size by omega] using this
    · have := (zeroB1_rep (h2 i hi (by simp; omega)) c).2
      simpa [show i < vs.size by omega] using this
  · exact (zeroB1_rep h c).1

def descB (P : Program) (U : TypeId → TI) (t : TypeId) : Bool :=
  match (U t).k, P.underlying t with
  | .int k, some (.int k') => decide (k' = k)
  | .bool, some .bool => true
  | .str, some .string => true
  | .slice e, some (.slice e') => decide (e' = e)
  | .strct fs, some (.struct fields) => decide (fields.toList.map (fun f => (f.offset, f.type)) = fs) && fs.all fun p => (U p.2).sz != 0
  | .ptr e, some (.pointer e') => decide (e' = e)
  | .arr n e, some (.array n' e') => decide (n' = n) && decide (e' = e)
  | .iface, some (.interface _) => true
  | .cplx k, some (.complex k') => decide (k' = k)
  | .other, _ => true
  | _, _ => false

def infoB (P : Program) (U : TypeId → TI) (t : TypeId) : Bool :=
  (U t).sz == 0 || match P.info? t with
    | some i => i.size == (U t).sz && i.bytes == (U t).bytes && match i.zero with
      | some z => z.cells.size == (U t).sz && zeroB (U t).zero z
      | none => false
    | none => false

theorem agree_of {P : Program} {U : TypeId → TI} {t : TypeId} (h1 : descB P U t = true) (h2 : infoB P U t = true) : AgreeT P U t := by
  refine ⟨?_, fun hz => ?_⟩
  · unfold descB at h1
    split at h1
    · rename_i k k' hk hu; rw [hk]; rw [hu]; simp at h1; rw [h1]
    · rename_i hk hu; rw [hk]; exact hu
    · rename_i hk hu; rw [hk]; exact hu
    · rename_i e e' hk hu; rw [hk]; rw [hu]; simp at h1; rw [h1]
    · rename_i fs fields hk hu
      rw [hk]
      rw [Bool.and_eq_true, List.all_eq_true] at h1
      exact ⟨fields, hu, of_decide_eq_true h1.1, fun p hp => by simpa using h1.2 p hp⟩
    · rename_i e e' hk hu; rw [hk]; rw [hu]; simp at h1; rw [h1]
    · rename_i n e n' e' hk hu; rw [hk]; rw [hu]; simp at h1; rw [h1.1, h1.2]
    · rename_i ms hk hu; rw [hk]; exact ⟨ms, hu⟩
    · rename_i k k' hk hu; rw [hk]; rw [hu]; simp at h1; rw [h1]
    · rename_i hk; rw [hk]; trivial
    · cases h1
  · unfold infoB at h2
    simp only [Bool.or_eq_true, beq_iff_eq, hz, false_or] at h2
    split at h2
    · rename_i i hi
      simp only [Bool.and_eq_true, beq_iff_eq] at h2
      obtain ⟨⟨h3, h4⟩, h5⟩ := h2
      split at h5
      · rename_i z hz'
        simp only [Bool.and_eq_true, beq_iff_eq] at h5
        exact ⟨i, hi, h3, h4, z, hz', h5.1, fun c => zeroB_rep h5.2 c⟩
      · cases h5
    · cases h2

theorem agree_all {P : Program} {U : TypeId → TI} (N : Nat) (h : (List.range N).all (fun t => descB P U t && infoB P U t) = true) (h' : ∀ t, N ≤ t → U t = ⟨.other, 0, 0, default⟩) : ∀ t, AgreeT P U t := by
  intro t
  by_cases ht : t < N
  · rw [List.all_eq_true] at h
    have := h t (by simpa using ht)
    rw [Bool.and_eq_true] at this
    exact agree_of this.1 this.2
  · have := h' t (Nat.le_of_not_lt ht)
    exact ⟨by rw [this]; trivial, fun hz => by rw [this] at hz; exact (hz rfl).elim⟩

end Go.Ab

/- The rules by which simp carries out code over abstract values. No continuation is looked into ahead of what it waits for. -/
set_option linter.unusedSimpArgs false
set_option linter.unusedVariables false
namespace Go.Ab
open Go

section
variable {P : Program} {U : TypeId → TI} {n : Nat} {ρ : Env} {h : Heap}

/-! ### What waits -/
def bindO {α : Type} (o : Option α) (k : α → Prop) : Prop := match o with
  | some y => k y
  | none => False
@[congr] theorem bindO_congr {α : Type} {o o' : Option α} {k : α → Prop} (e : o = o') : bindO o k = bindO o' k := by rw [e]
@[go_sem] theorem bindO_some {α : Type} (y : α) (k : α → Prop) : bindO (some y) k = k y := rfl
@[go_sem] theorem bindO_none {α : Type} (k : α → Prop) : bindO none k = False := rfl

/-- A test. -/
def Br (t : Bool) (A B : Prop) : Prop := (t = true → A) ∧ (t = false → B)
@[congr] theorem Br_congr {t t' : Bool} {A B : Prop} (e : t = t') : Br t A B = Br t' A B := by rw [e]
@[go_sem] theorem Br_true (A B : Prop) : Br true A B = A := by simp [Br]
@[go_sem] theorem Br_false (A B : Prop) : Br false A B = B := by simp [Br]
theorem Br.intro {t : Bool} {A B : Prop} (h1 : t = true → A) (h2 : t = false → B) : Br t A B := ⟨h1, h2⟩

/-- What comes behind, in a memory. -/
def atH (Q : AV → Heap → Prop) (h : Heap) (r : AV) : Prop := Q r h
@[go_sem ↓] theorem atH_eq (Q : AV → Heap → Prop) (h : Heap) (r : AV) : atH Q h r = Q r h := rfl

/-- By what a type is. -/
def atK (t : TK) (k : TK → Prop) : Prop := k t
@[congr] theorem atK_congr {t t' : TK} {k : TK → Prop} (e : t = t') : atK t k = atK t' k := by rw [e]
@[go_sem] theorem atK_int (x : IntKind) (k : TK → Prop) : atK (.int x) k = k (.int x) := rfl
@[go_sem] theorem atK_bool (k : TK → Prop) : atK .bool k = k .bool := rfl
@[go_sem] theorem atK_str (k : TK → Prop) : atK .str k = k .str := rfl
@[go_sem] theorem atK_slice (x : TypeId) (k : TK → Prop) : atK (.slice x) k = k (.slice x) := rfl
@[go_sem] theorem atK_strct (x : List (Nat × TypeId)) (k : TK → Prop) : atK (.strct x) k = k (.strct x) := rfl
@[go_sem] theorem atK_ptr (x : TypeId) (k : TK → Prop) : atK (.ptr x) k = k (.ptr x) := rfl
@[go_sem] theorem atK_arr (m : Nat) (x : TypeId) (k : TK → Prop) : atK (.arr m x) k = k (.arr m x) := rfl
@[go_sem] theorem atK_iface (k : TK → Prop) : atK .iface k = k .iface := rfl
@[go_sem] theorem atK_cplx (x : FloatKind) (k : TK → Prop) : atK (.cplx x) k = k (.cplx x) := rfl
@[go_sem] theorem atK_other (k : TK → Prop) : atK .other k = k .other := rfl

/-- An element's address. -/
def IdxE (xs : List AV) (m : Int) (sz : Nat) (k : AV → Prop) : Prop := Idx xs m fun b => b.cells.length = sz ∧ k (.pe b 0)
theorem IdxE.at {xs : List AV} {sz : Nat} {k : AV → Prop} (j : Nat) (hj : j < xs.length) (hz : xs[j].cells.length = sz) (hk : k (.pe xs[j] 0)) : IdxE xs (j : Int) sz k := ⟨by omega, xs[j], by simp [hj], hz, hk⟩
theorem IdxE.of {xs : List AV} {m : Int} {sz : Nat} {k : AV → Prop} (j : Nat) (hm : m = j) (hj : j < xs.length) (hz : xs[j].cells.length = sz) (hk : k (.pe xs[j] 0)) : IdxE xs m sz k := by subst hm; exact IdxE.at j hj hz hk
/-- A byte of a string. -/
def IdxB (l : List UInt8) (m : Int) (k : AV → Prop) : Prop := Idx l m fun b => k (byteA b)
theorem IdxB.at {l : List UInt8} {k : AV → Prop} (j : Nat) (hj : j < l.length) (hk : k (byteA l[j])) : IdxB l (j : Int) k := ⟨by omega, l[j], by simp [hj], hk⟩
theorem IdxB.of {l : List UInt8} {m : Int} {k : AV → Prop} (j : Nat) (hm : m = j) (hj : j < l.length) (hk : k (byteA l[j])) : IdxB l m k := by subst hm; exact IdxB.at j hj hk
@[congr] theorem FnOK_congr {f f' : FuncId} {a a' : List AV} {h h' : Heap} {Q : AV → Heap → Prop} (h0 : f = f') (h1 : a = a') (h2 : h = h') : FnOK P f a h Q = FnOK P f' a' h' Q := by rw [h0, h1, h2]

/-! ### Slots and operands -/
@[go_sem ↓] theorem lk_nil (t : Nat) : lk [] t = none := rfl
@[go_sem ↓] theorem lk_cons (k : Nat) (x : AV) (r : Env) (t : Nat) : lk ((k, x) :: r) t = if k = t then some x else lk r t := rfl
@[go_sem ↓] theorem lk_put_some (d : Nat) (x : AV) (r : Env) (t : Nat) : lk (put r (some d) x) t = if d = t then some x else lk r t := rfl
@[go_sem ↓] theorem lk_put_none (x : AV) (r : Env) (t : Nat) : lk (put r none x) t = lk r t := rfl
@[go_sem ↓] theorem lk_env0 (t : Nat) : lk (envOf []) t = none := rfl
@[go_sem ↓] theorem lk_env (args : List AV) (t : Nat) : lk (envOf args) t = args[t]? := by
  have := lk_envOf args 0 t
  simp only [Nat.zero_le, if_true, Nat.sub_zero] at this
  exact this
@[go_sem] theorem get_zero {α : Type} (x : α) (r : List α) : (x :: r)[0]? = some x := rfl
@[go_sem] theorem get_succ {α : Type} (x : α) (r : List α) (i : Nat) : (x :: r)[i + 1]? = r[i]? := by simp
@[go_sem ↓] theorem ev_tmp (t : Nat) : ev ρ (.tmp t) = lk ρ t := rfl
@[go_sem ↓] theorem ev_int (k : IntKind) (m : Int) : ev ρ (.const (.int k m)) = some (.v (.int k m)) := rfl
@[go_sem ↓] theorem ev_bool (b : Bool) : ev ρ (.const (.bool b)) = some (.v (.bool b)) := rfl
@[go_sem ↓] theorem ev_ptr (a : Option Addr) : ev ρ (.const (.pointer a)) = some (.v (.pointer a)) := rfl
@[go_sem ↓] theorem ev_nilIface : ev ρ (.const .nilIface) = some (.v .nilIface) := rfl
@[go_sem ↓] theorem ev_cplx (k : FloatKind) (a b : Nat) : ev ρ (.const (.complex k a b)) = some (.v (.complex k a b)) := rfl
@[go_sem ↓] theorem ev_nilSlice : ev ρ (.const (.slice none 0 0)) = some (.sl [] .full) := rfl
theorem ev_str_lt {l : List UInt8} (hl : l.length < 4096) : ev ρ (.const (.string ⟨l.toArray⟩)) = some (.s l) := by
  have : l.length < lim := by simp only [lim]; omega
  simp [ev, ofV, ofV1, this]
@[go_sem] theorem ev_str (l : List UInt8) (hl : decide (l.length < 4096) = true) : ev ρ (.const (.string ⟨l.toArray⟩)) = some (.s l) := ev_str_lt (of_decide_eq_true hl)
@[go_sem ↓] theorem ev_func (f : FuncId) : ev ρ (.func f) = some (.fn f []) := rfl
theorem ev_agg (l : List Value) : ev ρ (.const (.agg l.toArray)) = some (ofV (.agg l.toArray)) := rfl

def consO (x : Option AV) (r : Option (List AV)) : Option (List AV) := match x, r with
  | some y, some ys => some (y :: ys)
  | _, _ => none
@[go_sem] theorem consO_some (y : AV) (ys : List AV) : consO (some y) (some ys) = some (y :: ys) := rfl
@[go_sem ↓] theorem evs_nil : evs ρ [] = some [] := rfl
@[go_sem ↓] theorem evs_cons (x : Operand) (r : List Operand) : evs ρ (x :: r) = consO (ev ρ x) (evs ρ r) := rfl
@[go_sem ↓] theorem withv_eq (x : Operand) (k : AV → Prop) : withv ρ x k = bindO (ev ρ x) k := by unfold withv bindO; cases ev ρ x <;> rfl
@[go_sem ↓] theorem withvs_eq (xs : List Operand) (k : List AV → Prop) : withvs ρ xs k = bindO (evs ρ xs) k := by unfold withvs bindO; cases evs ρ xs <;> rfl

/-! ### Code -/
@[go_sem ↓] theorem r_skip (K : Exit → Env → Heap → Prop) : vcCode P U n .skip ρ h K = K .normal ρ h := rfl
@[go_sem ↓] theorem r_region (id : Nat) (l : List Oper) (K : Exit → Env → Heap → Prop) : vcCode P U n (.region id l.toArray false) ρ h K = vcOps P U n l l ρ h (K .normal) := rfl
/-- What comes behind the first of two pieces. -/
def KSeqC (P : Program) (U : TypeId → TI) (n : Nat) (b : Code) (K : Exit → Env → Heap → Prop) : Exit → Env → Heap → Prop := KSeq (fun ρ h => vcCode P U n b ρ h K) K
@[go_sem ↓] theorem r_seq (a b : Code) (K : Exit → Env → Heap → Prop) : vcCode P U n (.seq a b) ρ h K = vcCode P U n a ρ h (KSeqC P U n b K) := rfl
@[go_sem ↓] theorem KSeqC_normal (b : Code) (K : Exit → Env → Heap → Prop) : KSeqC P U n b K .normal ρ h = vcCode P U n b ρ h K := rfl
@[go_sem ↓] theorem KSeqC_ret (b : Code) (K : Exit → Env → Heap → Prop) : KSeqC P U n b K .ret ρ h = K .ret ρ h := rfl
@[go_sem ↓] theorem KSeqC_exit (b : Code) (K : Exit → Env → Heap → Prop) (i : Nat) : KSeqC P U n b K (.exit i) ρ h = K (.exit i) ρ h := rfl
@[go_sem ↓] theorem KSeqC_goto (b : Code) (K : Exit → Env → Heap → Prop) (i : Nat) : KSeqC P U n b K (.goto i) ρ h = K (.goto i) ρ h := rfl
/-- A test and both ways. -/
def CondC (P : Program) (U : TypeId → TI) (n : Nat) (a b : Code) (ρ : Env) (h : Heap) (K : Exit → Env → Heap → Prop) (y : AV) : Prop := match y with
  | .v (.bool t) => (t = true → vcCode P U n a ρ h K) ∧ (t = false → vcCode P U n b ρ h K)
  | _ => False
@[go_sem ↓] theorem CondC_true (a b : Code) (K : Exit → Env → Heap → Prop) : CondC P U n a b ρ h K (.v (.bool true)) = vcCode P U n a ρ h K := by simp [CondC]
@[go_sem ↓] theorem CondC_false (a b : Code) (K : Exit → Env → Heap → Prop) : CondC P U n a b ρ h K (.v (.bool false)) = vcCode P U n b ρ h K := by simp [CondC]
theorem CondC.intro {a b : Code} {K : Exit → Env → Heap → Prop} {t : Bool} (h1 : t = true → vcCode P U n a ρ h K) (h2 : t = false → vcCode P U n b ρ h K) : CondC P U n a b ρ h K (.v (.bool t)) := ⟨h1, h2⟩
theorem CondC.yes {a b : Code} {K : Exit → Env → Heap → Prop} {t : Bool} (e : t = true) (h1 : vcCode P U n a ρ h K) : CondC P U n a b ρ h K (.v (.bool t)) := ⟨fun _ => h1, fun h => absurd (e.symm.trans h) (by simp)⟩
theorem CondC.no {a b : Code} {K : Exit → Env → Heap → Prop} {t : Bool} (e : t = false) (h1 : vcCode P U n b ρ h K) : CondC P U n a b ρ h K (.v (.bool t)) := ⟨fun h => absurd (e.symm.trans h) (by simp), fun _ => h1⟩
@[go_sem ↓] theorem r_cond (c : Operand) (a b : Code) (K : Exit → Env → Heap → Prop) : vcCode P U n (.cond c a b) ρ h K = bindO (ev ρ c) (CondC P U n a b ρ h K) := by
  simp only [vcCode, withv]
  cases ev ρ c with
  | none => rfl
  | some y => cases y with
    | v x => cases x <;> rfl
    | _ => rfl
@[go_sem ↓] theorem r_block (id : Nat) (c : Code) (K : Exit → Env → Heap → Prop) : vcCode P U n (.block id c) ρ h K = vcCode P U n c ρ h (KBlock id K) := rfl
/-- A loop. -/
def LoopC (P : Program) (U : TypeId → TI) (n : Nat) (c : Code) (ρ : Env) (h : Heap) (K : Exit → Env → Heap → Prop) : Prop := LoopVC (fun ρ h K => vcCode P U n c ρ h K) ρ h K
/-- What a round must come to. -/
def KRound (I : Nat → Env → Heap → Prop) (m : Nat) (K : Exit → Env → Heap → Prop) : Exit → Env → Heap → Prop := KSeq (fun ρ' h' => ∃ m', m' < m ∧ I m' ρ' h') K
theorem KRound_normal {I : Nat → Env → Heap → Prop} {m : Nat} {K : Exit → Env → Heap → Prop} : KRound I m K .normal ρ h = ∃ m', m' < m ∧ I m' ρ h := rfl
@[go_sem ↓] theorem KRound_ret {I : Nat → Env → Heap → Prop} {m : Nat} {K : Exit → Env → Heap → Prop} : KRound I m K .ret ρ h = K .ret ρ h := rfl
@[go_sem ↓] theorem KRound_exit {I : Nat → Env → Heap → Prop} {m : Nat} {K : Exit → Env → Heap → Prop} (i : Nat) : KRound I m K (.exit i) ρ h = K (.exit i) ρ h := rfl
theorem LoopC.intro {c : Code} {K : Exit → Env → Heap → Prop} (I : Nat → Env → Heap → Prop) (m : Nat) (h0 : I m ρ h) (hr : ∀ m ρ h, I m ρ h → vcCode P U n c ρ h (KRound I m K)) : LoopC P U n c ρ h K := fun _ => ⟨I, m, h0, hr⟩
theorem LoopC.wf {c : Code} {K : Exit → Env → Heap → Prop} (hk : Wf ρ → LoopC P U n c ρ h K) : LoopC P U n c ρ h K := fun hw => hk hw hw
@[go_sem ↓] theorem r_loop (c : Code) (K : Exit → Env → Heap → Prop) : vcCode P U n (.loop c) ρ h K = LoopC P U n c ρ h K := rfl
@[go_sem ↓] theorem r_exit (id : Nat) (K : Exit → Env → Heap → Prop) : vcCode P U n (.exit id) ρ h K = K (.exit id) ρ h := rfl
@[go_sem ↓] theorem r_ret (K : Exit → Env → Heap → Prop) : vcCode P U n .ret ρ h K = K .ret ρ h := rfl
@[go_sem ↓] theorem r_label (l : Nat) (K : Exit → Env → Heap → Prop) : vcCode P U n (.label l) ρ h K = K .normal ρ h := rfl
@[go_sem ↓] theorem r_goto (l : Nat) (K : Exit → Env → Heap → Prop) : vcCode P U n (.goto l) ρ h K = K (.goto l) ρ h := rfl
@[go_sem ↓] theorem KBlock_normal (id : Nat) (K : Exit → Env → Heap → Prop) : KBlock id K .normal ρ h = K .normal ρ h := rfl
@[go_sem ↓] theorem KBlock_ret (id : Nat) (K : Exit → Env → Heap → Prop) : KBlock id K .ret ρ h = K .ret ρ h := rfl
@[go_sem ↓] theorem KBlock_goto (id : Nat) (K : Exit → Env → Heap → Prop) (i : Nat) : KBlock id K (.goto i) ρ h = K (.goto i) ρ h := rfl
@[go_sem ↓] theorem KBlock_exit (id : Nat) (K : Exit → Env → Heap → Prop) (j : Nat) : KBlock id K (.exit j) ρ h = if j = id then K .normal ρ h else K (.exit j) ρ h := rfl

/-! ### Rows of operations -/
@[go_sem ↓] theorem r_nil (all : List Oper) (K : Env → Heap → Prop) : vcOps P U n all [] ρ h K = K ρ h := rfl
/-- What comes behind an operation. -/
def KOps (P : Program) (U : TypeId → TI) (n : Nat) (all os : List Oper) (K : Env → Heap → Prop) (ρ : Env) (d : Option Tmp) (x : AV) (h : Heap) : Prop := vcOps P U n all os (put ρ d x) h K
@[go_sem ↓] theorem KOps_eq (all os : List Oper) (K : Env → Heap → Prop) (d : Option Tmp) (x : AV) : KOps P U n all os K ρ d x h = vcOps P U n all os (put ρ d x) h K := rfl
@[go_sem ↓] theorem r_cons (all : List Oper) (d : Option Tmp) (op : Op) (t : TypeId) (p : String) (a : Array Edge) (os : List Oper) (K : Env → Heap → Prop) :
    vcOps P U n all (⟨d, op, t, p, a, none⟩ :: os) ρ h K = (dstOK n d = true ∧ vcOp P U ρ h ⟨d, op, t, p, a, none⟩ (KOps P U n all os K ρ d)) := rfl
@[go_sem] theorem dstOK_some (d : Nat) : (dstOK n (some d) = true) = (d < n) := by simp [dstOK]
@[go_sem] theorem dstOK_none : (dstOK n none = true) = True := by simp [dstOK]
/-- The value on which a guard hangs. -/
def gB (d : Nat) (w : Bool) (ρ : Env) (yes no : Env → Prop) (x : AV) : Prop := match x with
  | .v (.bool t) => if w then Br t (yes ((d, .v (.bool true)) :: ρ)) (no ((d, .v (.bool false)) :: ρ)) else Br t (no ((d, .v (.bool true)) :: ρ)) (yes ((d, .v (.bool false)) :: ρ))
  | .v (.tuple _) => no ρ
  | _ => False
@[go_sem ↓] theorem dstAt_zero (d : Option Tmp) (op : Op) (t : TypeId) (p : String) (a : Array Edge) (g : Option (Nat × Bool)) (os : List Oper) : dstAt (⟨d, op, t, p, a, g⟩ :: os) 0 = d := rfl
@[go_sem ↓] theorem dstAt_succ (o : Oper) (os : List Oper) (i : Nat) : dstAt (o :: os) (i + 1) = dstAt os i := by simp [dstAt]
theorem guardA_eq (all : List Oper) (g : Nat) (w : Bool) (yes no : Env → Prop) : guardA all ρ (some (g, w)) yes no = bindO (dstAt all g) fun d => bindO (lk ρ d) fun x => gB d w ρ yes no x := by
  simp only [guardA]
  cases dstAt all g with
  | none => rfl
  | some d =>
    simp only [bindO_some]
    cases lk ρ d with
    | none => rfl
    | some x => cases x with
      | v u => cases u <;> first | rfl | (rename_i t; cases w <;> cases t <;> simp [bindO, gB, Br])
      | _ => rfl
/-- An operation under a guard, by the value on which it hangs. -/
def GuardC (P : Program) (U : TypeId → TI) (n : Nat) (all os : List Oper) (ρ : Env) (h : Heap) (K : Env → Heap → Prop) (w : Bool) (d : Option Tmp) (op : Op) (t : TypeId) (p : String) (a : Array Edge) (s : Nat) (x : AV) : Prop :=
  gB s w ρ (fun ρ => vcOp P U ρ h ⟨d, op, t, p, a, none⟩ (KOps P U n all os K ρ d)) (fun ρ => vcOps P U n all os (put ρ d (.v undef)) h K) x
section
variable {all os : List Oper} {K : Env → Heap → Prop} {d : Option Tmp} {op : Op} {t : TypeId} {p : String} {a : Array Edge} {s : Nat}
@[go_sem ↓] theorem GuardC_tt : GuardC P U n all os ρ h K true d op t p a s (.v (.bool true)) = vcOp P U ((s, .v (.bool true)) :: ρ) h ⟨d, op, t, p, a, none⟩ (KOps P U n all os K ((s, .v (.bool true)) :: ρ) d) := by simp [GuardC, gB, Br]
@[go_sem ↓] theorem GuardC_tf : GuardC P U n all os ρ h K true d op t p a s (.v (.bool false)) = vcOps P U n all os (put ((s, .v (.bool false)) :: ρ) d (.v undef)) h K := by simp [GuardC, gB, Br]
@[go_sem ↓] theorem GuardC_ft : GuardC P U n all os ρ h K false d op t p a s (.v (.bool true)) = vcOps P U n all os (put ((s, .v (.bool true)) :: ρ) d (.v undef)) h K := by simp [GuardC, gB, Br]
@[go_sem ↓] theorem GuardC_ff : GuardC P U n all os ρ h K false d op t p a s (.v (.bool false)) = vcOp P U ((s, .v (.bool false)) :: ρ) h ⟨d, op, t, p, a, none⟩ (KOps P U n all os K ((s, .v (.bool false)) :: ρ) d) := by simp [GuardC, gB, Br]
@[go_sem ↓] theorem GuardC_undef (w : Bool) : GuardC P U n all os ρ h K w d op t p a s (.v undef) = vcOps P U n all os (put ρ d (.v undef)) h K := rfl
theorem GuardC.intro {w b : Bool} (h1 : b = true → GuardC P U n all os ρ h K w d op t p a s (.v (.bool true))) (h2 : b = false → GuardC P U n all os ρ h K w d op t p a s (.v (.bool false))) : GuardC P U n all os ρ h K w d op t p a s (.v (.bool b)) := by
  cases b
  · exact h2 rfl
  · exact h1 rfl
end
@[go_sem ↓] theorem r_guard (all : List Oper) (d : Option Tmp) (op : Op) (t : TypeId) (p : String) (a : Array Edge) (g : Nat) (w : Bool) (os : List Oper) (K : Env → Heap → Prop) :
    vcOps P U n all (⟨d, op, t, p, a, some (g, w)⟩ :: os) ρ h K = (dstOK n d = true ∧ bindO (dstAt all g) fun s => bindO (lk ρ s) (GuardC P U n all os ρ h K w d op t p a s)) := by
  have := guardA_eq (ρ := ρ) all g w (fun ρ => vcOp P U ρ h ⟨d, op, t, p, a, none⟩ (KOps P U n all os K ρ d)) (fun ρ => vcOps P U n all os (put ρ d (.v undef)) h K)
  show (dstOK n d = true ∧ guardA all ρ (some (g, w)) _ _) = _
  rw [show (fun s => bindO (lk ρ s) (GuardC P U n all os ρ h K w d op t p a s)) = fun d_1 => bindO (lk ρ d_1) fun x => gB d_1 w ρ (fun ρ => vcOp P U ρ h ⟨d, op, t, p, a, none⟩ (KOps P U n all os K ρ d)) (fun ρ => vcOps P U n all os (put ρ d (.v undef)) h K) x from rfl, ← this]
  rfl

/-! ### Operations -/
variable {d : Option Tmp} {t : TypeId} {p : String} {a : Array Edge} {g : Option (Nat × Bool)} {Q : AV → Heap → Prop}

@[go_sem ↓] theorem o_move (x : Operand) : vcOp P U ρ h ⟨d, .move x, t, p, a, g⟩ Q = bindO (ev ρ x) (atH Q h) := (withv_eq x _)
@[go_sem ↓] theorem o_assign (x : Operand) : vcOp P U ρ h ⟨d, .assign x, t, p, a, g⟩ Q = bindO (ev ρ x) (atH Q h) := (withv_eq x _)

def pickA (ρ : Env) (x z : Operand) (k : AV → Prop) (y : AV) : Prop := match y with
  | .v (.bool true) => bindO (ev ρ x) k
  | .v (.bool false) => bindO (ev ρ z) k
  | _ => False
@[go_sem ↓] theorem pickA_true (x z : Operand) (k : AV → Prop) : pickA ρ x z k (.v (.bool true)) = bindO (ev ρ x) k := rfl
@[go_sem ↓] theorem pickA_false (x z : Operand) (k : AV → Prop) : pickA ρ x z k (.v (.bool false)) = bindO (ev ρ z) k := rfl
@[go_sem ↓] theorem o_pick (x y z : Operand) : vcOp P U ρ h ⟨d, .pick x y z, t, p, a, g⟩ Q = bindO (ev ρ x) (pickA ρ y z (atH Q h)) := by
  simp only [vcOp, pv, withv_eq]
  congr 1

def nilCk (k : AV → Prop) (y : AV) : Prop := match y with
  | .ptr .. | .pe .. | .fn .. => k y
  | _ => False
@[go_sem ↓] theorem nilCk_ptr (i o : Nat) (k : AV → Prop) : nilCk k (.ptr i o) = k (.ptr i o) := rfl
@[go_sem ↓] theorem nilCk_pe (x : AV) (o : Nat) (k : AV → Prop) : nilCk k (.pe x o) = k (.pe x o) := rfl
@[go_sem ↓] theorem nilCk_fn (f : FuncId) (c : List AV) (k : AV → Prop) : nilCk k (.fn f c) = k (.fn f c) := rfl
@[go_sem ↓] theorem o_nilCheck (x : Operand) : vcOp P U ρ h ⟨d, .nilCheck x, t, p, a, g⟩ Q = bindO (ev ρ x) (nilCk (atH Q h)) := by
  simp only [vcOp, pv, withv_eq]
  congr 1

@[congr] theorem binA_congr {op : BinOp} {ty : TypeId} {x x' y y' : AV} {K : AV → Prop} (e1 : x = x') (e2 : y = y') : binA U op ty x y K = binA U op ty x' y' K := by rw [e1, e2]
theorem o_bin0 (op : BinOp) (ty ty' : TypeId) (x y : Operand) (hy : nilS y = false) : vcOp P U ρ h ⟨d, .binOp op ty x y ty', t, p, a, g⟩ Q = bindO (ev ρ x) fun u => bindO (ev ρ y) fun v => binA U op ty u v (atH Q h) := by
  simp only [vcOp, pv, withv_eq, hy]
  rfl
@[go_sem ↓] theorem o_binOp (op : BinOp) (ty ty' : TypeId) (x : Operand) (y : Tmp) : vcOp P U ρ h ⟨d, .binOp op ty x (.tmp y) ty', t, p, a, g⟩ Q = bindO (ev ρ x) fun u => bindO (ev ρ (.tmp y)) fun v => binA U op ty u v (atH Q h) := o_bin0 _ _ _ _ _ rfl
@[go_sem ↓] theorem o_binOp_i (op : BinOp) (ty ty' : TypeId) (x : Operand) (ik : IntKind) (im : Int) : vcOp P U ρ h ⟨d, .binOp op ty x (.const (.int ik im)) ty', t, p, a, g⟩ Q = bindO (ev ρ x) fun u => binA U op ty u (.v (.int ik im)) (atH Q h) := o_bin0 _ _ _ _ _ rfl
@[go_sem ↓] theorem o_binOp_b (op : BinOp) (ty ty' : TypeId) (x : Operand) (b : Bool) : vcOp P U ρ h ⟨d, .binOp op ty x (.const (.bool b)) ty', t, p, a, g⟩ Q = bindO (ev ρ x) fun u => binA U op ty u (.v (.bool b)) (atH Q h) := o_bin0 _ _ _ _ _ rfl
@[go_sem ↓] theorem o_binOp_s (op : BinOp) (ty ty' : TypeId) (x : Operand) (b : ByteArray) : vcOp P U ρ h ⟨d, .binOp op ty x (.const (.string b)) ty', t, p, a, g⟩ Q = bindO (ev ρ x) fun u => bindO (ev ρ (.const (.string b))) fun v => binA U op ty u v (atH Q h) := o_bin0 _ _ _ _ _ rfl
@[go_sem ↓] theorem o_binOp_p (op : BinOp) (ty ty' : TypeId) (x : Operand) (b : Option Addr) : vcOp P U ρ h ⟨d, .binOp op ty x (.const (.pointer b)) ty', t, p, a, g⟩ Q = bindO (ev ρ x) fun u => binA U op ty u (.v (.pointer b)) (atH Q h) := o_bin0 _ _ _ _ _ rfl
def nilK (h : Heap) (op : BinOp) (x : AV) (Q : AV → Heap → Prop) (tk : TK) : Prop := match tk, op, x with
  | .slice _, .eql, .sl xs _ => ∀ b : Bool, (xs ≠ [] → b = false) → Q (.v (.bool b)) h
  | .slice _, .neq, .sl xs _ => ∀ b : Bool, (xs ≠ [] → b = true) → Q (.v (.bool b)) h
  | .slice _, .eql, .oa .. => Q (.v (.bool false)) h
  | .slice _, .neq, .oa .. => Q (.v (.bool true)) h
  | _, _, _ => False
/-- A slice against nil. -/
def NilE (xs : List AV) (w : Bool) (Q : Bool → Prop) : Prop := ∀ b : Bool, (xs ≠ [] → b = w) → Q b
@[go_sem ↓] theorem nilK_e (xs : List AV) (q : Perm) (e : TypeId) : nilK h .eql (.sl xs q) Q (.slice e) = NilE xs false fun b => Q (.v (.bool b)) h := rfl
@[go_sem ↓] theorem nilK_n (xs : List AV) (q : Perm) (e : TypeId) : nilK h .neq (.sl xs q) Q (.slice e) = NilE xs true fun b => Q (.v (.bool b)) h := rfl
@[go_sem ↓] theorem nilK_oe (i o l : Nat) (e : TypeId) : nilK h .eql (.oa i o l) Q (.slice e) = Q (.v (.bool false)) h := rfl
@[go_sem ↓] theorem nilK_on (i o l : Nat) (e : TypeId) : nilK h .neq (.oa i o l) Q (.slice e) = Q (.v (.bool true)) h := rfl
@[go_sem ↓] theorem o_binOp_n (op : BinOp) (ty ty' : TypeId) (x : Operand) (l k : Nat) : vcOp P U ρ h ⟨d, .binOp op ty x (.const (.slice none l k)) ty', t, p, a, g⟩ Q = bindO (ev ρ x) fun u => atK (U ty).k (nilK h op u Q) := by
  simp only [vcOp, nilS, withv_eq, atK, if_true]
  rfl
section
variable {ty : TypeId} {K : AV → Prop}
@[go_sem] theorem b_add (k : IntKind) (x y : Int) : binA U .add ty (.v (.int k x)) (.v (.int k y)) K = K (.v (.int k (k.wrap (x + y)))) := by simp [binA, isShift, binI]
@[go_sem] theorem b_sub (k : IntKind) (x y : Int) : binA U .sub ty (.v (.int k x)) (.v (.int k y)) K = K (.v (.int k (k.wrap (x - y)))) := by simp [binA, isShift, binI]
@[go_sem] theorem b_mul (k : IntKind) (x y : Int) : binA U .mul ty (.v (.int k x)) (.v (.int k y)) K = K (.v (.int k (k.wrap (x * y)))) := by simp [binA, isShift, binI]
@[go_sem] theorem b_quo (k : IntKind) (x y : Int) : binA U .quo ty (.v (.int k x)) (.v (.int k y)) K = (y ≠ 0 ∧ K (.v (.int k (k.wrap (x.tdiv y))))) := by simp [binA, isShift, binI]
@[go_sem] theorem b_rem (k : IntKind) (x y : Int) : binA U .rem ty (.v (.int k x)) (.v (.int k y)) K = (y ≠ 0 ∧ K (.v (.int k (x.tmod y)))) := by simp [binA, isShift, binI]
@[go_sem] theorem b_and (k : IntKind) (x y : Int) : binA U .and ty (.v (.int k x)) (.v (.int k y)) K = K (.v (.int k (k.wrap (BitVec.ofInt k.bits x &&& BitVec.ofInt k.bits y).toNat))) := by simp [binA, isShift, binI]
@[go_sem] theorem b_or (k : IntKind) (x y : Int) : binA U .or ty (.v (.int k x)) (.v (.int k y)) K = K (.v (.int k (k.wrap (BitVec.ofInt k.bits x ||| BitVec.ofInt k.bits y).toNat))) := by simp [binA, isShift, binI]
@[go_sem] theorem b_xor (k : IntKind) (x y : Int) : binA U .xor ty (.v (.int k x)) (.v (.int k y)) K = K (.v (.int k (k.wrap (BitVec.ofInt k.bits x ^^^ BitVec.ofInt k.bits y).toNat))) := by simp [binA, isShift, binI]
@[go_sem] theorem b_eql (k : IntKind) (x y : Int) : binA U .eql ty (.v (.int k x)) (.v (.int k y)) K = K (.v (.bool (x == y))) := by simp [binA, isShift, binI]
@[go_sem] theorem b_neq (k : IntKind) (x y : Int) : binA U .neq ty (.v (.int k x)) (.v (.int k y)) K = K (.v (.bool (x != y))) := by simp [binA, isShift, binI]
@[go_sem] theorem b_lss (k : IntKind) (x y : Int) : binA U .lss ty (.v (.int k x)) (.v (.int k y)) K = K (.v (.bool (decide (x < y)))) := by simp [binA, isShift, binI]
@[go_sem] theorem b_leq (k : IntKind) (x y : Int) : binA U .leq ty (.v (.int k x)) (.v (.int k y)) K = K (.v (.bool (decide (x ≤ y)))) := by simp [binA, isShift, binI]
@[go_sem] theorem b_gtr (k : IntKind) (x y : Int) : binA U .gtr ty (.v (.int k x)) (.v (.int k y)) K = K (.v (.bool (decide (y < x)))) := by simp [binA, isShift, binI]
@[go_sem] theorem b_geq (k : IntKind) (x y : Int) : binA U .geq ty (.v (.int k x)) (.v (.int k y)) K = K (.v (.bool (decide (y ≤ x)))) := by simp [binA, isShift, binI]
@[go_sem] theorem b_shl (k k' : IntKind) (x y : Int) : binA U .shl ty (.v (.int k x)) (.v (.int k' y)) K = (0 ≤ y ∧ K (.v (.int k (k.wrap (x * 2 ^ (min y.toNat k.bits)))))) := by simp [binA, isShift, binSh]
@[go_sem] theorem b_shr (k k' : IntKind) (x y : Int) : binA U .shr ty (.v (.int k x)) (.v (.int k' y)) K = (0 ≤ y ∧ K (.v (.int k (x.fdiv (2 ^ (min y.toNat k.bits)))))) := by simp [binA, isShift, binSh]
@[go_sem] theorem b_sadd (x y : List UInt8) : binA U .add ty (.s x) (.s y) K = (x.length + y.length < lim ∧ K (.s (x ++ y))) := rfl
@[go_sem] theorem b_seql (x y : List UInt8) : binA U .eql ty (.s x) (.s y) K = K (.v (.bool (x == y))) := rfl
@[go_sem] theorem b_sneq (x y : List UInt8) : binA U .neq ty (.s x) (.s y) K = K (.v (.bool (!(x == y)))) := rfl
@[go_sem] theorem b_slss (x y : List UInt8) : binA U .lss ty (.s x) (.s y) K = K (.v (.bool (Op.bytesLess x y))) := rfl
@[go_sem] theorem b_sleq (x y : List UInt8) : binA U .leq ty (.s x) (.s y) K = K (.v (.bool (Op.bytesLess x y || x == y))) := rfl
@[go_sem] theorem b_sgtr (x y : List UInt8) : binA U .gtr ty (.s x) (.s y) K = K (.v (.bool (!(Op.bytesLess x y || x == y)))) := rfl
@[go_sem] theorem b_sgeq (x y : List UInt8) : binA U .geq ty (.s x) (.s y) K = K (.v (.bool (!(Op.bytesLess x y)))) := rfl
def tkB (k : TK) (A : Prop) : Prop := k = .bool ∧ A
def tkP (k : TK) (A : Prop) : Prop := (∃ e, k = .ptr e) ∧ A
@[congr] theorem tkB_congr {k k' : TK} {A : Prop} (e : k = k') : tkB k A = tkB k' A := by rw [e]
@[congr] theorem tkP_congr {k k' : TK} {A : Prop} (e : k = k') : tkP k A = tkP k' A := by rw [e]
@[go_sem] theorem tkB_bool (A : Prop) : tkB .bool A = A := by simp [tkB]
@[go_sem] theorem tkP_ptr (e : TypeId) (A : Prop) : tkP (.ptr e) A = A := by simp [tkP]
@[go_sem] theorem b_beql (x y : Bool) : binA U .eql ty (.v (.bool x)) (.v (.bool y)) K = tkB (U ty).k (K (.v (.bool (x == y)))) := by
  simp only [binA, binB, tkB]; cases (U ty).k <;> simp
@[go_sem] theorem b_bneq (x y : Bool) : binA U .neq ty (.v (.bool x)) (.v (.bool y)) K = tkB (U ty).k (K (.v (.bool (!(x == y))))) := by
  simp only [binA, binB, tkB]; cases (U ty).k <;> simp
@[go_sem] theorem b_peql (i o : Nat) : binA U .eql ty (.ptr i o) (.v (.pointer none)) K = tkP (U ty).k (K (.v (.bool false))) := by
  simp only [binA, binN, nilA, tkP]; cases (U ty).k <;> simp
@[go_sem] theorem b_pneq (i o : Nat) : binA U .neq ty (.ptr i o) (.v (.pointer none)) K = tkP (U ty).k (K (.v (.bool true))) := by
  simp only [binA, binN, nilA, tkP]; cases (U ty).k <;> simp
@[go_sem] theorem b_neql : binA U .eql ty (.v (.pointer none)) (.v (.pointer none)) K = tkP (U ty).k (K (.v (.bool true))) := by
  simp only [binA, binN, nilA, tkP]; cases (U ty).k <;> simp
@[go_sem] theorem b_nneq : binA U .neq ty (.v (.pointer none)) (.v (.pointer none)) K = tkP (U ty).k (K (.v (.bool false))) := by
  simp only [binA, binN, nilA, tkP]; cases (U ty).k <;> simp
end

/-- What an operation of one operand comes to, by its operand. -/
def unA (op : UnOp) (y : AV) (k : AV → Prop) : Prop := match op, y with
  | .not, .v (.bool b) => k (.v (.bool (!b)))
  | .neg, .v (.int kk n) => k (.v (.int kk (kk.wrap (0 - n))))
  | .xor, .v (.int kk n) => k (.v (.int kk (kk.wrap (BitVec.ofInt kk.bits (if kk.signed then -1 else kk.max) ^^^ BitVec.ofInt kk.bits n).toNat)))
  | _, _ => False
@[congr] theorem unA_congr {op : UnOp} {y y' : AV} {k : AV → Prop} (e : y = y') : unA op y k = unA op y' k := by rw [e]
@[go_sem] theorem unA_not (b : Bool) (k : AV → Prop) : unA .not (.v (.bool b)) k = k (.v (.bool (!b))) := rfl
@[go_sem] theorem unA_neg (kk : IntKind) (m : Int) (k : AV → Prop) : unA .neg (.v (.int kk m)) k = k (.v (.int kk (kk.wrap (0 - m)))) := rfl
@[go_sem] theorem unA_xor (kk : IntKind) (m : Int) (k : AV → Prop) : unA .xor (.v (.int kk m)) k = k (.v (.int kk (kk.wrap (BitVec.ofInt kk.bits (if kk.signed then -1 else kk.max) ^^^ BitVec.ofInt kk.bits m).toNat))) := rfl
@[go_sem ↓] theorem o_unOp (op : UnOp) (ty : TypeId) (x : Operand) : vcOp P U ρ h ⟨d, .unOp op ty x, t, p, a, g⟩ Q = bindO (ev ρ x) fun y => unA op y (atH Q h) := by
  simp only [vcOp, pv, withv_eq]
  congr 1

/-- A conversion, by the types and the operand. -/
def cvA (U : TypeId → TI) (s d : TK) (y : AV) (k : AV → Prop) : Prop := match s, d, y with
  | .int _, .int kk, .v (.int _ n) => k (.v (.int kk (kk.wrap n)))
  | .str, .str, .s l => k (.s l)
  | .slice e, .str, .sl xs _ => (U e).k = .int .u8 ∧ ∃ l : List UInt8, xs = l.map byteA ∧ k (.s l)
  | .str, .slice e, .s l => (U e).k = .int .u8 ∧ k (.sl (l.map byteA) .no)
  | _, _, _ => False
@[congr] theorem cvA_congr {s s' d d' : TK} {y y' : AV} {k : AV → Prop} (e1 : s = s') (e2 : d = d') (e : y = y') : cvA U s d y k = cvA U s' d' y' k := by rw [e, e1, e2]
@[go_sem] theorem cv_int (k0 kk k1 : IntKind) (m : Int) (k : AV → Prop) : cvA U (.int k0) (.int kk) (.v (.int k1 m)) k = k (.v (.int kk (kk.wrap m))) := rfl
@[go_sem] theorem cv_str (l : List UInt8) (k : AV → Prop) : cvA U .str .str (.s l) k = k (.s l) := rfl
@[go_sem] theorem cv_sb (e : TypeId) (l : List UInt8) (pm : Perm) (k : AV → Prop) : cvA U (.slice e) .str (.sl (l.map byteA) pm) k = ((U e).k = .int .u8 ∧ k (.s l)) := by
  simp only [cvA]
  congr 1
  apply propext
  constructor
  · rintro ⟨l', e1, hk⟩
    have : l = l' := by
      have inj : ∀ (x y : List UInt8), x.map byteA = y.map byteA → x = y := by
        intro x
        induction x with
        | nil => intro y e; cases y <;> simp at e ⊢
        | cons b r ih =>
          intro y e
          cases y with
          | nil => simp at e
          | cons b' r' =>
            simp only [List.map_cons, List.cons.injEq, byteA, AV.v.injEq, Value.int.injEq, true_and, Int.natCast_inj] at e
            rw [UInt8.toNat_inj.1 e.1, ih r' e.2]
      exact inj _ _ e1
    rw [this]; exact hk
  · exact fun hk => ⟨l, rfl, hk⟩
@[go_sem] theorem cv_bs (e : TypeId) (l : List UInt8) (k : AV → Prop) : cvA U .str (.slice e) (.s l) k = ((U e).k = .int .u8 ∧ k (.sl (l.map byteA) .no)) := rfl
theorem u8m (k : TK) (X : Prop) : (match k with | .int .u8 => X | _ => False) = (k = .int .u8 ∧ X) := by
  cases k with
  | int kk => cases kk <;> simp
  | _ => simp
@[go_sem ↓] theorem o_convert (s e : TypeId) (x : Operand) : vcOp P U ρ h ⟨d, .convert s e x, t, p, a, g⟩ Q = bindO (ev ρ x) fun y => cvA U (U s).k (U e).k y (atH Q h) := by
  simp only [vcOp, pv, withv_eq]
  congr 1
  funext y
  generalize (U s).k = ks
  generalize (U e).k = ke
  cases ks <;> cases ke <;> cases y <;> (first | rfl | (rename_i u; cases u <;> rfl) | skip)
  · simp only [cvA]
    exact u8m _ _
  · simp only [cvA]
    exact u8m _ _

end
end Go.Ab

/- The rules by which simp carries out code over abstract values: the other operations. -/
set_option linter.unusedSimpArgs false
set_option linter.unusedVariables false
namespace Go.Ab
open Go

attribute [go_sem] true_and and_true List.length_cons List.length_nil List.drop_succ_cons List.drop_zero List.drop_nil List.take_succ_cons List.take_zero List.take_nil List.append_nil List.cons_append List.nil_append List.map_cons List.map_nil
  ne_eq not_false_eq_true reduceCtorEq Nat.zero_add Nat.add_zero

section
variable {P : Program} {U : TypeId → TI} {n : Nat} {ρ : Env} {h : Heap}
variable {d : Option Tmp} {t : TypeId} {p : String} {a : Array Edge} {g : Option (Nat × Bool)} {Q : AV → Heap → Prop} {k : AV → Prop}

@[go_sem] theorem agg_int (x : IntKind) : TK.agg (.int x) = false := rfl
@[go_sem] theorem agg_bool : TK.agg .bool = false := rfl
@[go_sem] theorem agg_str : TK.agg .str = false := rfl
@[go_sem] theorem agg_slice (x : TypeId) : TK.agg (.slice x) = false := rfl
@[go_sem] theorem agg_strct (x : List (Nat × TypeId)) : TK.agg (.strct x) = true := rfl
@[go_sem] theorem agg_ptr (x : TypeId) : TK.agg (.ptr x) = false := rfl
@[go_sem] theorem agg_arr (m : Nat) (x : TypeId) : TK.agg (.arr m x) = true := rfl
@[go_sem] theorem agg_iface : TK.agg .iface = false := rfl
@[go_sem] theorem agg_cplx (x : FloatKind) : TK.agg (.cplx x) = false := rfl
@[go_sem] theorem cells_agg (cs : List AV) : AV.cells (.agg cs) = cs := rfl
@[go_sem] theorem cells_v (x : Value) : AV.cells (.v x) = [.v x] := rfl
@[go_sem] theorem cells_s (x : List UInt8) : AV.cells (.s x) = [.s x] := rfl
@[go_sem] theorem cells_sl (x : List AV) (q : Perm) : AV.cells (.sl x q) = [.sl x q] := rfl
@[go_sem] theorem cells_ptr (i o : Nat) : AV.cells (.ptr i o) = [.ptr i o] := rfl
@[go_sem] theorem cells_pe (x : AV) (o : Nat) : AV.cells (.pe x o) = [.pe x o] := rfl
@[go_sem] theorem cells_oa (i o l : Nat) : AV.cells (.oa i o l) = [.oa i o l] := rfl
@[go_sem] theorem cells_fn (f : FuncId) (c : List AV) : AV.cells (.fn f c) = [.fn f c] := rfl
@[go_sem] theorem cells_ifc (f : TypeId) (c : AV) : AV.cells (.ifc f c) = [.ifc f c] := rfl
@[go_sem] theorem isAgg_agg (cs : List AV) : isAggA (.agg cs) = true := rfl
@[go_sem] theorem isAgg_v (x : Value) : isAggA (.v x) = false := rfl
@[go_sem] theorem isAgg_s (x : List UInt8) : isAggA (.s x) = false := rfl
@[go_sem] theorem isAgg_sl (x : List AV) (q : Perm) : isAggA (.sl x q) = false := rfl
@[go_sem] theorem isAgg_ptr (i o : Nat) : isAggA (.ptr i o) = false := rfl
@[go_sem] theorem isAgg_oa (i o l : Nat) : isAggA (.oa i o l) = false := rfl
@[go_sem] theorem fit_agg (cs : List AV) (m : Nat) : fit (.agg cs) m = (cs.length = m) := rfl
@[go_sem] theorem fit_int (x : IntKind) (i : Int) (m : Nat) : fit (.v (.int x i)) m = (m = 1) := by simp [fit, Value.oneCell']
@[go_sem] theorem fit_bool (i : Bool) (m : Nat) : fit (.v (.bool i)) m = (m = 1) := by simp [fit, Value.oneCell']
@[go_sem] theorem fit_nil (i : Option Addr) (m : Nat) : fit (.v (.pointer i)) m = (m = 1) := by simp [fit, Value.oneCell']
@[go_sem] theorem fit_nili (m : Nat) : fit (.v .nilIface) m = (m = 1) := by simp [fit, Value.oneCell']
@[go_sem] theorem fit_cplx (x : FloatKind) (i j : Nat) (m : Nat) : fit (.v (.complex x i j)) m = (m = 1) := by simp [fit, Value.oneCell']
@[go_sem] theorem fit_s (l : List UInt8) (m : Nat) : fit (.s l) m = (m = 1) := rfl
@[go_sem] theorem fit_sl (l : List AV) (q : Perm) (m : Nat) : fit (.sl l q) m = (m = 1) := rfl
@[go_sem] theorem fit_ptr (i o : Nat) (m : Nat) : fit (.ptr i o) m = (m = 1) := rfl
@[go_sem] theorem fit_oa (i o l : Nat) (m : Nat) : fit (.oa i o l) m = (m = 1) := rfl
@[go_sem] theorem fit_fn (f : FuncId) (c : List AV) (m : Nat) : fit (.fn f c) m = (m = 1) := rfl
@[go_sem] theorem fits_nil (m : Nat) : fits m [] = True := rfl
@[go_sem] theorem fits_cons (m : Nat) (y : AV) (r : List AV) : fits m (y :: r) = (fit y m ∧ fits m r) := rfl

@[go_sem ↓] theorem partA_eq (cs : List AV) (off : Nat) (i : TI) : partA cs off i k = Br i.k.agg (off + i.sz ≤ cs.length ∧ k (.agg ((cs.drop off).take i.sz))) (bindO cs[off]? k) := by
  unfold partA
  cases i.k.agg with
  | true => simp [Br]
  | false =>
    simp only [Br]
    cases cs[off]? <;> simp [bindO]
@[go_sem ↓] theorem atA_eq (y : AV) (off : Nat) (i : TI) : atA y off i k = if off = 0 ∧ y.cells.length = i.sz ∧ isAggA y = i.k.agg then k y else partA y.cells off i k := rfl

def fieldK (U : TypeId → TI) (f : Nat) (y : AV) (k : AV → Prop) (tk : TK) : Prop := match tk, y with
  | .strct fs, .agg cs => bindO fs[f]? fun q => (U q.2).sz ≠ 0 ∧ (U q.2).k ≠ .other ∧ partA cs q.1 (U q.2) k
  | _, _ => False
@[go_sem ↓] theorem fieldK_eq (f : Nat) (cs : List AV) (fs : List (Nat × TypeId)) : fieldK U f (.agg cs) k (.strct fs) = bindO fs[f]? fun q => (U q.2).sz ≠ 0 ∧ (U q.2).k ≠ .other ∧ partA cs q.1 (U q.2) k := rfl
@[go_sem ↓] theorem o_field (ty : TypeId) (x : Operand) (f : Nat) : vcOp P U ρ h ⟨d, .field ty x f, t, p, a, g⟩ Q = bindO (ev ρ x) fun y => atK (U ty).k (fieldK U f y (atH Q h)) := by
  simp only [vcOp, pv, withv_eq, atK]
  congr 1
  funext y
  cases (U ty).k <;> cases y <;> simp only [fieldK]
  rename_i fs cs
  cases fs[f]? <;> rfl

def tupA (y : AV) (i : Nat) (k : AV → Prop) : Prop := match y with
  | .tup vs => bindO vs[i]? k
  | _ => False
@[congr] theorem tupA_congr {y y' : AV} {i : Nat} (e : y = y') : tupA y i k = tupA y' i k := by rw [e]
@[go_sem ↓] theorem tupA_eq (vs : List AV) (i : Nat) : tupA (.tup vs) i k = bindO vs[i]? k := rfl
@[go_sem ↓] theorem o_extract (x : Operand) (i : Nat) : vcOp P U ρ h ⟨d, .extract x i, t, p, a, g⟩ Q = bindO (ev ρ x) fun y => tupA y i (atH Q h) := by
  simp only [vcOp, pv, withv_eq]
  congr 1
  funext y
  cases y <;> simp only [tupA]
  rename_i vs
  cases vs[i]? <;> simp [bindO, atH]

def strIx (tk : TK) (y z : AV) (k : AV → Prop) : Prop := match tk, y, z with
  | .str, .s l, .v (.int _ n) => IdxB l n k
  | _, _, _ => False
@[congr] theorem strIx_congr {tk tk' : TK} {y y' z z' : AV} (e0 : tk = tk') (e1 : y = y') (e2 : z = z') : strIx tk y z k = strIx tk' y' z' k := by rw [e0, e1, e2]
@[go_sem ↓] theorem strIx_eq (l : List UInt8) (x : IntKind) (m : Int) : strIx .str (.s l) (.v (.int x m)) k = IdxB l m k := rfl
@[go_sem ↓] theorem o_index (ty : TypeId) (x i : Operand) : vcOp P U ρ h ⟨d, .index ty x i, t, p, a, g⟩ Q = bindO (ev ρ x) fun y => bindO (ev ρ i) fun z => strIx (U ty).k y z (atH Q h) := by
  simp only [vcOp, pv, withv_eq]
  congr 1

def faddrK (U : TypeId → TI) (f : Nat) (y : AV) (k : AV → Prop) (tk : TK) : Prop := match tk with
  | .strct fs => bindO fs[f]? fun q => (U q.2).sz ≠ 0 ∧ match y with
    | .ptr id o => k (.ptr id (o + q.1))
    | .pe z o => k (.pe z (o + q.1))
    | _ => False
  | _ => False
@[go_sem ↓] theorem faddrK_ptr (f id o : Nat) (fs : List (Nat × TypeId)) : faddrK U f (.ptr id o) k (.strct fs) = bindO fs[f]? fun q => (U q.2).sz ≠ 0 ∧ k (.ptr id (o + q.1)) := rfl
@[go_sem ↓] theorem faddrK_pe (f o : Nat) (z : AV) (fs : List (Nat × TypeId)) : faddrK U f (.pe z o) k (.strct fs) = bindO fs[f]? fun q => (U q.2).sz ≠ 0 ∧ k (.pe z (o + q.1)) := rfl
@[go_sem ↓] theorem o_fieldAddr (ty : TypeId) (x : Operand) (f : Nat) : vcOp P U ρ h ⟨d, .fieldAddr ty x f, t, p, a, g⟩ Q = bindO (ev ρ x) fun y => atK (U ty).k (faddrK U f y (atH Q h)) := by
  simp only [vcOp, pv, withv_eq, atK]
  congr 1
  funext y
  cases (U ty).k <;> simp only [faddrK]
  rename_i fs
  cases fs[f]? with
  | none => rfl
  | some q => cases y <;> rfl

def iaddrK (U : TypeId → TI) (y z : AV) (k : AV → Prop) (tk : TK) : Prop := match tk, y, z with
  | .slice e, .sl xs _, .v (.int _ n) => (U e).sz ≠ 0 ∧ IdxE xs n (U e).sz k
  | .slice e, .oa id off len, .v (.int _ n) => (U e).sz ≠ 0 ∧ 0 ≤ n ∧ n < len ∧ k (.ptr id (off + n.toNat * (U e).sz))
  | .arr len e, .ptr id off, .v (.int _ n) => (U e).sz ≠ 0 ∧ 0 ≤ n ∧ n < len ∧ k (.ptr id (off + n.toNat * (U e).sz))
  | _, _, _ => False
@[go_sem ↓] theorem iaddrK_sl (xs : List AV) (q : Perm) (x : IntKind) (m : Int) (e : TypeId) : iaddrK U (.sl xs q) (.v (.int x m)) k (.slice e) = ((U e).sz ≠ 0 ∧ IdxE xs m (U e).sz k) := rfl
@[go_sem ↓] theorem iaddrK_oa (id off len : Nat) (x : IntKind) (m : Int) (e : TypeId) : iaddrK U (.oa id off len) (.v (.int x m)) k (.slice e) = ((U e).sz ≠ 0 ∧ 0 ≤ m ∧ m < len ∧ k (.ptr id (off + m.toNat * (U e).sz))) := rfl
@[go_sem ↓] theorem iaddrK_arr (id off len : Nat) (x : IntKind) (m : Int) (e : TypeId) : iaddrK U (.ptr id off) (.v (.int x m)) k (.arr len e) = ((U e).sz ≠ 0 ∧ 0 ≤ m ∧ m < len ∧ k (.ptr id (off + m.toNat * (U e).sz))) := rfl
@[go_sem ↓] theorem o_indexAddr (ty : TypeId) (x i : Operand) : vcOp P U ρ h ⟨d, .indexAddr ty x i, t, p, a, g⟩ Q = bindO (ev ρ x) fun y => bindO (ev ρ i) fun z => atK (U ty).k (iaddrK U y z (atH Q h)) := by
  simp only [vcOp, pv, withv_eq, atK]
  congr 1

/-- What an owned thing holds. -/
def objL (b : Blk) (f : List AV → TypeId → Prop) : Prop := match b with
  | .obj cs t => f cs t
  | _ => False
@[congr] theorem objL_congr {b b' : Blk} {f : List AV → TypeId → Prop} (e : b = b') : objL b f = objL b' f := by rw [e]
@[go_sem ↓] theorem objL_eq (cs : List AV) (t : TypeId) (f : List AV → TypeId → Prop) : objL (.obj cs t) f = f cs t := rfl
def loadA (U : TypeId → TI) (h : Heap) (ty : TypeId) (y : AV) (k : AV → Prop) : Prop := match y with
  | .ptr id off => bindO (h id) fun b => objL b fun cs _ => partA cs off (U ty) k
  | .pe z off => atA z off (U ty) k
  | _ => False
@[congr] theorem loadA_congr {ty : TypeId} {y y' : AV} (e : y = y') : loadA U h ty y k = loadA U h ty y' k := by rw [e]
@[go_sem ↓] theorem loadA_ptr (ty : TypeId) (id off : Nat) : loadA U h ty (.ptr id off) k = bindO (h id) fun b => objL b fun cs _ => partA cs off (U ty) k := rfl
@[go_sem ↓] theorem loadA_pe (ty : TypeId) (z : AV) (off : Nat) : loadA U h ty (.pe z off) k = atA z off (U ty) k := rfl
@[go_sem ↓] theorem o_load (ty : TypeId) (x : Operand) : vcOp P U ρ h ⟨d, .load ty x, t, p, a, g⟩ Q = ((U ty).sz ≠ 0 ∧ (U ty).k ≠ .other ∧ bindO (ev ρ x) fun y => loadA U h ty y (atH Q h)) := by
  simp only [vcOp, pv, withv_eq]
  congr 1
  congr 1
  congr 1
  funext y
  cases y with
  | ptr id off =>
    simp only [loadA]
    cases h id with
    | none => rfl
    | some b => cases b <;> rfl
  | _ => rfl

def intA (y : AV) (f : Int → Prop) : Prop := match y with
  | .v (.int _ m) => f m
  | _ => False
@[congr] theorem intA_congr {y y' : AV} {f : Int → Prop} (e : y = y') : intA y f = intA y' f := by rw [e]
@[go_sem ↓] theorem intA_eq (x : IntKind) (m : Int) (f : Int → Prop) : intA (.v (.int x m)) f = f m := rfl
@[go_sem ↓] theorem optA_none (m : Nat) (f : Int → Prop) : optA ρ none m f = f m := rfl
@[go_sem ↓] theorem optA_some (x : Operand) (m : Nat) (f : Int → Prop) : optA ρ (some x) m f = bindO (ev ρ x) fun y => intA y f := by
  simp only [optA, withv_eq]
  congr 1
def sliceK (U : TypeId → TI) (ρ : Env) (y : AV) (lo hi mx : Option Operand) (k : AV → Prop) (tk : TK) : Prop := match y with
  | .s l => tk = .str ∧ mx = none ∧ optA ρ lo 0 fun a => optA ρ hi l.length fun b => 0 ≤ a ∧ a ≤ b ∧ b ≤ l.length ∧ k (.s (cutL l a b lo.isSome hi.isSome))
  | .sl xs p => match tk with
    | .slice e => (U e).sz ≠ 0 ∧ (lo.isSome = true → ∀ z ∈ xs, z.cells.length = (U e).sz) ∧ match mx with
      | none => optA ρ lo 0 fun a => optA ρ hi xs.length fun b => 0 ≤ a ∧ a ≤ b ∧ b ≤ xs.length ∧ k (.sl (cutL xs a b lo.isSome hi.isSome) (cutP p lo.isSome hi.isSome))
      | some m => hi.isSome = true ∧ optA ρ lo 0 fun a => optA ρ hi xs.length fun b => optA ρ (some m) 0 fun c => 0 ≤ a ∧ a ≤ b ∧ b = c ∧ c ≤ xs.length ∧ k (.sl (cutL xs a b lo.isSome true) .full)
    | _ => False
  | .oa id off len => match tk with
    | .slice e => (U e).sz ≠ 0 ∧ (lo.isSome = true → (U e).sz = 1) ∧ mx = none ∧ optA ρ lo 0 fun a => optA ρ hi len fun b => 0 ≤ a ∧ a ≤ b ∧ b ≤ len ∧ k (.oa id (off + a.toNat * (U e).sz) (b.toNat - a.toNat))
    | _ => False
  | _ => False
@[go_sem ↓] theorem sliceK_s (l : List UInt8) (lo hi : Option Operand) : sliceK U ρ (.s l) lo hi none k .str = optA ρ lo 0 fun a => optA ρ hi l.length fun b => 0 ≤ a ∧ a ≤ b ∧ b ≤ l.length ∧ k (.s (cutL l a b lo.isSome hi.isSome)) := by simp [sliceK]
@[go_sem ↓] theorem sliceK_none (xs : List AV) (q : Perm) (hi : Option Operand) (e : TypeId) : sliceK U ρ (.sl xs q) none hi none k (.slice e) = ((U e).sz ≠ 0 ∧ optA ρ hi xs.length fun b => 0 ≤ b ∧ b ≤ xs.length ∧ k (.sl (cutL xs 0 b false hi.isSome) (cutP q false hi.isSome))) := by
  simp [sliceK, optA]
@[go_sem ↓] theorem sliceK_some (xs : List AV) (q : Perm) (lo : Operand) (hi : Option Operand) (e : TypeId) : sliceK U ρ (.sl xs q) (some lo) hi none k (.slice e) = ((U e).sz ≠ 0 ∧ Sized (U e).sz xs ∧ optA ρ (some lo) 0 fun a => optA ρ hi xs.length fun b => 0 ≤ a ∧ a ≤ b ∧ b ≤ xs.length ∧ k (.sl (cutL xs a b true hi.isSome) (cutP q true hi.isSome))) := by
  simp [sliceK, Sized]
@[go_sem ↓] theorem sliceK_mx (xs : List AV) (q : Perm) (hi mx : Operand) (e : TypeId) : sliceK U ρ (.sl xs q) none (some hi) (some mx) k (.slice e) = ((U e).sz ≠ 0 ∧ optA ρ (some hi) 0 fun b => optA ρ (some mx) 0 fun c => 0 ≤ b ∧ b = c ∧ c ≤ xs.length ∧ k (.sl (cutL xs 0 b false true) .full)) := by
  simp [sliceK, optA]
@[go_sem ↓] theorem sliceK_oa (id off len : Nat) (lo hi : Option Operand) (e : TypeId) : sliceK U ρ (.oa id off len) lo hi none k (.slice e) = ((U e).sz ≠ 0 ∧ (lo.isSome = true → (U e).sz = 1) ∧ optA ρ lo 0 fun a => optA ρ hi len fun b => 0 ≤ a ∧ a ≤ b ∧ b ≤ len ∧ k (.oa id (off + a.toNat * (U e).sz) (b.toNat - a.toNat))) := by
  simp [sliceK]
@[go_sem] theorem cutL_ff {α : Type} (xs : List α) (a b : Int) : cutL xs a b false false = xs := rfl
@[go_sem] theorem cutL_tf {α : Type} (xs : List α) (a b : Int) : cutL xs a b true false = xs.drop a.toNat := rfl
@[go_sem] theorem cutL_ft {α : Type} (xs : List α) (a b : Int) : cutL xs a b false true = xs.take b.toNat := rfl
@[go_sem] theorem cutL_tt {α : Type} (xs : List α) (a b : Int) : cutL xs a b true true = (xs.drop a.toNat).take (b.toNat - a.toNat) := rfl
@[go_sem] theorem cutP_ff (q : Perm) : cutP q false false = q := rfl
@[go_sem] theorem cutP_ft (q : Perm) : cutP q false true = .no := rfl
@[go_sem] theorem cutP_tt (q : Perm) : cutP q true true = .no := rfl
@[go_sem] theorem cutP_tf_full : cutP .full true false = .full := rfl
@[go_sem] theorem cutP_tf_no : cutP .no true false = .no := rfl
@[go_sem] theorem cutP_tf_own (i : Nat) : cutP (.own i) true false = .no := rfl
@[go_sem ↓] theorem o_slice (ty : TypeId) (x : Operand) (lo hi mx : Option Operand) : vcOp P U ρ h ⟨d, .slice ty x lo hi mx, t, p, a, g⟩ Q = bindO (ev ρ x) fun y => atK (U ty).k (sliceK U ρ y lo hi mx (atH Q h)) := by
  simp only [vcOp, pv, withv_eq, atK]
  congr 1

end
end Go.Ab

/- The rules by which simp carries out code over abstract values: literals, calls, memory; the end of a function. -/
set_option linter.unusedSimpArgs false
set_option linter.unusedVariables false
namespace Go.Ab
open Go

section
variable {P : Program} {U : TypeId → TI} {n : Nat} {ρ : Env} {h : Heap}
variable {d : Option Tmp} {t : TypeId} {p : String} {a : Array Edge} {g : Option (Nat × Bool)} {Q : AV → Heap → Prop} {k : AV → Prop}

/-- A new object; an array; a row of elements. -/
def NewP (h : Heap) (b : Blk) (Q : AV → Heap → Prop) : Prop := ∀ id, h id = none → Q (.ptr id 0) (upd h id (some b))
def NewM (h : Heap) (m : Nat) (b : Blk) (Q : AV → Heap → Prop) : Prop := ∀ id, h id = none → Q (.oa id 0 m) (upd h id (some b))
def NewS (h : Heap) (xs : List AV) (b : Blk) (Q : AV → Heap → Prop) : Prop := ∀ id, h id = none → Q (.sl xs (.own id)) (upd h id (some b))
/-- An append of something where there is no room: a row of elements, or an array that is owned. -/
def ApNew (U : TypeId → TI) (h : Heap) (xs ys : List AV) (e : TypeId) (Q : AV → Heap → Prop) : Prop :=
  (∀ id, h id = none → Q (.sl (xs ++ ys) (.own id)) (upd h id (some (.spare (xs.length + ys.length) (U e).sz)))) ∨
    ((U e).sz = 1 ∧ fit (U e).zero 1 ∧ isAggA (U e).zero = false ∧ (∀ z ∈ xs ++ ys, isAggA z = false) ∧ ∀ id m, h id = none → Q (.oa id 0 (xs.length + ys.length)) (upd h id (some (.obj (xs ++ ys ++ List.replicate m (U e).zero) e))))
@[congr] theorem ApNew_congr {h h' : Heap} {xs xs' ys ys' : List AV} {e : TypeId} (e0 : h = h') (e1 : xs = xs') (e2 : ys = ys') : ApNew U h xs ys e Q = ApNew U h' xs' ys' e Q := by rw [e0, e1, e2]
theorem ApNew.own {xs ys : List AV} {e : TypeId} (hk : NewS h (xs ++ ys) (.spare (xs.length + ys.length) (U e).sz) Q) : ApNew U h xs ys e Q := .inl hk
theorem ApNew.oa {xs ys : List AV} {e : TypeId} (h1 : (U e).sz = 1) (h2 : fit (U e).zero 1) (h3 : isAggA (U e).zero = false) (h4 : ∀ z ∈ xs ++ ys, isAggA z = false)
    (hk : ∀ id m, h id = none → Q (.oa id 0 (xs.length + ys.length)) (upd h id (some (.obj (xs ++ ys ++ List.replicate m (U e).zero) e)))) : ApNew U h xs ys e Q := .inr ⟨h1, h2, h3, h4, hk⟩
/-- An append where there is no room. -/
def ApFull (U : TypeId → TI) (h : Heap) (xs ys : List AV) (e : TypeId) (Q : AV → Heap → Prop) : Prop := (ys = [] → Q (.sl xs .full) h) ∧ (ys ≠ [] → ApNew U h xs ys e Q)
@[congr] theorem ApFull_congr {h h' : Heap} {xs xs' ys ys' : List AV} {e : TypeId} (e0 : h = h') (e1 : xs = xs') (e2 : ys = ys') : ApFull U h xs ys e Q = ApFull U h' xs' ys' e Q := by rw [e0, e1, e2]
@[go_sem ↓] theorem ApFull_nil (xs : List AV) (e : TypeId) : ApFull U h xs [] e Q = Q (.sl xs .full) h := by simp [ApFull]
@[go_sem ↓] theorem ApFull_cons (xs : List AV) (y : AV) (r : List AV) (e : TypeId) : ApFull U h xs (y :: r) e Q = ApNew U h xs (y :: r) e Q := by simp [ApFull]

@[go_sem] theorem upd_same' {α : Type} (f : Nat → α) (i : Nat) (x : α) : upd f i x i = x := upd_same f i x
@[go_sem] theorem upd_ne {α : Type} (f : Nat → α) (i j : Nat) (x : α) (e : ¬ j = i) : upd f i x j = f j := upd_other f x e
@[go_sem] theorem upd_upd {α : Type} (f : Nat → α) (i : Nat) (x y : α) : upd (upd f i x) i y = upd f i y := by
  funext j; simp only [upd]; split <;> rfl

def idxOK : List (Nat × Operand) → Nat → Bool
  | [], _ => true
  | (i, _) :: r, k => i == k && idxOK r (k + 1)
theorem idxOK_iff : ∀ (l : List (Nat × Operand)) (k : Nat), idxOK l k = true ↔ l.map (·.1) = List.range' k l.length
  | [], k => by simp [idxOK]
  | (i, x) :: r, k => by simp [idxOK, idxOK_iff r (k + 1), List.range'_succ]
@[go_sem] theorem idxOK_nil (k : Nat) : idxOK [] k = true := rfl
@[go_sem] theorem idxOK_cons (i : Nat) (x : Operand) (r : List (Nat × Operand)) (k : Nat) : (idxOK ((i, x) :: r) k = true) = (i = k ∧ idxOK r (k + 1) = true) := by simp [idxOK]
theorem idx_range (l : List (Nat × Operand)) (m : Nat) : (l.map (·.1) = List.range m) = (idxOK l 0 = true ∧ l.length = m) := by
  apply propext
  rw [idxOK_iff, List.range_eq_range']
  constructor
  · intro e
    have := congrArg List.length e
    simp at this
    exact ⟨by rw [this]; exact e, this⟩
  · rintro ⟨e, rfl⟩; exact e

def bsK (U : TypeId → TI) (ρ : Env) (len : Nat) (parts : List (Nat × Operand)) (k : AV → Prop) (tk : TK) : Prop := match tk with
  | .slice e => (U e).sz ≠ 0 ∧ len * (U e).sz ≤ 16777216 ∧ (idxOK parts 0 = true ∧ parts.length = len) ∧ bindO (evs ρ (parts.map (·.2))) fun xs => fits (U e).sz xs ∧ k (.sl xs .full)
  | _ => False
@[go_sem ↓] theorem bsK_eq (len : Nat) (parts : List (Nat × Operand)) (e : TypeId) : bsK U ρ len parts k (.slice e) = ((U e).sz ≠ 0 ∧ len * (U e).sz ≤ 16777216 ∧ (idxOK parts 0 = true ∧ parts.length = len) ∧ bindO (evs ρ (parts.map (·.2))) fun xs => fits (U e).sz xs ∧ k (.sl xs .full)) := rfl
@[go_sem ↓] theorem o_buildSlice (ty : TypeId) (len : Nat) (parts : List (Nat × Operand)) : vcOp P U ρ h ⟨d, .buildSlice ty len parts.toArray, t, p, a, g⟩ Q = atK (U ty).k (bsK U ρ len parts (atH Q h)) := by
  simp only [vcOp, pv, atK]
  cases (U ty).k <;> simp only [bsK, withvs_eq, idx_range]
  rfl

def aggK (k : AV → Prop) (cs : List AV) : Prop := k (.agg cs)
@[go_sem ↓] theorem aggK_eq (cs : List AV) : aggK k cs = k (.agg cs) := rfl
def aggOf (z : AV) : Option (List AV) := match z with
  | .agg cs => some cs
  | _ => none
@[go_sem] theorem aggOf_agg (cs : List AV) : aggOf (.agg cs) = some cs := rfl
def bK (U : TypeId → TI) (ρ : Env) (ty : TypeId) (parts : List (Nat × Operand)) (k : AV → Prop) (tk : TK) : Prop := match tk with
  | .strct fs => (U ty).sz ≠ 0 ∧ bindO (aggOf (U ty).zero) fun cs0 => withps U ρ fs parts cs0 (aggK k)
  | _ => False
@[go_sem ↓] theorem bK_eq (ty : TypeId) (parts : List (Nat × Operand)) (fs : List (Nat × TypeId)) : bK U ρ ty parts k (.strct fs) = ((U ty).sz ≠ 0 ∧ bindO (aggOf (U ty).zero) fun cs0 => withps U ρ fs parts cs0 (aggK k)) := rfl
@[go_sem ↓] theorem o_build (ty : TypeId) (parts : List (Nat × Operand)) : vcOp P U ρ h ⟨d, .build ty parts.toArray, t, p, a, g⟩ Q = atK (U ty).k (bK U ρ ty parts (atH Q h)) := by
  simp only [vcOp, pv, atK]
  cases (U ty).k <;> simp only [bK]
  congr 1
  cases hz : (U ty).zero <;> simp [aggOf, bindO]
  exact Iff.rfl
@[congr] theorem withps_congr' {fs : List (Nat × TypeId)} {ps : List (Nat × Operand)} {cs cs' : List AV} {k : List AV → Prop} (e : cs = cs') : withps U ρ fs ps cs k = withps U ρ fs ps cs' k := by rw [e]
@[go_sem] theorem withps_nil (fs : List (Nat × TypeId)) (cs : List AV) (k : List AV → Prop) : withps U ρ fs [] cs k = k cs := rfl
@[go_sem] theorem withps_cons (fs : List (Nat × TypeId)) (i : Nat) (x : Operand) (r : List (Nat × Operand)) (cs : List AV) (k : List AV → Prop) :
    withps U ρ fs ((i, x) :: r) cs k = bindO fs[i]? fun q => (U q.2).sz ≠ 0 ∧ bindO (ev ρ x) fun y => fit y (U q.2).sz ∧ q.1 + (U q.2).sz ≤ cs.length ∧ withps U ρ fs r (over cs q.1 y.cells) k := by
  simp only [withps, withv_eq]
  cases fs[i]? <;> rfl
@[go_sem] theorem over_eq (cs : List AV) (o : Nat) (xs : List AV) : over cs o xs = cs.take o ++ xs ++ cs.drop (o + xs.length) := rfl

def ifcK (ty : TypeId) (k : AV → Prop) (y : AV) (tk : TK) : Prop := match tk with
  | .iface | .other => False
  | _ => k (.ifc ty y)
section
variable {ty : TypeId} {y : AV}
@[go_sem ↓] theorem ifcK_int (x : IntKind) : ifcK ty k y (.int x) = k (.ifc ty y) := rfl
@[go_sem ↓] theorem ifcK_str : ifcK ty k y .str = k (.ifc ty y) := rfl
@[go_sem ↓] theorem ifcK_strct (x : List (Nat × TypeId)) : ifcK ty k y (.strct x) = k (.ifc ty y) := rfl
@[go_sem ↓] theorem ifcK_ptr (x : TypeId) : ifcK ty k y (.ptr x) = k (.ifc ty y) := rfl
end
@[go_sem ↓] theorem o_makeInterface (ty : TypeId) (x : Operand) : vcOp P U ρ h ⟨d, .makeInterface ty x, t, p, a, g⟩ Q = bindO (ev ρ x) fun y => atK (U ty).k (ifcK ty (atH Q h) y) := by
  simp only [vcOp, pv, atK, withv_eq]
  cases ev ρ x with
  | none => cases (U ty).k <;> simp [bindO]
  | some y => cases (U ty).k <;> simp [ifcK, bindO, atH]
/-- A function's value. -/
def mkFn (f : FuncId) (k : AV → Prop) (ys : List AV) : Prop := k (.fn f ys)
@[go_sem ↓] theorem mkFn_eq (f : FuncId) (ys : List AV) : mkFn f k ys = k (.fn f ys) := rfl
@[go_sem ↓] theorem o_makeFunc (f : FuncId) (cap : List Operand) : vcOp P U ρ h ⟨d, .makeFunc (.func f) #[] cap.toArray, t, p, a, g⟩ Q = bindO (evs ρ cap) (mkFn f (atH Q h)) := by
  simp only [vcOp, pv, withvs_eq]
  rfl

/-! ### Calls -/
def fnA (y : AV) (f : FuncId → List AV → Prop) : Prop := match y with
  | .fn g cap => f g cap
  | _ => False
@[congr] theorem fnA_congr {y y' : AV} {f : FuncId → List AV → Prop} (e : y = y') : fnA y f = fnA y' f := by rw [e]
@[go_sem ↓] theorem fnA_eq (g : FuncId) (cap : List AV) (f : FuncId → List AV → Prop) : fnA (.fn g cap) f = f g cap := rfl
@[go_sem ↓] theorem o_call (q : Operand) (args : List Operand) (ts : Array TypeId) : vcOp P U ρ h ⟨d, .call ⟨.value q, args.toArray, ts⟩, t, p, a, g⟩ Q = bindO (ev ρ q) fun y => fnA y fun f cap => bindO (evs ρ args) fun ys => FnOK P f (ys ++ cap) h Q := by
  simp only [vcOp, withv_eq, withvs_eq]
  congr 1
def lenK (y : AV) (k : AV → Prop) (tk : TK) : Prop := match tk, y with
  | .str, .s l => k (.v (.int .i64 l.length))
  | .slice _, .sl xs _ => k (.v (.int .i64 xs.length))
  | .slice _, .oa _ _ len => k (.v (.int .i64 len))
  | _, _ => False
@[go_sem ↓] theorem lenK_s (l : List UInt8) : lenK (.s l) k .str = k (.v (.int .i64 l.length)) := rfl
@[go_sem ↓] theorem lenK_sl (xs : List AV) (q : Perm) (e : TypeId) : lenK (.sl xs q) k (.slice e) = k (.v (.int .i64 xs.length)) := rfl
@[go_sem ↓] theorem lenK_oa (i o l : Nat) (e : TypeId) : lenK (.oa i o l) k (.slice e) = k (.v (.int .i64 l)) := rfl
@[go_sem ↓] theorem o_len (x : Operand) (ty : TypeId) : vcOp P U ρ h ⟨d, .call ⟨.builtin .len, #[x], #[ty]⟩, t, p, a, g⟩ Q = bindO (ev ρ x) fun y => atK (U ty).k (lenK y (atH Q h)) := by
  simp only [vcOp, pv, pvB, withv_eq, atK]
  congr 1
def capK (y : AV) (k : AV → Prop) (tk : TK) : Prop := match tk, y with
  | .slice _, .sl xs .full => k (.v (.int .i64 xs.length))
  | _, _ => False
@[go_sem ↓] theorem capK_sl (xs : List AV) (e : TypeId) : capK (.sl xs .full) k (.slice e) = k (.v (.int .i64 xs.length)) := rfl
@[go_sem ↓] theorem o_cap (x : Operand) (ty : TypeId) : vcOp P U ρ h ⟨d, .call ⟨.builtin .cap, #[x], #[ty]⟩, t, p, a, g⟩ Q = bindO (ev ρ x) fun y => atK (U ty).k (capK y (atH Q h)) := by
  simp only [vcOp, pv, pvB, withv_eq, atK]
  congr 1
@[congr] theorem minA_congr {ys ys' : List AV} (e : ys = ys') : minA ys k = minA ys' k := by rw [e]
@[congr] theorem maxA_congr {ys ys' : List AV} (e : ys = ys') : maxA ys k = maxA ys' k := by rw [e]
@[go_sem] theorem minA_int (x : IntKind) (i j : Int) : minA [.v (.int x i), .v (.int x j)] k = k (.v (.int x (if j < i then j else i))) := by simp [minA]
@[go_sem] theorem maxA_int (x : IntKind) (i j : Int) : maxA [.v (.int x i), .v (.int x j)] k = k (.v (.int x (if i < j then j else i))) := by simp [maxA]
@[go_sem ↓] theorem o_min (args : List Operand) (ts : Array TypeId) : vcOp P U ρ h ⟨d, .call ⟨.builtin .min, args.toArray, ts⟩, t, p, a, g⟩ Q = bindO (evs ρ args) fun ys => minA ys (atH Q h) := by
  simp only [vcOp, pv, pvB, withvs_eq]
  rfl
@[go_sem ↓] theorem o_max (args : List Operand) (ts : Array TypeId) : vcOp P U ρ h ⟨d, .call ⟨.builtin .max, args.toArray, ts⟩, t, p, a, g⟩ Q = bindO (evs ρ args) fun ys => maxA ys (atH Q h) := by
  simp only [vcOp, pv, pvB, withvs_eq]
  rfl

@[congr] theorem srcA_congr {e : TypeId} {y y' : AV} {f : List AV → Prop} (h1 : y = y') : srcA U e h y f = srcA U e h y' f := by rw [h1]
@[go_sem ↓] theorem srcA_sl (e : TypeId) (ys : List AV) (q : Perm) (f : List AV → Prop) : srcA U e h (.sl ys q) f = f ys := rfl
@[go_sem ↓] theorem srcA_s (e : TypeId) (l : List UInt8) (f : List AV → Prop) : srcA U e h (.s l) f = ((U e).k = .int .u8 ∧ (U e).sz = 1 ∧ f (l.map byteA)) := rfl
def apK (U : TypeId → TI) (h : Heap) (x y : AV) (Q : AV → Heap → Prop) (tk : TK) : Prop := match tk, x with
  | .slice e, .sl xs .full => (U e).sz ≠ 0 ∧ (U e).bytes ≠ 0 ∧ srcA U e h y fun ys => Sized (U e).sz xs ∧ Sized (U e).sz ys ∧ (xs.length + ys.length) * (U e).bytes ≤ 140737488355328 ∧
      ApFull U h xs ys e Q
  | .slice e, .sl xs (.own id) => (U e).sz ≠ 0 ∧ (U e).bytes ≠ 0 ∧ srcA U e h y fun ys => Sized (U e).sz xs ∧ Sized (U e).sz ys ∧ (xs.length + ys.length) * (U e).bytes ≤ 140737488355328 ∧
      h id = some (.spare xs.length (U e).sz) ∧ Q (.sl (xs ++ ys) (.own id)) (upd h id (some (.spare (xs.length + ys.length) (U e).sz)))
  | .slice e, .oa id off len => (U e).sz ≠ 0 ∧ (U e).bytes ≠ 0 ∧ (U e).sz = 1 ∧ srcA U e h y fun ys => Sized 1 ys ∧ (∀ z ∈ ys, isAggA z = false) ∧ (len + ys.length) * (U e).bytes ≤ 140737488355328 ∧ bindO (h id) fun b => objL b fun cs t =>
      off + len ≤ cs.length ∧ (∀ z ∈ (cs.drop off).take len, isAggA z = false) ∧ fit (U e).zero 1 ∧ isAggA (U e).zero = false ∧
          (off + (len + ys.length) ≤ cs.length → Q (.oa id off (len + ys.length)) (upd h id (some (.obj (over cs (off + len) ys) t)))) ∧
          (∀ id' m, h id' = none → Q (.oa id' 0 (len + ys.length)) (upd h id' (some (.obj ((cs.drop off).take len ++ ys ++ List.replicate m (U e).zero) e))))
  | _, _ => False
@[go_sem ↓] theorem apK_full (xs : List AV) (y : AV) (e : TypeId) : apK U h (.sl xs .full) y Q (.slice e) = ((U e).sz ≠ 0 ∧ (U e).bytes ≠ 0 ∧ srcA U e h y fun ys => Sized (U e).sz xs ∧ Sized (U e).sz ys ∧ (xs.length + ys.length) * (U e).bytes ≤ 140737488355328 ∧
      ApFull U h xs ys e Q) := rfl
@[go_sem ↓] theorem apK_own (xs : List AV) (y : AV) (id : Nat) (e : TypeId) : apK U h (.sl xs (.own id)) y Q (.slice e) = ((U e).sz ≠ 0 ∧ (U e).bytes ≠ 0 ∧ srcA U e h y fun ys => Sized (U e).sz xs ∧ Sized (U e).sz ys ∧ (xs.length + ys.length) * (U e).bytes ≤ 140737488355328 ∧
      h id = some (.spare xs.length (U e).sz) ∧ Q (.sl (xs ++ ys) (.own id)) (upd h id (some (.spare (xs.length + ys.length) (U e).sz)))) := rfl
@[go_sem] theorem isEmpty_cons' {α : Type} (x : α) (r : List α) : (x :: r).isEmpty = true ↔ False := by simp
theorem vcAppend_eq (ts : TypeId) (x y : AV) : vcAppend U h ts x y Q = atK (U ts).k (apK U h x y Q) := by
  unfold vcAppend atK
  cases (U ts).k with
  | slice e =>
    simp only
    cases x with
    | sl xs q =>
      cases q with
      | no =>
        simp only [apK]
        apply propext
        constructor
        · rintro ⟨_, _, hk⟩
          obtain ⟨ys, hh, _⟩ : ∃ ys : List AV, (Sized (U e).sz xs ∧ Sized (U e).sz ys ∧ (xs.length + ys.length) * (U e).bytes ≤ 140737488355328 ∧ False) ∧ True := by
            unfold srcA at hk
            split at hk
            · exact ⟨_, hk, trivial⟩
            · exact ⟨_, hk.2.2, trivial⟩
            · obtain ⟨_, hk⟩ := hk
              split at hk
              · exact ⟨_, hk.2.2.2, trivial⟩
              · exact hk.elim
            · exact hk.elim
          exact hh.2.2.2
        · exact False.elim
      | full =>
        rfl
      | own id => rfl
    | oa id off len =>
      refine congrArg (fun q => (U e).sz ≠ 0 ∧ (U e).bytes ≠ 0 ∧ (U e).sz = 1 ∧ q) (congrArg (fun f => srcA U e h y f) (funext fun ys => ?_))
      refine congrArg (fun q => Sized 1 ys ∧ (∀ z ∈ ys, isAggA z = false) ∧ (len + ys.length) * (U e).bytes ≤ 140737488355328 ∧ q) ?_
      cases h id with
      | none => rfl
      | some b => cases b <;> rfl
    | _ => simp [apK]
  | _ => rfl
def niA (A : Prop) (tk : TK) : Prop := notInt tk = true ∧ A
@[go_sem ↓] theorem niA_slice (e : TypeId) (A : Prop) : niA A (.slice e) = A := by simp [niA, notInt]
@[go_sem ↓] theorem niA_str (A : Prop) : niA A .str = A := by simp [niA, notInt]
@[go_sem ↓] theorem o_append (x y : Operand) (t1 t2 : TypeId) : vcOp P U ρ h ⟨d, .call ⟨.builtin .append, #[x, y], #[t1, t2]⟩, t, p, a, g⟩ Q = bindO (ev ρ x) fun u => bindO (ev ρ y) fun v => atK (U t2).k (niA (atK (U t1).k (apK U h u v Q))) := by
  simp only [vcOp, withv_eq, vcAppend_eq, atK, niA]

/-! ### Memory -/
@[go_sem ↓] theorem o_alloc (ty : TypeId) : vcOp P U ρ h ⟨d, .alloc ty, t, p, a, g⟩ Q = ((U ty).sz ≠ 0 ∧ fit (U ty).zero (U ty).sz ∧ NewP h (.obj (U ty).zero.cells ty) Q) := rfl
@[go_sem ↓] theorem o_box (ty : TypeId) (x : Operand) : vcOp P U ρ h ⟨d, .box ty x, t, p, a, g⟩ Q = ((U ty).sz ≠ 0 ∧ bindO (ev ρ x) fun y => fit y (U ty).sz ∧ NewP h (.obj y.cells ty) Q) := by
  simp only [vcOp, withv_eq]
  rfl
def stA (U : TypeId → TI) (h : Heap) (ty : TypeId) (q y : AV) (Q : AV → Heap → Prop) : Prop := match q with
  | .ptr id off => bindO (h id) fun b => objL b fun cs t' => fit y (U ty).sz ∧ off + (U ty).sz ≤ cs.length ∧ Q (.v undef) (upd h id (some (.obj (over cs off y.cells) t')))
  | _ => False
@[congr] theorem stA_congr {ty : TypeId} {q q' y y' : AV} (e1 : q = q') (e2 : y = y') : stA U h ty q y Q = stA U h ty q' y' Q := by rw [e1, e2]
@[go_sem ↓] theorem stA_ptr (ty : TypeId) (id off : Nat) (y : AV) : stA U h ty (.ptr id off) y Q = bindO (h id) fun b => objL b fun cs t' => fit y (U ty).sz ∧ off + (U ty).sz ≤ cs.length ∧ Q (.v undef) (upd h id (some (.obj (over cs off y.cells) t'))) := rfl
@[go_sem ↓] theorem o_store (ty : TypeId) (q x : Operand) : vcOp P U ρ h ⟨d, .store ty q x, t, p, a, g⟩ Q = ((U ty).sz ≠ 0 ∧ bindO (ev ρ q) fun u => bindO (ev ρ x) fun y => stA U h ty u y Q) := by
  simp only [vcOp, withv_eq]
  congr 1
  congr 1
  funext u
  congr 1
  funext y
  cases u <;> simp only [stA]
  rename_i id off
  cases h id with
  | none => rfl
  | some b => cases b <;> rfl
def mkK (U : TypeId → TI) (h : Heap) (x y : AV) (Q : AV → Heap → Prop) (tk : TK) : Prop := match tk, x, y with
  | .slice e, .v (.int _ n), .v (.int _ n') => n = n' ∧ 0 ≤ n ∧ n < lim ∧ n * (U e).bytes ≤ 281474976710656 ∧ (U e).sz ≠ 0 ∧ fit (U e).zero (U e).sz ∧
      NewM h n.toNat (.obj (zerosA (U e).zero n.toNat (U e).sz) e) Q
  | _, _, _ => False
@[go_sem ↓] theorem mkK_eq (x y : IntKind) (m m' : Int) (e : TypeId) : mkK U h (.v (.int x m)) (.v (.int y m')) Q (.slice e) = (m = m' ∧ 0 ≤ m ∧ m < lim ∧ m * (U e).bytes ≤ 281474976710656 ∧ (U e).sz ≠ 0 ∧ fit (U e).zero (U e).sz ∧
      NewM h m.toNat (.obj (zerosA (U e).zero m.toNat (U e).sz) e) Q) := rfl
@[go_sem ↓] theorem o_makeSlice (ty : TypeId) (x y : Operand) : vcOp P U ρ h ⟨d, .makeSlice ty x y, t, p, a, g⟩ Q = bindO (ev ρ x) fun u => bindO (ev ρ y) fun v => atK (U ty).k (mkK U h u v Q) := by
  simp only [vcOp, withv_eq, atK]
  congr 1

/-! ### The end -/
/-- What a function hands back is as it should be. -/
def RetOK (xs : List AV) (h : Heap) (Q : AV → Heap → Prop) : Prop := ∃ y h', Weak (oneOr xs) y ∧ Sub h' h ∧ Q y h'
@[congr] theorem RetOK_congr {xs xs' : List AV} {h h' : Heap} {Q : AV → Heap → Prop} (e1 : xs = xs') (e2 : h = h') : RetOK xs h Q = RetOK xs' h' Q := by rw [e1, e2]
@[go_sem ↓] theorem bodyK_ret (rs : List ResultVar) : bodyK U rs Q .ret ρ h = resA ρ h U rs fun xs => RetOK xs h Q := by simp [bodyK, RetOK]
@[go_sem ↓] theorem bodyK_normal (rs : List ResultVar) : bodyK U rs Q .normal ρ h = resA ρ h U rs fun xs => RetOK xs h Q := by simp [bodyK, RetOK]
@[go_sem ↓] theorem resA_nil (f : List AV → Prop) : resA ρ h U [] f = f [] := rfl
@[go_sem ↓] theorem resA_tmp (i : Tmp) (r : List ResultVar) (f : List AV → Prop) : resA ρ h U (.tmp i :: r) f = bindO (lk ρ i) fun x => resA ρ h U r fun xs => f (x :: xs) := by
  simp only [resA]
  cases lk ρ i <;> rfl
def cellA (U : TypeId → TI) (h : Heap) (ty : TypeId) (y : AV) (k : AV → Prop) : Prop := match y with
  | .ptr id off => bindO (h id) fun b => objL b fun cs _ => (U ty).sz ≠ 0 ∧ (U ty).k ≠ .other ∧ partA cs off (U ty) k
  | _ => False
@[congr] theorem cellA_congr {ty : TypeId} {y y' : AV} (e : y = y') : cellA U h ty y k = cellA U h ty y' k := by rw [e]
@[go_sem ↓] theorem cellA_ptr (ty : TypeId) (id off : Nat) : cellA U h ty (.ptr id off) k = bindO (h id) fun b => objL b fun cs _ => (U ty).sz ≠ 0 ∧ (U ty).k ≠ .other ∧ partA cs off (U ty) k := rfl
@[go_sem ↓] theorem resA_cell (i : Tmp) (ty : TypeId) (r : List ResultVar) (f : List AV → Prop) : resA ρ h U (.cell i ty :: r) f = bindO (lk ρ i) fun y => cellA U h ty y fun x => resA ρ h U r fun xs => f (x :: xs) := by
  simp only [resA]
  cases lk ρ i with
  | none => rfl
  | some y =>
    cases y <;> simp only [bindO_some, cellA]
    rename_i id off
    cases h id with
    | none => rfl
    | some b => cases b <;> rfl

theorem RetOK.mk {xs : List AV} {h h' : Heap} {Q : AV → Heap → Prop} (y : AV) (hw : Weak (oneOr xs) y) (hs : Sub h' h) (hq : Q y h') : RetOK xs h Q := ⟨y, h', hw, hs, hq⟩
theorem RetOK.same {xs : List AV} {h h' : Heap} {Q : AV → Heap → Prop} (hs : Sub h' h) (hq : Q (oneOr xs) h') : RetOK xs h Q := ⟨_, h', .refl _, hs, hq⟩
theorem Sub.refl (h : Heap) : Sub h h := fun _ _ e => e
theorem Sub.trans {a b c : Heap} (h1 : Sub a b) (h2 : Sub b c) : Sub a c := fun i k e => h2 i k (h1 i k e)
theorem Sub.new {a b : Heap} (hs : Sub a b) {id : Nat} (hid : b id = none) (k : Option Blk) : Sub a (Ab.upd b id k) := fun j l e => by
  by_cases ej : j = id
  · subst ej; rw [hs _ _ e] at hid; cases hid
  · rw [upd_other _ _ ej]; exact hs _ _ e
theorem Sub.none {a b : Heap} (hs : Sub a b) {id : Nat} (hid : b id = none) : a id = none := by
  cases hh : a id with
  | none => rfl
  | some k => rw [hs _ _ hh] at hid; cases hid

/-- A contract out of the body, the numbers told. -/
theorem FnOK.body (hU : ∀ t, AgreeT P U t) (hm : P.follows .mixedOrders = true) {f : FuncId} {fn : Func} {c : Code} {args : List AV} {h : Heap} {Q : AV → Heap → Prop} (hf : P.funcs[f]? = some fn) (hb : fn.body = some c)
    (hn : (fn.name == "runtime.NumGoroutine") = false) (m : Nat) (hm' : fn.ntmps = m) (rs : List ResultVar) (hr : fn.results.toList = rs) (hl : args.length ≤ m)
    (hk : (∀ x ∈ args, wfA x) → vcCode P U m c (envOf args) h (bodyK U rs Q)) : FnOK P f args h Q := by
  subst hm'; subst hr
  exact FnOK.of_vc hU hm hf hb hn hl hk

end
end Go.Ab

/- The rules by which simp carries out code over abstract values: regions that draw their order, copy. -/
set_option linter.unusedSimpArgs false
set_option linter.unusedVariables false
namespace Go.Ab
open Go

section
variable {P : Program} {U : TypeId → TI} {n : Nat} {ρ : Env} {h : Heap}
variable {d : Option Tmp} {t : TypeId} {p : String} {a : Array Edge} {g : Option (Nat × Bool)} {Q : AV → Heap → Prop} {k : AV → Prop}

/-- The slots that a row writes. -/
def dsts (n : Nat) : List Oper → Bool
  | [] => true
  | o :: os => dstOK n o.dst && dsts n os
theorem dsts_eq (l : List Oper) : dsts n l = l.all fun o => dstOK n o.dst := by induction l with
  | nil => rfl
  | cons o os ih => simp [dsts, ih]
@[go_sem] theorem dsts_nil : (dsts n [] = true) = True := by simp [dsts]
@[go_sem] theorem dsts_cons (o : Oper) (os : List Oper) : (dsts n (o :: os) = true) = (dstOK n o.dst = true ∧ dsts n os = true) := by simp [dsts]
/-- May the region's order be left open? -/
def LexOK (ops : Array Oper) : Prop := lexOK ops = true
theorem LexOK.of {ops : Array Oper} (h : lexOK ops = true) : LexOK ops := h
def constK (k : AV → Prop) (x : AV) (_ : Heap) : Prop := k x
@[go_sem ↓] theorem constK_eq (x : AV) : constK k x h = k x := rfl

/-- What comes behind an operation of a region that draws. -/
def KDr (P : Program) (U : TypeId → TI) (n : Nat) (all os : List Oper) (h : Heap) (K : Env → Prop) (ρ : Env) (d : Option Tmp) (x : AV) : Prop := vcDr P U n all os (put ρ d x) h K
@[go_sem ↓] theorem KDr_eq (all os : List Oper) (K : Env → Prop) (x : AV) : KDr P U n all os h K ρ d x = vcDr P U n all os (put ρ d x) h K := rfl
def atN (K : Exit → Env → Heap → Prop) (h : Heap) (ρ : Env) : Prop := K .normal ρ h
@[go_sem ↓] theorem atN_eq (K : Exit → Env → Heap → Prop) : atN K h ρ = K .normal ρ h := rfl
/-- May the order of all but the last be left open? -/
def LexS (ops : Array Oper) : Prop := lexS ops = true
theorem LexS.of {ops : Array Oper} (h : lexS ops = true) : LexS ops := h
attribute [go_sem] Bool.not_false Bool.not_true isStore Option.isNone_none Option.isNone_some Bool.and_true Bool.true_and Bool.and_false Bool.false_and List.dropLast_singleton
@[go_sem] theorem lastS_one (o : Oper) : lastS [o] = (isStore o.op && o.guard.isNone) := rfl
@[go_sem] theorem lastS_cons (o o' : Oper) (r : List Oper) : lastS (o :: o' :: r) = lastS (o' :: r) := rfl
@[go_sem] theorem dropLast_cons (o o' : Oper) (r : List Oper) : (o :: o' :: r).dropLast = o :: (o' :: r).dropLast := rfl
@[go_sem ↓] theorem lastK_one (o : Oper) (K : Env → Heap → Prop) : lastK P U [o] h K ρ = vcOp P U ρ h o (fun X h' => K (put ρ o.dst X) h') := rfl
@[go_sem ↓] theorem lastK_cons (o o' : Oper) (r : List Oper) (K : Env → Heap → Prop) : lastK P U (o :: o' :: r) h K ρ = lastK P U (o' :: r) h K ρ := rfl
def withL (l : List Oper) (k : List Oper → Prop) : Prop := k l
@[congr] theorem withL_congr {l l' : List Oper} {k : List Oper → Prop} (e : l = l') : withL l k = withL l' k := by rw [e]
@[go_sem] theorem withL_nil (k : List Oper → Prop) : withL [] k = k [] := rfl
@[go_sem] theorem withL_cons (o : Oper) (r : List Oper) (k : List Oper → Prop) : withL (o :: r) k = k (o :: r) := rfl
section
variable (l : List Oper)
@[go_sem] theorem stillL_nil : stillL [] = true := rfl
@[go_sem] theorem stillL_cons (o : Oper) : stillL (o :: l) = (!effB o.op && stillL l) := rfl
end
section
variable (x y z : Operand) (ty ty' : TypeId)
@[go_sem] theorem effB_move : effB (.move x) = false := rfl
@[go_sem] theorem effB_assign : effB (.assign x) = false := rfl
@[go_sem] theorem effB_pick : effB (.pick x y z) = false := rfl
@[go_sem] theorem effB_nilCheck : effB (.nilCheck x) = false := rfl
@[go_sem] theorem effB_binOp (op : BinOp) : effB (.binOp op ty x y ty') = false := rfl
@[go_sem] theorem effB_unOp (op : UnOp) : effB (.unOp op ty x) = false := rfl
@[go_sem] theorem effB_convert : effB (.convert ty ty' x) = false := rfl
@[go_sem] theorem effB_field (f : Nat) : effB (.field ty x f) = false := rfl
@[go_sem] theorem effB_extract (f : Nat) : effB (.extract x f) = false := rfl
@[go_sem] theorem effB_index : effB (.index ty x y) = false := rfl
@[go_sem] theorem effB_fieldAddr (f : Nat) : effB (.fieldAddr ty x f) = false := rfl
@[go_sem] theorem effB_indexAddr : effB (.indexAddr ty x y) = false := rfl
@[go_sem] theorem effB_load : effB (.load ty x) = false := rfl
@[go_sem] theorem effB_slice (lo hi mx : Option Operand) : effB (.slice ty x lo hi mx) = false := rfl
@[go_sem] theorem effB_buildSlice (m : Nat) (ps : Array (Nat × Operand)) : effB (.buildSlice ty m ps) = false := rfl
@[go_sem] theorem effB_build (ps : Array (Nat × Operand)) : effB (.build ty ps) = false := rfl
@[go_sem] theorem effB_makeInterface : effB (.makeInterface ty x) = false := rfl
@[go_sem] theorem effB_len (aa : Array Operand) (ts : Array TypeId) : effB (.call ⟨.builtin .len, aa, ts⟩) = false := rfl
@[go_sem] theorem effB_cap (aa : Array Operand) (ts : Array TypeId) : effB (.call ⟨.builtin .cap, aa, ts⟩) = false := rfl
@[go_sem] theorem effB_min (aa : Array Operand) (ts : Array TypeId) : effB (.call ⟨.builtin .min, aa, ts⟩) = false := rfl
@[go_sem] theorem effB_max (aa : Array Operand) (ts : Array TypeId) : effB (.call ⟨.builtin .max, aa, ts⟩) = false := rfl
@[go_sem] theorem effB_call (aa : Array Operand) (ts : Array TypeId) : effB (.call ⟨.value x, aa, ts⟩) = true := rfl
@[go_sem] theorem effB_append (aa : Array Operand) (ts : Array TypeId) : effB (.call ⟨.builtin .append, aa, ts⟩) = true := rfl
@[go_sem] theorem effB_copy (aa : Array Operand) (ts : Array TypeId) : effB (.call ⟨.builtin .copy, aa, ts⟩) = true := rfl
@[go_sem] theorem effB_alloc : effB (.alloc ty) = true := rfl
@[go_sem] theorem effB_box : effB (.box ty x) = true := rfl
@[go_sem] theorem effB_store : effB (.store ty x y) = true := rfl
@[go_sem] theorem effB_makeSlice : effB (.makeSlice ty x y) = true := rfl
@[go_sem] theorem effB_makeFunc (f : FuncId) (aa bs : Array Operand) : effB (.makeFunc (.func f) aa bs) = false := rfl
end
/-- A region that draws and holds operations that may change memory. -/
def DrawE (P : Program) (U : TypeId → TI) (n : Nat) (l : List Oper) (ρ : Env) (h : Heap) (K : Exit → Env → Heap → Prop) : Prop := vcDrE P U n l.toArray ρ h (K .normal)
/-- .. whose calls change nothing. -/
theorem DrawE.quiet {l : List Oper} {K : Exit → Env → Heap → Prop} (hB : lexOK l.toArray = true) (hk : dsts n l = true ∧ vcDr P U n l l ρ h (atN K h)) : DrawE P U n l ρ h K :=
  ⟨by rw [dsts_eq] at hk; exact hk.1, .inl ⟨hB, hk.2⟩⟩
/-- .. one at a time; beside them only 'hm' is read. -/
theorem DrawE.calls {l : List Oper} {K : Exit → Env → Heap → Prop} (hm : Heap) (os : List Nat) (hs : Sub hm h) (hB : orderOK .any l.toArray os (Array.replicate l.toArray.size false) = true) (hl : os.length = l.toArray.size)
    (hk : dsts n l = true ∧ vcDrH P U n l hm os ρ h (K .normal)) : DrawE P U n l ρ h K :=
  ⟨by rw [dsts_eq] at hk; exact hk.1, .inr (.inl ⟨hm, os, hs, hB, hl, hk.2⟩)⟩
/-- What comes behind all but the last. -/
def LastH (P : Program) (U : TypeId → TI) (l : List Oper) (K : Exit → Env → Heap → Prop) (ρ : Env) (h : Heap) : Prop := lastK P U l h (K .normal) ρ
@[go_sem ↓] theorem LastH_one (o : Oper) (K : Exit → Env → Heap → Prop) : LastH P U [o] K ρ h = vcOp P U ρ h o (fun X h' => K .normal (put ρ o.dst X) h') := rfl
@[go_sem ↓] theorem LastH_cons (o o' : Oper) (r : List Oper) (K : Exit → Env → Heap → Prop) : LastH P U (o :: o' :: r) K ρ h = LastH P U (o' :: r) K ρ h := rfl
/-- .. and the last of which waits for all the others. -/
theorem DrawE.last {l : List Oper} {K : Exit → Env → Heap → Prop} (hm : Heap) (os : List Nat) (hs : Sub hm h) (hz : zOKt .any l.toArray os.length = true) (hg : (l.getLast?.map fun o => o.guard.isNone) = some true) (hB : orderE .any l.toArray os.length os (Array.replicate l.toArray.size false) = true) (hl : os.length + 1 = l.toArray.size)
    (hk : dsts n l = true ∧ vcDrH P U n l hm os ρ h (LastH P U l K)) : DrawE P U n l ρ h K :=
  ⟨by rw [dsts_eq] at hk; exact hk.1, .inr (.inr ⟨hm, os, hs, hz, hg, hB, hl, hk.2⟩)⟩
/-- A region that draws: which kind is it? -/
def DrawC (P : Program) (U : TypeId → TI) (n : Nat) (l : List Oper) (ρ : Env) (h : Heap) (K : Exit → Env → Heap → Prop) (b : Bool) (e : Bool) : Prop := match b, e with
  | true, _ => LexS l.toArray ∧ dsts n l = true ∧ vcDr P U n l l.dropLast ρ h (lastK P U l h (K .normal))
  | false, true => LexOK l.toArray ∧ dsts n l = true ∧ vcDr P U n l l ρ h (atN K h)
  | false, false => DrawE P U n l ρ h K
@[congr] theorem DrawC_congr {l : List Oper} {K : Exit → Env → Heap → Prop} {b b' e e' : Bool} (h1 : b = b') (h2 : e = e') : DrawC P U n l ρ h K b e = DrawC P U n l ρ h K b' e' := by rw [h1, h2]
@[go_sem ↓] theorem DrawC_true (l : List Oper) (K : Exit → Env → Heap → Prop) (e : Bool) : DrawC P U n l ρ h K true e = (LexS l.toArray ∧ dsts n l = true ∧ withL l.dropLast fun l' => vcDr P U n l l' ρ h (lastK P U l h (K .normal))) := by cases e <;> rfl
@[go_sem ↓] theorem DrawC_false (l : List Oper) (K : Exit → Env → Heap → Prop) : DrawC P U n l ρ h K false true = (LexOK l.toArray ∧ dsts n l = true ∧ vcDr P U n l l ρ h (atN K h)) := rfl
@[go_sem ↓] theorem DrawC_eff (l : List Oper) (K : Exit → Env → Heap → Prop) : DrawC P U n l ρ h K false false = DrawE P U n l ρ h K := rfl
def stillD (l : List Oper) : Bool := lastS l && stillL l.dropLast
@[go_sem] theorem stillD_one (o : Oper) : stillD [o] = (isStore o.op && o.guard.isNone) := by simp [stillD, lastS, stillL]
@[go_sem] theorem stillD_cons (o o' : Oper) (r : List Oper) : stillD (o :: o' :: r) = (!effB o.op && stillD (o' :: r)) := by
  simp only [stillD, lastS_cons, dropLast_cons, stillL_cons]
  cases effB o.op <;> simp
@[go_sem ↓] theorem r_draw (id : Nat) (l : List Oper) (K : Exit → Env → Heap → Prop) : vcCode P U n (.region id l.toArray true) ρ h K = DrawC P U n l ρ h K (stillD l) (stillL l) := by
  simp only [vcCode, if_true, stillD]
  cases hb : (lastS l && stillL l.dropLast) with
  | true =>
    simp only [if_true, Bool.and_eq_true, DrawC, LexS, dsts_eq, and_assoc]
  | false =>
    cases he : stillL l with
    | true =>
      simp only [Bool.false_eq_true, if_false, Bool.and_eq_true, DrawC, LexOK, dsts_eq, and_assoc, Bool.true_eq_false]
      rfl
    | false =>
      simp only [Bool.false_eq_true, if_false, DrawC, if_true]
      rfl
/-- The walk of a region in an order of ours. -/
def KDrH (P : Program) (U : TypeId → TI) (n : Nat) (all : List Oper) (hm : Heap) (is : List Nat) (K : Env → Heap → Prop) (ρ : Env) (d : Option Tmp) (X : AV) (h : Heap) : Prop := vcDrH P U n all hm is (put ρ d X) h K
@[go_sem ↓] theorem KDrH_eq (all : List Oper) (hm : Heap) (is : List Nat) (K : Env → Heap → Prop) (d : Option Tmp) (X : AV) : KDrH P U n all hm is K ρ d X h = vcDrH P U n all hm is (put ρ d X) h K := rfl
def KDrS (P : Program) (U : TypeId → TI) (n : Nat) (all : List Oper) (hm : Heap) (is : List Nat) (K : Env → Heap → Prop) (ρ : Env) (d : Option Tmp) (X : AV) (h : Heap) : Prop := Sub hm h ∧ vcDrH P U n all hm is (put ρ d X) h K
@[go_sem ↓] theorem KDrS_eq (all : List Oper) (hm : Heap) (is : List Nat) (K : Env → Heap → Prop) (d : Option Tmp) (X : AV) : KDrS P U n all hm is K ρ d X h = (Sub hm h ∧ vcDrH P U n all hm is (put ρ d X) h K) := rfl
@[go_sem] theorem Sub_none : Sub (fun _ => none) h = True := eq_true fun _ _ e => by cases e
@[go_sem ↓] theorem h_nil (all : List Oper) (hm : Heap) (K : Env → Heap → Prop) : vcDrH P U n all hm [] ρ h K = K ρ h := rfl
/-- An operation, by whether it may change memory. -/
def OneH (P : Program) (U : TypeId → TI) (n : Nat) (all : List Oper) (hm : Heap) (is : List Nat) (K : Env → Heap → Prop) (ρ : Env) (h : Heap) (o : Oper) (e : Bool) : Prop := match e with
  | true => vcOp P U ρ h o (KDrS P U n all hm is K ρ o.dst)
  | false => pv U ρ hm o.op fun X => vcDrH P U n all hm is (put ρ o.dst X) h K
@[congr] theorem OneH_congr {all : List Oper} {hm : Heap} {is : List Nat} {K : Env → Heap → Prop} {o : Oper} {e e' : Bool} (he : e = e') : OneH P U n all hm is K ρ h o e = OneH P U n all hm is K ρ h o e' := by rw [he]
/-- All else reads aa it does elsewhere, in the memory that stays. -/
def constH (k : AV → Heap → Prop) (h : Heap) (x : AV) (_ : Heap) : Prop := k x h
@[go_sem ↓] theorem constH_eq (k : AV → Heap → Prop) (h h' : Heap) (x : AV) : constH k h x h' = k x h := rfl
@[go_sem ↓] theorem OneH_true (all : List Oper) (hm : Heap) (is : List Nat) (K : Env → Heap → Prop) (op : Op) : OneH P U n all hm is K ρ h ⟨d, op, t, p, a, g⟩ true = vcOp P U ρ h ⟨d, op, t, p, a, g⟩ (KDrS P U n all hm is K ρ d) := rfl
def notNil : Op → Bool
  | .binOp _ _ _ y _ => !nilS y
  | _ => true
theorem pv_vcOp {hm : Heap} {op : Op} {k : AV → Heap → Prop} (h1 : effB op = false) (h2 : notNil op = true) : vcOp P U ρ hm ⟨d, op, t, p, a, g⟩ (constH k h) = pv U ρ hm op fun X => k X h := by
  cases op with
  | call c =>
    obtain ⟨cal, args, ts⟩ := c
    cases cal with
    | value q => simp [effB] at h1
    | builtin b => cases b <;> first | rfl | simp [effB] at h1
    | _ => rfl
  | binOp op ty x y ty' =>
    simp only [notNil, Bool.not_eq_true'] at h2
    simp only [vcOp, h2]
    rfl
  | alloc => simp [effB] at h1
  | box => simp [effB] at h1
  | store => simp [effB] at h1
  | makeSlice => simp [effB] at h1
  | _ => rfl
theorem OneH_false {all : List Oper} {hm : Heap} {is : List Nat} {K : Env → Heap → Prop} {op : Op} (h1 : effB op = false) (h2 : notNil op = true) :
    OneH P U n all hm is K ρ h ⟨d, op, t, p, a, g⟩ false = vcOp P U ρ hm ⟨d, op, t, p, a, g⟩ (constH (KDrH P U n all hm is K ρ d) h) := by
  rw [pv_vcOp h1 h2]; rfl
section
variable (all : List Oper) (hm : Heap) (is : List Nat) (K : Env → Heap → Prop) (x y z : Operand) (ty ty' : TypeId)
@[go_sem ↓] theorem OneH_move : OneH P U n all hm is K ρ h ⟨d, .move x, t, p, a, g⟩ false = vcOp P U ρ hm ⟨d, .move x, t, p, a, g⟩ (constH (KDrH P U n all hm is K ρ d) h) := OneH_false rfl rfl
@[go_sem ↓] theorem OneH_assign : OneH P U n all hm is K ρ h ⟨d, .assign x, t, p, a, g⟩ false = vcOp P U ρ hm ⟨d, .assign x, t, p, a, g⟩ (constH (KDrH P U n all hm is K ρ d) h) := OneH_false rfl rfl
@[go_sem ↓] theorem OneH_pick : OneH P U n all hm is K ρ h ⟨d, .pick x y z, t, p, a, g⟩ false = vcOp P U ρ hm ⟨d, .pick x y z, t, p, a, g⟩ (constH (KDrH P U n all hm is K ρ d) h) := OneH_false rfl rfl
@[go_sem ↓] theorem OneH_nilCheck : OneH P U n all hm is K ρ h ⟨d, .nilCheck x, t, p, a, g⟩ false = vcOp P U ρ hm ⟨d, .nilCheck x, t, p, a, g⟩ (constH (KDrH P U n all hm is K ρ d) h) := OneH_false rfl rfl
@[go_sem ↓] theorem OneH_unOp (op : UnOp) : OneH P U n all hm is K ρ h ⟨d, .unOp op ty x, t, p, a, g⟩ false = vcOp P U ρ hm ⟨d, .unOp op ty x, t, p, a, g⟩ (constH (KDrH P U n all hm is K ρ d) h) := OneH_false rfl rfl
@[go_sem ↓] theorem OneH_convert : OneH P U n all hm is K ρ h ⟨d, .convert ty ty' x, t, p, a, g⟩ false = vcOp P U ρ hm ⟨d, .convert ty ty' x, t, p, a, g⟩ (constH (KDrH P U n all hm is K ρ d) h) := OneH_false rfl rfl
@[go_sem ↓] theorem OneH_field (f : Nat) : OneH P U n all hm is K ρ h ⟨d, .field ty x f, t, p, a, g⟩ false = vcOp P U ρ hm ⟨d, .field ty x f, t, p, a, g⟩ (constH (KDrH P U n all hm is K ρ d) h) := OneH_false rfl rfl
@[go_sem ↓] theorem OneH_extract (f : Nat) : OneH P U n all hm is K ρ h ⟨d, .extract x f, t, p, a, g⟩ false = vcOp P U ρ hm ⟨d, .extract x f, t, p, a, g⟩ (constH (KDrH P U n all hm is K ρ d) h) := OneH_false rfl rfl
@[go_sem ↓] theorem OneH_index : OneH P U n all hm is K ρ h ⟨d, .index ty x y, t, p, a, g⟩ false = vcOp P U ρ hm ⟨d, .index ty x y, t, p, a, g⟩ (constH (KDrH P U n all hm is K ρ d) h) := OneH_false rfl rfl
@[go_sem ↓] theorem OneH_fieldAddr (f : Nat) : OneH P U n all hm is K ρ h ⟨d, .fieldAddr ty x f, t, p, a, g⟩ false = vcOp P U ρ hm ⟨d, .fieldAddr ty x f, t, p, a, g⟩ (constH (KDrH P U n all hm is K ρ d) h) := OneH_false rfl rfl
@[go_sem ↓] theorem OneH_indexAddr : OneH P U n all hm is K ρ h ⟨d, .indexAddr ty x y, t, p, a, g⟩ false = vcOp P U ρ hm ⟨d, .indexAddr ty x y, t, p, a, g⟩ (constH (KDrH P U n all hm is K ρ d) h) := OneH_false rfl rfl
@[go_sem ↓] theorem OneH_load : OneH P U n all hm is K ρ h ⟨d, .load ty x, t, p, a, g⟩ false = vcOp P U ρ hm ⟨d, .load ty x, t, p, a, g⟩ (constH (KDrH P U n all hm is K ρ d) h) := OneH_false rfl rfl
@[go_sem ↓] theorem OneH_slice (lo hi mx : Option Operand) : OneH P U n all hm is K ρ h ⟨d, .slice ty x lo hi mx, t, p, a, g⟩ false = vcOp P U ρ hm ⟨d, .slice ty x lo hi mx, t, p, a, g⟩ (constH (KDrH P U n all hm is K ρ d) h) := OneH_false rfl rfl
@[go_sem ↓] theorem OneH_buildSlice (m : Nat) (ps : Array (Nat × Operand)) : OneH P U n all hm is K ρ h ⟨d, .buildSlice ty m ps, t, p, a, g⟩ false = vcOp P U ρ hm ⟨d, .buildSlice ty m ps, t, p, a, g⟩ (constH (KDrH P U n all hm is K ρ d) h) := OneH_false rfl rfl
@[go_sem ↓] theorem OneH_build (ps : Array (Nat × Operand)) : OneH P U n all hm is K ρ h ⟨d, .build ty ps, t, p, a, g⟩ false = vcOp P U ρ hm ⟨d, .build ty ps, t, p, a, g⟩ (constH (KDrH P U n all hm is K ρ d) h) := OneH_false rfl rfl
@[go_sem ↓] theorem OneH_makeInterface : OneH P U n all hm is K ρ h ⟨d, .makeInterface ty x, t, p, a, g⟩ false = vcOp P U ρ hm ⟨d, .makeInterface ty x, t, p, a, g⟩ (constH (KDrH P U n all hm is K ρ d) h) := OneH_false rfl rfl
@[go_sem ↓] theorem OneH_len (aa : Array Operand) (ts : Array TypeId) : OneH P U n all hm is K ρ h ⟨d, .call ⟨.builtin .len, aa, ts⟩, t, p, a, g⟩ false = vcOp P U ρ hm ⟨d, .call ⟨.builtin .len, aa, ts⟩, t, p, a, g⟩ (constH (KDrH P U n all hm is K ρ d) h) := OneH_false rfl rfl
@[go_sem ↓] theorem OneH_cap (aa : Array Operand) (ts : Array TypeId) : OneH P U n all hm is K ρ h ⟨d, .call ⟨.builtin .cap, aa, ts⟩, t, p, a, g⟩ false = vcOp P U ρ hm ⟨d, .call ⟨.builtin .cap, aa, ts⟩, t, p, a, g⟩ (constH (KDrH P U n all hm is K ρ d) h) := OneH_false rfl rfl
@[go_sem ↓] theorem OneH_min (aa : Array Operand) (ts : Array TypeId) : OneH P U n all hm is K ρ h ⟨d, .call ⟨.builtin .min, aa, ts⟩, t, p, a, g⟩ false = vcOp P U ρ hm ⟨d, .call ⟨.builtin .min, aa, ts⟩, t, p, a, g⟩ (constH (KDrH P U n all hm is K ρ d) h) := OneH_false rfl rfl
@[go_sem ↓] theorem OneH_max (aa : Array Operand) (ts : Array TypeId) : OneH P U n all hm is K ρ h ⟨d, .call ⟨.builtin .max, aa, ts⟩, t, p, a, g⟩ false = vcOp P U ρ hm ⟨d, .call ⟨.builtin .max, aa, ts⟩, t, p, a, g⟩ (constH (KDrH P U n all hm is K ρ d) h) := OneH_false rfl rfl
@[go_sem ↓] theorem OneH_binOp (op : BinOp) (w : Tmp) : OneH P U n all hm is K ρ h ⟨d, .binOp op ty x (.tmp w) ty', t, p, a, g⟩ false = vcOp P U ρ hm ⟨d, .binOp op ty x (.tmp w) ty', t, p, a, g⟩ (constH (KDrH P U n all hm is K ρ d) h) := OneH_false rfl rfl
@[go_sem ↓] theorem OneH_binOp_i (op : BinOp) (ik : IntKind) (im : Int) : OneH P U n all hm is K ρ h ⟨d, .binOp op ty x (.const (.int ik im)) ty', t, p, a, g⟩ false = vcOp P U ρ hm ⟨d, .binOp op ty x (.const (.int ik im)) ty', t, p, a, g⟩ (constH (KDrH P U n all hm is K ρ d) h) := OneH_false rfl rfl
@[go_sem ↓] theorem OneH_binOp_b (op : BinOp) (w : Bool) : OneH P U n all hm is K ρ h ⟨d, .binOp op ty x (.const (.bool w)) ty', t, p, a, g⟩ false = vcOp P U ρ hm ⟨d, .binOp op ty x (.const (.bool w)) ty', t, p, a, g⟩ (constH (KDrH P U n all hm is K ρ d) h) := OneH_false rfl rfl
@[go_sem ↓] theorem OneH_binOp_s (op : BinOp) (w : ByteArray) : OneH P U n all hm is K ρ h ⟨d, .binOp op ty x (.const (.string w)) ty', t, p, a, g⟩ false = vcOp P U ρ hm ⟨d, .binOp op ty x (.const (.string w)) ty', t, p, a, g⟩ (constH (KDrH P U n all hm is K ρ d) h) := OneH_false rfl rfl
@[go_sem ↓] theorem OneH_binOp_p (op : BinOp) (w : Option Addr) : OneH P U n all hm is K ρ h ⟨d, .binOp op ty x (.const (.pointer w)) ty', t, p, a, g⟩ false = vcOp P U ρ hm ⟨d, .binOp op ty x (.const (.pointer w)) ty', t, p, a, g⟩ (constH (KDrH P U n all hm is K ρ d) h) := OneH_false rfl rfl
@[go_sem ↓] theorem OneH_makeFunc (f : FuncId) (aa : List Operand) : OneH P U n all hm is K ρ h ⟨d, .makeFunc (.func f) #[] aa.toArray, t, p, a, g⟩ false = vcOp P U ρ hm ⟨d, .makeFunc (.func f) #[] aa.toArray, t, p, a, g⟩ (constH (KDrH P U n all hm is K ρ d) h) := OneH_false rfl rfl
end
/-- .. under a guard. -/
def GuardH (P : Program) (U : TypeId → TI) (n : Nat) (all : List Oper) (hm : Heap) (is : List Nat) (ρ : Env) (h : Heap) (K : Env → Heap → Prop) (w : Bool) (o : Oper) (s : Nat) (x : AV) : Prop :=
  gB s w ρ (fun ρ => OneH P U n all hm is K ρ h o (effB o.op)) (fun ρ => vcDrH P U n all hm is (put ρ o.dst (.v undef)) h K) x
section
variable {all : List Oper} {hm : Heap} {is : List Nat} {K : Env → Heap → Prop} {o : Oper} {s : Nat}
@[go_sem ↓] theorem GuardH_tt : GuardH P U n all hm is ρ h K true o s (.v (.bool true)) = OneH P U n all hm is K ((s, .v (.bool true)) :: ρ) h o (effB o.op) := by simp [GuardH, gB, Br]
@[go_sem ↓] theorem GuardH_tf : GuardH P U n all hm is ρ h K true o s (.v (.bool false)) = vcDrH P U n all hm is (put ((s, .v (.bool false)) :: ρ) o.dst (.v undef)) h K := by simp [GuardH, gB, Br]
@[go_sem ↓] theorem GuardH_ft : GuardH P U n all hm is ρ h K false o s (.v (.bool true)) = vcDrH P U n all hm is (put ((s, .v (.bool true)) :: ρ) o.dst (.v undef)) h K := by simp [GuardH, gB, Br]
@[go_sem ↓] theorem GuardH_ff : GuardH P U n all hm is ρ h K false o s (.v (.bool false)) = OneH P U n all hm is K ((s, .v (.bool false)) :: ρ) h o (effB o.op) := by simp [GuardH, gB, Br]
@[go_sem ↓] theorem GuardH_undef (w : Bool) : GuardH P U n all hm is ρ h K w o s (.v undef) = vcDrH P U n all hm is (put ρ o.dst (.v undef)) h K := rfl
theorem GuardH.intro {w b : Bool} (h1 : b = true → GuardH P U n all hm is ρ h K w o s (.v (.bool true))) (h2 : b = false → GuardH P U n all hm is ρ h K w o s (.v (.bool false))) : GuardH P U n all hm is ρ h K w o s (.v (.bool b)) := by
  cases b
  · exact h2 rfl
  · exact h1 rfl
end
/-- The operation at a place. -/
def stepH (P : Program) (U : TypeId → TI) (n : Nat) (all : List Oper) (hm : Heap) (is : List Nat) (ρ : Env) (h : Heap) (K : Env → Heap → Prop) (o : Oper) : Prop := match o.guard with
  | none => OneH P U n all hm is K ρ h o (effB o.op)
  | some (gi, w) => bindO (dstAt all gi) fun s => bindO (lk ρ s) (GuardH P U n all hm is ρ h K w o s)
@[go_sem ↓] theorem stepH_none (all : List Oper) (hm : Heap) (is : List Nat) (K : Env → Heap → Prop) (op : Op) : stepH P U n all hm is ρ h K ⟨d, op, t, p, a, none⟩ = OneH P U n all hm is K ρ h ⟨d, op, t, p, a, none⟩ (effB op) := rfl
@[go_sem ↓] theorem stepH_some (all : List Oper) (hm : Heap) (is : List Nat) (K : Env → Heap → Prop) (op : Op) (gi : Nat) (w : Bool) : stepH P U n all hm is ρ h K ⟨d, op, t, p, a, some (gi, w)⟩ = bindO (dstAt all gi) fun s => bindO (lk ρ s) (GuardH P U n all hm is ρ h K w ⟨d, op, t, p, a, some (gi, w)⟩ s) := rfl
@[go_sem ↓] theorem h_cons (all : List Oper) (hm : Heap) (i : Nat) (is : List Nat) (K : Env → Heap → Prop) : vcDrH P U n all hm (i :: is) ρ h K = bindO all[i]? (stepH P U n all hm is ρ h K) := by
  simp only [vcDrH]
  cases all[i]? with
  | none => rfl
  | some o =>
    simp only [bindO_some, stepH]
    have e : ∀ ρ', vcOne P U hm o ρ' h (fun X h' => vcDrH P U n all hm is (put ρ' o.dst X) h' K) = OneH P U n all hm is K ρ' h o (effB o.op) := fun ρ' => by
      unfold vcOne OneH vcE
      cases effB o.op <;> rfl
    cases hg : o.guard with
    | none => simp only [guardA]; exact e ρ
    | some gg =>
      obtain ⟨gi, w⟩ := gg
      simp only
      rw [guardA_eq]
      simp only [e]
      rfl
@[go_sem ↓] theorem d_nil (all : List Oper) (K : Env → Prop) : vcDr P U n all [] ρ h K = K ρ := rfl
@[go_sem ↓] theorem d_cons (all : List Oper) (op : Op) (os : List Oper) (K : Env → Prop) :
    vcDr P U n all (⟨d, op, t, p, a, none⟩ :: os) ρ h K = (dstOK n d = true ∧ vcD1 P U ρ h ⟨d, op, t, p, a, none⟩ (KDr P U n all os h K ρ d)) := rfl
/-- A guard within a region that draws. -/
def GuardD (P : Program) (U : TypeId → TI) (n : Nat) (all os : List Oper) (ρ : Env) (h : Heap) (K : Env → Prop) (w : Bool) (d : Option Tmp) (op : Op) (t : TypeId) (p : String) (a : Array Edge) (g : Option (Nat × Bool)) (s : Nat) (x : AV) : Prop :=
  gB s w ρ (fun ρ => vcD1 P U ρ h ⟨d, op, t, p, a, g⟩ (KDr P U n all os h K ρ d)) (fun ρ => vcDr P U n all os (put ρ d (.v undef)) h K) x
section
variable {all os : List Oper} {K : Env → Prop} {op : Op} {s : Nat}
@[go_sem ↓] theorem GuardD_tt : GuardD P U n all os ρ h K true d op t p a g s (.v (.bool true)) = vcD1 P U ((s, .v (.bool true)) :: ρ) h ⟨d, op, t, p, a, g⟩ (KDr P U n all os h K ((s, .v (.bool true)) :: ρ) d) := by simp [GuardD, gB, Br]
@[go_sem ↓] theorem GuardD_tf : GuardD P U n all os ρ h K true d op t p a g s (.v (.bool false)) = vcDr P U n all os (put ((s, .v (.bool false)) :: ρ) d (.v undef)) h K := by simp [GuardD, gB, Br]
@[go_sem ↓] theorem GuardD_ft : GuardD P U n all os ρ h K false d op t p a g s (.v (.bool true)) = vcDr P U n all os (put ((s, .v (.bool true)) :: ρ) d (.v undef)) h K := by simp [GuardD, gB, Br]
@[go_sem ↓] theorem GuardD_ff : GuardD P U n all os ρ h K false d op t p a g s (.v (.bool false)) = vcD1 P U ((s, .v (.bool false)) :: ρ) h ⟨d, op, t, p, a, g⟩ (KDr P U n all os h K ((s, .v (.bool false)) :: ρ) d) := by simp [GuardD, gB, Br]
@[go_sem ↓] theorem GuardD_undef (w : Bool) : GuardD P U n all os ρ h K w d op t p a g s (.v undef) = vcDr P U n all os (put ρ d (.v undef)) h K := rfl
theorem GuardD.intro {w b : Bool} (h1 : b = true → GuardD P U n all os ρ h K w d op t p a g s (.v (.bool true))) (h2 : b = false → GuardD P U n all os ρ h K w d op t p a g s (.v (.bool false))) : GuardD P U n all os ρ h K w d op t p a g s (.v (.bool b)) := by
  cases b
  · exact h2 rfl
  · exact h1 rfl
end
@[go_sem ↓] theorem d_guard (all : List Oper) (op : Op) (gi : Nat) (w : Bool) (os : List Oper) (K : Env → Prop) :
    vcDr P U n all (⟨d, op, t, p, a, some (gi, w)⟩ :: os) ρ h K = (dstOK n d = true ∧ bindO (dstAt all gi) fun s => bindO (lk ρ s) (GuardD P U n all os ρ h K w d op t p a (some (gi, w)) s)) := by
  have := guardA_eq (ρ := ρ) all gi w (fun ρ => vcD1 P U ρ h ⟨d, op, t, p, a, some (gi, w)⟩ (KDr P U n all os h K ρ d)) (fun ρ => vcDr P U n all os (put ρ d (.v undef)) h K)
  show (dstOK n d = true ∧ guardA all ρ (some (gi, w)) _ _) = _
  rw [show (fun s => bindO (lk ρ s) (GuardD P U n all os ρ h K w d op t p a (some (gi, w)) s)) = fun d_1 => bindO (lk ρ d_1) fun x => gB d_1 w ρ (fun ρ => vcD1 P U ρ h ⟨d, op, t, p, a, some (gi, w)⟩ (KDr P U n all os h K ρ d)) (fun ρ => vcDr P U n all os (put ρ d (.v undef)) h K) x from rfl, ← this]
  rfl

/-- A call of a function that changes nothing owned and comes to a value that hangs on nothing but its arguments. -/
def FnD (P : Program) (f : FuncId) (args : List AV) (h : Heap) (k : AV → Prop) : Prop := ∃ X, FnOK P f args h (fun x h' => x = X ∧ h' = h) ∧ k X
@[congr] theorem FnD_congr {f f' : FuncId} {a a' : List AV} {h h' : Heap} (h0 : f = f') (h1 : a = a') (h2 : h = h') : FnD P f a h k = FnD P f' a' h' k := by rw [h0, h1, h2]
@[go_sem ↓] theorem d1_call (q : Operand) (args : List Operand) (ts : Array TypeId) : vcD1 P U ρ h ⟨d, .call ⟨.value q, args.toArray, ts⟩, t, p, a, g⟩ k = bindO (ev ρ q) fun y => fnA y fun f cap => bindO (evs ρ args) fun ys => FnD P f (ys ++ cap) h k := by
  simp only [vcD1, withv_eq, withvs_eq]
  congr 1
/-- All else reads as it does elsewhere. -/
def opD (P : Program) (U : TypeId → TI) (ρ : Env) (h : Heap) (d : Option Tmp) (op : Op) (t : TypeId) (p : String) (a : Array Edge) (g : Option (Nat × Bool)) (k : AV → Prop) : Prop := vcOp P U ρ h ⟨d, op, t, p, a, g⟩ (constK k)
@[go_sem ↓] theorem opD_eq (op : Op) : opD P U ρ h d op t p a g k = vcOp P U ρ h ⟨d, op, t, p, a, g⟩ (constK k) := rfl
section
@[go_sem ↓] theorem d1_move (x : Operand) : vcD1 P U ρ h ⟨d, .move x, t, p, a, g⟩ k = opD P U ρ h d (.move x) t p a g k := rfl
@[go_sem ↓] theorem d1_assign (x : Operand) : vcD1 P U ρ h ⟨d, .assign x, t, p, a, g⟩ k = opD P U ρ h d (.assign x) t p a g k := rfl
@[go_sem ↓] theorem d1_pick (x y z : Operand) : vcD1 P U ρ h ⟨d, .pick x y z, t, p, a, g⟩ k = opD P U ρ h d (.pick x y z) t p a g k := rfl
@[go_sem ↓] theorem d1_nilCheck (x : Operand) : vcD1 P U ρ h ⟨d, .nilCheck x, t, p, a, g⟩ k = opD P U ρ h d (.nilCheck x) t p a g k := rfl
theorem d1_bin0 (op : BinOp) (ty ty' : TypeId) (x y : Operand) (hy : nilS y = false) : vcD1 P U ρ h ⟨d, .binOp op ty x y ty', t, p, a, g⟩ k = opD P U ρ h d (.binOp op ty x y ty') t p a g k := by
  simp only [vcD1, opD, vcOp, hy]
  rfl
@[go_sem ↓] theorem d1_binOp (op : BinOp) (ty ty' : TypeId) (x : Operand) (y : Tmp) : vcD1 P U ρ h ⟨d, .binOp op ty x (.tmp y) ty', t, p, a, g⟩ k = opD P U ρ h d (.binOp op ty x (.tmp y) ty') t p a g k := d1_bin0 _ _ _ _ _ rfl
@[go_sem ↓] theorem d1_binOp_i (op : BinOp) (ty ty' : TypeId) (x : Operand) (ik : IntKind) (im : Int) : vcD1 P U ρ h ⟨d, .binOp op ty x (.const (.int ik im)) ty', t, p, a, g⟩ k = opD P U ρ h d (.binOp op ty x (.const (.int ik im)) ty') t p a g k := d1_bin0 _ _ _ _ _ rfl
@[go_sem ↓] theorem d1_binOp_b (op : BinOp) (ty ty' : TypeId) (x : Operand) (b : Bool) : vcD1 P U ρ h ⟨d, .binOp op ty x (.const (.bool b)) ty', t, p, a, g⟩ k = opD P U ρ h d (.binOp op ty x (.const (.bool b)) ty') t p a g k := d1_bin0 _ _ _ _ _ rfl
@[go_sem ↓] theorem d1_binOp_s (op : BinOp) (ty ty' : TypeId) (x : Operand) (b : ByteArray) : vcD1 P U ρ h ⟨d, .binOp op ty x (.const (.string b)) ty', t, p, a, g⟩ k = opD P U ρ h d (.binOp op ty x (.const (.string b)) ty') t p a g k := d1_bin0 _ _ _ _ _ rfl
@[go_sem ↓] theorem d1_binOp_p (op : BinOp) (ty ty' : TypeId) (x : Operand) (b : Option Addr) : vcD1 P U ρ h ⟨d, .binOp op ty x (.const (.pointer b)) ty', t, p, a, g⟩ k = opD P U ρ h d (.binOp op ty x (.const (.pointer b)) ty') t p a g k := d1_bin0 _ _ _ _ _ rfl
@[go_sem ↓] theorem d1_unOp (op : UnOp) (ty : TypeId) (x : Operand) : vcD1 P U ρ h ⟨d, .unOp op ty x, t, p, a, g⟩ k = opD P U ρ h d (.unOp op ty x) t p a g k := rfl
@[go_sem ↓] theorem d1_convert (s e : TypeId) (x : Operand) : vcD1 P U ρ h ⟨d, .convert s e x, t, p, a, g⟩ k = opD P U ρ h d (.convert s e x) t p a g k := rfl
@[go_sem ↓] theorem d1_field (ty : TypeId) (x : Operand) (f : Nat) : vcD1 P U ρ h ⟨d, .field ty x f, t, p, a, g⟩ k = opD P U ρ h d (.field ty x f) t p a g k := rfl
@[go_sem ↓] theorem d1_extract (x : Operand) (i : Nat) : vcD1 P U ρ h ⟨d, .extract x i, t, p, a, g⟩ k = opD P U ρ h d (.extract x i) t p a g k := rfl
@[go_sem ↓] theorem d1_index (ty : TypeId) (x i : Operand) : vcD1 P U ρ h ⟨d, .index ty x i, t, p, a, g⟩ k = opD P U ρ h d (.index ty x i) t p a g k := rfl
@[go_sem ↓] theorem d1_fieldAddr (ty : TypeId) (x : Operand) (f : Nat) : vcD1 P U ρ h ⟨d, .fieldAddr ty x f, t, p, a, g⟩ k = opD P U ρ h d (.fieldAddr ty x f) t p a g k := rfl
@[go_sem ↓] theorem d1_indexAddr (ty : TypeId) (x i : Operand) : vcD1 P U ρ h ⟨d, .indexAddr ty x i, t, p, a, g⟩ k = opD P U ρ h d (.indexAddr ty x i) t p a g k := rfl
@[go_sem ↓] theorem d1_load (ty : TypeId) (x : Operand) : vcD1 P U ρ h ⟨d, .load ty x, t, p, a, g⟩ k = opD P U ρ h d (.load ty x) t p a g k := rfl
@[go_sem ↓] theorem d1_slice (ty : TypeId) (x : Operand) (lo hi mx : Option Operand) : vcD1 P U ρ h ⟨d, .slice ty x lo hi mx, t, p, a, g⟩ k = opD P U ρ h d (.slice ty x lo hi mx) t p a g k := rfl
@[go_sem ↓] theorem d1_buildSlice (ty : TypeId) (len : Nat) (parts : Array (Nat × Operand)) : vcD1 P U ρ h ⟨d, .buildSlice ty len parts, t, p, a, g⟩ k = opD P U ρ h d (.buildSlice ty len parts) t p a g k := rfl
@[go_sem ↓] theorem d1_build (ty : TypeId) (parts : Array (Nat × Operand)) : vcD1 P U ρ h ⟨d, .build ty parts, t, p, a, g⟩ k = opD P U ρ h d (.build ty parts) t p a g k := rfl
@[go_sem ↓] theorem d1_makeInterface (ty : TypeId) (x : Operand) : vcD1 P U ρ h ⟨d, .makeInterface ty x, t, p, a, g⟩ k = opD P U ρ h d (.makeInterface ty x) t p a g k := rfl
@[go_sem ↓] theorem d1_len (x : Operand) (ty : TypeId) : vcD1 P U ρ h ⟨d, .call ⟨.builtin .len, #[x], #[ty]⟩, t, p, a, g⟩ k = opD P U ρ h d (.call ⟨.builtin .len, #[x], #[ty]⟩) t p a g k := rfl
@[go_sem ↓] theorem d1_cap (x : Operand) (ty : TypeId) : vcD1 P U ρ h ⟨d, .call ⟨.builtin .cap, #[x], #[ty]⟩, t, p, a, g⟩ k = opD P U ρ h d (.call ⟨.builtin .cap, #[x], #[ty]⟩) t p a g k := rfl
@[go_sem ↓] theorem d1_min (args : Array Operand) (ts : Array TypeId) : vcD1 P U ρ h ⟨d, .call ⟨.builtin .min, args, ts⟩, t, p, a, g⟩ k = opD P U ρ h d (.call ⟨.builtin .min, args, ts⟩) t p a g k := rfl
@[go_sem ↓] theorem d1_max (args : Array Operand) (ts : Array TypeId) : vcD1 P U ρ h ⟨d, .call ⟨.builtin .max, args, ts⟩, t, p, a, g⟩ k = opD P U ρ h d (.call ⟨.builtin .max, args, ts⟩) t p a g k := rfl
end

/-! ### copy -/
@[go_sem ↓] theorem srcA_oa (e : TypeId) (id off len : Nat) (f : List AV → Prop) : srcA U e h (.oa id off len) f = ((U e).sz = 1 ∧ bindO (h id) fun b => objL b fun cs _ => off + len ≤ cs.length ∧ (∀ x ∈ (cs.drop off).take len, x.cells.length = 1) ∧ (∀ x ∈ (cs.drop off).take len, isAggA x = false) ∧ f ((cs.drop off).take len)) := by
  simp only [srcA]
  congr 1
  cases h id with
  | none => rfl
  | some b => cases b <;> rfl
def cpK (U : TypeId → TI) (h : Heap) (x y : AV) (Q : AV → Heap → Prop) (tk : TK) : Prop := match tk, x with
  | .slice e, .oa id off len => (U e).sz = 1 ∧ srcA U e h y fun ys => Sized 1 ys ∧ (∀ z ∈ ys, isAggA z = false) ∧ bindO (h id) fun b => objL b fun cs t =>
      ys.length ≤ len ∧ off + len ≤ cs.length ∧ Q (.v (.int .i64 ys.length)) (upd h id (some (.obj (over cs off ys) t)))
  | _, _ => False
@[go_sem ↓] theorem cpK_oa (id off len : Nat) (y : AV) (e : TypeId) : cpK U h (.oa id off len) y Q (.slice e) = ((U e).sz = 1 ∧ srcA U e h y fun ys => Sized 1 ys ∧ (∀ z ∈ ys, isAggA z = false) ∧ bindO (h id) fun b => objL b fun cs t =>
      ys.length ≤ len ∧ off + len ≤ cs.length ∧ Q (.v (.int .i64 ys.length)) (upd h id (some (.obj (over cs off ys) t)))) := rfl
@[go_sem ↓] theorem o_copy (x y : Operand) (t1 t2 : TypeId) : vcOp P U ρ h ⟨d, .call ⟨.builtin .copy, #[x, y], #[t1, t2]⟩, t, p, a, g⟩ Q = bindO (ev ρ x) fun u => bindO (ev ρ y) fun v => atK (U t1).k (cpK U h u v Q) := by
  simp only [vcOp, withv_eq, vcCopy, atK]
  congr 1
  funext u
  congr 1
  funext v
  cases (U t1).k with
  | slice e =>
    cases u with
    | oa id off len =>
      refine congrArg (fun f => (U e).sz = 1 ∧ srcA U e h v f) (funext fun ys => ?_)
      refine congrArg (fun q => Sized 1 ys ∧ (∀ z ∈ ys, isAggA z = false) ∧ q) ?_
      cases h id with
      | none => rfl
      | some b => cases b <;> rfl
    | _ => simp [cpK]
  | _ => simp [cpK]
end
end Go.Ab

/- Bytes: a row of bytes, in whatever shape a slice of them is known. -/
set_option linter.unusedSimpArgs false
set_option linter.unusedVariables false
namespace Go.Ab
open Go

section
variable {P : Program} {U : TypeId → TI} {n : Nat} {ρ : Env} {h h' : Heap} {tb : TypeId} {y : AV} {l : List UInt8}

@[go_sem] theorem byteA_eq (c : UInt8) : byteA c = .v (.int .u8 c.toNat) := rfl
theorem byteA_inj {a b : UInt8} : byteA a = byteA b ↔ a = b := by
  simp only [byteA, AV.v.injEq, Value.int.injEq, true_and, Int.natCast_inj, UInt8.toNat_inj]
theorem mapByte_inj {a b : List UInt8} : a.map byteA = b.map byteA ↔ a = b :=
  ⟨fun e => List.map_inj_right (fun _ _ h => byteA_inj.1 h) |>.1 e, fun e => by rw [e]⟩
@[go_sem] theorem Sized_bytes (l : List UInt8) : Sized 1 (l.map byteA) = True := by
  apply eq_true
  intro z hz
  obtain ⟨c, _, rfl⟩ := List.mem_map.1 hz
  rfl
@[go_sem] theorem Sized_nil (m : Nat) : Sized m [] = True := by simp [Sized]
@[go_sem] theorem Sized_cons (m : Nat) (x : AV) (r : List AV) : Sized m (x :: r) = (x.cells.length = m ∧ Sized m r) := by simp [Sized]
theorem noAgg_bytes (l : List UInt8) : ∀ z ∈ l.map byteA, isAggA z = false := by
  intro z hz
  obtain ⟨c, _, rfl⟩ := List.mem_map.1 hz
  rfl
@[go_sem] theorem noAgg_bytes' (l : List UInt8) : (∀ z ∈ l.map byteA, isAggA z = false) = True := eq_true (noAgg_bytes l)
@[go_sem] theorem length_bytes (l : List UInt8) : (l.map byteA).length = l.length := List.length_map ..

/-- Nothing that is owned is gone or other. -/
theorem Sub.upd_new {id : Nat} {k : Option Blk} (hid : h id = Option.none) : Sub h (Ab.upd h id k) := (Sub.refl h).new hid k
/-- All that is owned but one thing is as it was. -/
def Keep (id : Nat) (h h' : Heap) : Prop := ∀ j k, j ≠ id → h j = some k → h' j = some k
theorem Keep.refl (id : Nat) (h : Heap) : Keep id h h := fun _ _ _ e => e
theorem Keep.trans {a b c : Heap} {id : Nat} (x : Keep id a b) (y : Keep id b c) : Keep id a c := fun j k e hj => y j k e (x j k e hj)
theorem Sub.keep (hs : Sub h h') (id : Nat) : Keep id h h' := fun _ _ _ e => hs _ _ e
theorem Keep.upd (id : Nat) (k : Option Blk) : Keep id h (Ab.upd h id k) := fun _ _ e hj => by rw [upd_other _ _ e]; exact hj

/-- A row of bytes. -/
def Bytes (tb : TypeId) (h : Heap) (y : AV) (l : List UInt8) : Prop :=
  (∃ q, y = .sl (l.map byteA) q) ∨ ∃ id off cs, y = .oa id off l.length ∧ h id = some (.obj cs tb) ∧ off + l.length ≤ cs.length ∧ (cs.drop off).take l.length = l.map byteA

theorem Bytes.sl (l : List UInt8) (q : Perm) : Bytes tb h (.sl (l.map byteA) q) l := .inl ⟨q, rfl⟩
theorem Bytes.nil (q : Perm) : Bytes tb h (.sl [] q) [] := .inl ⟨q, rfl⟩
theorem Bytes.oa {id off : Nat} {cs : List AV} (h1 : h id = some (.obj cs tb)) (h2 : off + l.length ≤ cs.length) (h3 : (cs.drop off).take l.length = l.map byteA) : Bytes tb h (.oa id off l.length) l := .inr ⟨id, off, cs, rfl, h1, h2, h3⟩
theorem Bytes.sub (hb : Bytes tb h y l) (hs : Sub h h') : Bytes tb h' y l := by
  rcases hb with hb | ⟨id, off, cs, rfl, h1, h2, h3⟩
  · exact .inl hb
  · exact .oa (hs _ _ h1) h2 h3
theorem Bytes.keep (hb : Bytes tb h y l) {id : Nat} (hs : Keep id h h') {cs : List AV} {t : TypeId} (hid : h id = some (.obj cs t)) (ht : t ≠ tb) : Bytes tb h' y l := by
  rcases hb with hb | ⟨i, off, cs', rfl, h1, h2, h3⟩
  · exact .inl hb
  · refine .oa (hs _ _ (fun e => ?_) h1) h2 h3
    subst e
    rw [hid] at h1
    cases h1
    exact ht rfl
theorem Bytes.new (hb : Bytes tb h y l) {id : Nat} {k : Option Blk} (hid : h id = none) : Bytes tb (Ab.upd h id k) y l := hb.sub (Sub.upd_new hid)
theorem Bytes.cells (hb : Bytes tb h y l) : y.cells = [y] := by
  rcases hb with ⟨q, rfl⟩ | ⟨id, off, cs, rfl, _⟩ <;> rfl
theorem Bytes.fit (hb : Bytes tb h y l) (m : Nat) : Ab.fit y m = (m = 1) := by
  rcases hb with ⟨q, rfl⟩ | ⟨id, off, cs, rfl, _⟩ <;> rfl
theorem Bytes.len (hb : Bytes tb h y l) (e : TypeId) (k : AV → Prop) : lenK y k (.slice e) = k (.v (.int .i64 l.length)) := by
  rcases hb with ⟨q, rfl⟩ | ⟨id, off, cs, rfl, _⟩
  · simp only [lenK, List.length_map]
  · rfl
theorem Bytes.src (hb : Bytes tb h y l) {e : TypeId} (he : (U e).sz = 1) (k : List AV → Prop) : srcA U e h y k = k (l.map byteA) := by
  rcases hb with ⟨q, rfl⟩ | ⟨id, off, cs, rfl, h1, h2, h3⟩
  · rfl
  · rw [srcA_oa, h1, he]
    simp only [bindO_some, objL_eq, h3, h2, true_and]
    apply propext
    constructor
    · rintro ⟨_, _, hk⟩; exact hk
    · intro hk
      exact ⟨fun x hx => by obtain ⟨c, _, rfl⟩ := List.mem_map.1 hx; rfl, noAgg_bytes l, hk⟩
theorem Bytes.nilE (hb : Bytes tb h y l) {e : TypeId} {w : Heap} {Q : AV → Heap → Prop} (hk : ∀ b : Bool, (l ≠ [] → b = false) → Q (.v (.bool b)) w) : nilK w .eql y Q (.slice e) := by
  rcases hb with ⟨q, rfl⟩ | ⟨id, off, cs, rfl, h1, h2, h3⟩
  · intro b hb
    exact hk b fun hl => hb (by simpa using hl)
  · exact hk false fun _ => rfl
/-- A place at which a byte stands. -/
def ByteP (U : TypeId → TI) (tb : TypeId) (h : Heap) (p : AV) (c : UInt8) : Prop := ∀ k : AV → Prop, loadA U h tb p k = k (byteA c)
theorem Bytes.idx (hb : Bytes tb h y l) {m : Int} {x : IntKind} {K : AV → Prop} (j : Nat) (hm : m = j) (hj : j < l.length) (hz : (U tb).sz = 1) (ha : (U tb).k.agg = false)
    (hk : ∀ p, ByteP U tb h p l[j] → K p) : iaddrK U y (.v (.int x m)) K (.slice tb) := by
  subst hm
  rcases hb with ⟨q, rfl⟩ | ⟨id, off, cs, rfl, h1, h2, h3⟩
  · refine (iaddrK_sl ..).mpr ⟨by rw [hz]; decide, ?_⟩
    refine IdxE.at j (by simpa using hj) (by rw [List.getElem_map, hz]; rfl) ?_
    simp only [List.getElem_map]
    refine hk _ fun k => ?_
    simp only [loadA, atA_eq, ha, hz, byteA, AV.cells, isAggA, List.length_cons, List.length_nil, Nat.zero_add, and_self, if_true]
  · refine (iaddrK_oa ..).mpr ⟨by rw [hz]; decide, by omega, by omega, ?_⟩
    refine hk _ fun k => ?_
    have hlt : off + j < cs.length := by omega
    have e1 : cs[off + j]? = some (byteA l[j]) := by
      have := congrArg (fun q => q[j]?) h3
      simp only [List.getElem?_take, hj, if_true, List.getElem?_drop, List.getElem?_map, List.getElem?_eq_getElem hj, Option.map_some] at this
      exact this
    simp only [loadA, h1, bindO_some, objL_eq, hz, Nat.mul_one, Int.toNat_natCast, partA_eq, ha, Br, e1]
    simp
/-- A cut at the end. -/
theorem Bytes.take (hb : Bytes tb h y l) {hi : Operand} {m : Int} {x : IntKind} {K : AV → Prop} (j : Nat) (hm : ev ρ hi = some (.v (.int x m))) (hj : m = j) (hl : j ≤ l.length) (hz : (U tb).sz = 1) (hk : ∀ z, Bytes tb h z (l.take j) → K z) :
    sliceK U ρ y none (some hi) none K (.slice tb) := by
  subst hj
  rcases hb with ⟨q, rfl⟩ | ⟨id, off, cs, rfl, h1, h2, h3⟩
  · rw [sliceK_none, optA_some, hm]
    refine ⟨by rw [hz]; decide, ?_⟩
    simp only [bindO_some, intA_eq, Option.isSome_some, cutL_ft, Int.toNat_natCast]
    refine ⟨by omega, by simpa using hl, ?_⟩
    rw [← List.map_take]
    exact hk _ (.sl _ _)
  · rw [sliceK_oa]
    refine ⟨by rw [hz]; decide, fun _ => hz, ?_⟩
    simp only [optA_none, optA_some, hm, bindO_some, intA_eq]
    refine ⟨by omega, by omega, by omega, ?_⟩
    simp only [Int.toNat_natCast, hz, Nat.mul_one]
    have e : (l.take j).length = j := by simp; omega
    have := hk (.oa id off (l.take j).length) (.oa h1 (by omega) (by
      rw [e, List.map_take, ← h3, List.take_take, Nat.min_eq_left hl]))
    rw [e] at this
    simpa using this
end
end Go.Ab

/- A slice that grows; rows of rows of bytes; loads out of them. -/
set_option linter.unusedSimpArgs false
set_option linter.unusedVariables false
namespace Go.Ab
open Go

section
variable {P : Program} {U : TypeId → TI} {n : Nat} {ρ : Env} {h h' h2 : Heap} {e tb : TypeId} {y v : AV} {xs zs : List AV} {l : List UInt8} {Q : AV → Heap → Prop}

/-- All objects are as they were. -/
def KeepObj (h h' : Heap) : Prop := ∀ j cs t, h j = some (.obj cs t) → h' j = some (.obj cs t)
theorem KeepObj.refl (h : Heap) : KeepObj h h := fun _ _ _ e => e
theorem KeepObj.trans {a b c : Heap} (x : KeepObj a b) (y : KeepObj b c) : KeepObj a c := fun j cs t e => y j cs t (x j cs t e)
theorem Sub.keepObj (hs : Sub h h') : KeepObj h h' := fun _ _ _ e => hs _ _ e
theorem Bytes.keepObj (hb : Bytes tb h y l) (hs : KeepObj h h') : Bytes tb h' y l := by
  rcases hb with hb | ⟨id, off, cs, rfl, h1, h2, h3⟩
  · exact .inl hb
  · exact .oa (hs _ _ _ h1) h2 h3

/-- A slice that grows, in a memory that was h at first. -/
def Acc (U : TypeId → TI) (e : TypeId) (h h' : Heap) (y : AV) (xs : List AV) : Prop :=
  Sub h h' ∧ (y = .sl xs .full ∨ ∃ id, h id = none ∧ y = .sl xs (.own id) ∧ h' id = some (.spare xs.length (U e).sz))
theorem Acc.full (hs : Sub h h') : Acc U e h h' (.sl xs .full) xs := ⟨hs, .inl rfl⟩
theorem Acc.sub (ha : Acc U e h h' y xs) (hs : Sub h' h2) : Acc U e h h2 y xs := by
  obtain ⟨h1, rfl | ⟨id, i1, rfl, i2⟩⟩ := ha
  · exact ⟨h1.trans hs, .inl rfl⟩
  · exact ⟨h1.trans hs, .inr ⟨id, i1, rfl, hs _ _ i2⟩⟩
theorem Acc.row (ha : Acc U e h h' y xs) : ∃ q, y = .sl xs q := by
  obtain ⟨h1, rfl | ⟨id, i1, rfl, i2⟩⟩ := ha <;> exact ⟨_, rfl⟩
theorem Acc.weak (ha : Acc U e h h' y xs) : Weak y (.sl xs .no) := by
  obtain ⟨q, rfl⟩ := ha.row; exact .sl _ _
theorem Acc.fit (ha : Acc U e h h' y xs) (m : Nat) : Ab.fit y m = (m = 1) := by
  obtain ⟨q, rfl⟩ := ha.row; rfl
theorem Acc.len (ha : Acc U e h h' y xs) (t : TypeId) (k : AV → Prop) : lenK y k (.slice t) = k (.v (.int .i64 xs.length)) := by
  obtain ⟨q, rfl⟩ := ha.row; rfl
theorem Acc.app (ha : Acc U e h h' y xs) (hz : (U e).sz ≠ 0) (hb : (U e).bytes ≠ 0) (hsrc : ∀ k : List AV → Prop, k zs → srcA U e h' v k) (s1 : Sized (U e).sz xs) (s2 : Sized (U e).sz zs)
    (hlen : (xs.length + zs.length) * (U e).bytes ≤ 140737488355328) (hk : ∀ y' h'', Acc U e h h'' y' (xs ++ zs) → KeepObj h' h'' → Q y' h'') : apK U h' y v Q (.slice e) := by
  have keep : ∀ id, (h' id = none ∨ ∃ m, h' id = some (.spare m (U e).sz)) → ∀ k, KeepObj h' (upd h' id k) := fun id hid k j cs t hj => by
    rw [upd_other _ _ fun e => ?_]
    · exact hj
    · subst e
      rcases hid with hid | ⟨m, hid⟩ <;> rw [hid] at hj <;> cases hj
  obtain ⟨h1, rfl | ⟨id, i1, rfl, i2⟩⟩ := ha
  · refine (apK_full ..).mpr ⟨hz, hb, hsrc _ ⟨s1, s2, hlen, fun hn => ?_, fun hn => .own fun id hid => ?_⟩⟩
    · subst hn
      have := hk (.sl xs .full) h' (by rw [List.append_nil]; exact .full h1) (.refl _)
      exact this
    · exact hk _ _ ⟨h1.new hid _, .inr ⟨id, h1.none hid, rfl, by rw [upd_same, List.length_append]⟩⟩ (keep id (.inl hid) _)
  · refine (apK_own ..).mpr ⟨hz, hb, hsrc _ ⟨s1, s2, hlen, i2, ?_⟩⟩
    have hs2 : Sub h (upd h' id (some (.spare (xs.length + zs.length) (U e).sz))) := by
      intro j k hj
      rw [upd_other _ _ fun e => ?_]
      · exact h1 _ _ hj
      · subst e; rw [i1] at hj; cases hj
    exact hk _ _ ⟨hs2, .inr ⟨id, i1, rfl, by rw [upd_same, List.length_append]⟩⟩ (keep id (.inr ⟨_, i2⟩) _)

/-- Bytes are no aggregate. -/
theorem Bytes.noAgg (hb : Bytes tb h y l) : isAggA y = false := by
  rcases hb with ⟨q, rfl⟩ | ⟨id, off, cs, rfl, _⟩ <;> rfl
theorem Bytes.load (hb : Bytes tb h y l) {t : TypeId} (hz : (U t).sz = 1) (ha : (U t).k.agg = false) (k : AV → Prop) : loadA U h' t (.pe y 0) k = k y := by
  simp only [loadA, atA_eq, hz, ha, hb.cells, hb.noAgg, List.length_cons, List.length_nil, Nat.zero_add, and_self, if_true]
theorem Bytes.wf (hb : Bytes tb h y l) (hw : wfA y) : l.length < lim ∨ ∃ id off m, y = .oa id off m := by
  rcases hb with ⟨q, rfl⟩ | ⟨id, off, cs, rfl, _⟩
  · exact .inl (by simpa [wfA, wf1] using hw)
  · exact .inr ⟨_, _, _, rfl⟩

/-- A row of rows of bytes. -/
def Rows (tb : TypeId) (h : Heap) (ys : List AV) (ls : List (List UInt8)) : Prop := ys.length = ls.length ∧ ∀ i (h1 : i < ys.length) (h2 : i < ls.length), Bytes tb h ys[i] ls[i]
theorem Rows.keepObj {ys : List AV} {ls : List (List UInt8)} (hr : Rows tb h ys ls) (hs : KeepObj h h') : Rows tb h' ys ls := ⟨hr.1, fun i h1 h2 => (hr.2 i h1 h2).keepObj hs⟩
theorem Rows.sized {ys : List AV} {ls : List (List UInt8)} (hr : Rows tb h ys ls) : Sized 1 ys := fun z hz => by
  obtain ⟨i, hi, rfl⟩ := List.mem_iff_getElem.1 hz
  rw [(hr.2 i hi (by rw [← hr.1]; exact hi)).cells]; rfl
theorem Rows.nil : Rows tb h [] [] := ⟨rfl, fun i h1 => by cases h1⟩
theorem Rows.cons {ys : List AV} {ls : List (List UInt8)} (hb : Bytes tb h y l) (hr : Rows tb h ys ls) : Rows tb h (y :: ys) (l :: ls) := ⟨by simp [hr.1], fun i h1 h2 => by
  cases i with
  | zero => exact hb
  | succ i => exact hr.2 i (by simpa using h1) (by simpa using h2)⟩

end
end Go.Ab

/- From a contract to a call in a world. -/
set_option linter.unusedSimpArgs false
set_option linter.unusedVariables false
namespace Go.Ab
open Go

section
variable {P : Program}

def noHeap : Heap := fun _ => none
/-- A world in which nothing is owned. -/
def cx0 (w : World) : Cx := ⟨w, fun _ => ⟨0, 0, none⟩, noHeap⟩
theorem good0 (w : World) : Good (cx0 w) where
  fin := ⟨0, fun _ _ => rfl⟩
  inj := fun i j k l h => by cases h
  obj := fun id cs t h => by cases h
  spare := fun id n sz h => by cases h
theorem owned0 (w : World) (b o : Nat) : ¬ owned (cx0 w) b o := fun ⟨id, k, h, _⟩ => by cases h

theorem FnOK.calls {f : FuncId} {args : List AV} {b : Value} {vs : Array Value} {w : World} (hf : FnOK P f args noHeap fun r _ => r = .v b) (hv : vs.size = args.length) (hr : ∀ i (hi : i < args.length), Rep (cx0 w) args[i] (vs.getD i undef)) :
    Calls P f vs w fun e w' => e = .returned b ∧ Go.RowKit.Below w.heap.size w w' := by
  refine (hf.2 (cx0 w) vs (fun _ _ h => by cases h) (good0 w) hv hr).mono ?_
  rintro e w' ⟨u, rfl, c', x, h', rfl, g', hE, hx, hs, rfl⟩
  rw [hx.v_inv]
  exact ⟨rfl, hE.os, hE.tape, hE.output, hE.size, fun k hk => hE.block k hk fun o => owned0 w k o⟩

/-- A slice of bytes that came in. -/
theorem rep_bytes {w : World} {l : List UInt8} {a : Option Addr} {cap : Nat} (hc : l.length ≤ cap) (hm : cap < lim) (h0 : a = none → cap = 0) (hs : ∀ q, a = some q → q.spot = none) (hcell : ∀ q, a = some q → ∀ i (hi : i < l.length), w.cell? (q.add i) = some (.int .u8 (l[i].toNat : Int)))
    (hb : ∀ q, a = some q → q.block < w.heap.size) : Rep (cx0 w) (.sl (l.map byteA) .no) (.slice a l.length cap) := by
  have : Rep (cx0 w) (.sl (l.map byteA) .no) (.slice a (l.map byteA).length cap) := by
    refine .sl (l.map byteA) .no a cap 1 (fun i _ => .int .u8 ((l.getD i 0).toNat : Int)) (by simpa using hc) hm h0 (fun q hq _ => ⟨hs q hq, hb q hq⟩) (fun i hi => by simp [byteA, AV.cells]) (fun q hq i j hi hj => ?_) (fun i hi j hj => ?_) (fun _ _ _ _ => rfl) trivial
    · have hi' : i < l.length := by simpa using hi
      obtain rfl : j = 0 := by omega
      refine ⟨?_, owned0 w _ _⟩
      have := hcell q hq i hi'
      obtain ⟨qb, qo, qs⟩ := q
      have e := hs _ hq
      simp only at e; subst e
      rw [add_addr] at this
      simp only [Nat.mul_one, Nat.add_zero]
      rw [show l.getD i 0 = l[i] by simp [hi']]
      exact this
    · have hi' : i < l.length := by simpa using hi
      simp only [List.getElem_map, byteA, AV.cells, List.length_singleton] at hj
      obtain rfl : j = 0 := by omega
      simp only [List.getElem_map, byteA, AV.cells, List.getElem_singleton]
      rw [show l.getD i 0 = l[i] by simp [hi']]
      exact .v _
  simpa using this
end
end Go.Ab

/- Shorter ways behind a call. -/
set_option linter.unusedSimpArgs false
set_option linter.unusedVariables false
namespace Go.Ab
open Go

section
variable {P : Program} {f : FuncId} {args : List AV} {h : Heap} {Q : AV → Heap → Prop} {X : AV}

/-- Behind a call that changes nothing. -/
theorem FnOK.pthen (hf : FnOK P f args h fun r h' => r = X ∧ h' = h) (k : Q X h) : FnOK P f args h Q :=
  hf.mono fun r h' ⟨e1, e2⟩ => by subst e1; subst e2; exact k
theorem FnOK.pthen' (hf : FnOK P f args h fun r h' => h' = h ∧ r = X) (k : Q X h) : FnOK P f args h Q :=
  hf.mono fun r h' ⟨e1, e2⟩ => by subst e1; subst e2; exact k
/-- Behind a call that makes new memory alone. -/
theorem FnOK.sthen (hf : FnOK P f args h fun r h' => r = X ∧ Sub h h') (k : ∀ h', Sub h h' → Q X h') : FnOK P f args h Q :=
  hf.mono fun r h' ⟨e1, e2⟩ => by subst e1; exact k h' e2
/-- Behind a call of which but the answer counts. -/
theorem FnOK.rthen (hf : FnOK P f args h fun r _ => r = X) (k : ∀ h', Q X h') : FnOK P f args h Q :=
  hf.mono fun r h' e1 => by subst e1; exact k h'
theorem FnOK.weakQ {A : AV → Prop} (hf : FnOK P f args h fun r h' => A r ∧ h' = h) : FnOK P f args h fun r h' => A r ∧ Sub h h' :=
  hf.mono fun r h' ⟨e1, e2⟩ => ⟨e1, by subst e2; exact .refl _⟩
/-- Behind a call that answers something. -/
theorem FnOK.ethen {A : AV → Prop} (hf : FnOK P f args h fun r h' => A r ∧ Sub h h') (k : ∀ r h', A r → Sub h h' → Q r h') : FnOK P f args h Q :=
  hf.mono fun r h' ⟨e1, e2⟩ => k r h' e1 e2

/-- A value that is made plain ahead of going on. -/
def KV (K : AV → Prop) (x : AV) : Prop := K x
@[congr] theorem KV_congr {K : AV → Prop} {x x' : AV} (e : x = x') : KV K x = KV K x' := by rw [e]
@[go_sem] theorem KV_eq (K : AV → Prop) (x : AV) : KV K x = K x := rfl
section
variable {U : TypeId → TI} {ρ : Env} {K : AV → Prop}
@[go_sem ↓ high] theorem sliceK_to (xs : List AV) (q : Perm) (hi : Operand) (e : TypeId) : sliceK U ρ (.sl xs q) none (some hi) none K (.slice e) = ((U e).sz ≠ 0 ∧ bindO (ev ρ hi) fun y => intA y fun b => 0 ≤ b ∧ b ≤ xs.length ∧ KV K (.sl (xs.take b.toNat) .no)) := by
  rw [sliceK_none, optA_some]; rfl
@[go_sem ↓ high] theorem sliceK_all (xs : List AV) (q : Perm) (e : TypeId) : sliceK U ρ (.sl xs q) none none none K (.slice e) = ((U e).sz ≠ 0 ∧ K (.sl xs q)) := by
  rw [sliceK_none, optA_none]
  simp [cutL, cutP]
@[go_sem ↓ high] theorem sliceK_from (xs : List AV) (q : Perm) (lo : Operand) (e : TypeId) : sliceK U ρ (.sl xs q) (some lo) none none K (.slice e) = ((U e).sz ≠ 0 ∧ Sized (U e).sz xs ∧ bindO (ev ρ lo) fun y => intA y fun a => 0 ≤ a ∧ a ≤ xs.length ∧ KV K (.sl (xs.drop a.toNat) (cutP q true false))) := by
  rw [sliceK_some, optA_some]
  simp only [optA_none, Option.isSome_none, cutL_tf, KV]
  congr 2
  congr 1
  funext y
  congr 1
  funext a
  simp
@[go_sem ↓ high] theorem sliceK_ft (xs : List AV) (q : Perm) (lo hi : Operand) (e : TypeId) : sliceK U ρ (.sl xs q) (some lo) (some hi) none K (.slice e) = ((U e).sz ≠ 0 ∧ Sized (U e).sz xs ∧ bindO (ev ρ lo) fun y => intA y fun a => bindO (ev ρ hi) fun z => intA z fun b => 0 ≤ a ∧ a ≤ b ∧ b ≤ xs.length ∧ KV K (.sl ((xs.drop a.toNat).take (b.toNat - a.toNat)) .no)) := by
  rw [sliceK_some, optA_some]
  simp only [optA_some, Option.isSome_some, cutL_tt, KV, cutP_tt]
end
attribute [go_sem] Int.toNat_natCast Int.toNat_zero

@[go_sem] theorem take_bytes (l : List UInt8) (n : Nat) : (l.map byteA).take n = (l.take n).map byteA := (List.map_take ..).symm
@[go_sem] theorem drop_bytes (l : List UInt8) (n : Nat) : (l.map byteA).drop n = (l.drop n).map byteA := (List.map_drop ..).symm
theorem get_bytes (l : List UInt8) (i : Nat) (h : i < (l.map byteA).length) : (l.map byteA)[i] = byteA (l[i]'(by simpa using h)) := by simp
theorem choose_map {α β : Type} {f : β → α} {p : β → Prop} : ∀ (xs : List α), (∀ x ∈ xs, ∃ b, x = f b ∧ p b) → ∃ bs : List β, xs = bs.map f ∧ ∀ b ∈ bs, p b
  | [], _ => ⟨[], rfl, fun b h => by cases h⟩
  | x :: xs, h => by
    obtain ⟨b, rfl, hb⟩ := h x (by simp)
    obtain ⟨bs, rfl, hbs⟩ := choose_map xs fun y hy => h y (by simp [hy])
    exact ⟨b :: bs, rfl, fun c hc => by
      rcases List.mem_cons.1 hc with h1 | h1
      · rw [h1]; exact hb
      · exact hbs c h1⟩
/-- An integer. -/
def iA (n : Int) : AV := .v (.int .i64 n)
@[go_sem] theorem iA_eq (n : Int) : iA n = .v (.int .i64 n) := rfl
theorem wr64 (n : Int) (h : -9223372036854775808 ≤ n ∧ n ≤ 9223372036854775807) : IntKind.i64.wrap n = n := IntWalk.i64_in _ (by omega)
end
end Go.Ab

/- What an argument of plain data stands for: out of the reading of its memory. -/
set_option linter.unusedSimpArgs false
set_option linter.unusedVariables false
namespace Go.Ab
open Go

section
variable {P : Program} {U : TypeId → TI}

/-- A value of a type of plain data. -/
inductive Dat (U : TypeId → TI) : TypeId → AV → Prop
  | bool {t : TypeId} (b : Bool) (h : (U t).k = .bool) : Dat U t (.v (.bool b))
  | int {t : TypeId} {k : IntKind} (n : Int) (h : (U t).k = .int k) (hw : (Lit.int k n).wf = true) : Dat U t (.v (.int k n))
  | str {t : TypeId} (l : List UInt8) (h : (U t).k = .str) (hl : l.length ≤ maxLen) : Dat U t (.s l)
  | slice {t e : TypeId} (xs : List AV) (h : (U t).k = .slice e) (hx : ∀ x ∈ xs, Dat U e x) (hl : xs.length ≤ maxLen) : Dat U t (.sl xs .no)
  | strct {t : TypeId} {fs : List (Nat × TypeId)} (ys : List AV) (h : (U t).k = .strct fs) (hn : ys.length = fs.length) (hx : ∀ i (h1 : i < fs.length) (h2 : i < ys.length), Dat U fs[i].2 ys[i]) : Dat U t (.agg (ys.map AV.cells).flatten)

theorem Dat.bool_inv {t : TypeId} {x : AV} (h : Dat U t x) (hk : (U t).k = .bool) : ∃ b, x = .v (.bool b) := by
  cases h with
  | bool b h => exact ⟨b, rfl⟩
  | _ => simp_all
theorem Dat.int_inv {t : TypeId} {x : AV} {k : IntKind} (h : Dat U t x) (hk : (U t).k = .int k) : ∃ n, x = .v (.int k n) ∧ (Lit.int k n).wf = true := by
  cases h with
  | int n h hw => rw [hk] at h; cases h; exact ⟨n, rfl, hw⟩
  | _ => simp_all
theorem Dat.str_inv {t : TypeId} {x : AV} (h : Dat U t x) (hk : (U t).k = .str) : ∃ l, x = .s l ∧ l.length ≤ maxLen := by
  cases h with
  | str l h hl => exact ⟨l, rfl, hl⟩
  | _ => simp_all
theorem Dat.slice_inv {t e : TypeId} {x : AV} (h : Dat U t x) (hk : (U t).k = .slice e) : ∃ xs, x = .sl xs .no ∧ xs.length ≤ maxLen ∧ ∀ y ∈ xs, Dat U e y := by
  cases h with
  | slice xs h hx hl => rw [hk] at h; cases h; exact ⟨xs, rfl, hl, hx⟩
  | _ => simp_all
/-- A row of values, each of its type. -/
def DatAll (U : TypeId → TI) : List TypeId → List AV → Prop
  | [], ys => ys = []
  | t :: ts, ys => ∃ y r, ys = y :: r ∧ Dat U t y ∧ DatAll U ts r
theorem datAll_of : ∀ (fs : List (Nat × TypeId)) (ys : List AV), ys.length = fs.length → (∀ i (h1 : i < fs.length) (h2 : i < ys.length), Dat U fs[i].2 ys[i]) → DatAll U (fs.map (·.2)) ys
  | [], ys, h, _ => List.length_eq_zero_iff.1 h
  | f :: fs, [], h, _ => by cases h
  | f :: fs, y :: ys, h, hx => ⟨y, ys, rfl, hx 0 (by simp) (by simp), datAll_of fs ys (by simpa using h) fun i h1 h2 => hx (i + 1) (by simpa using h1) (by simpa using h2)⟩
theorem Dat.strct_inv {t : TypeId} {x : AV} {fs : List (Nat × TypeId)} (h : Dat U t x) (hk : (U t).k = .strct fs) : ∃ ys, x = .agg (ys.map AV.cells).flatten ∧ DatAll U (fs.map (·.2)) ys := by
  cases h with
  | strct ys h hn hx => rw [hk] at h; cases h; exact ⟨ys, rfl, datAll_of _ _ hn hx⟩
  | _ => simp_all

theorem wf64 {n : Int} (h : (Lit.int .i64 n).wf = true) : -9223372036854775808 ≤ n ∧ n ≤ 9223372036854775807 := by
  simpa [Lit.wf, IntKind.min, IntKind.max, IntKind.signed, IntKind.bits] using h
theorem wf8 {n : Int} (h : (Lit.int .u8 n).wf = true) : ∃ c : UInt8, n = c.toNat := by
  have hr : 0 ≤ n ∧ n ≤ 255 := by simpa [Lit.wf, IntKind.min, IntKind.max, IntKind.signed, IntKind.bits] using h
  refine ⟨UInt8.ofNat n.toNat, ?_⟩
  rw [UInt8.toNat_ofNat']
  omega
theorem Dat.i64 {t : TypeId} {x : AV} (h : Dat U t x) (hk : (U t).k = .int .i64) : ∃ n, x = iA n ∧ -9223372036854775808 ≤ n ∧ n ≤ 9223372036854775807 := by
  obtain ⟨n, rfl, hw⟩ := h.int_inv hk
  exact ⟨n, rfl, wf64 hw⟩
theorem Dat.u8 {t : TypeId} {x : AV} (h : Dat U t x) (hk : (U t).k = .int .u8) : ∃ c : UInt8, x = byteA c := by
  obtain ⟨n, rfl, hw⟩ := h.int_inv hk
  obtain ⟨c, rfl⟩ := wf8 hw
  exact ⟨c, rfl⟩
theorem Dat.list {t e : TypeId} {x : AV} {β : Type} {f : β → AV} {p : β → Prop} (h : Dat U t x) (hk : (U t).k = .slice e) (he : ∀ y, Dat U e y → ∃ b, y = f b ∧ p b) : ∃ bs : List β, x = .sl (bs.map f) .no ∧ bs.length ≤ maxLen ∧ ∀ b ∈ bs, p b := by
  obtain ⟨xs, rfl, hl, hx⟩ := h.slice_inv hk
  obtain ⟨bs, rfl, hb⟩ := choose_map xs fun y hy => he y (hx y hy)
  exact ⟨bs, rfl, by simpa using hl, hb⟩
theorem Dat.bytes {t e : TypeId} {x : AV} (h : Dat U t x) (hk : (U t).k = .slice e) (he : (U e).k = .int .u8) : ∃ l : List UInt8, x = .sl (l.map byteA) .no ∧ l.length ≤ maxLen := by
  obtain ⟨l, h1, h2, _⟩ := h.list (f := byteA) (p := fun _ => True) hk fun y hy => by obtain ⟨c, hc⟩ := hy.u8 he; exact ⟨c, hc, trivial⟩
  exact ⟨l, h1, h2⟩
theorem Dat.ints {t e : TypeId} {x : AV} (h : Dat U t x) (hk : (U t).k = .slice e) (he : (U e).k = .int .i64) : ∃ l : List Int, x = .sl (l.map iA) .no ∧ l.length ≤ maxLen ∧ ∀ n ∈ l, -9223372036854775808 ≤ n ∧ n ≤ 9223372036854775807 :=
  h.list hk fun y hy => hy.i64 he

/-- Cell by cell. -/
def RL (c : Cx) : List AV → List Value → Prop
  | [], vs => vs = []
  | x :: xs, [] => False
  | x :: xs, v :: vs => (Rep c x v ∧ v.oneCell' = true) ∧ RL c xs vs
theorem RL.len {c : Cx} : ∀ {xs : List AV} {vs : List Value}, RL c xs vs → xs.length = vs.length
  | [], vs, h => by rw [h]; rfl
  | x :: xs, [], h => h.elim
  | x :: xs, v :: vs, h => by simp [RL.len h.2]
theorem RL.get {c : Cx} : ∀ {xs : List AV} {vs : List Value}, RL c xs vs → ∀ i (h : i < xs.length), Rep c xs[i] (vs.getD i undef) ∧ (vs.getD i undef).oneCell' = true
  | [], vs, h, i, hi => by cases hi
  | x :: xs, [], h, i, hi => h.elim
  | x :: xs, v :: vs, h, 0, hi => h.1
  | x :: xs, v :: vs, h, i + 1, hi => by simpa using RL.get h.2 i (by simpa using hi)
theorem RL.append {c : Cx} : ∀ {xs ys : List AV} {vs us : List Value}, RL c xs vs → RL c ys us → RL c (xs ++ ys) (vs ++ us)
  | [], ys, vs, us, h, k => by rw [h]; exact k
  | x :: xs, ys, [], us, h, k => h.elim
  | x :: xs, ys, v :: vs, us, h, k => ⟨h.1, RL.append h.2 k⟩
theorem RL.one {c : Cx} {x : AV} {v : Value} (h : Rep c x v) (h1 : v.oneCell' = true) : RL c [x] [v] := ⟨⟨h, h1⟩, rfl⟩

/-- Do a struct's parts lie side by side? -/
def tileB (U : TypeId → TI) (n : Nat) : List (Nat × TypeId) → Nat → Bool
  | [], o => o == n
  | f :: fs, o => f.1 == o && tileB U n fs (o + (U f.2).sz)
/-- Are the types of a list plain data, and what they are made of, too? -/
def plainB (U : TypeId → TI) (L : List TypeId) : Bool := L.all fun t => (U t).sz != 0 && match (U t).k with
  | .bool | .int _ | .str => (U t).sz == 1
  | .slice e => (U t).sz == 1 && L.contains e
  | .strct fs => fs.all (fun f => L.contains f.2) && tileB U (U t).sz fs 0
  | _ => false

theorem cellsOf_of (hU : ∀ t, AgreeT P U t) {t : TypeId} (hz : (U t).sz ≠ 0) : P.cellsOf t = (U t).sz := by
  obtain ⟨i, h1, h2, _⟩ := (hU t).info hz
  simp [Program.cellsOf, h1, h2]

variable {H : Type} {enc : TypeId × Value → H} {w : World}

theorem parts_of (hU : ∀ t, AgreeT P U t) {L : List TypeId} {m : Nat} {sp : Nat → Bool} {held : Bool} (n : Nat) (cs : List Value) (hn : cs.length = n)
    (ih : ∀ (t : TypeId) (cs : List Value) r, t ∈ L → DataW.trod enc P w 0 sp held m t cs = some r → ∃ x, Dat U t x ∧ RL (cx0 w) x.cells cs) (hz : ∀ t ∈ L, (U t).sz ≠ 0) :
    ∀ (fs : List (Nat × TypeId)) (gs : List Field) (o : Nat), gs.map (fun f => (f.offset, f.type)) = fs → (∀ f ∈ fs, f.2 ∈ L) → tileB U n fs o = true →
      (∀ f ∈ gs, ∃ r, DataW.trod enc P w 0 sp held m f.type ((cs.drop f.offset).take (P.cellsOf f.type)) = some r) →
      ∃ ys : List AV, ys.length = fs.length ∧ (∀ i (h1 : i < fs.length) (h2 : i < ys.length), Dat U fs[i].2 ys[i]) ∧ RL (cx0 w) (ys.map AV.cells).flatten (cs.drop o) := by
  intro fs
  induction fs with
  | nil =>
    intro gs o hg hL ht hr
    refine ⟨[], rfl, fun i h1 => (by cases h1), ?_⟩
    have : o = n := by simpa [tileB] using ht
    show cs.drop o = []
    rw [this, ← hn]; simp
  | cons f fs ihf =>
    intro gs o hg hL ht hr
    cases gs with
    | nil => cases hg
    | cons g gs =>
      simp only [List.map_cons, List.cons.injEq] at hg
      obtain ⟨hg1, hg2⟩ := hg
      simp only [tileB, Bool.and_eq_true, beq_iff_eq] at ht
      obtain ⟨ht1, ht2⟩ := ht
      have hfL := hL f (by simp)
      obtain ⟨ys, y1, y2, y3⟩ := ihf gs (o + (U f.2).sz) hg2 (fun f' hf' => hL f' (by simp [hf'])) ht2 (fun g' hg' => hr g' (by simp [hg']))
      obtain ⟨r, hr0⟩ := hr g (by simp)
      have e1 : g.type = f.2 := by rw [← hg1]
      have e2 : g.offset = o := by rw [← ht1, ← hg1]
      rw [e1, e2, cellsOf_of hU (hz _ hfL)] at hr0
      obtain ⟨x, x1, x2⟩ := ih _ _ _ hfL hr0
      refine ⟨x :: ys, by simp [y1], fun i h1 h2 => ?_, ?_⟩
      · cases i with
        | zero => exact x1
        | succ i => exact y2 i (by simpa using h1) (by simpa using h2)
      · have : cs.drop o = (cs.drop o).take (U f.2).sz ++ cs.drop (o + (U f.2).sz) := by
          rw [← List.drop_drop, List.take_append_drop]
        rw [this]
        exact x2.append y3

theorem dat_of_trod (hU : ∀ t, AgreeT P U t) (L : List TypeId) (hL : plainB U L = true) {sp : Nat → Bool} {held : Bool} (hsp : ∀ b, sp b = true) :
    ∀ (fuel : Nat) (t : TypeId) (cs : List Value) (r : DataW H × List MemPlace), t ∈ L → DataW.trod enc P w 0 sp held fuel t cs = some r → ∃ x, Dat U t x ∧ RL (cx0 w) x.cells cs := by
  have hall : ∀ t ∈ L, (U t).sz ≠ 0 := fun t ht => by
    have := List.all_eq_true.1 hL t ht
    simp only [Bool.and_eq_true, bne_iff_ne] at this
    exact this.1
  intro fuel
  induction fuel with
  | zero => intro t cs r _ h; simp [DataW.trod] at h
  | succ m ih =>
    intro t cs r ht h
    have hp := List.all_eq_true.1 hL t ht
    simp only [Bool.and_eq_true, bne_iff_ne] at hp
    obtain ⟨hz, hp⟩ := hp
    have hd := (hU t).desc
    unfold DataW.trod at h
    cases hk : (U t).k with
    | bool =>
      rw [hk] at hd
      simp only at hd
      rw [hd] at h
      split at h <;> simp_all
      rename_i b
      exact ⟨_, .bool b hk, .one (.v _) rfl⟩
    | int k =>
      rw [hk] at hd
      simp only at hd
      rw [hd] at h
      split at h <;> simp_all
      obtain ⟨⟨rfl, hw⟩, _⟩ := h
      exact ⟨_, .int _ hk hw, .one (.v _) rfl⟩
    | str =>
      rw [hk] at hd
      simp only at hd
      rw [hd] at h
      split at h <;> simp_all
      rename_i s
      refine ⟨_, .str s.data.toList hk (by simpa using h.1), .one ?_ rfl⟩
      have := Rep.s (c := cx0 w) s.data.toList (by have := h.1; unfold maxLen at this; simp only [lim]; simp; omega)
      simpa using this
    | slice e =>
      rw [hk] at hd hp
      simp only at hd
      simp only [Bool.and_eq_true] at hp
      have he : e ∈ L := by simpa using hp.2
      have hez := hall e he
      rw [hd] at h
      split at h <;> try (simp_all; done)
      · rename_i e' heq
        refine ⟨_, .slice [] hk (fun x hx => by cases hx) (by simp), .one ?_ rfl⟩
        exact .sl [] .no none 0 0 (fun _ _ => undef) (Nat.le_refl _) (by decide) (fun _ => rfl) (fun q h _ => by cases h) (fun i h => by cases h) (fun q h => by cases h) (fun i h => by cases h) (fun i j h => by cases h) trivial
      · rename_i e' a len cap heq
        obtain rfl : e = e' := by simpa using heq
        split at h
        · rename_i hc
          obtain ⟨hc1, hc2, hc3⟩ := hc
          simp only [hsp, if_true] at h
          obtain ⟨els, hels, h⟩ := Option.bind_eq_some_iff.1 h
          obtain ⟨⟨rst, hrst, _⟩⟩ : Nonempty { rst // (List.range (cap - len)).mapM (fun j => ((w.cells? 0 (a.add ((len + j) * P.cellsOf e)) (P.cellsOf e)).bind (DataW.trod enc P w 0 sp held m e))) = some rst ∧ True } := by
            cases hq : (List.range (cap - len)).mapM (fun j => ((w.cells? 0 (a.add ((len + j) * P.cellsOf e)) (P.cellsOf e)).bind (DataW.trod enc P w 0 sp held m e))) with
            | none => rw [hq] at h; simp at h
            | some rst => exact ⟨⟨rst, rfl, trivial⟩⟩
          rw [cellsOf_of hU hez] at hels hrst
          have cell : ∀ j, j < (U e).sz → ∀ (b : Addr) vs, w.cells? 0 b (U e).sz = some vs → w.cell? (b.add j) = vs[j]? ∧ vs.length = (U e).sz := fun j hj b vs hb => by
            simp only [World.cells?, Nat.zero_le, if_true] at hb
            have := mapM_some_get hb j j (by simp [hj])
            exact ⟨this, by simpa using mapM_some_length hb⟩
          have el : ∀ i, i < len → ∃ vs x, w.cells? 0 (a.add (i * (U e).sz)) (U e).sz = some vs ∧ Dat U e x ∧ RL (cx0 w) x.cells vs := fun i hi => by
            have := mapM_some_get hels i i (by simp [hi])
            have hi2 : i < els.length := by have := mapM_some_length hels; simp at this; omega
            rw [List.getElem?_eq_getElem hi2] at this
            obtain ⟨vs, v1, v2⟩ := Option.bind_eq_some_iff.1 this
            obtain ⟨x, x1, x2⟩ := ih _ _ _ he v2
            exact ⟨vs, x, v1, x1, x2⟩
          have hspot : 0 < cap → a.spot = none ∧ a.block < w.heap.size := fun hcap => by
            have : ∃ b vs, w.cells? 0 b (U e).sz = some vs ∧ b.spot = a.spot ∧ b.block = a.block := by
              by_cases hl : 0 < len
              · obtain ⟨vs, x, v1, _⟩ := el 0 hl
                have a0 : a.add (0 * (U e).sz) = a := by simp [Addr.add]
                exact ⟨_, vs, v1, by rw [a0], by rw [a0]⟩
              · have := mapM_some_get hrst 0 0 (by rw [List.getElem?_eq_getElem (by simp; omega)]; simp)
                have hi2 : 0 < rst.length := by have := mapM_some_length hrst; simp at this; omega
                rw [List.getElem?_eq_getElem hi2] at this
                obtain ⟨vs, v1, v2⟩ := Option.bind_eq_some_iff.1 this
                have a0 : a.add ((len + 0) * (U e).sz) = a := by
                  obtain rfl : len = 0 := by omega
                  simp [Addr.add]
                exact ⟨_, vs, v1, by rw [a0], by rw [a0]⟩
            obtain ⟨b, vs, b1, b2, b3⟩ := this
            obtain ⟨c1, c2⟩ := cell 0 (by omega) b vs b1
            rw [List.getElem?_eq_getElem (by omega)] at c1
            rw [← b2, ← b3]
            unfold World.cell? at c1
            split at c1
            · rename_i hh
              split at c1
              · cases c1
              · rename_i hs
                refine ⟨?_, ?_⟩
                · have : (b.add 0).spot = b.spot := by simp [Addr.add]
                  rw [this] at hs
                  cases hb : b.spot with
                  | none => rfl
                  | some z => rw [hb] at hs; simp at hs
                · exact (Array.getElem?_eq_some_iff.1 hh).1
            · cases c1
          have : ∀ n, n ≤ len → ∃ xs : List AV, xs.length = n ∧ ∀ i (hi : i < xs.length), Dat U e xs[i] ∧ ∃ vs, w.cells? 0 (a.add (i * (U e).sz)) (U e).sz = some vs ∧ RL (cx0 w) xs[i].cells vs := by
            intro n
            induction n with
            | zero => exact fun _ => ⟨[], rfl, fun i hi => by cases hi⟩
            | succ n ihn =>
              intro hn
              obtain ⟨xs, e1, e2⟩ := ihn (by omega)
              obtain ⟨vs, x, v1, v2, v3⟩ := el n (by omega)
              refine ⟨xs ++ [x], by simp [e1], fun i hi => ?_⟩
              by_cases hi' : i < xs.length
              · rw [List.getElem_append_left hi']
                exact e2 i hi'
              · have : i = n := by simp at hi; omega
                subst this
                rw [List.getElem_append_right (by omega)]
                simp only [e1, Nat.sub_self, List.getElem_singleton]
                exact ⟨v2, vs, v1, v3⟩
          obtain ⟨xs, e1, e2⟩ := this len (Nat.le_refl _)
          subst e1
          refine ⟨.sl xs .no, .slice xs hk (fun x hx => ?_) (by omega), .one ?_ rfl⟩
          · obtain ⟨i, hi, rfl⟩ := List.mem_iff_getElem.1 hx
            exact (e2 i hi).1
          · refine .sl xs .no (some a) cap (U e).sz (fun i j => ((w.cells? 0 (a.add (i * (U e).sz)) (U e).sz).getD []).getD j undef) hc2 (by unfold maxLen at hc3; simp only [lim]; omega) (fun hh => by cases hh) (fun q hq hcap => by cases hq; exact hspot hcap)
              (fun i hi => ?_) (fun q hq i j hi hj => ?_) (fun i hi j hj => ?_) (fun i j hi hj => ?_) trivial
            · obtain ⟨_, vs, v1, v2⟩ := e2 i hi
              rw [v2.len]; exact (cell 0 (by omega) _ _ v1).2
            · cases hq
              obtain ⟨_, vs, v1, v2⟩ := e2 i hi
              refine ⟨?_, owned0 w _ _⟩
              obtain ⟨c1, c2⟩ := cell j hj _ _ v1
              rw [v1]
              obtain ⟨hs1, _⟩ := hspot (by omega)
              obtain ⟨ab, ao, az⟩ := a
              simp only at hs1; subst hs1
              rw [add_addr, add_addr] at c1
              simp only [Option.getD_some]
              have hj2 : j < vs.length := by omega
              rw [show vs.getD j undef = vs[j] by simp [hj2]]
              rw [List.getElem?_eq_getElem hj2, Nat.add_assoc] at c1
              exact c1
            · obtain ⟨_, vs, v1, v2⟩ := e2 i hi
              rw [v1]
              exact (v2.get j hj).1
            · obtain ⟨_, vs, v1, v2⟩ := e2 i hi
              rw [v1]
              have := (cell 0 (by omega) _ _ v1).2
              exact (v2.get j (by rw [v2.len]; omega)).2
        · cases h
    | strct fs =>
      rw [hk] at hd hp
      simp only at hd
      simp only [Bool.and_eq_true] at hp
      obtain ⟨gs, hd, hg, _⟩ := hd
      rw [hd] at h
      have hq : cs.length = P.cellsOf t ∧ ∃ xs, (gs.toList.mapM fun f => DataW.trod enc P w 0 sp held m f.type ((cs.drop f.offset).take (P.cellsOf f.type))) = some xs := by
        split at h <;> try (simp_all; done)
        rename_i fs' heq
        obtain rfl : gs = fs' := by simpa using heq
        split at h
        · rename_i hl
          obtain ⟨xs, h1, _⟩ := Option.map_eq_some_iff.1 h
          exact ⟨hl, xs, h1⟩
        · cases h
      obtain ⟨hl, xs, hxs⟩ := hq
      rw [cellsOf_of hU hz] at hl
      obtain ⟨ys, y1, y2, y3⟩ := parts_of hU (U t).sz cs hl ih hall fs gs.toList 0 hg (fun f hf => by have := List.all_eq_true.1 hp.1 f hf; simpa using this) hp.2 (fun f hf => by
        obtain ⟨i, hi, rfl⟩ := List.mem_iff_getElem.1 hf
        have hi2 : i < xs.length := by have := mapM_some_length hxs; omega
        have := mapM_some_get hxs i _ (List.getElem?_eq_getElem hi)
        rw [List.getElem?_eq_getElem hi2] at this
        exact ⟨_, this⟩)
      exact ⟨_, .strct ys hk y1 y2, y3⟩
    | _ => rw [hk] at hp; simp at hp

/-- An argument of plain data. -/
theorem dat_of_arg (hU : ∀ t, AgreeT P U t) (L : List TypeId) (hL : plainB U L = true) {sp : Nat → Bool} {held : Bool} (hsp : ∀ b, sp b = true) {t : TypeId} {v : Value} {d : DataW H} {p : List MemPlace} (ht : t ∈ L) {base : Nat} {rc : Reach}
    (hv : Value.okWide P w rc base t v) (h : DataW.Trod enc P w 0 sp held t v d p) : ∃ x, Dat U t x ∧ Rep (cx0 w) x v := by
  obtain ⟨fuel, h⟩ := h
  obtain ⟨x, x1, x2⟩ := dat_of_trod hU L hL hsp fuel t _ _ ht h
  refine ⟨x, x1, ?_⟩
  have hd := (hU t).desc
  cases x1 with
  | strct ys hk hn hx =>
    rw [hk] at hd
    obtain ⟨gs, hd, _⟩ := hd
    unfold Value.okWide at hv
    rw [hd] at hv
    obtain ⟨cs, rfl, _⟩ := hv
    have hl := x2.len
    simp only [AV.cells, Value.cells] at hl x2
    refine .agg _ _ (by simpa using hl.symm) (fun i hi => ?_) (fun i hi => ?_)
    · have := (x2.get i hi).1
      simpa using this
    · have := (x2.get i hi).2
      simpa using this
  | bool b hk =>
    cases v <;> first | exact x2.1.1 | skip
    rename_i cs
    rw [hk] at hd
    unfold Value.okWide at hv
    rw [hd] at hv
    simp [Cell.okWide, Cell.ok, hd] at hv
  | int n hk hw =>
    cases v <;> first | exact x2.1.1 | skip
    rename_i cs
    rw [hk] at hd
    unfold Value.okWide at hv
    rw [hd] at hv
    simp [Cell.okWide, Cell.ok, hd] at hv
  | str l hk hl =>
    cases v <;> first | exact x2.1.1 | skip
    rename_i cs
    rw [hk] at hd
    unfold Value.okWide at hv
    rw [hd] at hv
    simp [Cell.okWide, Cell.ok, hd] at hv
  | slice xs hk hx hl =>
    cases v <;> first | exact x2.1.1 | skip
    rename_i cs
    rw [hk] at hd
    unfold Value.okWide at hv
    rw [hd] at hv
    simp [Cell.okWide, Cell.ok, hd] at hv

end
end Go.Ab

/- The table of the types of this translation, and that the program bears it out. Printed by types.py. -/
set_option linter.unusedSimpArgs false
set_option linter.unusedVariables false
namespace Go.Proofs.Ytidpcjblciompaa
open Go Go.Ab

def tyRows : List TI := [
  ⟨.other, 0, 0, default⟩,
  ⟨.other, 1, 8, .v .nilFunc⟩,
  ⟨.int .i64, 1, 8, .v (.int .i64 0)⟩,
  ⟨.int .i64, 1, 8, .v (.int .i64 0)⟩,
  ⟨.bool, 1, 1, .v (.bool false)⟩,
  ⟨.int .u8, 1, 1, .v (.int .u8 0)⟩,
  ⟨.int .u8, 1, 1, .v (.int .u8 0)⟩,
  ⟨.strct [(0, 2), (1, 3), (2, 4), (3, 6)], 4, 24, .agg [.v (.int .i64 0), .v (.int .i64 0), .v (.bool false), .v (.int .u8 0)]⟩,
  ⟨.strct [(0, 2), (1, 3), (2, 4), (3, 6)], 4, 24, .agg [.v (.int .i64 0), .v (.int .i64 0), .v (.bool false), .v (.int .u8 0)]⟩,
  ⟨.str, 1, 16, .s []⟩,
  ⟨.str, 1, 16, .s []⟩,
  ⟨.str, 1, 16, .s []⟩,
  ⟨.int .u64, 1, 8, .v (.int .u64 0)⟩,
  ⟨.strct [(0, 9), (1, 12)], 2, 24, .agg [.s [], .v (.int .u64 0)]⟩,
  ⟨.strct [(0, 9), (1, 12)], 2, 24, .agg [.s [], .v (.int .u64 0)]⟩,
  ⟨.ptr 88, 1, 8, .v (.pointer none)⟩,
  ⟨.ptr 91, 1, 8, .v (.pointer none)⟩,
  ⟨.ptr 99, 1, 8, .v (.pointer none)⟩,
  ⟨.strct [(0, 17)], 1, 8, .agg [.v (.pointer none)]⟩,
  ⟨.strct [(0, 17)], 1, 8, .agg [.v (.pointer none)]⟩,
  ⟨.iface, 1, 16, .v .nilIface⟩,
  ⟨.int .i32, 1, 4, .v (.int .i32 0)⟩,
  ⟨.ptr 75, 1, 8, .v (.pointer none)⟩,
  ⟨.int .i64, 1, 8, .v (.int .i64 0)⟩,
  ⟨.other, 0, 0, default⟩,
  ⟨.other, 1, 8, .v .nilFunc⟩,
  ⟨.other, 1, 8, .v .nilFunc⟩,
  ⟨.slice 5, 1, 24, .sl [] .full⟩,
  ⟨.other, 1, 8, .v .nilFunc⟩,
  ⟨.other, 1, 8, .v .nilFunc⟩,
  ⟨.other, 1, 8, .v .nilFunc⟩,
  ⟨.other, 1, 8, .v .nilFunc⟩,
  ⟨.other, 1, 8, .v .nilFunc⟩,
  ⟨.other, 1, 8, .v .nilFunc⟩,
  ⟨.other, 1, 8, .v .nilFunc⟩,
  ⟨.other, 1, 8, .v .nilFunc⟩,
  ⟨.other, 1, 8, .v .nilFunc⟩,
  ⟨.other, 1, 8, .v .nilFunc⟩,
  ⟨.slice 27, 1, 24, .sl [] .full⟩,
  ⟨.other, 0, 0, default⟩,
  ⟨.other, 1, 8, .v .nilFunc⟩,
  ⟨.other, 1, 8, .v .nilFunc⟩,
  ⟨.other, 1, 8, .v .nilFunc⟩,
  ⟨.other, 1, 8, .v .nilFunc⟩,
  ⟨.other, 1, 8, .v .nilFunc⟩,
  ⟨.slice 47, 1, 24, .sl [] .full⟩,
  ⟨.strct [(0, 3), (1, 3), (2, 3), (3, 27)], 4, 48, .agg [.v (.int .i64 0), .v (.int .i64 0), .v (.int .i64 0), .sl [] .full]⟩,
  ⟨.strct [(0, 3), (1, 3), (2, 3), (3, 27)], 4, 48, .agg [.v (.int .i64 0), .v (.int .i64 0), .v (.int .i64 0), .sl [] .full]⟩,
  ⟨.other, 1, 8, .v .nilFunc⟩,
  ⟨.other, 1, 8, .v .nilFunc⟩,
  ⟨.ptr 56, 1, 8, .v (.pointer none)⟩,
  ⟨.other, 0, 0, default⟩,
  ⟨.other, 1, 8, .v .nilFunc⟩,
  ⟨.other, 1, 8, .v .nilFunc⟩,
  ⟨.other, 1, 8, .v .nilFunc⟩,
  ⟨.strct [(0, 3), (1, 27), (2, 3), (3, 3), (4, 4)], 5, 56, .agg [.v (.int .i64 0), .sl [] .full, .v (.int .i64 0), .v (.int .i64 0), .v (.bool false)]⟩,
  ⟨.strct [(0, 3), (1, 27), (2, 3), (3, 3), (4, 4)], 5, 56, .agg [.v (.int .i64 0), .sl [] .full, .v (.int .i64 0), .v (.int .i64 0), .v (.bool false)]⟩,
  ⟨.slice 3, 1, 24, .sl [] .full⟩,
  ⟨.other, 1, 8, .v .nilFunc⟩,
  ⟨.ptr 84, 1, 8, .v (.pointer none)⟩,
  ⟨.other, 0, 0, default⟩,
  ⟨.other, 1, 8, .v .nilFunc⟩,
  ⟨.other, 1, 8, .v .nilFunc⟩,
  ⟨.other, 1, 8, .v .nilFunc⟩,
  ⟨.other, 1, 8, .v .nilFunc⟩,
  ⟨.other, 1, 8, .v .nilFunc⟩,
  ⟨.slice 70, 1, 24, .sl [] .full⟩,
  ⟨.ptr 72, 1, 8, .v (.pointer none)⟩,
  ⟨.other, 0, 0, default⟩,
  ⟨.other, 1, 8, .v .nilFunc⟩,
  ⟨.strct [(0, 3), (1, 3), (2, 3), (3, 27)], 4, 48, .agg [.v (.int .i64 0), .v (.int .i64 0), .v (.int .i64 0), .sl [] .full]⟩,
  ⟨.strct [(0, 50), (1, 38), (2, 4)], 3, 40, .agg [.v (.pointer none), .sl [] .full, .v (.bool false)]⟩,
  ⟨.strct [(0, 50), (1, 38), (2, 4)], 3, 40, .agg [.v (.pointer none), .sl [] .full, .v (.bool false)]⟩,
  ⟨.other, 1, 8, .v .nilFunc⟩,
  ⟨.strct [(0, 3), (1, 27), (2, 3), (3, 3), (4, 4)], 5, 56, .agg [.v (.int .i64 0), .sl [] .full, .v (.int .i64 0), .v (.int .i64 0), .v (.bool false)]⟩,
  ⟨.strct [(0, 3), (1, 27), (2, 3), (3, 3), (4, 4)], 5, 56, .agg [.v (.int .i64 0), .sl [] .full, .v (.int .i64 0), .v (.int .i64 0), .v (.bool false)]⟩,
  ⟨.other, 1, 8, .v .nilFunc⟩,
  ⟨.other, 1, 8, .v .nilFunc⟩,
  ⟨.int .u32, 1, 4, .v (.int .u32 0)⟩,
  ⟨.other, 1, 8, .v .nilFunc⟩,
  ⟨.other, 0, 0, default⟩,
  ⟨.other, 1, 8, .v .nilFunc⟩,
  ⟨.int .u64, 1, 8, .v (.int .u64 0)⟩,
  ⟨.strct [(0, 22), (1, 38), (2, 4)], 3, 40, .agg [.v (.pointer none), .sl [] .full, .v (.bool false)]⟩,
  ⟨.strct [(0, 22), (1, 38), (2, 4)], 3, 40, .agg [.v (.pointer none), .sl [] .full, .v (.bool false)]⟩,
  ⟨.other, 1, 8, .v .nilFunc⟩,
  ⟨.other, 1, 8, .v .nilFunc⟩,
  ⟨.strct [(0, 17), (1, 17), (2, 17), (3, 9)], 4, 40, .agg [.v (.pointer none), .v (.pointer none), .v (.pointer none), .s []]⟩,
  ⟨.strct [(0, 17), (1, 17), (2, 17), (3, 9)], 4, 40, .agg [.v (.pointer none), .v (.pointer none), .v (.pointer none), .s []]⟩,
  ⟨.arr 0 16, 0, 0, default⟩,
  ⟨.other, 0, 0, default⟩,
  ⟨.other, 0, 0, default⟩,
  ⟨.int .u8, 1, 1, .v (.int .u8 0)⟩,
  ⟨.int .u8, 1, 1, .v (.int .u8 0)⟩,
  ⟨.other, 1, 8, .v .nilFunc⟩,
  ⟨.ptr 5, 1, 8, .v (.pointer none)⟩,
  ⟨.int .i32, 1, 4, .v (.int .i32 0)⟩,
  ⟨.int .i32, 1, 4, .v (.int .i32 0)⟩,
  ⟨.strct [(0, 12), (1, 12), (2, 78), (3, 92), (4, 5), (5, 5), (6, 93), (7, 94), (8, 95), (9, 96), (10, 97)], 11, 48, .agg [.v (.int .u64 0), .v (.int .u64 0), .v (.int .u32 0), .v (.int .u8 0), .v (.int .u8 0), .v (.int .u8 0), .v (.int .u8 0), .v .nilFunc, .v (.pointer none), .v (.int .i32 0), .v (.int .i32 0)]⟩,
  ⟨.strct [(0, 12), (1, 12), (2, 78), (3, 92), (4, 5), (5, 5), (6, 93), (7, 94), (8, 95), (9, 96), (10, 97)], 11, 48, .agg [.v (.int .u64 0), .v (.int .u64 0), .v (.int .u32 0), .v (.int .u8 0), .v (.int .u8 0), .v (.int .u8 0), .v (.int .u8 0), .v .nilFunc, .v (.pointer none), .v (.int .i32 0), .v (.int .i32 0)]⟩,
  ⟨.other, 1, 8, .v (.pointer none)⟩]

def U (t : TypeId) : TI := tyRows.getD t ⟨.other, 0, 0, default⟩

@[go_sem] theorem U1k : (U 1).k = .other := rfl
@[go_sem] theorem U1s : (U 1).sz = 1 := rfl
@[go_sem] theorem U1b : (U 1).bytes = 8 := rfl
@[go_sem] theorem U1z : (U 1).zero = .v .nilFunc := rfl
@[go_sem] theorem U2k : (U 2).k = .int .i64 := rfl
@[go_sem] theorem U2s : (U 2).sz = 1 := rfl
@[go_sem] theorem U2b : (U 2).bytes = 8 := rfl
@[go_sem] theorem U2z : (U 2).zero = .v (.int .i64 0) := rfl
@[go_sem] theorem U3k : (U 3).k = .int .i64 := rfl
@[go_sem] theorem U3s : (U 3).sz = 1 := rfl
@[go_sem] theorem U3b : (U 3).bytes = 8 := rfl
@[go_sem] theorem U3z : (U 3).zero = .v (.int .i64 0) := rfl
@[go_sem] theorem U4k : (U 4).k = .bool := rfl
@[go_sem] theorem U4s : (U 4).sz = 1 := rfl
@[go_sem] theorem U4b : (U 4).bytes = 1 := rfl
@[go_sem] theorem U4z : (U 4).zero = .v (.bool false) := rfl
@[go_sem] theorem U5k : (U 5).k = .int .u8 := rfl
@[go_sem] theorem U5s : (U 5).sz = 1 := rfl
@[go_sem] theorem U5b : (U 5).bytes = 1 := rfl
@[go_sem] theorem U5z : (U 5).zero = .v (.int .u8 0) := rfl
@[go_sem] theorem U6k : (U 6).k = .int .u8 := rfl
@[go_sem] theorem U6s : (U 6).sz = 1 := rfl
@[go_sem] theorem U6b : (U 6).bytes = 1 := rfl
@[go_sem] theorem U6z : (U 6).zero = .v (.int .u8 0) := rfl
@[go_sem] theorem U7k : (U 7).k = .strct [(0, 2), (1, 3), (2, 4), (3, 6)] := rfl
@[go_sem] theorem U7s : (U 7).sz = 4 := rfl
@[go_sem] theorem U7b : (U 7).bytes = 24 := rfl
@[go_sem] theorem U7z : (U 7).zero = .agg [.v (.int .i64 0), .v (.int .i64 0), .v (.bool false), .v (.int .u8 0)] := rfl
@[go_sem] theorem U8k : (U 8).k = .strct [(0, 2), (1, 3), (2, 4), (3, 6)] := rfl
@[go_sem] theorem U8s : (U 8).sz = 4 := rfl
@[go_sem] theorem U8b : (U 8).bytes = 24 := rfl
@[go_sem] theorem U8z : (U 8).zero = .agg [.v (.int .i64 0), .v (.int .i64 0), .v (.bool false), .v (.int .u8 0)] := rfl
@[go_sem] theorem U9k : (U 9).k = .str := rfl
@[go_sem] theorem U9s : (U 9).sz = 1 := rfl
@[go_sem] theorem U9b : (U 9).bytes = 16 := rfl
@[go_sem] theorem U9z : (U 9).zero = .s [] := rfl
@[go_sem] theorem U10k : (U 10).k = .str := rfl
@[go_sem] theorem U10s : (U 10).sz = 1 := rfl
@[go_sem] theorem U10b : (U 10).bytes = 16 := rfl
@[go_sem] theorem U10z : (U 10).zero = .s [] := rfl
@[go_sem] theorem U11k : (U 11).k = .str := rfl
@[go_sem] theorem U11s : (U 11).sz = 1 := rfl
@[go_sem] theorem U11b : (U 11).bytes = 16 := rfl
@[go_sem] theorem U11z : (U 11).zero = .s [] := rfl
@[go_sem] theorem U12k : (U 12).k = .int .u64 := rfl
@[go_sem] theorem U12s : (U 12).sz = 1 := rfl
@[go_sem] theorem U12b : (U 12).bytes = 8 := rfl
@[go_sem] theorem U12z : (U 12).zero = .v (.int .u64 0) := rfl
@[go_sem] theorem U13k : (U 13).k = .strct [(0, 9), (1, 12)] := rfl
@[go_sem] theorem U13s : (U 13).sz = 2 := rfl
@[go_sem] theorem U13b : (U 13).bytes = 24 := rfl
@[go_sem] theorem U13z : (U 13).zero = .agg [.s [], .v (.int .u64 0)] := rfl
@[go_sem] theorem U14k : (U 14).k = .strct [(0, 9), (1, 12)] := rfl
@[go_sem] theorem U14s : (U 14).sz = 2 := rfl
@[go_sem] theorem U14b : (U 14).bytes = 24 := rfl
@[go_sem] theorem U14z : (U 14).zero = .agg [.s [], .v (.int .u64 0)] := rfl
@[go_sem] theorem U15k : (U 15).k = .ptr 88 := rfl
@[go_sem] theorem U15s : (U 15).sz = 1 := rfl
@[go_sem] theorem U15b : (U 15).bytes = 8 := rfl
@[go_sem] theorem U15z : (U 15).zero = .v (.pointer none) := rfl
@[go_sem] theorem U16k : (U 16).k = .ptr 91 := rfl
@[go_sem] theorem U16s : (U 16).sz = 1 := rfl
@[go_sem] theorem U16b : (U 16).bytes = 8 := rfl
@[go_sem] theorem U16z : (U 16).zero = .v (.pointer none) := rfl
@[go_sem] theorem U17k : (U 17).k = .ptr 99 := rfl
@[go_sem] theorem U17s : (U 17).sz = 1 := rfl
@[go_sem] theorem U17b : (U 17).bytes = 8 := rfl
@[go_sem] theorem U17z : (U 17).zero = .v (.pointer none) := rfl
@[go_sem] theorem U18k : (U 18).k = .strct [(0, 17)] := rfl
@[go_sem] theorem U18s : (U 18).sz = 1 := rfl
@[go_sem] theorem U18b : (U 18).bytes = 8 := rfl
@[go_sem] theorem U18z : (U 18).zero = .agg [.v (.pointer none)] := rfl
@[go_sem] theorem U19k : (U 19).k = .strct [(0, 17)] := rfl
@[go_sem] theorem U19s : (U 19).sz = 1 := rfl
@[go_sem] theorem U19b : (U 19).bytes = 8 := rfl
@[go_sem] theorem U19z : (U 19).zero = .agg [.v (.pointer none)] := rfl
@[go_sem] theorem U20k : (U 20).k = .iface := rfl
@[go_sem] theorem U20s : (U 20).sz = 1 := rfl
@[go_sem] theorem U20b : (U 20).bytes = 16 := rfl
@[go_sem] theorem U20z : (U 20).zero = .v .nilIface := rfl
@[go_sem] theorem U21k : (U 21).k = .int .i32 := rfl
@[go_sem] theorem U21s : (U 21).sz = 1 := rfl
@[go_sem] theorem U21b : (U 21).bytes = 4 := rfl
@[go_sem] theorem U21z : (U 21).zero = .v (.int .i32 0) := rfl
@[go_sem] theorem U22k : (U 22).k = .ptr 75 := rfl
@[go_sem] theorem U22s : (U 22).sz = 1 := rfl
@[go_sem] theorem U22b : (U 22).bytes = 8 := rfl
@[go_sem] theorem U22z : (U 22).zero = .v (.pointer none) := rfl
@[go_sem] theorem U23k : (U 23).k = .int .i64 := rfl
@[go_sem] theorem U23s : (U 23).sz = 1 := rfl
@[go_sem] theorem U23b : (U 23).bytes = 8 := rfl
@[go_sem] theorem U23z : (U 23).zero = .v (.int .i64 0) := rfl
@[go_sem] theorem U25k : (U 25).k = .other := rfl
@[go_sem] theorem U25s : (U 25).sz = 1 := rfl
@[go_sem] theorem U25b : (U 25).bytes = 8 := rfl
@[go_sem] theorem U25z : (U 25).zero = .v .nilFunc := rfl
@[go_sem] theorem U26k : (U 26).k = .other := rfl
@[go_sem] theorem U26s : (U 26).sz = 1 := rfl
@[go_sem] theorem U26b : (U 26).bytes = 8 := rfl
@[go_sem] theorem U26z : (U 26).zero = .v .nilFunc := rfl
@[go_sem] theorem U27k : (U 27).k = .slice 5 := rfl
@[go_sem] theorem U27s : (U 27).sz = 1 := rfl
@[go_sem] theorem U27b : (U 27).bytes = 24 := rfl
@[go_sem] theorem U27z : (U 27).zero = .sl [] .full := rfl
@[go_sem] theorem U28k : (U 28).k = .other := rfl
@[go_sem] theorem U28s : (U 28).sz = 1 := rfl
@[go_sem] theorem U28b : (U 28).bytes = 8 := rfl
@[go_sem] theorem U28z : (U 28).zero = .v .nilFunc := rfl
@[go_sem] theorem U29k : (U 29).k = .other := rfl
@[go_sem] theorem U29s : (U 29).sz = 1 := rfl
@[go_sem] theorem U29b : (U 29).bytes = 8 := rfl
@[go_sem] theorem U29z : (U 29).zero = .v .nilFunc := rfl
@[go_sem] theorem U30k : (U 30).k = .other := rfl
@[go_sem] theorem U30s : (U 30).sz = 1 := rfl
@[go_sem] theorem U30b : (U 30).bytes = 8 := rfl
@[go_sem] theorem U30z : (U 30).zero = .v .nilFunc := rfl
@[go_sem] theorem U31k : (U 31).k = .other := rfl
@[go_sem] theorem U31s : (U 31).sz = 1 := rfl
@[go_sem] theorem U31b : (U 31).bytes = 8 := rfl
@[go_sem] theorem U31z : (U 31).zero = .v .nilFunc := rfl
@[go_sem] theorem U32k : (U 32).k = .other := rfl
@[go_sem] theorem U32s : (U 32).sz = 1 := rfl
@[go_sem] theorem U32b : (U 32).bytes = 8 := rfl
@[go_sem] theorem U32z : (U 32).zero = .v .nilFunc := rfl
@[go_sem] theorem U33k : (U 33).k = .other := rfl
@[go_sem] theorem U33s : (U 33).sz = 1 := rfl
@[go_sem] theorem U33b : (U 33).bytes = 8 := rfl
@[go_sem] theorem U33z : (U 33).zero = .v .nilFunc := rfl
@[go_sem] theorem U34k : (U 34).k = .other := rfl
@[go_sem] theorem U34s : (U 34).sz = 1 := rfl
@[go_sem] theorem U34b : (U 34).bytes = 8 := rfl
@[go_sem] theorem U34z : (U 34).zero = .v .nilFunc := rfl
@[go_sem] theorem U35k : (U 35).k = .other := rfl
@[go_sem] theorem U35s : (U 35).sz = 1 := rfl
@[go_sem] theorem U35b : (U 35).bytes = 8 := rfl
@[go_sem] theorem U35z : (U 35).zero = .v .nilFunc := rfl
@[go_sem] theorem U36k : (U 36).k = .other := rfl
@[go_sem] theorem U36s : (U 36).sz = 1 := rfl
@[go_sem] theorem U36b : (U 36).bytes = 8 := rfl
@[go_sem] theorem U36z : (U 36).zero = .v .nilFunc := rfl
@[go_sem] theorem U37k : (U 37).k = .other := rfl
@[go_sem] theorem U37s : (U 37).sz = 1 := rfl
@[go_sem] theorem U37b : (U 37).bytes = 8 := rfl
@[go_sem] theorem U37z : (U 37).zero = .v .nilFunc := rfl
@[go_sem] theorem U38k : (U 38).k = .slice 27 := rfl
@[go_sem] theorem U38s : (U 38).sz = 1 := rfl
@[go_sem] theorem U38b : (U 38).bytes = 24 := rfl
@[go_sem] theorem U38z : (U 38).zero = .sl [] .full := rfl
@[go_sem] theorem U40k : (U 40).k = .other := rfl
@[go_sem] theorem U40s : (U 40).sz = 1 := rfl
@[go_sem] theorem U40b : (U 40).bytes = 8 := rfl
@[go_sem] theorem U40z : (U 40).zero = .v .nilFunc := rfl
@[go_sem] theorem U41k : (U 41).k = .other := rfl
@[go_sem] theorem U41s : (U 41).sz = 1 := rfl
@[go_sem] theorem U41b : (U 41).bytes = 8 := rfl
@[go_sem] theorem U41z : (U 41).zero = .v .nilFunc := rfl
@[go_sem] theorem U42k : (U 42).k = .other := rfl
@[go_sem] theorem U42s : (U 42).sz = 1 := rfl
@[go_sem] theorem U42b : (U 42).bytes = 8 := rfl
@[go_sem] theorem U42z : (U 42).zero = .v .nilFunc := rfl
@[go_sem] theorem U43k : (U 43).k = .other := rfl
@[go_sem] theorem U43s : (U 43).sz = 1 := rfl
@[go_sem] theorem U43b : (U 43).bytes = 8 := rfl
@[go_sem] theorem U43z : (U 43).zero = .v .nilFunc := rfl
@[go_sem] theorem U44k : (U 44).k = .other := rfl
@[go_sem] theorem U44s : (U 44).sz = 1 := rfl
@[go_sem] theorem U44b : (U 44).bytes = 8 := rfl
@[go_sem] theorem U44z : (U 44).zero = .v .nilFunc := rfl
@[go_sem] theorem U45k : (U 45).k = .slice 47 := rfl
@[go_sem] theorem U45s : (U 45).sz = 1 := rfl
@[go_sem] theorem U45b : (U 45).bytes = 24 := rfl
@[go_sem] theorem U45z : (U 45).zero = .sl [] .full := rfl
@[go_sem] theorem U46k : (U 46).k = .strct [(0, 3), (1, 3), (2, 3), (3, 27)] := rfl
@[go_sem] theorem U46s : (U 46).sz = 4 := rfl
@[go_sem] theorem U46b : (U 46).bytes = 48 := rfl
@[go_sem] theorem U46z : (U 46).zero = .agg [.v (.int .i64 0), .v (.int .i64 0), .v (.int .i64 0), .sl [] .full] := rfl
@[go_sem] theorem U47k : (U 47).k = .strct [(0, 3), (1, 3), (2, 3), (3, 27)] := rfl
@[go_sem] theorem U47s : (U 47).sz = 4 := rfl
@[go_sem] theorem U47b : (U 47).bytes = 48 := rfl
@[go_sem] theorem U47z : (U 47).zero = .agg [.v (.int .i64 0), .v (.int .i64 0), .v (.int .i64 0), .sl [] .full] := rfl
@[go_sem] theorem U48k : (U 48).k = .other := rfl
@[go_sem] theorem U48s : (U 48).sz = 1 := rfl
@[go_sem] theorem U48b : (U 48).bytes = 8 := rfl
@[go_sem] theorem U48z : (U 48).zero = .v .nilFunc := rfl
@[go_sem] theorem U49k : (U 49).k = .other := rfl
@[go_sem] theorem U49s : (U 49).sz = 1 := rfl
@[go_sem] theorem U49b : (U 49).bytes = 8 := rfl
@[go_sem] theorem U49z : (U 49).zero = .v .nilFunc := rfl
@[go_sem] theorem U50k : (U 50).k = .ptr 56 := rfl
@[go_sem] theorem U50s : (U 50).sz = 1 := rfl
@[go_sem] theorem U50b : (U 50).bytes = 8 := rfl
@[go_sem] theorem U50z : (U 50).zero = .v (.pointer none) := rfl
@[go_sem] theorem U52k : (U 52).k = .other := rfl
@[go_sem] theorem U52s : (U 52).sz = 1 := rfl
@[go_sem] theorem U52b : (U 52).bytes = 8 := rfl
@[go_sem] theorem U52z : (U 52).zero = .v .nilFunc := rfl
@[go_sem] theorem U53k : (U 53).k = .other := rfl
@[go_sem] theorem U53s : (U 53).sz = 1 := rfl
@[go_sem] theorem U53b : (U 53).bytes = 8 := rfl
@[go_sem] theorem U53z : (U 53).zero = .v .nilFunc := rfl
@[go_sem] theorem U54k : (U 54).k = .other := rfl
@[go_sem] theorem U54s : (U 54).sz = 1 := rfl
@[go_sem] theorem U54b : (U 54).bytes = 8 := rfl
@[go_sem] theorem U54z : (U 54).zero = .v .nilFunc := rfl
@[go_sem] theorem U55k : (U 55).k = .strct [(0, 3), (1, 27), (2, 3), (3, 3), (4, 4)] := rfl
@[go_sem] theorem U55s : (U 55).sz = 5 := rfl
@[go_sem] theorem U55b : (U 55).bytes = 56 := rfl
@[go_sem] theorem U55z : (U 55).zero = .agg [.v (.int .i64 0), .sl [] .full, .v (.int .i64 0), .v (.int .i64 0), .v (.bool false)] := rfl
@[go_sem] theorem U56k : (U 56).k = .strct [(0, 3), (1, 27), (2, 3), (3, 3), (4, 4)] := rfl
@[go_sem] theorem U56s : (U 56).sz = 5 := rfl
@[go_sem] theorem U56b : (U 56).bytes = 56 := rfl
@[go_sem] theorem U56z : (U 56).zero = .agg [.v (.int .i64 0), .sl [] .full, .v (.int .i64 0), .v (.int .i64 0), .v (.bool false)] := rfl
@[go_sem] theorem U57k : (U 57).k = .slice 3 := rfl
@[go_sem] theorem U57s : (U 57).sz = 1 := rfl
@[go_sem] theorem U57b : (U 57).bytes = 24 := rfl
@[go_sem] theorem U57z : (U 57).zero = .sl [] .full := rfl
@[go_sem] theorem U58k : (U 58).k = .other := rfl
@[go_sem] theorem U58s : (U 58).sz = 1 := rfl
@[go_sem] theorem U58b : (U 58).bytes = 8 := rfl
@[go_sem] theorem U58z : (U 58).zero = .v .nilFunc := rfl
@[go_sem] theorem U59k : (U 59).k = .ptr 84 := rfl
@[go_sem] theorem U59s : (U 59).sz = 1 := rfl
@[go_sem] theorem U59b : (U 59).bytes = 8 := rfl
@[go_sem] theorem U59z : (U 59).zero = .v (.pointer none) := rfl
@[go_sem] theorem U61k : (U 61).k = .other := rfl
@[go_sem] theorem U61s : (U 61).sz = 1 := rfl
@[go_sem] theorem U61b : (U 61).bytes = 8 := rfl
@[go_sem] theorem U61z : (U 61).zero = .v .nilFunc := rfl
@[go_sem] theorem U62k : (U 62).k = .other := rfl
@[go_sem] theorem U62s : (U 62).sz = 1 := rfl
@[go_sem] theorem U62b : (U 62).bytes = 8 := rfl
@[go_sem] theorem U62z : (U 62).zero = .v .nilFunc := rfl
@[go_sem] theorem U63k : (U 63).k = .other := rfl
@[go_sem] theorem U63s : (U 63).sz = 1 := rfl
@[go_sem] theorem U63b : (U 63).bytes = 8 := rfl
@[go_sem] theorem U63z : (U 63).zero = .v .nilFunc := rfl
@[go_sem] theorem U64k : (U 64).k = .other := rfl
@[go_sem] theorem U64s : (U 64).sz = 1 := rfl
@[go_sem] theorem U64b : (U 64).bytes = 8 := rfl
@[go_sem] theorem U64z : (U 64).zero = .v .nilFunc := rfl
@[go_sem] theorem U65k : (U 65).k = .other := rfl
@[go_sem] theorem U65s : (U 65).sz = 1 := rfl
@[go_sem] theorem U65b : (U 65).bytes = 8 := rfl
@[go_sem] theorem U65z : (U 65).zero = .v .nilFunc := rfl
@[go_sem] theorem U66k : (U 66).k = .slice 70 := rfl
@[go_sem] theorem U66s : (U 66).sz = 1 := rfl
@[go_sem] theorem U66b : (U 66).bytes = 24 := rfl
@[go_sem] theorem U66z : (U 66).zero = .sl [] .full := rfl
@[go_sem] theorem U67k : (U 67).k = .ptr 72 := rfl
@[go_sem] theorem U67s : (U 67).sz = 1 := rfl
@[go_sem] theorem U67b : (U 67).bytes = 8 := rfl
@[go_sem] theorem U67z : (U 67).zero = .v (.pointer none) := rfl
@[go_sem] theorem U69k : (U 69).k = .other := rfl
@[go_sem] theorem U69s : (U 69).sz = 1 := rfl
@[go_sem] theorem U69b : (U 69).bytes = 8 := rfl
@[go_sem] theorem U69z : (U 69).zero = .v .nilFunc := rfl
@[go_sem] theorem U70k : (U 70).k = .strct [(0, 3), (1, 3), (2, 3), (3, 27)] := rfl
@[go_sem] theorem U70s : (U 70).sz = 4 := rfl
@[go_sem] theorem U70b : (U 70).bytes = 48 := rfl
@[go_sem] theorem U70z : (U 70).zero = .agg [.v (.int .i64 0), .v (.int .i64 0), .v (.int .i64 0), .sl [] .full] := rfl
@[go_sem] theorem U71k : (U 71).k = .strct [(0, 50), (1, 38), (2, 4)] := rfl
@[go_sem] theorem U71s : (U 71).sz = 3 := rfl
@[go_sem] theorem U71b : (U 71).bytes = 40 := rfl
@[go_sem] theorem U71z : (U 71).zero = .agg [.v (.pointer none), .sl [] .full, .v (.bool false)] := rfl
@[go_sem] theorem U72k : (U 72).k = .strct [(0, 50), (1, 38), (2, 4)] := rfl
@[go_sem] theorem U72s : (U 72).sz = 3 := rfl
@[go_sem] theorem U72b : (U 72).bytes = 40 := rfl
@[go_sem] theorem U72z : (U 72).zero = .agg [.v (.pointer none), .sl [] .full, .v (.bool false)] := rfl
@[go_sem] theorem U73k : (U 73).k = .other := rfl
@[go_sem] theorem U73s : (U 73).sz = 1 := rfl
@[go_sem] theorem U73b : (U 73).bytes = 8 := rfl
@[go_sem] theorem U73z : (U 73).zero = .v .nilFunc := rfl
@[go_sem] theorem U74k : (U 74).k = .strct [(0, 3), (1, 27), (2, 3), (3, 3), (4, 4)] := rfl
@[go_sem] theorem U74s : (U 74).sz = 5 := rfl
@[go_sem] theorem U74b : (U 74).bytes = 56 := rfl
@[go_sem] theorem U74z : (U 74).zero = .agg [.v (.int .i64 0), .sl [] .full, .v (.int .i64 0), .v (.int .i64 0), .v (.bool false)] := rfl
@[go_sem] theorem U75k : (U 75).k = .strct [(0, 3), (1, 27), (2, 3), (3, 3), (4, 4)] := rfl
@[go_sem] theorem U75s : (U 75).sz = 5 := rfl
@[go_sem] theorem U75b : (U 75).bytes = 56 := rfl
@[go_sem] theorem U75z : (U 75).zero = .agg [.v (.int .i64 0), .sl [] .full, .v (.int .i64 0), .v (.int .i64 0), .v (.bool false)] := rfl
@[go_sem] theorem U76k : (U 76).k = .other := rfl
@[go_sem] theorem U76s : (U 76).sz = 1 := rfl
@[go_sem] theorem U76b : (U 76).bytes = 8 := rfl
@[go_sem] theorem U76z : (U 76).zero = .v .nilFunc := rfl
@[go_sem] theorem U77k : (U 77).k = .other := rfl
@[go_sem] theorem U77s : (U 77).sz = 1 := rfl
@[go_sem] theorem U77b : (U 77).bytes = 8 := rfl
@[go_sem] theorem U77z : (U 77).zero = .v .nilFunc := rfl
@[go_sem] theorem U78k : (U 78).k = .int .u32 := rfl
@[go_sem] theorem U78s : (U 78).sz = 1 := rfl
@[go_sem] theorem U78b : (U 78).bytes = 4 := rfl
@[go_sem] theorem U78z : (U 78).zero = .v (.int .u32 0) := rfl
@[go_sem] theorem U79k : (U 79).k = .other := rfl
@[go_sem] theorem U79s : (U 79).sz = 1 := rfl
@[go_sem] theorem U79b : (U 79).bytes = 8 := rfl
@[go_sem] theorem U79z : (U 79).zero = .v .nilFunc := rfl
@[go_sem] theorem U81k : (U 81).k = .other := rfl
@[go_sem] theorem U81s : (U 81).sz = 1 := rfl
@[go_sem] theorem U81b : (U 81).bytes = 8 := rfl
@[go_sem] theorem U81z : (U 81).zero = .v .nilFunc := rfl
@[go_sem] theorem U82k : (U 82).k = .int .u64 := rfl
@[go_sem] theorem U82s : (U 82).sz = 1 := rfl
@[go_sem] theorem U82b : (U 82).bytes = 8 := rfl
@[go_sem] theorem U82z : (U 82).zero = .v (.int .u64 0) := rfl
@[go_sem] theorem U83k : (U 83).k = .strct [(0, 22), (1, 38), (2, 4)] := rfl
@[go_sem] theorem U83s : (U 83).sz = 3 := rfl
@[go_sem] theorem U83b : (U 83).bytes = 40 := rfl
@[go_sem] theorem U83z : (U 83).zero = .agg [.v (.pointer none), .sl [] .full, .v (.bool false)] := rfl
@[go_sem] theorem U84k : (U 84).k = .strct [(0, 22), (1, 38), (2, 4)] := rfl
@[go_sem] theorem U84s : (U 84).sz = 3 := rfl
@[go_sem] theorem U84b : (U 84).bytes = 40 := rfl
@[go_sem] theorem U84z : (U 84).zero = .agg [.v (.pointer none), .sl [] .full, .v (.bool false)] := rfl
@[go_sem] theorem U85k : (U 85).k = .other := rfl
@[go_sem] theorem U85s : (U 85).sz = 1 := rfl
@[go_sem] theorem U85b : (U 85).bytes = 8 := rfl
@[go_sem] theorem U85z : (U 85).zero = .v .nilFunc := rfl
@[go_sem] theorem U86k : (U 86).k = .other := rfl
@[go_sem] theorem U86s : (U 86).sz = 1 := rfl
@[go_sem] theorem U86b : (U 86).bytes = 8 := rfl
@[go_sem] theorem U86z : (U 86).zero = .v .nilFunc := rfl
@[go_sem] theorem U87k : (U 87).k = .strct [(0, 17), (1, 17), (2, 17), (3, 9)] := rfl
@[go_sem] theorem U87s : (U 87).sz = 4 := rfl
@[go_sem] theorem U87b : (U 87).bytes = 40 := rfl
@[go_sem] theorem U87z : (U 87).zero = .agg [.v (.pointer none), .v (.pointer none), .v (.pointer none), .s []] := rfl
@[go_sem] theorem U88k : (U 88).k = .strct [(0, 17), (1, 17), (2, 17), (3, 9)] := rfl
@[go_sem] theorem U88s : (U 88).sz = 4 := rfl
@[go_sem] theorem U88b : (U 88).bytes = 40 := rfl
@[go_sem] theorem U88z : (U 88).zero = .agg [.v (.pointer none), .v (.pointer none), .v (.pointer none), .s []] := rfl
@[go_sem] theorem U89k : (U 89).k = .arr 0 16 := rfl
@[go_sem] theorem U92k : (U 92).k = .int .u8 := rfl
@[go_sem] theorem U92s : (U 92).sz = 1 := rfl
@[go_sem] theorem U92b : (U 92).bytes = 1 := rfl
@[go_sem] theorem U92z : (U 92).zero = .v (.int .u8 0) := rfl
@[go_sem] theorem U93k : (U 93).k = .int .u8 := rfl
@[go_sem] theorem U93s : (U 93).sz = 1 := rfl
@[go_sem] theorem U93b : (U 93).bytes = 1 := rfl
@[go_sem] theorem U93z : (U 93).zero = .v (.int .u8 0) := rfl
@[go_sem] theorem U94k : (U 94).k = .other := rfl
@[go_sem] theorem U94s : (U 94).sz = 1 := rfl
@[go_sem] theorem U94b : (U 94).bytes = 8 := rfl
@[go_sem] theorem U94z : (U 94).zero = .v .nilFunc := rfl
@[go_sem] theorem U95k : (U 95).k = .ptr 5 := rfl
@[go_sem] theorem U95s : (U 95).sz = 1 := rfl
@[go_sem] theorem U95b : (U 95).bytes = 8 := rfl
@[go_sem] theorem U95z : (U 95).zero = .v (.pointer none) := rfl
@[go_sem] theorem U96k : (U 96).k = .int .i32 := rfl
@[go_sem] theorem U96s : (U 96).sz = 1 := rfl
@[go_sem] theorem U96b : (U 96).bytes = 4 := rfl
@[go_sem] theorem U96z : (U 96).zero = .v (.int .i32 0) := rfl
@[go_sem] theorem U97k : (U 97).k = .int .i32 := rfl
@[go_sem] theorem U97s : (U 97).sz = 1 := rfl
@[go_sem] theorem U97b : (U 97).bytes = 4 := rfl
@[go_sem] theorem U97z : (U 97).zero = .v (.int .i32 0) := rfl
@[go_sem] theorem U98k : (U 98).k = .strct [(0, 12), (1, 12), (2, 78), (3, 92), (4, 5), (5, 5), (6, 93), (7, 94), (8, 95), (9, 96), (10, 97)] := rfl
@[go_sem] theorem U98s : (U 98).sz = 11 := rfl
@[go_sem] theorem U98b : (U 98).bytes = 48 := rfl
@[go_sem] theorem U98z : (U 98).zero = .agg [.v (.int .u64 0), .v (.int .u64 0), .v (.int .u32 0), .v (.int .u8 0), .v (.int .u8 0), .v (.int .u8 0), .v (.int .u8 0), .v .nilFunc, .v (.pointer none), .v (.int .i32 0), .v (.int .i32 0)] := rfl
@[go_sem] theorem U99k : (U 99).k = .strct [(0, 12), (1, 12), (2, 78), (3, 92), (4, 5), (5, 5), (6, 93), (7, 94), (8, 95), (9, 96), (10, 97)] := rfl
@[go_sem] theorem U99s : (U 99).sz = 11 := rfl
@[go_sem] theorem U99b : (U 99).bytes = 48 := rfl
@[go_sem] theorem U99z : (U 99).zero = .agg [.v (.int .u64 0), .v (.int .u64 0), .v (.int .u32 0), .v (.int .u8 0), .v (.int .u8 0), .v (.int .u8 0), .v (.int .u8 0), .v .nilFunc, .v (.pointer none), .v (.int .i32 0), .v (.int .i32 0)] := rfl
@[go_sem] theorem U100k : (U 100).k = .other := rfl
@[go_sem] theorem U100s : (U 100).sz = 1 := rfl
@[go_sem] theorem U100b : (U 100).bytes = 8 := rfl
@[go_sem] theorem U100z : (U 100).zero = .v (.pointer none) := rfl

theorem hU : ∀ t, AgreeT Try.prog U t := agree_all 101 (by kernel_rfl) fun t ht => by
  unfold U
  rw [List.getD_eq_getElem?_getD, List.getElem?_eq_none (by simpa [tyRows] using ht)]
  rfl

theorem hm : Try.prog.follows .mixedOrders = true := by kernel_rfl

end Go.Proofs.Ytidpcjblciompaa

/- Contracts of the functions of slices, and of the book's. -/
set_option linter.unusedSimpArgs false
set_option linter.unusedVariables false
namespace Go.Proofs.Ytidpcjblciompaa
open Go Go.Ab

abbrev By := Bytes 5
theorem u5 : (U 5).sz = 1 := by simp only [go_sem]
theorem u5a : (U 5).k.agg = false := by simp only [go_sem]

theorem clone_sl (y : AV) (l : List UInt8) (h : Heap) (hb : By h y l) (hl : l.length ≤ 140737488355328) :
    FnOK Try.prog 47 [y] h fun r h' => h' = h ∧ r = .sl (l.map byteA) .no := by
  refine FnOK.body hU hm Try.func47 rfl (by kernel_rfl) 8 rfl [.tmp 2] rfl (Nat.le_of_ble_eq_true rfl) (fun hwf => ?_)
  simp -implicitDefEqProofs only [go_sem, ↓reduceIte, Nat.reduceLT, Nat.reduceEqDiff, Nat.reduceAdd, Nat.reduceLeDiff, Nat.reduceMul, Nat.reduceSub]
  refine hb.nilE fun b hbn => ?_
  simp -implicitDefEqProofs only [go_sem, ↓reduceIte, Nat.reduceLT, Nat.reduceEqDiff, Nat.reduceAdd, Nat.reduceLeDiff, Nat.reduceMul, Nat.reduceSub]
  refine CondC.intro (fun e => ?_) (fun e => ?_)
  · have hl0 : l = [] := Classical.byContradiction fun hh => by rw [hbn hh] at e; cases e
    subst hl0
    simp -implicitDefEqProofs only [go_sem, ↓reduceIte, Nat.reduceLT, Nat.reduceEqDiff, Nat.reduceAdd, Nat.reduceLeDiff, Nat.reduceMul, Nat.reduceSub]
    exact .mk _ (.sl _ _) (.refl _) ⟨rfl, rfl⟩
  · simp -implicitDefEqProofs only [go_sem, ↓reduceIte, Nat.reduceLT, Nat.reduceEqDiff, Nat.reduceAdd, Nat.reduceLeDiff, Nat.reduceMul, Nat.reduceSub]
    rw [hb.src u5]
    simp -implicitDefEqProofs only [go_sem, ↓reduceIte, Nat.reduceLT, Nat.reduceEqDiff, Nat.reduceAdd, Nat.reduceLeDiff, Nat.reduceMul, Nat.reduceSub]
    refine ⟨by omega, fun hn => ?_, fun hn => ?_⟩
    · have hl0 : l = [] := by simpa using hn
      subst hl0
      simp -implicitDefEqProofs only [go_sem, ↓reduceIte, Nat.reduceLT, Nat.reduceEqDiff, Nat.reduceAdd, Nat.reduceLeDiff, Nat.reduceMul, Nat.reduceSub]
      exact .mk _ (.sl _ _) (.refl _) ⟨rfl, rfl⟩
    · refine .own fun id hid => ?_
      simp -implicitDefEqProofs only [go_sem, ↓reduceIte, Nat.reduceLT, Nat.reduceEqDiff, Nat.reduceAdd, Nat.reduceLeDiff, Nat.reduceMul, Nat.reduceSub]
      exact .mk _ (.sl _ _) (.upd_new hid) ⟨rfl, rfl⟩

theorem clone_oa (y : AV) (l : List UInt8) (h : Heap) (hb : By h y l) (hl : l.length ≤ 140737488355328) :
    FnOK Try.prog 47 [y] h fun r h' => (l = [] ∧ r = .sl [] .no ∧ h' = h) ∨ (l ≠ [] ∧ ∃ id m, h id = none ∧ r = .oa id 0 l.length ∧ h' = upd h id (some (.obj (l.map byteA ++ List.replicate m (byteA 0)) 5))) := by
  refine FnOK.body hU hm Try.func47 rfl (by kernel_rfl) 8 rfl [.tmp 2] rfl (Nat.le_of_ble_eq_true rfl) (fun hwf => ?_)
  simp -implicitDefEqProofs only [go_sem, ↓reduceIte, Nat.reduceLT, Nat.reduceEqDiff, Nat.reduceAdd, Nat.reduceLeDiff, Nat.reduceMul, Nat.reduceSub]
  refine hb.nilE fun b hbn => ?_
  simp -implicitDefEqProofs only [go_sem, ↓reduceIte, Nat.reduceLT, Nat.reduceEqDiff, Nat.reduceAdd, Nat.reduceLeDiff, Nat.reduceMul, Nat.reduceSub]
  refine CondC.intro (fun e => ?_) (fun e => ?_)
  · have hl0 : l = [] := Classical.byContradiction fun hh => by rw [hbn hh] at e; cases e
    subst hl0
    simp -implicitDefEqProofs only [go_sem, ↓reduceIte, Nat.reduceLT, Nat.reduceEqDiff, Nat.reduceAdd, Nat.reduceLeDiff, Nat.reduceMul, Nat.reduceSub]
    exact .mk (.sl [] .no) (.sl _ _) (.refl _) (by simp)
  · simp -implicitDefEqProofs only [go_sem, ↓reduceIte, Nat.reduceLT, Nat.reduceEqDiff, Nat.reduceAdd, Nat.reduceLeDiff, Nat.reduceMul, Nat.reduceSub]
    rw [hb.src u5]
    simp -implicitDefEqProofs only [go_sem, ↓reduceIte, Nat.reduceLT, Nat.reduceEqDiff, Nat.reduceAdd, Nat.reduceLeDiff, Nat.reduceMul, Nat.reduceSub]
    refine ⟨by omega, fun hn => ?_, fun hn => ?_⟩
    · have hl0 : l = [] := by simpa using hn
      subst hl0
      simp -implicitDefEqProofs only [go_sem, ↓reduceIte, Nat.reduceLT, Nat.reduceEqDiff, Nat.reduceAdd, Nat.reduceLeDiff, Nat.reduceMul, Nat.reduceSub]
      exact .mk (.sl [] .no) (.sl _ _) (.refl _) (by simp)
    · refine .oa u5 ?_ ?_ (noAgg_bytes l) fun id m hid => ?_
      · simp -implicitDefEqProofs only [go_sem, ↓reduceIte, Nat.reduceLT, Nat.reduceEqDiff, Nat.reduceAdd, Nat.reduceLeDiff, Nat.reduceMul, Nat.reduceSub]
      · simp -implicitDefEqProofs only [go_sem, ↓reduceIte, Nat.reduceLT, Nat.reduceEqDiff, Nat.reduceAdd, Nat.reduceLeDiff, Nat.reduceMul, Nat.reduceSub]
      · simp -implicitDefEqProofs only [go_sem, ↓reduceIte, Nat.reduceLT, Nat.reduceEqDiff, Nat.reduceAdd, Nat.reduceLeDiff, Nat.reduceMul, Nat.reduceSub]
        exact .mk _ (.refl _) (.refl _) (.inr ⟨by simpa using hn, id, m, hid, rfl, rfl⟩)

theorem within_ok (m a b : Int) (h : Heap) (hm' : -9223372036854775808 ≤ m ∧ m ≤ 9223372036854775807) (ha : 0 ≤ a) (hab : a ≤ b) (hb : b ≤ 1000000) :
    FnOK Try.prog 21 [.v (.int .i64 m), .v (.int .i64 a), .v (.int .i64 b)] h fun r h' => h' = h ∧ ∃ k, a ≤ k ∧ k ≤ b ∧ r = .v (.int .i64 k) := by
  have w1 : IntKind.i64.wrap (b - a) = b - a := IntWalk.i64_in _ (by omega)
  have w2 : IntKind.i64.wrap (b - a + 1) = b - a + 1 := IntWalk.i64_in _ (by omega)
  have t1 := Int.tmod_lt_of_pos m (show 0 < b - a + 1 by omega)
  have t2 := Int.lt_tmod_of_pos m (show 0 < b - a + 1 by omega)
  generalize hq : m.tmod (b - a + 1) = q at t1 t2
  have w3 : IntKind.i64.wrap (q + b) = q + b := IntWalk.i64_in _ (by omega)
  have w4 : IntKind.i64.wrap (q + b - a) = q + b - a := IntWalk.i64_in _ (by omega)
  have w5 : IntKind.i64.wrap (q + b - a + 1) = q + b - a + 1 := IntWalk.i64_in _ (by omega)
  refine FnOK.body hU hm Try.func21 rfl (by kernel_rfl) 24 rfl [.tmp 6] rfl (Nat.le_of_ble_eq_true rfl) (fun hwf => ?_)
  simp -implicitDefEqProofs only [go_sem, ↓reduceIte, Nat.reduceLT, Nat.reduceEqDiff, Nat.reduceAdd, Nat.reduceLeDiff, Nat.reduceMul, Nat.reduceSub, w1, w2, hq]
  refine ⟨by omega, .intro (fun e => ?_) (fun e => ?_)⟩
  · have e := of_decide_eq_true e
    simp -implicitDefEqProofs only [go_sem, ↓reduceIte, Nat.reduceLT, Nat.reduceEqDiff, Nat.reduceAdd, Nat.reduceLeDiff, Nat.reduceMul, Nat.reduceSub, w3, w4, w5]
    have w6 : IntKind.i64.wrap (a + (q + b - a + 1)) = a + (q + b - a + 1) := IntWalk.i64_in _ (by omega)
    simp -implicitDefEqProofs only [go_sem, ↓reduceIte, Nat.reduceLT, Nat.reduceEqDiff, Nat.reduceAdd, Nat.reduceLeDiff, Nat.reduceMul, Nat.reduceSub, w6]
    exact .same (.refl _) ⟨rfl, _, by omega, by omega, rfl⟩
  · have e := of_decide_eq_false e
    have w6 : IntKind.i64.wrap (a + q) = a + q := IntWalk.i64_in _ (by omega)
    simp -implicitDefEqProofs only [go_sem, ↓reduceIte, Nat.reduceLT, Nat.reduceEqDiff, Nat.reduceAdd, Nat.reduceLeDiff, Nat.reduceMul, Nat.reduceSub, w6]
    exact .same (.refl _) ⟨rfl, _, by omega, by omega, rfl⟩

end Go.Proofs.Ytidpcjblciompaa
