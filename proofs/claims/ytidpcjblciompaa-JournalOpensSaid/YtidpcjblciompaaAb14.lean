/- One walk in the text's order serves every order that a region may draw. -/
import Derived.Test.YtidpcjblciompaaAb13
set_option linter.unusedSimpArgs false
set_option linter.unusedVariables false
namespace Go.Ab
open Go

section
variable {P : Program} {U : TypeId → TI} {ops : Array Oper} {md : Region.Mode} {h : Heap}

def putF (F : EF) : Option Tmp → AV → EF
  | some d, x => upd F d (some x)
  | none, _ => F

theorem lk_put (ρ : Env) (d : Option Tmp) (x : AV) : lk (put ρ d x) = putF (lk ρ) d x := by
  cases d with
  | none => rfl
  | some d =>
    funext t
    simp only [put, lk, putF, upd]
    by_cases e : d = t
    · subst e; simp
    · have e' : ¬ t = d := fun e' => e e'.symm
      simp [e, e']

/-- Is an operation wanted, as the abstract frame stands? -/
def wantedF (ops : Array Oper) (F : EF) (o : Oper) : Option Bool :=
  match o.guard with
  | none => some true
  | some (g, want) => match (ops[g]?).bind (·.dst) with
    | some d => match F d with
      | some (.v (.bool t)) => some (t == want)
      | some (.v (.tuple _)) => some false
      | _ => none
    | none => none

/-- One operation in an abstract frame, and what comes behind. -/
def dStep (P : Program) (ops : Array Oper) (h : Heap) (o : Oper) (K : EF → Prop) (F : EF) : Prop :=
  (wantedF ops F o = some true ∧ ∃ X, DOK P o F h X ∧ K (putF F o.dst X)) ∨ (wantedF ops F o = some false ∧ K (putF F o.dst (.v undef)))

def dOp (P : Program) (ops : Array Oper) (h : Heap) (i : Nat) (K : EF → Prop) (F : EF) : Prop :=
  match ops[i]? with
  | none => K F
  | some o => dStep P ops h o K F

def dList (P : Program) (ops : Array Oper) (h : Heap) (Q : EF → Prop) : List Oper → EF → Prop
  | [], F => Q F
  | o :: r, F => dStep P ops h o (dList P ops h Q r) F

def dAny (P : Program) (md : Region.Mode) (ops : Array Oper) (h : Heap) (Q : EF → Prop) : Nat → Array Bool → EF → Prop
  | 0, listed, F => Region.ready md ops listed = [] ∧ Q F
  | fuel + 1, listed, F => (Region.ready md ops listed = [] → Q F) ∧ ∀ i ∈ Region.ready md ops listed, dOp P ops h i (dAny P md ops h Q fuel (listed.setIfInBounds i true)) F

theorem dStep_mono {o : Oper} {F : EF} {K K' : EF → Prop} (hk : ∀ F, K F → K' F) (hs : dStep P ops h o K F) : dStep P ops h o K' F := by
  rcases hs with ⟨h1, X, h2, h3⟩ | ⟨h1, h2⟩
  · exact .inl ⟨h1, X, h2, hk _ h3⟩
  · exact .inr ⟨h1, hk _ h2⟩

theorem dOp_mono {i : Nat} {F : EF} {K K' : EF → Prop} (hk : ∀ F, K F → K' F) (hs : dOp P ops h i K F) : dOp P ops h i K' F := by
  unfold dOp at *
  split
  · rename_i ho; simp only [ho] at hs; exact hk _ hs
  · rename_i o ho; simp only [ho] at hs; exact dStep_mono hk hs

/-- In a frame operation 'o' leaves X. -/
def YD (P : Program) (ops : Array Oper) (h : Heap) (o : Oper) (X : AV) (F : EF) : Prop :=
  (wantedF ops F o = some true ∧ DOK P o F h X) ∨ (wantedF ops F o = some false ∧ X = .v undef)

theorem dStep_of_YD {o : Oper} {X : AV} {F : EF} {K : EF → Prop} (hy : YD P ops h o X F) (hk : K (putF F o.dst X)) : dStep P ops h o K F := by
  rcases hy with ⟨h1, h2⟩ | ⟨h1, rfl⟩
  · exact .inl ⟨h1, X, h2, hk⟩
  · exact .inr ⟨h1, hk⟩

theorem YD_of_dStep {o : Oper} {F : EF} {K : EF → Prop} (hs : dStep P ops h o K F) : ∃ X, YD P ops h o X F ∧ K (putF F o.dst X) := by
  rcases hs with ⟨h1, X, h2, h3⟩ | ⟨h1, h2⟩
  · exact ⟨X, .inl ⟨h1, h2⟩, h3⟩
  · exact ⟨_, .inr ⟨h1, rfl⟩, h2⟩

theorem putF_other {F : EF} {d : Option Tmp} {x : AV} {t : Nat} (hd : ∀ e, d = some e → e ≠ t) : putF F d x t = F t := by
  cases d with
  | none => rfl
  | some e => exact upd_other _ _ (fun e' => hd e rfl e'.symm)

theorem putF_comm (F : EF) {x y : Option Tmp} (v u : AV) (hd : ∀ d, x = some d → y ≠ some d) : putF (putF F x v) y u = putF (putF F y u) x v := by
  cases x with
  | none => rfl
  | some d => cases y with
    | none => rfl
    | some e =>
      have hne : d ≠ e := fun he => hd d rfl (he ▸ rfl)
      funext t
      simp only [putF, upd]
      by_cases h1 : t = e
      · subst h1
        have : ¬ t = d := fun h => hne h.symm
        simp [this]
      · simp [h1]

theorem DOK_congr {o : Oper} {F F' : EF} {X : AV} (hf : ∀ t ∈ opSlots o.op, F t = F' t) (hd : DOK P o F h X) : DOK P o F' h X :=
  fun c a hs g hdf hr => hd c a hs g hdf fun t ht x hx => hr t ht x (by rw [← hf t ht]; exact hx)

theorem slots_looks {o : Oper} {t : Nat} (ht : t ∈ opSlots o.op) : t ∈ o.looksAt ops := by
  simp only [Oper.looksAt, List.mem_append]
  exact .inl ht

theorem wantedF_congr {o : Oper} {F F' : EF} (hf : ∀ t ∈ o.looksAt ops, F t = F' t) : wantedF ops F o = wantedF ops F' o := by
  unfold wantedF
  split
  · rfl
  · rename_i g want hg
    split
    · rename_i d hd
      have : F d = F' d := hf d (by simp [Oper.looksAt, hg, hd])
      rw [this]
    · rfl

theorem YD_congr {o : Oper} {F F' : EF} {X : AV} (hf : ∀ t ∈ o.looksAt ops, F t = F' t) (hy : YD P ops h o X F) : YD P ops h o X F' := by
  rcases hy with ⟨h1, h2⟩ | ⟨h1, h2⟩
  · exact .inl ⟨by rw [← wantedF_congr hf]; exact h1, DOK_congr (fun t ht => hf t (slots_looks ht)) h2⟩
  · exact .inr ⟨by rw [← wantedF_congr hf]; exact h1, h2⟩

/-- One operation 'oj' apart from 'oi': whether 'oi''s value is there already makes no difference. -/
theorem dOp_put {j : Nat} {oi oj : Oper} {X : AV} (hj : ops[j]? = some oj) (hap : oi.apart ops oj = true) {K : EF → Prop} {F : EF}
    (hy : YD P ops h oi X F) (hs : dOp P ops h j K (putF F oi.dst X)) : dOp P ops h j (fun F' => YD P ops h oi X F' ∧ K (putF F' oi.dst X)) F := by
  obtain ⟨h1, h2, h3⟩ := Oper.apart_spec hap
  unfold dOp at *
  simp only [hj] at *
  have hlook : ∀ t ∈ oj.looksAt ops, putF F oi.dst X t = F t := fun t ht => putF_other fun e he hte => h1 e he (hte ▸ ht)
  have hlook2 : ∀ u, ∀ t ∈ oi.looksAt ops, F t = putF F oj.dst u t := fun u t ht => (putF_other fun e he hte => h3 e he (hte ▸ ht)).symm
  rcases hs with ⟨w1, Y, w2, w3⟩ | ⟨w1, w2⟩
  · refine .inl ⟨by rw [← wantedF_congr hlook]; exact w1, Y, DOK_congr (fun t ht => hlook t (slots_looks ht)) w2, YD_congr (hlook2 Y) hy, ?_⟩
    rw [← putF_comm F X Y h2]; exact w3
  · refine .inr ⟨by rw [← wantedF_congr hlook]; exact w1, YD_congr (hlook2 _) hy, ?_⟩
    rw [← putF_comm F X _ h2]; exact w2

theorem dOp_of_YD {i : Nat} {oi : Oper} {X : AV} {F : EF} {K : EF → Prop} (hi : ops[i]? = some oi) (hy : YD P ops h oi X F) (hk : K (putF F oi.dst X)) : dOp P ops h i K F := by
  unfold dOp
  simp only [hi]
  exact dStep_of_YD hy hk

/-- An operation that may come up now may be taken first. -/
theorem dAny_first {Q : EF → Prop} {i : Nat} {oi : Oper} {X : AV} (hi : ops[i]? = some oi) :
    ∀ (fuel : Nat) (listed : Array Bool) (F : EF),
      (∀ j oj, ops[j]? = some oj → j ≠ i → listed.getD j true = false → (∀ e ∈ oj.after, Region.binds md e = true → e.on ≠ i) → oi.apart ops oj = true) →
      i ∈ Region.ready md ops listed → YD P ops h oi X F →
      dAny P md ops h Q fuel (listed.setIfInBounds i true) (putF F oi.dst X) → dAny P md ops h Q (fuel + 1) listed F := by
  intro fuel
  induction fuel with
  | zero =>
    intro listed F _ hr hy H
    refine ⟨fun e => (by rw [e] at hr; cases hr), fun j hj => ?_⟩
    by_cases hji : j = i
    · subst hji; exact dOp_of_YD hi hy H
    · have := ready_mono hj hji
      rw [H.1] at this
      cases this
  | succ fuel ih =>
    intro listed F hfree hr hy H
    refine ⟨fun e => (by rw [e] at hr; cases hr), fun j hj => ?_⟩
    by_cases hji : j = i
    · subst hji; exact dOp_of_YD hi hy H
    · have h1 := H.2 j (ready_mono hj hji)
      obtain ⟨hjun, oj, hoj, hall⟩ := mem_ready.1 hj
      have hnot : ∀ e ∈ oj.after, Region.binds md e = true → e.on ≠ i := fun e he hb heq => by
        have h1 := hall e he hb
        have h0 := (mem_ready.1 hr).1
        rw [heq] at h1
        rcases Nat.lt_or_ge i listed.size with h' | h'
        · simp [h'] at h0 h1; rw [h0] at h1; cases h1
        · simp [Array.getElem?_eq_none h'] at h1
      have h2 := dOp_put hoj (hfree j oj hoj hji hjun hnot) hy h1
      have hfree' : ∀ k ok, ops[k]? = some ok → k ≠ i → (listed.setIfInBounds j true).getD k true = false →
          (∀ e ∈ ok.after, Region.binds md e = true → e.on ≠ i) → oi.apart ops ok = true := fun k ok hk hki hun hno => by
        refine hfree k ok hk hki ?_ hno
        by_cases hjk : j = k
        · subst hjk; exact hjun
        · rw [getD_set_ne true hjk] at hun; exact hun
      refine dOp_mono (fun F' h3 => ih (listed.setIfInBounds j true) F' hfree' (ready_mono hr (Ne.symm hji)) h3.1 ?_) h2
      rw [Array.setIfInBounds_comm _ _ hji]
      exact h3.2

theorem dAny_lex {Q : EF → Prop} : ∀ (l : List Oper) (k : Nat) (listed : Array Bool) (F : EF), (∀ j, l[j]? = ops[k + j]?) →
    Region.lexFrom md ops l.length k listed = true → dList P ops h Q l F → dAny P md ops h Q l.length listed F
  | [], _, _, _, _, hB, hd => ⟨by simpa [Region.lexFrom] using hB, hd⟩
  | o :: l, k, listed, F, hl, hB, hd => by
    have h0 : ops[k]? = some o := by simpa using (hl 0).symm
    simp only [List.length_cons, Region.lexFrom, Bool.and_eq_true] at hB
    obtain ⟨⟨hr, hf⟩, hB'⟩ := hB
    obtain ⟨X, hy, hK⟩ := YD_of_dStep hd
    exact dAny_first h0 l.length listed F (Region.free_spec h0 hf) (by simpa using hr) hy
      (dAny_lex l (k + 1) _ _ (fun j => by have := hl (j + 1); simpa [Nat.add_assoc, Nat.add_comm 1 j] using this) hB' hK)

/-! ### Down to the model -/
def EnvF (c : Cx) (n : Nat) (F : EF) (a : Act) : Prop := a.tmps.size = n ∧ a.defers = [] ∧ ∀ t x, F t = some x → Rep c x (a.tmps.getD t undef)

theorem EnvF.put {c : Cx} {n : Nat} {F : EF} {a : Act} (he : EnvF c n F a) {d : Option Tmp} (hd : dstOK n d = true) {x : AV} {u : Value} (hx : Rep c x u) : EnvF c n (putF F d x) (a.put d u) := by
  obtain ⟨h1, h2, h3⟩ := he
  cases d with
  | none => exact ⟨h1, h2, h3⟩
  | some d =>
    have hd' : d < a.tmps.size := by rw [h1]; exact of_decide_eq_true hd
    refine ⟨by simp [Act.put, h1], h2, fun t y hy => ?_⟩
    simp only [putF, upd] at hy
    split at hy
    · rename_i e; subst e
      simp only [Option.some.injEq] at hy; subst hy
      simpa [Act.put, hd'] using hx
    · rename_i e
      have := h3 t y hy
      have e' : ¬ d = t := fun h => e h.symm
      simpa [Act.put, Array.getElem?_setIfInBounds_ne e'] using this

theorem EnvF.mono {c c' : Cx} {n : Nat} {F : EF} {a : Act} (he : Ext c c') (hf : EnvF c n F a) : EnvF c' n F a := ⟨hf.1, hf.2.1, fun t x hx => (hf.2.2 t x hx).mono he⟩

theorem wantedF_spec {c : Cx} {n : Nat} {F : EF} {a : Act} {o : Oper} {b : Bool} (he : EnvF c n F a) (hw : wantedF ops F o = some b) : Region.wanted o (yielded ops a.tmps) = b := by
  unfold wantedF at hw
  split at hw
  · rename_i hg
    simp only [Option.some.injEq] at hw; subst hw
    simp [Region.wanted, hg]
  · rename_i g want hg
    split at hw
    · rename_i d hd
      split at hw
      · rename_i t ht
        simp only [Option.some.injEq] at hw; subst hw
        have h1 := (he.2.2 d _ ht).v_inv
        have h2 : a.tmps[d]? = some (.bool t) := by
          by_cases hlt : d < a.tmps.size
          · simpa [hlt] using h1
          · have e : a.tmps.getD d undef = undef := by simp [Nat.le_of_not_lt hlt]
            rw [e] at h1; cases h1
        have h3 : yielded ops a.tmps g = some t := by simp [yielded, hd, h2]
        simp [Region.wanted, hg, h3]
      · rename_i vs ht
        simp only [Option.some.injEq] at hw; subst hw
        have h1 := (he.2.2 d _ ht).v_inv
        have h3 : yielded ops a.tmps g = none := by
          by_cases hlt : d < a.tmps.size
          · have e : a.tmps[d]? = some (.tuple vs) := by simpa [hlt] using h1
            simp [yielded, hd, e]
          · have e : a.tmps[d]? = none := by simp [Nat.le_of_not_lt hlt]
            simp [yielded, hd, e]
        simp [Region.wanted, hg, h3]
      · cases hw
    · cases hw

theorem dOp_sound {n : Nat} {i : Nat} {K : EF → Prop} {K' : Act → World → Prop} {Q : Exit → Act → World → Prop} {c0 : Cx} (hdst : ∀ o ∈ ops.toList, dstOK n o.dst = true)
    (hk : ∀ c F a, Ext c0 c → Sub h c.h → Good c → EnvF c n F a → K F → K' a c.w) {c : Cx} {F : EF} {a : Act} (hE : Ext c0 c) (hs : Sub h c.h) (g : Good c) (he : EnvF c n F a) (hd : dOp P ops h i K F) : wpOp P ops Q i K' a c.w := by
  unfold dOp at hd
  unfold wpOp
  split
  · rename_i ho; simp only [ho] at hd; exact hk c F a hE hs g he hd
  · rename_i o ho
    simp only [ho] at hd
    have hdo : dstOK n o.dst = true := hdst o (by simpa using Array.mem_of_getElem? ho)
    rcases hd with ⟨h1, X, h2, h3⟩ | ⟨h1, h2⟩
    · rw [if_pos (wantedF_spec he h1)]
      left
      have hu := h2 c a hs g he.2.1 (fun t _ x hx => he.2.2 t x hx)
      have next : ∀ u w', (∃ c', c'.w = w' ∧ Good c' ∧ Ext c c' ∧ Sub h c'.h ∧ Rep c' X u) → K' (a.put o.dst u) w' := by
        rintro u w' ⟨c', rfl, k1, k2, k3, k4⟩
        exact hk c' _ _ (hE.trans k2) k3 k1 ((he.mono k2).put hdo k4) h3
      unfold Oper.wp
      generalize (execOp a.eval o).run P c.w = r at hu
      cases r with
      | ok nx w' =>
        cases nx <;> simp only [DUpon] at hu <;> simp only [Oper.upon]
        case value u => exact next u w' hu
        case skip => exact next undef w' hu
        case enter f args =>
          obtain ⟨rfl, hc⟩ := hu
          exact hc.mono fun e w'' ⟨u, he, hcm⟩ => by subst he; exact next u w'' hcm
      | halt x w' => exact hu.elim
    · rw [if_neg (by rw [wantedF_spec he h1]; simp)]
      exact hk c _ _ hE hs g (he.put hdo (.v _)) h2

theorem dAny_sound {n : Nat} {Q : EF → Prop} {Q' : Exit → Act → World → Prop} {c0 : Cx} (hdst : ∀ o ∈ ops.toList, dstOK n o.dst = true)
    (hQ : ∀ c F a, Ext c0 c → Sub h c.h → Good c → EnvF c n F a → Q F → Q' .normal a c.w) : ∀ (fuel : Nat) (listed : Array Bool) (c : Cx) (F : EF) (a : Act), Ext c0 c → Sub h c.h → Good c → EnvF c n F a →
      dAny P md ops h Q fuel listed F → wpAny P md ops Q' fuel listed a c.w
  | 0, _, c, F, a, h1, h2, h3, h4, hd => ⟨hd.1, hQ c F a h1 h2 h3 h4 hd.2⟩
  | fuel + 1, listed, c, F, a, h1, h2, h3, h4, hd =>
    ⟨fun e => hQ c F a h1 h2 h3 h4 (hd.1 e), fun i hi => dOp_sound hdst (fun c F a k1 k2 k3 k4 hk => dAny_sound hdst hQ fuel _ c F a k1 k2 k3 k4 hk) h1 h2 h3 h4 (hd.2 i hi)⟩

/-! ### A region that draws, and whose last operation waits for all the others -/
def dAnyE (P : Program) (md : Region.Mode) (ops : Array Oper) (h : Heap) (z : Nat) (Q : EF → Prop) : Nat → Array Bool → EF → Prop
  | 0, listed, F => (Region.ready md ops listed = [z] ∧ Region.ready md ops (listed.setIfInBounds z true) = []) ∧ Q F
  | fuel + 1, listed, F => Region.ready md ops listed ≠ [] ∧ ∀ i ∈ Region.ready md ops listed, dOp P ops h i (dAnyE P md ops h z Q fuel (listed.setIfInBounds i true)) F

/-- Does this operation wait for all the others? -/
def zOK (md : Region.Mode) (ops : Array Oper) (z : Nat) : Bool := match ops[z]? with
  | some oz => (List.range ops.size).all fun k => k == z || oz.after.toList.any fun e => Region.binds md e && e.on == k
  | none => false

theorem zOK_spec {z : Nat} (hz : zOK md ops z = true) {listed : Array Bool} {i : Nat} (h1 : z ∈ Region.ready md ops listed) (h2 : i ∈ Region.ready md ops listed) : i = z := by
  obtain ⟨_, oz, hoz, hall⟩ := mem_ready.1 h1
  obtain ⟨hun, oi, hoi, _⟩ := mem_ready.1 h2
  unfold zOK at hz
  rw [hoz] at hz
  simp only at hz
  rw [List.all_eq_true] at hz
  have hlt : i < ops.size := (Array.getElem?_eq_some_iff.1 hoi).1
  have := hz i (List.mem_range.2 hlt)
  rw [Bool.or_eq_true] at this
  rcases this with e | e
  · exact beq_iff_eq.1 e
  · rw [List.any_eq_true] at e
    obtain ⟨x, hx, hb⟩ := e
    rw [Bool.and_eq_true] at hb
    have h3 := hall x (by simpa using hx) hb.1
    rw [beq_iff_eq.1 hb.2] at h3
    exfalso
    rcases Nat.lt_or_ge i listed.size with h' | h'
    · simp [h'] at hun h3; rw [hun] at h3; cases h3
    · simp [Array.getElem?_eq_none h'] at h3

theorem dAnyE_first {Q : EF → Prop} {z i : Nat} {oi : Oper} {X : AV} (hz : zOK md ops z = true) (hi : ops[i]? = some oi) :
    ∀ (fuel : Nat) (listed : Array Bool) (F : EF),
      (∀ j oj, ops[j]? = some oj → j ≠ i → listed.getD j true = false → (∀ e ∈ oj.after, Region.binds md e = true → e.on ≠ i) → oi.apart ops oj = true) →
      i ∈ Region.ready md ops listed → YD P ops h oi X F →
      dAnyE P md ops h z Q fuel (listed.setIfInBounds i true) (putF F oi.dst X) → dAnyE P md ops h z Q (fuel + 1) listed F := by
  intro fuel
  induction fuel with
  | zero =>
    intro listed F _ hr hy H
    refine ⟨fun e => (by rw [e] at hr; cases hr), fun j hj => ?_⟩
    by_cases hji : j = i
    · subst hji; exact dOp_of_YD hi hy H
    · have := ready_mono hj hji
      rw [H.1.1] at this
      obtain rfl : j = z := by simpa using this
      exact (hji (zOK_spec hz hj hr).symm).elim
  | succ fuel ih =>
    intro listed F hfree hr hy H
    refine ⟨fun e => (by rw [e] at hr; cases hr), fun j hj => ?_⟩
    by_cases hji : j = i
    · subst hji; exact dOp_of_YD hi hy H
    · have h1 := H.2 j (ready_mono hj hji)
      obtain ⟨hjun, oj, hoj, hall⟩ := mem_ready.1 hj
      have hnot : ∀ e ∈ oj.after, Region.binds md e = true → e.on ≠ i := fun e he hb heq => by
        have h1 := hall e he hb
        have h0 := (mem_ready.1 hr).1
        rw [heq] at h1
        rcases Nat.lt_or_ge i listed.size with h' | h'
        · simp [h'] at h0 h1; rw [h0] at h1; cases h1
        · simp [Array.getElem?_eq_none h'] at h1
      have h2 := dOp_put hoj (hfree j oj hoj hji hjun hnot) hy h1
      have hfree' : ∀ k ok, ops[k]? = some ok → k ≠ i → (listed.setIfInBounds j true).getD k true = false →
          (∀ e ∈ ok.after, Region.binds md e = true → e.on ≠ i) → oi.apart ops ok = true := fun k ok hk hki hun hno => by
        refine hfree k ok hk hki ?_ hno
        by_cases hjk : j = k
        · subst hjk; exact hjun
        · rw [getD_set_ne true hjk] at hun; exact hun
      refine dOp_mono (fun F' h3 => ih (listed.setIfInBounds j true) F' hfree' (ready_mono hr (Ne.symm hji)) h3.1 ?_) h2
      rw [Array.setIfInBounds_comm _ _ hji]
      exact h3.2

def lexE (md : Region.Mode) (ops : Array Oper) (z : Nat) : Nat → Nat → Array Bool → Bool
  | 0, _, listed => Region.ready md ops listed == [z] && (Region.ready md ops (listed.setIfInBounds z true)).isEmpty
  | fuel + 1, k, listed => (Region.ready md ops listed).contains k && Region.free md ops listed k && lexE md ops z fuel (k + 1) (listed.setIfInBounds k true)

theorem dAnyE_lex {Q : EF → Prop} {z : Nat} (hz : zOK md ops z = true) : ∀ (l : List Oper) (k : Nat) (listed : Array Bool) (F : EF), (∀ j, j < l.length → l[j]? = ops[k + j]?) →
    lexE md ops z l.length k listed = true → dList P ops h Q l F → dAnyE P md ops h z Q l.length listed F
  | [], _, _, _, _, hB, hd => ⟨by simpa [lexE] using hB, hd⟩
  | o :: l, k, listed, F, hl, hB, hd => by
    have h0 : ops[k]? = some o := by simpa using (hl 0 (by simp)).symm
    simp only [List.length_cons, lexE, Bool.and_eq_true] at hB
    obtain ⟨⟨hr, hf⟩, hB'⟩ := hB
    obtain ⟨X, hy, hK⟩ := YD_of_dStep hd
    exact dAnyE_first hz h0 l.length listed F (Region.free_spec h0 hf) (by simpa using hr) hy
      (dAnyE_lex hz l (k + 1) _ _ (fun j hj => by have := hl (j + 1) (by simpa using hj); simpa [Nat.add_assoc, Nat.add_comm 1 j] using this) hB' hK)

theorem dAnyE_sound {n z : Nat} {Q : EF → Prop} {Q' : Exit → Act → World → Prop} {c0 : Cx} (hdst : ∀ o ∈ ops.toList, dstOK n o.dst = true)
    (hQ : ∀ c F a, Ext c0 c → Sub h c.h → Good c → EnvF c n F a → Q F → wpOp P ops Q' z (fun a' w' => Q' .normal a' w') a c.w) : ∀ (fuel : Nat) (listed : Array Bool) (c : Cx) (F : EF) (a : Act), Ext c0 c → Sub h c.h → Good c → EnvF c n F a →
      dAnyE P md ops h z Q fuel listed F → wpAny P md ops Q' (fuel + 1) listed a c.w
  | 0, listed, c, F, a, h1, h2, h3, h4, hd => ⟨fun e => (by rw [hd.1.1] at e; cases e), fun i hi => by
      rw [hd.1.1] at hi
      obtain rfl : i = z := by simpa using hi
      exact wpOp_mono (fun a w hh => ⟨hd.1.2, hh⟩) (hQ c F a h1 h2 h3 h4 hd.2)⟩
  | fuel + 1, listed, c, F, a, h1, h2, h3, h4, hd =>
    ⟨fun e => absurd e hd.1, fun i hi => dOp_sound hdst (fun c F a k1 k2 k3 k4 hk => dAnyE_sound hdst hQ fuel _ c F a k1 k2 k3 k4 hk) h1 h2 h3 h4 (hd.2 i hi)⟩

end
end Go.Ab
