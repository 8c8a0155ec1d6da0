/- Code: what it is enough to show of it; a function's contract out of its body. -/
import Derived.Test.YtidpcjblciompaaAb27
set_option linter.unusedSimpArgs false
set_option linter.unusedVariables false
namespace Go.Ab
open Go

section
variable (P : Program) (U : TypeId → TI) (n : Nat)

/-- What must hold behind the first of two pieces. -/
def KSeq (next : Env → Heap → Prop) (K : Exit → Env → Heap → Prop) (e : Exit) (ρ : Env) (h : Heap) : Prop :=
  match e with
  | .normal => next ρ h
  | e => K e ρ h

def KBlock (id : Nat) (K : Exit → Env → Heap → Prop) (e : Exit) (ρ : Env) (h : Heap) : Prop :=
  match e with
  | .exit j => if j = id then K .normal ρ h else K (.exit j) ρ h
  | e => K e ρ h

def wf1 : AV → Prop
  | .s l => l.length < lim
  | .sl xs _ => xs.length < lim
  | _ => True

/-- Lengths are such that an int holds them. -/
def wfA : AV → Prop
  | .agg cs => ∀ x ∈ cs, wf1 x
  | .pe y _ => ∀ x ∈ y.cells, wf1 x
  | x => wf1 x

def Wf (ρ : Env) : Prop := ∀ t x, lk ρ t = some x → wfA x

/-- A loop: what holds at each round's head, and what each round lowers. -/
def LoopVC (body : Env → Heap → (Exit → Env → Heap → Prop) → Prop) (ρ : Env) (h : Heap) (K : Exit → Env → Heap → Prop) : Prop :=
  Wf ρ → ∃ (I : Nat → Env → Heap → Prop) (m : Nat), I m ρ h ∧ ∀ m ρ h, I m ρ h → body ρ h (KSeq (fun ρ' h' => ∃ m', m' < m ∧ I m' ρ' h') K)

/-- A region that draws its order, in the order of the text. -/
def vcDr (all : List Oper) : List Oper → Env → Heap → (Env → Prop) → Prop
  | [], ρ, _, K => K ρ
  | o :: os, ρ, h, K => dstOK n o.dst = true ∧ guardA all ρ o.guard
      (fun ρ => vcD1 P U ρ h o fun X => vcDr all os (put ρ o.dst X) h K)
      (fun ρ => vcDr all os (put ρ o.dst (.v undef)) h K)

def lexOK (ops : Array Oper) : Bool := Region.lexFrom .any ops ops.size 0 (Array.replicate ops.size false)

/-- Is the last operation a store? -/
def isStore : Op → Bool
  | .store .. => true
  | _ => false
def lastS : List Oper → Bool
  | [] => false
  | [o] => isStore o.op && o.guard.isNone
  | _ :: b :: r => lastS (b :: r)
def lexS (ops : Array Oper) : Bool := zOK .any ops (ops.size - 1) && lexE .any ops (ops.size - 1) (ops.size - 1) 0 (Array.replicate ops.size false)
/-- What the last operation comes to. -/
def lastK (l : List Oper) (h : Heap) (K : Env → Heap → Prop) (ρ : Env) : Prop := match l.getLast? with
  | some o => vcOp P U ρ h o fun X h' => K (put ρ o.dst X) h'
  | none => False

def stillL (l : List Oper) : Bool := l.all fun o => !effB o.op
/-- A region that draws and holds operations that may change memory. -/
def vcDrE (P : Program) (U : TypeId → TI) (n : Nat) (ops : Array Oper) (ρ : Env) (h : Heap) (K : Env → Heap → Prop) : Prop :=
  (ops.toList.all fun o => dstOK n o.dst) = true ∧
  (lexOK ops = true ∧ vcDr P U n ops.toList ops.toList ρ h (fun ρ => K ρ h) ∨
   (∃ (hm : Heap) (l : List Nat), Sub hm h ∧ orderOK .any ops l (Array.replicate ops.size false) = true ∧ l.length = ops.size ∧ vcDrH P U n ops.toList hm l ρ h K) ∨
   ∃ (hm : Heap) (l : List Nat), Sub hm h ∧ zOKt .any ops l.length = true ∧ (ops.toList.getLast?.map fun o => o.guard.isNone) = some true ∧ orderE .any ops l.length l (Array.replicate ops.size false) = true ∧ l.length + 1 = ops.size ∧ vcDrH P U n ops.toList hm l ρ h (fun ρ h => lastK P U ops.toList h K ρ))

/-- Code. -/
def vcCode : Code → Env → Heap → (Exit → Env → Heap → Prop) → Prop
  | .skip, ρ, h, K => K .normal ρ h
  | .region _ ops draw, ρ, h, K => if draw then (if lastS ops.toList && stillL ops.toList.dropLast then (lexS ops && ops.toList.all fun o => dstOK n o.dst) = true ∧ vcDr P U n ops.toList ops.toList.dropLast ρ h (lastK P U ops.toList h (K .normal)) else if stillL ops.toList = false then vcDrE P U n ops ρ h (K .normal) else (lexOK ops && ops.toList.all fun o => dstOK n o.dst) = true ∧ vcDr P U n ops.toList ops.toList ρ h (fun ρ => K .normal ρ h)) else vcOps P U n ops.toList ops.toList ρ h (K .normal)
  | .seq a b, ρ, h, K => vcCode a ρ h (KSeq (fun ρ h => vcCode b ρ h K) K)
  | .cond c a b, ρ, h, K => withv ρ c fun
    | .v (.bool t) => (t = true → vcCode a ρ h K) ∧ (t = false → vcCode b ρ h K)
    | _ => False
  | .block id c, ρ, h, K => vcCode c ρ h (KBlock id K)
  | .loop c, ρ, h, K => LoopVC (fun ρ h K => vcCode c ρ h K) ρ h K
  | .exit id, ρ, h, K => K (.exit id) ρ h
  | .ret, ρ, h, K => K .ret ρ h
  | .label _, ρ, h, K => K .normal ρ h
  | .goto l, ρ, h, K => K (.goto l) ρ h
  | _, _, _, _ => False

/-- Code that may be run from whatever memory is so. -/
def WP (c : Code) (ρ : Env) (h : Heap) (K : Exit → Env → Heap → Prop) : Prop :=
  ∀ cx a, Sub h cx.h → Good cx → EnvSat cx n ρ a → c.wp P (WPK n K cx) a cx.w

end

section
variable {P : Program} {U : TypeId → TI} {n : Nat}

theorem WPK.mono {K K' : Exit → Env → Heap → Prop} {c0 : Cx} (hk : ∀ e ρ h, K e ρ h → K' e ρ h) {e : Exit} {a : Act} {w : World} (h : WPK n K c0 e a w) : WPK n K' c0 e a w := by
  obtain ⟨c, ρ, hh, h1, h2, h3, h4, h5, h6⟩ := h
  exact ⟨c, ρ, hh, h1, h2, h3, h4, h5, hk _ _ _ h6⟩

theorem WP.weaken {c : Code} {ρ : Env} {h : Heap} {K K' : Exit → Env → Heap → Prop} (hw : WP P n c ρ h K) (hk : ∀ e ρ h, K e ρ h → K' e ρ h) : WP P n c ρ h K' :=
  fun cx a h1 h2 h3 => wp_mono (hw cx a h1 h2 h3) fun _ _ _ => WPK.mono hk

theorem WP.seq {c d : Code} {ρ : Env} {h : Heap} {K : Exit → Env → Heap → Prop} (hc : WP P n c ρ h (KSeq (WP P n d · · K) K)) : WP P n (.seq c d) ρ h K := by
  intro cx a h1 h2 h3
  refine wp_seq (wp_mono (hc cx a h1 h2 h3) fun e a w hq => ?_)
  obtain ⟨c', ρ', h', rfl, g, hE, he, hs, hk⟩ := hq
  cases e with
  | normal =>
    have := hk c' a hs g he
    exact wp_mono this fun _ _ _ => WPK.after hE
  | _ => exact ⟨c', ρ', h', rfl, g, hE, he, hs, hk⟩

theorem WP.block {id : Nat} {c : Code} {ρ : Env} {h : Heap} {K : Exit → Env → Heap → Prop} (hc : WP P n c ρ h (KBlock id K)) : WP P n (.block id c) ρ h K := by
  intro cx a h1 h2 h3
  refine wp_block (wp_mono (hc cx a h1 h2 h3) fun e a w hq => ?_)
  obtain ⟨c', ρ', h', rfl, g, hE, he, hs, hk⟩ := hq
  cases e with
  | exit j =>
    simp only [Exit.inBlock, KBlock] at hk ⊢
    split
    · rename_i e; rw [if_pos e] at hk; exact ⟨c', ρ', h', rfl, g, hE, he, hs, hk⟩
    · rename_i e; rw [if_neg e] at hk; exact ⟨c', ρ', h', rfl, g, hE, he, hs, hk⟩
  | _ => exact ⟨c', ρ', h', rfl, g, hE, he, hs, hk⟩

/-- A loop that counts down. -/
theorem wp_loop_down {c : Code} {Q : Exit → Act → World → Prop} (I : Nat → Act → World → Prop) (round : ∀ m a w, I m a w → c.wp P (Exit.then (fun a' w' => ∃ m', m' < m ∧ I m' a' w') Q) a w) :
    ∀ m a w, I m a w → (Code.loop c).wp P Q a w := by
  intro m a w h0 b k cs
  have key : ∀ n a w, I n a w → ∃ e a' w', Q e a' w' ∧ Arrives P (lone (b.at a (.code c :: .inLoop c :: k)) cs w) b k cs e a' w' := by
    intro n
    induction n using Nat.strongRecOn with
    | _ n ih =>
      intro a w hI
      obtain ⟨e, a₁, w₁, hq, harr⟩ := round n a w hI b (.inLoop c :: k) cs
      cases e with
      | normal =>
        obtain ⟨m', hlt, hI₁⟩ := hq
        obtain ⟨e₂, a₂, w₂, hq₂, harr₂⟩ := ih m' hlt a₁ w₁ hI₁
        exact ⟨e₂, a₂, w₂, hq₂, .of_steps (Steps.trans harr (.one step_inLoop)) harr₂⟩
      | exit id => exact ⟨_, a₁, w₁, hq, .pass (x := .inLoop c) rfl (fun _ _ => .inl (by simp)) harr⟩
      | goto l => exact ⟨_, a₁, w₁, hq, .pass (x := .inLoop c) rfl (fun _ _ => .inl (by simp)) harr⟩
      | ret => exact ⟨_, a₁, w₁, hq, .pass (x := .inLoop c) rfl (fun _ _ => .inl (by simp)) harr⟩
      | panic ch => exact ⟨_, a₁, w₁, hq, .pass (x := .inLoop c) rfl (fun _ _ => .inl (by simp)) harr⟩
      | outgrown => exact ⟨_, a₁, w₁, hq, .pass (x := .inLoop c) rfl (fun _ _ => .inl (by simp)) harr⟩
  obtain ⟨e, a', w', hq, harr⟩ := key m a w h0
  exact ⟨e, a', w', hq, .of_steps (.one step_loop) harr⟩

theorem WP.loop {c : Code} {ρ : Env} {h : Heap} {K : Exit → Env → Heap → Prop} (I : Nat → Env → Heap → Prop) (m : Nat) (h0 : I m ρ h) (round : ∀ m ρ h, I m ρ h → WP P n c ρ h (KSeq (fun ρ' h' => ∃ m', m' < m ∧ I m' ρ' h') K)) :
    WP P n (.loop c) ρ h K := by
  intro cx a h1 h2 h3
  refine wp_loop_down (fun m a w => ∃ c' ρ' h', c'.w = w ∧ Good c' ∧ Ext cx c' ∧ EnvSat c' n ρ' a ∧ Sub h' c'.h ∧ I m ρ' h') ?_ m a cx.w ⟨cx, ρ, h, rfl, h2, .refl _, h3, h1, h0⟩
  rintro m a w ⟨c', ρ', h', rfl, g, hE, he, hs, hI⟩
  refine wp_mono (round m ρ' h' hI c' a hs g he) fun e a w hq => ?_
  obtain ⟨c2, ρ2, h2, rfl, g2, hE2, he2, hs2, hk⟩ := hq
  cases e with
  | normal =>
    obtain ⟨m', hlt, hI'⟩ := hk
    exact ⟨m', hlt, c2, ρ2, h2, rfl, g2, hE.trans hE2, he2, hs2, hI'⟩
  | _ => exact ⟨c2, ρ2, h2, rfl, g2, hE.trans hE2, he2, hs2, hk⟩

theorem WP.ops (hU : ∀ t, AgreeT P U t) {id : Nat} {ops : Array Oper} {ρ : Env} {h : Heap} {K : Exit → Env → Heap → Prop} (hk : vcOps P U n ops.toList ops.toList ρ h (K .normal)) : WP P n (.region id ops false) ρ h K := by
  intro cx a h1 h2 h3
  refine wp_region_list ?_
  have := vcOps_sound (K := K) hU cx ops.toList ρ h hk cx a (.refl _) h1 h2 h3
  simpa using this

theorem Rep.wf1 {c : Cx} {x : AV} {u : Value} (h : Rep c x u) : wf1 x := by
  cases x with
  | s l => exact h.s_inv.2
  | sl xs p => obtain ⟨a, cap, sz, val, _, hs⟩ := h.sl_inv; have := hs.hc; have := hs.hm; simp only [Ab.wf1]; omega
  | _ => trivial

theorem Rep.wf {c : Cx} {x : AV} {u : Value} (h : Rep c x u) : wfA x := by
  cases x with
  | agg cs =>
    obtain ⟨vs, _, _, hr, _⟩ := h.agg_inv
    intro x hx
    obtain ⟨i, hi, rfl⟩ := List.mem_iff_getElem.1 hx
    exact (hr i hi).wf1
  | pe y off =>
    obtain ⟨b, o, val, _, _, _, hr, _⟩ := h.pe_inv
    intro x hx
    obtain ⟨i, hi, rfl⟩ := List.mem_iff_getElem.1 hx
    exact (hr i hi).wf1
  | _ => exact h.wf1

theorem EnvSat.wf {c : Cx} {ρ : Env} {a : Act} (h : EnvSat c n ρ a) : Wf ρ := fun t x hx => (h.rep t x hx).wf

theorem lk_learn {ρ : Env} {d : Nat} {x : AV} (hd : lk ρ d = some x) : lk ((d, x) :: ρ) = lk ρ := by
  funext t
  simp only [lk]
  split
  · rename_i e; subst e; exact hd.symm
  · rfl

theorem vcDr_dList (hU : ∀ t, AgreeT P U t) {all : List Oper} {h : Heap} {K : Env → Prop} : ∀ (l : List Oper) (ρ : Env), vcDr P U n all l ρ h K → dList P all.toArray h (fun F => ∃ ρ, lk ρ = F ∧ K ρ) l (lk ρ)
  | [], ρ, hk => ⟨ρ, rfl, hk⟩
  | o :: os, ρ, hk => by
    obtain ⟨hd, hk⟩ := hk
    have yes : ∀ ρ', wantedF all.toArray (lk ρ) o = some true → lk ρ' = lk ρ → (vcD1 P U ρ' h o fun X => vcDr P U n all os (put ρ' o.dst X) h K) → dStep P all.toArray h o (dList P all.toArray h (fun F => ∃ ρ, lk ρ = F ∧ K ρ) os) (lk ρ) := by
      intro ρ' hw hl hv
      obtain ⟨X, hQ, hX⟩ := vcD1_sound hU hv
      have := vcDr_dList hU os _ hQ
      rw [lk_put, hl] at this
      rw [hl] at hX
      exact .inl ⟨hw, X, hX, this⟩
    have no : ∀ ρ', wantedF all.toArray (lk ρ) o = some false → lk ρ' = lk ρ → vcDr P U n all os (put ρ' o.dst (.v undef)) h K → dStep P all.toArray h o (dList P all.toArray h (fun F => ∃ ρ, lk ρ = F ∧ K ρ) os) (lk ρ) := by
      intro ρ' hw hl hv
      have := vcDr_dList hU os _ hv
      rw [lk_put, hl] at this
      exact .inr ⟨hw, this⟩
    unfold guardA at hk
    split at hk
    · rename_i hg
      exact yes ρ (by simp [wantedF, hg]) rfl hk
    · rename_i g want hg
      split at hk
      · rename_i d hd'
        have hd2 : ((all.toArray)[g]?).bind (·.dst) = some d := by simpa [dstAt] using hd'
        split at hk
        · rename_i t ht
          have hw : wantedF all.toArray (lk ρ) o = some (t == want) := by
            unfold wantedF
            simp only [hg]
            rw [hd2]
            simp only [ht]
          by_cases e : t = want
          · exact yes _ (by rw [hw, e]; simp) (lk_learn (by rw [ht, e])) (hk.1 e)
          · have e' : t = !want := by cases t <;> cases want <;> simp_all
            exact no _ (by rw [hw]; simp [e]) (lk_learn (by rw [ht, e'])) (hk.2 e')
        · rename_i vs ht
          refine no ρ ?_ rfl hk
          unfold wantedF
          simp only [hg]
          rw [hd2]
          simp only [ht]
        · exact hk.elim
      · exact hk.elim

/-- A region that draws. -/
theorem WP.draw (hU : ∀ t, AgreeT P U t) (hm : P.follows .mixedOrders = true) {id : Nat} {ops : Array Oper} {ρ : Env} {h : Heap} {K : Exit → Env → Heap → Prop} (hdst : ∀ o ∈ ops.toList, dstOK n o.dst = true) (hB : lexOK ops = true)
    (hk : vcDr P U n ops.toList ops.toList ρ h (fun ρ => K .normal ρ h)) : WP P n (.region id ops true) ρ h K := by
  intro cx a h1 h2 h3
  have hd := vcDr_dList hU ops.toList ρ hk
  have hd2 := dAny_lex (md := .any) (ops := ops) ops.toList 0 (Array.replicate ops.size false) (lk ρ) (by simp) (by simpa [lexOK] using hB) (by simpa using hd)
  refine wp_region_any hm ?_
  have hE : Ext cx { cx with w := { cx.w with drawn := cx.w.drawn + 1 } } := Ext.draw rfl rfl rfl rfl
  have := dAny_sound (n := n) (Q' := WPK n K cx) (c0 := cx) hdst (fun c F a hE hs g he hQ => by
    obtain ⟨ρ', rfl, hK⟩ := hQ
    exact ⟨c, ρ', h, rfl, g, hE, ⟨he.1, he.2.1, he.2.2⟩, hs, hK⟩) _ _ { cx with w := { cx.w with drawn := cx.w.drawn + 1 } } (lk ρ) a hE h1 (h2.draw rfl rfl rfl rfl)
    ⟨h3.size, h3.defers, fun t x hx => (h3.rep t x hx).mono hE⟩ hd2
  simpa using this

/-- A region that draws, some operations of which change memory. -/
theorem WP.drawH (hU : ∀ t, AgreeT P U t) (hm : P.follows .mixedOrders = true) {id : Nat} {ops : Array Oper} {ρ : Env} {h hl : Heap} {K : Exit → Env → Heap → Prop} {l : List Nat} (hdst : ∀ o ∈ ops.toList, dstOK n o.dst = true) (hsub : Sub hl h)
    (hB : orderOK .any ops l (Array.replicate ops.size false) = true) (hlen : l.length = ops.size)
    (hk : vcDrH P U n ops.toList hl l ρ h (K .normal)) : WP P n (.region id ops true) ρ h K := by
  intro cx a h1 h2 h3
  have hd := vcDrH_hList hU l ρ h hk
  rw [Array.toArray_toList] at hd
  have hd2 := hAny_order (md := .any) l (Array.replicate ops.size false) (lk ρ) h hB hd
  refine wp_region_any hm ?_
  have hE : Ext cx { cx with w := { cx.w with drawn := cx.w.drawn + 1 } } := Ext.draw rfl rfl rfl rfl
  have := hAny_sound (n := n) (Q' := WPK n K cx) (c0 := cx) hdst (fun c F h a hE hs g he hQ => by
    obtain ⟨ρ', rfl, hK⟩ := hQ
    exact ⟨c, ρ', h, rfl, g, hE, ⟨he.1, he.2.1, he.2.2⟩, hs, hK⟩) _ _ { cx with w := { cx.w with drawn := cx.w.drawn + 1 } } (lk ρ) h a hE h1 (fun i k hi => h1 _ _ (hsub _ _ hi)) (h2.draw rfl rfl rfl rfl)
    ⟨h3.size, h3.defers, fun t x hx => (h3.rep t x hx).mono hE⟩ hd2
  rw [hlen] at this
  simpa using this

theorem lastS_spec : ∀ {l : List Oper}, lastS l = true → ∃ o, l.getLast? = some o ∧ o.guard = none
  | [o], h => ⟨o, rfl, by simp only [lastS, Bool.and_eq_true] at h; simpa using h.2⟩
  | _ :: b :: r, h => by
    obtain ⟨o, h1, h2⟩ := lastS_spec (l := b :: r) h
    exact ⟨o, by rw [List.getLast?_cons_cons]; exact h1, h2⟩

/-- .. and the last of which waits for all the others. -/
theorem WP.drawZ (hU : ∀ t, AgreeT P U t) (hm : P.follows .mixedOrders = true) {id : Nat} {ops : Array Oper} {ρ : Env} {h hl : Heap} {K : Exit → Env → Heap → Prop} {l : List Nat} (hdst : ∀ o ∈ ops.toList, dstOK n o.dst = true) (hsub : Sub hl h)
    (hz : zOKt .any ops l.length = true) (hg : (ops.toList.getLast?.map fun o => o.guard.isNone) = some true) (hB : orderE .any ops l.length l (Array.replicate ops.size false) = true) (hlen : l.length + 1 = ops.size)
    (hk : vcDrH P U n ops.toList hl l ρ h (fun ρ h => lastK P U ops.toList h (K .normal) ρ)) : WP P n (.region id ops true) ρ h K := by
  intro cx a h1 h2 h3
  obtain ⟨oz, hoz, hgz⟩ := Option.map_eq_some_iff.1 hg
  have hgz : oz.guard = none := by simpa using hgz
  have hzz : ops[l.length]? = some oz := by
    rw [List.getLast?_eq_getElem?] at hoz
    rw [show l.length = ops.size - 1 by omega]
    simpa using hoz
  have hd := vcDrH_hList hU l ρ h hk
  rw [Array.toArray_toList] at hd
  have hd2 := hAnyE_order (md := .any) hz l (Array.replicate ops.size false) (lk ρ) h (.none _ _ _) hB hd
  refine wp_region_any hm ?_
  have hE : Ext cx { cx with w := { cx.w with drawn := cx.w.drawn + 1 } } := Ext.draw rfl rfl rfl rfl
  have := hAnyE_sound (n := n) (Q' := WPK n K cx) (c0 := cx) hdst (fun c F h a hE hs g he hQ => by
    obtain ⟨ρ', rfl, hK⟩ := hQ
    unfold lastK at hK
    rw [hoz] at hK
    simp only at hK
    have he' : EnvSat c n ρ' a := ⟨he.1, he.2.1, he.2.2⟩
    have hdz : dstOK n oz.dst = true := hdst oz (by simpa using Array.mem_of_getElem? hzz)
    have hu := vcOp_sound hU hK hs g he'
    unfold wpOp
    rw [hzz]
    simp only
    rw [if_pos (by simp [Region.wanted, hgz])]
    left
    have next : ∀ u w', Comes1 c (fun X h' => K .normal (put ρ' oz.dst X) h') u w' → WPK n K cx .normal (a.put oz.dst u) w' := by
      rintro u w' ⟨c', x, h', rfl, g', hE', hr, hs', hK⟩
      exact ⟨c', _, h', rfl, g', hE.trans hE', (he'.mono hE').put hdz hr, hs', hK⟩
    unfold Oper.wp
    generalize (execOp a.eval oz).run P c.w = r at hu
    cases r with
    | ok nx w' =>
      cases nx <;> simp only [Upon1] at hu <;> simp only [Oper.upon]
      case value u => exact next u w' hu
      case skip => exact next undef w' hu
      case enter f args =>
        obtain ⟨rfl, hc⟩ := hu
        exact hc.mono fun e w'' ⟨u, he, hcm⟩ => by subst he; exact next u w'' hcm
    | halt x w' => exact hu.elim) _ _ { cx with w := { cx.w with drawn := cx.w.drawn + 1 } } (lk ρ) h a hE h1 (fun i k hi => h1 _ _ (hsub _ _ hi)) (h2.draw rfl rfl rfl rfl)
    ⟨h3.size, h3.defers, fun t x hx => (h3.rep t x hx).mono hE⟩ hd2
  rw [hlen] at this
  exact this

/-- A region that draws, its last operation a store. -/
theorem WP.drawS (hU : ∀ t, AgreeT P U t) (hm : P.follows .mixedOrders = true) {id : Nat} {ops : Array Oper} {ρ : Env} {h : Heap} {K : Exit → Env → Heap → Prop} (hdst : ∀ o ∈ ops.toList, dstOK n o.dst = true) (hl : lastS ops.toList = true) (hB : lexS ops = true)
    (hk : vcDr P U n ops.toList ops.toList.dropLast ρ h (lastK P U ops.toList h (K .normal))) : WP P n (.region id ops true) ρ h K := by
  obtain ⟨oz, hoz, hgz⟩ := lastS_spec hl
  intro cx a h1 h2 h3
  unfold lexS at hB
  rw [Bool.and_eq_true] at hB
  have hd := vcDr_dList hU ops.toList.dropLast ρ hk
  have hpos : 0 < ops.size := by
    rcases Nat.eq_zero_or_pos ops.size with e | e
    · have : ops.toList = [] := by simpa using Array.eq_empty_of_size_eq_zero e
      rw [this] at hoz; cases hoz
    · exact e
  have hz : ops[ops.size - 1]? = some oz := by
    rw [List.getLast?_eq_getElem?] at hoz
    simpa using hoz
  have hlen : ops.toList.dropLast.length = ops.size - 1 := by simp
  have hd2 := dAnyE_lex (md := .any) (ops := ops) hB.1 ops.toList.dropLast 0 (Array.replicate ops.size false) (lk ρ) (fun j hj => by
    rw [List.getElem?_dropLast]
    simp at hj
    simp [hj]) (by rw [hlen]; exact hB.2) (by simpa using hd)
  refine wp_region_any hm ?_
  have hE : Ext cx { cx with w := { cx.w with drawn := cx.w.drawn + 1 } } := Ext.draw rfl rfl rfl rfl
  have := dAnyE_sound (n := n) (Q' := WPK n K cx) (c0 := cx) hdst (fun c F a hE hs g he hQ => by
    obtain ⟨ρ', rfl, hK⟩ := hQ
    unfold lastK at hK
    rw [hoz] at hK
    simp only at hK
    have he' : EnvSat c n ρ' a := ⟨he.1, he.2.1, he.2.2⟩
    have hdz : dstOK n oz.dst = true := hdst oz (by simpa using Array.mem_of_getElem? hz)
    have hu := vcOp_sound hU hK hs g he'
    unfold wpOp
    rw [hz]
    simp only
    rw [if_pos (by simp [Region.wanted, hgz])]
    left
    have next : ∀ u w', Comes1 c (fun X h' => K .normal (put ρ' oz.dst X) h') u w' → WPK n K cx .normal (a.put oz.dst u) w' := by
      rintro u w' ⟨c', x, h', rfl, g', hE', hr, hs', hK⟩
      exact ⟨c', _, h', rfl, g', hE.trans hE', (he'.mono hE').put hdz hr, hs', hK⟩
    unfold Oper.wp
    generalize (execOp a.eval oz).run P c.w = r at hu
    cases r with
    | ok nx w' =>
      cases nx <;> simp only [Upon1] at hu <;> simp only [Oper.upon]
      case value u => exact next u w' hu
      case skip => exact next undef w' hu
      case enter f args =>
        obtain ⟨rfl, hc⟩ := hu
        exact hc.mono fun e w'' ⟨u, he, hcm⟩ => by subst he; exact next u w'' hcm
    | halt x w' => exact hu.elim) _ _ { cx with w := { cx.w with drawn := cx.w.drawn + 1 } } (lk ρ) a hE h1 (h2.draw rfl rfl rfl rfl)
    ⟨h3.size, h3.defers, fun t x hx => (h3.rep t x hx).mono hE⟩ hd2
  rw [hlen, Nat.sub_add_cancel hpos] at this
  exact this

/-- CODE. -/
theorem vcCode_sound (hU : ∀ t, AgreeT P U t) (hm : P.follows .mixedOrders = true) : ∀ (c : Code) (ρ : Env) (h : Heap) (K : Exit → Env → Heap → Prop), vcCode P U n c ρ h K → WP P n c ρ h K
  | .skip, ρ, h, K, hk => fun cx a h1 h2 h3 => wp_skip ⟨cx, ρ, h, rfl, h2, .refl _, h3, h1, hk⟩
  | .region id ops draw, ρ, h, K, hk => by
    simp only [vcCode] at hk
    cases draw with
    | true =>
      simp only [if_true] at hk
      split at hk
      · rename_i hl
        obtain ⟨hb, hk⟩ := hk
        rw [Bool.and_eq_true, List.all_eq_true] at hb
        rw [Bool.and_eq_true] at hl
        exact WP.drawS hU hm hb.2 hl.1 hb.1 hk
      · split at hk
        · obtain ⟨hb, hk⟩ := hk
          rw [List.all_eq_true] at hb
          rcases hk with ⟨h1, hk⟩ | ⟨hm', l, h1, h2, h3, hk⟩ | ⟨hm', l, h1, h2, h4, h5, h6, hk⟩
          · exact WP.draw hU hm hb h1 hk
          · exact WP.drawH hU hm hb h1 h2 h3 hk
          · exact WP.drawZ hU hm hb h1 h2 h4 h5 h6 hk
        · obtain ⟨hb, hk⟩ := hk
          rw [Bool.and_eq_true, List.all_eq_true] at hb
          exact WP.draw hU hm hb.2 hb.1 hk
    | false => exact WP.ops hU (by simpa using hk)
  | .seq a b, ρ, h, K, hk => by
    simp only [vcCode] at hk
    refine WP.seq ((vcCode_sound hU hm a ρ h _ hk).weaken fun e ρ' h' hh => ?_)
    cases e with
    | normal => exact vcCode_sound hU hm b ρ' h' K hh
    | _ => exact hh
  | .cond c a b, ρ, h, K, hk => by
    simp only [vcCode] at hk
    obtain ⟨y, hy, hk⟩ := withv_elim hk
    split at hk
    · rename_i t
      intro cx ac h1 h2 h3
      have hv := (ev_rep h3 hy).v_inv
      exact wp_cond_split hv (fun e => vcCode_sound hU hm a ρ h K (hk.1 e) cx ac h1 h2 h3) (fun e => vcCode_sound hU hm b ρ h K (hk.2 e) cx ac h1 h2 h3)
    · exact hk.elim
  | .block id c, ρ, h, K, hk => WP.block (vcCode_sound hU hm c ρ h _ (by simpa only [vcCode] using hk))
  | .loop c, ρ, h, K, hk => by
    simp only [vcCode] at hk
    intro cx a h1 h2 h3
    obtain ⟨I, m, h0, hr⟩ := hk h3.wf
    exact WP.loop I m h0 (fun m ρ h hI => vcCode_sound hU hm c ρ h _ (hr m ρ h hI)) cx a h1 h2 h3
  | .exit id, ρ, h, K, hk => fun cx a h1 h2 h3 => wp_exit ⟨cx, ρ, h, rfl, h2, .refl _, h3, h1, by simpa only [vcCode] using hk⟩
  | .ret, ρ, h, K, hk => fun cx a h1 h2 h3 => wp_ret ⟨cx, ρ, h, rfl, h2, .refl _, h3, h1, by simpa only [vcCode] using hk⟩
  | .label l, ρ, h, K, hk => fun cx a h1 h2 h3 => wp_label ⟨cx, ρ, h, rfl, h2, .refl _, h3, h1, by simpa only [vcCode] using hk⟩
  | .goto l, ρ, h, K, hk => fun cx a h1 h2 h3 => wp_goto ⟨cx, ρ, h, rfl, h2, .refl _, h3, h1, by simpa only [vcCode] using hk⟩
  | .rangeFunc .., _, _, _, hk => by simp [vcCode] at hk
  | .scope _, _, _, _, hk => by simp [vcCode] at hk
  | .refuse _, _, _, _, hk => by simp [vcCode] at hk

/-- The results of a function, out of its slots. -/
def resA (ρ : Env) (h : Heap) (U : TypeId → TI) : List ResultVar → (List AV → Prop) → Prop
  | [], k => k []
  | .tmp t :: r, k => match lk ρ t with
    | some x => resA ρ h U r fun xs => k (x :: xs)
    | none => False
  | .cell t ty :: r, k => match lk ρ t with
    | some (.ptr id off) => match h id with
      | some (.obj cs _) => (U ty).sz ≠ 0 ∧ (U ty).k ≠ .other ∧ partA cs off (U ty) fun x => resA ρ h U r fun xs => k (x :: xs)
      | _ => False
    | _ => False

def oneOr (xs : List AV) : AV := match xs with
  | [x] => x
  | xs => .tup xs

/-- Less is known of the room behind slices. -/
inductive Weak : AV → AV → Prop where
  | refl (x : AV) : Weak x x
  | sl (xs : List AV) (p : Perm) : Weak (.sl xs p) (.sl xs .no)
  | agg (xs ys : List AV) (hl : xs.length = ys.length) (h : ∀ i (h1 : i < xs.length) (h2 : i < ys.length), Weak xs[i] ys[i]) : Weak (.agg xs) (.agg ys)
  | tup (xs ys : List AV) (hl : xs.length = ys.length) (h : ∀ i (h1 : i < xs.length) (h2 : i < ys.length), Weak xs[i] ys[i]) : Weak (.tup xs) (.tup ys)

theorem Rep.weak {c : Cx} {x y : AV} (hw : Weak x y) : ∀ {u : Value}, Rep c x u → Rep c y u := by
  induction hw with
  | refl x => exact id
  | sl xs p =>
    intro u h
    obtain ⟨a, cap, sz, val, rfl, hs⟩ := h.sl_inv
    exact .sl xs .no a cap sz val hs.hc hs.hm hs.h0 hs.hs hs.hz hs.hf hs.hr hs.ho trivial
  | agg xs ys hl h ih =>
    intro u hu
    obtain ⟨vs, rfl, h1, h2, h3⟩ := hu.agg_inv
    exact .agg ys vs (by omega) (fun i hi => ih i (by omega) hi (h2 i (by omega))) (fun i hi => h3 i (by omega))
  | tup xs ys hl h ih =>
    intro u hu
    obtain ⟨vs, rfl, h1, h2⟩ := hu.tup_inv
    exact .tup ys vs (by omega) (fun i hi => ih i (by omega) hi (h2 i (by omega)))

theorem FnOK.weak {f : FuncId} {args args' : List AV} {h : Heap} {Q : AV → Heap → Prop} (hf : FnOK P f args' h Q) (hl : args.length = args'.length) (hw : ∀ i (h1 : i < args.length) (h2 : i < args'.length), Weak args[i] args'[i]) : FnOK P f args h Q :=
  ⟨hf.1, fun c vs h1 h2 h3 h4 => hf.2 c vs h1 h2 (by omega) fun i hi => (h4 i (by omega)).weak (hw i (by omega) hi)⟩

theorem resA_sound (hU : ∀ t, AgreeT P U t) {c : Cx} {ρ : Env} {h : Heap} {a : Act} (hs : Sub h c.h) (g : Good c) (he : EnvSat c n ρ a) : ∀ (rs : List ResultVar) (k : List AV → Prop), resA ρ h U rs k →
    ∃ (xs : List AV) (vs : List Value), k xs ∧ vs.length = xs.length ∧ (∀ i (h1 : i < xs.length) (h2 : i < vs.length), Rep c xs[i] vs[i]) ∧
      (rs.mapM fun (r : ResultVar) => match r with | .tmp t => (pure (a.tmps.getD t undef) : Sem Value) | .cell q t => do loadVar t (← asAddr (a.tmps.getD q undef))).run P c.w = .ok vs c.w
  | [], k, hk => ⟨[], [], hk, rfl, fun i h => (by cases h), by simp⟩
  | .tmp t :: r, k, hk => by
    simp only [resA] at hk
    split at hk
    · rename_i x hx
      obtain ⟨xs, vs, h1, h2, h3, h4⟩ := resA_sound hU hs g he r _ hk
      refine ⟨x :: xs, a.tmps.getD t undef :: vs, h1, by simp [h2], fun i hi1 hi2 => ?_, ?_⟩
      · cases i with
        | zero => exact he.rep _ _ hx
        | succ i => exact h3 i (by simpa using hi1) (by simpa using hi2)
      · simp only [List.mapM_cons, Sem.run_bind, Sem.run_pure, Result.andThen_ok, h4]
    · exact hk.elim
  | .cell t ty :: r, k, hk => by
    simp only [resA] at hk
    split at hk
    · rename_i id off hx
      split at hk
      · rename_i cs t' hid
        obtain ⟨hz, ht, hk⟩ := hk
        obtain ⟨x, hk, hX⟩ := partA_load (P := P) hU hz ht hk
        obtain ⟨xs, vs, h1, h2, h3, h4⟩ := resA_sound hU hs g he r _ hk
        obtain ⟨hu, _⟩ := (he.rep _ _ hx).ptr_inv
        obtain ⟨us, u1, u2, u3⟩ := g.obj id cs t' (hs _ _ hid)
        obtain ⟨v, v1, v2⟩ := hX c (c.φ id).block 0 (fun j => us.getD j undef) (fun j hj => by
          have : j < us.size := by omega
          simp [World.cell?, u1, this]) (fun j hj => (u3 j hj).1) (fun j hj => (u3 j hj).2)
        rw [Nat.zero_add] at v1
        refine ⟨x :: xs, v :: vs, h1, by simp [h2], fun i hi1 hi2 => ?_, ?_⟩
        · cases i with
          | zero => exact v2
          | succ i => exact h3 i (by simpa using hi1) (by simpa using hi2)
        · have ha : (asAddr (a.tmps.getD t undef)).run P c.w = .ok ⟨(c.φ id).block, off, none⟩ c.w := by rw [hu]; rfl
          simp only [List.mapM_cons, Sem.run_bind, ha, Sem.run_pure, Result.andThen_ok, v1, h4]
      · exact hk.elim
    · exact hk.elim

def envOf (args : List AV) : Env := args.zipIdx.map fun p => (p.2, p.1)

theorem lk_envOf : ∀ (args : List AV) (k t : Nat), lk ((args.zipIdx k).map fun p => (p.2, p.1)) t = if k ≤ t then args[t - k]? else none
  | [], k, t => by simp [lk]
  | x :: r, k, t => by
    have ih := lk_envOf r (k + 1) t
    simp only [List.zipIdx_cons, List.map_cons, lk, ih]
    by_cases e : k = t
    · subst e; simp
    · rw [if_neg e]
      by_cases h : k ≤ t
      · rw [if_pos (by omega), if_pos h]
        rw [show t - k = (t - (k + 1)) + 1 by omega]
        rfl
      · rw [if_neg (by omega), if_neg h]

/-- What a function's body must come to. -/
def bodyK (U : TypeId → TI) (rs : List ResultVar) (Q : AV → Heap → Prop) (e : Exit) (ρ : Env) (h : Heap) : Prop :=
  (match e with | .ret | .normal => True | _ => False) ∧ resA ρ h U rs fun xs => ∃ y h', Weak (oneOr xs) y ∧ Sub h' h ∧ Q y h'

/-- A CONTRACT OUT OF THE BODY. -/
theorem FnOK.of_wp0 (hU : ∀ t, AgreeT P U t) {f : FuncId} {fn : Func} {c : Code} {args : List AV} {h : Heap} {Q : AV → Heap → Prop} (hf : P.funcs[f]? = some fn) (hb : fn.body = some c)
    (hn : (fn.name == "runtime.NumGoroutine") = false) (hl : args.length ≤ fn.ntmps)
    (hk : (∀ x ∈ args, wfA x) → WP P fn.ntmps c (envOf args) h (bodyK U fn.results.toList Q)) : FnOK P f args h Q := by
  refine ⟨⟨fn, hf, hn, by rw [hb]; rfl⟩, fun cx vs hs g hv hr => calls_of_wp hf hb ?_⟩
  have hwf : ∀ x ∈ args, wfA x := fun x hx => by
    obtain ⟨i, hi, rfl⟩ := List.mem_iff_getElem.1 hx
    exact (hr i hi).wf
  have hw := hk hwf
  have he : EnvSat cx fn.ntmps (envOf args) { tmps := vs ++ Array.replicate (fn.ntmps - vs.size) undef, defers := [] } := by
    refine ⟨by simp; omega, rfl, fun t x hx => ?_⟩
    have := lk_envOf args 0 t
    simp only [Nat.zero_le, if_true, Nat.sub_zero] at this
    have e : lk (envOf args) t = args[t]? := this
    rw [e] at hx
    obtain ⟨hi, rfl⟩ := List.getElem?_eq_some_iff.1 hx
    have h1 := hr t hi
    have h2 : t < vs.size := by omega
    have e2 : (vs ++ Array.replicate (fn.ntmps - vs.size) undef).getD t undef = vs.getD t undef := by
      rw [Array.getD, dif_pos (by simp; omega), Array.getD, dif_pos h2]
      exact Array.getElem_append_left h2
    simp only [e2]
    exact h1
  refine wp_mono (hw cx _ hs g he) fun e a w hq => ?_
  obtain ⟨c', ρ', h', rfl, g', hE, he', hs', hk1, hk2⟩ := hq
  obtain ⟨xs, us, ⟨y, h'', hwk, hsub, hQ⟩, hl', hr', hrun⟩ := resA_sound hU hs' g' he' _ _ hk2
  have hres : ∃ u, (results fn a.tmps).run P c'.w = .ok u c'.w ∧ Rep c' (oneOr xs) u := by
    have hrun' : (fn.results.mapM fun (r : ResultVar) => match r with | .tmp t => (pure (a.tmps.getD t undef) : Sem Value) | .cell q t => do loadVar t (← asAddr (a.tmps.getD q undef))).run P c'.w = .ok us.toArray c'.w := by
      rw [Array.mapM_eq_mapM_toList, Sem.run_map, hrun]; rfl
    have hres0 : (results fn a.tmps).run P c'.w = .ok (if h : us.toArray.size = 1 then us.toArray[0] else .tuple us.toArray) c'.w := by
      have e0 : results fn a.tmps = (fn.results.mapM fun (r : ResultVar) => match r with | .tmp t => (pure (a.tmps.getD t undef) : Sem Value) | .cell q t => do loadVar t (← asAddr (a.tmps.getD q undef))) >>= fun vs => pure (if h : vs.size = 1 then vs[0] else .tuple vs) := rfl
      rw [e0, Sem.run_bind, hrun']
      rfl
    by_cases h1 : us.length = 1
    · obtain ⟨u, rfl⟩ := List.length_eq_one_iff.1 h1
      obtain ⟨x, rfl⟩ := List.length_eq_one_iff.1 (hl'.symm.trans h1)
      refine ⟨u, ?_, hr' 0 (by simp) (by simp)⟩
      rw [hres0]
      simp
    · refine ⟨.tuple us.toArray, ?_, ?_⟩
      · rw [hres0]
        simp [h1]
      · have : oneOr xs = .tup xs := by
          cases xs with
          | nil => rfl
          | cons x r => cases r with
            | nil => exact (h1 (by simpa using hl')).elim
            | cons y q => rfl
        rw [this]
        refine .tup xs _ (by simp [hl']) fun i hi => ?_
        have := hr' i hi (by omega)
        simpa [show i < us.length by omega] using this
  obtain ⟨u, hu1, hu2⟩ := hres
  have fin : a.defers = [] ∧ ∃ v, (results fn a.tmps).run P c'.w = .ok v c'.w ∧ ∃ u, Ending.returned v = .returned u ∧ Comes1 cx Q u c'.w :=
    ⟨he'.defers, u, hu1, u, rfl, c', y, h'', rfl, g', hE, hu2.weak hwk, fun id k hk => hs' _ _ (hsub _ _ hk), hQ⟩
  cases e with
  | normal => exact fin
  | ret => exact fin
  | _ => exact hk1.elim

theorem FnOK.of_vc (hU : ∀ t, AgreeT P U t) (hm : P.follows .mixedOrders = true) {f : FuncId} {fn : Func} {c : Code} {args : List AV} {h : Heap} {Q : AV → Heap → Prop} (hf : P.funcs[f]? = some fn) (hb : fn.body = some c)
    (hn : (fn.name == "runtime.NumGoroutine") = false) (hl : args.length ≤ fn.ntmps)
    (hk : (∀ x ∈ args, wfA x) → vcCode P U fn.ntmps c (envOf args) h (bodyK U fn.results.toList Q)) : FnOK P f args h Q :=
  FnOK.of_wp0 hU hf hb hn hl fun hw => vcCode_sound hU hm c _ h _ (hk hw)

end
end Go.Ab
