/- A literal of bytes that is converted to its own type: the model marks its end. -/
import Derived.Test.YtidpcjblciompaaAb28
set_option linter.unusedSimpArgs false
set_option linter.unusedVariables false
namespace Go.Ab
open Go

section
variable {P : Program} {U : TypeId → TI} {n : Nat} {ρ : Env} {h : Heap}

/-- A literal of bytes, and its conversion. -/
def litC (U : TypeId → TI) (n : Nat) (ρ : Env) (o o' : Oper) (K : Env → Prop) : Prop := match o.dst, o.op, o'.op with
  | some d, .buildSlice ty len parts, .convert s s' (.tmp t) => o.guard = none ∧ o'.guard = none ∧ s = ty ∧ s' = ty ∧ t = d ∧ d < n ∧ dstOK n o'.dst = true ∧ match (U ty).k with
    | .slice e => (U e).k = .int .u8 ∧ (U e).sz = 1 ∧ 0 < len ∧ len ≤ 4096 ∧ parts.toList.map (·.1) = List.range len ∧ withvs ρ (parts.toList.map (·.2)) fun xs => fits 1 xs ∧ K (put (put ρ (some d) (.sl xs .full)) o'.dst (.sl xs .full))
    | _ => False
  | _, _, _ => False

/-- A row of operations, literals that are converted among them. -/
def vcOpsC (P : Program) (U : TypeId → TI) (n : Nat) (all : List Oper) : List Bool → List Oper → Env → Heap → (Env → Heap → Prop) → Prop
  | true :: bs, o :: o' :: r, ρ, h, K => litC U n ρ o o' fun ρ => vcOpsC P U n all bs r ρ h K
  | false :: bs, o :: r, ρ, h, K => dstOK n o.dst = true ∧ o.guard = none ∧ vcOp P U ρ h o (KOp (fun ρ h => vcOpsC P U n all bs r ρ h K) ρ o.dst)
  | [], l, ρ, h, K => vcOps P U n all l ρ h K
  | _, _, _, _, _ => False

section
variable (all : List Oper) (bs : List Bool) (r : List Oper) (K : Env → Heap → Prop)
@[go_sem ↓] theorem c_pair (o o' : Oper) : vcOpsC P U n all (true :: bs) (o :: o' :: r) ρ h K = litC U n ρ o o' fun ρ => vcOpsC P U n all bs r ρ h K := rfl
def KOpC (P : Program) (U : TypeId → TI) (n : Nat) (all : List Oper) (bs : List Bool) (r : List Oper) (K : Env → Heap → Prop) (ρ : Env) (d : Option Tmp) (x : AV) (h : Heap) : Prop := vcOpsC P U n all bs r (put ρ d x) h K
@[go_sem ↓] theorem KOpC_eq (d : Option Tmp) (x : AV) : KOpC P U n all bs r K ρ d x h = vcOpsC P U n all bs r (put ρ d x) h K := rfl
@[go_sem ↓] theorem c_one (d : Option Tmp) (op : Op) (t : TypeId) (p : String) (a : Array Edge) : vcOpsC P U n all (false :: bs) (⟨d, op, t, p, a, none⟩ :: r) ρ h K = (dstOK n d = true ∧ vcOp P U ρ h ⟨d, op, t, p, a, none⟩ (KOpC P U n all bs r K ρ d)) := by
  simp only [vcOpsC, true_and]
  rfl
@[go_sem ↓] theorem c_rest (l : List Oper) : vcOpsC P U n all [] l ρ h K = vcOps P U n all l ρ h K := by cases l <;> rfl
@[go_sem ↓] theorem c_lit (d : Nat) (d' : Option Tmp) (ty : TypeId) (len : Nat) (parts : List (Nat × Operand)) (t t' : TypeId) (p p' : String) (a a' : Array Edge) (k : Env → Prop) : litC U n ρ ⟨some d, .buildSlice ty len parts.toArray, t, p, a, none⟩ ⟨d', .convert ty ty (.tmp d), t', p', a', none⟩ k =
    (d < n ∧ dstOK n d' = true ∧ match (U ty).k with
    | .slice e => (U e).k = .int .u8 ∧ (U e).sz = 1 ∧ 0 < len ∧ len ≤ 4096 ∧ parts.map (·.1) = List.range len ∧ withvs ρ (parts.map (·.2)) fun xs => fits 1 xs ∧ k (put (put ρ (some d) (.sl xs .full)) d' (.sl xs .full))
    | _ => False) := by
  simp only [litC, true_and]
end
theorem lit_run (hU : ∀ t, AgreeT P U t) {o o' : Oper} {K : Env → Prop} (hk : litC U n ρ o o' K) {c : Cx} {a : Act} (g : Good c) (he : EnvSat c n ρ a) :
    o.guard = none ∧ o'.guard = none ∧ ∃ u c1 c2, (execOp a.eval o).run P c.w = .ok (.value u) c1 ∧ (execOp (a.put o.dst u).eval o').run P c1 = .ok (.value u) c2.w ∧ Good c2 ∧ Ext c c2 ∧ c2.h = c.h ∧
      ∃ ρ', EnvSat c2 n ρ' ((a.put o.dst u).put o'.dst u) ∧ K ρ' := by
  unfold litC at hk
  split at hk
  case h_2 => exact hk.elim
  rename_i d ty len parts s s' t hdst hop hop'
  obtain ⟨g1, g2, e1, e2, e3, hdn, hdo, hk⟩ := hk
  subst e1; subst e2; subst e3
  refine ⟨g1, g2, ?_⟩
  have hd := (hU s').desc
  split at hk
  case h_2 => exact hk.elim
  rename_i e hty
  rw [hty] at hd
  obtain ⟨h8, hsz, hlen0, hle, hidx, hp⟩ := hk
  have hd8 := (hU e).desc
  rw [h8] at hd8
  obtain ⟨xs, hxs, hft, hk⟩ := withvs_elim hp
  have hz : (U e).sz ≠ 0 := by omega
  obtain ⟨hl1, hl2⟩ := evs_rep he _ _ hxs
  obtain ⟨i, hi1, hi2, _, z, hz1, hz2, _⟩ := (hU e).info hz
  rw [← hsz] at hft
  have hplen : parts.toList.length = len := by have := congrArg List.length hidx; simpa using this
  have hxlen : xs.length = len := by rw [← hl1]; simpa using hplen
  let vs : List Value := parts.toList.map (fun p => a.eval p.2)
  have hvlen : vs.length = len := by simp [vs]; simpa using hplen
  have hv : ∀ i (h1 : i < xs.length) (h2 : i < vs.length), Rep c xs[i] vs[i] := fun i h1 h2 => by
    have := hl2 i (by simp; simpa [vs] using h2) h1
    simpa [vs] using this
  have hvs : ∀ v ∈ vs, v.cells.size = (U e).sz := fun v hv' => by
    obtain ⟨i, hi, rfl⟩ := List.mem_iff_getElem.1 hv'
    exact ((hv i (by omega) hi).fits (fits_mem hft i (by omega))).1
  obtain ⟨r, h1, h2, h3, _⟩ := fill_row (U e).sz vs 0 ((Array.range (len * (U e).sz)).map (fun j => (if len * (U e).sz = 0 then #[] else z.cells)[j % (if len * (U e).sz = 0 then #[] else z.cells).size]!)) hvs (by simp [hvlen])
  have hparts : (parts.map fun (i, x) => (i, a.eval x)).toList = (List.range' 0 vs.length).zip vs := by
    rw [hvlen, ← List.range_eq_range', ← hidx]
    simp only [Array.toList_map, vs]
    rw [List.zip_map', List.map_eq_map_iff]
    intro p hp; rfl
  rw [← hparts] at h1
  have h0 : ¬ (len * (U e).sz = 0) := by rw [hsz]; omega
  have hrun : (execOp a.eval o).run P c.w = .ok (.value (.slice (some ⟨c.w.heap.size, 0, none⟩) len len)) (c.w.alloc (.cells r e)) := by
    simp only [h0, if_false] at h1
    have hz0 : (zeroValue e).run P c.w = .ok z c.w := by simp [zeroValue, typeInfo, hi1, hz1]
    have h24 : ¬ (len * (U e).sz > 2 ^ 24) := by rw [hsz]; omega
    simp only [execOp, hop, Instr.buildSlice, Sem.run_bind, run_underlying hd, sizeOf_run hU hz, Result.andThen_ok, h24, h0, if_false, hz0, Sem.run_pure]
    rw [h1]
    simp [newRow]
    try rfl
  have hsize : r.size = len := by rw [h2, hsz]; simp
  have hev : (a.put o.dst (.slice (some ⟨c.w.heap.size, 0, none⟩) len len)).eval (.tmp t) = .slice (some ⟨c.w.heap.size, 0, none⟩) len len := by
    rw [hdst]
    have : t < a.tmps.size := by rw [he.size]; exact hdn
    simp [Act.eval, Act.put, this]
  let c2 : Cx := { c with w := c.w.alloc (.cells r e (r.size, r.size + 1)) }
  have hfr : (c.w.alloc (.cells r e)).freeze { block := c.w.heap.size, off := r.size } 1 = c.w.alloc (.cells r e (r.size, r.size + 1)) := by
    unfold World.freeze World.alloc
    rw [if_neg (by decide)]
    simp only
    congr 1
    apply Array.ext
    · simp
    · intro i h1 h2
      simp only [Array.getElem_modify]
      by_cases hi : i = c.w.heap.size
      · subst hi; simp
      · simp at h1
        have : i < c.w.heap.size := by omega
        rw [if_neg (fun hh => hi hh.symm)]
        simp [Array.getElem_push, this]
  have hrun2 : (execOp (a.put o.dst (.slice (some ⟨c.w.heap.size, 0, none⟩) len len)).eval o').run P (c.w.alloc (.cells r e)) = .ok (.value (.slice (some ⟨c.w.heap.size, 0, none⟩) len len)) c2.w := by
    have hsh : (c.w.alloc (.cells r e)).shape? c.w.heap.size = some (e, r.size) := by
      unfold World.shape?
      rw [heap_alloc_new]
    rw [← show _ = c2.w from hfr]
    simp only [execOp, hop', hev, convert, Sem.run_bind, run_underlying hd, Result.andThen_ok, run_underlying hd8]
    simp [markStringish, shape, freeze, hsh, Sem.run]
  have hrep : Rep c2 (.sl xs .full) (.slice (some ⟨c.w.heap.size, 0, none⟩) len len) := by
    have := slNew g e (r.size, r.size + 1) r xs (U e).sz len (fun i j => r.getD (i * (U e).sz + j) undef) (by omega) (by simp only [lim]; omega)
      (fun i hi => by
        have := (hv i hi (by omega)).fits (fits_mem hft i hi)
        exact this.2.1) (fun i j hi hj => by
        have hlt : i * (U e).sz + j < r.size := by
          rw [hsz] at hj ⊢; omega
        simp [hlt]) (fun i hi j hj => by
        have hf := (hv i hi (by omega)).fits (fits_mem hft i hi)
        have hj' : j < (U e).sz := by rw [← hf.2.1]; exact hj
        have := h3 i (by omega) j hj'
        rw [Nat.zero_add] at this
        rw [this]
        exact hf.2.2.1 j hj) (fun i j hi hj => by
        have hf := (hv i hi (by omega)).fits (fits_mem hft i hi)
        have := h3 i (by omega) j hj
        rw [Nat.zero_add] at this
        rw [this]
        exact hf.2.2.2 j hj) .full (.inr ⟨rfl, hxlen.symm⟩)
    rwa [hxlen] at this
  refine ⟨_, _, c2, hrun, hrun2, g.alloc _, Ext.alloc _ _, rfl, _, ?_, hk⟩
  have he2 : EnvSat c2 n ρ a := he.mono (Ext.alloc c _)
  rw [hdst]
  exact (he2.put (d := some t) (by simpa [dstOK] using hdn) hrep).put hdo hrep

theorem vcOpsC_sound (hU : ∀ t, AgreeT P U t) {all : List Oper} {K : Exit → Env → Heap → Prop} (c0 : Cx) : ∀ (bs : List Bool) (l : List Oper) (ρ : Env) (h : Heap), vcOpsC P U n all bs l ρ h (K .normal) →
    ∀ c a, Ext c0 c → Sub h c.h → Good c → EnvSat c n ρ a → wpList P all.toArray (WPK n K c0) l a c.w
  | true :: bs, o :: o' :: r, ρ, h, hk, c, a, hE, hs, g, he => by
    simp only [vcOpsC] at hk
    obtain ⟨g1, g2, u, w1, c2, r1, r2, gd, hE2, hh, ρ', he', hK⟩ := lit_run hU hk g he
    unfold wpList
    rw [if_pos (by simp [Region.wanted, g1])]
    left
    unfold Oper.wp
    rw [r1]
    simp only [Oper.upon]
    unfold wpList
    rw [if_pos (by simp [Region.wanted, g2])]
    left
    unfold Oper.wp
    rw [r2]
    simp only [Oper.upon]
    exact vcOpsC_sound hU c0 bs r ρ' h hK c2 _ (hE.trans hE2) (by rw [hh]; exact hs) gd he'
  | false :: bs, o :: os, ρ, h, hk, c, a, hE, hs, g, he => by
    simp only [vcOpsC] at hk
    obtain ⟨hd, hg, hk⟩ := hk
    unfold wpList
    rw [if_pos (by simp [Region.wanted, hg])]
    left
    have hu := vcOp_sound hU hk hs g he
    have next : ∀ u w', Comes1 c (KOp (fun ρ h => vcOpsC P U n all bs os ρ h (K .normal)) ρ o.dst) u w' → wpList P all.toArray (WPK n K c0) os (a.put o.dst u) w' := by
      rintro u w' ⟨c', x, h', rfl, g', hE', hr, hs', hK⟩
      exact vcOpsC_sound hU c0 bs os _ h' hK c' _ (hE.trans hE') hs' g' ((he.mono hE').put hd hr)
    unfold Oper.wp
    generalize (execOp a.eval o).run P c.w = r at hu
    cases r with
    | ok nx w' =>
      cases nx <;> simp only [Upon1] at hu <;> simp only [Oper.upon]
      case value u => exact next u w' hu
      case skip => exact next undef w' hu
      case enter f args =>
        obtain ⟨rfl, hc⟩ := hu
        exact hc.mono fun e w'' ⟨u, he, hcm⟩ => by subst he; exact next u w'' hcm
    | halt x w' => exact hu.elim
  | [], l, ρ, h, hk, c, a, hE, hs, g, he => by
    cases l <;> exact vcOps_sound hU c0 _ ρ h (by simpa only [vcOpsC] using hk) c a hE hs g he
  | true :: bs, [], ρ, h, hk, c, a, hE, hs, g, he => by simp [vcOpsC] at hk
  | true :: bs, [o], ρ, h, hk, c, a, hE, hs, g, he => by simp [vcOpsC] at hk
  | false :: bs, [], ρ, h, hk, c, a, hE, hs, g, he => by simp [vcOpsC] at hk

theorem WP.opsC (hU : ∀ t, AgreeT P U t) (bs : List Bool) {id : Nat} {ops : Array Oper} {K : Exit → Env → Heap → Prop} (hk : vcOpsC P U n ops.toList bs ops.toList ρ h (K .normal)) : WP P n (.region id ops false) ρ h K := by
  intro cx a h1 h2 h3
  have := vcOpsC_sound hU cx bs ops.toList ρ h hk cx a (.refl _) h1 h2 h3
  have e : ops.toList.toArray = ops := by simp
  rw [e] at this
  exact wp_region_list this

/-- A contract out of the body, by the code's own meaning. -/
theorem FnOK.of_wp {f : FuncId} {fn : Func} {c : Code} {args : List AV} {Q : AV → Heap → Prop} (hU : ∀ t, AgreeT P U t) (hf : P.funcs[f]? = some fn) (hb : fn.body = some c)
    (hn : (fn.name == "runtime.NumGoroutine") = false) (m : Nat) (hm' : fn.ntmps = m) (rs : List ResultVar) (hr : fn.results.toList = rs) (hl : args.length ≤ m)
    (hk : WP P m c (envOf args) h (bodyK U rs Q)) : FnOK P f args h Q := by
  subst hm'; subst hr
  exact FnOK.of_wp0 hU hf hb hn hl fun _ => hk
end
end Go.Ab
