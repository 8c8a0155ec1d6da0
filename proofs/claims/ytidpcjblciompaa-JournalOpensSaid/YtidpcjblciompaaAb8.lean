/- Conversions, literals of slices and structs; and all the operations that change nothing owned, in one. -/
import Derived.Test.YtidpcjblciompaaAb7
set_option linter.unusedSimpArgs false
set_option linter.unusedVariables false
namespace Go.Ab
open Go

section
variable {P : Program} {U : TypeId → TI} {ρ : Env} {h : Heap} {k : AV → Prop} {o : Oper}

theorem not_owned_new {c : Cx} (g : Good c) (o : Obj) (x : Nat) : ¬ owned { c with w := c.w.alloc o } c.w.heap.size x := by
  rintro ⟨id, k, h1, h2, _⟩
  have := g.lt h1
  simp only at h2
  omega

/-- A slice over a new block. -/
theorem slNew {c : Cx} (g : Good c) (t : TypeId) (fr : Nat × Nat) (vs : Array Value) (xs : List AV) (sz cap : Nat) (val : Nat → Nat → Value) (hc : xs.length ≤ cap) (hm : cap < lim)
    (hz : ∀ i (h : i < xs.length), xs[i].cells.length = sz) (hv : ∀ i j, i < xs.length → j < sz → vs[i * sz + j]? = some (val i j))
    (hr : ∀ i (h : i < xs.length) j (h' : j < xs[i].cells.length), Rep c xs[i].cells[j] (val i j)) (ho : ∀ i j, i < xs.length → j < sz → (val i j).oneCell' = true)
    (p : Perm) (hp : p = .no ∨ p = .full ∧ cap = xs.length) :
    Rep { c with w := c.w.alloc (.cells vs t fr) } (.sl xs p) (.slice (some ⟨c.w.heap.size, 0, none⟩) xs.length cap) := by
  refine .sl xs p _ cap sz val hc hm (fun e => by cases e) (fun q hq _ => by cases hq; exact ⟨rfl, by simp⟩) hz (fun q hq i j hi hj => ?_) (fun i hi j hj => (hr i hi j hj).mono (.alloc c _)) ho ?_
  · cases hq
    refine ⟨?_, not_owned_new g _ _⟩
    rw [Nat.zero_add]
    exact (World.cell?_alloc_mark _ _ _ _ _).trans (hv i j hi hj)
  · rcases hp with rfl | ⟨rfl, rfl⟩
    · trivial
    · rfl

theorem cap_lt (w : World) (n old : Nat) (e : TypeId) (h : n < lim) : n ≤ grownCap w n old e ∧ grownCap w n old e < lim := by
  unfold grownCap
  simp only [Question.cut, lim] at *
  have : w.tape w.drawn (.appendCap n old e) % (2 ^ 63 - n) < 2 ^ 63 - n := Nat.mod_lt _ (by omega)
  omega

theorem sound_convert {src dst : TypeId} {x : Operand} (hU : ∀ t, AgreeT P U t) (ho : o.op = .convert src dst x) (hp : pv U ρ h (.convert src dst x) k) : ∃ X, k X ∧ PureOK P o ρ h X := by
  obtain ⟨A, hA, hk⟩ := withv_elim hp
  have hd := (hU dst).desc
  have hs := (hU src).desc
  split at hk
  · rename_i k1 kk k2 n h1 h2
    rw [h1] at hs; rw [h2] at hd
    refine ⟨_, hk, .stay fun c a m hc g he => ⟨_, ?_, .v _⟩⟩
    simp [execOp, ho, (ev_rep he hA).v_inv, convert, run_underlying hs, run_underlying hd, Conv.intToInt]
  · rename_i l h1 h2
    rw [h1] at hs; rw [h2] at hd
    refine ⟨_, hk, .stay fun c a m hc g he => ⟨_, ?_, ev_rep he hA⟩⟩
    simp [execOp, ho, (ev_rep he hA).s_inv.1, convert, run_underlying hs, run_underlying hd]
  · rename_i e xs p h1 h2
    rw [h1] at hs; rw [h2] at hd
    split at hk
    · rename_i h3
      have hE := (hU e).desc
      rw [h3] at hE
      obtain ⟨l, rfl, hk⟩ := hk
      refine ⟨_, hk, .stay fun c a m hc g he => ?_⟩
      obtain ⟨q, cap, sz, val, hu, hs'⟩ := (ev_rep he hA).sl_inv
      have hlen : (l.map byteA).length = l.length := by simp
      have hl : l.length < lim := by have := hs'.hc; have := hs'.hm; simp only [lim] at *; omega
      cases q with
      | none =>
        have h5 := hs'.h0 rfl
        have h6 := hs'.hc
        have : l = [] := by
          cases l with
          | nil => rfl
          | cons b r => simp at h6; omega
        subst this
        refine ⟨.string ⟨#[]⟩, ?_, .s [] hl⟩
        simp [execOp, ho, hu, convert, run_underlying hs, run_underlying hd, run_underlying hE, Conv.bytesToString]
        rfl
      | some q =>
        refine ⟨.string ⟨l.toArray⟩, ?_, .s l hl⟩
        have hrun := run_convert_bytes_back (P := P) c.w src dst e q cap l hs hE hd (fun j hj => by
          have hj' : j < (l.map byteA).length := by simpa using hj
          have hz := hs'.hz j hj'
          simp only [List.getElem_map, byteA, AV.cells, List.length_singleton] at hz
          have hf := hs'.hf q rfl j 0 hj' (by omega)
          have hr := hs'.hr j hj' 0 (by simp [byteA, AV.cells])
          simp only [List.getElem_map, byteA, AV.cells, List.getElem_singleton] at hr
          rw [hr.v_inv] at hf
          obtain ⟨bq, oq, sq⟩ := q
          have hsp := (hs'.hs _ rfl (by have := hs'.hc; omega)).1
          simp only at hsp; subst hsp
          rw [add_addr]
          have := hf.1
          rwa [← hz, Nat.mul_one, Nat.add_zero] at this)
        rw [hlen] at hu
        simp [execOp, ho, hu, hrun]
    · exact hk.elim
  · rename_i e l h1 h2
    rw [h1] at hs; rw [h2] at hd
    split at hk
    · rename_i h3
      have hE := (hU e).desc
      rw [h3] at hE
      refine ⟨_, hk, fun c a m hc g he => ?_⟩
      obtain ⟨hu, hl⟩ := (ev_rep he hA).s_inv
      have hrun := run_bytes_of_string (P := P) c.w src dst e ⟨l.toArray⟩ hs hd hE
      have hsz : (⟨l.toArray⟩ : ByteArray).size = l.length := rfl
      rw [hsz] at hrun
      obtain ⟨hcap1, hcap2⟩ := cap_lt c.w l.length 0 e hl
      generalize hcp : grownCap c.w l.length 0 e = cap at hrun hcap1 hcap2
      have g1 : Good { c with w := c.w.drew } := g.draw rfl rfl rfl rfl
      have e1 : Ext c { c with w := c.w.drew } := Ext.draw rfl rfl rfl rfl
      refine ⟨_, { c with w := c.w.drew.alloc (.cells (bytesRow ⟨l.toArray⟩ cap) e ((bytesRow ⟨l.toArray⟩ cap).size, (bytesRow ⟨l.toArray⟩ cap).size + 1)) }, by simp [execOp, ho, hu, hrun]; rfl,
        g1.alloc _, e1.trans (Ext.alloc _ _), rfl, ?_⟩
      have := slNew g1 e ((bytesRow ⟨l.toArray⟩ cap).size, (bytesRow ⟨l.toArray⟩ cap).size + 1) (bytesRow ⟨l.toArray⟩ cap) (l.map byteA) 1 cap (fun i _ => .int .u8 ((l.getD i 0).toNat : Int)) (by simpa using hcap1) hcap2
        (fun i hi => by simp [byteA, AV.cells]) (fun i j hi hj => by
          have hi' : i < l.length := by simpa using hi
          have ej : j = 0 := by omega
          subst ej
          have := bytesRow_at ⟨l.toArray⟩ cap i (by simpa using hi')
          simpa [hi'] using this) (fun i hi j hj => by
          have hi' : i < l.length := by simpa using hi
          simp only [List.getElem_map, byteA, AV.cells, List.length_singleton] at hj
          have ej : j = 0 := by omega
          subst ej
          simp only [List.getElem_map, byteA, AV.cells, List.getElem_singleton]
          rw [show l.getD i 0 = l[i] by simp [hi']]
          exact .v _) (fun i j _ _ => rfl) .no (.inl rfl)
      simpa using this
    · exact hk.elim
  · exact hk.elim

theorem foldSet (off : Nat) : ∀ (l : List Value) (k : Nat) (cells : Array Value),
    let r := (l.zipIdx k).foldl (fun cs (x : Value × Nat) => cs.setIfInBounds (off + x.2) x.1) cells
    r.size = cells.size ∧ (∀ j, j < l.length → off + k + j < cells.size → r.getD (off + k + j) undef = l.getD j undef) ∧
      ∀ x, (x < off + k ∨ off + k + l.length ≤ x) → r.getD x undef = cells.getD x undef
  | [], k, cells => by
    refine ⟨rfl, fun j hj => ?_, fun _ _ => rfl⟩
    simp at hj
  | v :: l, k, cells => by
    obtain ⟨h1, h2, h3⟩ := foldSet off l (k + 1) (cells.setIfInBounds (off + k) v)
    simp only [List.zipIdx_cons, List.foldl_cons] at *
    refine ⟨by rw [h1]; simp, fun j hj hb => ?_, fun x hx => ?_⟩
    · cases j with
      | zero =>
        rw [h3 _ (.inl (by omega))]
        have : off + k < cells.size := by omega
        simp [this]
      | succ j =>
        have := h2 j (by simpa using hj) (by simp; omega)
        rw [show off + k + (j + 1) = off + (k + 1) + j by omega, this]
        simp
    · rw [h3 x (by simp at hx; omega)]
      have : off + k ≠ x := by simp at hx; omega
      simp [Array.getElem?_setIfInBounds_ne this]

/-- One part laid. -/
theorem fill_cons {place : Nat → Option (Nat × Nat)} {cells : Array Value} {i off size : Nat} {v : Value} {rest : List (Nat × Value)} (hp : place i = some (off, size)) (hv : v.cells.size = size) (hb : off + size ≤ cells.size) :
    ∃ r : Array Value, Instr.fill place cells ((i, v) :: rest) = Instr.fill place r rest ∧ r.size = cells.size ∧ (∀ j, j < size → r.getD (off + j) undef = v.cells.getD j undef) ∧
      ∀ x, (x < off ∨ off + size ≤ x) → r.getD x undef = cells.getD x undef := by
  obtain ⟨h1, h2, h3⟩ := foldSet off v.cells.toList 0 cells
  refine ⟨v.cells.zipIdx.foldl (fun cs (c, j) => cs.setIfInBounds (off + j) c) cells, ?_, ?_, ?_, ?_⟩
  · simp only [Instr.fill, hp]
    rw [if_neg (by simp [hv]; omega)]
  · rw [← Array.foldl_toList, Array.toList_zipIdx]; exact h1
  · intro j hj
    rw [← Array.foldl_toList, Array.toList_zipIdx]
    have := h2 j (by simp; omega) (by omega)
    simp only [Nat.add_zero] at this
    rw [this]
    simp [List.getD]
  · intro x hx
    rw [← Array.foldl_toList, Array.toList_zipIdx]
    exact h3 x (by simp; omega)

/-- Elements laid one behind the other. -/
theorem fill_row (size : Nat) : ∀ (vs : List Value) (s : Nat) (cells : Array Value), (∀ v ∈ vs, v.cells.size = size) → (s + vs.length) * size ≤ cells.size →
    ∃ r : Array Value, Instr.fill (fun i => some (i * size, size)) cells ((List.range' s vs.length).zip vs) = some r ∧ r.size = cells.size ∧
      (∀ i (h : i < vs.length) j, j < size → r.getD ((s + i) * size + j) undef = vs[i].cells.getD j undef) ∧ ∀ x, x < s * size → r.getD x undef = cells.getD x undef
  | [], s, cells, _, _ => ⟨cells, by simp [Instr.fill], rfl, fun i h => (by cases h), fun _ _ => rfl⟩
  | v :: vs, s, cells, hv, hb => by
    have e1 : (s + (v :: vs).length) * size = s * size + size + vs.length * size := by
      simp only [List.length_cons, Nat.add_mul, Nat.one_mul]; omega
    obtain ⟨r1, h1, h2, h3, h4⟩ := fill_cons (place := fun i => some (i * size, size)) (cells := cells) (i := s) (v := v) (rest := (List.range' (s + 1) vs.length).zip vs) rfl (hv v (by simp)) (by omega)
    obtain ⟨r, h5, h6, h7, h8⟩ := fill_row size vs (s + 1) r1 (fun u hu => hv u (by simp [hu])) (by rw [h2, Nat.add_mul, Nat.add_mul, Nat.one_mul]; omega)
    refine ⟨r, ?_, by omega, fun i hi j hj => ?_, fun x hx => ?_⟩
    · simp only [List.length_cons, List.range'_succ, List.zip_cons_cons]
      rw [h1, h5]
    · cases i with
      | zero =>
        rw [Nat.add_zero, h8 _ (by rw [Nat.add_mul, Nat.one_mul]; omega)]
        exact h3 j hj
      | succ i =>
        have := h7 i (by simpa using hi) j hj
        rw [show s + (i + 1) = s + 1 + i by omega, this]
        simp
    · rw [h8 x (by rw [Nat.add_mul, Nat.one_mul]; omega)]
      exact h4 x (.inl hx)

theorem Rep.fits {c : Cx} {x : AV} {u : Value} {n : Nat} (h : Rep c x u) (hf : fit x n) : u.cells.size = n ∧ x.cells.length = n ∧ (∀ j (hj : j < x.cells.length), Rep c x.cells[j] (u.cells.getD j undef)) ∧
    ∀ j, j < n → (u.cells.getD j undef).oneCell' = true := by
  have one : n = 1 → x.cells = [x] → u.oneCell' = true → u.cells.size = n ∧ x.cells.length = n ∧ (∀ j (hj : j < x.cells.length), Rep c x.cells[j] (u.cells.getD j undef)) ∧
    ∀ j, j < n → (u.cells.getD j undef).oneCell' = true := by
    rintro rfl h1 h2
    have e : u.cells = #[u] := by cases u <;> simp [Value.oneCell'] at h2 <;> rfl
    refine ⟨by rw [e]; rfl, by rw [h1]; rfl, fun j hj => ?_, fun j hj => ?_⟩
    · have ej : j = 0 := by rw [h1] at hj; simp only [List.length_singleton] at hj; omega
      subst ej
      simpa [h1, e] using h
    · have ej : j = 0 := by omega
      subst ej
      simpa [e] using h2
  cases x with
  | agg cs =>
    obtain ⟨vs, rfl, hn, hr, ho⟩ := h.agg_inv
    have hl : cs.length = n := hf
    exact ⟨hn.trans hl, hl, hr, fun j hj => ho j (by omega)⟩
  | v x => obtain ⟨h1, h2⟩ := hf; exact one h2 rfl (by rw [h.v_inv]; exact h1)
  | s l => exact one hf rfl (by rw [h.s_inv.1]; rfl)
  | tup vs => exact hf.elim
  | sl xs p => obtain ⟨a, cap, sz, val, hu, _⟩ := h.sl_inv; exact one hf rfl (by rw [hu]; rfl)
  | pe y off => obtain ⟨b, p, val, hu, _⟩ := h.pe_inv; exact one hf rfl (by rw [hu]; rfl)
  | ptr id off => exact one hf rfl (by rw [h.ptr_inv.1]; rfl)
  | oa id off len => obtain ⟨cap, p, hu, _⟩ := h.oa_inv; exact one hf rfl (by rw [hu]; rfl)
  | ifc t y => exact one hf rfl (by cases h; rfl)
  | fn f cap => obtain ⟨vs, hu, _⟩ := h.fn_inv; exact one hf rfl (by rw [hu]; rfl)

theorem fits_mem {n : Nat} : ∀ {xs : List AV}, fits n xs → ∀ i (h : i < xs.length), fit xs[i] n
  | y :: r, h, 0, _ => h.1
  | y :: r, h, i + 1, hi => fits_mem h.2 i (by simpa using hi)

theorem sound_buildSlice {ty : TypeId} {len : Nat} {parts : Array (Nat × Operand)} (hU : ∀ t, AgreeT P U t) (ho : o.op = .buildSlice ty len parts) (hp : pv U ρ h (.buildSlice ty len parts) k) : ∃ X, k X ∧ PureOK P o ρ h X := by
  simp only [pv] at hp
  have hd := (hU ty).desc
  split at hp
  · rename_i e hty
    rw [hty] at hd
    obtain ⟨hz, hle, hidx, hp⟩ := hp
    obtain ⟨xs, hxs, hft, hk⟩ := withvs_elim hp
    refine ⟨_, hk, fun c a m hc g he => ?_⟩
    obtain ⟨hl1, hl2⟩ := evs_rep he _ _ hxs
    obtain ⟨i, hi1, hi2, _, z, hz1, hz2, _⟩ := (hU e).info hz
    have hplen : parts.toList.length = len := by have := congrArg List.length hidx; simpa using this
    have hxlen : xs.length = len := by rw [← hl1]; simpa using hplen
    let vs : List Value := parts.toList.map (fun p => a.eval p.2)
    have hvlen : vs.length = len := by simp [vs]; simpa using hplen
    have hv : ∀ i (h1 : i < xs.length) (h2 : i < vs.length), Rep c xs[i] vs[i] := fun i h1 h2 => by
      have := hl2 i (by simp; simpa [vs] using h2) h1
      simpa [vs] using this
    have hvs : ∀ v ∈ vs, v.cells.size = (U e).sz := fun v hv' => by
      obtain ⟨i, hi, rfl⟩ := List.mem_iff_getElem.1 hv'
      exact ((hv i (by omega) hi).fits (fits_mem hft i (by omega))).1
    obtain ⟨r, h1, h2, h3, _⟩ := fill_row (U e).sz vs 0 ((Array.range (len * (U e).sz)).map (fun j => (if len * (U e).sz = 0 then #[] else z.cells)[j % (if len * (U e).sz = 0 then #[] else z.cells).size]!)) hvs (by simp [hvlen])
    have hparts : (parts.map fun (i, x) => (i, a.eval x)).toList = (List.range' 0 vs.length).zip vs := by
      rw [hvlen, ← List.range_eq_range', ← hidx]
      simp only [Array.toList_map, vs]
      rw [List.zip_map', List.map_eq_map_iff]
      intro p hp; rfl
    rw [← hparts] at h1
    have hrun : (execOp a.eval o).run P c.w = .ok (.value (.slice (some ⟨c.w.heap.size, 0, none⟩) len len)) (c.w.alloc (.cells r e)) := by
      by_cases h0 : len * (U e).sz = 0
      · simp only [h0, if_true] at h1
        simp [execOp, ho, Instr.buildSlice, run_underlying hd, sizeOf_run hU hz, h0]
        simp at h1
        simp [h1, newRow]
        try rfl
      · simp only [h0, if_false] at h1
        have hz0 : (zeroValue e).run P c.w = .ok z c.w := by simp [zeroValue, typeInfo, hi1, hz1]
        have h24 : ¬ (len * (U e).sz > 2 ^ 24) := by omega
        simp only [execOp, ho, Instr.buildSlice, Sem.run_bind, run_underlying hd, sizeOf_run hU hz, Result.andThen_ok, h24, h0, if_false, hz0, Sem.run_pure]
        rw [h1]
        simp [newRow]
        try rfl
    refine ⟨_, { c with w := c.w.alloc (.cells r e) }, hrun, g.alloc _, Ext.alloc _ _, rfl, ?_⟩
    have := slNew g e (0, 0) r xs (U e).sz len (fun i j => r.getD (i * (U e).sz + j) undef) (by omega) (by simp only [lim]; have : len ≤ len * (U e).sz := Nat.le_mul_of_pos_right _ (by omega); omega)
      (fun i hi => by
        have := (hv i hi (by omega)).fits (fits_mem hft i hi)
        exact this.2.1) (fun i j hi hj => by
        have hlt : i * (U e).sz + j < r.size := by
          rw [h2]
          simp
          have : (i + 1) * (U e).sz ≤ len * (U e).sz := Nat.mul_le_mul_right _ (by omega)
          rw [Nat.add_mul, Nat.one_mul] at this
          omega
        simp [hlt]) (fun i hi j hj => by
        have hf := (hv i hi (by omega)).fits (fits_mem hft i hi)
        have hj' : j < (U e).sz := by rw [← hf.2.1]; exact hj
        have := h3 i (by omega) j hj'
        rw [Nat.zero_add] at this
        rw [this]
        exact hf.2.2.1 j hj) (fun i j hi hj => by
        have hf := (hv i hi (by omega)).fits (fits_mem hft i hi)
        have := h3 i (by omega) j hj
        rw [Nat.zero_add] at this
        rw [this]
        exact hf.2.2.2 j hj) .full (.inr ⟨rfl, hxlen.symm⟩)
    rwa [hxlen] at this
  · exact hp.elim

theorem places_run (hU : ∀ t, AgreeT P U t) (w : World) : ∀ (l : List Field), (∀ f ∈ l, (U f.type).sz ≠ 0) →
    (l.mapM fun (f : Field) => do pure (f.offset, ← sizeOf f.type)).run P w = .ok (l.map fun f => (f.offset, (U f.type).sz)) w
  | [], _ => by simp
  | f :: l, h => by
    have ih := places_run hU w l (fun g hg => h g (by simp [hg]))
    simp only [List.mapM_cons, Sem.run_bind, sizeOf_run hU (h f (by simp)), Result.andThen_ok, Sem.run_pure, ih, List.map_cons]

theorem withps_elim (hz : ∀ p ∈ ([] : List (Nat × TypeId)), True) {fs : List (Nat × TypeId)} (n : Nat) : ∀ (ps : List (Nat × Operand)) (cs : List AV) (k : List AV → Prop), withps U ρ fs ps cs k →
    ∃ cs', k cs' ∧ cs'.length = cs.length ∧ ∀ c a m, EnvSat c m ρ a → ∀ cells : Array Value, cells.size = cs.length → (∀ i (h : i < cs.length), Rep c cs[i] (cells.getD i undef)) → (∀ i, i < cs.length → (cells.getD i undef).oneCell' = true) →
      ∃ r : Array Value, Instr.fill ((fs.map fun p => (p.1, (U p.2).sz)).toArray[·]?) cells (ps.map fun p => (p.1, a.eval p.2)) = some r ∧ r.size = cs'.length ∧
        (∀ i (h : i < cs'.length), Rep c cs'[i] (r.getD i undef)) ∧ ∀ i, i < cs'.length → (r.getD i undef).oneCell' = true
  | [], cs, k, hp => ⟨cs, hp, rfl, fun c a m he cells h1 h2 h3 => ⟨cells, by simp [Instr.fill], h1, h2, h3⟩⟩
  | (i, x) :: ps, cs, k, hp => by
    simp only [withps] at hp
    split at hp
    · rename_i off t hf
      obtain ⟨hz0, hp⟩ := hp
      obtain ⟨y, hy, hfit, hb, hp⟩ := withv_elim hp
      obtain ⟨cs', hk, hl, hrest⟩ := withps_elim hz n ps _ k hp
      have hyl : y.cells.length = (U t).sz := by
        cases y with
        | agg cs => exact hfit
        | v x => exact hfit.2.symm
        | tup vs => exact hfit.elim
        | _ => exact (show _ = _ from hfit).symm
      have hov : (over cs off y.cells).length = cs.length := over_length (by omega)
      refine ⟨cs', hk, by omega, fun c a m he cells h1 h2 h3 => ?_⟩
      obtain ⟨f1, f2, f3, f4⟩ := (ev_rep he hy).fits hfit
      have hpl : ((fs.map fun p => (p.1, (U p.2).sz)).toArray[i]?) = some (off, (U t).sz) := by simp [hf]
      obtain ⟨r1, g1, g2, g3, g4⟩ := fill_cons (place := ((fs.map fun p => (p.1, (U p.2).sz)).toArray[·]?)) (cells := cells) (i := i) (v := a.eval x) (rest := ps.map fun p => (p.1, a.eval p.2)) hpl f1 (by omega)
      have key : ∀ j (hj : j < cs.length) (hj' : j < (over cs off y.cells).length), Rep c (over cs off y.cells)[j] (r1.getD j undef) ∧ (r1.getD j undef).oneCell' = true := fun j hj hj' => by
        by_cases hin : off ≤ j ∧ j < off + y.cells.length
        · obtain ⟨q, rfl⟩ : ∃ q, j = off + q := ⟨j - off, by omega⟩
          have hq : q < y.cells.length := by omega
          rw [over_in (by omega) hq, g3 q (by omega)]
          exact ⟨f3 q hq, f4 q (by omega)⟩
        · rw [over_out (by omega) hj (by omega), g4 j (by omega)]
          exact ⟨h2 j hj, h3 j hj⟩
      obtain ⟨r, k1, k2, k3, k4⟩ := hrest c a m he r1 (by omega) (fun j hj => (key j (by omega) hj).1) (fun j hj => (key j (by omega) hj).2)
      exact ⟨r, by rw [List.map_cons, g1]; exact k1, k2, k3, k4⟩
    · exact hp.elim

theorem sound_build {ty : TypeId} {parts : Array (Nat × Operand)} (hU : ∀ t, AgreeT P U t) (ho : o.op = .build ty parts) (hp : pv U ρ h (.build ty parts) k) : ∃ X, k X ∧ PureOK P o ρ h X := by
  simp only [pv] at hp
  have hd := (hU ty).desc
  split at hp
  · rename_i fs hty
    rw [hty] at hd
    obtain ⟨fields, hd, hfs, hnz⟩ := hd
    obtain ⟨hz, cs0, hz0, hp⟩ := hp
    obtain ⟨cs, hk, hl, hX⟩ := withps_elim (fun _ _ => trivial) 0 _ _ _ hp
    refine ⟨_, hk, .stay fun c a m hc g he => ?_⟩
    obtain ⟨i, hi1, hi2, _, z, hz1, hz2, hz3⟩ := (hU ty).info hz
    have hzr := hz3 c
    rw [hz0] at hzr
    obtain ⟨us, rfl, u1, u2, u3⟩ := hzr.agg_inv
    obtain ⟨r, r1, r2, r3, r4⟩ := hX c a m he us u1 u2 u3
    refine ⟨.agg r, ?_, .agg _ _ r2 r3 r4⟩
    have hz4 : (zeroValue ty).run P c.w = .ok (.agg us) c.w := by simp [zeroValue, typeInfo, hi1, hz1]
    have hpl := places_run (P := P) hU c.w fields.toList (fun f hf => by
      have := hnz (f.offset, f.type) (by rw [← hfs]; exact List.mem_map.2 ⟨f, hf, rfl⟩)
      exact this)
    have he1 : (fs.map fun p => (p.1, (U p.2).sz)) = fields.toList.map fun f => (f.offset, (U f.type).sz) := by
      rw [← hfs, List.map_map]; rfl
    rw [he1] at r1
    have he2 : (parts.map fun (i, x) => (i, a.eval x)).toList = parts.toList.map fun p => (p.1, a.eval p.2) := by simp
    simp only [execOp, ho, Instr.build, Sem.run_bind, run_underlying hd, hz4, Result.andThen_ok, Array.mapM_eq_mapM_toList, Sem.run_map, hpl, Value.cells, he2]
    rw [r1]
    simp
  · exact hp.elim

/-- ALL THE OPERATIONS THAT CHANGE NOTHING OWNED. -/
theorem pv_sound (hU : ∀ t, AgreeT P U t) (hp : pv U ρ h o.op k) : ∃ X, k X ∧ PureOK P o ρ h X := by
  generalize ho : o.op = op at hp
  cases op
  case move x => exact sound_move (.inl ho) hp
  case assign x => exact sound_move (.inr ho) hp
  case pick c a b => exact sound_pick ho hp
  case nilCheck x => exact sound_nilCheck ho hp
  case binOp => exact sound_binOp hU ho hp
  case unOp => exact sound_unOp ho hp
  case convert => exact sound_convert hU ho hp
  case field => exact sound_field hU ho hp
  case extract => exact sound_extract ho hp
  case index => exact sound_index hU ho hp
  case fieldAddr => exact sound_fieldAddr hU ho hp
  case indexAddr => exact sound_indexAddr hU ho hp
  case load => exact sound_load hU ho hp
  case slice => exact sound_slice hU ho hp
  case buildSlice => exact sound_buildSlice hU ho hp
  case build => exact sound_build hU ho hp
  case makeInterface => exact sound_makeInterface hU ho hp
  case makeFunc => exact sound_makeFunc ho hp
  case call c =>
    obtain ⟨callee, args, ts⟩ := c
    simp only [pv] at hp
    split at hp
    · rename_i x b
      cases b
      case len => exact sound_len hU ho hp
      case cap => exact sound_cap hU ho hp
      case min => exact sound_min ho hp
      case max => exact sound_max ho hp
      all_goals exact hp.elim
    · exact hp.elim
  all_goals exact hp.elim

end
end Go.Ab
