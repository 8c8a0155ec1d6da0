/- The operations that change what is owned: new variables, stores, appends. -/
import Derived.Test.YtidpcjblciompaaAb9
set_option linter.unusedSimpArgs false
set_option linter.unusedVariables false
namespace Go.Ab
open Go

section
variable {P : Program} {U : TypeId → TI}

/-- What has come of something: a value, a world, and what is known of both. -/
def Comes1 (c : Cx) (Q : AV → Heap → Prop) (u : Value) (w' : World) : Prop :=
  ∃ c' x h', c'.w = w' ∧ Good c' ∧ Ext c c' ∧ Rep c' x u ∧ Sub h' c'.h ∧ Q x h'

theorem cells_of {z : AV} (h : isAggA z = false) : z.cells = [z] := by
  cases z <;> simp [isAggA] at h <;> rfl

theorem take_append_get {α : Type} {xs ys : List α} {i : Nat} (h : i < xs.length) (h' : i < (xs ++ ys).length) : (xs ++ ys)[i] = xs[i] := List.getElem_append_left h

/-- Cells of an owned object written. -/
theorem fillObj_sound {c : Cx} {h : Heap} {id off : Nat} {cs xs : List AV} {t : TypeId} {vs : List Value} {u : Value} {X : AV} {Q : AV → Heap → Prop} (hs : Sub h c.h) (g : Good c) (hid : h id = some (.obj cs t)) (hl : vs.length = xs.length) (hb : off + xs.length ≤ cs.length)
    (hr : ∀ j (h : j < xs.length), Rep c xs[j] (vs.getD j undef) ∧ (vs.getD j undef).oneCell' = true) (hX : ∀ c', Ext c c' → Rep c' X u) (hQ : Q X (upd h id (some (.obj (over cs off xs) t)))) :
    (storeCells ⟨(c.φ id).block, off, none⟩ vs).run P c.w = .ok () (c.w.setCells (c.φ id).block off vs) ∧ Comes1 c Q u (c.w.setCells (c.φ id).block off vs) := by
  have hcid := hs _ _ hid
  obtain ⟨us, u1, u2, u3⟩ := g.obj id cs t hcid
  have hE := Ext.fill (c := c) id off vs (.obj cs t) (.obj (over cs off xs) t) hcid (Nat.zero_le _) (.inl ⟨_, _, _, rfl, rfl, over_length (by assumption)⟩)
  refine ⟨?_, c.fill id off vs (.obj (over cs off xs) t), X, _, rfl, g.fillObj id off vs cs xs t hcid hl hb hr, hE, hX _ hE, hs.upd id _, hQ⟩
  have := run_storeCells_cells (P := P) (c.φ id).block off vs 0 c.w (fun j hj => by
    simp [World.cell?, u1]
    omega) (fun j hj => by simp [World.frozen?, u1]) (fun v hv => by
      obtain ⟨j, hj, rfl⟩ := List.mem_iff_getElem.1 hv
      have := (hr j (by omega)).2
      simpa [List.getD, List.getElem?_eq_getElem hj] using this)
  simpa using this

/-- An append that makes a new object of the elements of old and new. -/
theorem growObj_sound {h : Heap} {ts tx ty e : TypeId} {y : AV} {Q : AV → Heap → Prop} {i : TypeInfo} {z : Value} {xs ys : List AV} {vx : Nat → Nat → Value} {a : Option Addr} {cap : Nat}
    (hd : P.underlying ts = some (.slice e)) (htx' : (∃ d, P.underlying tx = some (.slice d)) ∨ P.underlying tx = some .string) (i1 : P.info? e = some i) (i2 : i.size = (U e).sz) (i3 : i.bytes = (U e).bytes)
    (z1 : i.zero = some z) (z2 : z.cells.size = (U e).sz) (z3 : ∀ c, Rep c (U e).zero z) (c : Cx) (v : Value) (hs : Sub h c.h) (g : Good c) (hy : Rep c y v)
    (hsrc : ∀ c u, Sub h c.h → Good c → Rep c y u → Sized (U e).sz ys → ys.length < lim ∧ ∃ val, Row c ys (U e).sz val ∧ (∀ w, (Builtin.lenOf u).run P w = .ok ys.length w) ∧
      (Builtin.firstCells (U e).sz ys.length u).run P c.w = .ok (flatV (U e).sz ys.length val).toArray c.w)
    (hsy : Sized (U e).sz ys) (hb : (xs.length + ys.length) * (U e).bytes ≤ 140737488355328) (hby : (U e).bytes ≠ 0) (hbyte : xs.length + ys.length < lim) (rowx : Row c xs (U e).sz vx)
    (holds : (Builtin.firstCells i.size xs.length (.slice a xs.length cap)).run P c.w.drew = .ok (flatV (U e).sz xs.length vx).toArray c.w.drew) (hgr : cap < xs.length + ys.length)
    (hz1 : (U e).sz = 1) (hzf : fit (U e).zero 1) (hza : isAggA (U e).zero = false) (hna : ∀ z ∈ xs ++ ys, isAggA z = false)
    (hQ : ∀ id m, h id = none → Q (.oa id 0 (xs.length + ys.length)) (upd h id (some (.obj (xs ++ ys ++ List.replicate m (U e).zero) e)))) :
    ∃ r w', (Builtin.append_ #[ts, tx] ty #[.slice a xs.length cap, v]).run P c.w = .ok r w' ∧ Comes1 c Q r w' := by
  have hfr : ∀ id, c.h id = none → h id = none := fun id hid => by
    cases hh : h id with
    | none => rfl
    | some k => rw [hs _ _ hh] at hid; cases hid
  obtain ⟨id, hid⟩ := g.fresh
  have g1 : Good { c with w := c.w.drew } := g.draw rfl rfl rfl rfl
  have e1 : Ext c { c with w := c.w.drew } := Ext.draw rfl rfl rfl rfl
  obtain ⟨_, vy, rowy, hlen, hfirst⟩ := hsrc { c with w := c.w.drew } v hs g1 (hy.mono e1) hsy
  rw [← i2] at hfirst
  have hr := append_grow (ty := ty) hd htx' i1 z1 (hlen c.w) hfirst holds (by omega) (by rw [i3]; exact hb) (by rw [i3]; exact hby)
  obtain ⟨hcap1, hcap2⟩ := cap_lt c.w (xs.length + ys.length) cap e hbyte
  generalize hcp : grownCap c.w (xs.length + ys.length) cap e = ncap at hr hcap1 hcap2
  generalize hcells : (flatV (U e).sz xs.length vx).toArray ++ (flatV i.size ys.length vy).toArray ++ Builtin.zeroCells z.cells (ncap - (xs.length + ys.length)) = cells at hr
  rw [i2, hz1] at hcells
  rw [hz1] at rowx rowy z2
  have hcs : cells.size = ncap := by
    rw [← hcells]
    simp only [Array.size_append, List.size_toArray, flatV_length, size_zeroCells, z2]
    omega
  obtain ⟨f1, f2, f3, f4⟩ := (z3 { c with w := c.w.drew }).fits hzf
  have hzc := cells_of hza
  refine ⟨_, _, hr, ({ c with w := c.w.drew } : Cx).allocAt (.cells cells e) id ⟨c.w.heap.size, 0, none⟩ (.obj (xs ++ ys ++ List.replicate (ncap - (xs.length + ys.length)) (U e).zero) e), _, _, rfl, ?_,
    e1.trans (Ext.allocAt _ _ id _ _ rfl (.inl hid)), ?_, hs.upd id _, hQ id _ (hfr id hid)⟩
  · refine g1.allocAt _ _ (0, 0) id _ _ rfl (.inl hid) (fun cs t' hh => ?_) (fun n sz hh => by cases hh)
    cases hh
    refine ⟨rfl, rfl, by simp [hcs]; omega, fun j hj => ?_⟩
    have hj' : j < ncap := by simp at hj; omega
    by_cases hj1 : j < xs.length
    · have e2 : (xs ++ ys ++ List.replicate (ncap - (xs.length + ys.length)) (U e).zero)[j] = xs[j] := by
        rw [List.getElem_append_left (by simp; omega), List.getElem_append_left hj1]
      have e3 : cells.getD j undef = vx j 0 := by
        have h5 := flatV_get (val := vx) hj1 (show 0 < 1 by omega)
        rw [Nat.mul_one, Nat.add_zero] at h5
        rw [← hcells, Array.getD_eq_getD_getElem?, Array.getElem?_append_left (by simp [flatV_length]; omega), Array.getElem?_append_left (by simp [flatV_length]; omega)]
        simp [h5]
      rw [e2, e3]
      have hc1 := cells_of (hna xs[j] (List.mem_append_left _ (List.getElem_mem hj1)))
      have := rowx.hr j hj1 0 (by rw [hc1]; simp)
      simp only [hc1, List.getElem_cons_zero] at this
      exact ⟨this.mono e1, rowx.ho j 0 hj1 (by omega)⟩
    · by_cases hj2 : j < xs.length + ys.length
      · have hj3 : j - xs.length < ys.length := by omega
        have e2 : (xs ++ ys ++ List.replicate (ncap - (xs.length + ys.length)) (U e).zero)[j] = ys[j - xs.length] := by
          rw [List.getElem_append_left (by simp; omega), List.getElem_append_right (by omega)]
        have e3 : cells.getD j undef = vy (j - xs.length) 0 := by
          have h5 := flatV_get (val := vy) hj3 (show 0 < 1 by omega)
          rw [Nat.mul_one, Nat.add_zero] at h5
          rw [← hcells, Array.getD_eq_getD_getElem?, Array.getElem?_append_left (by simp [flatV_length]; omega), Array.getElem?_append_right (by simp [flatV_length]; omega)]
          simp [flatV_length, h5]
        rw [e2, e3]
        have hc1 := cells_of (hna ys[j - xs.length] (List.mem_append_right _ (List.getElem_mem hj3)))
        have := rowy.hr (j - xs.length) hj3 0 (by rw [hc1]; simp)
        simp only [hc1, List.getElem_cons_zero] at this
        exact ⟨this, rowy.ho _ 0 hj3 (by omega)⟩
      · have e2 : (xs ++ ys ++ List.replicate (ncap - (xs.length + ys.length)) (U e).zero)[j] = (U e).zero := by
          rw [List.getElem_append_right (by simp; omega)]
          simp
        have e3 : cells.getD j undef = z.cells.getD 0 undef := by
          rw [← hcells, Array.getD_eq_getD_getElem?, Array.getElem?_append_right (by simp [flatV_length]; omega)]
          have h6 : j - (xs.length + ys.length) < ncap - (xs.length + ys.length) := by omega
          simp only [Array.size_append, List.size_toArray, flatV_length, Nat.mul_one, Builtin.zeroCells, z2, Array.getElem?_map, Array.getElem?_range, h6, if_true, Option.map_some, Option.getD_some, Nat.mod_one]
          rw [getElem!_pos z.cells 0 (by omega), Array.getD, dif_pos (show 0 < z.cells.size by omega)]
          rfl
        rw [e2, e3]
        have := f3 0 (by rw [hzc]; simp)
        simp only [hzc, List.getElem_cons_zero] at this
        exact ⟨this, f4 0 (by omega)⟩
  · have := Rep.oa (c := ({ c with w := c.w.drew } : Cx).allocAt (.cells cells e) id ⟨c.w.heap.size, 0, none⟩ (.obj (xs ++ ys ++ List.replicate (ncap - (xs.length + ys.length)) (U e).zero) e)) id 0 (xs.length + ys.length) ncap 0 _ e
      (by simp [Cx.allocAt, upd_same]; rfl) (by omega) hcap2 (fun _ => ⟨rfl, by simp; omega⟩)
    simpa [Cx.allocAt, upd_same] using this

/-- An append. -/
theorem append_sound (hU : ∀ t, AgreeT P U t) {h : Heap} {ts tx ty : TypeId} {x y : AV} {Q : AV → Heap → Prop} (htx : notInt (U tx).k = true) (hk : vcAppend U h ts x y Q) (c : Cx) (u v : Value)
    (hs : Sub h c.h) (g : Good c) (hx : Rep c x u) (hy : Rep c y v) :
    ∃ r w', (Builtin.append_ #[ts, tx] ty #[u, v]).run P c.w = .ok r w' ∧ Comes1 c Q r w' := by
  unfold vcAppend at hk
  have hd := (hU ts).desc
  split at hk
  · rename_i e hty
    rw [hty] at hd
    obtain ⟨hz, hby, hk⟩ := hk
    have htx' : (∃ d, P.underlying tx = some (.slice d)) ∨ P.underlying tx = some .string := by
      have := (hU tx).desc
      cases hk : (U tx).k <;> rw [hk] at htx this <;> simp [notInt] at htx
      · exact .inr this
      · exact .inl ⟨_, this⟩
    obtain ⟨i, i1, i2, i3, z, z1, z2, z3⟩ := (hU e).info hz
    split at hk
    · rename_i xs p
      obtain ⟨ys, hk', hsrc⟩ := srcA_run (P := P) hz hk
      clear hk
      have hk := hk'
      clear hk'
      obtain ⟨hsx, hsy, hb, hk⟩ := hk
      obtain ⟨hyl, vy, rowy, hlen, hfirst⟩ := hsrc c v hs g hy hsy
      obtain ⟨a, cap, sz, vx, rfl, sl⟩ := hx.sl_inv
      have hcap := sl.hc
      have hcm := sl.hm
      have hbyte : (xs.length + ys.length) < lim := by
        have : (xs.length + ys.length) ≤ (xs.length + ys.length) * (U e).bytes := Nat.le_mul_of_pos_right _ (by omega)
        simp only [lim]; omega
      -- the cells of the old elements
      have holds : (Builtin.firstCells i.size xs.length (.slice a xs.length cap)).run P c.w.drew = .ok (flatV (U e).sz xs.length vx).toArray c.w.drew := by
        by_cases hxn : xs = []
        · subst hxn
          cases a <;> simp [Builtin.firstCells, flatV, loadCells, loadCellsFrom]
        · have hne : 0 < xs.length := List.length_pos_iff.2 hxn
          have e1 : sz = (U e).sz := by rw [← sl.hz 0 hne]; exact hsx _ (List.getElem_mem hne)
          subst e1
          obtain ⟨q, rfl⟩ : ∃ q, a = some q := by
            cases a with
            | none => have := sl.h0 rfl; omega
            | some q => exact ⟨q, rfl⟩
          obtain ⟨hq1, hq2⟩ := sl.hs q rfl (by omega)
          obtain ⟨bq, oq, sq⟩ := q
          simp only at hq1 hq2; subst hq1
          have := run_loadCells (P := P) c.w.drew ⟨bq, oq, none⟩ (xs.length * (U e).sz) (fun q => vx (q / (U e).sz) (q % (U e).sz)) (fun j hj => by
            have h1 : j / (U e).sz < xs.length := (Nat.div_lt_iff_lt_mul (by omega)).2 hj
            have h2 : j % (U e).sz < (U e).sz := Nat.mod_lt _ (by omega)
            have := (sl.hf _ rfl _ _ h1 h2).1
            rw [add_addr]
            rw [show j / (U e).sz * (U e).sz + j % (U e).sz = j from by rw [Nat.mul_comm]; exact Nat.div_add_mod j _] at this
            exact this)
          rw [i2]
          simpa [Builtin.firstCells, flatV] using this
      have rowx : Row c xs (U e).sz vx := by
        by_cases hxn : xs = []
        · subst hxn
          exact ⟨fun i hi => (by cases hi), fun i hi => (by cases hi), fun i j hi => (by cases hi)⟩
        · have hne : 0 < xs.length := List.length_pos_iff.2 hxn
          have e1 : sz = (U e).sz := by rw [← sl.hz 0 hne]; exact hsx _ (List.getElem_mem hne)
          subst e1
          exact ⟨sl.hz, sl.hr, sl.ho⟩
      -- a new row
      have grow : cap < xs.length + ys.length → ∀ id, (c.h id = none ∨ ∃ n m sz, c.h id = some (.spare n sz) ∧ Blk.spare (xs.length + ys.length) (U e).sz = .spare m sz ∧ n < m) →
          Q (.sl (xs ++ ys) (.own id)) (upd h id (some (.spare (xs.length + ys.length) (U e).sz))) →
          ∃ r w', (Builtin.append_ #[ts, tx] ty #[.slice a xs.length cap, v]).run P c.w = .ok r w' ∧ Comes1 c Q r w' := by
        intro hg id hid hQ
        have g1 : Good { c with w := c.w.drew } := g.draw rfl rfl rfl rfl
        have e1 : Ext c { c with w := c.w.drew } := Ext.draw rfl rfl rfl rfl
        obtain ⟨_, vy, rowy, hlen, hfirst⟩ := hsrc { c with w := c.w.drew } v hs g1 (hy.mono e1) hsy
        rw [← i2] at hfirst
        have hr := append_grow (ty := ty) hd htx' i1 z1 (hlen c.w) hfirst holds hg (by rw [i3]; exact hb) (by rw [i3]; exact hby)
        obtain ⟨hcap1, hcap2⟩ := cap_lt c.w (xs.length + ys.length) cap e hbyte
        generalize hcp : grownCap c.w (xs.length + ys.length) cap e = ncap at hr hcap1 hcap2
        generalize hcells : (flatV (U e).sz xs.length vx).toArray ++ (flatV i.size ys.length vy).toArray ++ Builtin.zeroCells z.cells (ncap - (xs.length + ys.length)) = cells at hr
        rw [i2] at hcells
        have hcs : cells.size = ncap * (U e).sz := by
          rw [← hcells]
          simp only [Array.size_append, List.size_toArray, flatV_length, size_zeroCells, z2, ← Nat.add_mul]
          congr 1
          omega
        refine ⟨_, _, hr, ({ c with w := c.w.drew } : Cx).allocAt (.cells cells e) id ⟨c.w.heap.size, 0, none⟩ (.spare (xs.length + ys.length) (U e).sz), _, _, rfl, ?_, ?_, ?_, hs.upd id _, hQ⟩
        · exact g1.allocAt _ _ _ id _ _ rfl hid (fun cs t' hh => by cases hh) (fun n sz hh => ⟨rfl, fun o ho => by simp⟩)
        · exact e1.trans (Ext.allocAt _ _ id _ _ rfl hid)
        · have hE := Ext.allocAt { c with w := c.w.drew } (.cells cells e) id ⟨c.w.heap.size, 0, none⟩ (.spare (xs.length + ys.length) (U e).sz) rfl hid
          have hE0 := e1.trans hE
          have hl : (xs ++ ys).length = xs.length + ys.length := by simp
          have e0 : Value.slice (some ⟨c.w.heap.size, 0, none⟩) (xs.length + ys.length) ncap = Value.slice (some ⟨c.w.heap.size, 0, none⟩) (xs ++ ys).length ncap := by rw [hl]
          rw [e0]
          refine .sl _ _ _ ncap (U e).sz (fun i j => if i < xs.length then vx i j else vy (i - xs.length) j) (by omega) hcap2 (fun hh => by cases hh)
            (fun q hq _ => by cases hq; exact ⟨rfl, by simp [Cx.allocAt]⟩) (fun i hi => ?_) (fun q hq i j hi hj => ?_) (fun i hi j hj => ?_) (fun i j hi hj => ?_) ?_
          · rw [List.getElem_append]
            split
            · exact rowx.hz _ _
            · exact rowy.hz _ _
          · cases hq
            refine ⟨?_, ?_⟩
            · have hnew : ((({ c with w := c.w.drew } : Cx).allocAt (.cells cells e) id ⟨c.w.heap.size, 0, none⟩ (.spare (xs.length + ys.length) (U e).sz)).w.cell? ⟨c.w.heap.size, 0 + (i * (U e).sz + j), none⟩) = cells[i * (U e).sz + j]? := by
                rw [Nat.zero_add]
                exact World.cell?_alloc_mark c.w.drew _ _ _ _
              rw [hnew, ← hcells, Array.getElem?_append_left, Array.getElem?_append]
              · simp only [List.size_toArray, flatV_length, List.getElem?_toArray]
                by_cases hix : i < xs.length
                · have : i * (U e).sz + j < xs.length * (U e).sz := by
                    have : (i + 1) * (U e).sz ≤ xs.length * (U e).sz := Nat.mul_le_mul_right _ (by omega)
                    rw [Nat.add_mul, Nat.one_mul] at this
                    omega
                  rw [if_pos this, if_pos hix]
                  exact flatV_get hix hj
                · have : ¬ (i * (U e).sz + j < xs.length * (U e).sz) := by
                    have : xs.length * (U e).sz ≤ i * (U e).sz := Nat.mul_le_mul_right _ (by omega)
                    omega
                  rw [if_neg this, if_neg hix]
                  have e2 : i * (U e).sz + j - xs.length * (U e).sz = (i - xs.length) * (U e).sz + j := by
                    have : xs.length * (U e).sz ≤ i * (U e).sz := Nat.mul_le_mul_right _ (by omega)
                    rw [Nat.sub_mul]
                    omega
                  rw [e2]
                  exact flatV_get (by omega) hj
              · simp only [Array.size_append, List.size_toArray, flatV_length, ← Nat.add_mul]
                have : (i + 1) * (U e).sz ≤ (xs.length + ys.length) * (U e).sz := Nat.mul_le_mul_right _ (by omega)
                rw [Nat.add_mul, Nat.one_mul] at this
                omega
            · rintro ⟨j', k', k1, k2, k3⟩
              by_cases ej : j' = id
              · subst ej
                simp only [Cx.allocAt, upd_same, Option.some.injEq] at k1 k2 k3
                subst k1
                simp only [Blk.start, Nat.zero_add] at k3
                have : (i + 1) * (U e).sz ≤ (xs.length + ys.length) * (U e).sz := Nat.mul_le_mul_right _ (by omega)
                rw [Nat.add_mul i, Nat.one_mul] at this
                omega
              · simp only [Cx.allocAt, upd_other _ _ ej] at k1 k2
                have := g.lt k1
                omega
          · have hi' : i < xs.length + ys.length := by omega
            by_cases hix : i < xs.length
            · simp only [if_pos hix]
              have e2 : (xs ++ ys)[i] = xs[i] := List.getElem_append_left hix
              simp only [e2] at hj ⊢
              exact (rowx.hr i hix j hj).mono hE0
            · simp only [if_neg hix]
              have e2 : (xs ++ ys)[i] = ys[i - xs.length] := List.getElem_append_right (by omega)
              simp only [e2] at hj ⊢
              exact (rowy.hr (i - xs.length) (by omega) j hj).mono hE
          · by_cases hix : i < xs.length
            · simp only [if_pos hix]; exact rowx.ho i j hix hj
            · simp only [if_neg hix]; exact rowy.ho (i - xs.length) j (by omega) hj
          · refine ⟨xs.length + ys.length, by simp [Cx.allocAt, upd_same], by omega, fun _ => ⟨_, rfl, by simp [Cx.allocAt, upd_same], cells, e, (0, 0), ?_, ?_⟩⟩
            · exact heap_alloc_new c.w.drew _
            · simp [hcs]
      split at hk
      · exact hk.elim
      · obtain ⟨hk1, hk2⟩ := hk
        have hcapn : cap = xs.length := sl.hp
        by_cases hyn : ys = []
        · subst hyn
          have hr := append_room (ty := ty) hd htx' i1 (hlen c.w) (by rw [i2]; exact hfirst) (base := a) (n := xs.length) (cap := cap) (by simp; omega)
          refine ⟨_, _, ?_, c, _, h, rfl, g, .refl c, sl.rep, hs, hk1 rfl⟩
          rw [hr]
          cases a <;> simp [flatV, storeCells]
        · have hpos : 0 < ys.length := List.length_pos_iff.2 hyn
          have hfr : ∀ id, c.h id = none → h id = none := fun id hid => by
            cases hh : h id with
            | none => rfl
            | some k => rw [hs _ _ hh] at hid; cases hid
          rcases hk2 hyn with hk2 | ⟨hz1, hzf, hza, hna, hQ⟩
          · obtain ⟨id, hid⟩ := g.fresh
            exact grow (by omega) id (.inl hid) (hk2 id (hfr id hid))
          · obtain ⟨id, hid⟩ := g.fresh
            have g1 : Good { c with w := c.w.drew } := g.draw rfl rfl rfl rfl
            have e1 : Ext c { c with w := c.w.drew } := Ext.draw rfl rfl rfl rfl
            obtain ⟨_, vy, rowy, hlen, hfirst⟩ := hsrc { c with w := c.w.drew } v hs g1 (hy.mono e1) hsy
            rw [← i2] at hfirst
            have hr := append_grow (ty := ty) hd htx' i1 z1 (hlen c.w) hfirst holds (by omega) (by rw [i3]; exact hb) (by rw [i3]; exact hby)
            obtain ⟨hcap1, hcap2⟩ := cap_lt c.w (xs.length + ys.length) cap e hbyte
            generalize hcp : grownCap c.w (xs.length + ys.length) cap e = ncap at hr hcap1 hcap2
            generalize hcells : (flatV (U e).sz xs.length vx).toArray ++ (flatV i.size ys.length vy).toArray ++ Builtin.zeroCells z.cells (ncap - (xs.length + ys.length)) = cells at hr
            rw [i2, hz1] at hcells
            rw [hz1] at rowx rowy z2
            have hcs : cells.size = ncap := by
              rw [← hcells]
              simp only [Array.size_append, List.size_toArray, flatV_length, size_zeroCells, z2]
              omega
            obtain ⟨f1, f2, f3, f4⟩ := (z3 { c with w := c.w.drew }).fits hzf
            have hzc := cells_of hza
            refine ⟨_, _, hr, ({ c with w := c.w.drew } : Cx).allocAt (.cells cells e) id ⟨c.w.heap.size, 0, none⟩ (.obj (xs ++ ys ++ List.replicate (ncap - (xs.length + ys.length)) (U e).zero) e), _, _, rfl, ?_,
              e1.trans (Ext.allocAt _ _ id _ _ rfl (.inl hid)), ?_, hs.upd id _, hQ id _ (hfr id hid)⟩
            · refine g1.allocAt _ _ (0, 0) id _ _ rfl (.inl hid) (fun cs t' hh => ?_) (fun n sz hh => by cases hh)
              cases hh
              refine ⟨rfl, rfl, by simp [hcs]; omega, fun j hj => ?_⟩
              have hj' : j < ncap := by simp at hj; omega
              by_cases hj1 : j < xs.length
              · have e2 : (xs ++ ys ++ List.replicate (ncap - (xs.length + ys.length)) (U e).zero)[j] = xs[j] := by
                  rw [List.getElem_append_left (by simp; omega), List.getElem_append_left hj1]
                have e3 : cells.getD j undef = vx j 0 := by
                  have h5 := flatV_get (val := vx) hj1 (show 0 < 1 by omega)
                  rw [Nat.mul_one, Nat.add_zero] at h5
                  rw [← hcells, Array.getD_eq_getD_getElem?, Array.getElem?_append_left (by simp [flatV_length]; omega), Array.getElem?_append_left (by simp [flatV_length]; omega)]
                  simp [h5]
                rw [e2, e3]
                have hc1 := cells_of (hna xs[j] (List.mem_append_left _ (List.getElem_mem hj1)))
                have := rowx.hr j hj1 0 (by rw [hc1]; simp)
                simp only [hc1, List.getElem_cons_zero] at this
                exact ⟨this.mono e1, rowx.ho j 0 hj1 (by omega)⟩
              · by_cases hj2 : j < xs.length + ys.length
                · have hj3 : j - xs.length < ys.length := by omega
                  have e2 : (xs ++ ys ++ List.replicate (ncap - (xs.length + ys.length)) (U e).zero)[j] = ys[j - xs.length] := by
                    rw [List.getElem_append_left (by simp; omega), List.getElem_append_right (by omega)]
                  have e3 : cells.getD j undef = vy (j - xs.length) 0 := by
                    have h5 := flatV_get (val := vy) hj3 (show 0 < 1 by omega)
                    rw [Nat.mul_one, Nat.add_zero] at h5
                    rw [← hcells, Array.getD_eq_getD_getElem?, Array.getElem?_append_left (by simp [flatV_length]; omega), Array.getElem?_append_right (by simp [flatV_length]; omega)]
                    simp [flatV_length, h5]
                  rw [e2, e3]
                  have hc1 := cells_of (hna ys[j - xs.length] (List.mem_append_right _ (List.getElem_mem hj3)))
                  have := rowy.hr (j - xs.length) hj3 0 (by rw [hc1]; simp)
                  simp only [hc1, List.getElem_cons_zero] at this
                  exact ⟨this, rowy.ho _ 0 hj3 (by omega)⟩
                · have e2 : (xs ++ ys ++ List.replicate (ncap - (xs.length + ys.length)) (U e).zero)[j] = (U e).zero := by
                    rw [List.getElem_append_right (by simp; omega)]
                    simp
                  have e3 : cells.getD j undef = z.cells.getD 0 undef := by
                    rw [← hcells, Array.getD_eq_getD_getElem?, Array.getElem?_append_right (by simp [flatV_length]; omega)]
                    have h6 : j - (xs.length + ys.length) < ncap - (xs.length + ys.length) := by omega
                    simp only [Array.size_append, List.size_toArray, flatV_length, Nat.mul_one, Builtin.zeroCells, z2, Array.getElem?_map, Array.getElem?_range, h6, if_true, Option.map_some, Option.getD_some, Nat.mod_one]
                    rw [getElem!_pos z.cells 0 (by omega), Array.getD, dif_pos (show 0 < z.cells.size by omega)]
                    rfl
                  rw [e2, e3]
                  have := f3 0 (by rw [hzc]; simp)
                  simp only [hzc, List.getElem_cons_zero] at this
                  exact ⟨this, f4 0 (by omega)⟩
            · have := Rep.oa (c := ({ c with w := c.w.drew } : Cx).allocAt (.cells cells e) id ⟨c.w.heap.size, 0, none⟩ (.obj (xs ++ ys ++ List.replicate (ncap - (xs.length + ys.length)) (U e).zero) e)) id 0 (xs.length + ys.length) ncap 0 _ e
                (by simp [Cx.allocAt, upd_same]; rfl) (by omega) hcap2 (fun _ => ⟨rfl, by simp; omega⟩)
              simpa [Cx.allocAt, upd_same] using this
      · rename_i id
        obtain ⟨hid, hk⟩ := hk
        have hcid := hs _ _ hid
        obtain ⟨m, p1, p2, p3⟩ := sl.hp
        rw [hcid] at p1
        simp only [Option.some.injEq, Blk.spare.injEq] at p1
        obtain ⟨rfl, rfl⟩ := p1
        obtain ⟨q, rfl, hφ, cs, t, fr, q1, q2⟩ := p3 rfl
        have hq1 : q.spot = none := by rw [← hφ]; exact (g.spare id _ _ hcid).1
        have hq2 : q.block < c.w.heap.size := (Array.getElem?_eq_some_iff.1 q1).1
        by_cases hroom : xs.length + ys.length ≤ cap
        · have hr := append_room (ty := ty) hd htx' i1 (hlen c.w) (by rw [i2]; exact hfirst) (base := some q) (n := xs.length) (cap := cap) hroom
          obtain ⟨bq, oq, sq⟩ := q
          simp only at hq1 hq2 q1 q2; subst hq1
          rw [i2] at hr
          simp only [add_addr] at hr
          have hcap' : (xs.length + ys.length) * (U e).sz ≤ cap * (U e).sz := Nat.mul_le_mul_right _ hroom
          rw [Nat.add_mul] at hcap'
          obtain ⟨_, cs1, t1, fr1, s1, s2⟩ := g.spare id _ _ hcid
          have hb1 : (c.φ id).block = bq := by rw [hφ]
          have ho1 : (c.φ id).off = oq := by rw [hφ]
          rw [hb1, q1] at s1
          cases s1
          rw [ho1] at s2
          have hst := run_storeCells_cells (P := P) bq (oq + xs.length * (U e).sz) (flatV (U e).sz ys.length vy) 0 c.w (fun j hj => by
            rw [flatV_length] at hj
            simp [World.cell?, q1]
            omega) (fun j hj => by
            have := s2 (oq + xs.length * (U e).sz + 0 + j) (by omega)
            simp only [World.frozen?, q1]
            simpa using this) (flatV_one rowy (by omega))
          rw [Nat.add_zero] at hst
          simp only [hst, Result.andThen_ok] at hr
          by_cases hyn : ys = []
          · subst hyn
            refine ⟨_, _, hr, c, _, _, by simp [flatV, World.setCells], g, .refl c, ?_, ?_, hk⟩
            · simpa using sl.rep
            · intro j l hj
              by_cases ej : j = id
              · subst ej
                rw [upd_same] at hj
                simp only [List.length_nil, Nat.add_zero] at hj
                rw [hcid]; exact hj
              · rw [upd_other _ _ ej] at hj
                exact hs _ _ hj
          · have hypos : 0 < ys.length := List.length_pos_iff.2 hyn
            have hfill : (c.fill id (oq + xs.length * (U e).sz) (flatV (U e).sz ys.length vy) (.spare (xs.length + ys.length) (U e).sz)).w = c.w.setCells bq (oq + xs.length * (U e).sz) (flatV (U e).sz ys.length vy) := by
              simp only [Cx.fill, hb1]
            have hE := Ext.fill (c := c) id (oq + xs.length * (U e).sz) (flatV (U e).sz ys.length vy) (.spare xs.length (U e).sz) (.spare (xs.length + ys.length) (U e).sz) hcid
              (by simp only [Blk.start]; omega) (.inr ⟨_, _, _, rfl, rfl, by omega⟩)
            have hG := g.fillSpare id (oq + xs.length * (U e).sz) (flatV (U e).sz ys.length vy) xs.length (xs.length + ys.length) (U e).sz hcid (by omega) (by omega)
            refine ⟨_, _, hr, c.fill id (oq + xs.length * (U e).sz) (flatV (U e).sz ys.length vy) (.spare (xs.length + ys.length) (U e).sz), _, _, hfill, hG, hE, ?_, hs.upd id _, hk⟩
            have hl : (xs ++ ys).length = xs.length + ys.length := by simp
            have e0 : Value.slice (some ⟨bq, oq, none⟩) (xs.length + ys.length) cap = Value.slice (some ⟨bq, oq, none⟩) (xs ++ ys).length cap := by rw [hl]
            rw [e0]
            have hown : ∀ x, (owned (c.fill id (oq + xs.length * (U e).sz) (flatV (U e).sz ys.length vy) (.spare (xs.length + ys.length) (U e).sz)) bq x) → oq + (xs.length + ys.length) * (U e).sz ≤ x := by
              rintro x ⟨j', k', k1, k2, k3⟩
              by_cases ej : j' = id
              · subst ej
                simp only [Cx.fill, upd_same, Option.some.injEq] at k1 k2 k3
                subst k1
                simp only [Blk.start] at k3
                rw [ho1] at k3
                exact k3
              · simp only [Cx.fill, upd_other _ _ ej] at k1 k2
                exact (g.inj j' id _ _ k1 hcid ej (k2.trans hb1.symm)).elim
            refine .sl _ _ _ cap (U e).sz (fun i j => if i < xs.length then vx i j else vy (i - xs.length) j) (by omega) hcm (fun hh => by cases hh)
              (fun q hq _ => by cases hq; exact ⟨rfl, by rw [hfill, size_setCells]; exact hq2⟩) (fun i hi => ?_) (fun q hq i j hi hj => ?_) (fun i hi j hj => ?_) (fun i j hi hj => ?_) ?_
            · rw [List.getElem_append]
              split
              · exact rowx.hz _ _
              · exact rowy.hz _ _
            · cases hq
              have hi2 : (i + 1) * (U e).sz ≤ (xs.length + ys.length) * (U e).sz := Nat.mul_le_mul_right _ (by omega)
              rw [Nat.add_mul i, Nat.one_mul] at hi2
              refine ⟨?_, fun ho => ?_⟩
              · rw [hfill]
                by_cases hix : i < xs.length
                · have : (i + 1) * (U e).sz ≤ xs.length * (U e).sz := Nat.mul_le_mul_right _ (by omega)
                  rw [Nat.add_mul, Nat.one_mul] at this
                  rw [if_pos hix, World.cell?_setCells_out _ _ _ _ _ (fun _ _ => .inl (by simp only; omega))]
                  exact (sl.hf _ rfl i j hix hj).1
                · have h5 : xs.length * (U e).sz ≤ i * (U e).sz := Nat.mul_le_mul_right _ (by omega)
                  have h6 : oq + (i * (U e).sz + j) = oq + xs.length * (U e).sz + ((i - xs.length) * (U e).sz + j) := by
                    rw [Nat.sub_mul]; omega
                  have h7 : (i - xs.length) * (U e).sz + j < ys.length * (U e).sz := by
                    have : (i - xs.length + 1) * (U e).sz ≤ ys.length * (U e).sz := Nat.mul_le_mul_right _ (by omega)
                    rw [Nat.add_mul, Nat.one_mul] at this
                    omega
                  rw [if_neg hix]
                  simp only [h6]
                  rw [World.cell?_setCells_in bq _ _ c.w (fun j hj => by
                    rw [flatV_length] at hj
                    have : oq + xs.length * (U e).sz + j < cs.size := by omega
                    simp [World.cell?, q1, this]) _ (by rw [flatV_length]; exact h7)]
                  have := flatV_get (val := vy) (show i - xs.length < ys.length by omega) hj
                  rw [List.getElem?_eq_getElem (by rw [flatV_length]; exact h7)] at this
                  exact this
              · have := hown _ ho
                simp only at this
                omega
            · have hi' : i < xs.length + ys.length := by omega
              by_cases hix : i < xs.length
              · simp only [if_pos hix]
                have e2 : (xs ++ ys)[i] = xs[i] := List.getElem_append_left hix
                simp only [e2] at hj ⊢
                exact (rowx.hr i hix j hj).mono hE
              · simp only [if_neg hix]
                have e2 : (xs ++ ys)[i] = ys[i - xs.length] := List.getElem_append_right (by omega)
                simp only [e2] at hj ⊢
                exact (rowy.hr (i - xs.length) (by omega) j hj).mono hE
            · by_cases hix : i < xs.length
              · simp only [if_pos hix]; exact rowx.ho i j hix hj
              · simp only [if_neg hix]; exact rowy.ho (i - xs.length) j (by omega) hj
            · obtain ⟨cs2, r1, r2⟩ := heap_setCells_same bq (flatV (U e).sz ys.length vy) (oq + xs.length * (U e).sz) c.w cs t fr q1
              exact ⟨xs.length + ys.length, by simp [Cx.fill, upd_same], by omega, fun _ => ⟨_, rfl, by simp only [Cx.fill]; exact hφ, cs2, t, fr, by rw [hfill]; exact r1, by simp only; omega⟩⟩
        · exact grow (by omega) id (.inr ⟨_, _, _, hcid, rfl, by omega⟩) hk
    · rename_i id off len
      obtain ⟨hz1, hk⟩ := hk
      obtain ⟨ys, hk', hsrc⟩ := srcA_run (P := P) hz hk
      clear hk
      obtain ⟨hsy, hna, hb, hk⟩ := hk'
      split at hk
      · rename_i cs t hid
        obtain ⟨hle, hnx, hzf, hza, hQ1, hQ2⟩ := hk
        have hcid := hs _ _ hid
        have hsy' : Sized (U e).sz ys := by rw [hz1]; exact hsy
        obtain ⟨cap, o', rfl, hc1, hc2, _, cs', t', hcs, hcp⟩ := hx.oa_inv
        rw [hcid] at hcs
        simp only [Option.some.injEq, Blk.obj.injEq] at hcs
        obtain ⟨rfl, rfl⟩ := hcs
        obtain ⟨us, u1, u2, u3⟩ := g.obj id cs t hcid
        obtain ⟨hyl, vy, rowy, hlen, hfirst⟩ := hsrc c v hs g hy hsy'
        have hbyte : len + ys.length < lim := by
          have : (len + ys.length) ≤ (len + ys.length) * (U e).bytes := Nat.le_mul_of_pos_right _ (by omega)
          simp only [lim]; omega
        have hcellsy : ∀ i (hi : i < ys.length), ys[i].cells = [ys[i]] := fun i hi => cells_of (hna _ (List.getElem_mem hi))
        by_cases hroom : len + ys.length ≤ cap
        · have hr := append_room (ty := ty) hd htx' i1 (hlen c.w) (by rw [i2]; exact hfirst) (base := some ⟨(c.φ id).block, o', none⟩) (n := len) (cap := cap) hroom
          rw [i2, hz1, Nat.mul_one] at hr
          simp only [add_addr] at hr
          by_cases hyn : ys = []
          · subst hyn
            refine ⟨_, _, hr, c, .oa id off (len + 0), _, ?_, g, .refl c, .oa id off len cap o' cs t hcid (by omega) hc2 hcp, ?_, hQ1 (by simpa using hle)⟩
            · simp [flatV, storeCells]
            · intro j l hj
              by_cases ej : j = id
              · subst ej
                rw [upd_same] at hj
                rw [hcid, ← hj]
                simp [over]
              · rw [upd_other _ _ ej] at hj
                exact hs _ _ hj
          · have hypos : 0 < ys.length := List.length_pos_iff.2 hyn
            obtain ⟨rfl, hcl⟩ := hcp (by omega)
            have hget : ∀ j, j < ys.length → (flatV 1 ys.length vy).getD j undef = vy j 0 := fun j hj => by
              have := flatV_get (sz := 1) (n := ys.length) (val := vy) hj (show 0 < 1 by omega)
              rw [Nat.mul_one, Nat.add_zero] at this
              simp [List.getD, this]
            rw [hz1] at rowy
            obtain ⟨s1, s2⟩ := fillObj_sound (P := P) (off := o' + len) (xs := ys) (vs := flatV 1 ys.length vy) (u := .slice (some ⟨(c.φ id).block, o', none⟩) (len + ys.length) cap) (X := .oa id o' (len + ys.length)) hs g hid (by simp [flatV_length]) (by omega)
              (fun j hj => by
                rw [hget j hj]
                have := rowy.hr j hj 0 (by rw [hcellsy j hj]; simp)
                simp only [hcellsy j hj, List.getElem_singleton] at this
                exact ⟨this, rowy.ho j 0 hj (by omega)⟩) (fun c' hE => (Rep.oa id o' (len + ys.length) cap o' cs t hcid hroom hc2 (fun _ => ⟨rfl, hcl⟩)).mono hE) (hQ1 (by omega))
            rw [s1] at hr
            exact ⟨_, _, hr, s2⟩
        · -- new memory
          have hxl : ((cs.drop off).take len).length = len := by rw [List.length_take, List.length_drop]; omega
          have hcx : ∀ i (hi : i < ((cs.drop off).take len).length), ((cs.drop off).take len)[i].cells = [((cs.drop off).take len)[i]] := fun i hi => cells_of (hnx _ (List.getElem_mem hi))
          have rowx : Row c ((cs.drop off).take len) (U e).sz (fun i _ => us.getD (off + i) undef) := by
            refine ⟨fun i hi => by rw [hcx i hi, hz1]; rfl, fun i hi j hj => ?_, fun i j hi hj => (u3 (off + i) (by omega)).2⟩
            have hj' := hj
            rw [hcx i hi] at hj'
            have ej : j = 0 := by simp only [List.length_singleton] at hj'; omega
            subst ej
            have e1 : ((cs.drop off).take len)[i].cells[0] = cs[off + i]'(by omega) := by
              simp only [hcx i hi, List.getElem_singleton]
              simp
            rw [e1]
            exact (u3 (off + i) (by omega)).1
          have holds : (Builtin.firstCells i.size ((cs.drop off).take len).length (.slice (some ⟨(c.φ id).block, o', none⟩) ((cs.drop off).take len).length cap)).run P c.w.drew = .ok (flatV (U e).sz ((cs.drop off).take len).length (fun i _ => us.getD (off + i) undef)).toArray c.w.drew := by
            rw [i2, hz1, hxl]
            by_cases h0 : len = 0
            · subst h0
              simp [Builtin.firstCells, flatV, loadCells, loadCellsFrom]
            · obtain ⟨rfl, _⟩ := hcp (by omega)
              have hd1 : c.w.drew.heap = c.w.heap := rfl
              have := run_loadCells (P := P) c.w.drew ⟨(c.φ id).block, o', none⟩ (len * 1) (fun q => us.getD (o' + q / 1) undef) (fun j hj => by
                rw [add_addr]
                have : o' + j < us.size := by omega
                simp [World.cell?, hd1, u1, this])
              simpa [Builtin.firstCells, flatV] using this
          have := growObj_sound (P := P) (U := U) (tx := tx) (ty := ty) (Q := Q) (a := some ⟨(c.φ id).block, o', none⟩) (cap := cap) hd htx' i1 i2 i3 z1 z2 z3 c v hs g hy hsrc hsy' (by rw [hxl]; exact hb) hby (by rw [hxl]; exact hbyte) rowx holds (by rw [hxl]; omega) hz1 hzf hza
            (fun z hz => (List.mem_append.1 hz).elim (hnx z) (hna z)) (by rw [hxl]; exact hQ2)
          rwa [hxl] at this
      · exact hk.elim
    · exact hk.elim
  · exact hk.elim

end
end Go.Ab
