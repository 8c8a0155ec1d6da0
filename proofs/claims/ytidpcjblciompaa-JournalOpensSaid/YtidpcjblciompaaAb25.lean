/- What an argument of plain data stands for: out of the reading of its memory. -/
import Derived.Test.YtidpcjblciompaaAb24
import Derived.OpenShut
set_option linter.unusedSimpArgs false
set_option linter.unusedVariables false
namespace Go.Ab
open Go

section
variable {P : Program} {U : TypeId → TI}

/-- A value of a type of plain data. -/
inductive Dat (U : TypeId → TI) : TypeId → AV → Prop
  | bool {t : TypeId} (b : Bool) (h : (U t).k = .bool) : Dat U t (.v (.bool b))
  | int {t : TypeId} {k : IntKind} (n : Int) (h : (U t).k = .int k) (hw : (Lit.int k n).wf = true) : Dat U t (.v (.int k n))
  | str {t : TypeId} (l : List UInt8) (h : (U t).k = .str) (hl : l.length ≤ maxLen) : Dat U t (.s l)
  | slice {t e : TypeId} (xs : List AV) (h : (U t).k = .slice e) (hx : ∀ x ∈ xs, Dat U e x) (hl : xs.length ≤ maxLen) : Dat U t (.sl xs .no)
  | strct {t : TypeId} {fs : List (Nat × TypeId)} (ys : List AV) (h : (U t).k = .strct fs) (hn : ys.length = fs.length) (hx : ∀ i (h1 : i < fs.length) (h2 : i < ys.length), Dat U fs[i].2 ys[i]) : Dat U t (.agg (ys.map AV.cells).flatten)

theorem Dat.bool_inv {t : TypeId} {x : AV} (h : Dat U t x) (hk : (U t).k = .bool) : ∃ b, x = .v (.bool b) := by
  cases h with
  | bool b h => exact ⟨b, rfl⟩
  | _ => simp_all
theorem Dat.int_inv {t : TypeId} {x : AV} {k : IntKind} (h : Dat U t x) (hk : (U t).k = .int k) : ∃ n, x = .v (.int k n) ∧ (Lit.int k n).wf = true := by
  cases h with
  | int n h hw => rw [hk] at h; cases h; exact ⟨n, rfl, hw⟩
  | _ => simp_all
theorem Dat.str_inv {t : TypeId} {x : AV} (h : Dat U t x) (hk : (U t).k = .str) : ∃ l, x = .s l ∧ l.length ≤ maxLen := by
  cases h with
  | str l h hl => exact ⟨l, rfl, hl⟩
  | _ => simp_all
theorem Dat.slice_inv {t e : TypeId} {x : AV} (h : Dat U t x) (hk : (U t).k = .slice e) : ∃ xs, x = .sl xs .no ∧ xs.length ≤ maxLen ∧ ∀ y ∈ xs, Dat U e y := by
  cases h with
  | slice xs h hx hl => rw [hk] at h; cases h; exact ⟨xs, rfl, hl, hx⟩
  | _ => simp_all
/-- A row of values, each of its type. -/
def DatAll (U : TypeId → TI) : List TypeId → List AV → Prop
  | [], ys => ys = []
  | t :: ts, ys => ∃ y r, ys = y :: r ∧ Dat U t y ∧ DatAll U ts r
theorem datAll_of : ∀ (fs : List (Nat × TypeId)) (ys : List AV), ys.length = fs.length → (∀ i (h1 : i < fs.length) (h2 : i < ys.length), Dat U fs[i].2 ys[i]) → DatAll U (fs.map (·.2)) ys
  | [], ys, h, _ => List.length_eq_zero_iff.1 h
  | f :: fs, [], h, _ => by cases h
  | f :: fs, y :: ys, h, hx => ⟨y, ys, rfl, hx 0 (by simp) (by simp), datAll_of fs ys (by simpa using h) fun i h1 h2 => hx (i + 1) (by simpa using h1) (by simpa using h2)⟩
theorem Dat.strct_inv {t : TypeId} {x : AV} {fs : List (Nat × TypeId)} (h : Dat U t x) (hk : (U t).k = .strct fs) : ∃ ys, x = .agg (ys.map AV.cells).flatten ∧ DatAll U (fs.map (·.2)) ys := by
  cases h with
  | strct ys h hn hx => rw [hk] at h; cases h; exact ⟨ys, rfl, datAll_of _ _ hn hx⟩
  | _ => simp_all

theorem wf64 {n : Int} (h : (Lit.int .i64 n).wf = true) : -9223372036854775808 ≤ n ∧ n ≤ 9223372036854775807 := by
  simpa [Lit.wf, IntKind.min, IntKind.max, IntKind.signed, IntKind.bits] using h
theorem wf8 {n : Int} (h : (Lit.int .u8 n).wf = true) : ∃ c : UInt8, n = c.toNat := by
  have hr : 0 ≤ n ∧ n ≤ 255 := by simpa [Lit.wf, IntKind.min, IntKind.max, IntKind.signed, IntKind.bits] using h
  refine ⟨UInt8.ofNat n.toNat, ?_⟩
  rw [UInt8.toNat_ofNat']
  omega
theorem Dat.i64 {t : TypeId} {x : AV} (h : Dat U t x) (hk : (U t).k = .int .i64) : ∃ n, x = iA n ∧ -9223372036854775808 ≤ n ∧ n ≤ 9223372036854775807 := by
  obtain ⟨n, rfl, hw⟩ := h.int_inv hk
  exact ⟨n, rfl, wf64 hw⟩
theorem Dat.u8 {t : TypeId} {x : AV} (h : Dat U t x) (hk : (U t).k = .int .u8) : ∃ c : UInt8, x = byteA c := by
  obtain ⟨n, rfl, hw⟩ := h.int_inv hk
  obtain ⟨c, rfl⟩ := wf8 hw
  exact ⟨c, rfl⟩
theorem Dat.list {t e : TypeId} {x : AV} {β : Type} {f : β → AV} {p : β → Prop} (h : Dat U t x) (hk : (U t).k = .slice e) (he : ∀ y, Dat U e y → ∃ b, y = f b ∧ p b) : ∃ bs : List β, x = .sl (bs.map f) .no ∧ bs.length ≤ maxLen ∧ ∀ b ∈ bs, p b := by
  obtain ⟨xs, rfl, hl, hx⟩ := h.slice_inv hk
  obtain ⟨bs, rfl, hb⟩ := choose_map xs fun y hy => he y (hx y hy)
  exact ⟨bs, rfl, by simpa using hl, hb⟩
theorem Dat.bytes {t e : TypeId} {x : AV} (h : Dat U t x) (hk : (U t).k = .slice e) (he : (U e).k = .int .u8) : ∃ l : List UInt8, x = .sl (l.map byteA) .no ∧ l.length ≤ maxLen := by
  obtain ⟨l, h1, h2, _⟩ := h.list (f := byteA) (p := fun _ => True) hk fun y hy => by obtain ⟨c, hc⟩ := hy.u8 he; exact ⟨c, hc, trivial⟩
  exact ⟨l, h1, h2⟩
theorem Dat.ints {t e : TypeId} {x : AV} (h : Dat U t x) (hk : (U t).k = .slice e) (he : (U e).k = .int .i64) : ∃ l : List Int, x = .sl (l.map iA) .no ∧ l.length ≤ maxLen ∧ ∀ n ∈ l, -9223372036854775808 ≤ n ∧ n ≤ 9223372036854775807 :=
  h.list hk fun y hy => hy.i64 he

/-- Cell by cell. -/
def RL (c : Cx) : List AV → List Value → Prop
  | [], vs => vs = []
  | x :: xs, [] => False
  | x :: xs, v :: vs => (Rep c x v ∧ v.oneCell' = true) ∧ RL c xs vs
theorem RL.len {c : Cx} : ∀ {xs : List AV} {vs : List Value}, RL c xs vs → xs.length = vs.length
  | [], vs, h => by rw [h]; rfl
  | x :: xs, [], h => h.elim
  | x :: xs, v :: vs, h => by simp [RL.len h.2]
theorem RL.get {c : Cx} : ∀ {xs : List AV} {vs : List Value}, RL c xs vs → ∀ i (h : i < xs.length), Rep c xs[i] (vs.getD i undef) ∧ (vs.getD i undef).oneCell' = true
  | [], vs, h, i, hi => by cases hi
  | x :: xs, [], h, i, hi => h.elim
  | x :: xs, v :: vs, h, 0, hi => h.1
  | x :: xs, v :: vs, h, i + 1, hi => by simpa using RL.get h.2 i (by simpa using hi)
theorem RL.append {c : Cx} : ∀ {xs ys : List AV} {vs us : List Value}, RL c xs vs → RL c ys us → RL c (xs ++ ys) (vs ++ us)
  | [], ys, vs, us, h, k => by rw [h]; exact k
  | x :: xs, ys, [], us, h, k => h.elim
  | x :: xs, ys, v :: vs, us, h, k => ⟨h.1, RL.append h.2 k⟩
theorem RL.one {c : Cx} {x : AV} {v : Value} (h : Rep c x v) (h1 : v.oneCell' = true) : RL c [x] [v] := ⟨⟨h, h1⟩, rfl⟩

/-- Do a struct's parts lie side by side? -/
def tileB (U : TypeId → TI) (n : Nat) : List (Nat × TypeId) → Nat → Bool
  | [], o => o == n
  | f :: fs, o => f.1 == o && tileB U n fs (o + (U f.2).sz)
/-- Are the types of a list plain data, and what they are made of, too? -/
def plainB (U : TypeId → TI) (L : List TypeId) : Bool := L.all fun t => (U t).sz != 0 && match (U t).k with
  | .bool | .int _ | .str => (U t).sz == 1
  | .slice e => (U t).sz == 1 && L.contains e
  | .strct fs => fs.all (fun f => L.contains f.2) && tileB U (U t).sz fs 0
  | _ => false

theorem cellsOf_of (hU : ∀ t, AgreeT P U t) {t : TypeId} (hz : (U t).sz ≠ 0) : P.cellsOf t = (U t).sz := by
  obtain ⟨i, h1, h2, _⟩ := (hU t).info hz
  simp [Program.cellsOf, h1, h2]

variable {H : Type} {enc : TypeId × Value → H} {w : World}

theorem parts_of (hU : ∀ t, AgreeT P U t) {L : List TypeId} {m : Nat} {sp : Nat → Bool} {held : Bool} (n : Nat) (cs : List Value) (hn : cs.length = n)
    (ih : ∀ (t : TypeId) (cs : List Value) r, t ∈ L → DataW.trod enc P w 0 sp held m t cs = some r → ∃ x, Dat U t x ∧ RL (cx0 w) x.cells cs) (hz : ∀ t ∈ L, (U t).sz ≠ 0) :
    ∀ (fs : List (Nat × TypeId)) (gs : List Field) (o : Nat), gs.map (fun f => (f.offset, f.type)) = fs → (∀ f ∈ fs, f.2 ∈ L) → tileB U n fs o = true →
      (∀ f ∈ gs, ∃ r, DataW.trod enc P w 0 sp held m f.type ((cs.drop f.offset).take (P.cellsOf f.type)) = some r) →
      ∃ ys : List AV, ys.length = fs.length ∧ (∀ i (h1 : i < fs.length) (h2 : i < ys.length), Dat U fs[i].2 ys[i]) ∧ RL (cx0 w) (ys.map AV.cells).flatten (cs.drop o) := by
  intro fs
  induction fs with
  | nil =>
    intro gs o hg hL ht hr
    refine ⟨[], rfl, fun i h1 => (by cases h1), ?_⟩
    have : o = n := by simpa [tileB] using ht
    show cs.drop o = []
    rw [this, ← hn]; simp
  | cons f fs ihf =>
    intro gs o hg hL ht hr
    cases gs with
    | nil => cases hg
    | cons g gs =>
      simp only [List.map_cons, List.cons.injEq] at hg
      obtain ⟨hg1, hg2⟩ := hg
      simp only [tileB, Bool.and_eq_true, beq_iff_eq] at ht
      obtain ⟨ht1, ht2⟩ := ht
      have hfL := hL f (by simp)
      obtain ⟨ys, y1, y2, y3⟩ := ihf gs (o + (U f.2).sz) hg2 (fun f' hf' => hL f' (by simp [hf'])) ht2 (fun g' hg' => hr g' (by simp [hg']))
      obtain ⟨r, hr0⟩ := hr g (by simp)
      have e1 : g.type = f.2 := by rw [← hg1]
      have e2 : g.offset = o := by rw [← ht1, ← hg1]
      rw [e1, e2, cellsOf_of hU (hz _ hfL)] at hr0
      obtain ⟨x, x1, x2⟩ := ih _ _ _ hfL hr0
      refine ⟨x :: ys, by simp [y1], fun i h1 h2 => ?_, ?_⟩
      · cases i with
        | zero => exact x1
        | succ i => exact y2 i (by simpa using h1) (by simpa using h2)
      · have : cs.drop o = (cs.drop o).take (U f.2).sz ++ cs.drop (o + (U f.2).sz) := by
          rw [← List.drop_drop, List.take_append_drop]
        rw [this]
        exact x2.append y3

theorem dat_of_trod (hU : ∀ t, AgreeT P U t) (L : List TypeId) (hL : plainB U L = true) {sp : Nat → Bool} {held : Bool} (hsp : ∀ b, sp b = true) :
    ∀ (fuel : Nat) (t : TypeId) (cs : List Value) (r : DataW H × List MemPlace), t ∈ L → DataW.trod enc P w 0 sp held fuel t cs = some r → ∃ x, Dat U t x ∧ RL (cx0 w) x.cells cs := by
  have hall : ∀ t ∈ L, (U t).sz ≠ 0 := fun t ht => by
    have := List.all_eq_true.1 hL t ht
    simp only [Bool.and_eq_true, bne_iff_ne] at this
    exact this.1
  intro fuel
  induction fuel with
  | zero => intro t cs r _ h; simp [DataW.trod] at h
  | succ m ih =>
    intro t cs r ht h
    have hp := List.all_eq_true.1 hL t ht
    simp only [Bool.and_eq_true, bne_iff_ne] at hp
    obtain ⟨hz, hp⟩ := hp
    have hd := (hU t).desc
    unfold DataW.trod at h
    cases hk : (U t).k with
    | bool =>
      rw [hk] at hd
      simp only at hd
      rw [hd] at h
      split at h <;> simp_all
      rename_i b
      exact ⟨_, .bool b hk, .one (.v _) rfl⟩
    | int k =>
      rw [hk] at hd
      simp only at hd
      rw [hd] at h
      split at h <;> simp_all
      obtain ⟨⟨rfl, hw⟩, _⟩ := h
      exact ⟨_, .int _ hk hw, .one (.v _) rfl⟩
    | str =>
      rw [hk] at hd
      simp only at hd
      rw [hd] at h
      split at h <;> simp_all
      rename_i s
      refine ⟨_, .str s.data.toList hk (by simpa using h.1), .one ?_ rfl⟩
      have := Rep.s (c := cx0 w) s.data.toList (by have := h.1; unfold maxLen at this; simp only [lim]; simp; omega)
      simpa using this
    | slice e =>
      rw [hk] at hd hp
      simp only at hd
      simp only [Bool.and_eq_true] at hp
      have he : e ∈ L := by simpa using hp.2
      have hez := hall e he
      rw [hd] at h
      split at h <;> try (simp_all; done)
      · rename_i e' heq
        refine ⟨_, .slice [] hk (fun x hx => by cases hx) (by simp), .one ?_ rfl⟩
        exact .sl [] .no none 0 0 (fun _ _ => undef) (Nat.le_refl _) (by decide) (fun _ => rfl) (fun q h _ => by cases h) (fun i h => by cases h) (fun q h => by cases h) (fun i h => by cases h) (fun i j h => by cases h) trivial
      · rename_i e' a len cap heq
        obtain rfl : e = e' := by simpa using heq
        split at h
        · rename_i hc
          obtain ⟨hc1, hc2, hc3⟩ := hc
          simp only [hsp, if_true] at h
          obtain ⟨els, hels, h⟩ := Option.bind_eq_some_iff.1 h
          obtain ⟨⟨rst, hrst, _⟩⟩ : Nonempty { rst // (List.range (cap - len)).mapM (fun j => ((w.cells? 0 (a.add ((len + j) * P.cellsOf e)) (P.cellsOf e)).bind (DataW.trod enc P w 0 sp held m e))) = some rst ∧ True } := by
            cases hq : (List.range (cap - len)).mapM (fun j => ((w.cells? 0 (a.add ((len + j) * P.cellsOf e)) (P.cellsOf e)).bind (DataW.trod enc P w 0 sp held m e))) with
            | none => rw [hq] at h; simp at h
            | some rst => exact ⟨⟨rst, rfl, trivial⟩⟩
          rw [cellsOf_of hU hez] at hels hrst
          have cell : ∀ j, j < (U e).sz → ∀ (b : Addr) vs, w.cells? 0 b (U e).sz = some vs → w.cell? (b.add j) = vs[j]? ∧ vs.length = (U e).sz := fun j hj b vs hb => by
            simp only [World.cells?, Nat.zero_le, if_true] at hb
            have := mapM_some_get hb j j (by simp [hj])
            exact ⟨this, by simpa using mapM_some_length hb⟩
          have el : ∀ i, i < len → ∃ vs x, w.cells? 0 (a.add (i * (U e).sz)) (U e).sz = some vs ∧ Dat U e x ∧ RL (cx0 w) x.cells vs := fun i hi => by
            have := mapM_some_get hels i i (by simp [hi])
            have hi2 : i < els.length := by have := mapM_some_length hels; simp at this; omega
            rw [List.getElem?_eq_getElem hi2] at this
            obtain ⟨vs, v1, v2⟩ := Option.bind_eq_some_iff.1 this
            obtain ⟨x, x1, x2⟩ := ih _ _ _ he v2
            exact ⟨vs, x, v1, x1, x2⟩
          have hspot : 0 < cap → a.spot = none ∧ a.block < w.heap.size := fun hcap => by
            have : ∃ b vs, w.cells? 0 b (U e).sz = some vs ∧ b.spot = a.spot ∧ b.block = a.block := by
              by_cases hl : 0 < len
              · obtain ⟨vs, x, v1, _⟩ := el 0 hl
                have a0 : a.add (0 * (U e).sz) = a := by simp [Addr.add]
                exact ⟨_, vs, v1, by rw [a0], by rw [a0]⟩
              · have := mapM_some_get hrst 0 0 (by rw [List.getElem?_eq_getElem (by simp; omega)]; simp)
                have hi2 : 0 < rst.length := by have := mapM_some_length hrst; simp at this; omega
                rw [List.getElem?_eq_getElem hi2] at this
                obtain ⟨vs, v1, v2⟩ := Option.bind_eq_some_iff.1 this
                have a0 : a.add ((len + 0) * (U e).sz) = a := by
                  obtain rfl : len = 0 := by omega
                  simp [Addr.add]
                exact ⟨_, vs, v1, by rw [a0], by rw [a0]⟩
            obtain ⟨b, vs, b1, b2, b3⟩ := this
            obtain ⟨c1, c2⟩ := cell 0 (by omega) b vs b1
            rw [List.getElem?_eq_getElem (by omega)] at c1
            rw [← b2, ← b3]
            unfold World.cell? at c1
            split at c1
            · rename_i hh
              split at c1
              · cases c1
              · rename_i hs
                refine ⟨?_, ?_⟩
                · have : (b.add 0).spot = b.spot := by simp [Addr.add]
                  rw [this] at hs
                  cases hb : b.spot with
                  | none => rfl
                  | some z => rw [hb] at hs; simp at hs
                · exact (Array.getElem?_eq_some_iff.1 hh).1
            · cases c1
          have : ∀ n, n ≤ len → ∃ xs : List AV, xs.length = n ∧ ∀ i (hi : i < xs.length), Dat U e xs[i] ∧ ∃ vs, w.cells? 0 (a.add (i * (U e).sz)) (U e).sz = some vs ∧ RL (cx0 w) xs[i].cells vs := by
            intro n
            induction n with
            | zero => exact fun _ => ⟨[], rfl, fun i hi => by cases hi⟩
            | succ n ihn =>
              intro hn
              obtain ⟨xs, e1, e2⟩ := ihn (by omega)
              obtain ⟨vs, x, v1, v2, v3⟩ := el n (by omega)
              refine ⟨xs ++ [x], by simp [e1], fun i hi => ?_⟩
              by_cases hi' : i < xs.length
              · rw [List.getElem_append_left hi']
                exact e2 i hi'
              · have : i = n := by simp at hi; omega
                subst this
                rw [List.getElem_append_right (by omega)]
                simp only [e1, Nat.sub_self, List.getElem_singleton]
                exact ⟨v2, vs, v1, v3⟩
          obtain ⟨xs, e1, e2⟩ := this len (Nat.le_refl _)
          subst e1
          refine ⟨.sl xs .no, .slice xs hk (fun x hx => ?_) (by omega), .one ?_ rfl⟩
          · obtain ⟨i, hi, rfl⟩ := List.mem_iff_getElem.1 hx
            exact (e2 i hi).1
          · refine .sl xs .no (some a) cap (U e).sz (fun i j => ((w.cells? 0 (a.add (i * (U e).sz)) (U e).sz).getD []).getD j undef) hc2 (by unfold maxLen at hc3; simp only [lim]; omega) (fun hh => by cases hh) (fun q hq hcap => by cases hq; exact hspot hcap)
              (fun i hi => ?_) (fun q hq i j hi hj => ?_) (fun i hi j hj => ?_) (fun i j hi hj => ?_) trivial
            · obtain ⟨_, vs, v1, v2⟩ := e2 i hi
              rw [v2.len]; exact (cell 0 (by omega) _ _ v1).2
            · cases hq
              obtain ⟨_, vs, v1, v2⟩ := e2 i hi
              refine ⟨?_, owned0 w _ _⟩
              obtain ⟨c1, c2⟩ := cell j hj _ _ v1
              rw [v1]
              obtain ⟨hs1, _⟩ := hspot (by omega)
              obtain ⟨ab, ao, as⟩ := a
              simp only at hs1; subst hs1
              rw [add_addr, add_addr] at c1
              simp only [Option.getD_some]
              have hj2 : j < vs.length := by omega
              rw [show vs.getD j undef = vs[j] by simp [hj2]]
              rw [List.getElem?_eq_getElem hj2, Nat.add_assoc] at c1
              exact c1
            · obtain ⟨_, vs, v1, v2⟩ := e2 i hi
              rw [v1]
              exact (v2.get j hj).1
            · obtain ⟨_, vs, v1, v2⟩ := e2 i hi
              rw [v1]
              have := (cell 0 (by omega) _ _ v1).2
              exact (v2.get j (by rw [v2.len]; omega)).2
        · cases h
    | strct fs =>
      rw [hk] at hd hp
      simp only at hd
      simp only [Bool.and_eq_true] at hp
      obtain ⟨gs, hd, hg, _⟩ := hd
      rw [hd] at h
      have hq : cs.length = P.cellsOf t ∧ ∃ xs, (gs.toList.mapM fun f => DataW.trod enc P w 0 sp held m f.type ((cs.drop f.offset).take (P.cellsOf f.type))) = some xs := by
        split at h <;> try (simp_all; done)
        rename_i fs' heq
        obtain rfl : gs = fs' := by simpa using heq
        split at h
        · rename_i hl
          obtain ⟨xs, h1, _⟩ := Option.map_eq_some_iff.1 h
          exact ⟨hl, xs, h1⟩
        · cases h
      obtain ⟨hl, xs, hxs⟩ := hq
      rw [cellsOf_of hU hz] at hl
      obtain ⟨ys, y1, y2, y3⟩ := parts_of hU (U t).sz cs hl ih hall fs gs.toList 0 hg (fun f hf => by have := List.all_eq_true.1 hp.1 f hf; simpa using this) hp.2 (fun f hf => by
        obtain ⟨i, hi, rfl⟩ := List.mem_iff_getElem.1 hf
        have hi2 : i < xs.length := by have := mapM_some_length hxs; omega
        have := mapM_some_get hxs i _ (List.getElem?_eq_getElem hi)
        rw [List.getElem?_eq_getElem hi2] at this
        exact ⟨_, this⟩)
      exact ⟨_, .strct ys hk y1 y2, y3⟩
    | _ => rw [hk] at hp; simp at hp

/-- An argument of plain data. -/
theorem dat_of_arg (hU : ∀ t, AgreeT P U t) (L : List TypeId) (hL : plainB U L = true) {sp : Nat → Bool} {held : Bool} (hsp : ∀ b, sp b = true) {t : TypeId} {v : Value} {d : DataW H} {p : List MemPlace} (ht : t ∈ L) {base : Nat} {rc : Reach}
    (hv : Value.okWide P w rc base t v) (h : DataW.Trod enc P w 0 sp held t v d p) : ∃ x, Dat U t x ∧ Rep (cx0 w) x v := by
  obtain ⟨fuel, h⟩ := h
  obtain ⟨x, x1, x2⟩ := dat_of_trod hU L hL hsp fuel t _ _ ht h
  refine ⟨x, x1, ?_⟩
  have hd := (hU t).desc
  cases x1 with
  | strct ys hk hn hx =>
    rw [hk] at hd
    obtain ⟨gs, hd, _⟩ := hd
    unfold Value.okWide at hv
    rw [hd] at hv
    obtain ⟨cs, rfl, _⟩ := hv
    have hl := x2.len
    simp only [AV.cells, Value.cells] at hl x2
    refine .agg _ _ (by simpa using hl.symm) (fun i hi => ?_) (fun i hi => ?_)
    · have := (x2.get i hi).1
      simpa using this
    · have := (x2.get i hi).2
      simpa using this
  | bool b hk =>
    cases v <;> first | exact x2.1.1 | skip
    rename_i cs
    rw [hk] at hd
    unfold Value.okWide at hv
    rw [hd] at hv
    simp [Cell.okWide, Cell.ok, hd] at hv
  | int n hk hw =>
    cases v <;> first | exact x2.1.1 | skip
    rename_i cs
    rw [hk] at hd
    unfold Value.okWide at hv
    rw [hd] at hv
    simp [Cell.okWide, Cell.ok, hd] at hv
  | str l hk hl =>
    cases v <;> first | exact x2.1.1 | skip
    rename_i cs
    rw [hk] at hd
    unfold Value.okWide at hv
    rw [hd] at hv
    simp [Cell.okWide, Cell.ok, hd] at hv
  | slice xs hk hx hl =>
    cases v <;> first | exact x2.1.1 | skip
    rename_i cs
    rw [hk] at hd
    unfold Value.okWide at hv
    rw [hd] at hv
    simp [Cell.okWide, Cell.ok, hd] at hv

end
end Go.Ab
