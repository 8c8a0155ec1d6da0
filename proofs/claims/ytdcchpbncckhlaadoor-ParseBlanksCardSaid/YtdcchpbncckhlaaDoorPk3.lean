/- The law ParseBlanks: pack 3 of its texts. -/
import Derived.OpenShut
import Derived.Below
import Derived.Lib.ItoaLen
import Derived.Lib.Join
import Derived.Lib.Small
import Derived.Lib.AtoiAll
import Derived.Lib.ItoaMem
import Derived.Test.YtdcchpbncckhlaaDoorProg
import Derived.KernelRfl
import Derived.Shelf.Strings.OnBuilder
import Derived.Shelf.Small.Wraps
import Derived.Shelf.Strconv.Itoa3
import Derived.Test.YtdcchpbncckhlaaDoorPk1
import Derived.Test.YtdcchpbncckhlaaDoorPk2
set_option linter.unusedSimpArgs false
set_option linter.unusedVariables false
namespace Go.Ab
open Go
section
variable {P : Program} {U : TypeId → TI}
inductive Dat (U : TypeId → TI) : TypeId → AV → Prop
  | bool {t : TypeId} (b : Bool) (h : (U t).k = .bool) : Dat U t (.v (.bool b))
  | int {t : TypeId} {k : IntKind} (n : Int) (h : (U t).k = .int k) (hw : (Lit.int k n).wf = true) : Dat U t (.v (.int k n))
  | str {t : TypeId} (l : List UInt8) (h : (U t).k = .str) (hl : l.length ≤ maxLen) : Dat U t (.s l)
  | slice {t e : TypeId} (xs : List AV) (h : (U t).k = .slice e) (hx : ∀ x ∈ xs, Dat U e x) (hl : xs.length ≤ maxLen) : Dat U t (.sl xs .no)
  | strct {t : TypeId} {fs : List (Nat × TypeId)} (ys : List AV) (h : (U t).k = .strct fs) (hn : ys.length = fs.length) (hx : ∀ i (h1 : i < fs.length) (h2 : i < ys.length), Dat U fs[i].2 ys[i]) : Dat U t (.agg (ys.map AV.cells).flatten)
theorem Dat.int_inv {t : TypeId} {x : AV} {k : IntKind} (h : Dat U t x) (hk : (U t).k = .int k) : ∃ n, x = .v (.int k n) ∧ (Lit.int k n).wf = true := by
  cases h with
  | int n h hw => rw [hk] at h; cases h; exact ⟨n, rfl, hw⟩
  | _ => simp_all
theorem Dat.str_inv {t : TypeId} {x : AV} (h : Dat U t x) (hk : (U t).k = .str) : ∃ l, x = .s l ∧ l.length ≤ maxLen := by
  cases h with
  | str l h hl => exact ⟨l, rfl, hl⟩
  | _ => simp_all
theorem Dat.slice_inv {t e : TypeId} {x : AV} (h : Dat U t x) (hk : (U t).k = .slice e) : ∃ xs, x = .sl xs .no ∧ xs.length ≤ maxLen ∧ ∀ y ∈ xs, Dat U e y := by
  cases h with
  | slice xs h hx hl => rw [hk] at h; cases h; exact ⟨xs, rfl, hl, hx⟩
  | _ => simp_all
theorem wf64 {n : Int} (h : (Lit.int .i64 n).wf = true) : -9223372036854775808 ≤ n ∧ n ≤ 9223372036854775807 := by
  simpa [Lit.wf, IntKind.min, IntKind.max, IntKind.signed, IntKind.bits] using h
theorem wf8 {n : Int} (h : (Lit.int .u8 n).wf = true) : ∃ c : UInt8, n = c.toNat := by
  have hr : 0 ≤ n ∧ n ≤ 255 := by simpa [Lit.wf, IntKind.min, IntKind.max, IntKind.signed, IntKind.bits] using h
  refine ⟨UInt8.ofNat n.toNat, ?_⟩
  rw [UInt8.toNat_ofNat']
  omega
theorem Dat.i64 {t : TypeId} {x : AV} (h : Dat U t x) (hk : (U t).k = .int .i64) : ∃ n, x = iA n ∧ -9223372036854775808 ≤ n ∧ n ≤ 9223372036854775807 := by
  obtain ⟨n, rfl, hw⟩ := h.int_inv hk
  exact ⟨n, rfl, wf64 hw⟩
theorem Dat.u8 {t : TypeId} {x : AV} (h : Dat U t x) (hk : (U t).k = .int .u8) : ∃ c : UInt8, x = byteA c := by
  obtain ⟨n, rfl, hw⟩ := h.int_inv hk
  obtain ⟨c, rfl⟩ := wf8 hw
  exact ⟨c, rfl⟩
theorem Dat.list {t e : TypeId} {x : AV} {β : Type} {f : β → AV} {p : β → Prop} (h : Dat U t x) (hk : (U t).k = .slice e) (he : ∀ y, Dat U e y → ∃ b, y = f b ∧ p b) : ∃ bs : List β, x = .sl (bs.map f) .no ∧ bs.length ≤ maxLen ∧ ∀ b ∈ bs, p b := by
  obtain ⟨xs, rfl, hl, hx⟩ := h.slice_inv hk
  obtain ⟨bs, rfl, hb⟩ := choose_map xs fun y hy => he y (hx y hy)
  exact ⟨bs, rfl, by simpa using hl, hb⟩
theorem Dat.bytes {t e : TypeId} {x : AV} (h : Dat U t x) (hk : (U t).k = .slice e) (he : (U e).k = .int .u8) : ∃ l : List UInt8, x = .sl (l.map byteA) .no ∧ l.length ≤ maxLen := by
  obtain ⟨l, h1, h2, _⟩ := h.list (f := byteA) (p := fun _ => True) hk fun y hy => by obtain ⟨c, hc⟩ := hy.u8 he; exact ⟨c, hc, trivial⟩
  exact ⟨l, h1, h2⟩
def RL (c : Cx) : List AV → List Value → Prop
  | [], vs => vs = []
  | x :: xs, [] => False
  | x :: xs, v :: vs => (Rep c x v ∧ v.oneCell' = true) ∧ RL c xs vs
theorem RL.len {c : Cx} : ∀ {xs : List AV} {vs : List Value}, RL c xs vs → xs.length = vs.length
  | [], vs, h => by rw [h]; rfl
  | x :: xs, [], h => h.elim
  | x :: xs, v :: vs, h => by simp [RL.len h.2]
theorem RL.get {c : Cx} : ∀ {xs : List AV} {vs : List Value}, RL c xs vs → ∀ i (h : i < xs.length), Rep c xs[i] (vs.getD i undef) ∧ (vs.getD i undef).oneCell' = true
  | [], vs, h, i, hi => by cases hi
  | x :: xs, [], h, i, hi => h.elim
  | x :: xs, v :: vs, h, 0, hi => h.1
  | x :: xs, v :: vs, h, i + 1, hi => by simpa using RL.get h.2 i (by simpa using hi)
theorem RL.append {c : Cx} : ∀ {xs ys : List AV} {vs us : List Value}, RL c xs vs → RL c ys us → RL c (xs ++ ys) (vs ++ us)
  | [], ys, vs, us, h, k => by rw [h]; exact k
  | x :: xs, ys, [], us, h, k => h.elim
  | x :: xs, ys, v :: vs, us, h, k => ⟨h.1, RL.append h.2 k⟩
theorem RL.one {c : Cx} {x : AV} {v : Value} (h : Rep c x v) (h1 : v.oneCell' = true) : RL c [x] [v] := ⟨⟨h, h1⟩, rfl⟩
def tileB (U : TypeId → TI) (n : Nat) : List (Nat × TypeId) → Nat → Bool
  | [], o => o == n
  | f :: fs, o => f.1 == o && tileB U n fs (o + (U f.2).sz)
def plainB (U : TypeId → TI) (L : List TypeId) : Bool := L.all fun t => (U t).sz != 0 && match (U t).k with
  | .bool | .int _ | .str => (U t).sz == 1
  | .slice e => (U t).sz == 1 && L.contains e
  | .strct fs => fs.all (fun f => L.contains f.2) && tileB U (U t).sz fs 0
  | _ => false
theorem cellsOf_of (hU : ∀ t, AgreeT P U t) {t : TypeId} (hz : (U t).sz ≠ 0) : P.cellsOf t = (U t).sz := by
  obtain ⟨i, h1, h2, _⟩ := (hU t).info hz
  simp [Program.cellsOf, h1, h2]
variable {H : Type} {enc : TypeId × Value → H} {w : World}
theorem parts_of (hU : ∀ t, AgreeT P U t) {L : List TypeId} {m : Nat} {sp : Nat → Bool} {held : Bool} (n : Nat) (cs : List Value) (hn : cs.length = n)
    (ih : ∀ (t : TypeId) (cs : List Value) r, t ∈ L → DataW.trod enc P w 0 sp held m t cs = some r → ∃ x, Dat U t x ∧ RL (cx0 w) x.cells cs) (hz : ∀ t ∈ L, (U t).sz ≠ 0) :
    ∀ (fs : List (Nat × TypeId)) (gs : List Field) (o : Nat), gs.map (fun f => (f.offset, f.type)) = fs → (∀ f ∈ fs, f.2 ∈ L) → tileB U n fs o = true →
      (∀ f ∈ gs, ∃ r, DataW.trod enc P w 0 sp held m f.type ((cs.drop f.offset).take (P.cellsOf f.type)) = some r) →
      ∃ ys : List AV, ys.length = fs.length ∧ (∀ i (h1 : i < fs.length) (h2 : i < ys.length), Dat U fs[i].2 ys[i]) ∧ RL (cx0 w) (ys.map AV.cells).flatten (cs.drop o) := by
  intro fs
  induction fs with
  | nil =>
    intro gs o hg hL ht hr
    refine ⟨[], rfl, fun i h1 => (by cases h1), ?_⟩
    have : o = n := by simpa [tileB] using ht
    show cs.drop o = []
    rw [this, ← hn]; simp
  | cons f fs ihf =>
    intro gs o hg hL ht hr
    cases gs with
    | nil => cases hg
    | cons g gs =>
      simp only [List.map_cons, List.cons.injEq] at hg
      obtain ⟨hg1, hg2⟩ := hg
      simp only [tileB, Bool.and_eq_true, beq_iff_eq] at ht
      obtain ⟨ht1, ht2⟩ := ht
      have hfL := hL f (by simp)
      obtain ⟨ys, y1, y2, y3⟩ := ihf gs (o + (U f.2).sz) hg2 (fun f' hf' => hL f' (by simp [hf'])) ht2 (fun g' hg' => hr g' (by simp [hg']))
      obtain ⟨r, hr0⟩ := hr g (by simp)
      have e1 : g.type = f.2 := by rw [← hg1]
      have e2 : g.offset = o := by rw [← ht1, ← hg1]
      rw [e1, e2, cellsOf_of hU (hz _ hfL)] at hr0
      obtain ⟨x, x1, x2⟩ := ih _ _ _ hfL hr0
      refine ⟨x :: ys, by simp [y1], fun i h1 h2 => ?_, ?_⟩
      · cases i with
        | zero => exact x1
        | succ i => exact y2 i (by simpa using h1) (by simpa using h2)
      · have : cs.drop o = (cs.drop o).take (U f.2).sz ++ cs.drop (o + (U f.2).sz) := by
          rw [← List.drop_drop, List.take_append_drop]
        rw [this]
        exact x2.append y3
theorem dat_of_trod (hU : ∀ t, AgreeT P U t) (L : List TypeId) (hL : plainB U L = true) {sp : Nat → Bool} {held : Bool} (hsp : ∀ b, sp b = true) :
    ∀ (fuel : Nat) (t : TypeId) (cs : List Value) (r : DataW H × List MemPlace), t ∈ L → DataW.trod enc P w 0 sp held fuel t cs = some r → ∃ x, Dat U t x ∧ RL (cx0 w) x.cells cs := by
  have hall : ∀ t ∈ L, (U t).sz ≠ 0 := fun t ht => by
    have := List.all_eq_true.1 hL t ht
    simp only [Bool.and_eq_true, bne_iff_ne] at this
    exact this.1
  intro fuel
  induction fuel with
  | zero => intro t cs r _ h; simp [DataW.trod] at h
  | succ m ih =>
    intro t cs r ht h
    have hp := List.all_eq_true.1 hL t ht
    simp only [Bool.and_eq_true, bne_iff_ne] at hp
    obtain ⟨hz, hp⟩ := hp
    have hd := (hU t).desc
    unfold DataW.trod at h
    cases hk : (U t).k with
    | bool =>
      rw [hk] at hd
      simp only at hd
      rw [hd] at h
      split at h <;> simp_all
      rename_i b
      exact ⟨_, .bool b hk, .one (.v _) rfl⟩
    | int k =>
      rw [hk] at hd
      simp only at hd
      rw [hd] at h
      split at h <;> simp_all
      obtain ⟨⟨rfl, hw⟩, _⟩ := h
      exact ⟨_, .int _ hk hw, .one (.v _) rfl⟩
    | str =>
      rw [hk] at hd
      simp only at hd
      rw [hd] at h
      split at h <;> simp_all
      rename_i s
      refine ⟨_, .str s.data.toList hk (by simpa using h.1), .one ?_ rfl⟩
      have := Rep.s (c := cx0 w) s.data.toList (by have := h.1; unfold maxLen at this; simp only [lim]; simp; omega)
      simpa using this
    | slice e =>
      rw [hk] at hd hp
      simp only at hd
      simp only [Bool.and_eq_true] at hp
      have he : e ∈ L := by simpa using hp.2
      have hez := hall e he
      rw [hd] at h
      split at h <;> try (simp_all; done)
      · rename_i e' heq
        refine ⟨_, .slice [] hk (fun x hx => by cases hx) (by simp), .one ?_ rfl⟩
        exact .sl [] .no none 0 0 (fun _ _ => undef) (Nat.le_refl _) (by decide) (fun _ => rfl) (fun q h _ => by cases h) (fun i h => by cases h) (fun q h => by cases h) (fun i h => by cases h) (fun i j h => by cases h) trivial
      · rename_i e' a len cap heq
        obtain rfl : e = e' := by simpa using heq
        split at h
        · rename_i hc
          obtain ⟨hc1, hc2, hc3⟩ := hc
          simp only [hsp, if_true] at h
          obtain ⟨els, hels, h⟩ := Option.bind_eq_some_iff.1 h
          obtain ⟨⟨rst, hrst, _⟩⟩ : Nonempty { rst // (List.range (cap - len)).mapM (fun j => ((w.cells? 0 (a.add ((len + j) * P.cellsOf e)) (P.cellsOf e)).bind (DataW.trod enc P w 0 sp held m e))) = some rst ∧ True } := by
            cases hq : (List.range (cap - len)).mapM (fun j => ((w.cells? 0 (a.add ((len + j) * P.cellsOf e)) (P.cellsOf e)).bind (DataW.trod enc P w 0 sp held m e))) with
            | none => rw [hq] at h; simp at h
            | some rst => exact ⟨⟨rst, rfl, trivial⟩⟩
          rw [cellsOf_of hU hez] at hels hrst
          have cell : ∀ j, j < (U e).sz → ∀ (b : Addr) vs, w.cells? 0 b (U e).sz = some vs → w.cell? (b.add j) = vs[j]? ∧ vs.length = (U e).sz := fun j hj b vs hb => by
            simp only [World.cells?, Nat.zero_le, if_true] at hb
            have := mapM_some_get hb j j (by simp [hj])
            exact ⟨this, by simpa using mapM_some_length hb⟩
          have el : ∀ i, i < len → ∃ vs x, w.cells? 0 (a.add (i * (U e).sz)) (U e).sz = some vs ∧ Dat U e x ∧ RL (cx0 w) x.cells vs := fun i hi => by
            have := mapM_some_get hels i i (by simp [hi])
            have hi2 : i < els.length := by have := mapM_some_length hels; simp at this; omega
            rw [List.getElem?_eq_getElem hi2] at this
            obtain ⟨vs, v1, v2⟩ := Option.bind_eq_some_iff.1 this
            obtain ⟨x, x1, x2⟩ := ih _ _ _ he v2
            exact ⟨vs, x, v1, x1, x2⟩
          have hspot : 0 < cap → a.spot = none ∧ a.block < w.heap.size := fun hcap => by
            have : ∃ b vs, w.cells? 0 b (U e).sz = some vs ∧ b.spot = a.spot ∧ b.block = a.block := by
              by_cases hl : 0 < len
              · obtain ⟨vs, x, v1, _⟩ := el 0 hl
                have a0 : a.add (0 * (U e).sz) = a := by simp [Addr.add]
                exact ⟨_, vs, v1, by rw [a0], by rw [a0]⟩
              · have := mapM_some_get hrst 0 0 (by rw [List.getElem?_eq_getElem (by simp; omega)]; simp)
                have hi2 : 0 < rst.length := by have := mapM_some_length hrst; simp at this; omega
                rw [List.getElem?_eq_getElem hi2] at this
                obtain ⟨vs, v1, v2⟩ := Option.bind_eq_some_iff.1 this
                have a0 : a.add ((len + 0) * (U e).sz) = a := by
                  obtain rfl : len = 0 := by omega
                  simp [Addr.add]
                exact ⟨_, vs, v1, by rw [a0], by rw [a0]⟩
            obtain ⟨b, vs, b1, b2, b3⟩ := this
            obtain ⟨c1, c2⟩ := cell 0 (by omega) b vs b1
            rw [List.getElem?_eq_getElem (by omega)] at c1
            rw [← b2, ← b3]
            unfold World.cell? at c1
            split at c1
            · rename_i hh
              split at c1
              · cases c1
              · rename_i hs
                refine ⟨?_, ?_⟩
                · have : (b.add 0).spot = b.spot := by simp [Addr.add]
                  rw [this] at hs
                  cases hb : b.spot with
                  | none => rfl
                  | some z => rw [hb] at hs; simp at hs
                · exact (Array.getElem?_eq_some_iff.1 hh).1
            · cases c1
          have : ∀ n, n ≤ len → ∃ xs : List AV, xs.length = n ∧ ∀ i (hi : i < xs.length), Dat U e xs[i] ∧ ∃ vs, w.cells? 0 (a.add (i * (U e).sz)) (U e).sz = some vs ∧ RL (cx0 w) xs[i].cells vs := by
            intro n
            induction n with
            | zero => exact fun _ => ⟨[], rfl, fun i hi => by cases hi⟩
            | succ n ihn =>
              intro hn
              obtain ⟨xs, e1, e2⟩ := ihn (by omega)
              obtain ⟨vs, x, v1, v2, v3⟩ := el n (by omega)
              refine ⟨xs ++ [x], by simp [e1], fun i hi => ?_⟩
              by_cases hi' : i < xs.length
              · rw [List.getElem_append_left hi']
                exact e2 i hi'
              · have : i = n := by simp at hi; omega
                subst this
                rw [List.getElem_append_right (by omega)]
                simp only [e1, Nat.sub_self, List.getElem_singleton]
                exact ⟨v2, vs, v1, v3⟩
          obtain ⟨xs, e1, e2⟩ := this len (Nat.le_refl _)
          subst e1
          refine ⟨.sl xs .no, .slice xs hk (fun x hx => ?_) (by omega), .one ?_ rfl⟩
          · obtain ⟨i, hi, rfl⟩ := List.mem_iff_getElem.1 hx
            exact (e2 i hi).1
          · refine .sl xs .no (some a) cap (U e).sz (fun i j => ((w.cells? 0 (a.add (i * (U e).sz)) (U e).sz).getD []).getD j undef) hc2 (by unfold maxLen at hc3; simp only [lim]; omega) (fun hh => by cases hh) (fun q hq hcap => by cases hq; exact hspot hcap)
              (fun i hi => ?_) (fun q hq i j hi hj => ?_) (fun i hi j hj => ?_) (fun i j hi hj => ?_) trivial
            · obtain ⟨_, vs, v1, v2⟩ := e2 i hi
              rw [v2.len]; exact (cell 0 (by omega) _ _ v1).2
            · cases hq
              obtain ⟨_, vs, v1, v2⟩ := e2 i hi
              refine ⟨?_, owned0 w _ _⟩
              obtain ⟨c1, c2⟩ := cell j hj _ _ v1
              rw [v1]
              obtain ⟨hs1, _⟩ := hspot (by omega)
              obtain ⟨ab, ao, az⟩ := a
              simp only at hs1; subst hs1
              rw [add_addr, add_addr] at c1
              simp only [Option.getD_some]
              have hj2 : j < vs.length := by omega
              rw [show vs.getD j undef = vs[j] by simp [hj2]]
              rw [List.getElem?_eq_getElem hj2, Nat.add_assoc] at c1
              exact c1
            · obtain ⟨_, vs, v1, v2⟩ := e2 i hi
              rw [v1]
              exact (v2.get j hj).1
            · obtain ⟨_, vs, v1, v2⟩ := e2 i hi
              rw [v1]
              have := (cell 0 (by omega) _ _ v1).2
              exact (v2.get j (by rw [v2.len]; omega)).2
        · cases h
    | strct fs =>
      rw [hk] at hd hp
      simp only at hd
      simp only [Bool.and_eq_true] at hp
      obtain ⟨gs, hd, hg, _⟩ := hd
      rw [hd] at h
      have hq : cs.length = P.cellsOf t ∧ ∃ xs, (gs.toList.mapM fun f => DataW.trod enc P w 0 sp held m f.type ((cs.drop f.offset).take (P.cellsOf f.type))) = some xs := by
        split at h <;> try (simp_all; done)
        rename_i fs' heq
        obtain rfl : gs = fs' := by simpa using heq
        split at h
        · rename_i hl
          obtain ⟨xs, h1, _⟩ := Option.map_eq_some_iff.1 h
          exact ⟨hl, xs, h1⟩
        · cases h
      obtain ⟨hl, xs, hxs⟩ := hq
      rw [cellsOf_of hU hz] at hl
      obtain ⟨ys, y1, y2, y3⟩ := parts_of hU (U t).sz cs hl ih hall fs gs.toList 0 hg (fun f hf => by have := List.all_eq_true.1 hp.1 f hf; simpa using this) hp.2 (fun f hf => by
        obtain ⟨i, hi, rfl⟩ := List.mem_iff_getElem.1 hf
        have hi2 : i < xs.length := by have := mapM_some_length hxs; omega
        have := mapM_some_get hxs i _ (List.getElem?_eq_getElem hi)
        rw [List.getElem?_eq_getElem hi2] at this
        exact ⟨_, this⟩)
      exact ⟨_, .strct ys hk y1 y2, y3⟩
    | _ => rw [hk] at hp; simp at hp
theorem dat_of_arg (hU : ∀ t, AgreeT P U t) (L : List TypeId) (hL : plainB U L = true) {sp : Nat → Bool} {held : Bool} (hsp : ∀ b, sp b = true) {t : TypeId} {v : Value} {d : DataW H} {p : List MemPlace} (ht : t ∈ L) {base : Nat} {rc : Reach}
    (hv : Value.okWide P w rc base t v) (h : DataW.Trod enc P w 0 sp held t v d p) : ∃ x, Dat U t x ∧ Rep (cx0 w) x v := by
  obtain ⟨fuel, h⟩ := h
  obtain ⟨x, x1, x2⟩ := dat_of_trod hU L hL hsp fuel t _ _ ht h
  refine ⟨x, x1, ?_⟩
  have hd := (hU t).desc
  cases x1 with
  | strct ys hk hn hx =>
    rw [hk] at hd
    obtain ⟨gs, hd, _⟩ := hd
    unfold Value.okWide at hv
    rw [hd] at hv
    obtain ⟨cs, rfl, _⟩ := hv
    have hl := x2.len
    simp only [AV.cells, Value.cells] at hl x2
    refine .agg _ _ (by simpa using hl.symm) (fun i hi => ?_) (fun i hi => ?_)
    · have := (x2.get i hi).1
      simpa using this
    · have := (x2.get i hi).2
      simpa using this
  | bool b hk =>
    cases v <;> first | exact x2.1.1 | skip
    rename_i cs
    rw [hk] at hd
    unfold Value.okWide at hv
    rw [hd] at hv
    simp [Cell.okWide, Cell.ok, hd] at hv
  | int n hk hw =>
    cases v <;> first | exact x2.1.1 | skip
    rename_i cs
    rw [hk] at hd
    unfold Value.okWide at hv
    rw [hd] at hv
    simp [Cell.okWide, Cell.ok, hd] at hv
  | str l hk hl =>
    cases v <;> first | exact x2.1.1 | skip
    rename_i cs
    rw [hk] at hd
    unfold Value.okWide at hv
    rw [hd] at hv
    simp [Cell.okWide, Cell.ok, hd] at hv
  | slice xs hk hx hl =>
    cases v <;> first | exact x2.1.1 | skip
    rename_i cs
    rw [hk] at hd
    unfold Value.okWide at hv
    rw [hd] at hv
    simp [Cell.okWide, Cell.ok, hd] at hv
end
end Go.Ab

set_option linter.unusedSimpArgs false
set_option linter.unusedVariables false
namespace Go.Ab
open Go
section
variable {P : Program} {U : TypeId → TI} {n : Nat} {ρ : Env} {h h' h2 : Heap} {e tb : TypeId} {y v : AV} {xs zs : List AV} {l : List UInt8} {Q : AV → Heap → Prop}
def hm1 (id : Nat) (k : Blk) : Heap := upd (fun _ => none) id (some k)
@[go_sem] theorem hm1_same (id : Nat) (k : Blk) : hm1 id k id = some k := upd_same ..
theorem Sub.hm1 {id : Nat} {k : Blk} (h1 : h id = some k) : Sub (hm1 id k) h := fun j b hj => by
  unfold Ab.hm1 at hj
  by_cases e : j = id
  · subst e; rw [upd_same] at hj; rw [h1, hj]
  · rw [upd_other _ _ e] at hj; cases hj
theorem KeepObj.new {id : Nat} {k : Option Blk} (hid : h id = none) : KeepObj h (upd h id k) := ((Sub.refl h).new hid k).keepObj
theorem ApNew.acc (hk : ∀ y' h'', Acc U e h h'' y' (xs ++ zs) → KeepObj h h'' → Q y' h'') : ApNew U h xs zs e Q :=
  .own fun id hid => hk _ _ ⟨(Sub.refl h).new hid _, .inr ⟨id, hid, rfl, by rw [upd_same, List.length_append]⟩⟩ (.new hid)
theorem ApFull.acc (hk : ∀ y' h'', Acc U e h h'' y' (xs ++ zs) → KeepObj h h'' → Q y' h'') : ApFull U h xs zs e Q :=
  ⟨fun hn => by subst hn; exact hk _ _ (by rw [List.append_nil]; exact .full (.refl h)) (.refl h), fun _ => .acc hk⟩
theorem Acc.bytes (ha : Acc U e h h' y (l.map byteA)) : Bytes tb h2 y l := by
  obtain ⟨q, rfl⟩ := ha.row
  exact .sl _ _
end
end Go.Ab

set_option linter.unusedSimpArgs false
set_option linter.unusedVariables false
namespace Go.Ab
open Go
section
variable {P : Program} {U : TypeId → TI} {n : Nat} {ρ : Env} {h h' : Heap} {tb : TypeId} {y : AV} {l : List UInt8}
theorem Bytes.from (hb : Bytes tb h y l) {lo : Operand} {m : Int} {x : IntKind} {K : AV → Prop} (j : Nat) (hm : ev ρ lo = some (.v (.int x m))) (hj : m = j) (hl : j ≤ l.length) (hz : (U tb).sz = 1) (hk : ∀ z, Bytes tb h z (l.drop j) → K z) :
    sliceK U ρ y (some lo) none none K (.slice tb) := by
  subst hj
  rcases hb with ⟨q, rfl⟩ | ⟨id, off, cs, rfl, h1, h2, h3⟩
  · rw [sliceK_from, hm]
    refine ⟨by rw [hz]; decide, by rw [hz, Sized_bytes]; trivial, ?_⟩
    simp only [bindO_some, intA_eq, Int.toNat_natCast, KV_eq]
    refine ⟨by omega, by simpa using hl, ?_⟩
    rw [← List.map_drop]
    exact hk _ (.sl _ _)
  · rw [sliceK_oa]
    refine ⟨by rw [hz]; decide, fun _ => hz, ?_⟩
    simp only [optA_none, optA_some, hm, bindO_some, intA_eq]
    refine ⟨by omega, by omega, by omega, ?_⟩
    simp only [Int.toNat_natCast, hz, Nat.mul_one]
    have e : (l.drop j).length = l.length - j := by simp
    have := hk (.oa id (off + j) (l.drop j).length) (.oa h1 (by omega) (by
      rw [e, List.map_drop, ← h3, ← List.drop_drop, List.drop_take]))
    rwa [e] at this
theorem Bytes.cut (hb : Bytes tb h y l) {lo hi : Operand} {m m2 : Int} {x x2 : IntKind} {K : AV → Prop} (j k : Nat) (hm : ev ρ lo = some (.v (.int x m))) (hj : m = j) (hm2 : ev ρ hi = some (.v (.int x2 m2))) (hk2 : m2 = k) (hjk : j ≤ k) (hl : k ≤ l.length) (hz : (U tb).sz = 1)
    (hk : ∀ z, Bytes tb h z ((l.drop j).take (k - j)) → K z) : sliceK U ρ y (some lo) (some hi) none K (.slice tb) := by
  subst hj; subst hk2
  rcases hb with ⟨q, rfl⟩ | ⟨id, off, cs, rfl, h1, h2, h3⟩
  · rw [sliceK_ft, hm]
    refine ⟨by rw [hz]; decide, by rw [hz, Sized_bytes]; trivial, ?_⟩
    simp only [bindO_some, intA_eq, hm2, Int.toNat_natCast, KV_eq]
    refine ⟨by omega, by omega, by simpa using hl, ?_⟩
    rw [← List.map_drop, ← List.map_take]
    exact hk _ (.sl _ _)
  · rw [sliceK_oa]
    refine ⟨by rw [hz]; decide, fun _ => hz, ?_⟩
    simp only [optA_some, hm, bindO_some, intA_eq, hm2]
    refine ⟨by omega, by omega, by omega, ?_⟩
    simp only [Int.toNat_natCast, hz, Nat.mul_one]
    have e : ((l.drop j).take (k - j)).length = k - j := by simp; omega
    have := hk (.oa id (off + j) ((l.drop j).take (k - j)).length) (.oa h1 (by omega) (by
      rw [e, List.map_take, List.map_drop, ← h3, ← List.drop_drop, List.drop_take, List.take_take]
      congr 1; omega))
    rwa [e] at this
end
theorem wrapU (k : IntKind) (n : Nat) (hk : k.signed = false) (hn : n < 2 ^ k.bits) : k.wrap (n : Int) = n := by
  cases k <;> simp [IntKind.signed] at hk <;> simp [IntKind.wrap, IntKind.signed, IntKind.bits] at hn ⊢ <;> omega
theorem w32 (n : Nat) (hn : n < 4294967296) : IntKind.u32.wrap (n : Int) = n := wrapU .u32 n rfl (by simpa [IntKind.bits] using hn)
theorem w8 (n : Nat) : IntKind.u8.wrap (n : Int) = (UInt8.ofNat n).toNat := by
  rw [UInt8.toNat_ofNat']
  simp [IntKind.wrap, IntKind.signed, IntKind.bits]
theorem ofInt_nat (w n : Nat) : BitVec.ofInt w (n : Int) = BitVec.ofNat w n := BitVec.ofInt_natCast ..
theorem xor32 (x y : BitVec 32) : IntKind.u32.wrap (((BitVec.ofInt IntKind.u32.bits (x.toNat : Int) ^^^ BitVec.ofInt IntKind.u32.bits (y.toNat : Int)).toNat : Nat) : Int) = ((x ^^^ y).toNat : Int) := by
  have e : ∀ z : BitVec 32, BitVec.ofInt IntKind.u32.bits (z.toNat : Int) = z := fun z => by
    show BitVec.ofInt 32 (z.toNat : Int) = z
    rw [ofInt_nat]; simp
  rw [e, e]
  exact w32 _ (x ^^^ y).isLt
theorem xor32T (x : BitVec 32) : IntKind.u32.wrap (((BitVec.ofInt IntKind.u32.bits (x.toNat : Int) ^^^ BitVec.ofInt IntKind.u32.bits (3988292384 : Int)).toNat : Nat) : Int) = ((x ^^^ 0xedb88320#32).toNat : Int) := xor32 x 0xedb88320#32
theorem not32 (x : BitVec 32) : IntKind.u32.wrap (((BitVec.ofInt IntKind.u32.bits (if IntKind.u32.signed = true then -1 else IntKind.u32.max) ^^^ BitVec.ofInt IntKind.u32.bits (x.toNat : Int)).toNat : Nat) : Int) = ((~~~ x).toNat : Int) := by
  have := xor32 (BitVec.allOnes 32) x
  have e : (BitVec.allOnes 32 ^^^ x) = ~~~ x := by
    apply BitVec.eq_of_getLsbD_eq
    intro i hi
    rw [BitVec.getLsbD_xor, BitVec.getLsbD_allOnes, BitVec.getLsbD_not]
    simp [hi]
  rw [e] at this
  exact this
theorem and32 (x : BitVec 32) : IntKind.u32.wrap (((BitVec.ofInt IntKind.u32.bits (x.toNat : Int) &&& BitVec.ofInt IntKind.u32.bits (1 : Int)).toNat : Nat) : Int) = ((x &&& 1#32).toNat : Int) := by
  have e : BitVec.ofInt IntKind.u32.bits (x.toNat : Int) = x := by
    show BitVec.ofInt 32 (x.toNat : Int) = x
    rw [ofInt_nat]; simp
  rw [e]
  exact w32 _ (x &&& 1#32).isLt
theorem shr32 (x : BitVec 32) : (x.toNat : Int).fdiv (2 ^ (min (1 : Int).toNat IntKind.u32.bits)) = ((x >>> 1).toNat : Int) := by
  show (x.toNat : Int).fdiv (2 ^ 1) = _
  rw [Int.fdiv_eq_ediv_of_nonneg _ (by decide)]
  simp [Nat.shiftRight_eq_div_pow]
section
variable {U : TypeId → TI} {ty : TypeId} {K : AV → Prop}
@[go_sem high] theorem bx32 (x y : BitVec 32) : binA U .xor ty (.v (.int .u32 (x.toNat : Int))) (.v (.int .u32 (y.toNat : Int))) K = K (.v (.int .u32 ((x ^^^ y).toNat : Int))) := by rw [b_xor, xor32]
@[go_sem high] theorem bx32T (x : BitVec 32) : binA U .xor ty (.v (.int .u32 (x.toNat : Int))) (.v (.int .u32 3988292384)) K = K (.v (.int .u32 ((x ^^^ 0xedb88320#32).toNat : Int))) := by rw [b_xor, xor32T]
@[go_sem high] theorem band32 (x : BitVec 32) : binA U .and ty (.v (.int .u32 (x.toNat : Int))) (.v (.int .u32 1)) K = K (.v (.int .u32 ((x &&& 1#32).toNat : Int))) := by rw [b_and, and32]
@[go_sem high] theorem bshr32 (x : BitVec 32) (kk : IntKind) : binA U .shr ty (.v (.int .u32 (x.toNat : Int))) (.v (.int kk 1)) K = K (.v (.int .u32 ((x >>> 1).toNat : Int))) := by rw [b_shr, shr32]; simp
@[go_sem high] theorem unot32 (x : BitVec 32) : unA .xor (.v (.int .u32 (x.toNat : Int))) K = K (.v (.int .u32 ((~~~ x).toNat : Int))) := by rw [unA_xor, not32]
end
end Go.Ab

set_option linter.unusedSimpArgs false
set_option linter.unusedVariables false
namespace Go.Ab
open Go
section
variable {P : Program} {U : TypeId → TI} {n : Nat} {ρ : Env} {h0 h h' : Heap} {tb : TypeId} {y v : AV} {l m : List UInt8} {Q : AV → Heap → Prop}
def Wr (tb : TypeId) (h0 h : Heap) (y : AV) (l : List UInt8) : Prop :=
  Sub h0 h ∧ ((l = [] ∧ y = .sl [] .full) ∨ ∃ id cs, h0 id = none ∧ y = .oa id 0 l.length ∧ h id = some (.obj cs tb) ∧ l.length ≤ cs.length ∧ cs.take l.length = l.map byteA)
theorem Wr.bytes (hw : Wr tb h0 h y l) : Bytes tb h y l := by
  obtain ⟨_, ⟨rfl, rfl⟩ | ⟨id, cs, _, rfl, h1, h2, h3⟩⟩ := hw
  · exact .nil _
  · exact .oa h1 (by omega) (by simpa using h3)
theorem Wr.nil (hs : Sub h0 h) : Wr tb h0 h (.sl [] .full) [] := ⟨hs, .inl ⟨rfl, rfl⟩⟩
theorem Wr.sub (hw : Wr tb h0 h y l) (hs : Sub h h') : Wr tb h0 h' y l := by
  obtain ⟨h1, hw | ⟨id, cs, a, e, b, c, d⟩⟩ := hw
  · exact ⟨h1.trans hs, .inl hw⟩
  · exact ⟨h1.trans hs, .inr ⟨id, cs, a, e, hs _ _ b, c, d⟩⟩
theorem Wr.app (hw : Wr tb h0 h y l) (hz : (U tb).sz = 1) (hb : (U tb).bytes = 1) (hf : (U tb).zero = byteA 0) (hsrc : ∀ k : List AV → Prop, k (m.map byteA) → srcA U tb h v k)
    (hlen : l.length + m.length ≤ 140737488355328) (hk : ∀ y' h', Wr tb h0 h' y' (l ++ m) → Q y' h') : apK U h y v Q (.slice tb) := by
  have hs := hw.1
  have one : Sized (U tb).sz (m.map byteA) := by rw [hz, Sized_bytes]; trivial
  obtain ⟨_, ⟨rfl, rfl⟩ | ⟨id, cs, h1, rfl, h2, h3, h4⟩⟩ := hw
  · refine (apK_full ..).mpr ⟨by rw [hz]; decide, by rw [hb]; decide, hsrc _ ⟨by simp [Sized], one, by rw [hb]; simpa using hlen, fun hn => ?_, fun hn => ?_⟩⟩
    · have : m = [] := by simpa using hn
      subst this
      exact hk _ _ (.nil hs)
    · refine .oa hz (by rw [hf]; simp [fit, byteA, Value.oneCell']) (by rw [hf]; rfl) (noAgg_bytes m) fun id k hid => ?_
      refine hk _ _ ⟨hs.new hid _, .inr ⟨id, _, hs.none hid, ?_, upd_same .., ?_, ?_⟩⟩
      · simp
      · simp
      · simp [List.take_append_of_le_length]
  · refine ⟨by rw [hz]; decide, by rw [hb]; decide, hz, hsrc _ ⟨by rw [← hz]; exact one, noAgg_bytes m, by rw [hb]; simpa using hlen, ?_⟩⟩
    rw [h2]
    refine ⟨by omega, ?_, by rw [hf]; simp [fit, byteA, Value.oneCell'], by rw [hf]; rfl, fun hle => ?_, fun id' k hid => ?_⟩
    · rw [List.drop_zero, h4]; exact noAgg_bytes l
    · rw [List.length_map] at hle ⊢
      have hsub : Sub h0 (upd h id (some (.obj (over cs (0 + l.length) (m.map byteA)) tb))) := fun j b hj => by
        by_cases e : j = id
        · subst e; rw [h1] at hj; cases hj
        · rw [upd_other _ _ e]; exact hs _ _ hj
      have ho : (over cs (0 + l.length) (m.map byteA)).length = cs.length := over_length (by simpa using hle)
      refine hk _ _ ⟨hsub, .inr ⟨id, _, h1, by rw [List.length_append], upd_same .., by rw [ho, List.length_append]; omega, ?_⟩⟩
      rw [over, Nat.zero_add, h4, List.map_append, List.length_append, List.take_append_of_le_length (by simp), ← List.map_append]
      exact List.take_of_length_le (by simp)
    · rw [List.length_map]
      refine hk _ _ ⟨hs.new hid _, .inr ⟨id', _, hs.none hid, by rw [List.length_append], upd_same .., ?_, ?_⟩⟩
      · rw [List.drop_zero, h4]; simp
      · rw [List.drop_zero, h4, ← List.map_append, List.take_append_of_le_length (by simp)]
        exact List.take_of_length_le (by simp)
theorem Wr.put (hw : Wr tb h0 h y l) (hz : (U tb).sz = 1) (j : Nat) (hj : j < l.length) {K : AV → Prop} {x : IntKind} (hk : ∀ id cs, y = .oa id 0 l.length → h0 id = none → h id = some (.obj cs tb) → l.length ≤ cs.length → cs.take l.length = l.map byteA → K (.ptr id j)) : iaddrK U y (.v (.int x (j : Nat))) K (.slice tb) := by
  obtain ⟨hs, ⟨rfl, rfl⟩ | ⟨id, cs, h1, rfl, h2, h3, h4⟩⟩ := hw
  · cases hj
  · refine (iaddrK_oa ..).mpr ⟨by rw [hz]; decide, by omega, by omega, ?_⟩
    rw [hz, Nat.zero_add, Nat.mul_one]
    exact hk id cs rfl h1 h2 h3 h4
end
end Go.Ab

set_option linter.unusedSimpArgs false
set_option linter.unusedVariables false
namespace Go.Ab
open Go
section
variable {U : TypeId → TI} {ty : TypeId} {K : AV → Prop}
end
end Go.Ab

set_option linter.unusedSimpArgs false
set_option linter.unusedVariables false
namespace Go.Ab
open Go
section
variable {P : Program} {U : TypeId → TI} {n : Nat} {ρ : Env} {h : Heap}
def litC (U : TypeId → TI) (n : Nat) (ρ : Env) (o o' : Oper) (K : Env → Prop) : Prop := match o.dst, o.op, o'.op with
  | some d, .buildSlice ty len parts, .convert s s' (.tmp t) => o.guard = none ∧ o'.guard = none ∧ s = ty ∧ s' = ty ∧ t = d ∧ d < n ∧ dstOK n o'.dst = true ∧ match (U ty).k with
    | .slice e => (U e).k = .int .u8 ∧ (U e).sz = 1 ∧ 0 < len ∧ len ≤ 4096 ∧ parts.toList.map (·.1) = List.range len ∧ withvs ρ (parts.toList.map (·.2)) fun xs => fits 1 xs ∧ K (put (put ρ (some d) (.sl xs .full)) o'.dst (.sl xs .full))
    | _ => False
  | _, _, _ => False
def vcOpsC (P : Program) (U : TypeId → TI) (n : Nat) (all : List Oper) : List Bool → List Oper → Env → Heap → (Env → Heap → Prop) → Prop
  | true :: bs, o :: o' :: r, ρ, h, K => litC U n ρ o o' fun ρ => vcOpsC P U n all bs r ρ h K
  | false :: bs, o :: r, ρ, h, K => dstOK n o.dst = true ∧ o.guard = none ∧ vcOp P U ρ h o (KOp (fun ρ h => vcOpsC P U n all bs r ρ h K) ρ o.dst)
  | [], l, ρ, h, K => vcOps P U n all l ρ h K
  | _, _, _, _, _ => False
section
variable (all : List Oper) (bs : List Bool) (r : List Oper) (K : Env → Heap → Prop)
@[go_sem ↓] theorem c_pair (o o' : Oper) : vcOpsC P U n all (true :: bs) (o :: o' :: r) ρ h K = litC U n ρ o o' fun ρ => vcOpsC P U n all bs r ρ h K := rfl
def KOpC (P : Program) (U : TypeId → TI) (n : Nat) (all : List Oper) (bs : List Bool) (r : List Oper) (K : Env → Heap → Prop) (ρ : Env) (d : Option Tmp) (x : AV) (h : Heap) : Prop := vcOpsC P U n all bs r (put ρ d x) h K
@[go_sem ↓] theorem KOpC_eq (d : Option Tmp) (x : AV) : KOpC P U n all bs r K ρ d x h = vcOpsC P U n all bs r (put ρ d x) h K := rfl
@[go_sem ↓] theorem c_one (d : Option Tmp) (op : Op) (t : TypeId) (p : String) (a : Array Edge) : vcOpsC P U n all (false :: bs) (⟨d, op, t, p, a, none⟩ :: r) ρ h K = (dstOK n d = true ∧ vcOp P U ρ h ⟨d, op, t, p, a, none⟩ (KOpC P U n all bs r K ρ d)) := by
  simp only [vcOpsC, true_and]
  rfl
@[go_sem ↓] theorem c_rest (l : List Oper) : vcOpsC P U n all [] l ρ h K = vcOps P U n all l ρ h K := by cases l <;> rfl
@[go_sem ↓] theorem c_lit (d : Nat) (d' : Option Tmp) (ty : TypeId) (len : Nat) (parts : List (Nat × Operand)) (t t' : TypeId) (p p' : String) (a a' : Array Edge) (k : Env → Prop) : litC U n ρ ⟨some d, .buildSlice ty len parts.toArray, t, p, a, none⟩ ⟨d', .convert ty ty (.tmp d), t', p', a', none⟩ k =
    (d < n ∧ dstOK n d' = true ∧ match (U ty).k with
    | .slice e => (U e).k = .int .u8 ∧ (U e).sz = 1 ∧ 0 < len ∧ len ≤ 4096 ∧ parts.map (·.1) = List.range len ∧ withvs ρ (parts.map (·.2)) fun xs => fits 1 xs ∧ k (put (put ρ (some d) (.sl xs .full)) d' (.sl xs .full))
    | _ => False) := by
  simp only [litC, true_and]
end
theorem FnOK.of_wp {f : FuncId} {fn : Func} {c : Code} {args : List AV} {Q : AV → Heap → Prop} (hU : ∀ t, AgreeT P U t) (hf : P.funcs[f]? = some fn) (hb : fn.body = some c)
    (hn : (fn.name == "runtime.NumGoroutine") = false) (m : Nat) (hm' : fn.ntmps = m) (rs : List ResultVar) (hr : fn.results.toList = rs) (hl : args.length ≤ m)
    (hk : WP P m c (envOf args) h (bodyK U rs Q)) : FnOK P f args h Q := by
  subst hm'; subst hr
  exact FnOK.of_wp0 hU hf hb hn hl fun _ => hk
end
end Go.Ab

set_option linter.unusedSimpArgs false
set_option linter.unusedVariables false
namespace Go.Ab
open Go
section
variable {P : Program} {U : TypeId → TI} {n : Nat} {ρ : Env} {h : Heap}
def KCut (I : Env → Heap → Prop) (K : Exit → Env → Heap → Prop) : Exit → Env → Heap → Prop := KSeq I K
@[go_sem ↓] theorem KCut_ret (I : Env → Heap → Prop) (K : Exit → Env → Heap → Prop) : KCut I K .ret ρ h = K .ret ρ h := rfl
@[go_sem ↓] theorem KCut_exit (I : Env → Heap → Prop) (K : Exit → Env → Heap → Prop) (i : Nat) : KCut I K (.exit i) ρ h = K (.exit i) ρ h := rfl
@[go_sem ↓] theorem KCut_goto (I : Env → Heap → Prop) (K : Exit → Env → Heap → Prop) (i : Nat) : KCut I K (.goto i) ρ h = K (.goto i) ρ h := rfl
theorem KCut.at {I : Env → Heap → Prop} {K : Exit → Env → Heap → Prop} (hi : I ρ h) : KCut I K .normal ρ h := hi
theorem WP.cut {c d : Code} {K : Exit → Env → Heap → Prop} (I : Env → Heap → Prop) (hc : WP P n c ρ h (KCut I K)) (hd : ∀ ρ h, I ρ h → WP P n d ρ h K) : WP P n (.seq c d) ρ h K :=
  WP.seq (hc.weaken fun e ρ h hk => by
    cases e with
    | normal => exact hd ρ h hk
    | _ => exact hk)
theorem WP.vc (hU : ∀ t, AgreeT P U t) (hm : P.follows .mixedOrders = true) {c : Code} {K : Exit → Env → Heap → Prop} (hk : vcCode P U n c ρ h K) : WP P n c ρ h K := vcCode_sound hU hm c ρ h K hk
def KNext (P : Program) (n : Nat) (d : Code) (K : Exit → Env → Heap → Prop) : Exit → Env → Heap → Prop := KSeq (WP P n d · · K) K
@[go_sem ↓] theorem KNext_normal (d : Code) (K : Exit → Env → Heap → Prop) : KNext P n d K .normal ρ h = WP P n d ρ h K := rfl
@[go_sem ↓] theorem KNext_ret (d : Code) (K : Exit → Env → Heap → Prop) : KNext P n d K .ret ρ h = K .ret ρ h := rfl
@[go_sem ↓] theorem KNext_exit (d : Code) (K : Exit → Env → Heap → Prop) (i : Nat) : KNext P n d K (.exit i) ρ h = K (.exit i) ρ h := rfl
@[go_sem ↓] theorem KNext_goto (d : Code) (K : Exit → Env → Heap → Prop) (i : Nat) : KNext P n d K (.goto i) ρ h = K (.goto i) ρ h := rfl
theorem WP.one (hU : ∀ t, AgreeT P U t) (hm : P.follows .mixedOrders = true) {c d : Code} {K : Exit → Env → Heap → Prop} (hk : vcCode P U n c ρ h (KNext P n d K)) : WP P n (.seq c d) ρ h K := WP.seq (vcCode_sound hU hm c ρ h _ hk)
@[go_sem high] theorem bx8 (x y : UInt8) (ty : TypeId) (K : AV → Prop) : binA U .xor ty (.v (.int .u8 (x.toNat : Int))) (.v (.int .u8 (y.toNat : Int))) K = K (.v (.int .u8 ((x ^^^ y).toNat : Int))) := by
  rw [b_xor]
  congr 3
  have e : ∀ z : UInt8, BitVec.ofInt IntKind.u8.bits (z.toNat : Int) = z.toBitVec := fun z => by
    show BitVec.ofInt 8 (z.toNat : Int) = z.toBitVec
    rw [ofInt_nat]
    apply BitVec.eq_of_toNat_eq
    have := z.toNat_lt
    simp
  rw [e, e]
  show IntKind.u8.wrap (((x.toBitVec ^^^ y.toBitVec).toNat : Nat) : Int) = _
  rw [w8]
  simp
end
end Go.Ab

set_option linter.unusedSimpArgs false
set_option linter.unusedVariables false
namespace Go.Ab
open Go
section
variable {P : Program} {U : TypeId → TI} {n : Nat} {ρ : Env} {h : Heap}
variable {d : Option Tmp} {t : TypeId} {p : String} {a : Array Edge} {g : Option (Nat × Bool)} {Q : AV → Heap → Prop} {k : AV → Prop}
@[go_sem] theorem atK_map (x y : TypeId) (k : TK → Prop) : atK (.map x y) k = k (.map x y) := rfl
@[go_sem] theorem cells_mp (i : Nat) : AV.cells (.mp i) = [.mp i] := rfl
@[go_sem] theorem isAgg_mp (i : Nat) : isAggA (.mp i) = false := rfl
@[go_sem] theorem fit_mp (i m : Nat) : fit (.mp i) m = (m = 1) := rfl
@[go_sem] theorem keyOK_s (l : List UInt8) : keyOK .str (.s l) = (l.length ≤ maxLen) := rfl
@[go_sem] theorem keyOK_i (q q' : IntKind) (m : Int) : keyOK (.int q) (.v (.int q' m)) = (q' = q ∧ (Lit.int q m).wf = true) := rfl
def mpL (b : Blk) (f : List (AV × AV) → Prop) : Prop := match b with
  | .mp m => f m
  | _ => False
@[go_sem ↓] theorem mpL_eq (m : List (AV × AV)) (f : List (AV × AV) → Prop) : mpL (.mp m) f = f m := rfl
def KeysA (tk : TK) (m : List (AV × AV)) : Prop := ∀ p ∈ m, keyOK tk p.1
def UnitOr (ti : TI) : Prop := ti.sz ≠ 0 ∨ ti.k = .strct []
def lookK (U : TypeId → TI) (h : Heap) (u v : AV) (ok : Bool) (k : AV → Prop) (tk : TK) : Prop := match tk, u with
  | .map kt e, .mp id => keyOK (U kt).k v ∧ UnitOr (U e) ∧ bindO (h id) fun b => mpL b fun m => KeysA (U kt).k m ∧ k (lookM U e m v ok)
  | _, _ => False
@[go_sem ↓] theorem lookK_mp (kt e : TypeId) (id : Nat) (v : AV) (ok : Bool) : lookK U h (.mp id) v ok k (.map kt e) = (keyOK (U kt).k v ∧ UnitOr (U e) ∧ bindO (h id) fun b => mpL b fun m => KeysA (U kt).k m ∧ k (lookM U e m v ok)) := rfl
@[go_sem ↓] theorem o_lookup (mt : TypeId) (x y : Operand) (ok : Bool) : vcOp P U ρ h ⟨d, .lookup mt x y ok, t, p, a, g⟩ Q = bindO (ev ρ x) fun u => bindO (ev ρ y) fun v => atK (U mt).k (lookK U h u v ok (atH Q h)) := by
  simp only [vcOp, pv, withv_eq, atK]
  congr 1
  funext u
  congr 1
  funext v
  cases (U mt).k with
  | map kt e =>
    cases u with
    | mp id =>
      simp only [lookK]
      congr 2
      cases h id with
      | none => rfl
      | some b => cases b <;> rfl
    | _ => rfl
  | _ => rfl
def putK (U : TypeId → TI) (h : Heap) (u v w : AV) (Q : AV → Heap → Prop) (tk : TK) : Prop := match tk, u with
  | .map kt e, .mp id => keyOK (U kt).k v ∧ bindO (h id) fun b => mpL b fun m => KeysA (U kt).k m ∧ Q (.v undef) (upd h id (some (.mp (setM m v w))))
  | _, _ => False
@[go_sem ↓] theorem putK_mp (kt e : TypeId) (id : Nat) (v w : AV) : putK U h (.mp id) v w Q (.map kt e) = (keyOK (U kt).k v ∧ bindO (h id) fun b => mpL b fun m => KeysA (U kt).k m ∧ Q (.v undef) (upd h id (some (.mp (setM m v w))))) := rfl
@[go_sem ↓] theorem o_mapUpdate (mt : TypeId) (x y z : Operand) : vcOp P U ρ h ⟨d, .mapUpdate mt x y z, t, p, a, g⟩ Q = bindO (ev ρ x) fun u => bindO (ev ρ y) fun v => bindO (ev ρ z) fun w => atK (U mt).k (putK U h u v w Q) := by
  simp only [vcOp, withv_eq, atK]
  congr 1
  funext u
  congr 1
  funext v
  congr 1
  funext w
  cases (U mt).k with
  | map kt e =>
    cases u with
    | mp id =>
      simp only [putK]
      congr 1
      cases h id with
      | none => rfl
      | some b => cases b <;> rfl
    | _ => rfl
  | _ => rfl
def NewMp (h : Heap) (Q : AV → Heap → Prop) : Prop := ∀ id, h id = none → Q (.mp id) (upd h id (some (.mp [])))
@[go_sem ↓] theorem o_makeMap (mt : TypeId) : vcOp P U ρ h ⟨d, .makeMap mt none, t, p, a, g⟩ Q = NewMp h Q := by
  simp only [vcOp, roomM, true_and]; rfl
@[go_sem ↓] theorem o_makeMap_i (mt : TypeId) (q : IntKind) (m : Int) : vcOp P U ρ h ⟨d, .makeMap mt (some (.const (.int q m))), t, p, a, g⟩ Q = ((∃ kt e, (U mt).k = .map kt e) ∧ NewMp h Q) := by
  simp only [vcOp, roomM, withv_eq]
  have : bindO (ev ρ (.const (.int q m))) (fun a => ∃ kk n, a = AV.v (.int kk n)) = True := by
    simp [ev, ofV, ofV1, bindO]
  rw [this, and_true]; rfl
@[go_sem] theorem effB_lookup (mt : TypeId) (x y : Operand) (ok : Bool) : effB (.lookup mt x y ok) = false := rfl
@[go_sem] theorem effB_makeMap (mt : TypeId) (r : Option Operand) : effB (.makeMap mt r) = true := rfl
@[go_sem] theorem effB_mapUpdate (mt : TypeId) (x y z : Operand) : effB (.mapUpdate mt x y z) = true := rfl
@[go_sem ↓] theorem OneH_lookup (all : List Oper) (hm : Heap) (is : List Nat) (K : Env → Heap → Prop) (mt : TypeId) (x y : Operand) (ok : Bool) : OneH P U n all hm is K ρ h ⟨d, .lookup mt x y ok, t, p, a, g⟩ false = vcOp P U ρ hm ⟨d, .lookup mt x y ok, t, p, a, g⟩ (constH (KDrH P U n all hm is K ρ d) h) := OneH_false rfl rfl
end
def setA (ls : List (List UInt8)) : List (AV × AV) := ls.map fun l => (.s l, .agg [])
theorem getM_set (ls : List (List UInt8)) (l : List UInt8) : getM (setA ls) (.s l) = if l ∈ ls then some (.agg []) else none := by
  induction ls with
  | nil => rfl
  | cons x ls ih =>
    simp only [getM, setA, List.map_cons, List.find?_cons, keyE] at ih ⊢
    by_cases e : x = l
    · subst e; simp
    · have : (x == l) = false := by simpa using e
      rw [this]
      simp only
      rw [ih]
      simp [Ne.symm e]
theorem setM_new {ls : List (List UInt8)} {l : List UInt8} (hn : l ∉ ls) : setM (setA ls) (.s l) (.agg []) = setA (ls ++ [l]) := by
  unfold setM
  rw [getM_set, if_neg hn]
  simp [setA]
theorem lookM_set (U : TypeId → TI) (e : TypeId) (he : (U e).sz = 0) (ls : List (List UInt8)) (l : List UInt8) : lookM U e (setA ls) (.s l) true = .tup [.agg [], .v (.bool (decide (l ∈ ls)))] := by
  simp only [lookM, getM_set, zeroE, he, if_true]
  by_cases h : l ∈ ls
  · simp [h]
  · simp [h]
theorem keysA_set {ls : List (List UInt8)} (h : ∀ l ∈ ls, l.length ≤ maxLen) : KeysA .str (setA ls) := fun p hp => by
  obtain ⟨l, hl, rfl⟩ := List.mem_map.1 hp
  exact h l hl
end Go.Ab

set_option linter.unusedSimpArgs false
set_option linter.unusedVariables false
namespace Go.Ab
open Go
section
variable {P : Program} {f : FuncId} {args : List AV} {h h' : Heap} {Q : AV → Heap → Prop}
theorem Ext.below {c : Cx} {w' : World} (hb : Go.RowKit.Below c.w.heap.size c.w w') : Ext c { c with w := w' } where
  os := hb.os
  tape := hb.tape
  output := hb.output
  size := hb.size
  block := fun b h _ => hb.block b h
  cell := fun b o h _ => by
    show w'.cell? _ = _
    simp only [World.cell?, hb.block b h]
  shape := fun b cs t fr h => ⟨cs, fr, (hb.block b (lt_of_get h)).trans h, rfl⟩
  steal := fun _ _ _ h => h
  obj := fun _ cs _ h => ⟨rfl, cs, h, rfl⟩
  spare := fun _ n _ h => ⟨n, h, .inl ⟨rfl, rfl⟩⟩
  mp := fun _ m h => ⟨rfl, m, h⟩
  ro := fun _ _ _ h => ⟨rfl, h⟩
theorem Good.below {c : Cx} (g : Good c) {w' : World} (hb : Go.RowKit.Below c.w.heap.size c.w w') : Good { c with w := w' } where
  fin := g.fin
  inj := g.inj
  obj := fun id cs t h => by
    obtain ⟨vs, a1, a2, a3⟩ := g.obj id cs t h
    exact ⟨vs, (hb.block _ (lt_of_get a1)).trans a1, a2, fun j hj => ⟨(a3 j hj).1.mono (.below hb), (a3 j hj).2⟩⟩
  spare := fun id n sz h => by
    obtain ⟨a0, vs, t, fr, a1, a2⟩ := g.spare id n sz h
    exact ⟨a0, vs, t, fr, (hb.block _ (lt_of_get a1)).trans a1, a2⟩
  mp := fun id m h => by
    obtain ⟨es, cl, a1, a2, a3⟩ := g.mp id m h
    exact ⟨es, cl, (hb.block _ (lt_of_get a1)).trans a1, a2, fun i hi hi' => ⟨(a3 i hi hi').1, (a3 i hi hi').2.mono (.below hb)⟩⟩
  keys := g.keys
  ro := fun id b vs h => g.ro_mono (.below hb) h
theorem FnOK.lib {X : AV} (hc : callable P f) (hf : ∀ c (vs : Array Value), Sub h c.h → Good c → vs.size = args.length → (∀ i (hi : i < args.length), Rep c args[i] (vs.getD i undef)) →
    Calls P f vs c.w fun e w' => (∃ u, e = .returned u ∧ ∀ c', Ext c c' → Rep c' X u) ∧ Go.RowKit.Below c.w.heap.size c.w w') : FnOK P f args h fun r h' => r = X ∧ h' = h := by
  refine ⟨hc, fun c vs hs g h1 h2 => (hf c vs hs g h1 h2).mono ?_⟩
  rintro e w' ⟨⟨u, rfl, hu⟩, hb⟩
  exact ⟨u, rfl, { c with w := w' }, X, h, rfl, g.below hb, .below hb, hu _ (.below hb), hs, rfl, rfl⟩
def Tab (h : Heap) (b : Nat) (vs : List Value) : Prop := ∃ id, h id = some (.ro b vs)
theorem Tab.sub {b : Nat} {vs : List Value} (ht : Tab h b vs) (hs : Sub h h') : Tab h' b vs := let ⟨id, hi⟩ := ht; ⟨id, hs _ _ hi⟩
theorem Tab.keep {b : Nat} {vs : List Value} {id : Nat} (ht : Tab h b vs) (hs : Keep id h h') (hn : ∀ vs, h id ≠ some (.ro b vs)) : Tab h' b vs := by
  obtain ⟨j, hj⟩ := ht
  exact ⟨j, hs j _ (fun e => by subst e; exact hn _ hj) hj⟩
end
def tabH (ts : List (Nat × List Value)) : Heap := fun i => (ts[i]?).map fun p => .ro p.1 p.2
def cxT (w : World) (ts : List (Nat × List Value)) : Cx := ⟨w, fun i => ⟨((ts[i]?).map (·.1)).getD 0, 0, none⟩, tabH ts⟩
theorem ownedT (w : World) (ts : List (Nat × List Value)) (b o : Nat) : ¬ owned (cxT w ts) b o := by
  rintro ⟨id, k, h, _, h3⟩
  simp only [cxT, tabH, Option.map_eq_some_iff] at h
  obtain ⟨p, _, rfl⟩ := h
  exact h3
theorem goodT (w : World) (ts : List (Nat × List Value)) (hd : ts.Pairwise fun p q => p.1 ≠ q.1) (ht : ∀ p ∈ ts, ∃ (t : TypeId) (fr : Nat × Nat), w.heap[p.1]? = some (.cells p.2.toArray t fr)) : Good (cxT w ts) where
  fin := ⟨ts.length, fun id h => by simp [cxT, tabH, List.getElem?_eq_none h]⟩
  inj := fun i j k l h1 h2 hne => by
    simp only [cxT, tabH, Option.map_eq_some_iff] at h1 h2
    obtain ⟨p, hp, rfl⟩ := h1
    obtain ⟨q, hq, rfl⟩ := h2
    simp only [cxT, hp, hq, Option.map_some, Option.getD_some]
    obtain ⟨hi, rfl⟩ := List.getElem?_eq_some_iff.1 hp
    obtain ⟨hj, rfl⟩ := List.getElem?_eq_some_iff.1 hq
    rw [List.pairwise_iff_getElem] at hd
    rcases Nat.lt_or_gt_of_ne hne with h | h
    · exact hd i j hi hj h
    · exact fun e => hd j i hj hi h e.symm
  obj := fun id cs t h => by
    simp only [cxT, tabH, Option.map_eq_some_iff] at h
    obtain ⟨p, _, h⟩ := h; cases h
  spare := fun id n sz h => by
    simp only [cxT, tabH, Option.map_eq_some_iff] at h
    obtain ⟨p, _, h⟩ := h; cases h
  mp := fun id m h => by
    simp only [cxT, tabH, Option.map_eq_some_iff] at h
    obtain ⟨p, _, h⟩ := h; cases h
  keys := fun id m h => by
    simp only [cxT, tabH, Option.map_eq_some_iff] at h
    obtain ⟨p, _, h⟩ := h; cases h
  ro := fun id b vs h => by
    simp only [cxT, tabH, Option.map_eq_some_iff] at h
    obtain ⟨p, hp, h⟩ := h
    cases h
    refine ⟨by simp [cxT, hp], ht p (List.mem_of_getElem? hp)⟩
theorem FnOK.callsT {P : Program} {f : FuncId} {args : List AV} {b : Value} {vs : Array Value} {w : World} {ts : List (Nat × List Value)} (hf : FnOK P f args (tabH ts) fun r _ => r = .v b) (hd : ts.Pairwise fun p q => p.1 ≠ q.1)
    (ht : ∀ p ∈ ts, ∃ (t : TypeId) (fr : Nat × Nat), w.heap[p.1]? = some (.cells p.2.toArray t fr)) (hv : vs.size = args.length) (hr : ∀ i (hi : i < args.length), Rep (cx0 w) args[i] (vs.getD i undef)) :
    Calls P f vs w fun e w' => e = .returned b ∧ Go.RowKit.Below w.heap.size w w' := by
  have hE : Ext (cx0 w) (cxT w ts) := ⟨rfl, rfl, rfl, Nat.le_refl _, fun _ _ _ => rfl, fun _ _ _ _ => rfl, fun _ cs _ fr h => ⟨cs, fr, h, rfl⟩, fun b o _ h => (ownedT w ts b o h).elim,
    fun _ _ _ h => (by cases h), fun _ _ _ h => (by cases h), fun _ _ h => (by cases h), fun _ _ _ h => (by cases h)⟩
  refine (hf.2 (cxT w ts) vs (fun _ _ h => h) (goodT w ts hd ht) hv fun i hi => (hr i hi).mono hE).mono ?_
  rintro e w' ⟨u, rfl, c', x, h', rfl, g', hE, hx, hs, rfl⟩
  rw [hx.v_inv]
  exact ⟨rfl, hE.os, hE.tape, hE.output, hE.size, fun k hk => hE.block k hk fun o => ownedT w ts k o⟩
end Go.Ab

set_option linter.unusedSimpArgs false
set_option linter.unusedVariables false
namespace Go.Ab
open Go
mutual
def strip : AV → AV
  | .sl xs _ => .sl (stripL xs) .no
  | .agg xs => .agg (stripL xs)
  | .tup xs => .tup (stripL xs)
  | .v x => .v x
  | .s l => .s l
  | .pe x o => .pe x o
  | .ptr i o => .ptr i o
  | .oa i o l => .oa i o l
  | .ifc t x => .ifc t x
  | .fn f c => .fn f c
  | .mp i => .mp i
def stripL : List AV → List AV
  | [] => []
  | x :: r => strip x :: stripL r
end
theorem stripL_length : ∀ xs : List AV, (stripL xs).length = xs.length
  | [] => rfl
  | x :: r => by simp [stripL, stripL_length r]
theorem stripL_get : ∀ (xs : List AV) (i : Nat) (h1 : i < xs.length) (h2 : i < (stripL xs).length), (stripL xs)[i] = strip xs[i]
  | x :: r, 0, h1, h2 => by simp [stripL]
  | x :: r, i + 1, h1, h2 => by simpa [stripL] using stripL_get r i (by simpa using h1) (by simpa [stripL] using h2)
theorem strip_cells (x : AV) : (strip x).cells = match x with | .agg xs => stripL xs | _ => [strip x] := by
  cases x <;> simp [strip, AV.cells]
mutual
theorem weak_strip : ∀ x : AV, Weak x (strip x)
  | .sl xs p => .deep _ _ p (stripL_length xs).symm (fun i h1 h2 => by
        rw [stripL_get xs i h1 h2, strip_cells]
        have := weak_stripC xs i h1
        cases hx : xs[i] <;> simp [AV.cells, stripL_length])
      (fun i h1 h2 j h3 h4 => by
        have hw := weak_stripC xs i h1
        have e := stripL_get xs i h1 h2
        exact hw (stripL xs)[i] e j h3 h4)
  | .agg xs => .agg _ _ (stripL_length xs).symm fun i h1 h2 => by rw [stripL_get xs i h1 h2]; exact weak_stripL xs i h1
  | .tup xs => .tup _ _ (stripL_length xs).symm fun i h1 h2 => by rw [stripL_get xs i h1 h2]; exact weak_stripL xs i h1
  | .v x => .refl _
  | .s l => .refl _
  | .pe x o => .refl _
  | .ptr i o => .refl _
  | .oa i o l => .refl _
  | .ifc t x => .refl _
  | .fn f c => .refl _
  | .mp i => .refl _
theorem weak_stripL : ∀ (xs : List AV) (i : Nat) (h : i < xs.length), Weak xs[i] (strip xs[i])
  | x :: r, 0, h => weak_strip x
  | x :: r, i + 1, h => weak_stripL r i (by simpa using h)
theorem weak_stripC : ∀ (xs : List AV) (i : Nat) (h : i < xs.length) (y : AV), y = strip xs[i] → ∀ (j : Nat) (h3 : j < xs[i].cells.length) (h4 : j < y.cells.length), Weak xs[i].cells[j] y.cells[j]
  | x :: r, 0, h, y, e, j, h3, h4 => weak_cells x y e j h3 h4
  | x :: r, i + 1, h, y, e, j, h3, h4 => weak_stripC r i (by simpa using h) y e j h3 h4
theorem weak_cells : ∀ (x y : AV), y = strip x → ∀ (j : Nat) (h3 : j < x.cells.length) (h4 : j < y.cells.length), Weak x.cells[j] y.cells[j]
  | .agg xs, y, e, j, h3, h4 => by
    subst e
    simp only [strip, AV.cells] at h4 ⊢
    rw [stripL_get xs j h3 h4]
    exact weak_stripL xs j h3
  | .sl xs p, y, e, j, h3, h4 => by
    subst e
    simp only [strip, AV.cells, List.length_singleton] at h3 h4 ⊢
    obtain rfl : j = 0 := by omega
    exact .deep _ _ p (stripL_length xs).symm (fun i h1 h2 => by
        rw [stripL_get xs i h1 h2, strip_cells]
        cases hx : xs[i] <;> simp [AV.cells, stripL_length])
      (fun i h1 h2 j h3 h4 => weak_stripC xs i h1 _ (stripL_get xs i h1 h2) j h3 h4)
  | .tup xs, y, e, j, h3, h4 => by
    subst e
    simp only [strip, AV.cells, List.length_singleton] at h3 h4 ⊢
    obtain rfl : j = 0 := by omega
    exact .tup _ _ (stripL_length xs).symm fun i h1 h2 => by rw [stripL_get xs i h1 h2]; exact weak_stripL xs i h1
  | .v x, y, e, j, h3, h4 => by subst e; exact .refl _
  | .s l, y, e, j, h3, h4 => by subst e; exact .refl _
  | .pe x o, y, e, j, h3, h4 => by subst e; exact .refl _
  | .ptr i o, y, e, j, h3, h4 => by subst e; exact .refl _
  | .oa i o l, y, e, j, h3, h4 => by subst e; exact .refl _
  | .ifc t x, y, e, j, h3, h4 => by subst e; exact .refl _
  | .fn f c, y, e, j, h3, h4 => by subst e; exact .refl _
  | .mp i, y, e, j, h3, h4 => by subst e; exact .refl _
end
section
variable {P : Program} {U : TypeId → TI} {n : Nat} {ρ : Env} {h0 h h' : Heap} {tb : TypeId} {y v : AV} {xs zs : List AV} {Q : AV → Heap → Prop} {f : FuncId} {args : List AV}
theorem FnOK.strip (hf : FnOK P f (stripL args) h Q) : FnOK P f args h Q := hf.weak (stripL_length args).symm fun i h1 h2 => by rw [stripL_get args i h1 h2]; exact weak_strip _
def One (xs : List AV) : Prop := ∀ x ∈ xs, isAggA x = false
theorem cells_one {x : AV} (h : isAggA x = false) : x.cells = [x] := by cases x <;> first | rfl | (cases h)
theorem One.sized (h : One xs) : Sized 1 xs := fun z hz => by rw [cells_one (h z hz)]; rfl
theorem One.app (h1 : One xs) (h2 : One zs) : One (xs ++ zs) := fun x hx => by
  rcases List.mem_append.1 hx with h | h
  · exact h1 x h
  · exact h2 x h
theorem One.take (h1 : One xs) (n : Nat) : One (xs.take n) := fun x hx => h1 x (List.mem_of_mem_take hx)
theorem One.drop (h1 : One xs) (n : Nat) : One (xs.drop n) := fun x hx => h1 x (List.mem_of_mem_drop hx)
theorem One.map {α : Type} {g : α → AV} (hg : ∀ a, isAggA (g a) = false) (l : List α) : One (l.map g) := fun x hx => by
  obtain ⟨a, _, rfl⟩ := List.mem_map.1 hx
  exact hg a
def SeqA (tb : TypeId) (h : Heap) (y : AV) (xs : List AV) : Prop :=
  (∃ q, y = .sl xs q) ∨ ∃ id off cs, y = .oa id off xs.length ∧ h id = some (.obj cs tb) ∧ off + xs.length ≤ cs.length ∧ (cs.drop off).take xs.length = xs
theorem SeqA.sl (xs : List AV) (q : Perm) : SeqA tb h (.sl xs q) xs := .inl ⟨q, rfl⟩
theorem SeqA.sub (hb : SeqA tb h y xs) (hs : Sub h h') : SeqA tb h' y xs := by
  rcases hb with hb | ⟨id, off, cs, rfl, h1, h2⟩
  · exact .inl hb
  · exact .inr ⟨id, off, cs, rfl, hs _ _ h1, h2⟩
theorem SeqA.len (hb : SeqA tb h y xs) (e : TypeId) (k : AV → Prop) : lenK y k (.slice e) = k (.v (.int .i64 xs.length)) := by
  rcases hb with ⟨q, rfl⟩ | ⟨id, off, cs, rfl, _⟩ <;> rfl
theorem SeqA.cells (hb : SeqA tb h y xs) : y.cells = [y] := by
  rcases hb with ⟨q, rfl⟩ | ⟨id, off, cs, rfl, _⟩ <;> rfl
def AtP (U : TypeId → TI) (tb : TypeId) (h : Heap) (p x : AV) : Prop := ∀ k : AV → Prop, loadA U h tb p k = k x
theorem SeqA.idx (hb : SeqA tb h y xs) (ho : One xs) {m : Int} {x : IntKind} {K : AV → Prop} (j : Nat) (hm : m = j) (hj : j < xs.length) (hz : (U tb).sz = 1) (ha : (U tb).k.agg = false)
    (hk : ∀ p, AtP U tb h p xs[j] → K p) : iaddrK U y (.v (.int x m)) K (.slice tb) := by
  subst hm
  have h1 := ho xs[j] (List.getElem_mem hj)
  rcases hb with ⟨q, rfl⟩ | ⟨id, off, cs, rfl, g1, g2, g3⟩
  · refine (iaddrK_sl ..).mpr ⟨by rw [hz]; decide, ?_⟩
    refine IdxE.at j hj (by rw [hz, cells_one h1]; rfl) ?_
    refine hk _ fun k => ?_
    simp only [loadA, atA_eq, ha, hz, cells_one h1, h1, List.length_cons, List.length_nil, Nat.zero_add, and_self, if_true]
  · refine (iaddrK_oa ..).mpr ⟨by rw [hz]; decide, by omega, by omega, ?_⟩
    refine hk _ fun k => ?_
    have e1 : cs[off + j]? = some xs[j] := by
      have := congrArg (fun q => q[j]?) g3
      simp only [List.getElem?_take, hj, if_true, List.getElem?_drop, List.getElem?_eq_getElem hj] at this
      exact this
    simp only [loadA, g1, bindO_some, objL_eq, hz, Nat.mul_one, Int.toNat_natCast, partA_eq, ha, Br, e1]
    simp
def WrA (tb : TypeId) (h0 h : Heap) (y : AV) (xs : List AV) : Prop :=
  Sub h0 h ∧ ((xs = [] ∧ y = .sl [] .full) ∨ ∃ id cs, h0 id = none ∧ y = .oa id 0 xs.length ∧ h id = some (.obj cs tb) ∧ xs.length ≤ cs.length ∧ cs.take xs.length = xs)
theorem WrA.nil (hs : Sub h0 h) : WrA tb h0 h (.sl [] .full) [] := ⟨hs, .inl ⟨rfl, rfl⟩⟩
theorem WrA.seq (hw : WrA tb h0 h y xs) : SeqA tb h y xs := by
  obtain ⟨_, ⟨rfl, rfl⟩ | ⟨id, cs, _, rfl, h1, h2, h3⟩⟩ := hw
  · exact .sl _ _
  · exact .inr ⟨id, 0, cs, rfl, h1, by omega, by simpa using h3⟩
theorem WrA.sub (hw : WrA tb h0 h y xs) (hs : Sub h h') : WrA tb h0 h' y xs := by
  obtain ⟨h1, hw | ⟨id, cs, a, e, b, c, d⟩⟩ := hw
  · exact ⟨h1.trans hs, .inl hw⟩
  · exact ⟨h1.trans hs, .inr ⟨id, cs, a, e, hs _ _ b, c, d⟩⟩
theorem WrA.base (hw : WrA tb h0 h y xs) {id : Nat} (hid : h id = none) (b : Option Blk) : WrA tb (upd h0 id b) (upd h id b) y xs := by
  obtain ⟨h1, hw⟩ := hw
  have h2 : Sub (upd h0 id b) (upd h id b) := fun j k hj => by
    by_cases e : j = id
    · subst e; rw [upd_same] at hj ⊢; exact hj
    · rw [upd_other _ _ e] at hj ⊢; exact h1 _ _ hj
  rcases hw with hw | ⟨i, cs, a, e, c, d⟩
  · exact ⟨h2, .inl hw⟩
  · have hne : i ≠ id := fun hh => by subst hh; rw [hid] at c; cases c
    exact ⟨h2, .inr ⟨i, cs, by rw [upd_other _ _ hne]; exact a, e, by rw [upd_other _ _ hne]; exact c, d⟩⟩
theorem WrA.less (hw : WrA tb h' h y xs) (hs : Sub h0 h') : WrA tb h0 h y xs := by
  obtain ⟨h1, hw | ⟨i, cs, a, e, c, d⟩⟩ := hw
  · exact ⟨hs.trans h1, .inl hw⟩
  · exact ⟨hs.trans h1, .inr ⟨i, cs, hs.none a, e, c, d⟩⟩
theorem WrA.len (hw : WrA tb h0 h y xs) (e : TypeId) (k : AV → Prop) : lenK y k (.slice e) = k (.v (.int .i64 xs.length)) := hw.seq.len e k
theorem WrA.idx (hb : WrA tb h0 h y xs) (ho : One xs) {m : Int} {x : IntKind} {K : AV → Prop} (j : Nat) (hm : m = j) (hj : j < xs.length) (hz : (U tb).sz = 1) (ha : (U tb).k.agg = false)
    (hk : ∀ p, AtP U tb h p xs[j] → K p) : iaddrK U y (.v (.int x m)) K (.slice tb) := hb.seq.idx ho j hm hj hz ha hk
theorem WrA.cut (hw : WrA tb h0 h y xs) {hi : Operand} {m : Int} {x : IntKind} {K : AV → Prop} (j : Nat) (hm : ev ρ hi = some (.v (.int x m))) (hj : m = j) (hl : j ≤ xs.length) (hz : (U tb).sz = 1)
    (hk : ∀ z, WrA tb h0 h z (xs.take j) → K z) : sliceK U ρ y none (some hi) none K (.slice tb) := by
  subst hj
  have hs := hw.1
  obtain ⟨_, ⟨rfl, rfl⟩ | ⟨id, cs, h1, rfl, h2, h3, h4⟩⟩ := hw
  · rw [sliceK_none, optA_some, hm]
    refine ⟨by rw [hz]; decide, ?_⟩
    simp only [bindO_some, intA_eq, Option.isSome_some, cutL_ft, Int.toNat_natCast]
    have : j = 0 := by simpa using hl
    subst this
    refine ⟨by omega, by simp, ?_⟩
    exact hk _ (.nil hs)
  · rw [sliceK_oa]
    refine ⟨by rw [hz]; decide, fun _ => hz, ?_⟩
    simp only [optA_none, optA_some, hm, bindO_some, intA_eq]
    refine ⟨by omega, by omega, by omega, ?_⟩
    simp only [Int.toNat_natCast, hz, Nat.mul_one]
    have e : (xs.take j).length = j := by simp; omega
    have := hk (.oa id 0 (xs.take j).length) ⟨hs, .inr ⟨id, cs, h1, rfl, h2, by omega, by rw [e, ← h4, List.take_take, Nat.min_eq_left hl]⟩⟩
    rw [e] at this
    simpa using this
theorem WrA.from (hw : WrA tb h0 h y xs) (ho : One xs) {lo : Operand} {m : Int} {x : IntKind} {K : AV → Prop} (j : Nat) (hm : ev ρ lo = some (.v (.int x m))) (hj : m = j) (hl : j ≤ xs.length) (hz : (U tb).sz = 1)
    (hk : ∀ z, SeqA tb h z (xs.drop j) → K z) : sliceK U ρ y (some lo) none none K (.slice tb) := by
  subst hj
  obtain ⟨_, ⟨rfl, rfl⟩ | ⟨id, cs, h1, rfl, h2, h3, h4⟩⟩ := hw
  · have : j = 0 := by simpa using hl
    subst this
    rw [sliceK_from, hm]
    refine ⟨by rw [hz]; decide, by simp [Sized], ?_⟩
    simp only [bindO_some, intA_eq, KV_eq]
    exact ⟨by omega, by simp, hk _ (.sl _ _)⟩
  · rw [sliceK_oa]
    refine ⟨by rw [hz]; decide, fun _ => hz, ?_⟩
    simp only [optA_none, optA_some, hm, bindO_some, intA_eq]
    refine ⟨by omega, by omega, by omega, ?_⟩
    simp only [Int.toNat_natCast, hz, Nat.mul_one, Nat.zero_add]
    have e : (xs.drop j).length = xs.length - j := by simp
    have := hk (.oa id j (xs.drop j).length) (.inr ⟨id, j, cs, rfl, h2, by omega, by rw [e, ← List.drop_take, h4]⟩)
    rw [e] at this
    simpa using this
theorem WrA.app (hw : WrA tb h0 h y xs) (ho : One xs) (hoz : One zs) (hz : (U tb).sz = 1) (hb : (U tb).bytes ≠ 0) (hf : fit (U tb).zero 1) (hn : isAggA (U tb).zero = false) (hsrc : ∀ k : List AV → Prop, k zs → srcA U tb h v k)
    (hlen : (xs.length + zs.length) * (U tb).bytes ≤ 140737488355328) (hk : ∀ y' h', WrA tb h0 h' y' (xs ++ zs) → Q y' h') : apK U h y v Q (.slice tb) := by
  have hs := hw.1
  have one : Sized (U tb).sz zs := by rw [hz]; exact hoz.sized
  obtain ⟨_, ⟨rfl, rfl⟩ | ⟨id, cs, h1, rfl, h2, h3, h4⟩⟩ := hw
  · refine (apK_full ..).mpr ⟨by rw [hz]; decide, hb, hsrc _ ⟨by simp [Sized], one, by simpa using hlen, fun hn' => ?_, fun hn' => ?_⟩⟩
    · subst hn'
      exact hk _ _ (.nil hs)
    · refine .oa hz hf hn hoz fun id k hid => ?_
      refine hk _ _ ⟨hs.new hid _, .inr ⟨id, _, hs.none hid, ?_, upd_same .., ?_, ?_⟩⟩
      · simp
      · simp
      · simp [List.take_append_of_le_length]
  · refine ⟨by rw [hz]; decide, hb, hz, hsrc _ ⟨by rw [← hz]; exact one, hoz, by simpa using hlen, ?_⟩⟩
    rw [h2]
    refine ⟨by omega, ?_, hf, hn, fun hle => ?_, fun id' k hid => ?_⟩
    · rw [List.drop_zero, h4]; exact ho
    · have hsub : Sub h0 (upd h id (some (.obj (over cs (0 + xs.length) zs) tb))) := fun j b hj => by
        by_cases e : j = id
        · subst e; rw [h1] at hj; cases hj
        · rw [upd_other _ _ e]; exact hs _ _ hj
      have ho' : (over cs (0 + xs.length) zs).length = cs.length := over_length (by omega)
      refine hk _ _ ⟨hsub, .inr ⟨id, _, h1, by rw [List.length_append], upd_same .., by rw [ho', List.length_append]; omega, ?_⟩⟩
      rw [over, Nat.zero_add, h4, List.length_append, List.take_append_of_le_length (by simp)]
      exact List.take_of_length_le (by simp)
    · refine hk _ _ ⟨hs.new hid _, .inr ⟨id', _, hs.none hid, by rw [List.length_append], upd_same .., ?_, ?_⟩⟩
      · rw [List.drop_zero, h4]; simp
      · rw [List.drop_zero, h4, List.take_append_of_le_length (by simp)]
        exact List.take_of_length_le (by simp)
theorem WrA.put (hw : WrA tb h0 h y xs) (hz : (U tb).sz = 1) (j : Nat) (hj : j < xs.length) {K : AV → Prop} {x : IntKind} (hk : ∀ id cs, y = .oa id 0 xs.length → h0 id = none → h id = some (.obj cs tb) → xs.length ≤ cs.length → cs.take xs.length = xs → K (.ptr id j)) : iaddrK U y (.v (.int x (j : Nat))) K (.slice tb) := by
  obtain ⟨hs, ⟨rfl, rfl⟩ | ⟨id, cs, h1, rfl, h2, h3, h4⟩⟩ := hw
  · cases hj
  · refine (iaddrK_oa ..).mpr ⟨by rw [hz]; decide, by omega, by omega, ?_⟩
    rw [hz, Nat.zero_add, Nat.mul_one]
    exact hk id cs rfl h1 h2 h3 h4
end
end Go.Ab

set_option linter.unusedVariables false
namespace Go.Bf
open Go Go.Ab
abbrev Txt := List UInt8
structure AttrD where
  cat : Int
  name : Txt
  must : Bool
structure ValD where
  kind : Int
  n : Int
  s : Txt
structure MatchD where
  attr : AttrD
  op : Int
  val : ValD
structure NodeD where
  op : Int
  val : ValD
  attr : AttrD
structure OblD where
  on : Int
  kind : Int
  arg : Txt
abbrev TgtD := List (List (List MatchD))
structure RuleD where
  id : Txt
  deny : Bool
  tgt : TgtD
  cond : List NodeD
  obls : List OblD
inductive PolD where
  | mk (id : Txt) (set : Bool) (alg : Int) (tgt : TgtD) (rules : List RuleD) (kids : List PolD) (obls : List OblD)
def attrA (a : AttrD) : AV := .agg [.v (.int .i64 a.cat), .s a.name, .v (.bool a.must)]
def valA (v : ValD) : AV := .agg [.v (.int .i64 v.kind), .v (.int .i64 v.n), .s v.s]
def matchA (m : MatchD) : AV := .agg [.v (.int .i64 m.attr.cat), .s m.attr.name, .v (.bool m.attr.must), .v (.int .i64 m.op), .v (.int .i64 m.val.kind), .v (.int .i64 m.val.n), .s m.val.s]
def nodeA (m : NodeD) : AV := .agg [.v (.int .i64 m.op), .v (.int .i64 m.val.kind), .v (.int .i64 m.val.n), .s m.val.s, .v (.int .i64 m.attr.cat), .s m.attr.name, .v (.bool m.attr.must)]
def boolA (b : Bool) : AV := .v (.bool b)
def oblA (o : OblD) : AV := .agg [.v (.int .i64 o.on), .v (.int .i64 o.kind), .s o.arg]
def allA (l : List MatchD) : AV := .sl (l.map matchA) .no
def anyA (l : List (List MatchD)) : AV := .sl (l.map allA) .no
def tgtA (t : TgtD) : AV := .sl (t.map anyA) .no
def condA (l : List NodeD) : AV := .sl (l.map nodeA) .no
def oblsA (l : List OblD) : AV := .sl (l.map oblA) .no
def ruleA (r : RuleD) : AV := .agg [.s r.id, .v (.bool r.deny), tgtA r.tgt, condA r.cond, oblsA r.obls]
mutual
def polA : PolD → AV
  | .mk id set alg tgt rules kids obls => .agg [.s id, .v (.bool set), .v (.int .i64 alg), tgtA tgt, .sl (rules.map ruleA) .no, .sl (kidsA kids) .no, oblsA obls]
def kidsA : List PolD → List AV
  | [] => []
  | k :: r => polA k :: kidsA r
end
theorem kidsA_eq : ∀ l : List PolD, kidsA l = l.map polA
  | [] => rfl
  | k :: r => by simp [kidsA, kidsA_eq r]
def ltr (c : UInt8) : Bool := decide (97 ≤ (c.toNat : Int)) && decide ((c.toNat : Int) ≤ 122)
def dgt (c : UInt8) : Bool := decide (48 ≤ (c.toNat : Int)) && decide ((c.toNat : Int) ≤ 57)
def chOK (c : UInt8) (i : Nat) : Bool := ltr c || (decide (i ≠ 0) && (dgt c || (c.toNat : Int) == 95))
def chsOK (l : Txt) : Bool := l.zipIdx.all fun p => chOK p.1 p.2
def nameOK (l : Txt) : Bool := chsOK l && decide (1 ≤ l.length) && decide (l.length ≤ 16)
def attrOK (a : AttrD) : Bool := decide (1 ≤ a.cat) && decide (a.cat ≤ 4) && nameOK a.name
def valOK (v : ValD) : Bool :=
  if v.kind = 1 then (v.n == 0 || v.n == 1) && v.s == []
  else if v.kind = 2 then v.s == []
  else if v.kind = 3 then v.n == 0 && decide (v.s.length ≤ 64)
  else if v.kind = 4 then decide (0 ≤ v.n) && decide (v.n ≤ 1099511627776) && v.s == []
  else if v.kind = 5 then v.n == 0 && nameOK v.s
  else false
def matchOK (m : MatchD) : Bool := attrOK m.attr && decide (1 ≤ m.op) && decide (m.op ≤ 3) && valOK m.val
def manyE (n : Nat) : Int := if n = 0 then 1 else if n > 8 then 6 else 0
def firstE {α : Type} (f : α → Int) : List α → Int
  | [] => 0
  | x :: r => if f x = 0 then firstE f r else f x
def allE (l : List MatchD) : Int := if manyE l.length = 0 then (if l.all matchOK then 0 else 1) else manyE l.length
def anyE (l : List (List MatchD)) : Int := if manyE l.length = 0 then firstE allE l else manyE l.length
def tgtE (t : TgtD) : Int := if t.length > 8 then 6 else firstE anyE t
def wantsD (op : Int) : Option (List Bool) :=
  if op = 1 ∨ op = 2 then some []
  else if op = 3 ∨ op = 4 then some [true]
  else if op = 5 then some [true, false]
  else if op = 11 then some [false]
  else if 6 ≤ op ∧ op ≤ 13 then some [false, false]
  else none
def zeroV (v : ValD) : Bool := v.kind == 0 && (v.n == 0 && v.s == [])
def zeroAt (a : AttrD) : Bool := a.cat == 0 && (a.name == [] && a.must == false)
def fieldsOK (n : NodeD) : Bool :=
  if n.op = 1 then valOK n.val && zeroAt n.attr
  else if n.op = 2 then attrOK n.attr && zeroV n.val
  else zeroV n.val && zeroAt n.attr
def stepD (st : List Bool) (n : NodeD) : Option (List Bool) := match wantsD n.op with
  | none => none
  | some w => if fieldsOK n = true ∧ w.length ≤ st.length ∧ st.drop (st.length - w.length) = w then some (st.take (st.length - w.length) ++ [n.op == 2]) else none
def stepsD (st : List Bool) : List NodeD → Option (List Bool)
  | [] => some st
  | n :: r => match stepD st n with
    | none => none
    | some st' => stepsD st' r
def exprE (l : List NodeD) : Int := if l.length > 32 then 6 else match stepsD [] l with
  | none => 1
  | some st => if l = [] ∨ st = [false] then 0 else 1
def oblOK (o : OblD) : Bool := decide (1 ≤ o.on) && decide (o.on ≤ 2) && decide (1 ≤ o.kind) && decide (o.kind ≤ 4) && nameOK o.arg
def oblsE (l : List OblD) : Int := if l.length > 8 then 6 else if l.all oblOK then 0 else 1
structure MetD where
  met : List Txt
  rules : Nat
inductive Went where
  | bad (e : Int)
  | ok (m : MetD)
def meetD (m : MetD) (s : Txt) : Option MetD := if s ∉ m.met ∧ nameOK s = true then some ⟨m.met ++ [s], m.rules⟩ else none
def Went.err : Went → Int
  | .bad e => e
  | .ok _ => 0
def need (e : Int) (w : Went) : Went := if e = 0 then w else .bad e
def ruleW (m : MetD) (r : RuleD) : Went := match meetD m r.id with
  | none => .bad 1
  | some m => if m.rules + 1 > 64 then .bad 6 else need (tgtE r.tgt) (need (exprE r.cond) (need (oblsE r.obls) (.ok ⟨m.met, m.rules + 1⟩)))
def rulesW (m : MetD) : List RuleD → Went
  | [] => .ok m
  | r :: l => match ruleW m r with
    | .bad e => .bad e
    | .ok m => rulesW m l
def headW (m : MetD) (id : Txt) (set : Bool) (alg : Int) (tgt : TgtD) (nr nk : Nat) (obls : List OblD) : Went := match meetD m id with
  | none => .bad 1
  | some m => if alg < 1 ∨ alg > 6 then .bad 1
    else if set = true ∧ nr > 0 ∨ set = false ∧ (nk > 0 ∨ alg = 4) then .bad 1
    else need (tgtE tgt) (need (oblsE obls) (if nr > 16 ∨ nk > 16 then .bad 6 else .ok m))
mutual
def polW (m : MetD) (d : Nat) : PolD → Went
  | .mk id set alg tgt rules kids obls =>
    if d > 4 then .bad 6 else match headW m id set alg tgt rules.length kids.length obls with
    | .bad e => .bad e
    | .ok m => match rulesW m rules with
      | .bad e => .bad e
      | .ok m => kidsW m (d + 1) kids
def kidsW (m : MetD) (d : Nat) : List PolD → Went
  | [] => .ok m
  | k :: r => match polW m d k with
    | .bad e => .bad e
    | .ok m => kidsW m d r
end
def rightE (p : PolD) : Int := (polW ⟨[], 0⟩ 1 p).err
def catW (n : Int) : Txt := if n = 1 then [115, 117, 98, 106, 101, 99, 116] else if n = 2 then [97, 99, 116, 105, 111, 110] else if n = 3 then [99, 97, 115, 101] else [101, 110, 118]
def attrT (a : AttrD) : Txt := catW a.cat ++ [46] ++ a.name ++ (if a.must then [33] else [])
def hexD (n : Nat) : UInt8 := if n < 10 then UInt8.ofNat (48 + n) else UInt8.ofNat (87 + n)
def oddB (c : UInt8) : Bool := decide ((c.toNat : Int) < 32) || decide (126 < (c.toNat : Int)) || (c.toNat : Int) == 34 || (c.toNat : Int) == 92
def quoteB (c : UInt8) : Txt := if oddB c then [92, hexD (c.toNat / 16), hexD (c.toNat % 16)] else [c]
def quoteT (l : Txt) : Txt := [34] ++ (l.map quoteB).flatten ++ [34]
def valT (v : ValD) : Txt :=
  if v.kind = 1 then Lib.formatBool (v.n == 1) else if v.kind = 4 then [64] ++ Lib.itoa v.n else if v.kind = 5 then [35] ++ v.s else if v.kind = 3 then quoteT v.s else Lib.itoa v.n
def fnW (n : Int) : Txt :=
  if n = 3 then [111, 110, 101] else if n = 4 then [115, 105, 122, 101] else if n = 5 then [104, 97, 115] else if n = 6 then [101, 113] else if n = 7 then [108, 101, 115, 115]
  else if n = 8 then [97, 100, 100] else if n = 9 then [115, 117, 98] else if n = 10 then [109, 117, 108] else if n = 11 then [110, 111, 116] else if n = 12 then [97, 110, 100] else [111, 114]
end Go.Bf

set_option linter.unusedSimpArgs false
set_option linter.unusedVariables false
namespace Go.Bf
open Go Go.Ab
theorem zipIdx_take_succ {α : Type} (l : List α) (i : Nat) (h : i < l.length) : (l.take (i + 1)).zipIdx = (l.take i).zipIdx ++ [(l[i], i)] := by
  rw [List.take_succ_eq_append_getElem h, List.zipIdx_append]
  simp [Nat.min_eq_left (Nat.le_of_lt h)]
theorem chsOK_succ (l : Txt) (i : Nat) (h : i < l.length) : chsOK (l.take (i + 1)) = (chsOK (l.take i) && chOK l[i] i) := by
  simp [chsOK, zipIdx_take_succ l i h]
theorem chsOK_bad (l : Txt) (i : Nat) (h : i < l.length) (hb : chOK l[i] i = false) : chsOK l = false := by
  rw [chsOK, List.all_eq_false]
  exact ⟨(l[i], i), by rw [List.mk_mem_zipIdx_iff_getElem?]; exact List.getElem?_eq_getElem h, by simp [hb]⟩
theorem chCases (c : UInt8) :
    (decide (97 ≤ (c.toNat : Int)) = true ∧ decide ((c.toNat : Int) ≤ 122) = true ∧ decide (48 ≤ (c.toNat : Int)) = true ∧ decide ((c.toNat : Int) ≤ 57) = false ∧ ((c.toNat : Int) == 95) = false) ∨
    (decide (97 ≤ (c.toNat : Int)) = false ∧ decide ((c.toNat : Int) ≤ 122) = true ∧ decide (48 ≤ (c.toNat : Int)) = true ∧ decide ((c.toNat : Int) ≤ 57) = true ∧ ((c.toNat : Int) == 95) = false) ∨
    (decide (97 ≤ (c.toNat : Int)) = false ∧ decide ((c.toNat : Int) ≤ 122) = true ∧ decide (48 ≤ (c.toNat : Int)) = true ∧ decide ((c.toNat : Int) ≤ 57) = false ∧ ((c.toNat : Int) == 95) = true) ∨
    (decide (97 ≤ (c.toNat : Int)) = false ∧ decide ((c.toNat : Int) ≤ 122) = true ∧ decide (48 ≤ (c.toNat : Int)) = false ∧ decide ((c.toNat : Int) ≤ 57) = true ∧ ((c.toNat : Int) == 95) = false) ∨
    (decide (97 ≤ (c.toNat : Int)) = false ∧ decide ((c.toNat : Int) ≤ 122) = true ∧ decide (48 ≤ (c.toNat : Int)) = true ∧ decide ((c.toNat : Int) ≤ 57) = false ∧ ((c.toNat : Int) == 95) = false) ∨
    (decide (97 ≤ (c.toNat : Int)) = true ∧ decide ((c.toNat : Int) ≤ 122) = false ∧ decide (48 ≤ (c.toNat : Int)) = true ∧ decide ((c.toNat : Int) ≤ 57) = false ∧ ((c.toNat : Int) == 95) = false) := by
  simp only [decide_eq_true_eq, decide_eq_false_iff_not, beq_iff_eq, beq_eq_false_iff_ne, ne_eq]
  omega
theorem firstE_take {α : Type} {f : α → Int} {l : List α} {i : Nat} (h : i < l.length) (h0 : firstE f (l.take i) = 0) (h1 : f l[i] = 0) : firstE f (l.take (i + 1)) = 0 := by
  rw [List.take_succ_eq_append_getElem h]
  generalize l.take i = a at h0
  induction a with
  | nil => simp [firstE, h1]
  | cons x r ih =>
    simp only [firstE] at h0
    split at h0
    · rename_i hx
      simp only [List.cons_append, firstE, hx, if_true]
      exact ih h0
    · rename_i hx; exact (hx h0).elim
theorem firstE_at {α : Type} {f : α → Int} {l : List α} {i : Nat} (h : i < l.length) (h0 : firstE f (l.take i) = 0) (h1 : f l[i] ≠ 0) : firstE f l = f l[i] := by
  induction l generalizing i with
  | nil => cases h
  | cons x r ih =>
    cases i with
    | zero => simp only [List.getElem_cons_zero] at h1 ⊢; simp [firstE, h1]
    | succ i =>
      simp only [List.take_succ_cons, firstE] at h0
      split at h0
      · rename_i hx
        simp only [firstE, hx, if_true, List.getElem_cons_succ]
        exact ih (by simpa using h) h0 (by simpa using h1)
      · rename_i hx; exact (hx h0).elim
theorem need_bad {e x : Int} {w : Went} (h : need e w = .bad x) (hw : w = .bad x → x ≠ 0) : x ≠ 0 := by
  unfold need at h
  split at h
  · exact hw h
  · cases h; assumption
theorem ruleW_bad {m : MetD} {r : RuleD} {e : Int} (h : ruleW m r = .bad e) : e ≠ 0 := by
  unfold ruleW at h
  split at h
  · cases h; decide
  · split at h
    · cases h; decide
    · exact need_bad h fun h => need_bad h fun h => need_bad h fun h => by cases h
theorem headW_bad {m : MetD} {id : Txt} {set : Bool} {alg : Int} {tgt : TgtD} {nr nk : Nat} {obls : List OblD} {e : Int} (h : headW m id set alg tgt nr nk obls = .bad e) : e ≠ 0 := by
  unfold headW at h
  split at h
  · cases h; decide
  · split at h
    · cases h; decide
    · split at h
      · cases h; decide
      · exact need_bad h fun h => need_bad h fun h => by
          split at h
          · cases h; decide
          · cases h
theorem rulesW_split (m : MetD) : ∀ (l : List RuleD) (i : Nat), rulesW m l = (match rulesW m (l.take i) with
    | .bad e => .bad e
    | .ok m1 => rulesW m1 (l.drop i))
  | [], i => by simp [rulesW]
  | r :: l, 0 => by simp [rulesW]
  | r :: l, i + 1 => by
    simp only [List.take_succ_cons, List.drop_succ_cons, rulesW]
    cases ruleW m r with
    | bad e => rfl
    | ok m1 => simp only; exact rulesW_split m1 l i
theorem rulesW_next {m m1 : MetD} {l : List RuleD} {i : Nat} (hi : i < l.length) (h : rulesW m (l.take i) = .ok m1) : rulesW m (l.take (i + 1)) = ruleW m1 l[i] := by
  rw [rulesW_split m _ i, List.take_take, Nat.min_eq_left (by omega), h, List.take_succ_eq_append_getElem hi, List.drop_append_of_le_length (by simp; omega), List.drop_of_length_le (by simp; omega)]
  simp only [List.nil_append, rulesW]
  cases ruleW m1 l[i] <;> rfl
theorem rulesW_stop {m m1 : MetD} {l : List RuleD} {i : Nat} {e : Int} (hi : i < l.length) (h : rulesW m (l.take i) = .ok m1) (hr : ruleW m1 l[i] = .bad e) : rulesW m l = .bad e := by
  rw [rulesW_split m l (i + 1), rulesW_next hi h, hr]
theorem kidsW_split (m : MetD) (d : Nat) : ∀ (l : List PolD) (i : Nat), kidsW m d l = (match kidsW m d (l.take i) with
    | .bad e => .bad e
    | .ok m1 => kidsW m1 d (l.drop i))
  | [], i => by simp [kidsW]
  | r :: l, 0 => by simp [kidsW]
  | r :: l, i + 1 => by
    simp only [List.take_succ_cons, List.drop_succ_cons, kidsW]
    cases polW m d r with
    | bad e => rfl
    | ok m1 => simp only; exact kidsW_split m1 d l i
theorem kidsW_next {m m1 : MetD} {d : Nat} {l : List PolD} {i : Nat} (hi : i < l.length) (h : kidsW m d (l.take i) = .ok m1) : kidsW m d (l.take (i + 1)) = polW m1 d l[i] := by
  rw [kidsW_split m d _ i, List.take_take, Nat.min_eq_left (by omega), h, List.take_succ_eq_append_getElem hi, List.drop_append_of_le_length (by simp; omega), List.drop_of_length_le (by simp; omega)]
  simp only [List.nil_append, kidsW]
  cases polW m1 d l[i] <;> rfl
theorem kidsW_stop {m m1 : MetD} {d : Nat} {l : List PolD} {i : Nat} {e : Int} (hi : i < l.length) (h : kidsW m d (l.take i) = .ok m1) (hr : polW m1 d l[i] = .bad e) : kidsW m d l = .bad e := by
  rw [kidsW_split m d l (i + 1), kidsW_next hi h, hr]
end Go.Bf

set_option linter.unusedVariables false
namespace Go.Bf
open Go Go.Ab
structure TokD where
  kind : Int
  pos : Int
  n : Int
  s : Txt
def tokA (t : TokD) : AV := .agg [.v (.int .i64 t.kind), .v (.int .i64 t.pos), .v (.int .i64 t.n), .s t.s]
def wrd (c : UInt8) : Bool := ltr c || dgt c || (c.toNat : Int) == 95
def decV (l : Txt) : Nat := l.foldl (fun n c => n * 10 + (c.toNat - 48)) 0
def numD (neg : Bool) (s : Txt) : Int × Nat :=
  let d := s.takeWhile dgt
  if d = [] ∨ (1 < d.length ∧ s.head? = some 48) then (0, 0) else
  let v : Int := if neg then -(decV d : Int) else (decV d : Int)
  if -9223372036854775808 ≤ v ∧ v ≤ 9223372036854775807 then (v, d.length) else (0, 0)
def wordD (s : Txt) : Txt := if nameOK (s.takeWhile wrd) then s.takeWhile wrd else []
def hexI (c : UInt8) : Int := if dgt c then (c.toNat : Int) - 48 else if 97 ≤ (c.toNat : Int) ∧ (c.toNat : Int) ≤ 102 then (c.toNat : Int) - 87 else -1
def oddD : Txt → Option UInt8
  | b :: x :: y :: _ => if b = 92 ∧ 0 ≤ hexI x ∧ 0 ≤ hexI y ∧ oddB (UInt8.ofNat (16 * hexI x + hexI y).toNat) = true then some (UInt8.ofNat (16 * hexI x + hexI y).toNat) else none
  | _ => none
def textF : Nat → Txt → Nat → Txt → Txt × Nat
  | 0, _, _, _ => ([], 0)
  | _ + 1, [], _, _ => ([], 0)
  | f + 1, c :: r, at_, out =>
    if c = 34 then (if 64 < out.length then ([], 0) else (out, at_ + 1))
    else if oddB c = false then textF f r (at_ + 1) (out ++ [c])
    else match oddD (c :: r) with
      | some b => textF f (r.drop 2) (at_ + 3) (out ++ [b])
      | none => ([], 0)
def textD (s : Txt) : Txt × Nat := textF s.length (s.drop 1) 1 []
def markB (c : UInt8) : Bool := c ∈ ([123, 125, 40, 41, 46, 44, 59, 61, 60, 62, 33] : Txt)
def beginsD (s : Txt) : TokD × Nat :=
  let c := s.headD 0
  if ltr c then (⟨1, 0, 0, wordD s⟩, (wordD s).length)
  else if dgt c then (⟨2, 0, (numD false s).1, []⟩, (numD false s).2)
  else if c = 45 then (⟨2, 0, (numD true (s.drop 1)).1, []⟩, if (numD true (s.drop 1)).1 = 0 then 0 else (numD true (s.drop 1)).2 + 1)
  else if c = 64 then (⟨3, 0, (numD false (s.drop 1)).1, []⟩, if (numD false (s.drop 1)).2 = 0 ∨ (numD false (s.drop 1)).1 > 1099511627776 then 0 else (numD false (s.drop 1)).2 + 1)
  else if c = 35 then (⟨4, 0, 0, wordD (s.drop 1)⟩, if wordD (s.drop 1) = [] then 0 else (wordD (s.drop 1)).length + 1)
  else if c = 34 then (⟨5, 0, 0, (textD s).1⟩, (textD s).2)
  else if markB c then (⟨6, 0, 0, [c]⟩, 1)
  else (⟨0, 0, 0, []⟩, 0)
inductive Lexed where
  | bad (e : Int) (at_ : Int)
  | ok (l : List TokD)
def blankB (c : UInt8) : Bool := (c.toNat : Int) == 32 || (c.toNat : Int) == 10
def lexF : Nat → Txt → Nat → List TokD → Lexed
  | 0, _, at_, _ => .bad 5 at_
  | _ + 1, [], at_, out => .ok (out ++ [⟨7, at_, 0, []⟩])
  | f + 1, c :: r, at_, out =>
    if blankB c then lexF f r (at_ + 1) out
    else if (beginsD (c :: r)).2 = 0 then .bad 5 at_
    else lexF f ((c :: r).drop (beginsD (c :: r)).2) (at_ + (beginsD (c :: r)).2) (out ++ [{ (beginsD (c :: r)).1 with pos := at_ }])
def lexD (s : Txt) : Lexed := if s.length > 4096 then .bad 6 4096 else lexF (s.length + 1) s 0 []
theorem takeWhile_le (p : UInt8 → Bool) (s : Txt) : (s.takeWhile p).length ≤ s.length := (List.takeWhile_prefix p).length_le
theorem takeWhile_take (p : UInt8 → Bool) (s : Txt) : s.take (s.takeWhile p).length = s.takeWhile p := by
  obtain ⟨t, ht⟩ := List.takeWhile_prefix (l := s) p
  have : s.take (s.takeWhile p).length = (s.takeWhile p ++ t).take (s.takeWhile p).length := by rw [ht]
  rw [this, List.take_left]
theorem numD_le (neg : Bool) (s : Txt) : (numD neg s).2 ≤ s.length := by
  have := takeWhile_le dgt s
  unfold numD
  simp only
  split
  · exact Nat.zero_le _
  · generalize (if neg = true then -(decV (s.takeWhile dgt) : Int) else (decV (s.takeWhile dgt) : Int)) = v
    split
    · exact this
    · exact Nat.zero_le _
theorem wordD_le (s : Txt) : (wordD s).length ≤ s.length := by
  have := takeWhile_le wrd s
  unfold wordD
  split
  · exact this
  · simp
theorem oddD_len {s : Txt} {b : UInt8} (h : oddD s = some b) : 3 ≤ s.length := by
  match s, h with
  | _ :: _ :: _ :: _, _ => simp
theorem textF_le : ∀ (f : Nat) (r : Txt) (at_ : Nat) (out : Txt), (textF f r at_ out).2 ≤ at_ + r.length
  | 0, _, _, _ => by simp [textF]
  | _ + 1, [], _, _ => by simp [textF]
  | f + 1, c :: r, at_, out => by
    simp only [textF]
    split
    · split <;> simp
    · split
      · have := textF_le f r (at_ + 1) (out ++ [c]); simp only [List.length_cons]; omega
      · split
        · rename_i b hb
          have h3 := oddD_len hb
          have := textF_le f (r.drop 2) (at_ + 3) (out ++ [b])
          simp only [List.length_cons, List.length_drop] at this h3 ⊢
          omega
        · simp
theorem beginsD_le (s : Txt) (hs : s ≠ []) : (beginsD s).2 ≤ s.length := by
  have h1 : 1 ≤ s.length := List.length_pos_iff.2 hs
  have hd : (s.drop 1).length = s.length - 1 := by simp
  have k1 := wordD_le s
  have k2 := wordD_le (s.drop 1)
  have k3 := numD_le false s
  have k4 := numD_le false (s.drop 1)
  have k5 := numD_le true (s.drop 1)
  have k6 := textF_le s.length (s.drop 1) 1 []
  unfold beginsD
  simp only
  split
  · exact k1
  split
  · exact k3
  split
  · simp only; split <;> omega
  split
  · simp only; split <;> omega
  split
  · simp only; split <;> omega
  split
  · simp only [textD]; omega
  split
  · simp only; omega
  · simp
end Go.Bf

set_option linter.unusedVariables false
namespace Go.Bf
open Go Go.Ab
structure PS where
  ts : List TokD
  pos : Nat
  rules : Nat
  bad : Int
  place : Int
def hereD (st : PS) : TokD := st.ts.getD st.pos ⟨7, 0, 0, []⟩
def wrongD (st : PS) (e p : Int) : PS := if st.bad = 0 then { st with bad := e, place := p } else st
def stuckD (st : PS) : PS := wrongD st 5 (hereD st).pos
def limitD (st : PS) (more : Bool) : PS := if more then wrongD st 6 (hereD st).pos else st
def isD (st : PS) (s : Txt) : Bool := st.bad == 0 && ((hereD st).s == s && ((hereD st).kind == 1 || (hereD st).kind == 6))
def nextD (st : PS) : PS := { st with pos := st.pos + 1 }
def takeD (st : PS) (s : Txt) : Bool × PS := if isD st s = true then (true, nextD st) else (false, st)
def mustD (st : PS) (s : Txt) : PS := if isD st s = true then nextD st else stuckD st
def nameP (st : PS) : Txt × PS :=
  if (hereD st).kind = 1 ∧ st.bad = 0 then ((hereD st).s, nextD st) else ([], if (hereD st).kind = 1 then st else stuckD st)
def idxT (s : Txt) : List Txt → Option Nat
  | [] => none
  | w :: r => if w = s then some 0 else (idxT s r).map (· + 1)
def amongD (st : PS) (ws : List Txt) : Int × PS := match idxT (hereD st).s ws with
  | some i => if (hereD st).kind = 1 ∧ st.bad = 0 then ((i : Int) + 1, nextD st) else (0, stuckD st)
  | none => (0, stuckD st)
def WfP (st : PS) : Prop := st.pos < st.ts.length ∧ (∀ i (h : i < st.ts.length), st.ts[i].kind ≠ 7 → i + 1 < st.ts.length) ∧ st.ts.length ≤ 5000
theorem hereD_eq {st : PS} (h : st.pos < st.ts.length) : hereD st = st.ts[st.pos] := by
  unfold hereD; rw [List.getD_eq_getElem?_getD, List.getElem?_eq_getElem h]; rfl
theorem wfP_wrong {st : PS} (e p : Int) (h : WfP st) : WfP (wrongD st e p) := by
  unfold wrongD; split <;> exact h
theorem wfP_next {st : PS} (h : WfP st) (hk : (hereD st).kind ≠ 7) : WfP (nextD st) := by
  rw [hereD_eq h.1] at hk
  exact ⟨h.2.1 _ h.1 hk, h.2⟩
theorem isD_kind {st : PS} {s : Txt} (h : isD st s = true) : (hereD st).kind ≠ 7 := by
  simp only [isD, Bool.and_eq_true, Bool.or_eq_true, beq_iff_eq] at h
  obtain ⟨_, _, h | h⟩ := h <;> rw [h] <;> decide
end Go.Bf

set_option linter.unusedVariables false
namespace Go.Bf
open Go Go.Ab
def Ah (st st' : PS) : Prop := WfP st' ∧ st'.ts = st.ts ∧ st.pos ≤ st'.pos
theorem Ah.refl {st : PS} (h : WfP st) : Ah st st := ⟨h, rfl, Nat.le_refl _⟩
theorem Ah.trans {a b c : PS} (x : Ah a b) (y : Ah b c) : Ah a c := ⟨y.1, y.2.1.trans x.2.1, Nat.le_trans x.2.2 y.2.2⟩
theorem ah_wrong {st : PS} (e p : Int) (h : WfP st) : Ah st (wrongD st e p) := ⟨wfP_wrong e p h, by unfold wrongD; split <;> rfl, by unfold wrongD; split <;> exact Nat.le_refl _⟩
theorem ah_next {st : PS} (h : WfP st) (hk : (hereD st).kind ≠ 7) : Ah st (nextD st) := ⟨wfP_next h hk, rfl, Nat.le_succ _⟩
theorem ah_stuck {st : PS} (h : WfP st) : Ah st (stuckD st) := ah_wrong _ _ h
theorem ah_limit {st : PS} (b : Bool) (h : WfP st) : Ah st (limitD st b) := by
  unfold limitD; split
  · exact ah_wrong _ _ h
  · exact .refl h
theorem ah_take {st : PS} (s : Txt) (h : WfP st) : Ah st (takeD st s).2 := by
  unfold takeD; split
  · rename_i hi; exact ah_next h (isD_kind hi)
  · exact .refl h
theorem ah_must {st : PS} (s : Txt) (h : WfP st) : Ah st (mustD st s) := by
  unfold mustD; split
  · rename_i hi; exact ah_next h (isD_kind hi)
  · exact ah_stuck h
theorem ah_name {st : PS} (h : WfP st) : Ah st (nameP st).2 := by
  unfold nameP; split
  · rename_i hi; exact ah_next h (by rw [hi.1]; decide)
  · simp only; split
    · exact .refl h
    · exact ah_stuck h
theorem ah_among {st : PS} (ws : List Txt) (h : WfP st) : Ah st (amongD st ws).2 := by
  unfold amongD; split
  · split
    · rename_i hi; exact ah_next h (by rw [hi.1]; decide)
    · exact ah_stuck h
  · exact ah_stuck h
def catWs : List Txt := [[115, 117, 98, 106, 101, 99, 116], [97, 99, 116, 105, 111, 110], [99, 97, 115, 101], [101, 110, 118]]
def attrP (st : PS) : AttrD × PS :=
  (⟨(amongD st catWs).1, (nameP (mustD (amongD st catWs).2 [46])).1, (takeD (nameP (mustD (amongD st catWs).2 [46])).2 [33]).1⟩, (takeD (nameP (mustD (amongD st catWs).2 [46])).2 [33]).2)
theorem ah_attr {st : PS} (h : WfP st) : Ah st (attrP st).2 := by
  have h1 := ah_among catWs h
  have h2 := ah_must [46] h1.1
  have h3 := ah_name h2.1
  exact ((h1.trans h2).trans h3).trans (ah_take [33] h3.1)
def trueT : Txt := [116, 114, 117, 101]
def falseT : Txt := [102, 97, 108, 115, 101]
def valueV (st : PS) : ValD × PS :=
  if (hereD st).kind = 2 then (⟨2, (hereD st).n, (hereD st).s⟩, st)
  else if (hereD st).kind = 3 then (⟨4, (hereD st).n, (hereD st).s⟩, st)
  else if (hereD st).kind = 4 then (⟨5, (hereD st).n, (hereD st).s⟩, st)
  else if (hereD st).kind = 5 then (⟨3, (hereD st).n, (hereD st).s⟩, st)
  else if isD st trueT then (⟨1, 1, []⟩, st)
  else if isD st falseT then (⟨1, 0, []⟩, st)
  else (⟨0, (hereD st).n, (hereD st).s⟩, stuckD st)
def valueP (st : PS) : ValD × PS := if (valueV st).2.bad = 0 then ((valueV st).1, nextD (valueV st).2) else (⟨0, 0, []⟩, (valueV st).2)
theorem stuck_bad (st : PS) : (stuckD st).bad ≠ 0 := by
  unfold stuckD wrongD; split
  · show (5 : Int) ≠ 0; decide
  · assumption
theorem valueV_cases (st : PS) : (valueV st).2 = st ∧ (hereD st).kind ≠ 7 ∨ (valueV st).2 = stuckD st := by
  unfold valueV
  split
  · rename_i h; exact .inl ⟨rfl, by rw [h]; decide⟩
  split
  · rename_i h; exact .inl ⟨rfl, by rw [h]; decide⟩
  split
  · rename_i h; exact .inl ⟨rfl, by rw [h]; decide⟩
  split
  · rename_i h; exact .inl ⟨rfl, by rw [h]; decide⟩
  split
  · rename_i h; exact .inl ⟨rfl, isD_kind h⟩
  split
  · rename_i h; exact .inl ⟨rfl, isD_kind h⟩
  · exact .inr rfl
theorem ah_value {st : PS} (h : WfP st) : Ah st (valueP st).2 := by
  unfold valueP
  rcases valueV_cases st with ⟨e, hk⟩ | e
  · rw [e]; split
    · exact ah_next h hk
    · exact .refl h
  · rw [e, if_neg (stuck_bad st)]; exact ah_stuck h
def opP (st : PS) : Int × PS :=
  if isD st [61] then (1, nextD st) else if isD st [60] then (2, nextD st) else if isD st [62] then (3, nextD st) else (0, stuckD st)
theorem ah_op {st : PS} (h : WfP st) : Ah st (opP st).2 := by
  unfold opP
  split
  · rename_i hi; exact ah_next h (isD_kind hi)
  split
  · rename_i hi; exact ah_next h (isD_kind hi)
  split
  · rename_i hi; exact ah_next h (isD_kind hi)
  · exact ah_stuck h
def matchP (st : PS) : MatchD × PS := (⟨(attrP st).1, (opP (attrP st).2).1, (valueP (opP (attrP st).2).2).1⟩, (valueP (opP (attrP st).2).2).2)
theorem ah_match {st : PS} (h : WfP st) : Ah st (matchP st).2 := by
  have h1 := ah_attr h
  have h2 := ah_op h1.1
  exact (h1.trans h2).trans (ah_value h2.1)
def manyF {α : Type} (one : PS → α × PS) (w : Txt) (most : Nat) : Nat → PS → List α → List α × PS
  | 0, st, l => (l, st)
  | f + 1, st, l => if isD st w = true then manyF one w most f (limitD (one (nextD st)).2 (decide (most < l.length + 1))) (l ++ [(one (nextD st)).1]) else (l, st)
theorem ah_many {α : Type} {one : PS → α × PS} (ho : ∀ st, WfP st → Ah st (one st).2) (w : Txt) (most : Nat) : ∀ (f : Nat) (st : PS) (l : List α), WfP st → Ah st (manyF one w most f st l).2
  | 0, st, l, h => .refl h
  | f + 1, st, l, h => by
    unfold manyF; split
    · rename_i hi
      have h1 := ah_next h (isD_kind hi)
      have h2 := ho _ h1.1
      have h3 := ah_limit (decide (most < l.length + 1)) h2.1
      exact ((h1.trans h2).trans h3).trans (ah_many ho w most f _ _ h3.1)
    · exact .refl h
def orT : Txt := [111, 114]
def andT : Txt := [97, 110, 100]
def whenT : Txt := [119, 104, 101, 110]
def allP (st : PS) : List MatchD × PS := manyF matchP [44] 8 st.ts.length (matchP st).2 [(matchP st).1]
theorem ah_all {st : PS} (h : WfP st) : Ah st (allP st).2 := (ah_match h).trans (ah_many (fun _ h => ah_match h) _ _ _ _ _ (ah_match h).1)
def anyP (st : PS) : List (List MatchD) × PS :=
  let a := allP (mustD st [40])
  let m := manyF allP orT 8 st.ts.length a.2 [a.1]
  (m.1, mustD m.2 [41])
theorem ah_any {st : PS} (h : WfP st) : Ah st (anyP st).2 := by
  have h0 := ah_must [40] h
  have h1 := ah_all h0.1
  have h2 := ah_many (fun _ h => ah_all h) orT 8 st.ts.length _ [(allP (mustD st [40])).1] h1.1
  exact ((h0.trans h1).trans h2).trans (ah_must [41] h2.1)
def tgtP (st : PS) : TgtD × PS := if isD st whenT = true then manyF anyP andT 8 st.ts.length (anyP (nextD st)).2 [(anyP (nextD st)).1] else ([], st)
theorem ah_tgt {st : PS} (h : WfP st) : Ah st (tgtP st).2 := by
  unfold tgtP; split
  · rename_i hi
    have h0 := ah_next h (isD_kind hi)
    have h1 := ah_any h0.1
    exact (h0.trans h1).trans (ah_many (fun _ h => ah_any h) _ _ _ _ _ h1.1)
  · exact .refl h
end Go.Bf

set_option linter.unusedVariables false
namespace Go.Bf
open Go Go.Ab
def fnWs : List Txt := [[111, 110, 101], [115, 105, 122, 101], [104, 97, 115], [101, 113], [108, 101, 115, 115], [97, 100, 100], [115, 117, 98], [109, 117, 108], [110, 111, 116], [97, 110, 100], [111, 114]]
def opers (op : Int) : List Bool := if op = 3 ∨ op = 4 then [true] else if op = 5 then [true, false] else if op = 11 then [false] else [false, false]
abbrev ExF := PS → List NodeD → (List NodeD × Bool) × PS
def operG (ex : ExF) (st : PS) (l : List NodeD) (must : Bool) : List NodeD × PS :=
  ((ex st l).1.1, if (ex st l).1.2 = must then (ex st l).2 else wrongD (ex st l).2 5 (hereD st).pos)
def opersG (ex : ExF) : List Bool → PS → List NodeD → List NodeD × PS
  | [], st, l => (l, st)
  | b :: bs, st, l => if st.bad = 0 then opersG ex bs (operG ex st l b).2 (operG ex st l b).1 else (l, st)
def funcG (ex : ExF) (st : PS) (l : List NodeD) : (List NodeD × NodeD) × PS :=
  (((opersG ex (opers (2 + (amongD st fnWs).1)) (amongD st fnWs).2 l).1, ⟨2 + (amongD st fnWs).1, ⟨0, 0, []⟩, ⟨0, [], false⟩⟩), mustD (opersG ex (opers (2 + (amongD st fnWs).1)) (amongD st fnWs).2 l).2 [41])
def headG (ex : ExF) (st : PS) (l : List NodeD) : (List NodeD × NodeD) × PS :=
  if isD st [40] = true then funcG ex (nextD st) l
  else if (hereD st).kind = 1 ∧ (hereD st).s ≠ trueT ∧ (hereD st).s ≠ falseT then ((l, ⟨2, ⟨0, 0, []⟩, (attrP st).1⟩), (attrP st).2)
  else ((l, ⟨1, (valueP st).1, ⟨0, [], false⟩⟩), (valueP st).2)
def exprF : Nat → ExF
  | 0, st, l => ((l, false), st)
  | f + 1, st, l => (((headG (exprF f) st l).1.1 ++ [(headG (exprF f) st l).1.2], (headG (exprF f) st l).1.2.op == 2), limitD (headG (exprF f) st l).2 (decide (32 < (headG (exprF f) st l).1.1.length + 1)))
def ExOK (ex : ExF) : Prop := ∀ st l, WfP st → Ah st (ex st l).2 ∧ (ex st l).1.1.length + 2 * st.pos ≤ l.length + 2 * (ex st l).2.pos + 1
theorem operG_ok {ex : ExF} (he : ExOK ex) (st : PS) (l : List NodeD) (b : Bool) (h : WfP st) : Ah st (operG ex st l b).2 ∧ (operG ex st l b).1.length + 2 * st.pos ≤ l.length + 2 * (operG ex st l b).2.pos + 1 := by
  obtain ⟨h1, h2⟩ := he st l h
  unfold operG
  simp only
  split
  · exact ⟨h1, h2⟩
  · refine ⟨h1.trans (ah_wrong _ _ h1.1), ?_⟩
    have : (wrongD (ex st l).2 5 (hereD st).pos).pos = (ex st l).2.pos := by unfold wrongD; split <;> rfl
    rw [this]; exact h2
theorem opersG_ok {ex : ExF} (he : ExOK ex) : ∀ (bs : List Bool) (st : PS) (l : List NodeD), WfP st → Ah st (opersG ex bs st l).2 ∧ (opersG ex bs st l).1.length + 2 * st.pos ≤ l.length + 2 * (opersG ex bs st l).2.pos + bs.length
  | [], st, l, h => ⟨.refl h, by simp [opersG]⟩
  | b :: bs, st, l, h => by
    unfold opersG; split
    · obtain ⟨h1, h2⟩ := operG_ok he st l b h
      obtain ⟨h3, h4⟩ := opersG_ok he bs (operG ex st l b).2 (operG ex st l b).1 h1.1
      exact ⟨h1.trans h3, by simp only [List.length_cons]; omega⟩
    · exact ⟨.refl h, by simp only [List.length_cons]; omega⟩
theorem opers_le (op : Int) : (opers op).length ≤ 2 := by
  unfold opers; repeat' split
  all_goals simp
theorem funcG_ok {ex : ExF} (he : ExOK ex) (st : PS) (l : List NodeD) (h : WfP st) : Ah st (funcG ex st l).2 ∧ (funcG ex st l).1.1.length + 2 * st.pos ≤ l.length + 2 * (funcG ex st l).2.pos + 2 := by
  have h1 := ah_among fnWs h
  obtain ⟨h2, h3⟩ := opersG_ok he (opers (2 + (amongD st fnWs).1)) _ l h1.1
  have h4 := ah_must [41] h2.1
  have := opers_le (2 + (amongD st fnWs).1)
  have p1 := h1.2.2
  have p4 := h4.2.2
  unfold funcG
  exact ⟨(h1.trans h2).trans h4, by simp only; omega⟩
theorem headG_ok {ex : ExF} (he : ExOK ex) (st : PS) (l : List NodeD) (h : WfP st) : Ah st (headG ex st l).2 ∧ (headG ex st l).1.1.length + 2 * st.pos ≤ l.length + 2 * (headG ex st l).2.pos := by
  unfold headG; split
  · rename_i hi
    have h1 := ah_next h (isD_kind hi)
    obtain ⟨h2, h3⟩ := funcG_ok he _ l h1.1
    have : (nextD st).pos = st.pos + 1 := rfl
    exact ⟨h1.trans h2, by omega⟩
  · split
    · have h1 := ah_attr h
      have := h1.2.2
      exact ⟨h1, by simp only; omega⟩
    · have h1 := ah_value h
      have := h1.2.2
      exact ⟨h1, by simp only; omega⟩
theorem exprF_ok : ∀ f, ExOK (exprF f)
  | 0 => fun st l h => ⟨.refl h, by simp [exprF]⟩
  | f + 1 => fun st l h => by
    obtain ⟨h1, h2⟩ := headG_ok (exprF_ok f) st l h
    have h3 := ah_limit (decide (32 < (headG (exprF f) st l).1.1.length + 1)) h1.1
    have := h3.2.2
    refine ⟨h1.trans h3, ?_⟩
    simp only [exprF, List.length_append, List.length_singleton]
    omega
def onWs : List Txt := [[112, 101, 114, 109, 105, 116], [100, 101, 110, 121]]
def dutyWs : List Txt := [[108, 111, 103], [114, 101, 100, 97, 99, 116], [114, 101, 118, 105, 101, 119], [110, 111, 116, 105, 102, 121]]
def onceT : Txt := [111, 110]
def oblP (st : PS) : OblD × PS :=
  (⟨(amongD st onWs).1, (amongD (amongD st onWs).2 dutyWs).1, (nameP (amongD (amongD st onWs).2 dutyWs).2).1⟩, (nameP (amongD (amongD st onWs).2 dutyWs).2).2)
theorem ah_obl {st : PS} (h : WfP st) : Ah st (oblP st).2 := by
  have h1 := ah_among onWs h
  have h2 := ah_among dutyWs h1.1
  exact (h1.trans h2).trans (ah_name h2.1)
def oblsP (st : PS) : List OblD × PS := manyF oblP onceT 8 st.ts.length st []
theorem ah_obls {st : PS} (h : WfP st) : Ah st (oblsP st).2 := ah_many (fun _ h => ah_obl h) _ _ _ _ _ h
end Go.Bf

set_option linter.unusedVariables false
namespace Go.Bf
open Go Go.Ab
inductive Rch (a : PS) : PS → Prop where
  | refl : Rch a a
  | wrong {b : PS} (e p : Int) : Rch a b → (e = 5 ∨ e = 6) → (∃ i, i ≤ b.pos ∧ p = (b.ts.getD i ⟨7, 0, 0, []⟩).pos) → Rch a (wrongD b e p)
  | next {b : PS} : Rch a b → b.bad = 0 → (hereD b).kind ≠ 7 → Rch a (nextD b)
theorem Rch.trans {a b c : PS} (x : Rch a b) (y : Rch b c) : Rch a c := by
  induction y with
  | refl => exact x
  | wrong e p _ h1 h2 ih => exact .wrong e p ih h1 h2
  | next _ h1 h2 ih => exact .next ih h1 h2
theorem rch_stuck (st : PS) : Rch st (stuckD st) := .wrong _ _ .refl (.inl rfl) ⟨st.pos, Nat.le_refl _, rfl⟩
theorem rch_limit (st : PS) (b : Bool) : Rch st (limitD st b) := by
  unfold limitD; split
  · exact .wrong _ _ .refl (.inr rfl) ⟨st.pos, Nat.le_refl _, rfl⟩
  · exact .refl
theorem isD_bad {st : PS} {s : Txt} (h : isD st s = true) : st.bad = 0 := by
  simp only [isD, Bool.and_eq_true, beq_iff_eq] at h; exact h.1
theorem rch_is {st : PS} {s : Txt} (h : isD st s = true) : Rch st (nextD st) := .next .refl (isD_bad h) (isD_kind h)
theorem rch_take (st : PS) (s : Txt) : Rch st (takeD st s).2 := by
  unfold takeD; split
  · rename_i h; exact rch_is h
  · exact .refl
theorem rch_must (st : PS) (s : Txt) : Rch st (mustD st s) := by
  unfold mustD; split
  · rename_i h; exact rch_is h
  · exact rch_stuck _
theorem rch_name (st : PS) : Rch st (nameP st).2 := by
  unfold nameP; split
  · rename_i h; exact .next .refl h.2 (by rw [h.1]; decide)
  · simp only; split
    · exact .refl
    · exact rch_stuck _
theorem rch_among (st : PS) (ws : List Txt) : Rch st (amongD st ws).2 := by
  unfold amongD; split
  · split
    · rename_i h; exact .next .refl h.2 (by rw [h.1]; decide)
    · exact rch_stuck _
  · exact rch_stuck _
theorem rch_attr (st : PS) : Rch st (attrP st).2 := (((rch_among st catWs).trans (rch_must _ [46])).trans (rch_name _)).trans (rch_take _ [33])
theorem rch_value (st : PS) : Rch st (valueP st).2 := by
  unfold valueP
  rcases valueV_cases st with ⟨e, hk⟩ | e
  · rw [e]; split
    · rename_i h; exact .next .refl h hk
    · exact .refl
  · rw [e, if_neg (stuck_bad st)]; exact rch_stuck st
theorem rch_op (st : PS) : Rch st (opP st).2 := by
  unfold opP
  split
  · rename_i h; exact rch_is h
  split
  · rename_i h; exact rch_is h
  split
  · rename_i h; exact rch_is h
  · exact rch_stuck _
theorem rch_match (st : PS) : Rch st (matchP st).2 := ((rch_attr st).trans (rch_op _)).trans (rch_value _)
theorem rch_many {α : Type} {one : PS → α × PS} (ho : ∀ st, Rch st (one st).2) (w : Txt) (most : Nat) : ∀ (f : Nat) (st : PS) (l : List α), Rch st (manyF one w most f st l).2
  | 0, st, l => .refl
  | f + 1, st, l => by
    unfold manyF; split
    · rename_i h
      exact (((rch_is h).trans (ho _)).trans (rch_limit _ _)).trans (rch_many ho w most f _ _)
    · exact .refl
theorem rch_all (st : PS) : Rch st (allP st).2 := (rch_match st).trans (rch_many rch_match _ _ _ _ _)
theorem rch_any (st : PS) : Rch st (anyP st).2 := (((rch_must st [40]).trans (rch_all _)).trans (rch_many rch_all orT 8 st.ts.length _ [(allP (mustD st [40])).1])).trans (rch_must _ [41])
theorem rch_tgt (st : PS) : Rch st (tgtP st).2 := by
  unfold tgtP; split
  · rename_i h; exact ((rch_is h).trans (rch_any _)).trans (rch_many rch_any _ _ _ _ _)
  · exact .refl
theorem rch_obl (st : PS) : Rch st (oblP st).2 := ((rch_among st onWs).trans (rch_among _ dutyWs)).trans (rch_name _)
theorem rch_obls (st : PS) : Rch st (oblsP st).2 := rch_many rch_obl _ _ _ _ _
theorem rch_pos {a b : PS} (h : Rch a b) : b.ts = a.ts ∧ a.pos ≤ b.pos ∧ b.rules = a.rules := by
  induction h with
  | refl => exact ⟨rfl, Nat.le_refl _, rfl⟩
  | wrong e p _ _ _ ih =>
    unfold wrongD; split
    · exact ih
    · exact ih
  | next _ _ _ ih => exact ⟨ih.1, Nat.le_succ_of_le ih.2.1, ih.2.2⟩
theorem rch_oper {ex : ExF} (he : ∀ st l, Rch st (ex st l).2) (st : PS) (l : List NodeD) (b : Bool) : Rch st (operG ex st l b).2 := by
  unfold operG; simp only; split
  · exact he st l
  · have := rch_pos (he st l)
    exact .wrong _ _ (he st l) (.inl rfl) ⟨st.pos, this.2.1, by rw [this.1]; rfl⟩
theorem rch_opers {ex : ExF} (he : ∀ st l, Rch st (ex st l).2) : ∀ (bs : List Bool) (st : PS) (l : List NodeD), Rch st (opersG ex bs st l).2
  | [], st, l => .refl
  | b :: bs, st, l => by
    unfold opersG; split
    · exact (rch_oper he st l b).trans (rch_opers he bs _ _)
    · exact .refl
theorem rch_expr : ∀ (f : Nat) (st : PS) (l : List NodeD), Rch st (exprF f st l).2
  | 0, st, l => .refl
  | f + 1, st, l => by
    refine Rch.trans ?_ (rch_limit _ _)
    unfold headG; split
    · rename_i h
      exact (rch_is h).trans (((rch_among _ fnWs).trans (rch_opers (rch_expr f) _ _ _)).trans (rch_must _ [41]))
    · split
      · exact rch_attr st
      · exact rch_value st
def ifT : Txt := [105, 102]
def permitT : Txt := [112, 101, 114, 109, 105, 116]
def denyT : Txt := [100, 101, 110, 121]
def policyT : Txt := [112, 111, 108, 105, 99, 121]
def setT : Txt := [115, 101, 116]
def kindWs : List Txt := [policyT, setT]
def algWs : List Txt := [[100, 101, 110, 121, 111, 118, 101, 114], [112, 101, 114, 109, 105, 116, 111, 118, 101, 114], [102, 105, 114, 115, 116], [111, 110, 108, 121], [100, 101, 110, 121, 117, 110, 108, 101, 115, 115], [112, 101, 114, 109, 105, 116, 117, 110, 108, 101, 115, 115]]
def condP (st : PS) : List NodeD × PS := if isD st ifT = true then operG (exprF st.ts.length) (nextD st) [] false else ([], st)
theorem rch_cond (st : PS) : Rch st (condP st).2 := by
  unfold condP; split
  · rename_i h; exact (rch_is h).trans (rch_oper (rch_expr _) _ _ _)
  · exact .refl
theorem ah_cond {st : PS} (h : WfP st) : Ah st (condP st).2 := by
  unfold condP; split
  · rename_i hi
    have h1 := ah_next h (isD_kind hi)
    exact h1.trans (operG_ok (exprF_ok _) _ _ _ h1.1).1
  · exact .refl h
def ruleP (deny : Bool) (st : PS) : RuleD × PS :=
  (⟨(nameP st).1, deny, (tgtP (nameP st).2).1, (condP (tgtP (nameP st).2).2).1, (oblsP (condP (tgtP (nameP st).2).2).2).1⟩, mustD (oblsP (condP (tgtP (nameP st).2).2).2).2 [59])
theorem rch_rule (deny : Bool) (st : PS) : Rch st (ruleP deny st).2 := ((((rch_name st).trans (rch_tgt _)).trans (rch_cond _)).trans (rch_obls _)).trans (rch_must _ [59])
theorem ah_rule (deny : Bool) {st : PS} (h : WfP st) : Ah st (ruleP deny st).2 := by
  have h1 := ah_name h
  have h2 := ah_tgt h1.1
  have h3 := ah_cond h2.1
  have h4 := ah_obls h3.1
  exact (((h1.trans h2).trans h3).trans h4).trans (ah_must [59] h4.1)
inductive RchR (a : PS) : PS → Prop where
  | refl : RchR a a
  | small {b c : PS} : RchR a b → Rch b c → RchR a c
  | rule {b : PS} : RchR a b → b.bad = 0 → b.rules ≠ 64 → (hereD b).kind ≠ 7 → RchR a { nextD b with rules := b.rules + 1 }
theorem RchR.trans {a b c : PS} (x : RchR a b) (y : RchR b c) : RchR a c := by
  induction y with
  | refl => exact x
  | small _ h1 ih => exact .small ih h1
  | rule _ h1 h2 h3 ih => exact .rule ih h1 h2 h3
theorem Rch.big {a b : PS} (h : Rch a b) : RchR a b := .small .refl h
def someF : Nat → PS → List RuleD → List RuleD × PS
  | 0, st, l => (l, st)
  | f + 1, st, l => if isD st permitT = true ∨ isD st denyT = true then
      if l.length = 16 ∨ st.rules = 64 then (l, limitD st true)
      else someF f (ruleP (isD st denyT) { nextD st with rules := st.rules + 1 }).2 (l ++ [(ruleP (isD st denyT) { nextD st with rules := st.rules + 1 }).1])
    else (l, st)
abbrev PoF := PS → PolD × PS
def kidsF (pol : PoF) (deep : Bool) : Nat → PS → List PolD → List PolD × PS
  | 0, st, l => (l, st)
  | f + 1, st, l => if isD st policyT = true ∨ isD st setT = true then
      if l.length = 16 ∨ deep = true then (l, limitD st true)
      else kidsF pol deep f (pol st).2 (l ++ [(pol st).1])
    else (l, st)
def headP (st : PS) : (Bool × Txt × Int × TgtD) × PS :=
  (((amongD st kindWs).1 == 2, (nameP (amongD st kindWs).2).1, (amongD (nameP (amongD st kindWs).2).2 algWs).1, (tgtP (amongD (nameP (amongD st kindWs).2).2 algWs).2).1), mustD (tgtP (amongD (nameP (amongD st kindWs).2).2 algWs).2).2 [123])
theorem rch_head (st : PS) : Rch st (headP st).2 := ((((rch_among st kindWs).trans (rch_name _)).trans (rch_among _ algWs)).trans (rch_tgt _)).trans (rch_must _ [123])
theorem ah_head {st : PS} (h : WfP st) : Ah st (headP st).2 := by
  have h1 := ah_among kindWs h
  have h2 := ah_name h1.1
  have h3 := ah_among algWs h2.1
  have h4 := ah_tgt h3.1
  exact (((h1.trans h2).trans h3).trans h4).trans (ah_must [123] h4.1)
def bodyP (pol : PoF) (deep : Bool) (set : Bool) (st : PS) : (List RuleD × List PolD) × PS :=
  if set = true then (([], (kidsF pol deep 17 st []).1), (kidsF pol deep 17 st []).2) else (((someF 17 st []).1, []), (someF 17 st []).2)
def polF : Nat → PoF
  | 0, st => (.mk [] false 0 [] [] [] [], st)
  | r + 1, st => (.mk (headP st).1.2.1 (headP st).1.1 (headP st).1.2.2.1 (headP st).1.2.2.2 (bodyP (polF r) (r == 0) (headP st).1.1 (headP st).2).1.1 (bodyP (polF r) (r == 0) (headP st).1.1 (headP st).2).1.2
      (oblsP (mustD (bodyP (polF r) (r == 0) (headP st).1.1 (headP st).2).2 [125])).1, (oblsP (mustD (bodyP (polF r) (r == 0) (headP st).1.1 (headP st).2).2 [125])).2)
theorem isD_or {st : PS} {a b : Txt} (h : isD st a = true ∨ isD st b = true) : st.bad = 0 ∧ (hereD st).kind ≠ 7 := by
  rcases h with h | h
  · exact ⟨isD_bad h, isD_kind h⟩
  · exact ⟨isD_bad h, isD_kind h⟩
theorem ah_rules {st : PS} (h : WfP st) (hk : (hereD st).kind ≠ 7) : Ah st { nextD st with rules := st.rules + 1 } := ah_next h hk
theorem ah_some : ∀ (f : Nat) (st : PS) (l : List RuleD), WfP st → Ah st (someF f st l).2
  | 0, st, l, h => .refl h
  | f + 1, st, l, h => by
    unfold someF; split
    · rename_i hi
      split
      · exact ah_limit true h
      · have h1 := ah_rules h (isD_or hi).2
        have h2 := ah_rule (isD st denyT) h1.1
        exact (h1.trans h2).trans (ah_some f _ _ h2.1)
    · exact .refl h
theorem rch_some : ∀ (f : Nat) (st : PS) (l : List RuleD), RchR st (someF f st l).2
  | 0, st, l => .refl
  | f + 1, st, l => by
    unfold someF; split
    · rename_i hi
      split
      · exact (rch_limit st true).big
      · rename_i hn
        have h1 : RchR st { nextD st with rules := st.rules + 1 } := .rule .refl (isD_or hi).1 (fun e => hn (.inr e)) (isD_or hi).2
        exact (h1.trans (rch_rule (isD st denyT) _).big).trans (rch_some f _ _)
    · exact .refl
theorem ah_kids {pol : PoF} (hp : ∀ st, WfP st → Ah st (pol st).2) (deep : Bool) : ∀ (f : Nat) (st : PS) (l : List PolD), WfP st → Ah st (kidsF pol deep f st l).2
  | 0, st, l, h => .refl h
  | f + 1, st, l, h => by
    unfold kidsF; split
    · split
      · exact ah_limit true h
      · have h1 := hp st h
        exact h1.trans (ah_kids hp deep f _ _ h1.1)
    · exact .refl h
theorem rch_kids {pol : PoF} (hp : ∀ st, RchR st (pol st).2) (deep : Bool) : ∀ (f : Nat) (st : PS) (l : List PolD), RchR st (kidsF pol deep f st l).2
  | 0, st, l => .refl
  | f + 1, st, l => by
    unfold kidsF; split
    · split
      · exact (rch_limit st true).big
      · exact (hp st).trans (rch_kids hp deep f _ _)
    · exact .refl
theorem ah_body {pol : PoF} (hp : ∀ st, WfP st → Ah st (pol st).2) (deep set : Bool) {st : PS} (h : WfP st) : Ah st (bodyP pol deep set st).2 := by
  unfold bodyP; split
  · exact ah_kids hp deep _ _ _ h
  · exact ah_some _ _ _ h
theorem rch_body {pol : PoF} (hp : ∀ st, RchR st (pol st).2) (deep set : Bool) (st : PS) : RchR st (bodyP pol deep set st).2 := by
  unfold bodyP; split
  · exact rch_kids hp deep _ _ _
  · exact rch_some _ _ _
theorem ah_pol : ∀ (r : Nat) (st : PS), WfP st → Ah st (polF r st).2
  | 0, st, h => .refl h
  | r + 1, st, h => by
    have h1 := ah_head h
    have h2 := ah_body (ah_pol r) (r == 0) (headP st).1.1 h1.1
    have h3 := ah_must [125] h2.1
    exact ((h1.trans h2).trans h3).trans (ah_obls h3.1)
theorem rch_pol : ∀ (r : Nat) (st : PS), RchR st (polF r st).2
  | 0, st => .refl
  | r + 1, st => (((rch_head st).big.trans (rch_body (rch_pol r) _ _ _)).trans (rch_must _ [125]).big).trans (rch_obls _).big
theorem rules_pol {a b : PS} (h : RchR a b) (h0 : a.rules ≤ 64) : b.rules ≤ 64 := by
  induction h with
  | refl => exact h0
  | small _ h1 ih => rw [(rch_pos h1).2.2]; exact ih
  | rule _ _ h2 _ ih => show _ + 1 ≤ 64; omega
end Go.Bf

set_option linter.unusedVariables false
namespace Go.Bf
open Go Go.Ab
theorem lexF_form : ∀ (f : Nat) (s : Txt) (a : Nat) (out l : List TokD), lexF f s a out = .ok l → ∃ pre, l = out ++ pre ++ [⟨7, (a + s.length : Nat), 0, []⟩] ∧ pre.length ≤ s.length ∧ ∀ t ∈ pre, (a : Int) ≤ t.pos ∧ t.pos < ((a + s.length : Nat) : Int)
  | 0, _, _, _, _, h => by simp [lexF] at h
  | f + 1, [], a, out, l, h => by
    simp only [lexF, Lexed.ok.injEq] at h
    exact ⟨[], by simp [← h], by simp, by simp⟩
  | f + 1, c :: r, a, out, l, h => by
    simp only [lexF] at h
    split at h
    · obtain ⟨pre, e1, e2, e3⟩ := lexF_form f r (a + 1) out l h
      have ee : ((a + 1 + r.length : Nat) : Int) = ((a + (c :: r).length : Nat) : Int) := by simp only [List.length_cons]; omega
      refine ⟨pre, by rw [e1, ee], by simp only [List.length_cons]; omega, fun t ht => ?_⟩
      have := e3 t ht
      rw [ee] at this
      exact ⟨by omega, this.2⟩
    · split at h
      · cases h
      · rename_i hn
        have hle := beginsD_le (c :: r) (by simp)
        obtain ⟨pre, e1, e2, e3⟩ := lexF_form f _ _ _ l h
        have ee : ((a + (beginsD (c :: r)).2 + ((c :: r).drop (beginsD (c :: r)).2).length : Nat) : Int) = ((a + (c :: r).length : Nat) : Int) := by rw [List.length_drop]; omega
        refine ⟨{ (beginsD (c :: r)).1 with pos := a } :: pre, by rw [e1, ee]; simp, by rw [List.length_drop] at e2; simp only [List.length_cons] at e2 hle ⊢; omega, fun t ht => ?_⟩
        rcases List.mem_cons.1 ht with rfl | ht
        · refine ⟨Int.le_refl _, ?_⟩
          show (a : Int) < _
          simp only [List.length_cons]; omega
        · have := e3 t ht
          rw [ee] at this
          exact ⟨by omega, this.2⟩
theorem lexD_form {s : Txt} {ts : List TokD} (h : lexD s = .ok ts) : ∃ pre, ts = pre ++ [⟨7, s.length, 0, []⟩] ∧ pre.length ≤ s.length ∧ (∀ t ∈ pre, 0 ≤ t.pos ∧ t.pos < (s.length : Int)) ∧ s.length ≤ 4096 := by
  unfold lexD at h
  split at h
  · cases h
  · rename_i hl
    obtain ⟨pre, e1, e2, e3⟩ := lexF_form _ _ _ _ _ h
    exact ⟨pre, by simpa using e1, e2, by simpa using e3, by omega⟩
theorem wfP_start {s : Txt} {ts : List TokD} (h : lexD s = .ok ts) (x : Nat) (e p : Int) : WfP ⟨ts, 0, x, e, p⟩ := by
  obtain ⟨pre, rfl, h2, _, h3⟩ := lexD_form h
  refine ⟨by simp, fun i hi hk => ?_, by simp; omega⟩
  by_cases hl : i < pre.length
  · simp; omega
  · exfalso
    simp only [List.length_append, List.length_singleton] at hi
    have : i = pre.length := by omega
    subst this
    apply hk
    simp
theorem lexF_bad : ∀ (f : Nat) (s : Txt) (a : Nat) (out : List TokD) (e p : Int), lexF f s a out = .bad e p → e = 5 ∧ 0 ≤ p ∧ (s.length < f → p ≤ ((a + s.length : Nat) : Int))
  | 0, s, a, out, e, p, h => by
    simp only [lexF, Lexed.bad.injEq] at h
    obtain ⟨rfl, rfl⟩ := h
    exact ⟨rfl, by omega, by omega⟩
  | f + 1, [], a, out, e, p, h => by simp [lexF] at h
  | f + 1, c :: r, a, out, e, p, h => by
    simp only [lexF] at h
    split at h
    · obtain ⟨h1, h2, h3⟩ := lexF_bad f r (a + 1) out e p h
      refine ⟨h1, h2, fun hl => ?_⟩
      simp only [List.length_cons] at hl ⊢
      have := h3 (by omega)
      omega
    · split at h
      · simp only [Lexed.bad.injEq] at h
        obtain ⟨rfl, rfl⟩ := h
        exact ⟨rfl, by omega, fun _ => by omega⟩
      · obtain ⟨h1, h2, h3⟩ := lexF_bad f _ _ _ e p h
        refine ⟨h1, h2, fun hl => ?_⟩
        have hle := beginsD_le (c :: r) (by simp)
        rw [List.length_drop] at h3
        have := h3 (by omega)
        omega
theorem lexD_bad {s : Txt} {e a : Int} (h : lexD s = .bad e a) : (e = 5 ∨ e = 6) ∧ 0 ≤ a ∧ a ≤ s.length := by
  unfold lexD at h
  split at h
  · simp only [Lexed.bad.injEq] at h
    obtain ⟨rfl, rfl⟩ := h
    exact ⟨.inr rfl, by omega, by omega⟩
  · obtain ⟨h1, h2, h3⟩ := lexF_bad _ _ _ _ _ _ h
    have := h3 (by omega)
    exact ⟨.inl h1, h2, by omega⟩
def zeroP : PolD := .mk [] false 0 [] [] [] []
def endP (s : Txt) (x : PolD × PS) : PS :=
  if (if (hereD x.2).kind = 7 then x.2 else stuckD x.2).bad = 0 ∧ rightE x.1 ≠ 0 then wrongD (if (hereD x.2).kind = 7 then x.2 else stuckD x.2) 5 s.length else (if (hereD x.2).kind = 7 then x.2 else stuckD x.2)
def parseT (s : Txt) (ts : List TokD) : PolD × Int × Int :=
  if (endP s (polF 4 ⟨ts, 0, 0, 0, 0⟩)).bad = 0 then ((polF 4 ⟨ts, 0, 0, 0, 0⟩).1, 0, 0) else (zeroP, (endP s (polF 4 ⟨ts, 0, 0, 0, 0⟩)).bad, (endP s (polF 4 ⟨ts, 0, 0, 0, 0⟩)).place)
def parseD (s : Txt) : PolD × Int × Int := match lexD s with
  | .bad e a => (zeroP, e, a)
  | .ok ts => parseT s ts
end Go.Bf

set_option linter.unusedSimpArgs false
set_option linter.unusedVariables false
namespace Go.Bf
open Go Go.Ab
end Go.Bf

set_option linter.unusedSimpArgs false
set_option linter.unusedVariables false
namespace Go.Bf
open Go Go.Ab
def inV (v : ValD) : Prop := -9223372036854775808 ≤ v.n ∧ v.n ≤ 9223372036854775807
end Go.Bf

set_option linter.unusedSimpArgs false
set_option linter.unusedVariables false
namespace Go.Bf
open Go Go.Ab
def er (t : TokD) : TokD := ⟨t.kind, 0, t.n, t.s⟩
def wdK (s : Txt) : TokD := ⟨1, 0, 0, s⟩
def mkK (c : UInt8) : TokD := ⟨6, 0, 0, [c]⟩
def Sep (r : Txt) : Prop := ∀ c l, r = c :: l → wrd c = false
theorem Sep.nil : Sep [] := fun _ _ h => by cases h
def Lx (b : Bool) (s : Txt) (ks : List TokD) : Prop := ∀ (rest : Txt) (f a : Nat) (out : List TokD), (b = true → Sep rest) → (s ++ rest).length < f →
  ∃ f' new, rest.length < f' ∧ new.map er = ks ∧ lexF f (s ++ rest) a out = lexF f' rest (a + s.length) (out ++ new)
theorem Lx.weaken {b : Bool} {s : Txt} {ks : List TokD} (h : Lx b s ks) : Lx true s ks := fun rest f a out hr hf => h rest f a out (fun _ => hr rfl) hf
theorem Lx.nil (b : Bool) : Lx b [] [] := fun rest f a out _ hf => ⟨f, [], by simpa using hf, rfl, by simp⟩
theorem Lx.app {b1 b2 : Bool} {s1 s2 : Txt} {k1 k2 : List TokD} (h1 : Lx b1 s1 k1) (h2 : Lx b2 s2 k2) (hs : b1 = true → ∀ rest, (b2 = true → Sep rest) → Sep (s2 ++ rest)) : Lx b2 (s1 ++ s2) (k1 ++ k2) := fun rest f a out hr hf => by
  rw [List.append_assoc] at hf ⊢
  obtain ⟨f1, n1, g1, g2, g3⟩ := h1 (s2 ++ rest) f a out (fun hb => hs hb rest hr) hf
  obtain ⟨f2, n2, g4, g5, g6⟩ := h2 rest f1 (a + s1.length) (out ++ n1) hr g1
  refine ⟨f2, n1 ++ n2, g4, by rw [List.map_append, g2, g5], ?_⟩
  rw [g3, g6, List.append_assoc, List.length_append, Nat.add_assoc]
end Go.Bf

set_option linter.unusedSimpArgs false
set_option linter.unusedVariables false
namespace Go.Bf
open Go Go.Ab
def valK (v : ValD) : TokD :=
  if v.kind = 1 then wdK (Lib.formatBool (v.n == 1)) else if v.kind = 4 then ⟨3, 0, v.n, []⟩ else if v.kind = 5 then ⟨4, 0, 0, v.s⟩ else if v.kind = 3 then ⟨5, 0, 0, v.s⟩ else ⟨2, 0, v.n, []⟩
end Go.Bf

set_option linter.unusedSimpArgs false
set_option linter.unusedVariables false
namespace Go.Bf
open Go Go.Ab
def attrK (a : AttrD) : List TokD := [wdK (catW a.cat), mkK 46, wdK a.name] ++ (if a.must then [mkK 33] else [])
end Go.Bf

set_option linter.unusedSimpArgs false
set_option linter.unusedVariables false
namespace Go.Bf
open Go Go.Ab
def zV : ValD := ⟨0, 0, []⟩
def zA : AttrD := ⟨0, [], false⟩
inductive Tree : List NodeD → Bool → Txt → List TokD → Prop
  | lit (v : ValD) (h : valOK v = true) (hi : inV v) : Tree [⟨1, v, zA⟩] false (valT v) [valK v]
  | attr (a : AttrD) (h : attrOK a = true) : Tree [⟨2, zV, a⟩] true (attrT a) (attrK a)
  | one {op : Int} {w : Bool} {l : List NodeD} {t : Txt} {k : List TokD} (ho : op = 3 ∧ w = true ∨ op = 4 ∧ w = true ∨ op = 11 ∧ w = false) (h : Tree l w t k) :
      Tree (l ++ [⟨op, zV, zA⟩]) false ([40] ++ fnW op ++ [32] ++ t ++ [41]) ([mkK 40, wdK (fnW op)] ++ k ++ [mkK 41])
  | two {op : Int} {w1 w2 : Bool} {l1 l2 : List NodeD} {t1 t2 : Txt} {k1 k2 : List TokD} (ho : op = 5 ∧ w1 = true ∧ w2 = false ∨ 6 ≤ op ∧ op ≤ 13 ∧ op ≠ 11 ∧ w1 = false ∧ w2 = false) (h1 : Tree l1 w1 t1 k1) (h2 : Tree l2 w2 t2 k2) :
      Tree (l1 ++ l2 ++ [⟨op, zV, zA⟩]) false ([40] ++ fnW op ++ [32] ++ (t1 ++ [32] ++ t2) ++ [41]) ([mkK 40, wdK (fnW op)] ++ (k1 ++ k2) ++ [mkK 41])
end Go.Bf

set_option linter.unusedSimpArgs false
set_option linter.unusedVariables false
namespace Go.Bf
open Go Go.Ab
end Go.Bf

set_option linter.unusedSimpArgs false
set_option linter.unusedVariables false
namespace Go.Bf
open Go Go.Ab
def St (a b : PS) : Prop := b.rules = a.rules ∧ b.ts = a.ts
theorem St.refl (a : PS) : St a a := ⟨rfl, rfl⟩
theorem St.trans {a b c : PS} (x : St a b) (y : St b c) : St a c := ⟨y.1.trans x.1, y.2.trans x.2⟩
end Go.Bf

set_option linter.unusedSimpArgs false
set_option linter.unusedVariables false
namespace Go.Bf
open Go Go.Ab
end Go.Bf

set_option linter.unusedSimpArgs false
set_option linter.unusedVariables false
namespace Go.Bf
open Go Go.Ab
end Go.Bf

set_option linter.unusedVariables false
namespace Go.Bf
open Go Go.Ab
end Go.Bf

set_option linter.unusedSimpArgs false
set_option linter.unusedVariables false
namespace Go.Bf
open Go Go.Ab
end Go.Bf

set_option linter.unusedSimpArgs false
set_option linter.unusedVariables false
namespace Go.Bf
open Go Go.Ab
def withinD (m : Int) (b : Nat) : Nat := (if m.tmod (b + 1) < 0 then m.tmod (b + 1) + (b + 1) else m.tmod (b + 1)).toNat
theorem withinD_le (m : Int) (b : Nat) : withinD m b ≤ b := by
  have t1 := Int.tmod_lt_of_pos m (show (0 : Int) < b + 1 by omega)
  have t2 := Int.lt_tmod_of_pos m (show (0 : Int) < b + 1 by omega)
  unfold withinD
  split <;> omega
end Go.Bf

set_option linter.unusedSimpArgs false
set_option linter.unusedVariables false
namespace Go.Bf
open Go Go.Ab
end Go.Bf

set_option linter.unusedSimpArgs false
set_option linter.unusedVariables false
namespace Go.Bf
open Go Go.Ab
structure Sm (n : Nat) (a b : PS) : Prop where
  tok : ∀ i, i < n → er (a.ts.getD i ⟨7, 0, 0, []⟩) = er (b.ts.getD i ⟨7, 0, 0, []⟩)
  pos : a.pos = b.pos
  rules : a.rules = b.rules
  bad : a.bad = b.bad
  fa : n ≤ a.ts.length
  fb : n ≤ b.ts.length
def SV {α : Type} (n : Nat) (x y : α × PS) : Prop := n ≤ x.2.pos ∨ (x.1 = y.1 ∧ Sm n x.2 y.2)
def SP (n : Nat) (a b : PS) : Prop := n ≤ a.pos ∨ Sm n a b
theorem Sm.dead {n : Nat} {a c : PS} (h : n ≤ a.pos) (r : Rch a c) : n ≤ c.pos := Nat.le_trans h (rch_pos r).2.1
theorem rchR_pos {a b : PS} (h : RchR a b) : b.ts = a.ts ∧ a.pos ≤ b.pos := by
  induction h with
  | refl => exact ⟨rfl, Nat.le_refl _⟩
  | small _ h1 ih => exact ⟨(rch_pos h1).1.trans ih.1, Nat.le_trans ih.2 (rch_pos h1).2.1⟩
  | rule _ _ _ _ ih => exact ⟨ih.1, Nat.le_succ_of_le ih.2⟩
theorem Sm.here {n : Nat} {a b : PS} (h : Sm n a b) (hp : a.pos < n) : (hereD a).kind = (hereD b).kind ∧ (hereD a).n = (hereD b).n ∧ (hereD a).s = (hereD b).s := by
  have := h.tok a.pos hp
  unfold hereD
  rw [← h.pos]
  simp only [er, TokD.mk.injEq] at this
  exact ⟨this.1, this.2.2.1, this.2.2.2⟩
theorem Sm.is {n : Nat} {a b : PS} (h : Sm n a b) (hp : a.pos < n) (w : Txt) : isD a w = isD b w := by
  obtain ⟨h1, h2, h3⟩ := h.here hp
  unfold isD
  rw [h.bad, h1, h3]
theorem Sm.next {n : Nat} {a b : PS} (h : Sm n a b) : Sm n (nextD a) (nextD b) := ⟨h.tok, by show a.pos + 1 = b.pos + 1; rw [h.pos], h.rules, h.bad, h.fa, h.fb⟩
theorem Sm.wrong {n : Nat} {a b : PS} (h : Sm n a b) (e p q : Int) : Sm n (wrongD a e p) (wrongD b e q) := by
  unfold wrongD
  rw [h.bad]
  split
  · exact ⟨h.tok, h.pos, h.rules, rfl, h.fa, h.fb⟩
  · exact h
theorem Sm.stuck {n : Nat} {a b : PS} (h : Sm n a b) : Sm n (stuckD a) (stuckD b) := h.wrong _ _ _
theorem Sm.limit {n : Nat} {a b : PS} (h : Sm n a b) (x : Bool) : Sm n (limitD a x) (limitD b x) := by
  unfold limitD; split
  · exact h.wrong _ _ _
  · exact h
theorem SP.of {n : Nat} {a b : PS} {f : PS → PS} (h : SP n a b) (r : ∀ a, Rch a (f a)) (k : ∀ a b, Sm n a b → a.pos < n → SP n (f a) (f b)) : SP n (f a) (f b) := by
  rcases h with h | h
  · exact .inl (Sm.dead h (r a))
  · by_cases hp : a.pos < n
    · exact k a b h hp
    · exact .inl (Sm.dead (Nat.not_lt.1 hp) (r a))
theorem SV.of {α : Type} {n : Nat} {a b : PS} {f : PS → α × PS} (h : SP n a b) (r : ∀ a, Rch a (f a).2) (k : ∀ a b, Sm n a b → a.pos < n → SV n (f a) (f b)) : SV n (f a) (f b) := by
  rcases h with h | h
  · exact .inl (Sm.dead h (r a))
  · by_cases hp : a.pos < n
    · exact k a b h hp
    · exact .inl (Sm.dead (Nat.not_lt.1 hp) (r a))
theorem SV.bind {α β : Type} {n : Nat} {x y : α × PS} {F : α → PS → β × PS} (h : SV n x y) (r : ∀ v s, Rch s (F v s).2) (k : ∀ v a b, Sm n a b → SV n (F v a) (F v b)) : SV n (F x.1 x.2) (F y.1 y.2) := by
  rcases h with h | ⟨e, h⟩
  · exact .inl (Sm.dead h (r _ _))
  · rw [e]; exact k _ _ _ h
theorem SV.st {α : Type} {n : Nat} {x y : α × PS} (h : SV n x y) : SP n x.2 y.2 := h.imp id (·.2)
theorem sp_must {n : Nat} {a b : PS} (h : SP n a b) (w : Txt) : SP n (mustD a w) (mustD b w) := h.of (f := fun a => mustD a w) (fun a => rch_must a w) fun a b h hp => by
  unfold mustD
  rw [h.is hp]
  split
  · exact .inr h.next
  · exact .inr h.stuck
theorem sv_must {α : Type} {n : Nat} {a b : PS} (v : α) (h : SP n a b) (w : Txt) : SV n (v, mustD a w) (v, mustD b w) := (sp_must h w).imp id fun h => ⟨rfl, h⟩
theorem sv_take {n : Nat} {a b : PS} (h : SP n a b) (w : Txt) : SV n (takeD a w) (takeD b w) := SV.of (f := fun a => takeD a w) h (fun a => rch_take a w) fun a b h hp => by
  unfold takeD
  rw [h.is hp]
  split
  · exact .inr ⟨rfl, h.next⟩
  · exact .inr ⟨rfl, h⟩
theorem sm_name {n : Nat} {a b : PS} (h : Sm n a b) (hp : a.pos < n) : (nameP a).1 = (nameP b).1 ∧ Sm n (nameP a).2 (nameP b).2 := by
  obtain ⟨h1, _, h3⟩ := h.here hp
  unfold nameP
  rw [h1, h.bad, h3]
  split
  · exact ⟨rfl, h.next⟩
  · refine ⟨rfl, ?_⟩
    simp only
    split
    · exact h
    · exact h.stuck
theorem sv_name {n : Nat} {a b : PS} (h : SP n a b) : SV n (nameP a) (nameP b) := SV.of (f := nameP) h rch_name fun a b h hp => .inr (sm_name h hp)
theorem sm_among {n : Nat} {a b : PS} (h : Sm n a b) (hp : a.pos < n) (ws : List Txt) : (amongD a ws).1 = (amongD b ws).1 ∧ Sm n (amongD a ws).2 (amongD b ws).2 := by
  obtain ⟨h1, _, h3⟩ := h.here hp
  unfold amongD
  rw [h1, h.bad, h3]
  split
  · split
    · exact ⟨rfl, h.next⟩
    · exact ⟨rfl, h.stuck⟩
  · exact ⟨rfl, h.stuck⟩
theorem sv_among {n : Nat} {a b : PS} (h : SP n a b) (ws : List Txt) : SV n (amongD a ws) (amongD b ws) := SV.of (f := fun a => amongD a ws) h (fun a => rch_among a ws) fun a b h hp => .inr (sm_among h hp ws)
theorem SV.seq {α β γ : Type} {n : Nat} {f : PS → α × PS} {g : PS → β × PS} (c : α → β → γ) (rf : ∀ a, Rch a (f a).2) (rg : ∀ a, Rch a (g a).2) (hf : ∀ a b, SP n a b → SV n (f a) (f b)) (hg : ∀ a b, SP n a b → SV n (g a) (g b)) {a b : PS} (h : SP n a b) :
    SV n (c (f a).1 (g (f a).2).1, (g (f a).2).2) (c (f b).1 (g (f b).2).1, (g (f b).2).2) := by
  rcases hf a b h with h1 | ⟨e1, h1⟩
  · exact .inl (Sm.dead h1 (rg _))
  · rcases hg _ _ (.inr h1) with h2 | ⟨e2, h2⟩
    · exact .inl h2
    · exact .inr ⟨by rw [e1, e2], h2⟩
theorem sv_attr {n : Nat} {a b : PS} (h : SP n a b) : SV n (attrP a) (attrP b) :=
  SV.seq (f := fun s => amongD s catWs) (g := fun s => (((nameP (mustD s [46])).1, (takeD (nameP (mustD s [46])).2 [33]).1), (takeD (nameP (mustD s [46])).2 [33]).2)) (fun x y => (⟨x, y.1, y.2⟩ : AttrD))
    (fun s => rch_among s _) (fun s => ((rch_must s _).trans (rch_name _)).trans (rch_take _ _)) (fun a b h => sv_among h _)
    (fun a b h => SV.seq (f := nameP) (g := fun s => takeD s [33]) (fun x y => (x, y)) rch_name (fun s => rch_take s _) (fun a b h => sv_name h) (fun a b h => sv_take h _) (sp_must h _)) h
theorem sv_value {n : Nat} {a b : PS} (h : SP n a b) : SV n (valueP a) (valueP b) := SV.of (f := valueP) h rch_value fun a b h hp => by
  obtain ⟨h1, h2, h3⟩ := h.here hp
  have hv : (valueV a).1 = (valueV b).1 ∧ Sm n (valueV a).2 (valueV b).2 := by
    unfold valueV
    rw [h1, h2, h3, h.is hp, h.is hp]
    (repeat' split) <;> first | exact ⟨rfl, h⟩ | exact ⟨rfl, h.stuck⟩
  unfold valueP
  rw [hv.1, hv.2.bad]
  split
  · exact .inr ⟨rfl, hv.2.next⟩
  · exact .inr ⟨rfl, hv.2⟩
theorem sv_op {n : Nat} {a b : PS} (h : SP n a b) : SV n (opP a) (opP b) := SV.of (f := opP) h rch_op fun a b h hp => by
  unfold opP
  rw [h.is hp, h.is hp, h.is hp]
  (repeat' split) <;> first | exact .inr ⟨rfl, h.next⟩ | exact .inr ⟨rfl, h.stuck⟩
theorem sv_match {n : Nat} {a b : PS} (h : SP n a b) : SV n (matchP a) (matchP b) :=
  SV.seq (f := attrP) (g := fun s => (((opP s).1, (valueP (opP s).2).1), (valueP (opP s).2).2)) (fun x y => (⟨x, y.1, y.2⟩ : MatchD)) rch_attr (fun s => (rch_op s).trans (rch_value _)) (fun a b h => sv_attr h)
    (fun a b h => SV.seq (f := opP) (g := valueP) (fun x y => (x, y)) rch_op rch_value (fun a b h => sv_op h) (fun a b h => sv_value h) h) h
theorem sv_many {α : Type} {n : Nat} {one : PS → α × PS} (ro : ∀ s, Rch s (one s).2) (ho : ∀ a b, SP n a b → SV n (one a) (one b)) (w : Txt) (most : Nat) : ∀ (f g : Nat) (a b : PS) (l : List α), n ≤ f + a.pos → n ≤ g + a.pos → SP n a b → SV n (manyF one w most f a l) (manyF one w most g b l) := by
  intro f
  induction f with
  | zero => intro g a b l hf hg h; exact .inl (by simpa [manyF] using hf)
  | succ f ih =>
    intro g a b l hf hg h
    by_cases hp : n ≤ a.pos
    · exact .inl (Sm.dead hp (rch_many ro w most _ _ _))
    have hp := Nat.not_le.1 hp
    obtain ⟨g, rfl⟩ : ∃ g', g = g' + 1 := ⟨g - 1, by omega⟩
    have h := h.resolve_left (by omega)
    unfold manyF
    rw [h.is hp]
    split
    · have h1 := ho _ _ (.inr h.next)
      have hpos := (rch_pos ((ro (nextD a)).trans (rch_limit _ (decide (most < l.length + 1))))).2.1
      have : (nextD a).pos = a.pos + 1 := rfl
      rcases h1 with h1 | ⟨e1, h1⟩
      · exact .inl (Sm.dead h1 ((rch_limit _ _).trans (rch_many ro w most _ _ _)))
      · rw [e1]
        exact ih g _ _ _ (by omega) (by omega) (.inr (h1.limit _))
    · exact .inr ⟨rfl, h⟩
theorem SP.fuel {n : Nat} {a b : PS} (h : SP n a b) : n ≤ a.ts.length + a.pos ∧ (n ≤ a.pos ∨ n ≤ b.ts.length + a.pos) := by
  rcases h with h | h
  · exact ⟨by omega, .inl h⟩
  · have := h.fa
    have := h.fb
    exact ⟨by omega, .inr (by omega)⟩
theorem sv_manyT {α : Type} {n : Nat} {one : PS → α × PS} (ro : ∀ s, Rch s (one s).2) (ho : ∀ a b, SP n a b → SV n (one a) (one b)) (w : Txt) (most : Nat) {a b : PS} (l : List α) {f g : Nat} (hf : a.ts.length = f) (hg : b.ts.length = g) (h : SP n a b) : SV n (manyF one w most f a l) (manyF one w most g b l) := by
  obtain ⟨h1, h2⟩ := h.fuel
  rcases h2 with h2 | h2
  · exact .inl (Sm.dead h2 (rch_many ro w most _ _ _))
  · exact sv_many ro ho w most _ _ _ _ l (by omega) (by omega) h
theorem sv_all {n : Nat} {a b : PS} (h : SP n a b) : SV n (allP a) (allP b) := by
  unfold allP
  rcases sv_match h with h1 | ⟨e1, h1⟩
  · exact .inl (Sm.dead h1 (rch_many rch_match _ _ _ _ _))
  · rw [e1]
    exact sv_manyT rch_match (fun a b h => sv_match h) _ _ _ (congrArg List.length (rch_pos (rch_match a)).1) (congrArg List.length (rch_pos (rch_match b)).1) (.inr h1)
theorem sv_any {n : Nat} {a b : PS} (h : SP n a b) : SV n (anyP a) (anyP b) := by
  unfold anyP
  simp only
  rcases sv_all (sp_must h [40]) with h1 | ⟨e1, h1⟩
  · exact .inl (Sm.dead h1 ((rch_many rch_all _ _ _ _ _).trans (rch_must _ _)))
  · rw [e1]
    have ta : (allP (mustD a [40])).2.ts.length = a.ts.length := by rw [(rch_pos ((rch_must a [40]).trans (rch_all _))).1]
    have tb : (allP (mustD b [40])).2.ts.length = b.ts.length := by rw [(rch_pos ((rch_must b [40]).trans (rch_all _))).1]
    rcases sv_manyT rch_all (fun a b h => sv_all h) orT 8 [(allP (mustD b [40])).1] ta tb (.inr h1) with h2 | ⟨e2, h2⟩
    · exact .inl (Sm.dead h2 (rch_must _ _))
    · rw [e2]; exact sv_must _ (.inr h2) _
theorem sv_tgt {n : Nat} {a b : PS} (h : SP n a b) : SV n (tgtP a) (tgtP b) := SV.of (f := tgtP) h rch_tgt fun a b h hp => by
  unfold tgtP
  rw [h.is hp]
  split
  · rcases sv_any (.inr h.next) with h1 | ⟨e1, h1⟩
    · exact .inl (Sm.dead h1 (rch_many rch_any _ _ _ _ _))
    · rw [e1]
      exact sv_manyT rch_any (fun a b h => sv_any h) _ _ _ (by rw [(rch_pos (rch_any (nextD a))).1]; rfl) (by rw [(rch_pos (rch_any (nextD b))).1]; rfl) (.inr h1)
  · exact .inr ⟨rfl, h⟩
def SX (n p : Nat) (ea eb : ExF) : Prop := ∀ a b l, p ≤ a.pos → SP n a b → SV n (ea a l) (eb b l)
theorem sv_oper {n p : Nat} {ea eb : ExF} (ra : ∀ s l, Rch s (ea s l).2) (he : SX n p ea eb) {a b : PS} (hp : p ≤ a.pos) (h : SP n a b) (l : List NodeD) (must : Bool) : SV n (operG ea a l must) (operG eb b l must) := by
  unfold operG
  rcases he a b l hp h with h1 | ⟨e1, h1⟩
  · refine .inl ?_
    simp only
    split
    · exact h1
    · have : (wrongD (ea a l).2 5 (hereD a).pos).pos = (ea a l).2.pos := by unfold wrongD; split <;> rfl
      rw [this]; exact h1
  · rw [e1]
    refine .inr ⟨rfl, ?_⟩
    simp only
    split
    · exact h1
    · exact h1.wrong _ _ _
theorem sv_opers {n p : Nat} {ea eb : ExF} (ra : ∀ s l, Rch s (ea s l).2) (he : SX n p ea eb) : ∀ (bs : List Bool) {a b : PS} (l : List NodeD), p ≤ a.pos → SP n a b → SV n (opersG ea bs a l) (opersG eb bs b l)
  | [], a, b, l, hp, h => h.imp id fun h => ⟨rfl, h⟩
  | x :: bs, a, b, l, hp, h => by
    rcases h with h | h
    · exact .inl (Sm.dead h (rch_opers ra _ _ _))
    unfold opersG
    rw [h.bad]
    split
    · rcases sv_oper ra he hp (.inr h) l x with h1 | ⟨e1, h1⟩
      · exact .inl (Sm.dead h1 (rch_opers ra _ _ _))
      · rw [e1]; exact sv_opers ra he bs _ (Nat.le_trans hp (rch_pos (rch_oper ra a l x)).2.1) (.inr h1)
    · exact .inr ⟨rfl, h⟩
theorem sv_func {n p : Nat} {ea eb : ExF} (ra : ∀ s l, Rch s (ea s l).2) (he : SX n p ea eb) {a b : PS} (hp : p ≤ a.pos) (h : SP n a b) (l : List NodeD) : SV n (funcG ea a l) (funcG eb b l) := by
  unfold funcG
  rcases sv_among h fnWs with h1 | ⟨e1, h1⟩
  · exact .inl (Sm.dead h1 ((rch_opers ra _ _ _).trans (rch_must _ _)))
  · rw [e1]
    rcases sv_opers ra he (opers (2 + (amongD b fnWs).1)) l (Nat.le_trans hp (rch_pos (rch_among a fnWs)).2.1) (.inr h1) with h2 | ⟨e2, h2⟩
    · exact .inl (Sm.dead h2 (rch_must _ _))
    · rw [e2]; exact sv_must _ (.inr h2) _
theorem sv_expr {n : Nat} : ∀ (f g : Nat) (a b : PS) (l : List NodeD), n ≤ f + a.pos → n ≤ g + a.pos → SP n a b → SV n (exprF f a l) (exprF g b l)
  | 0, g, a, b, l, hf, hg, h => .inl (by simpa [exprF] using hf)
  | f + 1, g, a, b, l, hf, hg, h => by
    by_cases hp : n ≤ a.pos
    · exact .inl (Sm.dead hp (rch_expr _ _ _))
    have hp := Nat.not_le.1 hp
    obtain ⟨g, rfl⟩ : ∃ g', g = g' + 1 := ⟨g - 1, by omega⟩
    have h := h.resolve_left (by omega)
    obtain ⟨k1, k2, k3⟩ := h.here hp
    have hh : SV n (headG (exprF f) a l) (headG (exprF g) b l) := by
      unfold headG
      rw [h.is hp, k1, k3]
      split
      · exact sv_func (p := a.pos + 1) (rch_expr f) (fun x y m hx hxy => sv_expr f g x y m (by omega) (by omega) hxy) (Nat.le_refl _) (.inr h.next) l
      · split
        · rcases sv_attr (.inr h) with h1 | ⟨e1, h1⟩
          · exact .inl h1
          · rw [e1]; exact .inr ⟨rfl, h1⟩
        · rcases sv_value (.inr h) with h1 | ⟨e1, h1⟩
          · exact .inl h1
          · rw [e1]; exact .inr ⟨rfl, h1⟩
    unfold exprF
    rcases hh with h1 | ⟨e1, h1⟩
    · exact .inl (Sm.dead h1 (rch_limit _ _))
    · rw [e1]; exact .inr ⟨rfl, h1.limit _⟩
theorem sv_obl {n : Nat} {a b : PS} (h : SP n a b) : SV n (oblP a) (oblP b) :=
  SV.seq (f := fun s => amongD s onWs) (g := fun s => (((amongD s dutyWs).1, (nameP (amongD s dutyWs).2).1), (nameP (amongD s dutyWs).2).2)) (fun x y => (⟨x, y.1, y.2⟩ : OblD)) (fun s => rch_among s _) (fun s => (rch_among s _).trans (rch_name _)) (fun a b h => sv_among h _)
    (fun a b h => SV.seq (f := fun s => amongD s dutyWs) (g := nameP) (fun x y => (x, y)) (fun s => rch_among s _) rch_name (fun a b h => sv_among h _) (fun a b h => sv_name h) h) h
theorem sv_obls {n : Nat} {a b : PS} (h : SP n a b) : SV n (oblsP a) (oblsP b) := sv_manyT rch_obl (fun a b h => sv_obl h) _ _ _ rfl rfl h
theorem sv_cond {n : Nat} {a b : PS} (h : SP n a b) : SV n (condP a) (condP b) := by
  have r : ∀ s, Rch s (condP s).2 := fun s => by
    unfold condP; split
    · rename_i h; exact (rch_is h).trans (rch_oper (rch_expr _) _ _ _)
    · exact .refl
  refine SV.of (f := condP) h r fun a b h hp => ?_
  have f1 := h.fa
  have f2 := h.fb
  unfold condP
  rw [h.is hp]
  split
  · refine sv_oper (p := 0) (rch_expr _) (fun x y m hx hxy => ?_) (Nat.zero_le _) (.inr h.next) [] false
    exact sv_expr _ _ x y m (by omega) (by omega) hxy
  · exact .inr ⟨rfl, h⟩
theorem rch_cond' (s : PS) : Rch s (condP s).2 := by
  unfold condP; split
  · rename_i h; exact (rch_is h).trans (rch_oper (rch_expr _) _ _ _)
  · exact .refl
theorem sv_rule {n : Nat} (deny : Bool) {a b : PS} (h : SP n a b) : SV n (ruleP deny a) (ruleP deny b) := by
  unfold ruleP
  rcases sv_name h with h1 | ⟨e1, h1⟩
  · exact .inl (Sm.dead h1 ((((rch_tgt _).trans (rch_cond' _)).trans (rch_obls _)).trans (rch_must _ [59])))
  rcases sv_tgt (.inr h1) with h2 | ⟨e2, h2⟩
  · exact .inl (Sm.dead h2 (((rch_cond' _).trans (rch_obls _)).trans (rch_must _ [59])))
  rcases sv_cond (.inr h2) with h3 | ⟨e3, h3⟩
  · exact .inl (Sm.dead h3 ((rch_obls _).trans (rch_must _ [59])))
  rcases sv_obls (.inr h3) with h4 | ⟨e4, h4⟩
  · exact .inl (Sm.dead h4 (rch_must _ [59]))
  rw [e1, e2, e3, e4]
  exact sv_must _ (.inr h4) _
theorem SmR {n : Nat} {a b : PS} (h : Sm n a b) : Sm n { nextD a with rules := a.rules + 1 } { nextD b with rules := b.rules + 1 } := ⟨h.tok, by show a.pos + 1 = b.pos + 1; rw [h.pos], by show a.rules + 1 = b.rules + 1; rw [h.rules], h.bad, h.fa, h.fb⟩
theorem Sm.deadR {n : Nat} {a c : PS} (h : n ≤ a.pos) (r : RchR a c) : n ≤ c.pos := Nat.le_trans h (rchR_pos r).2
theorem sv_some {n : Nat} : ∀ (f : Nat) {a b : PS} (l : List RuleD), SP n a b → SV n (someF f a l) (someF f b l)
  | 0, a, b, l, h => h.imp id fun h => ⟨rfl, h⟩
  | f + 1, a, b, l, h => by
    by_cases hp : n ≤ a.pos
    · exact .inl (Sm.deadR hp (rch_some _ _ _))
    have hp := Nat.not_le.1 hp
    have h := h.resolve_left (by omega)
    unfold someF
    rw [h.is hp, h.is hp, h.rules]
    split
    · split
      · exact .inr ⟨rfl, h.limit true⟩
      · have hR := SmR h
        rw [h.rules] at hR
        rcases sv_rule (isD b denyT) (.inr hR) with h1 | ⟨e1, h1⟩
        · exact .inl (Sm.deadR h1 (rch_some _ _ _))
        · rw [e1]; exact sv_some f _ (.inr h1)
    · exact .inr ⟨rfl, h⟩
theorem sv_kids {n : Nat} {pol : PoF} (rp : ∀ s, RchR s (pol s).2) (hpol : ∀ a b, SP n a b → SV n (pol a) (pol b)) (deep : Bool) : ∀ (f : Nat) {a b : PS} (l : List PolD), SP n a b → SV n (kidsF pol deep f a l) (kidsF pol deep f b l)
  | 0, a, b, l, h => h.imp id fun h => ⟨rfl, h⟩
  | f + 1, a, b, l, h => by
    by_cases hp : n ≤ a.pos
    · exact .inl (Sm.deadR hp (rch_kids rp _ _ _ _))
    have hp := Nat.not_le.1 hp
    have h := h.resolve_left (by omega)
    unfold kidsF
    rw [h.is hp, h.is hp]
    split
    · split
      · exact .inr ⟨rfl, h.limit true⟩
      · rcases hpol _ _ (.inr h) with h1 | ⟨e1, h1⟩
        · exact .inl (Sm.deadR h1 (rch_kids rp _ _ _ _))
        · rw [e1]; exact sv_kids rp hpol deep f _ (.inr h1)
    · exact .inr ⟨rfl, h⟩
theorem sv_head {n : Nat} {a b : PS} (h : SP n a b) : SV n (headP a) (headP b) := by
  unfold headP
  rcases sv_among h kindWs with h1 | ⟨e1, h1⟩
  · exact .inl (Sm.dead h1 ((((rch_name _).trans (rch_among _ algWs)).trans (rch_tgt _)).trans (rch_must _ [123])))
  rcases sv_name (.inr h1) with h2 | ⟨e2, h2⟩
  · exact .inl (Sm.dead h2 (((rch_among _ algWs).trans (rch_tgt _)).trans (rch_must _ [123])))
  rcases sv_among (.inr h2) algWs with h3 | ⟨e3, h3⟩
  · exact .inl (Sm.dead h3 ((rch_tgt _).trans (rch_must _ [123])))
  rcases sv_tgt (.inr h3) with h4 | ⟨e4, h4⟩
  · exact .inl (Sm.dead h4 (rch_must _ [123]))
  rw [e1, e2, e3, e4]
  exact sv_must _ (.inr h4) _
theorem sv_body {n : Nat} {pol : PoF} (rp : ∀ s, RchR s (pol s).2) (hpol : ∀ a b, SP n a b → SV n (pol a) (pol b)) (deep set : Bool) {a b : PS} (h : SP n a b) : SV n (bodyP pol deep set a) (bodyP pol deep set b) := by
  unfold bodyP
  split
  · rcases sv_kids rp hpol deep 17 [] h with h1 | ⟨e1, h1⟩
    · exact .inl h1
    · rw [e1]; exact .inr ⟨rfl, h1⟩
  · rcases sv_some 17 [] h with h1 | ⟨e1, h1⟩
    · exact .inl h1
    · rw [e1]; exact .inr ⟨rfl, h1⟩
theorem sv_pol {n : Nat} : ∀ (r : Nat) {a b : PS}, SP n a b → SV n (polF r a) (polF r b)
  | 0, a, b, h => h.imp id fun h => ⟨rfl, h⟩
  | r + 1, a, b, h => by
    unfold polF
    rcases sv_head h with h1 | ⟨e1, h1⟩
    · exact .inl (Sm.deadR h1 (((rch_body (rch_pol r) _ _ _).trans (rch_must _ [125]).big).trans (rch_obls _).big))
    rw [e1]
    rcases sv_body (rch_pol r) (fun a b h => sv_pol r h) (r == 0) (headP b).1.1 (.inr h1) with h2 | ⟨e2, h2⟩
    · exact .inl (Sm.dead h2 ((rch_must _ [125]).trans (rch_obls _)))
    rw [e2]
    rcases sv_obls (sp_must (.inr h2) [125]) with h3 | ⟨e3, h3⟩
    · exact .inl h3
    · rw [e3]; exact .inr ⟨rfl, h3⟩
end Go.Bf

set_option linter.unusedSimpArgs false
set_option linter.unusedVariables false
namespace Go.Bf
open Go Go.Ab
def Bt (t : Txt) : Prop := ∀ c l, t = c :: l → blankB c = true
theorem blank_wrd {c : UInt8} (h : blankB c = true) : wrd c = false ∧ dgt c = false ∧ ltr c = false := by
  simp only [blankB, Bool.or_eq_true, beq_iff_eq] at h
  rcases h with h | h
  · have : c = 32 := UInt8.toNat_inj.1 (by simp; omega)
    subst this; decide
  · have : c = 10 := UInt8.toNat_inj.1 (by simp; omega)
    subst this; decide
theorem takeWhile_app (p : UInt8 → Bool) : ∀ (s t : Txt), (∀ c l, t = c :: l → p c = false) → (s ++ t).takeWhile p = s.takeWhile p
  | [], t, h => by
    cases t with
    | nil => rfl
    | cons c l => simp [List.takeWhile_cons, h c l rfl]
  | c :: r, t, h => by
    simp only [List.cons_append, List.takeWhile_cons]
    rw [takeWhile_app p r t h]
theorem wordD_app (s t : Txt) (h : Bt t) : wordD (s ++ t) = wordD s := by
  unfold wordD; rw [takeWhile_app _ _ _ fun c l e => (blank_wrd (h c l e)).1]
theorem numD_app (neg : Bool) (s t : Txt) (h : Bt t) : numD neg (s ++ t) = numD neg s := by
  unfold numD
  rw [takeWhile_app _ _ _ fun c l e => (blank_wrd (h c l e)).2.1]
  cases s with
  | nil => simp
  | cons c r => simp
theorem oddD_app {s : Txt} {b : UInt8} (t : Txt) (h : oddD s = some b) : oddD (s ++ t) = some b := by
  match s, h with
  | _ :: _ :: _ :: _, h => simpa [oddD] using h
theorem textF_app : ∀ (f : Nat) (r : Txt) (a : Nat) (out : Txt), (textF f r a out).2 ≠ 0 → ∀ (f' : Nat) (t : Txt), f ≤ f' → textF f' (r ++ t) a out = textF f r a out
  | 0, _, _, _, h => absurd rfl h
  | f + 1, [], a, out, h => absurd rfl h
  | f + 1, c :: r, a, out, h => fun f' t hf => by
    obtain ⟨g, rfl⟩ : ∃ g, f' = g + 1 := ⟨f' - 1, by omega⟩
    simp only [textF, List.cons_append] at h ⊢
    by_cases h34 : c = 34
    · simp only [h34, if_true]
    · simp only [h34, if_false] at h ⊢
      by_cases ho : oddB c = false
      · simp only [ho, if_true] at h ⊢
        exact textF_app f r _ _ h g t (by omega)
      · simp only [ho, if_false] at h ⊢
        cases hd : oddD (c :: r) with
        | none => rw [hd] at h; exact absurd rfl h
        | some b =>
          have h3 := oddD_len hd
          have hd' := oddD_app t hd
          rw [List.cons_append] at hd'
          rw [hd] at h
          simp only at h
          rw [hd']
          simp only
          have : (r ++ t).drop 2 = r.drop 2 ++ t := List.drop_append_of_le_length (by simp at h3; omega)
          rw [this]
          exact textF_app f (r.drop 2) _ _ h g t (by omega)
theorem begins_app (c : UInt8) (r t : Txt) (hb : Bt t) (h : (beginsD (c :: r)).2 ≠ 0) : beginsD (c :: r ++ t) = beginsD (c :: r) := by
  unfold beginsD at h ⊢
  simp only [List.cons_append, List.headD_cons, List.drop_succ_cons, List.drop_zero] at h ⊢
  have w0 := wordD_app (c :: r) t hb
  have w1 := wordD_app r t hb
  have n0 := numD_app false (c :: r) t hb
  have n1 := numD_app false r t hb
  have n2 := numD_app true r t hb
  rw [List.cons_append] at w0 n0
  rw [w0, w1, n0, n1, n2]
  by_cases e1 : ltr c = true
  · simp only [e1, if_true]
  simp only [e1, if_false, Bool.false_eq_true] at h ⊢
  by_cases e2 : dgt c = true
  · simp only [e2, if_true]
  simp only [e2, if_false, Bool.false_eq_true] at h ⊢
  by_cases e3 : c = 45
  · simp only [e3, if_true]
  simp only [e3, if_false] at h ⊢
  by_cases e4 : c = 64
  · simp only [e4, if_true]
  simp only [e4, if_false] at h ⊢
  by_cases e5 : c = 35
  · simp only [e5, if_true]
  simp only [e5, if_false] at h ⊢
  by_cases e6 : c = 34
  · simp only [e6, if_true] at h ⊢
    have : textD (34 :: (r ++ t)) = textD (34 :: r) := by
      unfold textD at h ⊢
      simp only [List.drop_succ_cons, List.drop_zero] at h ⊢
      exact textF_app _ r 1 [] h _ t (by simp)
    rw [this]
  · simp only [e6, if_false]
    rfl
theorem begins_kind (s : Txt) : (beginsD s).1.kind ≠ 7 := by
  unfold beginsD
  simp only
  repeat' split
  all_goals simp
theorem lexF_app : ∀ (f : Nat) (s : Txt) (a : Nat) (out l : List TokD), lexF f s a out = .ok l → ∃ pre, l = out ++ pre ++ [⟨7, (a + s.length : Nat), 0, []⟩] ∧ (∀ t ∈ pre, t.kind ≠ 7) ∧ ∀ (f' a' : Nat) (out' : List TokD) (t : Txt), Bt t → (s ++ t).length < f' →
    ∃ f'' pre', lexF f' (s ++ t) a' out' = lexF f'' t (a' + s.length) (out' ++ pre') ∧ t.length < f'' ∧ pre'.map er = pre.map er
  | 0, _, _, _, _, h => by simp [lexF] at h
  | f + 1, [], a, out, l, h => by
    simp only [lexF, Lexed.ok.injEq] at h
    exact ⟨[], by simp [← h], by simp, fun f' a' out' t _ hf => ⟨f', [], by simp, by simpa using hf, rfl⟩⟩
  | f + 1, c :: r, a, out, l, h => by
    simp only [lexF] at h
    split at h
    · rename_i hc
      obtain ⟨pre, e1, e2, e3⟩ := lexF_app f r (a + 1) out l h
      have ee : ((a + 1 + r.length : Nat) : Int) = ((a + (c :: r).length : Nat) : Int) := by simp only [List.length_cons]; omega
      refine ⟨pre, by rw [e1, ee], e2, fun f' a' out' t hb hf => ?_⟩
      obtain ⟨g, rfl⟩ : ∃ g, f' = g + 1 := ⟨f' - 1, by omega⟩
      obtain ⟨f'', pre', g1, g2, g3⟩ := e3 g (a' + 1) out' t hb (by simp at hf ⊢; omega)
      refine ⟨f'', pre', ?_, g2, g3⟩
      rw [List.cons_append]
      simp only [lexF, hc, if_true]
      rw [g1, List.length_cons, show a' + 1 + r.length = a' + (r.length + 1) by omega]
    · rename_i hc
      split at h
      · cases h
      · rename_i hn
        have hle := beginsD_le (c :: r) (by simp)
        obtain ⟨pre, e1, e2, e3⟩ := lexF_app f _ _ _ l h
        have ee : ((a + (beginsD (c :: r)).2 + ((c :: r).drop (beginsD (c :: r)).2).length : Nat) : Int) = ((a + (c :: r).length : Nat) : Int) := by rw [List.length_drop]; omega
        refine ⟨{ (beginsD (c :: r)).1 with pos := a } :: pre, by rw [e1, ee]; simp, fun t ht => ?_, fun f' a' out' t hb hf => ?_⟩
        · rcases List.mem_cons.1 ht with rfl | ht
          · exact begins_kind _
          · exact e2 t ht
        · obtain ⟨g, rfl⟩ : ∃ g, f' = g + 1 := ⟨f' - 1, by omega⟩
          have hba := begins_app c r t hb hn
          have hdr : (c :: r ++ t).drop (beginsD (c :: r)).2 = (c :: r).drop (beginsD (c :: r)).2 ++ t := List.drop_append_of_le_length hle
          obtain ⟨f'', pre', g1, g2, g3⟩ := e3 g (a' + (beginsD (c :: r)).2) (out' ++ [{ (beginsD (c :: r)).1 with pos := a' }]) t hb (by rw [List.length_append, List.length_drop]; simp only [List.length_append, List.length_cons] at hf hle ⊢; omega)
          refine ⟨f'', { (beginsD (c :: r)).1 with pos := a' } :: pre', ?_, g2, by simp only [List.map_cons, g3]; rfl⟩
          rw [List.cons_append] at hba hdr ⊢
          simp only [lexF, hc, if_false]
          have e5 : a' + (beginsD (c :: r)).2 + ((c :: r).drop (beginsD (c :: r)).2).length = a' + (c :: r).length := by rw [List.length_drop]; omega
          rw [hba, if_neg hn, hdr, g1, e5, List.append_assoc]
          rfl
theorem lexF_blanks : ∀ (g : Txt) (f : Nat) (s : Txt) (a : Nat) (out : List TokD), (∀ c ∈ g, blankB c = true) → (g ++ s).length < f → ∃ f', s.length < f' ∧ lexF f (g ++ s) a out = lexF f' s (a + g.length) out
  | [], f, s, a, out, _, hf => ⟨f, by simpa using hf, by simp⟩
  | c :: g, f, s, a, out, h, hf => by
    obtain ⟨f1, rfl⟩ : ∃ g, f = g + 1 := ⟨f - 1, by omega⟩
    obtain ⟨f', h1, h2⟩ := lexF_blanks g f1 s (a + 1) out (fun x hx => h x (by simp [hx])) (by simp at hf ⊢; omega)
    refine ⟨f', h1, ?_⟩
    rw [List.cons_append]
    simp only [lexF, h c (by simp), if_true]
    rw [h2, List.length_cons, show a + 1 + g.length = a + (g.length + 1) by omega]
theorem er_getD {l m : List TokD} (h : l.map er = m.map er) (i : Nat) : er (l.getD i ⟨7, 0, 0, []⟩) = er (m.getD i ⟨7, 0, 0, []⟩) := by
  have hl : l.length = m.length := by have := congrArg List.length h; simpa using this
  have : (l.map er)[i]? = (m.map er)[i]? := by rw [h]
  rw [List.getElem?_map, List.getElem?_map] at this
  rw [List.getD_eq_getElem?_getD, List.getD_eq_getElem?_getD]
  by_cases hi : i < l.length
  · rw [List.getElem?_eq_getElem hi, List.getElem?_eq_getElem (hl ▸ hi)] at this ⊢
    simpa using this
  · rw [List.getElem?_eq_none (by omega), List.getElem?_eq_none (by omega)]
theorem parse_same {s s' : Txt} {ts ts' : List TokD} (h : lexD s = .ok ts) (h' : lexD s' = .ok ts') (he : ts.map er = ts'.map er) (hok : (parseD s).2.1 = 0) : parseD s' = parseD s := by
  have hl : ts.length = ts'.length := by have := congrArg List.length he; simpa using this
  have w := wfP_start h 0 0 0
  have wa := ah_pol 4 _ w
  have hs : Sm ts.length ⟨ts, 0, 0, 0, 0⟩ ⟨ts', 0, 0, 0, 0⟩ := ⟨fun i _ => er_getD he i, rfl, rfl, rfl, Nat.le_refl _, by show ts.length ≤ ts'.length; omega⟩
  have hlt : (polF 4 ⟨ts, 0, 0, 0, 0⟩).2.pos < ts.length := by have := wa.1.1; rw [wa.2.1] at this; exact this
  obtain ⟨e, hm⟩ := (sv_pol 4 (.inr hs)).resolve_left (by omega)
  obtain ⟨k1, _, _⟩ := hm.here hlt
  have hend : (endP s (polF 4 ⟨ts, 0, 0, 0, 0⟩)).bad = 0 := by
    unfold parseD at hok
    rw [h] at hok
    simp only [parseT] at hok
    split at hok
    · assumption
    · exact hok
  have hend' : (endP s' (polF 4 ⟨ts', 0, 0, 0, 0⟩)).bad = 0 := by
    refine Eq.trans ?_ hend
    unfold endP
    rw [← e, ← k1]
    split
    · rw [← hm.bad]
      split
      · rename_i x _ hx
        unfold wrongD
        rw [← hm.bad, if_pos hx.1, if_pos hx.1]
      · exact hm.bad.symm
    · have hst := hm.stuck
      rw [← hst.bad]
      split
      · rename_i hx
        unfold wrongD
        rw [← hst.bad, if_pos hx.1, if_pos hx.1]
      · exact hst.bad.symm
  unfold parseD
  rw [h, h']
  simp only [parseT]
  rw [if_pos hend, if_pos hend', e]
theorem parse_blanks (s g t : Txt) (hg : ∀ c ∈ g, blankB c = true) (ht : ∀ c ∈ t, blankB c = true) (hl : (g ++ s ++ t).length ≤ 4096) (hok : (parseD s).2.1 = 0) : parseD (g ++ s ++ t) = parseD s := by
  cases hs : lexD s with
  | bad e p =>
    have := (lexD_bad hs).1
    unfold parseD at hok
    rw [hs] at hok
    simp only at hok
    omega
  | ok ts =>
    have hs' := hs
    unfold lexD at hs'
    split at hs'
    · cases hs'
    obtain ⟨pre, e1, e2, e3⟩ := lexF_app _ _ _ _ _ hs'
    obtain ⟨f1, g1, g2⟩ := lexF_blanks g ((g ++ s ++ t).length + 1) (s ++ t) 0 [] hg (by simp)
    obtain ⟨f2, pre', k1, k2, k3⟩ := e3 f1 (0 + g.length) [] t (fun c l e => ht c (by rw [e]; simp)) (by simpa using g1)
    obtain ⟨f3, m1, m2⟩ := lexF_blanks t f2 [] (0 + g.length + s.length) ([] ++ pre') ht (by simpa using k2)
    obtain ⟨f4, rfl⟩ : ∃ g, f3 = g + 1 := ⟨f3 - 1, by omega⟩
    rw [List.append_nil] at m2
    refine parse_same hs (ts' := pre' ++ [⟨7, ((0 + g.length + s.length + t.length : Nat) : Int), 0, []⟩]) ?_ ?_ hok
    · unfold lexD
      rw [if_neg (by omega), List.append_assoc, ← List.append_assoc g s t]
      rw [List.append_assoc] at g2
      rw [List.append_assoc, g2, k1, m2]
      simp [lexF]
    · rw [e1]
      simp [k3, er]
end Go.Bf

namespace Go.Proofs.YtdcchpbncckhlaaDoor
open Go Go.Ab
def tyRows : List TI := [
  ⟨.other, 0, 0, default, none⟩,
  ⟨.other, 1, 8, .v .nilFunc, none⟩,
  ⟨.int .i64, 1, 8, .v (.int .i64 0), some (0, [.int .i64])⟩,
  ⟨.int .i64, 1, 8, .v (.int .i64 0), some (0, [.int .i64])⟩,
  ⟨.bool, 1, 1, .v (.bool false), some (0, [.bool])⟩,
  ⟨.int .u8, 1, 1, .v (.int .u8 0), some (0, [.int .u8])⟩,
  ⟨.int .u8, 1, 1, .v (.int .u8 0), some (0, [.int .u8])⟩,
  ⟨.strct [(0, 2), (1, 3), (2, 4), (3, 6)], 4, 24, .agg [.v (.int .i64 0), .v (.int .i64 0), .v (.bool false), .v (.int .u8 0)], none⟩,
  ⟨.strct [(0, 2), (1, 3), (2, 4), (3, 6)], 4, 24, .agg [.v (.int .i64 0), .v (.int .i64 0), .v (.bool false), .v (.int .u8 0)], none⟩,
  ⟨.str, 1, 16, .s [], some (0, [.str])⟩,
  ⟨.str, 1, 16, .s [], some (0, [.str])⟩,
  ⟨.str, 1, 16, .s [], some (0, [.str])⟩,
  ⟨.int .u64, 1, 8, .v (.int .u64 0), some (0, [.int .u64])⟩,
  ⟨.strct [(0, 9), (1, 12)], 2, 24, .agg [.s [], .v (.int .u64 0)], none⟩,
  ⟨.strct [(0, 9), (1, 12)], 2, 24, .agg [.s [], .v (.int .u64 0)], none⟩,
  ⟨.ptr 208, 1, 8, .v (.pointer none), none⟩,
  ⟨.ptr 211, 1, 8, .v (.pointer none), none⟩,
  ⟨.ptr 219, 1, 8, .v (.pointer none), none⟩,
  ⟨.strct [(0, 17)], 1, 8, .agg [.v (.pointer none)], none⟩,
  ⟨.strct [(0, 17)], 1, 8, .agg [.v (.pointer none)], none⟩,
  ⟨.iface, 1, 16, .v .nilIface, none⟩,
  ⟨.int .i32, 1, 4, .v (.int .i32 0), some (0, [.int .i32])⟩,
  ⟨.strct [(0, 3), (1, 9), (2, 4)], 3, 32, .agg [.v (.int .i64 0), .s [], .v (.bool false)], some (1, [.int .i64, .str, .bool])⟩,
  ⟨.strct [(0, 3), (1, 9), (2, 4)], 3, 32, .agg [.v (.int .i64 0), .s [], .v (.bool false)], some (1, [.int .i64, .str, .bool])⟩,
  ⟨.strct [(0, 3), (1, 3), (2, 9)], 3, 32, .agg [.v (.int .i64 0), .v (.int .i64 0), .s []], some (1, [.int .i64, .int .i64, .str])⟩,
  ⟨.strct [(0, 3), (1, 3), (2, 9)], 3, 32, .agg [.v (.int .i64 0), .v (.int .i64 0), .s []], some (1, [.int .i64, .int .i64, .str])⟩,
  ⟨.strct [(0, 23), (3, 3), (4, 25)], 7, 72, .agg [.v (.int .i64 0), .s [], .v (.bool false), .v (.int .i64 0), .v (.int .i64 0), .v (.int .i64 0), .s []], some (2, [.int .i64, .str, .bool, .int .i64, .int .i64, .int .i64, .str])⟩,
  ⟨.strct [(0, 23), (3, 3), (4, 25)], 7, 72, .agg [.v (.int .i64 0), .s [], .v (.bool false), .v (.int .i64 0), .v (.int .i64 0), .v (.int .i64 0), .s []], some (2, [.int .i64, .str, .bool, .int .i64, .int .i64, .int .i64, .str])⟩,
  ⟨.slice 27, 1, 24, .sl [] .full, none⟩,
  ⟨.slice 28, 1, 24, .sl [] .full, none⟩,
  ⟨.slice 29, 1, 24, .sl [] .full, none⟩,
  ⟨.slice 29, 1, 24, .sl [] .full, none⟩,
  ⟨.strct [(0, 3), (1, 25), (4, 23)], 7, 72, .agg [.v (.int .i64 0), .v (.int .i64 0), .v (.int .i64 0), .s [], .v (.int .i64 0), .s [], .v (.bool false)], some (2, [.int .i64, .int .i64, .int .i64, .str, .int .i64, .str, .bool])⟩,
  ⟨.strct [(0, 3), (1, 25), (4, 23)], 7, 72, .agg [.v (.int .i64 0), .v (.int .i64 0), .v (.int .i64 0), .s [], .v (.int .i64 0), .s [], .v (.bool false)], some (2, [.int .i64, .int .i64, .int .i64, .str, .int .i64, .str, .bool])⟩,
  ⟨.slice 33, 1, 24, .sl [] .full, none⟩,
  ⟨.slice 40, 1, 24, .sl [] .full, none⟩,
  ⟨.strct [(0, 9), (1, 4), (2, 31), (3, 34), (4, 35)], 5, 96, .agg [.s [], .v (.bool false), .sl [] .full, .sl [] .full, .sl [] .full], none⟩,
  ⟨.strct [(0, 9), (1, 4), (2, 31), (3, 34), (4, 35)], 5, 96, .agg [.s [], .v (.bool false), .sl [] .full, .sl [] .full, .sl [] .full], none⟩,
  ⟨.slice 37, 1, 24, .sl [] .full, none⟩,
  ⟨.strct [(0, 3), (1, 3), (2, 9)], 3, 32, .agg [.v (.int .i64 0), .v (.int .i64 0), .s []], some (1, [.int .i64, .int .i64, .str])⟩,
  ⟨.strct [(0, 3), (1, 3), (2, 9)], 3, 32, .agg [.v (.int .i64 0), .v (.int .i64 0), .s []], some (1, [.int .i64, .int .i64, .str])⟩,
  ⟨.slice 43, 1, 24, .sl [] .full, none⟩,
  ⟨.strct [(0, 9), (1, 4), (2, 3), (3, 31), (4, 38), (5, 41), (6, 35)], 7, 128, .agg [.s [], .v (.bool false), .v (.int .i64 0), .sl [] .full, .sl [] .full, .sl [] .full, .sl [] .full], none⟩,
  ⟨.strct [(0, 9), (1, 4), (2, 3), (3, 31), (4, 38), (5, 41), (6, 35)], 7, 128, .agg [.s [], .v (.bool false), .v (.int .i64 0), .sl [] .full, .sl [] .full, .sl [] .full, .sl [] .full], none⟩,
  ⟨.other, 1, 8, .v .nilFunc, none⟩,
  ⟨.other, 1, 8, .v .nilFunc, none⟩,
  ⟨.other, 1, 8, .v .nilFunc, none⟩,
  ⟨.other, 1, 8, .v .nilFunc, none⟩,
  ⟨.other, 1, 8, .v .nilFunc, none⟩,
  ⟨.other, 1, 8, .v .nilFunc, none⟩,
  ⟨.other, 1, 8, .v .nilFunc, none⟩,
  ⟨.other, 1, 8, .v .nilFunc, none⟩,
  ⟨.other, 1, 8, .v .nilFunc, none⟩,
  ⟨.other, 1, 8, .v .nilFunc, none⟩,
  ⟨.int .i64, 1, 8, .v (.int .i64 0), some (0, [.int .i64])⟩,
  ⟨.other, 1, 8, .v .nilFunc, none⟩,
  ⟨.other, 1, 8, .v .nilFunc, none⟩,
  ⟨.other, 1, 8, .v .nilFunc, none⟩,
  ⟨.other, 0, 0, default, none⟩,
  ⟨.other, 1, 8, .v .nilFunc, none⟩,
  ⟨.other, 1, 8, .v .nilFunc, none⟩,
  ⟨.other, 1, 8, .v .nilFunc, none⟩,
  ⟨.slice 5, 1, 24, .sl [] .full, none⟩,
  ⟨.other, 1, 8, .v .nilFunc, none⟩,
  ⟨.slice 9, 1, 24, .sl [] .full, none⟩,
  ⟨.other, 1, 8, .v .nilFunc, none⟩,
  ⟨.other, 1, 8, .v .nilFunc, none⟩,
  ⟨.slice 4, 1, 24, .sl [] .full, none⟩,
  ⟨.other, 1, 8, .v .nilFunc, none⟩,
  ⟨.ptr 71, 1, 8, .v (.pointer none), none⟩,
  ⟨.strct [(0, 3)], 1, 8, .agg [.v (.int .i64 0)], some (1, [.int .i64])⟩,
  ⟨.strct [(0, 3)], 1, 8, .agg [.v (.int .i64 0)], some (1, [.int .i64])⟩,
  ⟨.other, 1, 8, .v .nilFunc, none⟩,
  ⟨.other, 1, 8, .v .nilFunc, none⟩,
  ⟨.other, 1, 8, .v .nilFunc, none⟩,
  ⟨.other, 1, 8, .v .nilFunc, none⟩,
  ⟨.other, 1, 8, .v .nilFunc, none⟩,
  ⟨.other, 0, 0, default, none⟩,
  ⟨.other, 1, 8, .v .nilFunc, none⟩,
  ⟨.other, 1, 8, .v .nilFunc, none⟩,
  ⟨.other, 1, 8, .v .nilFunc, none⟩,
  ⟨.other, 1, 8, .v .nilFunc, none⟩,
  ⟨.other, 1, 8, .v .nilFunc, none⟩,
  ⟨.other, 1, 8, .v .nilFunc, none⟩,
  ⟨.ptr 87, 1, 8, .v (.pointer none), none⟩,
  ⟨.map 9 158, 1, 8, .v (.map none), none⟩,
  ⟨.strct [(0, 85), (1, 3)], 2, 16, .agg [.v (.map none), .v (.int .i64 0)], none⟩,
  ⟨.strct [(0, 85), (1, 3)], 2, 16, .agg [.v (.map none), .v (.int .i64 0)], none⟩,
  ⟨.other, 1, 8, .v .nilFunc, none⟩,
  ⟨.slice 97, 1, 24, .sl [] .full, none⟩,
  ⟨.other, 0, 0, default, none⟩,
  ⟨.other, 1, 8, .v .nilFunc, none⟩,
  ⟨.ptr 94, 1, 8, .v (.pointer none), none⟩,
  ⟨.strct [(0, 89), (1, 3), (2, 3), (3, 54), (4, 3)], 5, 56, .agg [.sl [] .full, .v (.int .i64 0), .v (.int .i64 0), .v (.int .i64 0), .v (.int .i64 0)], none⟩,
  ⟨.strct [(0, 89), (1, 3), (2, 3), (3, 54), (4, 3)], 5, 56, .agg [.sl [] .full, .v (.int .i64 0), .v (.int .i64 0), .v (.int .i64 0), .v (.int .i64 0)], none⟩,
  ⟨.other, 1, 8, .v .nilFunc, none⟩,
  ⟨.strct [(0, 3), (1, 3), (2, 3), (3, 9)], 4, 40, .agg [.v (.int .i64 0), .v (.int .i64 0), .v (.int .i64 0), .s []], some (1, [.int .i64, .int .i64, .int .i64, .str])⟩,
  ⟨.strct [(0, 3), (1, 3), (2, 3), (3, 9)], 4, 40, .agg [.v (.int .i64 0), .v (.int .i64 0), .v (.int .i64 0), .s []], some (1, [.int .i64, .int .i64, .int .i64, .str])⟩,
  ⟨.other, 1, 8, .v .nilFunc, none⟩,
  ⟨.other, 1, 8, .v .nilFunc, none⟩,
  ⟨.other, 1, 8, .v .nilFunc, none⟩,
  ⟨.other, 1, 8, .v .nilFunc, none⟩,
  ⟨.other, 1, 8, .v .nilFunc, none⟩,
  ⟨.other, 1, 8, .v .nilFunc, none⟩,
  ⟨.other, 1, 8, .v .nilFunc, none⟩,
  ⟨.other, 1, 8, .v .nilFunc, none⟩,
  ⟨.other, 1, 8, .v .nilFunc, none⟩,
  ⟨.ptr 109, 1, 8, .v (.pointer none), none⟩,
  ⟨.strct [(0, 64), (1, 3)], 2, 32, .agg [.sl [] .full, .v (.int .i64 0)], none⟩,
  ⟨.strct [(0, 64), (1, 3)], 2, 32, .agg [.sl [] .full, .v (.int .i64 0)], none⟩,
  ⟨.other, 1, 8, .v .nilFunc, none⟩,
  ⟨.other, 0, 0, default, none⟩,
  ⟨.other, 1, 8, .v .nilFunc, none⟩,
  ⟨.other, 1, 8, .v .nilFunc, none⟩,
  ⟨.ptr 116, 1, 8, .v (.pointer none), none⟩,
  ⟨.strct [(0, 114), (1, 62)], 2, 32, .agg [.v (.pointer none), .sl [] .full], none⟩,
  ⟨.strct [(0, 114), (1, 62)], 2, 32, .agg [.v (.pointer none), .sl [] .full], none⟩,
  ⟨.other, 1, 8, .v .nilFunc, none⟩,
  ⟨.iface, 1, 16, .v .nilIface, none⟩,
  ⟨.iface, 1, 16, .v .nilIface, none⟩,
  ⟨.other, 0, 0, default, none⟩,
  ⟨.other, 1, 8, .v .nilFunc, none⟩,
  ⟨.other, 1, 8, .v .nilFunc, none⟩,
  ⟨.other, 1, 8, .v .nilFunc, none⟩,
  ⟨.other, 1, 8, .v .nilFunc, none⟩,
  ⟨.other, 0, 0, default, none⟩,
  ⟨.other, 1, 8, .v .nilFunc, none⟩,
  ⟨.other, 1, 8, .v .nilFunc, none⟩,
  ⟨.other, 1, 8, .v .nilFunc, none⟩,
  ⟨.other, 1, 8, .v .nilFunc, none⟩,
  ⟨.other, 1, 8, .v .nilFunc, none⟩,
  ⟨.other, 1, 8, .v .nilFunc, none⟩,
  ⟨.other, 1, 8, .v .nilFunc, none⟩,
  ⟨.other, 1, 8, .v .nilFunc, none⟩,
  ⟨.int .u64, 1, 8, .v (.int .u64 0), some (0, [.int .u64])⟩,
  ⟨.other, 1, 8, .v .nilFunc, none⟩,
  ⟨.int .u64, 1, 8, .v (.int .u64 0), some (0, [.int .u64])⟩,
  ⟨.other, 1, 8, .v .nilFunc, none⟩,
  ⟨.other, 1, 8, .v .nilFunc, none⟩,
  ⟨.other, 1, 8, .v .nilFunc, none⟩,
  ⟨.other, 1, 8, .v .nilFunc, none⟩,
  ⟨.other, 1, 8, .v .nilFunc, none⟩,
  ⟨.ptr 5, 1, 8, .v (.pointer none), none⟩,
  ⟨.other, 1, 8, .v .nilFunc, none⟩,
  ⟨.other, 1, 8, .v .nilFunc, none⟩,
  ⟨.other, 1, 8, .v .nilFunc, none⟩,
  ⟨.other, 0, 0, default, none⟩,
  ⟨.other, 1, 8, .v .nilFunc, none⟩,
  ⟨.other, 1, 8, .v .nilFunc, none⟩,
  ⟨.other, 1, 8, .v .nilFunc, none⟩,
  ⟨.other, 1, 8, .v .nilFunc, none⟩,
  ⟨.other, 1, 8, .v .nilFunc, none⟩,
  ⟨.other, 1, 8, .v .nilFunc, none⟩,
  ⟨.other, 1, 8, .v .nilFunc, none⟩,
  ⟨.other, 1, 8, .v .nilFunc, none⟩,
  ⟨.other, 1, 8, .v (.pointer none), none⟩,
  ⟨.other, 1, 8, .v .nilFunc, none⟩,
  ⟨.other, 1, 8, .v .nilFunc, none⟩,
  ⟨.strct [], 0, 0, default, none⟩,
  ⟨.other, 0, 0, default, none⟩,
  ⟨.other, 1, 8, .v .nilFunc, none⟩,
  ⟨.other, 1, 8, .v .nilFunc, none⟩,
  ⟨.other, 0, 0, default, none⟩,
  ⟨.other, 1, 8, .v .nilFunc, none⟩,
  ⟨.other, 1, 8, .v .nilFunc, none⟩,
  ⟨.other, 1, 8, .v .nilFunc, none⟩,
  ⟨.arr 24 5, 24, 24, .agg [.v (.int .u8 0), .v (.int .u8 0), .v (.int .u8 0), .v (.int .u8 0), .v (.int .u8 0), .v (.int .u8 0), .v (.int .u8 0), .v (.int .u8 0), .v (.int .u8 0), .v (.int .u8 0), .v (.int .u8 0), .v (.int .u8 0), .v (.int .u8 0), .v (.int .u8 0), .v (.int .u8 0), .v (.int .u8 0), .v (.int .u8 0), .v (.int .u8 0), .v (.int .u8 0), .v (.int .u8 0), .v (.int .u8 0), .v (.int .u8 0), .v (.int .u8 0), .v (.int .u8 0)], some (1, [.int .u8, .int .u8, .int .u8, .int .u8, .int .u8, .int .u8, .int .u8, .int .u8, .int .u8, .int .u8, .int .u8, .int .u8, .int .u8, .int .u8, .int .u8, .int .u8, .int .u8, .int .u8, .int .u8, .int .u8, .int .u8, .int .u8, .int .u8, .int .u8])⟩,
  ⟨.other, 1, 8, .v .nilFunc, none⟩,
  ⟨.other, 1, 8, .v .nilFunc, none⟩,
  ⟨.other, 0, 0, default, none⟩,
  ⟨.other, 1, 8, .v .nilFunc, none⟩,
  ⟨.other, 1, 8, .v .nilFunc, none⟩,
  ⟨.other, 1, 8, .v .nilFunc, none⟩,
  ⟨.other, 1, 8, .v .nilFunc, none⟩,
  ⟨.other, 1, 8, .v .nilFunc, none⟩,
  ⟨.other, 1, 8, .v .nilFunc, none⟩,
  ⟨.other, 0, 0, default, none⟩,
  ⟨.other, 1, 8, .v .nilFunc, none⟩,
  ⟨.other, 1, 8, .v .nilFunc, none⟩,
  ⟨.other, 1, 8, .v .nilFunc, none⟩,
  ⟨.arr 20 134, 20, 160, .agg [.v (.int .u64 0), .v (.int .u64 0), .v (.int .u64 0), .v (.int .u64 0), .v (.int .u64 0), .v (.int .u64 0), .v (.int .u64 0), .v (.int .u64 0), .v (.int .u64 0), .v (.int .u64 0), .v (.int .u64 0), .v (.int .u64 0), .v (.int .u64 0), .v (.int .u64 0), .v (.int .u64 0), .v (.int .u64 0), .v (.int .u64 0), .v (.int .u64 0), .v (.int .u64 0), .v (.int .u64 0)], some (1, [.int .u64, .int .u64, .int .u64, .int .u64, .int .u64, .int .u64, .int .u64, .int .u64, .int .u64, .int .u64, .int .u64, .int .u64, .int .u64, .int .u64, .int .u64, .int .u64, .int .u64, .int .u64, .int .u64, .int .u64])⟩,
  ⟨.int .u32, 1, 4, .v (.int .u32 0), some (0, [.int .u32])⟩,
  ⟨.arr 65 5, 65, 65, .agg [.v (.int .u8 0), .v (.int .u8 0), .v (.int .u8 0), .v (.int .u8 0), .v (.int .u8 0), .v (.int .u8 0), .v (.int .u8 0), .v (.int .u8 0), .v (.int .u8 0), .v (.int .u8 0), .v (.int .u8 0), .v (.int .u8 0), .v (.int .u8 0), .v (.int .u8 0), .v (.int .u8 0), .v (.int .u8 0), .v (.int .u8 0), .v (.int .u8 0), .v (.int .u8 0), .v (.int .u8 0), .v (.int .u8 0), .v (.int .u8 0), .v (.int .u8 0), .v (.int .u8 0), .v (.int .u8 0), .v (.int .u8 0), .v (.int .u8 0), .v (.int .u8 0), .v (.int .u8 0), .v (.int .u8 0), .v (.int .u8 0), .v (.int .u8 0), .v (.int .u8 0), .v (.int .u8 0), .v (.int .u8 0), .v (.int .u8 0), .v (.int .u8 0), .v (.int .u8 0), .v (.int .u8 0), .v (.int .u8 0), .v (.int .u8 0), .v (.int .u8 0), .v (.int .u8 0), .v (.int .u8 0), .v (.int .u8 0), .v (.int .u8 0), .v (.int .u8 0), .v (.int .u8 0), .v (.int .u8 0), .v (.int .u8 0), .v (.int .u8 0), .v (.int .u8 0), .v (.int .u8 0), .v (.int .u8 0), .v (.int .u8 0), .v (.int .u8 0), .v (.int .u8 0), .v (.int .u8 0), .v (.int .u8 0), .v (.int .u8 0), .v (.int .u8 0), .v (.int .u8 0), .v (.int .u8 0), .v (.int .u8 0), .v (.int .u8 0)], none⟩,
  ⟨.other, 1, 8, .v .nilFunc, none⟩,
  ⟨.other, 1, 8, .v .nilFunc, none⟩,
  ⟨.int .i64, 1, 8, .v (.int .i64 0), some (0, [.int .i64])⟩,
  ⟨.other, 0, 0, default, none⟩,
  ⟨.other, 1, 8, .v .nilFunc, none⟩,
  ⟨.ptr 199, 1, 8, .v (.pointer none), none⟩,
  ⟨.other, 1, 8, .v .nilFunc, none⟩,
  ⟨.other, 1, 8, .v .nilFunc, none⟩,
  ⟨.other, 1, 8, .v .nilFunc, none⟩,
  ⟨.other, 1, 8, .v .nilFunc, none⟩,
  ⟨.other, 0, 0, default, none⟩,
  ⟨.other, 1, 8, .v .nilFunc, none⟩,
  ⟨.other, 1, 8, .v .nilFunc, none⟩,
  ⟨.other, 0, 0, default, none⟩,
  ⟨.other, 1, 8, .v .nilFunc, none⟩,
  ⟨.strct [(0, 9), (1, 9), (2, 119)], 3, 48, .agg [.s [], .s [], .v .nilIface], none⟩,
  ⟨.strct [(0, 9), (1, 9), (2, 119)], 3, 48, .agg [.s [], .s [], .v .nilIface], none⟩,
  ⟨.other, 1, 8, .v .nilFunc, none⟩,
  ⟨.other, 1, 8, .v .nilFunc, none⟩,
  ⟨.arr 32 5, 32, 32, .agg [.v (.int .u8 0), .v (.int .u8 0), .v (.int .u8 0), .v (.int .u8 0), .v (.int .u8 0), .v (.int .u8 0), .v (.int .u8 0), .v (.int .u8 0), .v (.int .u8 0), .v (.int .u8 0), .v (.int .u8 0), .v (.int .u8 0), .v (.int .u8 0), .v (.int .u8 0), .v (.int .u8 0), .v (.int .u8 0), .v (.int .u8 0), .v (.int .u8 0), .v (.int .u8 0), .v (.int .u8 0), .v (.int .u8 0), .v (.int .u8 0), .v (.int .u8 0), .v (.int .u8 0), .v (.int .u8 0), .v (.int .u8 0), .v (.int .u8 0), .v (.int .u8 0), .v (.int .u8 0), .v (.int .u8 0), .v (.int .u8 0), .v (.int .u8 0)], some (1, [.int .u8, .int .u8, .int .u8, .int .u8, .int .u8, .int .u8, .int .u8, .int .u8, .int .u8, .int .u8, .int .u8, .int .u8, .int .u8, .int .u8, .int .u8, .int .u8, .int .u8, .int .u8, .int .u8, .int .u8, .int .u8, .int .u8, .int .u8, .int .u8, .int .u8, .int .u8, .int .u8, .int .u8, .int .u8, .int .u8, .int .u8, .int .u8])⟩,
  ⟨.arr 64 5, 64, 64, .agg [.v (.int .u8 0), .v (.int .u8 0), .v (.int .u8 0), .v (.int .u8 0), .v (.int .u8 0), .v (.int .u8 0), .v (.int .u8 0), .v (.int .u8 0), .v (.int .u8 0), .v (.int .u8 0), .v (.int .u8 0), .v (.int .u8 0), .v (.int .u8 0), .v (.int .u8 0), .v (.int .u8 0), .v (.int .u8 0), .v (.int .u8 0), .v (.int .u8 0), .v (.int .u8 0), .v (.int .u8 0), .v (.int .u8 0), .v (.int .u8 0), .v (.int .u8 0), .v (.int .u8 0), .v (.int .u8 0), .v (.int .u8 0), .v (.int .u8 0), .v (.int .u8 0), .v (.int .u8 0), .v (.int .u8 0), .v (.int .u8 0), .v (.int .u8 0), .v (.int .u8 0), .v (.int .u8 0), .v (.int .u8 0), .v (.int .u8 0), .v (.int .u8 0), .v (.int .u8 0), .v (.int .u8 0), .v (.int .u8 0), .v (.int .u8 0), .v (.int .u8 0), .v (.int .u8 0), .v (.int .u8 0), .v (.int .u8 0), .v (.int .u8 0), .v (.int .u8 0), .v (.int .u8 0), .v (.int .u8 0), .v (.int .u8 0), .v (.int .u8 0), .v (.int .u8 0), .v (.int .u8 0), .v (.int .u8 0), .v (.int .u8 0), .v (.int .u8 0), .v (.int .u8 0), .v (.int .u8 0), .v (.int .u8 0), .v (.int .u8 0), .v (.int .u8 0), .v (.int .u8 0), .v (.int .u8 0), .v (.int .u8 0)], none⟩,
  ⟨.ptr 206, 1, 8, .v (.pointer none), none⟩,
  ⟨.strct [(0, 9)], 1, 16, .agg [.s []], some (1, [.str])⟩,
  ⟨.strct [(0, 9)], 1, 16, .agg [.s []], some (1, [.str])⟩,
  ⟨.strct [(0, 17), (1, 17), (2, 17), (3, 9)], 4, 40, .agg [.v (.pointer none), .v (.pointer none), .v (.pointer none), .s []], none⟩,
  ⟨.strct [(0, 17), (1, 17), (2, 17), (3, 9)], 4, 40, .agg [.v (.pointer none), .v (.pointer none), .v (.pointer none), .s []], none⟩,
  ⟨.arr 0 16, 0, 0, default, none⟩,
  ⟨.other, 0, 0, default, none⟩,
  ⟨.other, 0, 0, default, none⟩,
  ⟨.other, 1, 8, .v .nilFunc, none⟩,
  ⟨.int .u8, 1, 1, .v (.int .u8 0), some (0, [.int .u8])⟩,
  ⟨.int .u8, 1, 1, .v (.int .u8 0), some (0, [.int .u8])⟩,
  ⟨.other, 1, 8, .v .nilFunc, none⟩,
  ⟨.int .i32, 1, 4, .v (.int .i32 0), some (0, [.int .i32])⟩,
  ⟨.int .i32, 1, 4, .v (.int .i32 0), some (0, [.int .i32])⟩,
  ⟨.strct [(0, 12), (1, 12), (2, 181), (3, 213), (4, 5), (5, 5), (6, 214), (7, 215), (8, 142), (9, 216), (10, 217)], 11, 48, .agg [.v (.int .u64 0), .v (.int .u64 0), .v (.int .u32 0), .v (.int .u8 0), .v (.int .u8 0), .v (.int .u8 0), .v (.int .u8 0), .v .nilFunc, .v (.pointer none), .v (.int .i32 0), .v (.int .i32 0)], none⟩,
  ⟨.strct [(0, 12), (1, 12), (2, 181), (3, 213), (4, 5), (5, 5), (6, 214), (7, 215), (8, 142), (9, 216), (10, 217)], 11, 48, .agg [.v (.int .u64 0), .v (.int .u64 0), .v (.int .u32 0), .v (.int .u8 0), .v (.int .u8 0), .v (.int .u8 0), .v (.int .u8 0), .v .nilFunc, .v (.pointer none), .v (.int .i32 0), .v (.int .i32 0)], none⟩]
def U (t : TypeId) : TI := tyRows.getD t ⟨.other, 0, 0, default, none⟩
@[go_sem] theorem U1k : (U 1).k = .other := rfl
@[go_sem] theorem U1s : (U 1).sz = 1 := rfl
@[go_sem] theorem U1b : (U 1).bytes = 8 := rfl
@[go_sem] theorem U1z : (U 1).zero = .v .nilFunc := rfl
@[go_sem] theorem U2k : (U 2).k = .int .i64 := rfl
@[go_sem] theorem U2s : (U 2).sz = 1 := rfl
@[go_sem] theorem U2b : (U 2).bytes = 8 := rfl
@[go_sem] theorem U2z : (U 2).zero = .v (.int .i64 0) := rfl
@[go_sem] theorem U3k : (U 3).k = .int .i64 := rfl
@[go_sem] theorem U3s : (U 3).sz = 1 := rfl
@[go_sem] theorem U3b : (U 3).bytes = 8 := rfl
@[go_sem] theorem U3z : (U 3).zero = .v (.int .i64 0) := rfl
@[go_sem] theorem U4k : (U 4).k = .bool := rfl
@[go_sem] theorem U4s : (U 4).sz = 1 := rfl
@[go_sem] theorem U4b : (U 4).bytes = 1 := rfl
@[go_sem] theorem U4z : (U 4).zero = .v (.bool false) := rfl
@[go_sem] theorem U5k : (U 5).k = .int .u8 := rfl
@[go_sem] theorem U5s : (U 5).sz = 1 := rfl
@[go_sem] theorem U5b : (U 5).bytes = 1 := rfl
@[go_sem] theorem U5z : (U 5).zero = .v (.int .u8 0) := rfl
@[go_sem] theorem U6k : (U 6).k = .int .u8 := rfl
@[go_sem] theorem U6s : (U 6).sz = 1 := rfl
@[go_sem] theorem U6b : (U 6).bytes = 1 := rfl
@[go_sem] theorem U6z : (U 6).zero = .v (.int .u8 0) := rfl
@[go_sem] theorem U7k : (U 7).k = .strct [(0, 2), (1, 3), (2, 4), (3, 6)] := rfl
@[go_sem] theorem U7s : (U 7).sz = 4 := rfl
@[go_sem] theorem U7b : (U 7).bytes = 24 := rfl
@[go_sem] theorem U7z : (U 7).zero = .agg [.v (.int .i64 0), .v (.int .i64 0), .v (.bool false), .v (.int .u8 0)] := rfl
@[go_sem] theorem U8k : (U 8).k = .strct [(0, 2), (1, 3), (2, 4), (3, 6)] := rfl
@[go_sem] theorem U8s : (U 8).sz = 4 := rfl
@[go_sem] theorem U8b : (U 8).bytes = 24 := rfl
@[go_sem] theorem U8z : (U 8).zero = .agg [.v (.int .i64 0), .v (.int .i64 0), .v (.bool false), .v (.int .u8 0)] := rfl
@[go_sem] theorem U9k : (U 9).k = .str := rfl
@[go_sem] theorem U9s : (U 9).sz = 1 := rfl
@[go_sem] theorem U9b : (U 9).bytes = 16 := rfl
@[go_sem] theorem U9z : (U 9).zero = .s [] := rfl
@[go_sem] theorem U10k : (U 10).k = .str := rfl
@[go_sem] theorem U10s : (U 10).sz = 1 := rfl
@[go_sem] theorem U10b : (U 10).bytes = 16 := rfl
@[go_sem] theorem U10z : (U 10).zero = .s [] := rfl
@[go_sem] theorem U11k : (U 11).k = .str := rfl
@[go_sem] theorem U11s : (U 11).sz = 1 := rfl
@[go_sem] theorem U11b : (U 11).bytes = 16 := rfl
@[go_sem] theorem U11z : (U 11).zero = .s [] := rfl
@[go_sem] theorem U12k : (U 12).k = .int .u64 := rfl
@[go_sem] theorem U12s : (U 12).sz = 1 := rfl
@[go_sem] theorem U12b : (U 12).bytes = 8 := rfl
@[go_sem] theorem U12z : (U 12).zero = .v (.int .u64 0) := rfl
@[go_sem] theorem U13k : (U 13).k = .strct [(0, 9), (1, 12)] := rfl
@[go_sem] theorem U13s : (U 13).sz = 2 := rfl
@[go_sem] theorem U13b : (U 13).bytes = 24 := rfl
@[go_sem] theorem U13z : (U 13).zero = .agg [.s [], .v (.int .u64 0)] := rfl
@[go_sem] theorem U14k : (U 14).k = .strct [(0, 9), (1, 12)] := rfl
@[go_sem] theorem U14s : (U 14).sz = 2 := rfl
@[go_sem] theorem U14b : (U 14).bytes = 24 := rfl
@[go_sem] theorem U14z : (U 14).zero = .agg [.s [], .v (.int .u64 0)] := rfl
@[go_sem] theorem U15k : (U 15).k = .ptr 208 := rfl
@[go_sem] theorem U15s : (U 15).sz = 1 := rfl
@[go_sem] theorem U15b : (U 15).bytes = 8 := rfl
@[go_sem] theorem U15z : (U 15).zero = .v (.pointer none) := rfl
@[go_sem] theorem U16k : (U 16).k = .ptr 211 := rfl
@[go_sem] theorem U16s : (U 16).sz = 1 := rfl
@[go_sem] theorem U16b : (U 16).bytes = 8 := rfl
@[go_sem] theorem U16z : (U 16).zero = .v (.pointer none) := rfl
@[go_sem] theorem U17k : (U 17).k = .ptr 219 := rfl
@[go_sem] theorem U17s : (U 17).sz = 1 := rfl
@[go_sem] theorem U17b : (U 17).bytes = 8 := rfl
@[go_sem] theorem U17z : (U 17).zero = .v (.pointer none) := rfl
@[go_sem] theorem U18k : (U 18).k = .strct [(0, 17)] := rfl
@[go_sem] theorem U18s : (U 18).sz = 1 := rfl
@[go_sem] theorem U18b : (U 18).bytes = 8 := rfl
@[go_sem] theorem U18z : (U 18).zero = .agg [.v (.pointer none)] := rfl
@[go_sem] theorem U19k : (U 19).k = .strct [(0, 17)] := rfl
@[go_sem] theorem U19s : (U 19).sz = 1 := rfl
@[go_sem] theorem U19b : (U 19).bytes = 8 := rfl
@[go_sem] theorem U19z : (U 19).zero = .agg [.v (.pointer none)] := rfl
@[go_sem] theorem U20k : (U 20).k = .iface := rfl
@[go_sem] theorem U20s : (U 20).sz = 1 := rfl
@[go_sem] theorem U20b : (U 20).bytes = 16 := rfl
@[go_sem] theorem U20z : (U 20).zero = .v .nilIface := rfl
@[go_sem] theorem U21k : (U 21).k = .int .i32 := rfl
@[go_sem] theorem U21s : (U 21).sz = 1 := rfl
@[go_sem] theorem U21b : (U 21).bytes = 4 := rfl
@[go_sem] theorem U21z : (U 21).zero = .v (.int .i32 0) := rfl
@[go_sem] theorem U22k : (U 22).k = .strct [(0, 3), (1, 9), (2, 4)] := rfl
@[go_sem] theorem U22s : (U 22).sz = 3 := rfl
@[go_sem] theorem U22b : (U 22).bytes = 32 := rfl
@[go_sem] theorem U22z : (U 22).zero = .agg [.v (.int .i64 0), .s [], .v (.bool false)] := rfl
@[go_sem] theorem U22e : (U 22).eq = some (1, [.int .i64, .str, .bool]) := rfl
@[go_sem] theorem U23k : (U 23).k = .strct [(0, 3), (1, 9), (2, 4)] := rfl
@[go_sem] theorem U23s : (U 23).sz = 3 := rfl
@[go_sem] theorem U23b : (U 23).bytes = 32 := rfl
@[go_sem] theorem U23z : (U 23).zero = .agg [.v (.int .i64 0), .s [], .v (.bool false)] := rfl
@[go_sem] theorem U23e : (U 23).eq = some (1, [.int .i64, .str, .bool]) := rfl
@[go_sem] theorem U24k : (U 24).k = .strct [(0, 3), (1, 3), (2, 9)] := rfl
@[go_sem] theorem U24s : (U 24).sz = 3 := rfl
@[go_sem] theorem U24b : (U 24).bytes = 32 := rfl
@[go_sem] theorem U24z : (U 24).zero = .agg [.v (.int .i64 0), .v (.int .i64 0), .s []] := rfl
@[go_sem] theorem U24e : (U 24).eq = some (1, [.int .i64, .int .i64, .str]) := rfl
@[go_sem] theorem U25k : (U 25).k = .strct [(0, 3), (1, 3), (2, 9)] := rfl
@[go_sem] theorem U25s : (U 25).sz = 3 := rfl
@[go_sem] theorem U25b : (U 25).bytes = 32 := rfl
@[go_sem] theorem U25z : (U 25).zero = .agg [.v (.int .i64 0), .v (.int .i64 0), .s []] := rfl
@[go_sem] theorem U25e : (U 25).eq = some (1, [.int .i64, .int .i64, .str]) := rfl
@[go_sem] theorem U26k : (U 26).k = .strct [(0, 23), (3, 3), (4, 25)] := rfl
@[go_sem] theorem U26s : (U 26).sz = 7 := rfl
@[go_sem] theorem U26b : (U 26).bytes = 72 := rfl
@[go_sem] theorem U26z : (U 26).zero = .agg [.v (.int .i64 0), .s [], .v (.bool false), .v (.int .i64 0), .v (.int .i64 0), .v (.int .i64 0), .s []] := rfl
@[go_sem] theorem U26e : (U 26).eq = some (2, [.int .i64, .str, .bool, .int .i64, .int .i64, .int .i64, .str]) := rfl
@[go_sem] theorem U27k : (U 27).k = .strct [(0, 23), (3, 3), (4, 25)] := rfl
@[go_sem] theorem U27s : (U 27).sz = 7 := rfl
@[go_sem] theorem U27b : (U 27).bytes = 72 := rfl
@[go_sem] theorem U27z : (U 27).zero = .agg [.v (.int .i64 0), .s [], .v (.bool false), .v (.int .i64 0), .v (.int .i64 0), .v (.int .i64 0), .s []] := rfl
@[go_sem] theorem U27e : (U 27).eq = some (2, [.int .i64, .str, .bool, .int .i64, .int .i64, .int .i64, .str]) := rfl
@[go_sem] theorem U28k : (U 28).k = .slice 27 := rfl
@[go_sem] theorem U28s : (U 28).sz = 1 := rfl
@[go_sem] theorem U28b : (U 28).bytes = 24 := rfl
@[go_sem] theorem U28z : (U 28).zero = .sl [] .full := rfl
@[go_sem] theorem U29k : (U 29).k = .slice 28 := rfl
@[go_sem] theorem U29s : (U 29).sz = 1 := rfl
@[go_sem] theorem U29b : (U 29).bytes = 24 := rfl
@[go_sem] theorem U29z : (U 29).zero = .sl [] .full := rfl
@[go_sem] theorem U30k : (U 30).k = .slice 29 := rfl
@[go_sem] theorem U30s : (U 30).sz = 1 := rfl
@[go_sem] theorem U30b : (U 30).bytes = 24 := rfl
@[go_sem] theorem U30z : (U 30).zero = .sl [] .full := rfl
@[go_sem] theorem U31k : (U 31).k = .slice 29 := rfl
@[go_sem] theorem U31s : (U 31).sz = 1 := rfl
@[go_sem] theorem U31b : (U 31).bytes = 24 := rfl
@[go_sem] theorem U31z : (U 31).zero = .sl [] .full := rfl
@[go_sem] theorem U32k : (U 32).k = .strct [(0, 3), (1, 25), (4, 23)] := rfl
@[go_sem] theorem U32s : (U 32).sz = 7 := rfl
@[go_sem] theorem U32b : (U 32).bytes = 72 := rfl
@[go_sem] theorem U32z : (U 32).zero = .agg [.v (.int .i64 0), .v (.int .i64 0), .v (.int .i64 0), .s [], .v (.int .i64 0), .s [], .v (.bool false)] := rfl
@[go_sem] theorem U32e : (U 32).eq = some (2, [.int .i64, .int .i64, .int .i64, .str, .int .i64, .str, .bool]) := rfl
@[go_sem] theorem U33k : (U 33).k = .strct [(0, 3), (1, 25), (4, 23)] := rfl
@[go_sem] theorem U33s : (U 33).sz = 7 := rfl
@[go_sem] theorem U33b : (U 33).bytes = 72 := rfl
@[go_sem] theorem U33z : (U 33).zero = .agg [.v (.int .i64 0), .v (.int .i64 0), .v (.int .i64 0), .s [], .v (.int .i64 0), .s [], .v (.bool false)] := rfl
@[go_sem] theorem U33e : (U 33).eq = some (2, [.int .i64, .int .i64, .int .i64, .str, .int .i64, .str, .bool]) := rfl
@[go_sem] theorem U34k : (U 34).k = .slice 33 := rfl
@[go_sem] theorem U34s : (U 34).sz = 1 := rfl
@[go_sem] theorem U34b : (U 34).bytes = 24 := rfl
@[go_sem] theorem U34z : (U 34).zero = .sl [] .full := rfl
@[go_sem] theorem U35k : (U 35).k = .slice 40 := rfl
@[go_sem] theorem U35s : (U 35).sz = 1 := rfl
@[go_sem] theorem U35b : (U 35).bytes = 24 := rfl
@[go_sem] theorem U35z : (U 35).zero = .sl [] .full := rfl
@[go_sem] theorem U36k : (U 36).k = .strct [(0, 9), (1, 4), (2, 31), (3, 34), (4, 35)] := rfl
@[go_sem] theorem U36s : (U 36).sz = 5 := rfl
@[go_sem] theorem U36b : (U 36).bytes = 96 := rfl
@[go_sem] theorem U36z : (U 36).zero = .agg [.s [], .v (.bool false), .sl [] .full, .sl [] .full, .sl [] .full] := rfl
@[go_sem] theorem U37k : (U 37).k = .strct [(0, 9), (1, 4), (2, 31), (3, 34), (4, 35)] := rfl
@[go_sem] theorem U37s : (U 37).sz = 5 := rfl
@[go_sem] theorem U37b : (U 37).bytes = 96 := rfl
@[go_sem] theorem U37z : (U 37).zero = .agg [.s [], .v (.bool false), .sl [] .full, .sl [] .full, .sl [] .full] := rfl
@[go_sem] theorem U38k : (U 38).k = .slice 37 := rfl
@[go_sem] theorem U38s : (U 38).sz = 1 := rfl
@[go_sem] theorem U38b : (U 38).bytes = 24 := rfl
@[go_sem] theorem U38z : (U 38).zero = .sl [] .full := rfl
@[go_sem] theorem U39k : (U 39).k = .strct [(0, 3), (1, 3), (2, 9)] := rfl
@[go_sem] theorem U39s : (U 39).sz = 3 := rfl
@[go_sem] theorem U39b : (U 39).bytes = 32 := rfl
@[go_sem] theorem U39z : (U 39).zero = .agg [.v (.int .i64 0), .v (.int .i64 0), .s []] := rfl
@[go_sem] theorem U39e : (U 39).eq = some (1, [.int .i64, .int .i64, .str]) := rfl
@[go_sem] theorem U40k : (U 40).k = .strct [(0, 3), (1, 3), (2, 9)] := rfl
@[go_sem] theorem U40s : (U 40).sz = 3 := rfl
@[go_sem] theorem U40b : (U 40).bytes = 32 := rfl
@[go_sem] theorem U40z : (U 40).zero = .agg [.v (.int .i64 0), .v (.int .i64 0), .s []] := rfl
@[go_sem] theorem U40e : (U 40).eq = some (1, [.int .i64, .int .i64, .str]) := rfl
@[go_sem] theorem U41k : (U 41).k = .slice 43 := rfl
@[go_sem] theorem U41s : (U 41).sz = 1 := rfl
@[go_sem] theorem U41b : (U 41).bytes = 24 := rfl
@[go_sem] theorem U41z : (U 41).zero = .sl [] .full := rfl
@[go_sem] theorem U42k : (U 42).k = .strct [(0, 9), (1, 4), (2, 3), (3, 31), (4, 38), (5, 41), (6, 35)] := rfl
@[go_sem] theorem U42s : (U 42).sz = 7 := rfl
@[go_sem] theorem U42b : (U 42).bytes = 128 := rfl
@[go_sem] theorem U42z : (U 42).zero = .agg [.s [], .v (.bool false), .v (.int .i64 0), .sl [] .full, .sl [] .full, .sl [] .full, .sl [] .full] := rfl
@[go_sem] theorem U43k : (U 43).k = .strct [(0, 9), (1, 4), (2, 3), (3, 31), (4, 38), (5, 41), (6, 35)] := rfl
@[go_sem] theorem U43s : (U 43).sz = 7 := rfl
@[go_sem] theorem U43b : (U 43).bytes = 128 := rfl
@[go_sem] theorem U43z : (U 43).zero = .agg [.s [], .v (.bool false), .v (.int .i64 0), .sl [] .full, .sl [] .full, .sl [] .full, .sl [] .full] := rfl
@[go_sem] theorem U44k : (U 44).k = .other := rfl
@[go_sem] theorem U44s : (U 44).sz = 1 := rfl
@[go_sem] theorem U44b : (U 44).bytes = 8 := rfl
@[go_sem] theorem U44z : (U 44).zero = .v .nilFunc := rfl
@[go_sem] theorem U45k : (U 45).k = .other := rfl
@[go_sem] theorem U45s : (U 45).sz = 1 := rfl
@[go_sem] theorem U45b : (U 45).bytes = 8 := rfl
@[go_sem] theorem U45z : (U 45).zero = .v .nilFunc := rfl
@[go_sem] theorem U46k : (U 46).k = .other := rfl
@[go_sem] theorem U46s : (U 46).sz = 1 := rfl
@[go_sem] theorem U46b : (U 46).bytes = 8 := rfl
@[go_sem] theorem U46z : (U 46).zero = .v .nilFunc := rfl
@[go_sem] theorem U47k : (U 47).k = .other := rfl
@[go_sem] theorem U47s : (U 47).sz = 1 := rfl
@[go_sem] theorem U47b : (U 47).bytes = 8 := rfl
@[go_sem] theorem U47z : (U 47).zero = .v .nilFunc := rfl
@[go_sem] theorem U48k : (U 48).k = .other := rfl
@[go_sem] theorem U48s : (U 48).sz = 1 := rfl
@[go_sem] theorem U48b : (U 48).bytes = 8 := rfl
@[go_sem] theorem U48z : (U 48).zero = .v .nilFunc := rfl
@[go_sem] theorem U49k : (U 49).k = .other := rfl
@[go_sem] theorem U49s : (U 49).sz = 1 := rfl
@[go_sem] theorem U49b : (U 49).bytes = 8 := rfl
@[go_sem] theorem U49z : (U 49).zero = .v .nilFunc := rfl
@[go_sem] theorem U50k : (U 50).k = .other := rfl
@[go_sem] theorem U50s : (U 50).sz = 1 := rfl
@[go_sem] theorem U50b : (U 50).bytes = 8 := rfl
@[go_sem] theorem U50z : (U 50).zero = .v .nilFunc := rfl
@[go_sem] theorem U51k : (U 51).k = .other := rfl
@[go_sem] theorem U51s : (U 51).sz = 1 := rfl
@[go_sem] theorem U51b : (U 51).bytes = 8 := rfl
@[go_sem] theorem U51z : (U 51).zero = .v .nilFunc := rfl
@[go_sem] theorem U52k : (U 52).k = .other := rfl
@[go_sem] theorem U52s : (U 52).sz = 1 := rfl
@[go_sem] theorem U52b : (U 52).bytes = 8 := rfl
@[go_sem] theorem U52z : (U 52).zero = .v .nilFunc := rfl
@[go_sem] theorem U53k : (U 53).k = .other := rfl
@[go_sem] theorem U53s : (U 53).sz = 1 := rfl
@[go_sem] theorem U53b : (U 53).bytes = 8 := rfl
@[go_sem] theorem U53z : (U 53).zero = .v .nilFunc := rfl
@[go_sem] theorem U54k : (U 54).k = .int .i64 := rfl
@[go_sem] theorem U54s : (U 54).sz = 1 := rfl
@[go_sem] theorem U54b : (U 54).bytes = 8 := rfl
@[go_sem] theorem U54z : (U 54).zero = .v (.int .i64 0) := rfl
@[go_sem] theorem U55k : (U 55).k = .other := rfl
@[go_sem] theorem U55s : (U 55).sz = 1 := rfl
@[go_sem] theorem U55b : (U 55).bytes = 8 := rfl
@[go_sem] theorem U55z : (U 55).zero = .v .nilFunc := rfl
@[go_sem] theorem U56k : (U 56).k = .other := rfl
@[go_sem] theorem U56s : (U 56).sz = 1 := rfl
@[go_sem] theorem U56b : (U 56).bytes = 8 := rfl
@[go_sem] theorem U56z : (U 56).zero = .v .nilFunc := rfl
@[go_sem] theorem U57k : (U 57).k = .other := rfl
@[go_sem] theorem U57s : (U 57).sz = 1 := rfl
@[go_sem] theorem U57b : (U 57).bytes = 8 := rfl
@[go_sem] theorem U57z : (U 57).zero = .v .nilFunc := rfl
@[go_sem] theorem U59k : (U 59).k = .other := rfl
@[go_sem] theorem U59s : (U 59).sz = 1 := rfl
@[go_sem] theorem U59b : (U 59).bytes = 8 := rfl
@[go_sem] theorem U59z : (U 59).zero = .v .nilFunc := rfl
@[go_sem] theorem U60k : (U 60).k = .other := rfl
@[go_sem] theorem U60s : (U 60).sz = 1 := rfl
@[go_sem] theorem U60b : (U 60).bytes = 8 := rfl
@[go_sem] theorem U60z : (U 60).zero = .v .nilFunc := rfl
@[go_sem] theorem U61k : (U 61).k = .other := rfl
@[go_sem] theorem U61s : (U 61).sz = 1 := rfl
@[go_sem] theorem U61b : (U 61).bytes = 8 := rfl
@[go_sem] theorem U61z : (U 61).zero = .v .nilFunc := rfl
@[go_sem] theorem U62k : (U 62).k = .slice 5 := rfl
@[go_sem] theorem U62s : (U 62).sz = 1 := rfl
@[go_sem] theorem U62b : (U 62).bytes = 24 := rfl
@[go_sem] theorem U62z : (U 62).zero = .sl [] .full := rfl
@[go_sem] theorem U63k : (U 63).k = .other := rfl
@[go_sem] theorem U63s : (U 63).sz = 1 := rfl
@[go_sem] theorem U63b : (U 63).bytes = 8 := rfl
@[go_sem] theorem U63z : (U 63).zero = .v .nilFunc := rfl
@[go_sem] theorem U64k : (U 64).k = .slice 9 := rfl
@[go_sem] theorem U64s : (U 64).sz = 1 := rfl
@[go_sem] theorem U64b : (U 64).bytes = 24 := rfl
@[go_sem] theorem U64z : (U 64).zero = .sl [] .full := rfl
@[go_sem] theorem U65k : (U 65).k = .other := rfl
@[go_sem] theorem U65s : (U 65).sz = 1 := rfl
@[go_sem] theorem U65b : (U 65).bytes = 8 := rfl
@[go_sem] theorem U65z : (U 65).zero = .v .nilFunc := rfl
@[go_sem] theorem U66k : (U 66).k = .other := rfl
@[go_sem] theorem U66s : (U 66).sz = 1 := rfl
@[go_sem] theorem U66b : (U 66).bytes = 8 := rfl
@[go_sem] theorem U66z : (U 66).zero = .v .nilFunc := rfl
@[go_sem] theorem U67k : (U 67).k = .slice 4 := rfl
@[go_sem] theorem U67s : (U 67).sz = 1 := rfl
@[go_sem] theorem U67b : (U 67).bytes = 24 := rfl
@[go_sem] theorem U67z : (U 67).zero = .sl [] .full := rfl
@[go_sem] theorem U68k : (U 68).k = .other := rfl
@[go_sem] theorem U68s : (U 68).sz = 1 := rfl
@[go_sem] theorem U68b : (U 68).bytes = 8 := rfl
@[go_sem] theorem U68z : (U 68).zero = .v .nilFunc := rfl
@[go_sem] theorem U69k : (U 69).k = .ptr 71 := rfl
@[go_sem] theorem U69s : (U 69).sz = 1 := rfl
@[go_sem] theorem U69b : (U 69).bytes = 8 := rfl
@[go_sem] theorem U69z : (U 69).zero = .v (.pointer none) := rfl
@[go_sem] theorem U70k : (U 70).k = .strct [(0, 3)] := rfl
@[go_sem] theorem U70s : (U 70).sz = 1 := rfl
@[go_sem] theorem U70b : (U 70).bytes = 8 := rfl
@[go_sem] theorem U70z : (U 70).zero = .agg [.v (.int .i64 0)] := rfl
@[go_sem] theorem U70e : (U 70).eq = some (1, [.int .i64]) := rfl
@[go_sem] theorem U71k : (U 71).k = .strct [(0, 3)] := rfl
@[go_sem] theorem U71s : (U 71).sz = 1 := rfl
@[go_sem] theorem U71b : (U 71).bytes = 8 := rfl
@[go_sem] theorem U71z : (U 71).zero = .agg [.v (.int .i64 0)] := rfl
@[go_sem] theorem U71e : (U 71).eq = some (1, [.int .i64]) := rfl
@[go_sem] theorem U72k : (U 72).k = .other := rfl
@[go_sem] theorem U72s : (U 72).sz = 1 := rfl
@[go_sem] theorem U72b : (U 72).bytes = 8 := rfl
@[go_sem] theorem U72z : (U 72).zero = .v .nilFunc := rfl
@[go_sem] theorem U73k : (U 73).k = .other := rfl
@[go_sem] theorem U73s : (U 73).sz = 1 := rfl
@[go_sem] theorem U73b : (U 73).bytes = 8 := rfl
@[go_sem] theorem U73z : (U 73).zero = .v .nilFunc := rfl
@[go_sem] theorem U74k : (U 74).k = .other := rfl
@[go_sem] theorem U74s : (U 74).sz = 1 := rfl
@[go_sem] theorem U74b : (U 74).bytes = 8 := rfl
@[go_sem] theorem U74z : (U 74).zero = .v .nilFunc := rfl
@[go_sem] theorem U75k : (U 75).k = .other := rfl
@[go_sem] theorem U75s : (U 75).sz = 1 := rfl
@[go_sem] theorem U75b : (U 75).bytes = 8 := rfl
@[go_sem] theorem U75z : (U 75).zero = .v .nilFunc := rfl
@[go_sem] theorem U76k : (U 76).k = .other := rfl
@[go_sem] theorem U76s : (U 76).sz = 1 := rfl
@[go_sem] theorem U76b : (U 76).bytes = 8 := rfl
@[go_sem] theorem U76z : (U 76).zero = .v .nilFunc := rfl
@[go_sem] theorem U78k : (U 78).k = .other := rfl
@[go_sem] theorem U78s : (U 78).sz = 1 := rfl
@[go_sem] theorem U78b : (U 78).bytes = 8 := rfl
@[go_sem] theorem U78z : (U 78).zero = .v .nilFunc := rfl
@[go_sem] theorem U79k : (U 79).k = .other := rfl
@[go_sem] theorem U79s : (U 79).sz = 1 := rfl
@[go_sem] theorem U79b : (U 79).bytes = 8 := rfl
@[go_sem] theorem U79z : (U 79).zero = .v .nilFunc := rfl
@[go_sem] theorem U80k : (U 80).k = .other := rfl
@[go_sem] theorem U80s : (U 80).sz = 1 := rfl
@[go_sem] theorem U80b : (U 80).bytes = 8 := rfl
@[go_sem] theorem U80z : (U 80).zero = .v .nilFunc := rfl
@[go_sem] theorem U81k : (U 81).k = .other := rfl
@[go_sem] theorem U81s : (U 81).sz = 1 := rfl
@[go_sem] theorem U81b : (U 81).bytes = 8 := rfl
@[go_sem] theorem U81z : (U 81).zero = .v .nilFunc := rfl
@[go_sem] theorem U82k : (U 82).k = .other := rfl
@[go_sem] theorem U82s : (U 82).sz = 1 := rfl
@[go_sem] theorem U82b : (U 82).bytes = 8 := rfl
@[go_sem] theorem U82z : (U 82).zero = .v .nilFunc := rfl
@[go_sem] theorem U83k : (U 83).k = .other := rfl
@[go_sem] theorem U83s : (U 83).sz = 1 := rfl
@[go_sem] theorem U83b : (U 83).bytes = 8 := rfl
@[go_sem] theorem U83z : (U 83).zero = .v .nilFunc := rfl
@[go_sem] theorem U84k : (U 84).k = .ptr 87 := rfl
@[go_sem] theorem U84s : (U 84).sz = 1 := rfl
@[go_sem] theorem U84b : (U 84).bytes = 8 := rfl
@[go_sem] theorem U84z : (U 84).zero = .v (.pointer none) := rfl
@[go_sem] theorem U85k : (U 85).k = .map 9 158 := rfl
@[go_sem] theorem U85s : (U 85).sz = 1 := rfl
@[go_sem] theorem U85b : (U 85).bytes = 8 := rfl
@[go_sem] theorem U85z : (U 85).zero = .v (.map none) := rfl
@[go_sem] theorem U86k : (U 86).k = .strct [(0, 85), (1, 3)] := rfl
@[go_sem] theorem U86s : (U 86).sz = 2 := rfl
@[go_sem] theorem U86b : (U 86).bytes = 16 := rfl
@[go_sem] theorem U86z : (U 86).zero = .agg [.v (.map none), .v (.int .i64 0)] := rfl
@[go_sem] theorem U87k : (U 87).k = .strct [(0, 85), (1, 3)] := rfl
@[go_sem] theorem U87s : (U 87).sz = 2 := rfl
@[go_sem] theorem U87b : (U 87).bytes = 16 := rfl
@[go_sem] theorem U87z : (U 87).zero = .agg [.v (.map none), .v (.int .i64 0)] := rfl
@[go_sem] theorem U88k : (U 88).k = .other := rfl
@[go_sem] theorem U88s : (U 88).sz = 1 := rfl
@[go_sem] theorem U88b : (U 88).bytes = 8 := rfl
@[go_sem] theorem U88z : (U 88).zero = .v .nilFunc := rfl
@[go_sem] theorem U89k : (U 89).k = .slice 97 := rfl
@[go_sem] theorem U89s : (U 89).sz = 1 := rfl
@[go_sem] theorem U89b : (U 89).bytes = 24 := rfl
@[go_sem] theorem U89z : (U 89).zero = .sl [] .full := rfl
@[go_sem] theorem U91k : (U 91).k = .other := rfl
@[go_sem] theorem U91s : (U 91).sz = 1 := rfl
@[go_sem] theorem U91b : (U 91).bytes = 8 := rfl
@[go_sem] theorem U91z : (U 91).zero = .v .nilFunc := rfl
@[go_sem] theorem U92k : (U 92).k = .ptr 94 := rfl
@[go_sem] theorem U92s : (U 92).sz = 1 := rfl
@[go_sem] theorem U92b : (U 92).bytes = 8 := rfl
@[go_sem] theorem U92z : (U 92).zero = .v (.pointer none) := rfl
@[go_sem] theorem U93k : (U 93).k = .strct [(0, 89), (1, 3), (2, 3), (3, 54), (4, 3)] := rfl
@[go_sem] theorem U93s : (U 93).sz = 5 := rfl
@[go_sem] theorem U93b : (U 93).bytes = 56 := rfl
@[go_sem] theorem U93z : (U 93).zero = .agg [.sl [] .full, .v (.int .i64 0), .v (.int .i64 0), .v (.int .i64 0), .v (.int .i64 0)] := rfl
@[go_sem] theorem U94k : (U 94).k = .strct [(0, 89), (1, 3), (2, 3), (3, 54), (4, 3)] := rfl
@[go_sem] theorem U94s : (U 94).sz = 5 := rfl
@[go_sem] theorem U94b : (U 94).bytes = 56 := rfl
@[go_sem] theorem U94z : (U 94).zero = .agg [.sl [] .full, .v (.int .i64 0), .v (.int .i64 0), .v (.int .i64 0), .v (.int .i64 0)] := rfl
@[go_sem] theorem U95k : (U 95).k = .other := rfl
@[go_sem] theorem U95s : (U 95).sz = 1 := rfl
@[go_sem] theorem U95b : (U 95).bytes = 8 := rfl
@[go_sem] theorem U95z : (U 95).zero = .v .nilFunc := rfl
@[go_sem] theorem U96k : (U 96).k = .strct [(0, 3), (1, 3), (2, 3), (3, 9)] := rfl
@[go_sem] theorem U96s : (U 96).sz = 4 := rfl
@[go_sem] theorem U96b : (U 96).bytes = 40 := rfl
@[go_sem] theorem U96z : (U 96).zero = .agg [.v (.int .i64 0), .v (.int .i64 0), .v (.int .i64 0), .s []] := rfl
@[go_sem] theorem U96e : (U 96).eq = some (1, [.int .i64, .int .i64, .int .i64, .str]) := rfl
@[go_sem] theorem U97k : (U 97).k = .strct [(0, 3), (1, 3), (2, 3), (3, 9)] := rfl
@[go_sem] theorem U97s : (U 97).sz = 4 := rfl
@[go_sem] theorem U97b : (U 97).bytes = 40 := rfl
@[go_sem] theorem U97z : (U 97).zero = .agg [.v (.int .i64 0), .v (.int .i64 0), .v (.int .i64 0), .s []] := rfl
@[go_sem] theorem U97e : (U 97).eq = some (1, [.int .i64, .int .i64, .int .i64, .str]) := rfl
@[go_sem] theorem U98k : (U 98).k = .other := rfl
@[go_sem] theorem U98s : (U 98).sz = 1 := rfl
@[go_sem] theorem U98b : (U 98).bytes = 8 := rfl
@[go_sem] theorem U98z : (U 98).zero = .v .nilFunc := rfl
@[go_sem] theorem U99k : (U 99).k = .other := rfl
@[go_sem] theorem U99s : (U 99).sz = 1 := rfl
@[go_sem] theorem U99b : (U 99).bytes = 8 := rfl
@[go_sem] theorem U99z : (U 99).zero = .v .nilFunc := rfl
@[go_sem] theorem U100k : (U 100).k = .other := rfl
@[go_sem] theorem U100s : (U 100).sz = 1 := rfl
@[go_sem] theorem U100b : (U 100).bytes = 8 := rfl
@[go_sem] theorem U100z : (U 100).zero = .v .nilFunc := rfl
@[go_sem] theorem U101k : (U 101).k = .other := rfl
@[go_sem] theorem U101s : (U 101).sz = 1 := rfl
@[go_sem] theorem U101b : (U 101).bytes = 8 := rfl
@[go_sem] theorem U101z : (U 101).zero = .v .nilFunc := rfl
@[go_sem] theorem U102k : (U 102).k = .other := rfl
@[go_sem] theorem U102s : (U 102).sz = 1 := rfl
@[go_sem] theorem U102b : (U 102).bytes = 8 := rfl
@[go_sem] theorem U102z : (U 102).zero = .v .nilFunc := rfl
@[go_sem] theorem U103k : (U 103).k = .other := rfl
@[go_sem] theorem U103s : (U 103).sz = 1 := rfl
@[go_sem] theorem U103b : (U 103).bytes = 8 := rfl
@[go_sem] theorem U103z : (U 103).zero = .v .nilFunc := rfl
@[go_sem] theorem U104k : (U 104).k = .other := rfl
@[go_sem] theorem U104s : (U 104).sz = 1 := rfl
@[go_sem] theorem U104b : (U 104).bytes = 8 := rfl
@[go_sem] theorem U104z : (U 104).zero = .v .nilFunc := rfl
@[go_sem] theorem U105k : (U 105).k = .other := rfl
@[go_sem] theorem U105s : (U 105).sz = 1 := rfl
@[go_sem] theorem U105b : (U 105).bytes = 8 := rfl
@[go_sem] theorem U105z : (U 105).zero = .v .nilFunc := rfl
@[go_sem] theorem U106k : (U 106).k = .other := rfl
@[go_sem] theorem U106s : (U 106).sz = 1 := rfl
@[go_sem] theorem U106b : (U 106).bytes = 8 := rfl
@[go_sem] theorem U106z : (U 106).zero = .v .nilFunc := rfl
@[go_sem] theorem U107k : (U 107).k = .ptr 109 := rfl
@[go_sem] theorem U107s : (U 107).sz = 1 := rfl
@[go_sem] theorem U107b : (U 107).bytes = 8 := rfl
@[go_sem] theorem U107z : (U 107).zero = .v (.pointer none) := rfl
@[go_sem] theorem U108k : (U 108).k = .strct [(0, 64), (1, 3)] := rfl
@[go_sem] theorem U108s : (U 108).sz = 2 := rfl
@[go_sem] theorem U108b : (U 108).bytes = 32 := rfl
@[go_sem] theorem U108z : (U 108).zero = .agg [.sl [] .full, .v (.int .i64 0)] := rfl
@[go_sem] theorem U109k : (U 109).k = .strct [(0, 64), (1, 3)] := rfl
@[go_sem] theorem U109s : (U 109).sz = 2 := rfl
@[go_sem] theorem U109b : (U 109).bytes = 32 := rfl
@[go_sem] theorem U109z : (U 109).zero = .agg [.sl [] .full, .v (.int .i64 0)] := rfl
@[go_sem] theorem U110k : (U 110).k = .other := rfl
@[go_sem] theorem U110s : (U 110).sz = 1 := rfl
@[go_sem] theorem U110b : (U 110).bytes = 8 := rfl
@[go_sem] theorem U110z : (U 110).zero = .v .nilFunc := rfl
@[go_sem] theorem U112k : (U 112).k = .other := rfl
@[go_sem] theorem U112s : (U 112).sz = 1 := rfl
@[go_sem] theorem U112b : (U 112).bytes = 8 := rfl
@[go_sem] theorem U112z : (U 112).zero = .v .nilFunc := rfl
@[go_sem] theorem U113k : (U 113).k = .other := rfl
@[go_sem] theorem U113s : (U 113).sz = 1 := rfl
@[go_sem] theorem U113b : (U 113).bytes = 8 := rfl
@[go_sem] theorem U113z : (U 113).zero = .v .nilFunc := rfl
@[go_sem] theorem U114k : (U 114).k = .ptr 116 := rfl
@[go_sem] theorem U114s : (U 114).sz = 1 := rfl
@[go_sem] theorem U114b : (U 114).bytes = 8 := rfl
@[go_sem] theorem U114z : (U 114).zero = .v (.pointer none) := rfl
@[go_sem] theorem U115k : (U 115).k = .strct [(0, 114), (1, 62)] := rfl
@[go_sem] theorem U115s : (U 115).sz = 2 := rfl
@[go_sem] theorem U115b : (U 115).bytes = 32 := rfl
@[go_sem] theorem U115z : (U 115).zero = .agg [.v (.pointer none), .sl [] .full] := rfl
@[go_sem] theorem U116k : (U 116).k = .strct [(0, 114), (1, 62)] := rfl
@[go_sem] theorem U116s : (U 116).sz = 2 := rfl
@[go_sem] theorem U116b : (U 116).bytes = 32 := rfl
@[go_sem] theorem U116z : (U 116).zero = .agg [.v (.pointer none), .sl [] .full] := rfl
@[go_sem] theorem U117k : (U 117).k = .other := rfl
@[go_sem] theorem U117s : (U 117).sz = 1 := rfl
@[go_sem] theorem U117b : (U 117).bytes = 8 := rfl
@[go_sem] theorem U117z : (U 117).zero = .v .nilFunc := rfl
@[go_sem] theorem U118k : (U 118).k = .iface := rfl
@[go_sem] theorem U118s : (U 118).sz = 1 := rfl
@[go_sem] theorem U118b : (U 118).bytes = 16 := rfl
@[go_sem] theorem U118z : (U 118).zero = .v .nilIface := rfl
@[go_sem] theorem U119k : (U 119).k = .iface := rfl
@[go_sem] theorem U119s : (U 119).sz = 1 := rfl
@[go_sem] theorem U119b : (U 119).bytes = 16 := rfl
@[go_sem] theorem U119z : (U 119).zero = .v .nilIface := rfl
@[go_sem] theorem U121k : (U 121).k = .other := rfl
@[go_sem] theorem U121s : (U 121).sz = 1 := rfl
@[go_sem] theorem U121b : (U 121).bytes = 8 := rfl
@[go_sem] theorem U121z : (U 121).zero = .v .nilFunc := rfl
@[go_sem] theorem U122k : (U 122).k = .other := rfl
@[go_sem] theorem U122s : (U 122).sz = 1 := rfl
@[go_sem] theorem U122b : (U 122).bytes = 8 := rfl
@[go_sem] theorem U122z : (U 122).zero = .v .nilFunc := rfl
@[go_sem] theorem U123k : (U 123).k = .other := rfl
@[go_sem] theorem U123s : (U 123).sz = 1 := rfl
@[go_sem] theorem U123b : (U 123).bytes = 8 := rfl
@[go_sem] theorem U123z : (U 123).zero = .v .nilFunc := rfl
@[go_sem] theorem U124k : (U 124).k = .other := rfl
@[go_sem] theorem U124s : (U 124).sz = 1 := rfl
@[go_sem] theorem U124b : (U 124).bytes = 8 := rfl
@[go_sem] theorem U124z : (U 124).zero = .v .nilFunc := rfl
@[go_sem] theorem U126k : (U 126).k = .other := rfl
@[go_sem] theorem U126s : (U 126).sz = 1 := rfl
@[go_sem] theorem U126b : (U 126).bytes = 8 := rfl
@[go_sem] theorem U126z : (U 126).zero = .v .nilFunc := rfl
@[go_sem] theorem U127k : (U 127).k = .other := rfl
@[go_sem] theorem U127s : (U 127).sz = 1 := rfl
@[go_sem] theorem U127b : (U 127).bytes = 8 := rfl
@[go_sem] theorem U127z : (U 127).zero = .v .nilFunc := rfl
@[go_sem] theorem U128k : (U 128).k = .other := rfl
@[go_sem] theorem U128s : (U 128).sz = 1 := rfl
@[go_sem] theorem U128b : (U 128).bytes = 8 := rfl
@[go_sem] theorem U128z : (U 128).zero = .v .nilFunc := rfl
@[go_sem] theorem U129k : (U 129).k = .other := rfl
@[go_sem] theorem U129s : (U 129).sz = 1 := rfl
@[go_sem] theorem U129b : (U 129).bytes = 8 := rfl
@[go_sem] theorem U129z : (U 129).zero = .v .nilFunc := rfl
@[go_sem] theorem U130k : (U 130).k = .other := rfl
@[go_sem] theorem U130s : (U 130).sz = 1 := rfl
@[go_sem] theorem U130b : (U 130).bytes = 8 := rfl
@[go_sem] theorem U130z : (U 130).zero = .v .nilFunc := rfl
@[go_sem] theorem U131k : (U 131).k = .other := rfl
@[go_sem] theorem U131s : (U 131).sz = 1 := rfl
@[go_sem] theorem U131b : (U 131).bytes = 8 := rfl
@[go_sem] theorem U131z : (U 131).zero = .v .nilFunc := rfl
@[go_sem] theorem U132k : (U 132).k = .other := rfl
@[go_sem] theorem U132s : (U 132).sz = 1 := rfl
@[go_sem] theorem U132b : (U 132).bytes = 8 := rfl
@[go_sem] theorem U132z : (U 132).zero = .v .nilFunc := rfl
@[go_sem] theorem U133k : (U 133).k = .other := rfl
@[go_sem] theorem U133s : (U 133).sz = 1 := rfl
@[go_sem] theorem U133b : (U 133).bytes = 8 := rfl
@[go_sem] theorem U133z : (U 133).zero = .v .nilFunc := rfl
@[go_sem] theorem U134k : (U 134).k = .int .u64 := rfl
@[go_sem] theorem U134s : (U 134).sz = 1 := rfl
@[go_sem] theorem U134b : (U 134).bytes = 8 := rfl
@[go_sem] theorem U134z : (U 134).zero = .v (.int .u64 0) := rfl
@[go_sem] theorem U135k : (U 135).k = .other := rfl
@[go_sem] theorem U135s : (U 135).sz = 1 := rfl
@[go_sem] theorem U135b : (U 135).bytes = 8 := rfl
@[go_sem] theorem U135z : (U 135).zero = .v .nilFunc := rfl
@[go_sem] theorem U136k : (U 136).k = .int .u64 := rfl
@[go_sem] theorem U136s : (U 136).sz = 1 := rfl
@[go_sem] theorem U136b : (U 136).bytes = 8 := rfl
@[go_sem] theorem U136z : (U 136).zero = .v (.int .u64 0) := rfl
@[go_sem] theorem U137k : (U 137).k = .other := rfl
@[go_sem] theorem U137s : (U 137).sz = 1 := rfl
@[go_sem] theorem U137b : (U 137).bytes = 8 := rfl
@[go_sem] theorem U137z : (U 137).zero = .v .nilFunc := rfl
@[go_sem] theorem U138k : (U 138).k = .other := rfl
@[go_sem] theorem U138s : (U 138).sz = 1 := rfl
@[go_sem] theorem U138b : (U 138).bytes = 8 := rfl
@[go_sem] theorem U138z : (U 138).zero = .v .nilFunc := rfl
@[go_sem] theorem U139k : (U 139).k = .other := rfl
@[go_sem] theorem U139s : (U 139).sz = 1 := rfl
@[go_sem] theorem U139b : (U 139).bytes = 8 := rfl
@[go_sem] theorem U139z : (U 139).zero = .v .nilFunc := rfl
@[go_sem] theorem U140k : (U 140).k = .other := rfl
@[go_sem] theorem U140s : (U 140).sz = 1 := rfl
@[go_sem] theorem U140b : (U 140).bytes = 8 := rfl
@[go_sem] theorem U140z : (U 140).zero = .v .nilFunc := rfl
@[go_sem] theorem U141k : (U 141).k = .other := rfl
@[go_sem] theorem U141s : (U 141).sz = 1 := rfl
@[go_sem] theorem U141b : (U 141).bytes = 8 := rfl
@[go_sem] theorem U141z : (U 141).zero = .v .nilFunc := rfl
@[go_sem] theorem U142k : (U 142).k = .ptr 5 := rfl
@[go_sem] theorem U142s : (U 142).sz = 1 := rfl
@[go_sem] theorem U142b : (U 142).bytes = 8 := rfl
@[go_sem] theorem U142z : (U 142).zero = .v (.pointer none) := rfl
@[go_sem] theorem U143k : (U 143).k = .other := rfl
@[go_sem] theorem U143s : (U 143).sz = 1 := rfl
@[go_sem] theorem U143b : (U 143).bytes = 8 := rfl
@[go_sem] theorem U143z : (U 143).zero = .v .nilFunc := rfl
@[go_sem] theorem U144k : (U 144).k = .other := rfl
@[go_sem] theorem U144s : (U 144).sz = 1 := rfl
@[go_sem] theorem U144b : (U 144).bytes = 8 := rfl
@[go_sem] theorem U144z : (U 144).zero = .v .nilFunc := rfl
@[go_sem] theorem U145k : (U 145).k = .other := rfl
@[go_sem] theorem U145s : (U 145).sz = 1 := rfl
@[go_sem] theorem U145b : (U 145).bytes = 8 := rfl
@[go_sem] theorem U145z : (U 145).zero = .v .nilFunc := rfl
@[go_sem] theorem U147k : (U 147).k = .other := rfl
@[go_sem] theorem U147s : (U 147).sz = 1 := rfl
@[go_sem] theorem U147b : (U 147).bytes = 8 := rfl
@[go_sem] theorem U147z : (U 147).zero = .v .nilFunc := rfl
@[go_sem] theorem U148k : (U 148).k = .other := rfl
@[go_sem] theorem U148s : (U 148).sz = 1 := rfl
@[go_sem] theorem U148b : (U 148).bytes = 8 := rfl
@[go_sem] theorem U148z : (U 148).zero = .v .nilFunc := rfl
@[go_sem] theorem U149k : (U 149).k = .other := rfl
@[go_sem] theorem U149s : (U 149).sz = 1 := rfl
@[go_sem] theorem U149b : (U 149).bytes = 8 := rfl
@[go_sem] theorem U149z : (U 149).zero = .v .nilFunc := rfl
@[go_sem] theorem U150k : (U 150).k = .other := rfl
@[go_sem] theorem U150s : (U 150).sz = 1 := rfl
@[go_sem] theorem U150b : (U 150).bytes = 8 := rfl
@[go_sem] theorem U150z : (U 150).zero = .v .nilFunc := rfl
@[go_sem] theorem U151k : (U 151).k = .other := rfl
@[go_sem] theorem U151s : (U 151).sz = 1 := rfl
@[go_sem] theorem U151b : (U 151).bytes = 8 := rfl
@[go_sem] theorem U151z : (U 151).zero = .v .nilFunc := rfl
@[go_sem] theorem U152k : (U 152).k = .other := rfl
@[go_sem] theorem U152s : (U 152).sz = 1 := rfl
@[go_sem] theorem U152b : (U 152).bytes = 8 := rfl
@[go_sem] theorem U152z : (U 152).zero = .v .nilFunc := rfl
@[go_sem] theorem U153k : (U 153).k = .other := rfl
@[go_sem] theorem U153s : (U 153).sz = 1 := rfl
@[go_sem] theorem U153b : (U 153).bytes = 8 := rfl
@[go_sem] theorem U153z : (U 153).zero = .v .nilFunc := rfl
@[go_sem] theorem U154k : (U 154).k = .other := rfl
@[go_sem] theorem U154s : (U 154).sz = 1 := rfl
@[go_sem] theorem U154b : (U 154).bytes = 8 := rfl
@[go_sem] theorem U154z : (U 154).zero = .v .nilFunc := rfl
@[go_sem] theorem U155k : (U 155).k = .other := rfl
@[go_sem] theorem U155s : (U 155).sz = 1 := rfl
@[go_sem] theorem U155b : (U 155).bytes = 8 := rfl
@[go_sem] theorem U155z : (U 155).zero = .v (.pointer none) := rfl
@[go_sem] theorem U156k : (U 156).k = .other := rfl
@[go_sem] theorem U156s : (U 156).sz = 1 := rfl
@[go_sem] theorem U156b : (U 156).bytes = 8 := rfl
@[go_sem] theorem U156z : (U 156).zero = .v .nilFunc := rfl
@[go_sem] theorem U157k : (U 157).k = .other := rfl
@[go_sem] theorem U157s : (U 157).sz = 1 := rfl
@[go_sem] theorem U157b : (U 157).bytes = 8 := rfl
@[go_sem] theorem U157z : (U 157).zero = .v .nilFunc := rfl
@[go_sem] theorem U158k : (U 158).k = .strct [] := rfl
@[go_sem] theorem U158s : (U 158).sz = 0 := rfl
@[go_sem] theorem U160k : (U 160).k = .other := rfl
@[go_sem] theorem U160s : (U 160).sz = 1 := rfl
@[go_sem] theorem U160b : (U 160).bytes = 8 := rfl
@[go_sem] theorem U160z : (U 160).zero = .v .nilFunc := rfl
@[go_sem] theorem U161k : (U 161).k = .other := rfl
@[go_sem] theorem U161s : (U 161).sz = 1 := rfl
@[go_sem] theorem U161b : (U 161).bytes = 8 := rfl
@[go_sem] theorem U161z : (U 161).zero = .v .nilFunc := rfl
@[go_sem] theorem U163k : (U 163).k = .other := rfl
@[go_sem] theorem U163s : (U 163).sz = 1 := rfl
@[go_sem] theorem U163b : (U 163).bytes = 8 := rfl
@[go_sem] theorem U163z : (U 163).zero = .v .nilFunc := rfl
@[go_sem] theorem U164k : (U 164).k = .other := rfl
@[go_sem] theorem U164s : (U 164).sz = 1 := rfl
@[go_sem] theorem U164b : (U 164).bytes = 8 := rfl
@[go_sem] theorem U164z : (U 164).zero = .v .nilFunc := rfl
@[go_sem] theorem U165k : (U 165).k = .other := rfl
@[go_sem] theorem U165s : (U 165).sz = 1 := rfl
@[go_sem] theorem U165b : (U 165).bytes = 8 := rfl
@[go_sem] theorem U165z : (U 165).zero = .v .nilFunc := rfl
@[go_sem] theorem U166k : (U 166).k = .arr 24 5 := rfl
@[go_sem] theorem U166s : (U 166).sz = 24 := rfl
@[go_sem] theorem U166b : (U 166).bytes = 24 := rfl
@[go_sem] theorem U166z : (U 166).zero = .agg [.v (.int .u8 0), .v (.int .u8 0), .v (.int .u8 0), .v (.int .u8 0), .v (.int .u8 0), .v (.int .u8 0), .v (.int .u8 0), .v (.int .u8 0), .v (.int .u8 0), .v (.int .u8 0), .v (.int .u8 0), .v (.int .u8 0), .v (.int .u8 0), .v (.int .u8 0), .v (.int .u8 0), .v (.int .u8 0), .v (.int .u8 0), .v (.int .u8 0), .v (.int .u8 0), .v (.int .u8 0), .v (.int .u8 0), .v (.int .u8 0), .v (.int .u8 0), .v (.int .u8 0)] := rfl
@[go_sem] theorem U166e : (U 166).eq = some (1, [.int .u8, .int .u8, .int .u8, .int .u8, .int .u8, .int .u8, .int .u8, .int .u8, .int .u8, .int .u8, .int .u8, .int .u8, .int .u8, .int .u8, .int .u8, .int .u8, .int .u8, .int .u8, .int .u8, .int .u8, .int .u8, .int .u8, .int .u8, .int .u8]) := rfl
@[go_sem] theorem U167k : (U 167).k = .other := rfl
@[go_sem] theorem U167s : (U 167).sz = 1 := rfl
@[go_sem] theorem U167b : (U 167).bytes = 8 := rfl
@[go_sem] theorem U167z : (U 167).zero = .v .nilFunc := rfl
@[go_sem] theorem U168k : (U 168).k = .other := rfl
@[go_sem] theorem U168s : (U 168).sz = 1 := rfl
@[go_sem] theorem U168b : (U 168).bytes = 8 := rfl
@[go_sem] theorem U168z : (U 168).zero = .v .nilFunc := rfl
@[go_sem] theorem U170k : (U 170).k = .other := rfl
@[go_sem] theorem U170s : (U 170).sz = 1 := rfl
@[go_sem] theorem U170b : (U 170).bytes = 8 := rfl
@[go_sem] theorem U170z : (U 170).zero = .v .nilFunc := rfl
@[go_sem] theorem U171k : (U 171).k = .other := rfl
@[go_sem] theorem U171s : (U 171).sz = 1 := rfl
@[go_sem] theorem U171b : (U 171).bytes = 8 := rfl
@[go_sem] theorem U171z : (U 171).zero = .v .nilFunc := rfl
@[go_sem] theorem U172k : (U 172).k = .other := rfl
@[go_sem] theorem U172s : (U 172).sz = 1 := rfl
@[go_sem] theorem U172b : (U 172).bytes = 8 := rfl
@[go_sem] theorem U172z : (U 172).zero = .v .nilFunc := rfl
@[go_sem] theorem U173k : (U 173).k = .other := rfl
@[go_sem] theorem U173s : (U 173).sz = 1 := rfl
@[go_sem] theorem U173b : (U 173).bytes = 8 := rfl
@[go_sem] theorem U173z : (U 173).zero = .v .nilFunc := rfl
@[go_sem] theorem U174k : (U 174).k = .other := rfl
@[go_sem] theorem U174s : (U 174).sz = 1 := rfl
@[go_sem] theorem U174b : (U 174).bytes = 8 := rfl
@[go_sem] theorem U174z : (U 174).zero = .v .nilFunc := rfl
@[go_sem] theorem U175k : (U 175).k = .other := rfl
@[go_sem] theorem U175s : (U 175).sz = 1 := rfl
@[go_sem] theorem U175b : (U 175).bytes = 8 := rfl
@[go_sem] theorem U175z : (U 175).zero = .v .nilFunc := rfl
@[go_sem] theorem U177k : (U 177).k = .other := rfl
@[go_sem] theorem U177s : (U 177).sz = 1 := rfl
@[go_sem] theorem U177b : (U 177).bytes = 8 := rfl
@[go_sem] theorem U177z : (U 177).zero = .v .nilFunc := rfl
@[go_sem] theorem U178k : (U 178).k = .other := rfl
@[go_sem] theorem U178s : (U 178).sz = 1 := rfl
@[go_sem] theorem U178b : (U 178).bytes = 8 := rfl
@[go_sem] theorem U178z : (U 178).zero = .v .nilFunc := rfl
@[go_sem] theorem U179k : (U 179).k = .other := rfl
@[go_sem] theorem U179s : (U 179).sz = 1 := rfl
@[go_sem] theorem U179b : (U 179).bytes = 8 := rfl
@[go_sem] theorem U179z : (U 179).zero = .v .nilFunc := rfl
@[go_sem] theorem U180k : (U 180).k = .arr 20 134 := rfl
@[go_sem] theorem U180s : (U 180).sz = 20 := rfl
@[go_sem] theorem U180b : (U 180).bytes = 160 := rfl
@[go_sem] theorem U180z : (U 180).zero = .agg [.v (.int .u64 0), .v (.int .u64 0), .v (.int .u64 0), .v (.int .u64 0), .v (.int .u64 0), .v (.int .u64 0), .v (.int .u64 0), .v (.int .u64 0), .v (.int .u64 0), .v (.int .u64 0), .v (.int .u64 0), .v (.int .u64 0), .v (.int .u64 0), .v (.int .u64 0), .v (.int .u64 0), .v (.int .u64 0), .v (.int .u64 0), .v (.int .u64 0), .v (.int .u64 0), .v (.int .u64 0)] := rfl
@[go_sem] theorem U180e : (U 180).eq = some (1, [.int .u64, .int .u64, .int .u64, .int .u64, .int .u64, .int .u64, .int .u64, .int .u64, .int .u64, .int .u64, .int .u64, .int .u64, .int .u64, .int .u64, .int .u64, .int .u64, .int .u64, .int .u64, .int .u64, .int .u64]) := rfl
@[go_sem] theorem U181k : (U 181).k = .int .u32 := rfl
@[go_sem] theorem U181s : (U 181).sz = 1 := rfl
@[go_sem] theorem U181b : (U 181).bytes = 4 := rfl
@[go_sem] theorem U181z : (U 181).zero = .v (.int .u32 0) := rfl
@[go_sem] theorem U182k : (U 182).k = .arr 65 5 := rfl
@[go_sem] theorem U182s : (U 182).sz = 65 := rfl
@[go_sem] theorem U182b : (U 182).bytes = 65 := rfl
@[go_sem] theorem U182z : (U 182).zero = .agg [.v (.int .u8 0), .v (.int .u8 0), .v (.int .u8 0), .v (.int .u8 0), .v (.int .u8 0), .v (.int .u8 0), .v (.int .u8 0), .v (.int .u8 0), .v (.int .u8 0), .v (.int .u8 0), .v (.int .u8 0), .v (.int .u8 0), .v (.int .u8 0), .v (.int .u8 0), .v (.int .u8 0), .v (.int .u8 0), .v (.int .u8 0), .v (.int .u8 0), .v (.int .u8 0), .v (.int .u8 0), .v (.int .u8 0), .v (.int .u8 0), .v (.int .u8 0), .v (.int .u8 0), .v (.int .u8 0), .v (.int .u8 0), .v (.int .u8 0), .v (.int .u8 0), .v (.int .u8 0), .v (.int .u8 0), .v (.int .u8 0), .v (.int .u8 0), .v (.int .u8 0), .v (.int .u8 0), .v (.int .u8 0), .v (.int .u8 0), .v (.int .u8 0), .v (.int .u8 0), .v (.int .u8 0), .v (.int .u8 0), .v (.int .u8 0), .v (.int .u8 0), .v (.int .u8 0), .v (.int .u8 0), .v (.int .u8 0), .v (.int .u8 0), .v (.int .u8 0), .v (.int .u8 0), .v (.int .u8 0), .v (.int .u8 0), .v (.int .u8 0), .v (.int .u8 0), .v (.int .u8 0), .v (.int .u8 0), .v (.int .u8 0), .v (.int .u8 0), .v (.int .u8 0), .v (.int .u8 0), .v (.int .u8 0), .v (.int .u8 0), .v (.int .u8 0), .v (.int .u8 0), .v (.int .u8 0), .v (.int .u8 0), .v (.int .u8 0)] := rfl
@[go_sem] theorem U183k : (U 183).k = .other := rfl
@[go_sem] theorem U183s : (U 183).sz = 1 := rfl
@[go_sem] theorem U183b : (U 183).bytes = 8 := rfl
@[go_sem] theorem U183z : (U 183).zero = .v .nilFunc := rfl
@[go_sem] theorem U184k : (U 184).k = .other := rfl
@[go_sem] theorem U184s : (U 184).sz = 1 := rfl
@[go_sem] theorem U184b : (U 184).bytes = 8 := rfl
@[go_sem] theorem U184z : (U 184).zero = .v .nilFunc := rfl
@[go_sem] theorem U185k : (U 185).k = .int .i64 := rfl
@[go_sem] theorem U185s : (U 185).sz = 1 := rfl
@[go_sem] theorem U185b : (U 185).bytes = 8 := rfl
@[go_sem] theorem U185z : (U 185).zero = .v (.int .i64 0) := rfl
@[go_sem] theorem U187k : (U 187).k = .other := rfl
@[go_sem] theorem U187s : (U 187).sz = 1 := rfl
@[go_sem] theorem U187b : (U 187).bytes = 8 := rfl
@[go_sem] theorem U187z : (U 187).zero = .v .nilFunc := rfl
@[go_sem] theorem U188k : (U 188).k = .ptr 199 := rfl
@[go_sem] theorem U188s : (U 188).sz = 1 := rfl
@[go_sem] theorem U188b : (U 188).bytes = 8 := rfl
@[go_sem] theorem U188z : (U 188).zero = .v (.pointer none) := rfl
@[go_sem] theorem U189k : (U 189).k = .other := rfl
@[go_sem] theorem U189s : (U 189).sz = 1 := rfl
@[go_sem] theorem U189b : (U 189).bytes = 8 := rfl
@[go_sem] theorem U189z : (U 189).zero = .v .nilFunc := rfl
@[go_sem] theorem U190k : (U 190).k = .other := rfl
@[go_sem] theorem U190s : (U 190).sz = 1 := rfl
@[go_sem] theorem U190b : (U 190).bytes = 8 := rfl
@[go_sem] theorem U190z : (U 190).zero = .v .nilFunc := rfl
@[go_sem] theorem U191k : (U 191).k = .other := rfl
@[go_sem] theorem U191s : (U 191).sz = 1 := rfl
@[go_sem] theorem U191b : (U 191).bytes = 8 := rfl
@[go_sem] theorem U191z : (U 191).zero = .v .nilFunc := rfl
@[go_sem] theorem U192k : (U 192).k = .other := rfl
@[go_sem] theorem U192s : (U 192).sz = 1 := rfl
@[go_sem] theorem U192b : (U 192).bytes = 8 := rfl
@[go_sem] theorem U192z : (U 192).zero = .v .nilFunc := rfl
@[go_sem] theorem U194k : (U 194).k = .other := rfl
@[go_sem] theorem U194s : (U 194).sz = 1 := rfl
@[go_sem] theorem U194b : (U 194).bytes = 8 := rfl
@[go_sem] theorem U194z : (U 194).zero = .v .nilFunc := rfl
@[go_sem] theorem U195k : (U 195).k = .other := rfl
@[go_sem] theorem U195s : (U 195).sz = 1 := rfl
@[go_sem] theorem U195b : (U 195).bytes = 8 := rfl
@[go_sem] theorem U195z : (U 195).zero = .v .nilFunc := rfl
@[go_sem] theorem U197k : (U 197).k = .other := rfl
@[go_sem] theorem U197s : (U 197).sz = 1 := rfl
@[go_sem] theorem U197b : (U 197).bytes = 8 := rfl
@[go_sem] theorem U197z : (U 197).zero = .v .nilFunc := rfl
@[go_sem] theorem U198k : (U 198).k = .strct [(0, 9), (1, 9), (2, 119)] := rfl
@[go_sem] theorem U198s : (U 198).sz = 3 := rfl
@[go_sem] theorem U198b : (U 198).bytes = 48 := rfl
@[go_sem] theorem U198z : (U 198).zero = .agg [.s [], .s [], .v .nilIface] := rfl
@[go_sem] theorem U199k : (U 199).k = .strct [(0, 9), (1, 9), (2, 119)] := rfl
@[go_sem] theorem U199s : (U 199).sz = 3 := rfl
@[go_sem] theorem U199b : (U 199).bytes = 48 := rfl
@[go_sem] theorem U199z : (U 199).zero = .agg [.s [], .s [], .v .nilIface] := rfl
@[go_sem] theorem U200k : (U 200).k = .other := rfl
@[go_sem] theorem U200s : (U 200).sz = 1 := rfl
@[go_sem] theorem U200b : (U 200).bytes = 8 := rfl
@[go_sem] theorem U200z : (U 200).zero = .v .nilFunc := rfl
@[go_sem] theorem U201k : (U 201).k = .other := rfl
@[go_sem] theorem U201s : (U 201).sz = 1 := rfl
@[go_sem] theorem U201b : (U 201).bytes = 8 := rfl
@[go_sem] theorem U201z : (U 201).zero = .v .nilFunc := rfl
@[go_sem] theorem U202k : (U 202).k = .arr 32 5 := rfl
@[go_sem] theorem U202s : (U 202).sz = 32 := rfl
@[go_sem] theorem U202b : (U 202).bytes = 32 := rfl
@[go_sem] theorem U202z : (U 202).zero = .agg [.v (.int .u8 0), .v (.int .u8 0), .v (.int .u8 0), .v (.int .u8 0), .v (.int .u8 0), .v (.int .u8 0), .v (.int .u8 0), .v (.int .u8 0), .v (.int .u8 0), .v (.int .u8 0), .v (.int .u8 0), .v (.int .u8 0), .v (.int .u8 0), .v (.int .u8 0), .v (.int .u8 0), .v (.int .u8 0), .v (.int .u8 0), .v (.int .u8 0), .v (.int .u8 0), .v (.int .u8 0), .v (.int .u8 0), .v (.int .u8 0), .v (.int .u8 0), .v (.int .u8 0), .v (.int .u8 0), .v (.int .u8 0), .v (.int .u8 0), .v (.int .u8 0), .v (.int .u8 0), .v (.int .u8 0), .v (.int .u8 0), .v (.int .u8 0)] := rfl
@[go_sem] theorem U202e : (U 202).eq = some (1, [.int .u8, .int .u8, .int .u8, .int .u8, .int .u8, .int .u8, .int .u8, .int .u8, .int .u8, .int .u8, .int .u8, .int .u8, .int .u8, .int .u8, .int .u8, .int .u8, .int .u8, .int .u8, .int .u8, .int .u8, .int .u8, .int .u8, .int .u8, .int .u8, .int .u8, .int .u8, .int .u8, .int .u8, .int .u8, .int .u8, .int .u8, .int .u8]) := rfl
@[go_sem] theorem U203k : (U 203).k = .arr 64 5 := rfl
@[go_sem] theorem U203s : (U 203).sz = 64 := rfl
@[go_sem] theorem U203b : (U 203).bytes = 64 := rfl
@[go_sem] theorem U203z : (U 203).zero = .agg [.v (.int .u8 0), .v (.int .u8 0), .v (.int .u8 0), .v (.int .u8 0), .v (.int .u8 0), .v (.int .u8 0), .v (.int .u8 0), .v (.int .u8 0), .v (.int .u8 0), .v (.int .u8 0), .v (.int .u8 0), .v (.int .u8 0), .v (.int .u8 0), .v (.int .u8 0), .v (.int .u8 0), .v (.int .u8 0), .v (.int .u8 0), .v (.int .u8 0), .v (.int .u8 0), .v (.int .u8 0), .v (.int .u8 0), .v (.int .u8 0), .v (.int .u8 0), .v (.int .u8 0), .v (.int .u8 0), .v (.int .u8 0), .v (.int .u8 0), .v (.int .u8 0), .v (.int .u8 0), .v (.int .u8 0), .v (.int .u8 0), .v (.int .u8 0), .v (.int .u8 0), .v (.int .u8 0), .v (.int .u8 0), .v (.int .u8 0), .v (.int .u8 0), .v (.int .u8 0), .v (.int .u8 0), .v (.int .u8 0), .v (.int .u8 0), .v (.int .u8 0), .v (.int .u8 0), .v (.int .u8 0), .v (.int .u8 0), .v (.int .u8 0), .v (.int .u8 0), .v (.int .u8 0), .v (.int .u8 0), .v (.int .u8 0), .v (.int .u8 0), .v (.int .u8 0), .v (.int .u8 0), .v (.int .u8 0), .v (.int .u8 0), .v (.int .u8 0), .v (.int .u8 0), .v (.int .u8 0), .v (.int .u8 0), .v (.int .u8 0), .v (.int .u8 0), .v (.int .u8 0), .v (.int .u8 0), .v (.int .u8 0)] := rfl
@[go_sem] theorem U204k : (U 204).k = .ptr 206 := rfl
@[go_sem] theorem U204s : (U 204).sz = 1 := rfl
@[go_sem] theorem U204b : (U 204).bytes = 8 := rfl
@[go_sem] theorem U204z : (U 204).zero = .v (.pointer none) := rfl
@[go_sem] theorem U205k : (U 205).k = .strct [(0, 9)] := rfl
@[go_sem] theorem U205s : (U 205).sz = 1 := rfl
@[go_sem] theorem U205b : (U 205).bytes = 16 := rfl
@[go_sem] theorem U205z : (U 205).zero = .agg [.s []] := rfl
@[go_sem] theorem U205e : (U 205).eq = some (1, [.str]) := rfl
@[go_sem] theorem U206k : (U 206).k = .strct [(0, 9)] := rfl
@[go_sem] theorem U206s : (U 206).sz = 1 := rfl
@[go_sem] theorem U206b : (U 206).bytes = 16 := rfl
@[go_sem] theorem U206z : (U 206).zero = .agg [.s []] := rfl
@[go_sem] theorem U206e : (U 206).eq = some (1, [.str]) := rfl
@[go_sem] theorem U207k : (U 207).k = .strct [(0, 17), (1, 17), (2, 17), (3, 9)] := rfl
@[go_sem] theorem U207s : (U 207).sz = 4 := rfl
@[go_sem] theorem U207b : (U 207).bytes = 40 := rfl
@[go_sem] theorem U207z : (U 207).zero = .agg [.v (.pointer none), .v (.pointer none), .v (.pointer none), .s []] := rfl
@[go_sem] theorem U208k : (U 208).k = .strct [(0, 17), (1, 17), (2, 17), (3, 9)] := rfl
@[go_sem] theorem U208s : (U 208).sz = 4 := rfl
@[go_sem] theorem U208b : (U 208).bytes = 40 := rfl
@[go_sem] theorem U208z : (U 208).zero = .agg [.v (.pointer none), .v (.pointer none), .v (.pointer none), .s []] := rfl
@[go_sem] theorem U209k : (U 209).k = .arr 0 16 := rfl
@[go_sem] theorem U209s : (U 209).sz = 0 := rfl
@[go_sem] theorem U212k : (U 212).k = .other := rfl
@[go_sem] theorem U212s : (U 212).sz = 1 := rfl
@[go_sem] theorem U212b : (U 212).bytes = 8 := rfl
@[go_sem] theorem U212z : (U 212).zero = .v .nilFunc := rfl
@[go_sem] theorem U213k : (U 213).k = .int .u8 := rfl
@[go_sem] theorem U213s : (U 213).sz = 1 := rfl
@[go_sem] theorem U213b : (U 213).bytes = 1 := rfl
@[go_sem] theorem U213z : (U 213).zero = .v (.int .u8 0) := rfl
@[go_sem] theorem U214k : (U 214).k = .int .u8 := rfl
@[go_sem] theorem U214s : (U 214).sz = 1 := rfl
@[go_sem] theorem U214b : (U 214).bytes = 1 := rfl
@[go_sem] theorem U214z : (U 214).zero = .v (.int .u8 0) := rfl
@[go_sem] theorem U215k : (U 215).k = .other := rfl
@[go_sem] theorem U215s : (U 215).sz = 1 := rfl
@[go_sem] theorem U215b : (U 215).bytes = 8 := rfl
@[go_sem] theorem U215z : (U 215).zero = .v .nilFunc := rfl
@[go_sem] theorem U216k : (U 216).k = .int .i32 := rfl
@[go_sem] theorem U216s : (U 216).sz = 1 := rfl
@[go_sem] theorem U216b : (U 216).bytes = 4 := rfl
@[go_sem] theorem U216z : (U 216).zero = .v (.int .i32 0) := rfl
@[go_sem] theorem U217k : (U 217).k = .int .i32 := rfl
@[go_sem] theorem U217s : (U 217).sz = 1 := rfl
@[go_sem] theorem U217b : (U 217).bytes = 4 := rfl
@[go_sem] theorem U217z : (U 217).zero = .v (.int .i32 0) := rfl
@[go_sem] theorem U218k : (U 218).k = .strct [(0, 12), (1, 12), (2, 181), (3, 213), (4, 5), (5, 5), (6, 214), (7, 215), (8, 142), (9, 216), (10, 217)] := rfl
@[go_sem] theorem U218s : (U 218).sz = 11 := rfl
@[go_sem] theorem U218b : (U 218).bytes = 48 := rfl
@[go_sem] theorem U218z : (U 218).zero = .agg [.v (.int .u64 0), .v (.int .u64 0), .v (.int .u32 0), .v (.int .u8 0), .v (.int .u8 0), .v (.int .u8 0), .v (.int .u8 0), .v .nilFunc, .v (.pointer none), .v (.int .i32 0), .v (.int .i32 0)] := rfl
@[go_sem] theorem U219k : (U 219).k = .strct [(0, 12), (1, 12), (2, 181), (3, 213), (4, 5), (5, 5), (6, 214), (7, 215), (8, 142), (9, 216), (10, 217)] := rfl
@[go_sem] theorem U219s : (U 219).sz = 11 := rfl
@[go_sem] theorem U219b : (U 219).bytes = 48 := rfl
@[go_sem] theorem U219z : (U 219).zero = .agg [.v (.int .u64 0), .v (.int .u64 0), .v (.int .u32 0), .v (.int .u8 0), .v (.int .u8 0), .v (.int .u8 0), .v (.int .u8 0), .v .nilFunc, .v (.pointer none), .v (.int .i32 0), .v (.int .i32 0)] := rfl
theorem hU : ∀ t, AgreeT Tryd.prog U t := agree_all 220 (by kernel_rfl) fun t ht => by
  unfold U
  rw [List.getD_eq_getElem?_getD, List.getElem?_eq_none (show tyRows.length ≤ t from ht)]
  rfl
theorem hm : Tryd.prog.follows .mixedOrders = true := by kernel_rfl
end Go.Proofs.YtdcchpbncckhlaaDoor

set_option linter.unusedVariables false
namespace Go.Proofs
open Go.Shelf
end Go.Proofs

set_option linter.unusedSimpArgs false
set_option linter.unusedVariables false
namespace Go.Ab
open Go
def hm2 (i : Nat) (a : Blk) (j : Nat) (b : Blk) : Heap := upd (hm1 i a) j (some b)
theorem Sub.hm2 {h : Heap} {i j : Nat} {a b : Blk} (h1 : h i = some a) (h2 : h j = some b) : Sub (hm2 i a j b) h := fun k c hk => by
  unfold Ab.hm2 at hk
  by_cases e : k = j
  · subst e; rw [upd_same] at hk; cases hk; exact h2
  · rw [upd_other _ _ e] at hk; exact Sub.hm1 h1 k c hk
theorem hm2_snd (i : Nat) (a : Blk) (j : Nat) (b : Blk) : hm2 i a j b j = some b := upd_same ..
theorem hm2_fst {i : Nat} (a : Blk) {j : Nat} (b : Blk) (h : i ≠ j) : hm2 i a j b i = some a := by
  unfold hm2; rw [upd_other _ _ h]; exact hm1_same i a
theorem hm2_none {i : Nat} (a : Blk) {j : Nat} (b : Blk) {k : Nat} (h1 : k ≠ i) (h2 : k ≠ j) : hm2 i a j b k = none := by
  unfold hm2
  rw [upd_other _ _ h2]
  unfold hm1
  rw [upd_other _ _ h1]
theorem ne_upd {h : Heap} {i j : Nat} {b : Blk} (e : upd h i (some b) j = none) : j ≠ i := fun hh => by
  subst hh; rw [upd_same] at e; cases e
theorem Sub.put {h g : Heap} (hs : Sub h g) {i : Nat} (hi : h i = Option.none) (x : Option Blk) : Sub h (Ab.upd g i x) := fun k c hk => by
  by_cases e : k = i
  · subst e; rw [hi] at hk; cases hk
  · rw [upd_other _ _ e]; exact hs k c hk
theorem Sub.both {h g : Heap} (hs : Sub h g) (i : Nat) (x : Option Blk) : Sub (Ab.upd h i x) (Ab.upd g i x) := fun k c hk => by
  by_cases e : k = i
  · subst e; rw [upd_same] at hk ⊢; exact hk
  · rw [upd_other _ _ e] at hk ⊢; exact hs k c hk
theorem Acc.put {U : TypeId → TI} {e : TypeId} {h h' : Heap} {y : AV} {xs : List AV} (ha : Acc U e h h' y xs) {id : Nat} (hid : h id = Option.none) {cs : List AV} {t : TypeId} (hob : h' id = some (.obj cs t)) (x : Option Blk) : Acc U e h (Ab.upd h' id x) y xs := by
  obtain ⟨h1, rfl | ⟨k, i1, rfl, i2⟩⟩ := ha
  · exact ⟨h1.put hid x, .inl rfl⟩
  · refine ⟨h1.put hid x, .inr ⟨k, i1, rfl, ?_⟩⟩
    rw [upd_other _ _ fun e => ?_]
    · exact i2
    · subst e; rw [hob] at i2; cases i2
theorem base_start (G : Heap) (id : Nat) (x : Option Blk) : Sub (upd G id Option.none) (upd G id x) := fun k c hk => by
  by_cases e : k = id
  · subst e; rw [upd_same] at hk; cases hk
  · rw [upd_other _ _ e] at hk ⊢; exact hk
theorem base_end {G H : Heap} {id : Nat} {b : Blk} (hs : Sub (upd G id Option.none) H) (hb : H id = some b) : Sub (upd G id (some b)) H := fun k c hk => by
  by_cases e : k = id
  · subst e; rw [upd_same] at hk; cases hk; exact hb
  · rw [upd_other _ _ e] at hk; exact hs k c (by rw [upd_other _ _ e]; exact hk)
theorem weak_tup3 (xs : List AV) (q : Perm) (a b : AV) : Weak (.tup [.sl xs q, a, b]) (.tup [.sl xs .no, a, b]) := .tup _ _ rfl fun i h1 h2 => by
  rcases i with _ | _ | _ | i
  · exact .sl _ _
  · exact .refl _
  · exact .refl _
  · simp at h1; omega
theorem WP.scope2 {P : Program} {U : TypeId → TI} {n : Nat} (hU : ∀ t, AgreeT P U t) (hm : P.follows .mixedOrders = true) {c rest : Code} {ρ : Env} {h : Heap} {K : Exit → Env → Heap → Prop} (l : Nat) (J : Nat → Env → Heap → Prop) (hf : findLabel c l = some (.seq .skip rest))
    (pass : ∀ m ρ h, J m ρ h → WP P n rest ρ h (KJump l (fun ρ' h' => ∃ m', m' < m ∧ J m' ρ' h') K))
    (first : (∀ m ρ h, J m ρ h → WP P n rest ρ h (KJump l (fun ρ h => ∃ m, J m ρ h) K)) → WP P n c ρ h (KJump l (fun ρ h => ∃ m, J m ρ h) K)) : WP P n (.scope c) ρ h K :=
  WP.scope l J hf (first fun m ρ h hJ => (pass m ρ h hJ).weaken fun e ρ h hk => by
    cases e with
    | goto l' => obtain ⟨h1, m', _, h2⟩ := hk; exact ⟨h1, m', h2⟩
    | _ => exact hk) fun m ρ h hJ => WP.seq (vcCode_sound hU hm .skip ρ h _ (pass m ρ h hJ))
end Go.Ab

namespace Go.Ab
attribute [go_sem] Int.natCast_zero Int.ofNat_zero Int.natCast_one Int.cast_ofNat_Int bne_self_eq_false beq_self_eq_true Bool.not_true Bool.not_false
attribute [go_sem] Nat.reduceLT Nat.reduceEqDiff Nat.reduceAdd Nat.reduceLeDiff Nat.reduceMul Nat.reduceSub Int.reduceBEq Int.reduceBNe
attribute [go_sem ↓] reduceIte
end Go.Ab

set_option linter.unusedSimpArgs false
set_option linter.unusedVariables false
namespace Go.Proofs.YtdcchpbncckhlaaDoor
open Go Go.Ab Go.Bf
def pow10V : List Value := Lib.pow10Tab.map fun z => Value.int .u64 z
end Go.Proofs.YtdcchpbncckhlaaDoor

set_option linter.unusedSimpArgs false
set_option linter.unusedVariables false
namespace Go.Proofs.YtdcchpbncckhlaaDoor
open Go Go.Ab Go.Bf
theorem name_ok (l : Txt) (h : Heap) : FnOK Tryd.prog 74 [.s l] h fun r h' => r = .v (.bool (nameOK l)) ∧ h' = h := by
  refine FnOK.body hU hm Tryd.func74 rfl (by kernel_rfl) 49 rfl [.tmp 2] rfl (Nat.le_of_ble_eq_true rfl) (fun hwf => ?_)
  simp -implicitDefEqProofs only [go_sem]
  refine .intro (fun m ρ h' => h' = h ∧ ∃ i : Nat, i ≤ l.length ∧ m = l.length - i ∧ chsOK (l.take i) = true ∧ lk ρ 0 = some (.s l) ∧ lk ρ 8 = some (.v (.int .i64 l.length)) ∧ lk ρ 9 = some (.v (.int .i64 i))) l.length ?_ ?_
  · refine ⟨rfl, 0, by omega, rfl, rfl, ?_, ?_, ?_⟩ <;> simp -implicitDefEqProofs only [go_sem]
  · rintro m ρ h' ⟨rfl, i, hi, rfl, hc, r0, r8, r9⟩
    simp -implicitDefEqProofs only [go_sem, r0, r8, r9]
    refine .intro (fun e => ?_) (fun e => ?_)
    · have hlt : i < l.length := Int.ofNat_lt.1 (of_decide_eq_true e)
      have w1 : IntKind.i64.wrap ((i : Int) + 1) = ((i + 1 : Nat) : Int) := by rw [wr64 _ (by have := hwf (.s l) (by simp); simp only [wfA, wf1, lim] at this; omega)]; omega
      have w0 : IntKind.i64.wrap (0 + 1) = 1 := rfl
      have hb := chsOK_bad l i hlt
      have hg := chsOK_succ l i hlt
      rw [hc] at hg
      have hcl := chCases l[i]
      have h255 := l[i].toNat_lt
      simp -implicitDefEqProofs only [go_sem, r0, r8, r9]
      refine .at i hlt ?_
      generalize hcc : l[i] = c at hb hg hcl h255 ⊢
      by_cases hi0 : i = 0
      · subst hi0
        rcases hcl with ⟨a1, a2, a3, a4, a5⟩ | ⟨a1, a2, a3, a4, a5⟩ | ⟨a1, a2, a3, a4, a5⟩ | ⟨a1, a2, a3, a4, a5⟩ | ⟨a1, a2, a3, a4, a5⟩ | ⟨a1, a2, a3, a4, a5⟩
        · simp -implicitDefEqProofs only [go_sem, r0, r8, r9, a1, a2, a3, a4, a5, w1, w0]
          refine ⟨_, ?_, rfl, 0 + 1, by omega, rfl, by simp [hg, chOK, ltr, a1, a2], ?_, ?_, ?_⟩
          · omega
          all_goals simp -implicitDefEqProofs only [go_sem, r0, r8, r9, w1, w0]
        all_goals
          simp -implicitDefEqProofs only [go_sem, r0, r8, r9, a1, a2, a3, a4, a5, w1]
          exact .same (.refl _) ⟨by simp [nameOK, hb (by simp [chOK, ltr, a1, a2]), oneOr], rfl⟩
      · have hin : ((i : Int) == 0) = false := by simp; omega
        rcases hcl with ⟨a1, a2, a3, a4, a5⟩ | ⟨a1, a2, a3, a4, a5⟩ | ⟨a1, a2, a3, a4, a5⟩ | ⟨a1, a2, a3, a4, a5⟩ | ⟨a1, a2, a3, a4, a5⟩ | ⟨a1, a2, a3, a4, a5⟩
        · simp -implicitDefEqProofs only [go_sem, r0, r8, r9, a1, a2, a3, a4, a5, w1, hin]
          refine ⟨_, ?_, rfl, i + 1, by omega, rfl, by simp [hg, chOK, ltr, dgt, a1, a2, a3, a4, a5, hi0], ?_, ?_, ?_⟩
          · omega
          all_goals simp -implicitDefEqProofs only [go_sem, r0, r8, r9, w1]
        · simp -implicitDefEqProofs only [go_sem, r0, r8, r9, a1, a2, a3, a4, a5, w1, hin]
          refine ⟨_, ?_, rfl, i + 1, by omega, rfl, by simp [hg, chOK, ltr, dgt, a1, a2, a3, a4, a5, hi0], ?_, ?_, ?_⟩
          · omega
          all_goals simp -implicitDefEqProofs only [go_sem, r0, r8, r9, w1]
        · simp -implicitDefEqProofs only [go_sem, r0, r8, r9, a1, a2, a3, a4, a5, w1, hin]
          refine ⟨_, ?_, rfl, i + 1, by omega, rfl, by simp [hg, chOK, ltr, dgt, a1, a2, a3, a4, a5, hi0], ?_, ?_, ?_⟩
          · omega
          all_goals simp -implicitDefEqProofs only [go_sem, r0, r8, r9, w1]
        · simp -implicitDefEqProofs only [go_sem, r0, r8, r9, a1, a2, a3, a4, a5, w1, hin]
          exact .same (.refl _) ⟨by simp [nameOK, hb (by simp [chOK, ltr, dgt, a1, a2, a3, a4, a5]), oneOr], rfl⟩
        · simp -implicitDefEqProofs only [go_sem, r0, r8, r9, a1, a2, a3, a4, a5, w1, hin]
          exact .same (.refl _) ⟨by simp [nameOK, hb (by simp [chOK, ltr, dgt, a1, a2, a3, a4, a5]), oneOr], rfl⟩
        · simp -implicitDefEqProofs only [go_sem, r0, r8, r9, a1, a2, a3, a4, a5, w1, hin]
          exact .same (.refl _) ⟨by simp [nameOK, hb (by simp [chOK, ltr, dgt, a1, a2, a3, a4, a5]), oneOr], rfl⟩
    · have hge : i = l.length := by have := of_decide_eq_false e; omega
      subst hge
      rw [List.take_length] at hc
      by_cases h0 : l = []
      · subst h0
        have b0 : ((([] : Txt) == []) = true) := rfl
        simp -implicitDefEqProofs only [go_sem, r0, r8, r9, b0]
        exact .same (.refl _) ⟨rfl, rfl⟩
      · have b0 : (l == []) = false := by simpa using h0
        have hp : 1 ≤ l.length := List.length_pos_iff.2 h0
        simp -implicitDefEqProofs only [go_sem, r0, r8, r9, b0]
        exact .same (.refl _) ⟨by simp [nameOK, hc, oneOr, hp]; omega, rfl⟩
end Go.Proofs.YtdcchpbncckhlaaDoor

set_option linter.unusedSimpArgs false
set_option linter.unusedVariables false
namespace Go.Proofs.YtdcchpbncckhlaaDoor
open Go Go.Ab Go.Bf
def Byt (g : FuncId) (p : UInt8 → Bool) : Prop := ∀ (c : UInt8) (h : Heap), FnOK Tryd.prog g [.v (.int .u8 c.toNat)] h fun r h' => r = .v (.bool (p c)) ∧ h' = h
theorem isDigit_ok : Byt 103 dgt := fun c h => by
  refine FnOK.body hU hm Tryd.func103 rfl (by kernel_rfl) 9 rfl [.tmp 2] rfl (Nat.le_of_ble_eq_true rfl) (fun hwf => ?_)
  cases d1 : decide (48 ≤ (c.toNat : Int)) <;> cases d2 : decide ((c.toNat : Int) ≤ 57)
  all_goals
    simp -implicitDefEqProofs only [go_sem, d1, d2]
    exact .same (.refl _) ⟨by simp only [dgt, d1, d2]; rfl, rfl⟩
theorem isWord_ok : Byt 118 wrd := fun c h => by
  refine FnOK.body hU hm Tryd.func118 rfl (by kernel_rfl) 17 rfl [.tmp 2] rfl (Nat.le_of_ble_eq_true rfl) (fun hwf => ?_)
  cases d1 : decide (97 ≤ (c.toNat : Int)) <;> cases d2 : decide ((c.toNat : Int) ≤ 122) <;> cases d3 : dgt c <;> cases d4 : ((c.toNat : Int) == 95)
  all_goals
    simp -implicitDefEqProofs only [go_sem, d1, d2, d4]
    first
      | exact .same (.refl _) ⟨by simp only [wrd, ltr, d1, d2, d3, d4]; rfl, rfl⟩
      | (refine (isDigit_ok c _).pthen ?_
         simp -implicitDefEqProofs only [go_sem, d1, d2, d3, d4]
         exact .same (.refl _) ⟨by simp only [wrd, ltr, d1, d2, d3, d4]; rfl, rfl⟩)
theorem plain_ok : Byt 120 (fun c => !oddB c) := fun c h => by
  refine FnOK.body hU hm Tryd.func120 rfl (by kernel_rfl) 17 rfl [.tmp 2] rfl (Nat.le_of_ble_eq_true rfl) (fun hwf => ?_)
  cases d1 : decide (32 ≤ (c.toNat : Int)) <;> cases d2 : decide ((c.toNat : Int) ≤ 126) <;> cases d3 : ((c.toNat : Int) == 34) <;> cases d4 : ((c.toNat : Int) == 92)
  all_goals
    simp -implicitDefEqProofs only [go_sem, d1, d2, d3, d4, bne]
    refine .same (.refl _) ⟨?_, rfl⟩
    have e1 : decide ((c.toNat : Int) < 32) = !decide (32 ≤ (c.toNat : Int)) := by
      by_cases h : (32 : Int) ≤ c.toNat
      · simp [h, Int.not_lt.2 h]
      · simp [h, Int.not_le.1 h]
    have e2 : decide (126 < (c.toNat : Int)) = !decide ((c.toNat : Int) ≤ 126) := by
      by_cases h : (c.toNat : Int) ≤ 126
      · simp [h, Int.not_lt.2 h]
      · simp [h, Int.not_le.1 h]
    simp only [oddB, e1, e2, d1, d2, d3, d4]
    rfl
theorem tw_succ (p : UInt8 → Bool) (s : Txt) (i : Nat) (hi : i < s.length) (h : i ≤ (s.takeWhile p).length) (hp : p s[i] = true) : i + 1 ≤ (s.takeWhile p).length := by
  induction s generalizing i with
  | nil => cases hi
  | cons c r ih =>
    cases i with
    | zero => simp only [List.getElem_cons_zero] at hp; simp [hp]
    | succ i =>
      by_cases hc : p c = true
      · simp only [List.takeWhile_cons, hc, if_true, List.length_cons] at h ⊢
        have := ih i (by simpa using hi) (by omega) (by simpa using hp)
        omega
      · simp [hc] at h
theorem tw_at (p : UInt8 → Bool) (s : Txt) (i : Nat) (hi : i < s.length) (h : i ≤ (s.takeWhile p).length) (hp : p s[i] = false) : (s.takeWhile p).length = i := by
  induction s generalizing i with
  | nil => cases hi
  | cons c r ih =>
    cases i with
    | zero => simp only [List.getElem_cons_zero] at hp; simp [hp]
    | succ i =>
      by_cases hc : p c = true
      · simp only [List.takeWhile_cons, hc, if_true, List.length_cons] at h ⊢
        rw [ih i (by simpa using hi) (by omega) (by simpa using hp)]
      · simp [hc] at h
theorem run_ok (g : FuncId) (p : UInt8 → Bool) (hg : Byt g p) (s : Txt) (h : Heap) : FnOK Tryd.prog 117 [.s s, .fn g []] h fun r h' => r = .v (.int .i64 (s.takeWhile p).length) ∧ h' = h := by
  refine FnOK.body hU hm Tryd.func117 rfl (by kernel_rfl) 20 rfl [.tmp 4] rfl (Nat.le_of_ble_eq_true rfl) (fun hwf => ?_)
  have hlen := hwf (.s s) (by simp)
  simp only [wfA, wf1, lim] at hlen
  simp -implicitDefEqProofs only [go_sem]
  refine .intro (fun m ρ h' => h' = h ∧ ∃ i : Nat, i ≤ s.length ∧ m = s.length - i ∧ i ≤ (s.takeWhile p).length ∧ lk ρ 0 = some (.s s) ∧ lk ρ 1 = some (.fn g []) ∧ lk ρ 5 = some (.v (.int .i64 i))) s.length ?_ ?_
  · refine ⟨rfl, 0, by omega, rfl, by omega, ?_, ?_, ?_⟩ <;> simp -implicitDefEqProofs only [go_sem]
  · rintro m ρ h' ⟨rfl, i, hi, rfl, hc, r0, r1, r5⟩
    cases d1 : decide ((i : Int) < (s.length : Int))
    · have hge : i = s.length := by have := of_decide_eq_false d1; omega
      have := takeWhile_le p s
      simp -implicitDefEqProofs only [go_sem, r0, r1, r5, d1]
      exact .same (.refl _) ⟨by simp only [oneOr]; congr 3; omega, rfl⟩
    · have hlt : i < s.length := by have := of_decide_eq_true d1; omega
      have w1 : IntKind.i64.wrap ((i : Int) + 1) = ((i + 1 : Nat) : Int) := by rw [wr64 _ (by omega)]; omega
      simp -implicitDefEqProofs only [go_sem, r0, r1, r5, d1]
      refine .at i hlt ?_
      simp -implicitDefEqProofs only [go_sem, r0, r1, r5, d1, byteA]
      refine (hg s[i] _).pthen ?_
      cases d2 : p s[i]
      · have := tw_at p s i hlt hc d2
        simp -implicitDefEqProofs only [go_sem, r0, r1, r5, d1, d2]
        exact .same (.refl _) ⟨by rw [this]; rfl, rfl⟩
      · simp -implicitDefEqProofs only [go_sem, r0, r1, r5, d1, d2, w1]
        refine ⟨_, ?_, rfl, i + 1, by omega, rfl, tw_succ p s i hlt hc d2, ?_, ?_, ?_⟩
        · omega
        all_goals simp -implicitDefEqProofs only [go_sem, r0, r1, r5, w1]
theorem name_ok' (s : Txt) (h : Heap) : FnOK Tryd.prog 102 [.s s] h fun r h' => r = .s (wordD s) ∧ h' = h := by
  refine FnOK.body hU hm Tryd.func102 rfl (by kernel_rfl) 12 rfl [.tmp 2] rfl (Nat.le_of_ble_eq_true rfl) (fun hwf => ?_)
  simp -implicitDefEqProofs only [go_sem]
  refine (run_ok _ _ isWord_ok s _).pthen ?_
  simp -implicitDefEqProofs only [go_sem]
  refine ⟨by omega, by have := takeWhile_le wrd s; omega, ?_⟩
  simp -implicitDefEqProofs only [go_sem, Option.isSome_none, Option.isSome_some, cutL_ft, Int.toNat_natCast, takeWhile_take]
  refine ⟨by have := takeWhile_le wrd s; omega, ?_⟩
  refine (name_ok _ _).pthen ?_
  cases d1 : nameOK (s.takeWhile wrd)
  · simp -implicitDefEqProofs only [go_sem, d1]
    exact .same (.refl _) ⟨by simp [wordD, d1, oneOr], rfl⟩
  · simp -implicitDefEqProofs only [go_sem, d1]
    exact .same (.refl _) ⟨by simp [wordD, d1, oneOr], rfl⟩
theorem wr8 {x : Int} (h : 0 ≤ x ∧ x < 256) : IntKind.u8.wrap x = x := by
  unfold IntKind.wrap
  simp only [IntKind.signed, IntKind.bits]
  simp
  omega
theorem digit_ok (c : UInt8) (h : Heap) : FnOK Tryd.prog 133 [.v (.int .u8 c.toNat)] h fun r h' => r = .v (.int .i64 (hexI c)) ∧ h' = h := by
  refine FnOK.body hU hm Tryd.func133 rfl (by kernel_rfl) 20 rfl [.tmp 2] rfl (Nat.le_of_ble_eq_true rfl) (fun hwf => ?_)
  have hc := c.toNat_lt
  simp -implicitDefEqProofs only [go_sem]
  refine (isDigit_ok c _).pthen ?_
  cases d1 : dgt c
  case true =>
    have e1 : 48 ≤ (c.toNat : Int) ∧ (c.toNat : Int) ≤ 57 := by simpa [dgt] using d1
    have w1 : IntKind.u8.wrap ((c.toNat : Int) - 48) = (c.toNat : Int) - 48 := wr8 (by omega)
    have w2 : IntKind.i64.wrap ((c.toNat : Int) - 48) = (c.toNat : Int) - 48 := wr64 _ (by omega)
    simp -implicitDefEqProofs only [go_sem, d1, w1, w2]
    exact .same (.refl _) ⟨by simp [hexI, d1, oneOr], rfl⟩
  cases d2 : decide (97 ≤ (c.toNat : Int)) <;> cases d3 : decide ((c.toNat : Int) ≤ 102)
  case true.true =>
    have e2 := of_decide_eq_true d2
    have e3 := of_decide_eq_true d3
    have w1 : IntKind.u8.wrap ((c.toNat : Int) - 97) = (c.toNat : Int) - 97 := wr8 (by omega)
    have w2 : IntKind.i64.wrap ((c.toNat : Int) - 97) = (c.toNat : Int) - 97 := wr64 _ (by omega)
    have w3 : IntKind.i64.wrap ((c.toNat : Int) - 97 + 10) = (c.toNat : Int) - 87 := by rw [wr64 _ (by omega)]; omega
    simp -implicitDefEqProofs only [go_sem, d1, d2, d3, w1, w2, w3]
    exact .same (.refl _) ⟨by simp [hexI, d1, e2, e3, oneOr], rfl⟩
  all_goals
    simp -implicitDefEqProofs only [go_sem, d1, d2, d3]
    simp only [decide_eq_true_eq, decide_eq_false_iff_not] at d2 d3
    refine .same (.refl _) ⟨?_, rfl⟩
    have : ¬ (97 ≤ (c.toNat : Int) ∧ (c.toNat : Int) ≤ 102) := by omega
    simp [hexI, d1, this, oneOr]
theorem hexI_le (c : UInt8) : -1 ≤ hexI c ∧ hexI c ≤ 15 := by
  unfold hexI
  split
  · rename_i h; simp [dgt] at h; omega
  · split <;> omega
theorem u8_ofNat (n : Nat) (h : n < 256) : ((UInt8.ofNat n).toNat : Int) = n := by
  simp; omega
theorem odd_ok (s : Txt) (h : Heap) : FnOK Tryd.prog 121 [.s s] h fun r h' => (∃ x : Int, r = .tup [.v (.int .u8 x), .v (.bool (oddD s).isSome)] ∧ ∀ c, oddD s = some c → x = c.toNat) ∧ h' = h := by
  refine FnOK.body hU hm Tryd.func121 rfl (by kernel_rfl) 38 rfl [.tmp 2, .tmp 3] rfl (Nat.le_of_ble_eq_true rfl) (fun hwf => ?_)
  have hlen := hwf (.s s) (by simp)
  simp only [wfA, wf1, lim] at hlen
  cases d0 : decide ((s.length : Int) < 3)
  case true =>
    have e0 : s.length < 3 := by have := of_decide_eq_true d0; omega
    have : oddD s = none := by
      match s, e0 with
      | [], _ => rfl
      | [_], _ => rfl
      | [_, _], _ => rfl
    simp -implicitDefEqProofs only [go_sem, d0]
    exact .same (.refl _) ⟨⟨0, by rw [this]; rfl, fun c hc => by rw [this] at hc; cases hc⟩, rfl⟩
  have e0 : 3 ≤ s.length := by have := of_decide_eq_false d0; omega
  obtain ⟨b, x, y, t, rfl⟩ : ∃ b x y t, s = b :: x :: y :: t := by
    match s, e0 with
    | b :: x :: y :: t, _ => exact ⟨b, x, y, t, rfl⟩
  simp only [List.length_cons] at d0
  have bad : oddD (b :: x :: y :: t) = none → ∃ z : Int, AV.tup [.v (.int .u8 0), .v (.bool false)] = .tup [.v (.int .u8 z), .v (.bool (oddD (b :: x :: y :: t)).isSome)] ∧ ∀ c, oddD (b :: x :: y :: t) = some c → z = c.toNat :=
    fun e => ⟨0, by rw [e]; rfl, fun c hc => by rw [e] at hc; cases hc⟩
  cases d1 : ((b.toNat : Int) != 92)
  case true =>
    have e1 : b ≠ 92 := by rintro rfl; simp at d1
    simp -implicitDefEqProofs only [go_sem, d0]
    refine .at 0 (by simp) ?_
    simp -implicitDefEqProofs only [go_sem, d0, byteA, List.getElem_cons_zero, d1]
    exact .same (.refl _) ⟨bad (by simp [oddD, e1]), rfl⟩
  have e1 : b = 92 := by
    have : (b.toNat : Int) = 92 := by simpa using d1
    exact UInt8.toNat_inj.1 (by show b.toNat = 92; omega)
  simp -implicitDefEqProofs only [go_sem, d0]
  refine .at 0 (by simp) ?_
  simp -implicitDefEqProofs only [go_sem, d0, byteA, List.getElem_cons_zero, d1]
  refine .at 1 (by simp) ?_
  simp -implicitDefEqProofs only [go_sem, d0, byteA, List.getElem_cons_zero, List.getElem_cons_succ, d1]
  refine (digit_ok x _).pthen ?_
  cases d2 : decide (hexI x < 0)
  case true =>
    have e2 := of_decide_eq_true d2
    simp -implicitDefEqProofs only [go_sem, d0, d1, d2]
    exact .same (.refl _) ⟨bad (by simp [oddD]; intros; omega), rfl⟩
  have e2 : 0 ≤ hexI x := by have := of_decide_eq_false d2; omega
  simp -implicitDefEqProofs only [go_sem, d0, d1, d2]
  refine .at 2 (by simp) ?_
  simp -implicitDefEqProofs only [go_sem, d0, d1, d2, byteA, List.getElem_cons_zero, List.getElem_cons_succ]
  refine (digit_ok y _).pthen ?_
  cases d3 : decide (hexI y < 0)
  case true =>
    have e3 := of_decide_eq_true d3
    simp -implicitDefEqProofs only [go_sem, d0, d1, d2, d3]
    exact .same (.refl _) ⟨bad (by simp [oddD]; intros; omega), rfl⟩
  have e3 : 0 ≤ hexI y := by have := of_decide_eq_false d3; omega
  have hx := hexI_le x
  have hy := hexI_le y
  have w1 : IntKind.i64.wrap (16 * hexI x) = 16 * hexI x := wr64 _ (by omega)
  have w2 : IntKind.i64.wrap (16 * hexI x + hexI y) = 16 * hexI x + hexI y := wr64 _ (by omega)
  have w3 : IntKind.u8.wrap (16 * hexI x + hexI y) = ((UInt8.ofNat (16 * hexI x + hexI y).toNat).toNat : Int) := by
    rw [wr8 (by omega), u8_ofNat _ (by omega)]; omega
  simp -implicitDefEqProofs only [go_sem, d0, d1, d2, d3]
  refine .quiet (by kernel_rfl) ?_
  simp -implicitDefEqProofs only [go_sem]
  refine .at 1 (by simp) ?_
  simp -implicitDefEqProofs only [go_sem, byteA, List.getElem_cons_zero, List.getElem_cons_succ]
  refine ⟨_, digit_ok x _, ?_⟩
  simp -implicitDefEqProofs only [go_sem]
  refine .at 2 (by simp) ?_
  simp -implicitDefEqProofs only [go_sem, byteA, List.getElem_cons_zero, List.getElem_cons_succ]
  refine ⟨_, digit_ok y _, ?_⟩
  simp -implicitDefEqProofs only [go_sem, w1, w2, w3]
  refine (plain_ok _ _).pthen ?_
  simp -implicitDefEqProofs only [go_sem]
  refine .same (.refl _) ⟨⟨((UInt8.ofNat (16 * hexI x + hexI y).toNat).toNat : Int), ?_, fun c hc => ?_⟩, rfl⟩
  · cases d5 : oddB (UInt8.ofNat (16 * hexI x + hexI y).toNat) <;> simp [oddD, e1, e2, e3, d5, oneOr]
  · simp only [oddD] at hc
    split at hc
    · cases hc; rfl
    · cases hc
end Go.Proofs.YtdcchpbncckhlaaDoor
