/- The law ParseCut: pack 3 of its texts. -/
import Derived.OpenShut
import Derived.Below
import Derived.Lib.ItoaLen
import Derived.Lib.Join
import Derived.Lib.Small
import Derived.Lib.AtoiAll
import Derived.Lib.ItoaMem
import Derived.Test.YtdcchpbncckhlaaDoorPk1
import Derived.Test.YtdcchpbncckhlaaDoorPk2
set_option linter.unusedSimpArgs false
set_option linter.unusedVariables false
namespace Go.Ab
open Go
section
variable {P : Program} {U : TypeId → TI}
inductive Dat (U : TypeId → TI) : TypeId → AV → Prop
  | bool {t : TypeId} (b : Bool) (h : (U t).k = .bool) : Dat U t (.v (.bool b))
  | int {t : TypeId} {k : IntKind} (n : Int) (h : (U t).k = .int k) (hw : (Lit.int k n).wf = true) : Dat U t (.v (.int k n))
  | str {t : TypeId} (l : List UInt8) (h : (U t).k = .str) (hl : l.length ≤ maxLen) : Dat U t (.s l)
  | slice {t e : TypeId} (xs : List AV) (h : (U t).k = .slice e) (hx : ∀ x ∈ xs, Dat U e x) (hl : xs.length ≤ maxLen) : Dat U t (.sl xs .no)
  | strct {t : TypeId} {fs : List (Nat × TypeId)} (ys : List AV) (h : (U t).k = .strct fs) (hn : ys.length = fs.length) (hx : ∀ i (h1 : i < fs.length) (h2 : i < ys.length), Dat U fs[i].2 ys[i]) : Dat U t (.agg (ys.map AV.cells).flatten)
theorem Dat.int_inv {t : TypeId} {x : AV} {k : IntKind} (h : Dat U t x) (hk : (U t).k = .int k) : ∃ n, x = .v (.int k n) ∧ (Lit.int k n).wf = true := by
  cases h with
  | int n h hw => rw [hk] at h; cases h; exact ⟨n, rfl, hw⟩
  | _ => simp_all
theorem Dat.str_inv {t : TypeId} {x : AV} (h : Dat U t x) (hk : (U t).k = .str) : ∃ l, x = .s l ∧ l.length ≤ maxLen := by
  cases h with
  | str l h hl => exact ⟨l, rfl, hl⟩
  | _ => simp_all
theorem Dat.slice_inv {t e : TypeId} {x : AV} (h : Dat U t x) (hk : (U t).k = .slice e) : ∃ xs, x = .sl xs .no ∧ xs.length ≤ maxLen ∧ ∀ y ∈ xs, Dat U e y := by
  cases h with
  | slice xs h hx hl => rw [hk] at h; cases h; exact ⟨xs, rfl, hl, hx⟩
  | _ => simp_all
theorem wf64 {n : Int} (h : (Lit.int .i64 n).wf = true) : -9223372036854775808 ≤ n ∧ n ≤ 9223372036854775807 := by
  simpa [Lit.wf, IntKind.min, IntKind.max, IntKind.signed, IntKind.bits] using h
theorem wf8 {n : Int} (h : (Lit.int .u8 n).wf = true) : ∃ c : UInt8, n = c.toNat := by
  have hr : 0 ≤ n ∧ n ≤ 255 := by simpa [Lit.wf, IntKind.min, IntKind.max, IntKind.signed, IntKind.bits] using h
  refine ⟨UInt8.ofNat n.toNat, ?_⟩
  rw [UInt8.toNat_ofNat']
  omega
theorem Dat.i64 {t : TypeId} {x : AV} (h : Dat U t x) (hk : (U t).k = .int .i64) : ∃ n, x = iA n ∧ -9223372036854775808 ≤ n ∧ n ≤ 9223372036854775807 := by
  obtain ⟨n, rfl, hw⟩ := h.int_inv hk
  exact ⟨n, rfl, wf64 hw⟩
theorem Dat.u8 {t : TypeId} {x : AV} (h : Dat U t x) (hk : (U t).k = .int .u8) : ∃ c : UInt8, x = byteA c := by
  obtain ⟨n, rfl, hw⟩ := h.int_inv hk
  obtain ⟨c, rfl⟩ := wf8 hw
  exact ⟨c, rfl⟩
theorem Dat.list {t e : TypeId} {x : AV} {β : Type} {f : β → AV} {p : β → Prop} (h : Dat U t x) (hk : (U t).k = .slice e) (he : ∀ y, Dat U e y → ∃ b, y = f b ∧ p b) : ∃ bs : List β, x = .sl (bs.map f) .no ∧ bs.length ≤ maxLen ∧ ∀ b ∈ bs, p b := by
  obtain ⟨xs, rfl, hl, hx⟩ := h.slice_inv hk
  obtain ⟨bs, rfl, hb⟩ := choose_map xs fun y hy => he y (hx y hy)
  exact ⟨bs, rfl, by simpa using hl, hb⟩
theorem Dat.bytes {t e : TypeId} {x : AV} (h : Dat U t x) (hk : (U t).k = .slice e) (he : (U e).k = .int .u8) : ∃ l : List UInt8, x = .sl (l.map byteA) .no ∧ l.length ≤ maxLen := by
  obtain ⟨l, h1, h2, _⟩ := h.list (f := byteA) (p := fun _ => True) hk fun y hy => by obtain ⟨c, hc⟩ := hy.u8 he; exact ⟨c, hc, trivial⟩
  exact ⟨l, h1, h2⟩
def RL (c : Cx) : List AV → List Value → Prop
  | [], vs => vs = []
  | x :: xs, [] => False
  | x :: xs, v :: vs => (Rep c x v ∧ v.oneCell' = true) ∧ RL c xs vs
theorem RL.len {c : Cx} : ∀ {xs : List AV} {vs : List Value}, RL c xs vs → xs.length = vs.length
  | [], vs, h => by rw [h]; rfl
  | x :: xs, [], h => h.elim
  | x :: xs, v :: vs, h => by simp [RL.len h.2]
theorem RL.get {c : Cx} : ∀ {xs : List AV} {vs : List Value}, RL c xs vs → ∀ i (h : i < xs.length), Rep c xs[i] (vs.getD i undef) ∧ (vs.getD i undef).oneCell' = true
  | [], vs, h, i, hi => by cases hi
  | x :: xs, [], h, i, hi => h.elim
  | x :: xs, v :: vs, h, 0, hi => h.1
  | x :: xs, v :: vs, h, i + 1, hi => by simpa using RL.get h.2 i (by simpa using hi)
theorem RL.append {c : Cx} : ∀ {xs ys : List AV} {vs us : List Value}, RL c xs vs → RL c ys us → RL c (xs ++ ys) (vs ++ us)
  | [], ys, vs, us, h, k => by rw [h]; exact k
  | x :: xs, ys, [], us, h, k => h.elim
  | x :: xs, ys, v :: vs, us, h, k => ⟨h.1, RL.append h.2 k⟩
theorem RL.one {c : Cx} {x : AV} {v : Value} (h : Rep c x v) (h1 : v.oneCell' = true) : RL c [x] [v] := ⟨⟨h, h1⟩, rfl⟩
def tileB (U : TypeId → TI) (n : Nat) : List (Nat × TypeId) → Nat → Bool
  | [], o => o == n
  | f :: fs, o => f.1 == o && tileB U n fs (o + (U f.2).sz)
def plainB (U : TypeId → TI) (L : List TypeId) : Bool := L.all fun t => (U t).sz != 0 && match (U t).k with
  | .bool | .int _ | .str => (U t).sz == 1
  | .slice e => (U t).sz == 1 && L.contains e
  | .strct fs => fs.all (fun f => L.contains f.2) && tileB U (U t).sz fs 0
  | _ => false
theorem cellsOf_of (hU : ∀ t, AgreeT P U t) {t : TypeId} (hz : (U t).sz ≠ 0) : P.cellsOf t = (U t).sz := by
  obtain ⟨i, h1, h2, _⟩ := (hU t).info hz
  simp [Program.cellsOf, h1, h2]
variable {H : Type} {enc : TypeId × Value → H} {w : World}
theorem parts_of (hU : ∀ t, AgreeT P U t) {L : List TypeId} {m : Nat} {sp : Nat → Bool} {held : Bool} (n : Nat) (cs : List Value) (hn : cs.length = n)
    (ih : ∀ (t : TypeId) (cs : List Value) r, t ∈ L → DataW.trod enc P w 0 sp held m t cs = some r → ∃ x, Dat U t x ∧ RL (cx0 w) x.cells cs) (hz : ∀ t ∈ L, (U t).sz ≠ 0) :
    ∀ (fs : List (Nat × TypeId)) (gs : List Field) (o : Nat), gs.map (fun f => (f.offset, f.type)) = fs → (∀ f ∈ fs, f.2 ∈ L) → tileB U n fs o = true →
      (∀ f ∈ gs, ∃ r, DataW.trod enc P w 0 sp held m f.type ((cs.drop f.offset).take (P.cellsOf f.type)) = some r) →
      ∃ ys : List AV, ys.length = fs.length ∧ (∀ i (h1 : i < fs.length) (h2 : i < ys.length), Dat U fs[i].2 ys[i]) ∧ RL (cx0 w) (ys.map AV.cells).flatten (cs.drop o) := by
  intro fs
  induction fs with
  | nil =>
    intro gs o hg hL ht hr
    refine ⟨[], rfl, fun i h1 => (by cases h1), ?_⟩
    have : o = n := by simpa [tileB] using ht
    show cs.drop o = []
    rw [this, ← hn]; simp
  | cons f fs ihf =>
    intro gs o hg hL ht hr
    cases gs with
    | nil => cases hg
    | cons g gs =>
      simp only [List.map_cons, List.cons.injEq] at hg
      obtain ⟨hg1, hg2⟩ := hg
      simp only [tileB, Bool.and_eq_true, beq_iff_eq] at ht
      obtain ⟨ht1, ht2⟩ := ht
      have hfL := hL f (by simp)
      obtain ⟨ys, y1, y2, y3⟩ := ihf gs (o + (U f.2).sz) hg2 (fun f' hf' => hL f' (by simp [hf'])) ht2 (fun g' hg' => hr g' (by simp [hg']))
      obtain ⟨r, hr0⟩ := hr g (by simp)
      have e1 : g.type = f.2 := by rw [← hg1]
      have e2 : g.offset = o := by rw [← ht1, ← hg1]
      rw [e1, e2, cellsOf_of hU (hz _ hfL)] at hr0
      obtain ⟨x, x1, x2⟩ := ih _ _ _ hfL hr0
      refine ⟨x :: ys, by simp [y1], fun i h1 h2 => ?_, ?_⟩
      · cases i with
        | zero => exact x1
        | succ i => exact y2 i (by simpa using h1) (by simpa using h2)
      · have : cs.drop o = (cs.drop o).take (U f.2).sz ++ cs.drop (o + (U f.2).sz) := by
          rw [← List.drop_drop, List.take_append_drop]
        rw [this]
        exact x2.append y3
theorem dat_of_trod (hU : ∀ t, AgreeT P U t) (L : List TypeId) (hL : plainB U L = true) {sp : Nat → Bool} {held : Bool} (hsp : ∀ b, sp b = true) :
    ∀ (fuel : Nat) (t : TypeId) (cs : List Value) (r : DataW H × List MemPlace), t ∈ L → DataW.trod enc P w 0 sp held fuel t cs = some r → ∃ x, Dat U t x ∧ RL (cx0 w) x.cells cs := by
  have hall : ∀ t ∈ L, (U t).sz ≠ 0 := fun t ht => by
    have := List.all_eq_true.1 hL t ht
    simp only [Bool.and_eq_true, bne_iff_ne] at this
    exact this.1
  intro fuel
  induction fuel with
  | zero => intro t cs r _ h; simp [DataW.trod] at h
  | succ m ih =>
    intro t cs r ht h
    have hp := List.all_eq_true.1 hL t ht
    simp only [Bool.and_eq_true, bne_iff_ne] at hp
    obtain ⟨hz, hp⟩ := hp
    have hd := (hU t).desc
    unfold DataW.trod at h
    cases hk : (U t).k with
    | bool =>
      rw [hk] at hd
      simp only at hd
      rw [hd] at h
      split at h <;> simp_all
      rename_i b
      exact ⟨_, .bool b hk, .one (.v _) rfl⟩
    | int k =>
      rw [hk] at hd
      simp only at hd
      rw [hd] at h
      split at h <;> simp_all
      obtain ⟨⟨rfl, hw⟩, _⟩ := h
      exact ⟨_, .int _ hk hw, .one (.v _) rfl⟩
    | str =>
      rw [hk] at hd
      simp only at hd
      rw [hd] at h
      split at h <;> simp_all
      rename_i s
      refine ⟨_, .str s.data.toList hk (by simpa using h.1), .one ?_ rfl⟩
      have := Rep.s (c := cx0 w) s.data.toList (by have := h.1; unfold maxLen at this; simp only [lim]; simp; omega)
      simpa using this
    | slice e =>
      rw [hk] at hd hp
      simp only at hd
      simp only [Bool.and_eq_true] at hp
      have he : e ∈ L := by simpa using hp.2
      have hez := hall e he
      rw [hd] at h
      split at h <;> try (simp_all; done)
      · rename_i e' heq
        refine ⟨_, .slice [] hk (fun x hx => by cases hx) (by simp), .one ?_ rfl⟩
        exact .sl [] .no none 0 0 (fun _ _ => undef) (Nat.le_refl _) (by decide) (fun _ => rfl) (fun q h _ => by cases h) (fun i h => by cases h) (fun q h => by cases h) (fun i h => by cases h) (fun i j h => by cases h) trivial
      · rename_i e' a len cap heq
        obtain rfl : e = e' := by simpa using heq
        split at h
        · rename_i hc
          obtain ⟨hc1, hc2, hc3⟩ := hc
          simp only [hsp, if_true] at h
          obtain ⟨els, hels, h⟩ := Option.bind_eq_some_iff.1 h
          obtain ⟨⟨rst, hrst, _⟩⟩ : Nonempty { rst // (List.range (cap - len)).mapM (fun j => ((w.cells? 0 (a.add ((len + j) * P.cellsOf e)) (P.cellsOf e)).bind (DataW.trod enc P w 0 sp held m e))) = some rst ∧ True } := by
            cases hq : (List.range (cap - len)).mapM (fun j => ((w.cells? 0 (a.add ((len + j) * P.cellsOf e)) (P.cellsOf e)).bind (DataW.trod enc P w 0 sp held m e))) with
            | none => rw [hq] at h; simp at h
            | some rst => exact ⟨⟨rst, rfl, trivial⟩⟩
          rw [cellsOf_of hU hez] at hels hrst
          have cell : ∀ j, j < (U e).sz → ∀ (b : Addr) vs, w.cells? 0 b (U e).sz = some vs → w.cell? (b.add j) = vs[j]? ∧ vs.length = (U e).sz := fun j hj b vs hb => by
            simp only [World.cells?, Nat.zero_le, if_true] at hb
            have := mapM_some_get hb j j (by simp [hj])
            exact ⟨this, by simpa using mapM_some_length hb⟩
          have el : ∀ i, i < len → ∃ vs x, w.cells? 0 (a.add (i * (U e).sz)) (U e).sz = some vs ∧ Dat U e x ∧ RL (cx0 w) x.cells vs := fun i hi => by
            have := mapM_some_get hels i i (by simp [hi])
            have hi2 : i < els.length := by have := mapM_some_length hels; simp at this; omega
            rw [List.getElem?_eq_getElem hi2] at this
            obtain ⟨vs, v1, v2⟩ := Option.bind_eq_some_iff.1 this
            obtain ⟨x, x1, x2⟩ := ih _ _ _ he v2
            exact ⟨vs, x, v1, x1, x2⟩
          have hspot : 0 < cap → a.spot = none ∧ a.block < w.heap.size := fun hcap => by
            have : ∃ b vs, w.cells? 0 b (U e).sz = some vs ∧ b.spot = a.spot ∧ b.block = a.block := by
              by_cases hl : 0 < len
              · obtain ⟨vs, x, v1, _⟩ := el 0 hl
                have a0 : a.add (0 * (U e).sz) = a := by simp [Addr.add]
                exact ⟨_, vs, v1, by rw [a0], by rw [a0]⟩
              · have := mapM_some_get hrst 0 0 (by rw [List.getElem?_eq_getElem (by simp; omega)]; simp)
                have hi2 : 0 < rst.length := by have := mapM_some_length hrst; simp at this; omega
                rw [List.getElem?_eq_getElem hi2] at this
                obtain ⟨vs, v1, v2⟩ := Option.bind_eq_some_iff.1 this
                have a0 : a.add ((len + 0) * (U e).sz) = a := by
                  obtain rfl : len = 0 := by omega
                  simp [Addr.add]
                exact ⟨_, vs, v1, by rw [a0], by rw [a0]⟩
            obtain ⟨b, vs, b1, b2, b3⟩ := this
            obtain ⟨c1, c2⟩ := cell 0 (by omega) b vs b1
            rw [List.getElem?_eq_getElem (by omega)] at c1
            rw [← b2, ← b3]
            unfold World.cell? at c1
            split at c1
            · rename_i hh
              split at c1
              · cases c1
              · rename_i hs
                refine ⟨?_, ?_⟩
                · have : (b.add 0).spot = b.spot := by simp [Addr.add]
                  rw [this] at hs
                  cases hb : b.spot with
                  | none => rfl
                  | some z => rw [hb] at hs; simp at hs
                · exact (Array.getElem?_eq_some_iff.1 hh).1
            · cases c1
          have : ∀ n, n ≤ len → ∃ xs : List AV, xs.length = n ∧ ∀ i (hi : i < xs.length), Dat U e xs[i] ∧ ∃ vs, w.cells? 0 (a.add (i * (U e).sz)) (U e).sz = some vs ∧ RL (cx0 w) xs[i].cells vs := by
            intro n
            induction n with
            | zero => exact fun _ => ⟨[], rfl, fun i hi => by cases hi⟩
            | succ n ihn =>
              intro hn
              obtain ⟨xs, e1, e2⟩ := ihn (by omega)
              obtain ⟨vs, x, v1, v2, v3⟩ := el n (by omega)
              refine ⟨xs ++ [x], by simp [e1], fun i hi => ?_⟩
              by_cases hi' : i < xs.length
              · rw [List.getElem_append_left hi']
                exact e2 i hi'
              · have : i = n := by simp at hi; omega
                subst this
                rw [List.getElem_append_right (by omega)]
                simp only [e1, Nat.sub_self, List.getElem_singleton]
                exact ⟨v2, vs, v1, v3⟩
          obtain ⟨xs, e1, e2⟩ := this len (Nat.le_refl _)
          subst e1
          refine ⟨.sl xs .no, .slice xs hk (fun x hx => ?_) (by omega), .one ?_ rfl⟩
          · obtain ⟨i, hi, rfl⟩ := List.mem_iff_getElem.1 hx
            exact (e2 i hi).1
          · refine .sl xs .no (some a) cap (U e).sz (fun i j => ((w.cells? 0 (a.add (i * (U e).sz)) (U e).sz).getD []).getD j undef) hc2 (by unfold maxLen at hc3; simp only [lim]; omega) (fun hh => by cases hh) (fun q hq hcap => by cases hq; exact hspot hcap)
              (fun i hi => ?_) (fun q hq i j hi hj => ?_) (fun i hi j hj => ?_) (fun i j hi hj => ?_) trivial
            · obtain ⟨_, vs, v1, v2⟩ := e2 i hi
              rw [v2.len]; exact (cell 0 (by omega) _ _ v1).2
            · cases hq
              obtain ⟨_, vs, v1, v2⟩ := e2 i hi
              refine ⟨?_, owned0 w _ _⟩
              obtain ⟨c1, c2⟩ := cell j hj _ _ v1
              rw [v1]
              obtain ⟨hs1, _⟩ := hspot (by omega)
              obtain ⟨ab, ao, az⟩ := a
              simp only at hs1; subst hs1
              rw [add_addr, add_addr] at c1
              simp only [Option.getD_some]
              have hj2 : j < vs.length := by omega
              rw [show vs.getD j undef = vs[j] by simp [hj2]]
              rw [List.getElem?_eq_getElem hj2, Nat.add_assoc] at c1
              exact c1
            · obtain ⟨_, vs, v1, v2⟩ := e2 i hi
              rw [v1]
              exact (v2.get j hj).1
            · obtain ⟨_, vs, v1, v2⟩ := e2 i hi
              rw [v1]
              have := (cell 0 (by omega) _ _ v1).2
              exact (v2.get j (by rw [v2.len]; omega)).2
        · cases h
    | strct fs =>
      rw [hk] at hd hp
      simp only at hd
      simp only [Bool.and_eq_true] at hp
      obtain ⟨gs, hd, hg, _⟩ := hd
      rw [hd] at h
      have hq : cs.length = P.cellsOf t ∧ ∃ xs, (gs.toList.mapM fun f => DataW.trod enc P w 0 sp held m f.type ((cs.drop f.offset).take (P.cellsOf f.type))) = some xs := by
        split at h <;> try (simp_all; done)
        rename_i fs' heq
        obtain rfl : gs = fs' := by simpa using heq
        split at h
        · rename_i hl
          obtain ⟨xs, h1, _⟩ := Option.map_eq_some_iff.1 h
          exact ⟨hl, xs, h1⟩
        · cases h
      obtain ⟨hl, xs, hxs⟩ := hq
      rw [cellsOf_of hU hz] at hl
      obtain ⟨ys, y1, y2, y3⟩ := parts_of hU (U t).sz cs hl ih hall fs gs.toList 0 hg (fun f hf => by have := List.all_eq_true.1 hp.1 f hf; simpa using this) hp.2 (fun f hf => by
        obtain ⟨i, hi, rfl⟩ := List.mem_iff_getElem.1 hf
        have hi2 : i < xs.length := by have := mapM_some_length hxs; omega
        have := mapM_some_get hxs i _ (List.getElem?_eq_getElem hi)
        rw [List.getElem?_eq_getElem hi2] at this
        exact ⟨_, this⟩)
      exact ⟨_, .strct ys hk y1 y2, y3⟩
    | _ => rw [hk] at hp; simp at hp
theorem dat_of_arg (hU : ∀ t, AgreeT P U t) (L : List TypeId) (hL : plainB U L = true) {sp : Nat → Bool} {held : Bool} (hsp : ∀ b, sp b = true) {t : TypeId} {v : Value} {d : DataW H} {p : List MemPlace} (ht : t ∈ L) {base : Nat} {rc : Reach}
    (hv : Value.okWide P w rc base t v) (h : DataW.Trod enc P w 0 sp held t v d p) : ∃ x, Dat U t x ∧ Rep (cx0 w) x v := by
  obtain ⟨fuel, h⟩ := h
  obtain ⟨x, x1, x2⟩ := dat_of_trod hU L hL hsp fuel t _ _ ht h
  refine ⟨x, x1, ?_⟩
  have hd := (hU t).desc
  cases x1 with
  | strct ys hk hn hx =>
    rw [hk] at hd
    obtain ⟨gs, hd, _⟩ := hd
    unfold Value.okWide at hv
    rw [hd] at hv
    obtain ⟨cs, rfl, _⟩ := hv
    have hl := x2.len
    simp only [AV.cells, Value.cells] at hl x2
    refine .agg _ _ (by simpa using hl.symm) (fun i hi => ?_) (fun i hi => ?_)
    · have := (x2.get i hi).1
      simpa using this
    · have := (x2.get i hi).2
      simpa using this
  | bool b hk =>
    cases v <;> first | exact x2.1.1 | skip
    rename_i cs
    rw [hk] at hd
    unfold Value.okWide at hv
    rw [hd] at hv
    simp [Cell.okWide, Cell.ok, hd] at hv
  | int n hk hw =>
    cases v <;> first | exact x2.1.1 | skip
    rename_i cs
    rw [hk] at hd
    unfold Value.okWide at hv
    rw [hd] at hv
    simp [Cell.okWide, Cell.ok, hd] at hv
  | str l hk hl =>
    cases v <;> first | exact x2.1.1 | skip
    rename_i cs
    rw [hk] at hd
    unfold Value.okWide at hv
    rw [hd] at hv
    simp [Cell.okWide, Cell.ok, hd] at hv
  | slice xs hk hx hl =>
    cases v <;> first | exact x2.1.1 | skip
    rename_i cs
    rw [hk] at hd
    unfold Value.okWide at hv
    rw [hd] at hv
    simp [Cell.okWide, Cell.ok, hd] at hv
end
end Go.Ab

set_option linter.unusedSimpArgs false
set_option linter.unusedVariables false
namespace Go.Ab
open Go
section
variable {P : Program} {U : TypeId → TI} {n : Nat} {ρ : Env} {h h' h2 : Heap} {e tb : TypeId} {y v : AV} {xs zs : List AV} {l : List UInt8} {Q : AV → Heap → Prop}
def hm1 (id : Nat) (k : Blk) : Heap := upd (fun _ => none) id (some k)
@[go_sem] theorem hm1_same (id : Nat) (k : Blk) : hm1 id k id = some k := upd_same ..
theorem Sub.hm1 {id : Nat} {k : Blk} (h1 : h id = some k) : Sub (hm1 id k) h := fun j b hj => by
  unfold Ab.hm1 at hj
  by_cases e : j = id
  · subst e; rw [upd_same] at hj; rw [h1, hj]
  · rw [upd_other _ _ e] at hj; cases hj
theorem KeepObj.new {id : Nat} {k : Option Blk} (hid : h id = none) : KeepObj h (upd h id k) := ((Sub.refl h).new hid k).keepObj
theorem ApNew.acc (hk : ∀ y' h'', Acc U e h h'' y' (xs ++ zs) → KeepObj h h'' → Q y' h'') : ApNew U h xs zs e Q :=
  .own fun id hid => hk _ _ ⟨(Sub.refl h).new hid _, .inr ⟨id, hid, rfl, by rw [upd_same, List.length_append]⟩⟩ (.new hid)
theorem ApFull.acc (hk : ∀ y' h'', Acc U e h h'' y' (xs ++ zs) → KeepObj h h'' → Q y' h'') : ApFull U h xs zs e Q :=
  ⟨fun hn => by subst hn; exact hk _ _ (by rw [List.append_nil]; exact .full (.refl h)) (.refl h), fun _ => .acc hk⟩
theorem Acc.bytes (ha : Acc U e h h' y (l.map byteA)) : Bytes tb h2 y l := by
  obtain ⟨q, rfl⟩ := ha.row
  exact .sl _ _
end
end Go.Ab

set_option linter.unusedSimpArgs false
set_option linter.unusedVariables false
namespace Go.Ab
open Go
section
variable {P : Program} {U : TypeId → TI} {n : Nat} {ρ : Env} {h h' : Heap} {tb : TypeId} {y : AV} {l : List UInt8}
theorem Bytes.from (hb : Bytes tb h y l) {lo : Operand} {m : Int} {x : IntKind} {K : AV → Prop} (j : Nat) (hm : ev ρ lo = some (.v (.int x m))) (hj : m = j) (hl : j ≤ l.length) (hz : (U tb).sz = 1) (hk : ∀ z, Bytes tb h z (l.drop j) → K z) :
    sliceK U ρ y (some lo) none none K (.slice tb) := by
  subst hj
  rcases hb with ⟨q, rfl⟩ | ⟨id, off, cs, rfl, h1, h2, h3⟩
  · rw [sliceK_from, hm]
    refine ⟨by rw [hz]; decide, by rw [hz, Sized_bytes]; trivial, ?_⟩
    simp only [bindO_some, intA_eq, Int.toNat_natCast, KV_eq]
    refine ⟨by omega, by simpa using hl, ?_⟩
    rw [← List.map_drop]
    exact hk _ (.sl _ _)
  · rw [sliceK_oa]
    refine ⟨by rw [hz]; decide, fun _ => hz, ?_⟩
    simp only [optA_none, optA_some, hm, bindO_some, intA_eq]
    refine ⟨by omega, by omega, by omega, ?_⟩
    simp only [Int.toNat_natCast, hz, Nat.mul_one]
    have e : (l.drop j).length = l.length - j := by simp
    have := hk (.oa id (off + j) (l.drop j).length) (.oa h1 (by omega) (by
      rw [e, List.map_drop, ← h3, ← List.drop_drop, List.drop_take]))
    rwa [e] at this
theorem Bytes.cut (hb : Bytes tb h y l) {lo hi : Operand} {m m2 : Int} {x x2 : IntKind} {K : AV → Prop} (j k : Nat) (hm : ev ρ lo = some (.v (.int x m))) (hj : m = j) (hm2 : ev ρ hi = some (.v (.int x2 m2))) (hk2 : m2 = k) (hjk : j ≤ k) (hl : k ≤ l.length) (hz : (U tb).sz = 1)
    (hk : ∀ z, Bytes tb h z ((l.drop j).take (k - j)) → K z) : sliceK U ρ y (some lo) (some hi) none K (.slice tb) := by
  subst hj; subst hk2
  rcases hb with ⟨q, rfl⟩ | ⟨id, off, cs, rfl, h1, h2, h3⟩
  · rw [sliceK_ft, hm]
    refine ⟨by rw [hz]; decide, by rw [hz, Sized_bytes]; trivial, ?_⟩
    simp only [bindO_some, intA_eq, hm2, Int.toNat_natCast, KV_eq]
    refine ⟨by omega, by omega, by simpa using hl, ?_⟩
    rw [← List.map_drop, ← List.map_take]
    exact hk _ (.sl _ _)
  · rw [sliceK_oa]
    refine ⟨by rw [hz]; decide, fun _ => hz, ?_⟩
    simp only [optA_some, hm, bindO_some, intA_eq, hm2]
    refine ⟨by omega, by omega, by omega, ?_⟩
    simp only [Int.toNat_natCast, hz, Nat.mul_one]
    have e : ((l.drop j).take (k - j)).length = k - j := by simp; omega
    have := hk (.oa id (off + j) ((l.drop j).take (k - j)).length) (.oa h1 (by omega) (by
      rw [e, List.map_take, List.map_drop, ← h3, ← List.drop_drop, List.drop_take, List.take_take]
      congr 1; omega))
    rwa [e] at this
end
theorem wrapU (k : IntKind) (n : Nat) (hk : k.signed = false) (hn : n < 2 ^ k.bits) : k.wrap (n : Int) = n := by
  cases k <;> simp [IntKind.signed] at hk <;> simp [IntKind.wrap, IntKind.signed, IntKind.bits] at hn ⊢ <;> omega
theorem w32 (n : Nat) (hn : n < 4294967296) : IntKind.u32.wrap (n : Int) = n := wrapU .u32 n rfl (by simpa [IntKind.bits] using hn)
theorem w8 (n : Nat) : IntKind.u8.wrap (n : Int) = (UInt8.ofNat n).toNat := by
  rw [UInt8.toNat_ofNat']
  simp [IntKind.wrap, IntKind.signed, IntKind.bits]
theorem ofInt_nat (w n : Nat) : BitVec.ofInt w (n : Int) = BitVec.ofNat w n := BitVec.ofInt_natCast ..
theorem xor32 (x y : BitVec 32) : IntKind.u32.wrap (((BitVec.ofInt IntKind.u32.bits (x.toNat : Int) ^^^ BitVec.ofInt IntKind.u32.bits (y.toNat : Int)).toNat : Nat) : Int) = ((x ^^^ y).toNat : Int) := by
  have e : ∀ z : BitVec 32, BitVec.ofInt IntKind.u32.bits (z.toNat : Int) = z := fun z => by
    show BitVec.ofInt 32 (z.toNat : Int) = z
    rw [ofInt_nat]; simp
  rw [e, e]
  exact w32 _ (x ^^^ y).isLt
theorem xor32T (x : BitVec 32) : IntKind.u32.wrap (((BitVec.ofInt IntKind.u32.bits (x.toNat : Int) ^^^ BitVec.ofInt IntKind.u32.bits (3988292384 : Int)).toNat : Nat) : Int) = ((x ^^^ 0xedb88320#32).toNat : Int) := xor32 x 0xedb88320#32
theorem not32 (x : BitVec 32) : IntKind.u32.wrap (((BitVec.ofInt IntKind.u32.bits (if IntKind.u32.signed = true then -1 else IntKind.u32.max) ^^^ BitVec.ofInt IntKind.u32.bits (x.toNat : Int)).toNat : Nat) : Int) = ((~~~ x).toNat : Int) := by
  have := xor32 (BitVec.allOnes 32) x
  have e : (BitVec.allOnes 32 ^^^ x) = ~~~ x := by
    apply BitVec.eq_of_getLsbD_eq
    intro i hi
    rw [BitVec.getLsbD_xor, BitVec.getLsbD_allOnes, BitVec.getLsbD_not]
    simp [hi]
  rw [e] at this
  exact this
theorem and32 (x : BitVec 32) : IntKind.u32.wrap (((BitVec.ofInt IntKind.u32.bits (x.toNat : Int) &&& BitVec.ofInt IntKind.u32.bits (1 : Int)).toNat : Nat) : Int) = ((x &&& 1#32).toNat : Int) := by
  have e : BitVec.ofInt IntKind.u32.bits (x.toNat : Int) = x := by
    show BitVec.ofInt 32 (x.toNat : Int) = x
    rw [ofInt_nat]; simp
  rw [e]
  exact w32 _ (x &&& 1#32).isLt
theorem shr32 (x : BitVec 32) : (x.toNat : Int).fdiv (2 ^ (min (1 : Int).toNat IntKind.u32.bits)) = ((x >>> 1).toNat : Int) := by
  show (x.toNat : Int).fdiv (2 ^ 1) = _
  rw [Int.fdiv_eq_ediv_of_nonneg _ (by decide)]
  simp [Nat.shiftRight_eq_div_pow]
section
variable {U : TypeId → TI} {ty : TypeId} {K : AV → Prop}
@[go_sem high] theorem bx32 (x y : BitVec 32) : binA U .xor ty (.v (.int .u32 (x.toNat : Int))) (.v (.int .u32 (y.toNat : Int))) K = K (.v (.int .u32 ((x ^^^ y).toNat : Int))) := by rw [b_xor, xor32]
@[go_sem high] theorem bx32T (x : BitVec 32) : binA U .xor ty (.v (.int .u32 (x.toNat : Int))) (.v (.int .u32 3988292384)) K = K (.v (.int .u32 ((x ^^^ 0xedb88320#32).toNat : Int))) := by rw [b_xor, xor32T]
@[go_sem high] theorem band32 (x : BitVec 32) : binA U .and ty (.v (.int .u32 (x.toNat : Int))) (.v (.int .u32 1)) K = K (.v (.int .u32 ((x &&& 1#32).toNat : Int))) := by rw [b_and, and32]
@[go_sem high] theorem bshr32 (x : BitVec 32) (kk : IntKind) : binA U .shr ty (.v (.int .u32 (x.toNat : Int))) (.v (.int kk 1)) K = K (.v (.int .u32 ((x >>> 1).toNat : Int))) := by rw [b_shr, shr32]; simp
@[go_sem high] theorem unot32 (x : BitVec 32) : unA .xor (.v (.int .u32 (x.toNat : Int))) K = K (.v (.int .u32 ((~~~ x).toNat : Int))) := by rw [unA_xor, not32]
end
end Go.Ab

set_option linter.unusedSimpArgs false
set_option linter.unusedVariables false
namespace Go.Ab
open Go
section
variable {P : Program} {U : TypeId → TI} {n : Nat} {ρ : Env} {h0 h h' : Heap} {tb : TypeId} {y v : AV} {l m : List UInt8} {Q : AV → Heap → Prop}
def Wr (tb : TypeId) (h0 h : Heap) (y : AV) (l : List UInt8) : Prop :=
  Sub h0 h ∧ ((l = [] ∧ y = .sl [] .full) ∨ ∃ id cs, h0 id = none ∧ y = .oa id 0 l.length ∧ h id = some (.obj cs tb) ∧ l.length ≤ cs.length ∧ cs.take l.length = l.map byteA)
theorem Wr.bytes (hw : Wr tb h0 h y l) : Bytes tb h y l := by
  obtain ⟨_, ⟨rfl, rfl⟩ | ⟨id, cs, _, rfl, h1, h2, h3⟩⟩ := hw
  · exact .nil _
  · exact .oa h1 (by omega) (by simpa using h3)
theorem Wr.nil (hs : Sub h0 h) : Wr tb h0 h (.sl [] .full) [] := ⟨hs, .inl ⟨rfl, rfl⟩⟩
theorem Wr.sub (hw : Wr tb h0 h y l) (hs : Sub h h') : Wr tb h0 h' y l := by
  obtain ⟨h1, hw | ⟨id, cs, a, e, b, c, d⟩⟩ := hw
  · exact ⟨h1.trans hs, .inl hw⟩
  · exact ⟨h1.trans hs, .inr ⟨id, cs, a, e, hs _ _ b, c, d⟩⟩
theorem Wr.app (hw : Wr tb h0 h y l) (hz : (U tb).sz = 1) (hb : (U tb).bytes = 1) (hf : (U tb).zero = byteA 0) (hsrc : ∀ k : List AV → Prop, k (m.map byteA) → srcA U tb h v k)
    (hlen : l.length + m.length ≤ 140737488355328) (hk : ∀ y' h', Wr tb h0 h' y' (l ++ m) → Q y' h') : apK U h y v Q (.slice tb) := by
  have hs := hw.1
  have one : Sized (U tb).sz (m.map byteA) := by rw [hz, Sized_bytes]; trivial
  obtain ⟨_, ⟨rfl, rfl⟩ | ⟨id, cs, h1, rfl, h2, h3, h4⟩⟩ := hw
  · refine (apK_full ..).mpr ⟨by rw [hz]; decide, by rw [hb]; decide, hsrc _ ⟨by simp [Sized], one, by rw [hb]; simpa using hlen, fun hn => ?_, fun hn => ?_⟩⟩
    · have : m = [] := by simpa using hn
      subst this
      exact hk _ _ (.nil hs)
    · refine .oa hz (by rw [hf]; simp [fit, byteA, Value.oneCell']) (by rw [hf]; rfl) (noAgg_bytes m) fun id k hid => ?_
      refine hk _ _ ⟨hs.new hid _, .inr ⟨id, _, hs.none hid, ?_, upd_same .., ?_, ?_⟩⟩
      · simp
      · simp
      · simp [List.take_append_of_le_length]
  · refine ⟨by rw [hz]; decide, by rw [hb]; decide, hz, hsrc _ ⟨by rw [← hz]; exact one, noAgg_bytes m, by rw [hb]; simpa using hlen, ?_⟩⟩
    rw [h2]
    refine ⟨by omega, ?_, by rw [hf]; simp [fit, byteA, Value.oneCell'], by rw [hf]; rfl, fun hle => ?_, fun id' k hid => ?_⟩
    · rw [List.drop_zero, h4]; exact noAgg_bytes l
    · rw [List.length_map] at hle ⊢
      have hsub : Sub h0 (upd h id (some (.obj (over cs (0 + l.length) (m.map byteA)) tb))) := fun j b hj => by
        by_cases e : j = id
        · subst e; rw [h1] at hj; cases hj
        · rw [upd_other _ _ e]; exact hs _ _ hj
      have ho : (over cs (0 + l.length) (m.map byteA)).length = cs.length := over_length (by simpa using hle)
      refine hk _ _ ⟨hsub, .inr ⟨id, _, h1, by rw [List.length_append], upd_same .., by rw [ho, List.length_append]; omega, ?_⟩⟩
      rw [over, Nat.zero_add, h4, List.map_append, List.length_append, List.take_append_of_le_length (by simp), ← List.map_append]
      exact List.take_of_length_le (by simp)
    · rw [List.length_map]
      refine hk _ _ ⟨hs.new hid _, .inr ⟨id', _, hs.none hid, by rw [List.length_append], upd_same .., ?_, ?_⟩⟩
      · rw [List.drop_zero, h4]; simp
      · rw [List.drop_zero, h4, ← List.map_append, List.take_append_of_le_length (by simp)]
        exact List.take_of_length_le (by simp)
theorem Wr.put (hw : Wr tb h0 h y l) (hz : (U tb).sz = 1) (j : Nat) (hj : j < l.length) {K : AV → Prop} {x : IntKind} (hk : ∀ id cs, y = .oa id 0 l.length → h0 id = none → h id = some (.obj cs tb) → l.length ≤ cs.length → cs.take l.length = l.map byteA → K (.ptr id j)) : iaddrK U y (.v (.int x (j : Nat))) K (.slice tb) := by
  obtain ⟨hs, ⟨rfl, rfl⟩ | ⟨id, cs, h1, rfl, h2, h3, h4⟩⟩ := hw
  · cases hj
  · refine (iaddrK_oa ..).mpr ⟨by rw [hz]; decide, by omega, by omega, ?_⟩
    rw [hz, Nat.zero_add, Nat.mul_one]
    exact hk id cs rfl h1 h2 h3 h4
end
end Go.Ab

set_option linter.unusedSimpArgs false
set_option linter.unusedVariables false
namespace Go.Ab
open Go
section
variable {U : TypeId → TI} {ty : TypeId} {K : AV → Prop}
end
end Go.Ab

set_option linter.unusedSimpArgs false
set_option linter.unusedVariables false
namespace Go.Ab
open Go
section
variable {P : Program} {U : TypeId → TI} {n : Nat} {ρ : Env} {h : Heap}
def litC (U : TypeId → TI) (n : Nat) (ρ : Env) (o o' : Oper) (K : Env → Prop) : Prop := match o.dst, o.op, o'.op with
  | some d, .buildSlice ty len parts, .convert s s' (.tmp t) => o.guard = none ∧ o'.guard = none ∧ s = ty ∧ s' = ty ∧ t = d ∧ d < n ∧ dstOK n o'.dst = true ∧ match (U ty).k with
    | .slice e => (U e).k = .int .u8 ∧ (U e).sz = 1 ∧ 0 < len ∧ len ≤ 4096 ∧ parts.toList.map (·.1) = List.range len ∧ withvs ρ (parts.toList.map (·.2)) fun xs => fits 1 xs ∧ K (put (put ρ (some d) (.sl xs .full)) o'.dst (.sl xs .full))
    | _ => False
  | _, _, _ => False
def vcOpsC (P : Program) (U : TypeId → TI) (n : Nat) (all : List Oper) : List Bool → List Oper → Env → Heap → (Env → Heap → Prop) → Prop
  | true :: bs, o :: o' :: r, ρ, h, K => litC U n ρ o o' fun ρ => vcOpsC P U n all bs r ρ h K
  | false :: bs, o :: r, ρ, h, K => dstOK n o.dst = true ∧ o.guard = none ∧ vcOp P U ρ h o (KOp (fun ρ h => vcOpsC P U n all bs r ρ h K) ρ o.dst)
  | [], l, ρ, h, K => vcOps P U n all l ρ h K
  | _, _, _, _, _ => False
section
variable (all : List Oper) (bs : List Bool) (r : List Oper) (K : Env → Heap → Prop)
@[go_sem ↓] theorem c_pair (o o' : Oper) : vcOpsC P U n all (true :: bs) (o :: o' :: r) ρ h K = litC U n ρ o o' fun ρ => vcOpsC P U n all bs r ρ h K := rfl
def KOpC (P : Program) (U : TypeId → TI) (n : Nat) (all : List Oper) (bs : List Bool) (r : List Oper) (K : Env → Heap → Prop) (ρ : Env) (d : Option Tmp) (x : AV) (h : Heap) : Prop := vcOpsC P U n all bs r (put ρ d x) h K
@[go_sem ↓] theorem KOpC_eq (d : Option Tmp) (x : AV) : KOpC P U n all bs r K ρ d x h = vcOpsC P U n all bs r (put ρ d x) h K := rfl
@[go_sem ↓] theorem c_one (d : Option Tmp) (op : Op) (t : TypeId) (p : String) (a : Array Edge) : vcOpsC P U n all (false :: bs) (⟨d, op, t, p, a, none⟩ :: r) ρ h K = (dstOK n d = true ∧ vcOp P U ρ h ⟨d, op, t, p, a, none⟩ (KOpC P U n all bs r K ρ d)) := by
  simp only [vcOpsC, true_and]
  rfl
@[go_sem ↓] theorem c_rest (l : List Oper) : vcOpsC P U n all [] l ρ h K = vcOps P U n all l ρ h K := by cases l <;> rfl
@[go_sem ↓] theorem c_lit (d : Nat) (d' : Option Tmp) (ty : TypeId) (len : Nat) (parts : List (Nat × Operand)) (t t' : TypeId) (p p' : String) (a a' : Array Edge) (k : Env → Prop) : litC U n ρ ⟨some d, .buildSlice ty len parts.toArray, t, p, a, none⟩ ⟨d', .convert ty ty (.tmp d), t', p', a', none⟩ k =
    (d < n ∧ dstOK n d' = true ∧ match (U ty).k with
    | .slice e => (U e).k = .int .u8 ∧ (U e).sz = 1 ∧ 0 < len ∧ len ≤ 4096 ∧ parts.map (·.1) = List.range len ∧ withvs ρ (parts.map (·.2)) fun xs => fits 1 xs ∧ k (put (put ρ (some d) (.sl xs .full)) d' (.sl xs .full))
    | _ => False) := by
  simp only [litC, true_and]
end
theorem FnOK.of_wp {f : FuncId} {fn : Func} {c : Code} {args : List AV} {Q : AV → Heap → Prop} (hU : ∀ t, AgreeT P U t) (hf : P.funcs[f]? = some fn) (hb : fn.body = some c)
    (hn : (fn.name == "runtime.NumGoroutine") = false) (m : Nat) (hm' : fn.ntmps = m) (rs : List ResultVar) (hr : fn.results.toList = rs) (hl : args.length ≤ m)
    (hk : WP P m c (envOf args) h (bodyK U rs Q)) : FnOK P f args h Q := by
  subst hm'; subst hr
  exact FnOK.of_wp0 hU hf hb hn hl fun _ => hk
end
end Go.Ab

set_option linter.unusedSimpArgs false
set_option linter.unusedVariables false
namespace Go.Ab
open Go
section
variable {P : Program} {U : TypeId → TI} {n : Nat} {ρ : Env} {h : Heap}
def KCut (I : Env → Heap → Prop) (K : Exit → Env → Heap → Prop) : Exit → Env → Heap → Prop := KSeq I K
@[go_sem ↓] theorem KCut_ret (I : Env → Heap → Prop) (K : Exit → Env → Heap → Prop) : KCut I K .ret ρ h = K .ret ρ h := rfl
@[go_sem ↓] theorem KCut_exit (I : Env → Heap → Prop) (K : Exit → Env → Heap → Prop) (i : Nat) : KCut I K (.exit i) ρ h = K (.exit i) ρ h := rfl
@[go_sem ↓] theorem KCut_goto (I : Env → Heap → Prop) (K : Exit → Env → Heap → Prop) (i : Nat) : KCut I K (.goto i) ρ h = K (.goto i) ρ h := rfl
theorem KCut.at {I : Env → Heap → Prop} {K : Exit → Env → Heap → Prop} (hi : I ρ h) : KCut I K .normal ρ h := hi
theorem WP.cut {c d : Code} {K : Exit → Env → Heap → Prop} (I : Env → Heap → Prop) (hc : WP P n c ρ h (KCut I K)) (hd : ∀ ρ h, I ρ h → WP P n d ρ h K) : WP P n (.seq c d) ρ h K :=
  WP.seq (hc.weaken fun e ρ h hk => by
    cases e with
    | normal => exact hd ρ h hk
    | _ => exact hk)
theorem WP.vc (hU : ∀ t, AgreeT P U t) (hm : P.follows .mixedOrders = true) {c : Code} {K : Exit → Env → Heap → Prop} (hk : vcCode P U n c ρ h K) : WP P n c ρ h K := vcCode_sound hU hm c ρ h K hk
def KNext (P : Program) (n : Nat) (d : Code) (K : Exit → Env → Heap → Prop) : Exit → Env → Heap → Prop := KSeq (WP P n d · · K) K
@[go_sem ↓] theorem KNext_normal (d : Code) (K : Exit → Env → Heap → Prop) : KNext P n d K .normal ρ h = WP P n d ρ h K := rfl
@[go_sem ↓] theorem KNext_ret (d : Code) (K : Exit → Env → Heap → Prop) : KNext P n d K .ret ρ h = K .ret ρ h := rfl
@[go_sem ↓] theorem KNext_exit (d : Code) (K : Exit → Env → Heap → Prop) (i : Nat) : KNext P n d K (.exit i) ρ h = K (.exit i) ρ h := rfl
@[go_sem ↓] theorem KNext_goto (d : Code) (K : Exit → Env → Heap → Prop) (i : Nat) : KNext P n d K (.goto i) ρ h = K (.goto i) ρ h := rfl
theorem WP.one (hU : ∀ t, AgreeT P U t) (hm : P.follows .mixedOrders = true) {c d : Code} {K : Exit → Env → Heap → Prop} (hk : vcCode P U n c ρ h (KNext P n d K)) : WP P n (.seq c d) ρ h K := WP.seq (vcCode_sound hU hm c ρ h _ hk)
@[go_sem high] theorem bx8 (x y : UInt8) (ty : TypeId) (K : AV → Prop) : binA U .xor ty (.v (.int .u8 (x.toNat : Int))) (.v (.int .u8 (y.toNat : Int))) K = K (.v (.int .u8 ((x ^^^ y).toNat : Int))) := by
  rw [b_xor]
  congr 3
  have e : ∀ z : UInt8, BitVec.ofInt IntKind.u8.bits (z.toNat : Int) = z.toBitVec := fun z => by
    show BitVec.ofInt 8 (z.toNat : Int) = z.toBitVec
    rw [ofInt_nat]
    apply BitVec.eq_of_toNat_eq
    have := z.toNat_lt
    simp
  rw [e, e]
  show IntKind.u8.wrap (((x.toBitVec ^^^ y.toBitVec).toNat : Nat) : Int) = _
  rw [w8]
  simp
end
end Go.Ab

set_option linter.unusedSimpArgs false
set_option linter.unusedVariables false
namespace Go.Ab
open Go
section
variable {P : Program} {U : TypeId → TI} {n : Nat} {ρ : Env} {h : Heap}
variable {d : Option Tmp} {t : TypeId} {p : String} {a : Array Edge} {g : Option (Nat × Bool)} {Q : AV → Heap → Prop} {k : AV → Prop}
@[go_sem] theorem atK_map (x y : TypeId) (k : TK → Prop) : atK (.map x y) k = k (.map x y) := rfl
@[go_sem] theorem cells_mp (i : Nat) : AV.cells (.mp i) = [.mp i] := rfl
@[go_sem] theorem isAgg_mp (i : Nat) : isAggA (.mp i) = false := rfl
@[go_sem] theorem fit_mp (i m : Nat) : fit (.mp i) m = (m = 1) := rfl
@[go_sem] theorem keyOK_s (l : List UInt8) : keyOK .str (.s l) = (l.length ≤ maxLen) := rfl
@[go_sem] theorem keyOK_i (q q' : IntKind) (m : Int) : keyOK (.int q) (.v (.int q' m)) = (q' = q ∧ (Lit.int q m).wf = true) := rfl
def mpL (b : Blk) (f : List (AV × AV) → Prop) : Prop := match b with
  | .mp m => f m
  | _ => False
@[go_sem ↓] theorem mpL_eq (m : List (AV × AV)) (f : List (AV × AV) → Prop) : mpL (.mp m) f = f m := rfl
def KeysA (tk : TK) (m : List (AV × AV)) : Prop := ∀ p ∈ m, keyOK tk p.1
def UnitOr (ti : TI) : Prop := ti.sz ≠ 0 ∨ ti.k = .strct []
def lookK (U : TypeId → TI) (h : Heap) (u v : AV) (ok : Bool) (k : AV → Prop) (tk : TK) : Prop := match tk, u with
  | .map kt e, .mp id => keyOK (U kt).k v ∧ UnitOr (U e) ∧ bindO (h id) fun b => mpL b fun m => KeysA (U kt).k m ∧ k (lookM U e m v ok)
  | _, _ => False
@[go_sem ↓] theorem lookK_mp (kt e : TypeId) (id : Nat) (v : AV) (ok : Bool) : lookK U h (.mp id) v ok k (.map kt e) = (keyOK (U kt).k v ∧ UnitOr (U e) ∧ bindO (h id) fun b => mpL b fun m => KeysA (U kt).k m ∧ k (lookM U e m v ok)) := rfl
@[go_sem ↓] theorem o_lookup (mt : TypeId) (x y : Operand) (ok : Bool) : vcOp P U ρ h ⟨d, .lookup mt x y ok, t, p, a, g⟩ Q = bindO (ev ρ x) fun u => bindO (ev ρ y) fun v => atK (U mt).k (lookK U h u v ok (atH Q h)) := by
  simp only [vcOp, pv, withv_eq, atK]
  congr 1
  funext u
  congr 1
  funext v
  cases (U mt).k with
  | map kt e =>
    cases u with
    | mp id =>
      simp only [lookK]
      congr 2
      cases h id with
      | none => rfl
      | some b => cases b <;> rfl
    | _ => rfl
  | _ => rfl
def putK (U : TypeId → TI) (h : Heap) (u v w : AV) (Q : AV → Heap → Prop) (tk : TK) : Prop := match tk, u with
  | .map kt e, .mp id => keyOK (U kt).k v ∧ bindO (h id) fun b => mpL b fun m => KeysA (U kt).k m ∧ Q (.v undef) (upd h id (some (.mp (setM m v w))))
  | _, _ => False
@[go_sem ↓] theorem putK_mp (kt e : TypeId) (id : Nat) (v w : AV) : putK U h (.mp id) v w Q (.map kt e) = (keyOK (U kt).k v ∧ bindO (h id) fun b => mpL b fun m => KeysA (U kt).k m ∧ Q (.v undef) (upd h id (some (.mp (setM m v w))))) := rfl
@[go_sem ↓] theorem o_mapUpdate (mt : TypeId) (x y z : Operand) : vcOp P U ρ h ⟨d, .mapUpdate mt x y z, t, p, a, g⟩ Q = bindO (ev ρ x) fun u => bindO (ev ρ y) fun v => bindO (ev ρ z) fun w => atK (U mt).k (putK U h u v w Q) := by
  simp only [vcOp, withv_eq, atK]
  congr 1
  funext u
  congr 1
  funext v
  congr 1
  funext w
  cases (U mt).k with
  | map kt e =>
    cases u with
    | mp id =>
      simp only [putK]
      congr 1
      cases h id with
      | none => rfl
      | some b => cases b <;> rfl
    | _ => rfl
  | _ => rfl
def NewMp (h : Heap) (Q : AV → Heap → Prop) : Prop := ∀ id, h id = none → Q (.mp id) (upd h id (some (.mp [])))
@[go_sem ↓] theorem o_makeMap (mt : TypeId) : vcOp P U ρ h ⟨d, .makeMap mt none, t, p, a, g⟩ Q = NewMp h Q := by
  simp only [vcOp, roomM, true_and]; rfl
@[go_sem ↓] theorem o_makeMap_i (mt : TypeId) (q : IntKind) (m : Int) : vcOp P U ρ h ⟨d, .makeMap mt (some (.const (.int q m))), t, p, a, g⟩ Q = ((∃ kt e, (U mt).k = .map kt e) ∧ NewMp h Q) := by
  simp only [vcOp, roomM, withv_eq]
  have : bindO (ev ρ (.const (.int q m))) (fun a => ∃ kk n, a = AV.v (.int kk n)) = True := by
    simp [ev, ofV, ofV1, bindO]
  rw [this, and_true]; rfl
@[go_sem] theorem effB_lookup (mt : TypeId) (x y : Operand) (ok : Bool) : effB (.lookup mt x y ok) = false := rfl
@[go_sem] theorem effB_makeMap (mt : TypeId) (r : Option Operand) : effB (.makeMap mt r) = true := rfl
@[go_sem] theorem effB_mapUpdate (mt : TypeId) (x y z : Operand) : effB (.mapUpdate mt x y z) = true := rfl
@[go_sem ↓] theorem OneH_lookup (all : List Oper) (hm : Heap) (is : List Nat) (K : Env → Heap → Prop) (mt : TypeId) (x y : Operand) (ok : Bool) : OneH P U n all hm is K ρ h ⟨d, .lookup mt x y ok, t, p, a, g⟩ false = vcOp P U ρ hm ⟨d, .lookup mt x y ok, t, p, a, g⟩ (constH (KDrH P U n all hm is K ρ d) h) := OneH_false rfl rfl
end
def setA (ls : List (List UInt8)) : List (AV × AV) := ls.map fun l => (.s l, .agg [])
theorem getM_set (ls : List (List UInt8)) (l : List UInt8) : getM (setA ls) (.s l) = if l ∈ ls then some (.agg []) else none := by
  induction ls with
  | nil => rfl
  | cons x ls ih =>
    simp only [getM, setA, List.map_cons, List.find?_cons, keyE] at ih ⊢
    by_cases e : x = l
    · subst e; simp
    · have : (x == l) = false := by simpa using e
      rw [this]
      simp only
      rw [ih]
      simp [Ne.symm e]
theorem setM_new {ls : List (List UInt8)} {l : List UInt8} (hn : l ∉ ls) : setM (setA ls) (.s l) (.agg []) = setA (ls ++ [l]) := by
  unfold setM
  rw [getM_set, if_neg hn]
  simp [setA]
theorem lookM_set (U : TypeId → TI) (e : TypeId) (he : (U e).sz = 0) (ls : List (List UInt8)) (l : List UInt8) : lookM U e (setA ls) (.s l) true = .tup [.agg [], .v (.bool (decide (l ∈ ls)))] := by
  simp only [lookM, getM_set, zeroE, he, if_true]
  by_cases h : l ∈ ls
  · simp [h]
  · simp [h]
theorem keysA_set {ls : List (List UInt8)} (h : ∀ l ∈ ls, l.length ≤ maxLen) : KeysA .str (setA ls) := fun p hp => by
  obtain ⟨l, hl, rfl⟩ := List.mem_map.1 hp
  exact h l hl
end Go.Ab

set_option linter.unusedSimpArgs false
set_option linter.unusedVariables false
namespace Go.Ab
open Go
section
variable {P : Program} {f : FuncId} {args : List AV} {h h' : Heap} {Q : AV → Heap → Prop}
theorem Ext.below {c : Cx} {w' : World} (hb : Go.RowKit.Below c.w.heap.size c.w w') : Ext c { c with w := w' } where
  os := hb.os
  tape := hb.tape
  output := hb.output
  size := hb.size
  block := fun b h _ => hb.block b h
  cell := fun b o h _ => by
    show w'.cell? _ = _
    simp only [World.cell?, hb.block b h]
  shape := fun b cs t fr h => ⟨cs, fr, (hb.block b (lt_of_get h)).trans h, rfl⟩
  steal := fun _ _ _ h => h
  obj := fun _ cs _ h => ⟨rfl, cs, h, rfl⟩
  spare := fun _ n _ h => ⟨n, h, .inl ⟨rfl, rfl⟩⟩
  mp := fun _ m h => ⟨rfl, m, h⟩
  ro := fun _ _ _ h => ⟨rfl, h⟩
theorem Good.below {c : Cx} (g : Good c) {w' : World} (hb : Go.RowKit.Below c.w.heap.size c.w w') : Good { c with w := w' } where
  fin := g.fin
  inj := g.inj
  obj := fun id cs t h => by
    obtain ⟨vs, a1, a2, a3⟩ := g.obj id cs t h
    exact ⟨vs, (hb.block _ (lt_of_get a1)).trans a1, a2, fun j hj => ⟨(a3 j hj).1.mono (.below hb), (a3 j hj).2⟩⟩
  spare := fun id n sz h => by
    obtain ⟨a0, vs, t, fr, a1, a2⟩ := g.spare id n sz h
    exact ⟨a0, vs, t, fr, (hb.block _ (lt_of_get a1)).trans a1, a2⟩
  mp := fun id m h => by
    obtain ⟨es, cl, a1, a2, a3⟩ := g.mp id m h
    exact ⟨es, cl, (hb.block _ (lt_of_get a1)).trans a1, a2, fun i hi hi' => ⟨(a3 i hi hi').1, (a3 i hi hi').2.mono (.below hb)⟩⟩
  keys := g.keys
  ro := fun id b vs h => g.ro_mono (.below hb) h
theorem FnOK.lib {X : AV} (hc : callable P f) (hf : ∀ c (vs : Array Value), Sub h c.h → Good c → vs.size = args.length → (∀ i (hi : i < args.length), Rep c args[i] (vs.getD i undef)) →
    Calls P f vs c.w fun e w' => (∃ u, e = .returned u ∧ ∀ c', Ext c c' → Rep c' X u) ∧ Go.RowKit.Below c.w.heap.size c.w w') : FnOK P f args h fun r h' => r = X ∧ h' = h := by
  refine ⟨hc, fun c vs hs g h1 h2 => (hf c vs hs g h1 h2).mono ?_⟩
  rintro e w' ⟨⟨u, rfl, hu⟩, hb⟩
  exact ⟨u, rfl, { c with w := w' }, X, h, rfl, g.below hb, .below hb, hu _ (.below hb), hs, rfl, rfl⟩
def Tab (h : Heap) (b : Nat) (vs : List Value) : Prop := ∃ id, h id = some (.ro b vs)
theorem Tab.sub {b : Nat} {vs : List Value} (ht : Tab h b vs) (hs : Sub h h') : Tab h' b vs := let ⟨id, hi⟩ := ht; ⟨id, hs _ _ hi⟩
theorem Tab.keep {b : Nat} {vs : List Value} {id : Nat} (ht : Tab h b vs) (hs : Keep id h h') (hn : ∀ vs, h id ≠ some (.ro b vs)) : Tab h' b vs := by
  obtain ⟨j, hj⟩ := ht
  exact ⟨j, hs j _ (fun e => by subst e; exact hn _ hj) hj⟩
end
def tabH (ts : List (Nat × List Value)) : Heap := fun i => (ts[i]?).map fun p => .ro p.1 p.2
def cxT (w : World) (ts : List (Nat × List Value)) : Cx := ⟨w, fun i => ⟨((ts[i]?).map (·.1)).getD 0, 0, none⟩, tabH ts⟩
theorem ownedT (w : World) (ts : List (Nat × List Value)) (b o : Nat) : ¬ owned (cxT w ts) b o := by
  rintro ⟨id, k, h, _, h3⟩
  simp only [cxT, tabH, Option.map_eq_some_iff] at h
  obtain ⟨p, _, rfl⟩ := h
  exact h3
theorem goodT (w : World) (ts : List (Nat × List Value)) (hd : ts.Pairwise fun p q => p.1 ≠ q.1) (ht : ∀ p ∈ ts, ∃ (t : TypeId) (fr : Nat × Nat), w.heap[p.1]? = some (.cells p.2.toArray t fr)) : Good (cxT w ts) where
  fin := ⟨ts.length, fun id h => by simp [cxT, tabH, List.getElem?_eq_none h]⟩
  inj := fun i j k l h1 h2 hne => by
    simp only [cxT, tabH, Option.map_eq_some_iff] at h1 h2
    obtain ⟨p, hp, rfl⟩ := h1
    obtain ⟨q, hq, rfl⟩ := h2
    simp only [cxT, hp, hq, Option.map_some, Option.getD_some]
    obtain ⟨hi, rfl⟩ := List.getElem?_eq_some_iff.1 hp
    obtain ⟨hj, rfl⟩ := List.getElem?_eq_some_iff.1 hq
    rw [List.pairwise_iff_getElem] at hd
    rcases Nat.lt_or_gt_of_ne hne with h | h
    · exact hd i j hi hj h
    · exact fun e => hd j i hj hi h e.symm
  obj := fun id cs t h => by
    simp only [cxT, tabH, Option.map_eq_some_iff] at h
    obtain ⟨p, _, h⟩ := h; cases h
  spare := fun id n sz h => by
    simp only [cxT, tabH, Option.map_eq_some_iff] at h
    obtain ⟨p, _, h⟩ := h; cases h
  mp := fun id m h => by
    simp only [cxT, tabH, Option.map_eq_some_iff] at h
    obtain ⟨p, _, h⟩ := h; cases h
  keys := fun id m h => by
    simp only [cxT, tabH, Option.map_eq_some_iff] at h
    obtain ⟨p, _, h⟩ := h; cases h
  ro := fun id b vs h => by
    simp only [cxT, tabH, Option.map_eq_some_iff] at h
    obtain ⟨p, hp, h⟩ := h
    cases h
    refine ⟨by simp [cxT, hp], ht p (List.mem_of_getElem? hp)⟩
theorem FnOK.callsT {P : Program} {f : FuncId} {args : List AV} {b : Value} {vs : Array Value} {w : World} {ts : List (Nat × List Value)} (hf : FnOK P f args (tabH ts) fun r _ => r = .v b) (hd : ts.Pairwise fun p q => p.1 ≠ q.1)
    (ht : ∀ p ∈ ts, ∃ (t : TypeId) (fr : Nat × Nat), w.heap[p.1]? = some (.cells p.2.toArray t fr)) (hv : vs.size = args.length) (hr : ∀ i (hi : i < args.length), Rep (cx0 w) args[i] (vs.getD i undef)) :
    Calls P f vs w fun e w' => e = .returned b ∧ Go.RowKit.Below w.heap.size w w' := by
  have hE : Ext (cx0 w) (cxT w ts) := ⟨rfl, rfl, rfl, Nat.le_refl _, fun _ _ _ => rfl, fun _ _ _ _ => rfl, fun _ cs _ fr h => ⟨cs, fr, h, rfl⟩, fun b o _ h => (ownedT w ts b o h).elim,
    fun _ _ _ h => (by cases h), fun _ _ _ h => (by cases h), fun _ _ h => (by cases h), fun _ _ _ h => (by cases h)⟩
  refine (hf.2 (cxT w ts) vs (fun _ _ h => h) (goodT w ts hd ht) hv fun i hi => (hr i hi).mono hE).mono ?_
  rintro e w' ⟨u, rfl, c', x, h', rfl, g', hE, hx, hs, rfl⟩
  rw [hx.v_inv]
  exact ⟨rfl, hE.os, hE.tape, hE.output, hE.size, fun k hk => hE.block k hk fun o => ownedT w ts k o⟩
end Go.Ab

set_option linter.unusedSimpArgs false
set_option linter.unusedVariables false
namespace Go.Ab
open Go
mutual
def strip : AV → AV
  | .sl xs _ => .sl (stripL xs) .no
  | .agg xs => .agg (stripL xs)
  | .tup xs => .tup (stripL xs)
  | .v x => .v x
  | .s l => .s l
  | .pe x o => .pe x o
  | .ptr i o => .ptr i o
  | .oa i o l => .oa i o l
  | .ifc t x => .ifc t x
  | .fn f c => .fn f c
  | .mp i => .mp i
def stripL : List AV → List AV
  | [] => []
  | x :: r => strip x :: stripL r
end
theorem stripL_length : ∀ xs : List AV, (stripL xs).length = xs.length
  | [] => rfl
  | x :: r => by simp [stripL, stripL_length r]
theorem stripL_get : ∀ (xs : List AV) (i : Nat) (h1 : i < xs.length) (h2 : i < (stripL xs).length), (stripL xs)[i] = strip xs[i]
  | x :: r, 0, h1, h2 => by simp [stripL]
  | x :: r, i + 1, h1, h2 => by simpa [stripL] using stripL_get r i (by simpa using h1) (by simpa [stripL] using h2)
theorem strip_cells (x : AV) : (strip x).cells = match x with | .agg xs => stripL xs | _ => [strip x] := by
  cases x <;> simp [strip, AV.cells]
mutual
theorem weak_strip : ∀ x : AV, Weak x (strip x)
  | .sl xs p => .deep _ _ p (stripL_length xs).symm (fun i h1 h2 => by
        rw [stripL_get xs i h1 h2, strip_cells]
        have := weak_stripC xs i h1
        cases hx : xs[i] <;> simp [AV.cells, stripL_length])
      (fun i h1 h2 j h3 h4 => by
        have hw := weak_stripC xs i h1
        have e := stripL_get xs i h1 h2
        exact hw (stripL xs)[i] e j h3 h4)
  | .agg xs => .agg _ _ (stripL_length xs).symm fun i h1 h2 => by rw [stripL_get xs i h1 h2]; exact weak_stripL xs i h1
  | .tup xs => .tup _ _ (stripL_length xs).symm fun i h1 h2 => by rw [stripL_get xs i h1 h2]; exact weak_stripL xs i h1
  | .v x => .refl _
  | .s l => .refl _
  | .pe x o => .refl _
  | .ptr i o => .refl _
  | .oa i o l => .refl _
  | .ifc t x => .refl _
  | .fn f c => .refl _
  | .mp i => .refl _
theorem weak_stripL : ∀ (xs : List AV) (i : Nat) (h : i < xs.length), Weak xs[i] (strip xs[i])
  | x :: r, 0, h => weak_strip x
  | x :: r, i + 1, h => weak_stripL r i (by simpa using h)
theorem weak_stripC : ∀ (xs : List AV) (i : Nat) (h : i < xs.length) (y : AV), y = strip xs[i] → ∀ (j : Nat) (h3 : j < xs[i].cells.length) (h4 : j < y.cells.length), Weak xs[i].cells[j] y.cells[j]
  | x :: r, 0, h, y, e, j, h3, h4 => weak_cells x y e j h3 h4
  | x :: r, i + 1, h, y, e, j, h3, h4 => weak_stripC r i (by simpa using h) y e j h3 h4
theorem weak_cells : ∀ (x y : AV), y = strip x → ∀ (j : Nat) (h3 : j < x.cells.length) (h4 : j < y.cells.length), Weak x.cells[j] y.cells[j]
  | .agg xs, y, e, j, h3, h4 => by
    subst e
    simp only [strip, AV.cells] at h4 ⊢
    rw [stripL_get xs j h3 h4]
    exact weak_stripL xs j h3
  | .sl xs p, y, e, j, h3, h4 => by
    subst e
    simp only [strip, AV.cells, List.length_singleton] at h3 h4 ⊢
    obtain rfl : j = 0 := by omega
    exact .deep _ _ p (stripL_length xs).symm (fun i h1 h2 => by
        rw [stripL_get xs i h1 h2, strip_cells]
        cases hx : xs[i] <;> simp [AV.cells, stripL_length])
      (fun i h1 h2 j h3 h4 => weak_stripC xs i h1 _ (stripL_get xs i h1 h2) j h3 h4)
  | .tup xs, y, e, j, h3, h4 => by
    subst e
    simp only [strip, AV.cells, List.length_singleton] at h3 h4 ⊢
    obtain rfl : j = 0 := by omega
    exact .tup _ _ (stripL_length xs).symm fun i h1 h2 => by rw [stripL_get xs i h1 h2]; exact weak_stripL xs i h1
  | .v x, y, e, j, h3, h4 => by subst e; exact .refl _
  | .s l, y, e, j, h3, h4 => by subst e; exact .refl _
  | .pe x o, y, e, j, h3, h4 => by subst e; exact .refl _
  | .ptr i o, y, e, j, h3, h4 => by subst e; exact .refl _
  | .oa i o l, y, e, j, h3, h4 => by subst e; exact .refl _
  | .ifc t x, y, e, j, h3, h4 => by subst e; exact .refl _
  | .fn f c, y, e, j, h3, h4 => by subst e; exact .refl _
  | .mp i, y, e, j, h3, h4 => by subst e; exact .refl _
end
section
variable {P : Program} {U : TypeId → TI} {n : Nat} {ρ : Env} {h0 h h' : Heap} {tb : TypeId} {y v : AV} {xs zs : List AV} {Q : AV → Heap → Prop} {f : FuncId} {args : List AV}
theorem FnOK.strip (hf : FnOK P f (stripL args) h Q) : FnOK P f args h Q := hf.weak (stripL_length args).symm fun i h1 h2 => by rw [stripL_get args i h1 h2]; exact weak_strip _
def One (xs : List AV) : Prop := ∀ x ∈ xs, isAggA x = false
theorem cells_one {x : AV} (h : isAggA x = false) : x.cells = [x] := by cases x <;> first | rfl | (cases h)
theorem One.sized (h : One xs) : Sized 1 xs := fun z hz => by rw [cells_one (h z hz)]; rfl
theorem One.app (h1 : One xs) (h2 : One zs) : One (xs ++ zs) := fun x hx => by
  rcases List.mem_append.1 hx with h | h
  · exact h1 x h
  · exact h2 x h
theorem One.take (h1 : One xs) (n : Nat) : One (xs.take n) := fun x hx => h1 x (List.mem_of_mem_take hx)
theorem One.drop (h1 : One xs) (n : Nat) : One (xs.drop n) := fun x hx => h1 x (List.mem_of_mem_drop hx)
theorem One.map {α : Type} {g : α → AV} (hg : ∀ a, isAggA (g a) = false) (l : List α) : One (l.map g) := fun x hx => by
  obtain ⟨a, _, rfl⟩ := List.mem_map.1 hx
  exact hg a
def SeqA (tb : TypeId) (h : Heap) (y : AV) (xs : List AV) : Prop :=
  (∃ q, y = .sl xs q) ∨ ∃ id off cs, y = .oa id off xs.length ∧ h id = some (.obj cs tb) ∧ off + xs.length ≤ cs.length ∧ (cs.drop off).take xs.length = xs
theorem SeqA.sl (xs : List AV) (q : Perm) : SeqA tb h (.sl xs q) xs := .inl ⟨q, rfl⟩
theorem SeqA.sub (hb : SeqA tb h y xs) (hs : Sub h h') : SeqA tb h' y xs := by
  rcases hb with hb | ⟨id, off, cs, rfl, h1, h2⟩
  · exact .inl hb
  · exact .inr ⟨id, off, cs, rfl, hs _ _ h1, h2⟩
theorem SeqA.len (hb : SeqA tb h y xs) (e : TypeId) (k : AV → Prop) : lenK y k (.slice e) = k (.v (.int .i64 xs.length)) := by
  rcases hb with ⟨q, rfl⟩ | ⟨id, off, cs, rfl, _⟩ <;> rfl
theorem SeqA.cells (hb : SeqA tb h y xs) : y.cells = [y] := by
  rcases hb with ⟨q, rfl⟩ | ⟨id, off, cs, rfl, _⟩ <;> rfl
def AtP (U : TypeId → TI) (tb : TypeId) (h : Heap) (p x : AV) : Prop := ∀ k : AV → Prop, loadA U h tb p k = k x
theorem SeqA.idx (hb : SeqA tb h y xs) (ho : One xs) {m : Int} {x : IntKind} {K : AV → Prop} (j : Nat) (hm : m = j) (hj : j < xs.length) (hz : (U tb).sz = 1) (ha : (U tb).k.agg = false)
    (hk : ∀ p, AtP U tb h p xs[j] → K p) : iaddrK U y (.v (.int x m)) K (.slice tb) := by
  subst hm
  have h1 := ho xs[j] (List.getElem_mem hj)
  rcases hb with ⟨q, rfl⟩ | ⟨id, off, cs, rfl, g1, g2, g3⟩
  · refine (iaddrK_sl ..).mpr ⟨by rw [hz]; decide, ?_⟩
    refine IdxE.at j hj (by rw [hz, cells_one h1]; rfl) ?_
    refine hk _ fun k => ?_
    simp only [loadA, atA_eq, ha, hz, cells_one h1, h1, List.length_cons, List.length_nil, Nat.zero_add, and_self, if_true]
  · refine (iaddrK_oa ..).mpr ⟨by rw [hz]; decide, by omega, by omega, ?_⟩
    refine hk _ fun k => ?_
    have e1 : cs[off + j]? = some xs[j] := by
      have := congrArg (fun q => q[j]?) g3
      simp only [List.getElem?_take, hj, if_true, List.getElem?_drop, List.getElem?_eq_getElem hj] at this
      exact this
    simp only [loadA, g1, bindO_some, objL_eq, hz, Nat.mul_one, Int.toNat_natCast, partA_eq, ha, Br, e1]
    simp
def WrA (tb : TypeId) (h0 h : Heap) (y : AV) (xs : List AV) : Prop :=
  Sub h0 h ∧ ((xs = [] ∧ y = .sl [] .full) ∨ ∃ id cs, h0 id = none ∧ y = .oa id 0 xs.length ∧ h id = some (.obj cs tb) ∧ xs.length ≤ cs.length ∧ cs.take xs.length = xs)
theorem WrA.nil (hs : Sub h0 h) : WrA tb h0 h (.sl [] .full) [] := ⟨hs, .inl ⟨rfl, rfl⟩⟩
theorem WrA.seq (hw : WrA tb h0 h y xs) : SeqA tb h y xs := by
  obtain ⟨_, ⟨rfl, rfl⟩ | ⟨id, cs, _, rfl, h1, h2, h3⟩⟩ := hw
  · exact .sl _ _
  · exact .inr ⟨id, 0, cs, rfl, h1, by omega, by simpa using h3⟩
theorem WrA.sub (hw : WrA tb h0 h y xs) (hs : Sub h h') : WrA tb h0 h' y xs := by
  obtain ⟨h1, hw | ⟨id, cs, a, e, b, c, d⟩⟩ := hw
  · exact ⟨h1.trans hs, .inl hw⟩
  · exact ⟨h1.trans hs, .inr ⟨id, cs, a, e, hs _ _ b, c, d⟩⟩
theorem WrA.base (hw : WrA tb h0 h y xs) {id : Nat} (hid : h id = none) (b : Option Blk) : WrA tb (upd h0 id b) (upd h id b) y xs := by
  obtain ⟨h1, hw⟩ := hw
  have h2 : Sub (upd h0 id b) (upd h id b) := fun j k hj => by
    by_cases e : j = id
    · subst e; rw [upd_same] at hj ⊢; exact hj
    · rw [upd_other _ _ e] at hj ⊢; exact h1 _ _ hj
  rcases hw with hw | ⟨i, cs, a, e, c, d⟩
  · exact ⟨h2, .inl hw⟩
  · have hne : i ≠ id := fun hh => by subst hh; rw [hid] at c; cases c
    exact ⟨h2, .inr ⟨i, cs, by rw [upd_other _ _ hne]; exact a, e, by rw [upd_other _ _ hne]; exact c, d⟩⟩
theorem WrA.less (hw : WrA tb h' h y xs) (hs : Sub h0 h') : WrA tb h0 h y xs := by
  obtain ⟨h1, hw | ⟨i, cs, a, e, c, d⟩⟩ := hw
  · exact ⟨hs.trans h1, .inl hw⟩
  · exact ⟨hs.trans h1, .inr ⟨i, cs, hs.none a, e, c, d⟩⟩
theorem WrA.len (hw : WrA tb h0 h y xs) (e : TypeId) (k : AV → Prop) : lenK y k (.slice e) = k (.v (.int .i64 xs.length)) := hw.seq.len e k
theorem WrA.idx (hb : WrA tb h0 h y xs) (ho : One xs) {m : Int} {x : IntKind} {K : AV → Prop} (j : Nat) (hm : m = j) (hj : j < xs.length) (hz : (U tb).sz = 1) (ha : (U tb).k.agg = false)
    (hk : ∀ p, AtP U tb h p xs[j] → K p) : iaddrK U y (.v (.int x m)) K (.slice tb) := hb.seq.idx ho j hm hj hz ha hk
theorem WrA.cut (hw : WrA tb h0 h y xs) {hi : Operand} {m : Int} {x : IntKind} {K : AV → Prop} (j : Nat) (hm : ev ρ hi = some (.v (.int x m))) (hj : m = j) (hl : j ≤ xs.length) (hz : (U tb).sz = 1)
    (hk : ∀ z, WrA tb h0 h z (xs.take j) → K z) : sliceK U ρ y none (some hi) none K (.slice tb) := by
  subst hj
  have hs := hw.1
  obtain ⟨_, ⟨rfl, rfl⟩ | ⟨id, cs, h1, rfl, h2, h3, h4⟩⟩ := hw
  · rw [sliceK_none, optA_some, hm]
    refine ⟨by rw [hz]; decide, ?_⟩
    simp only [bindO_some, intA_eq, Option.isSome_some, cutL_ft, Int.toNat_natCast]
    have : j = 0 := by simpa using hl
    subst this
    refine ⟨by omega, by simp, ?_⟩
    exact hk _ (.nil hs)
  · rw [sliceK_oa]
    refine ⟨by rw [hz]; decide, fun _ => hz, ?_⟩
    simp only [optA_none, optA_some, hm, bindO_some, intA_eq]
    refine ⟨by omega, by omega, by omega, ?_⟩
    simp only [Int.toNat_natCast, hz, Nat.mul_one]
    have e : (xs.take j).length = j := by simp; omega
    have := hk (.oa id 0 (xs.take j).length) ⟨hs, .inr ⟨id, cs, h1, rfl, h2, by omega, by rw [e, ← h4, List.take_take, Nat.min_eq_left hl]⟩⟩
    rw [e] at this
    simpa using this
theorem WrA.from (hw : WrA tb h0 h y xs) (ho : One xs) {lo : Operand} {m : Int} {x : IntKind} {K : AV → Prop} (j : Nat) (hm : ev ρ lo = some (.v (.int x m))) (hj : m = j) (hl : j ≤ xs.length) (hz : (U tb).sz = 1)
    (hk : ∀ z, SeqA tb h z (xs.drop j) → K z) : sliceK U ρ y (some lo) none none K (.slice tb) := by
  subst hj
  obtain ⟨_, ⟨rfl, rfl⟩ | ⟨id, cs, h1, rfl, h2, h3, h4⟩⟩ := hw
  · have : j = 0 := by simpa using hl
    subst this
    rw [sliceK_from, hm]
    refine ⟨by rw [hz]; decide, by simp [Sized], ?_⟩
    simp only [bindO_some, intA_eq, KV_eq]
    exact ⟨by omega, by simp, hk _ (.sl _ _)⟩
  · rw [sliceK_oa]
    refine ⟨by rw [hz]; decide, fun _ => hz, ?_⟩
    simp only [optA_none, optA_some, hm, bindO_some, intA_eq]
    refine ⟨by omega, by omega, by omega, ?_⟩
    simp only [Int.toNat_natCast, hz, Nat.mul_one, Nat.zero_add]
    have e : (xs.drop j).length = xs.length - j := by simp
    have := hk (.oa id j (xs.drop j).length) (.inr ⟨id, j, cs, rfl, h2, by omega, by rw [e, ← List.drop_take, h4]⟩)
    rw [e] at this
    simpa using this
theorem WrA.app (hw : WrA tb h0 h y xs) (ho : One xs) (hoz : One zs) (hz : (U tb).sz = 1) (hb : (U tb).bytes ≠ 0) (hf : fit (U tb).zero 1) (hn : isAggA (U tb).zero = false) (hsrc : ∀ k : List AV → Prop, k zs → srcA U tb h v k)
    (hlen : (xs.length + zs.length) * (U tb).bytes ≤ 140737488355328) (hk : ∀ y' h', WrA tb h0 h' y' (xs ++ zs) → Q y' h') : apK U h y v Q (.slice tb) := by
  have hs := hw.1
  have one : Sized (U tb).sz zs := by rw [hz]; exact hoz.sized
  obtain ⟨_, ⟨rfl, rfl⟩ | ⟨id, cs, h1, rfl, h2, h3, h4⟩⟩ := hw
  · refine (apK_full ..).mpr ⟨by rw [hz]; decide, hb, hsrc _ ⟨by simp [Sized], one, by simpa using hlen, fun hn' => ?_, fun hn' => ?_⟩⟩
    · subst hn'
      exact hk _ _ (.nil hs)
    · refine .oa hz hf hn hoz fun id k hid => ?_
      refine hk _ _ ⟨hs.new hid _, .inr ⟨id, _, hs.none hid, ?_, upd_same .., ?_, ?_⟩⟩
      · simp
      · simp
      · simp [List.take_append_of_le_length]
  · refine ⟨by rw [hz]; decide, hb, hz, hsrc _ ⟨by rw [← hz]; exact one, hoz, by simpa using hlen, ?_⟩⟩
    rw [h2]
    refine ⟨by omega, ?_, hf, hn, fun hle => ?_, fun id' k hid => ?_⟩
    · rw [List.drop_zero, h4]; exact ho
    · have hsub : Sub h0 (upd h id (some (.obj (over cs (0 + xs.length) zs) tb))) := fun j b hj => by
        by_cases e : j = id
        · subst e; rw [h1] at hj; cases hj
        · rw [upd_other _ _ e]; exact hs _ _ hj
      have ho' : (over cs (0 + xs.length) zs).length = cs.length := over_length (by omega)
      refine hk _ _ ⟨hsub, .inr ⟨id, _, h1, by rw [List.length_append], upd_same .., by rw [ho', List.length_append]; omega, ?_⟩⟩
      rw [over, Nat.zero_add, h4, List.length_append, List.take_append_of_le_length (by simp)]
      exact List.take_of_length_le (by simp)
    · refine hk _ _ ⟨hs.new hid _, .inr ⟨id', _, hs.none hid, by rw [List.length_append], upd_same .., ?_, ?_⟩⟩
      · rw [List.drop_zero, h4]; simp
      · rw [List.drop_zero, h4, List.take_append_of_le_length (by simp)]
        exact List.take_of_length_le (by simp)
theorem WrA.put (hw : WrA tb h0 h y xs) (hz : (U tb).sz = 1) (j : Nat) (hj : j < xs.length) {K : AV → Prop} {x : IntKind} (hk : ∀ id cs, y = .oa id 0 xs.length → h0 id = none → h id = some (.obj cs tb) → xs.length ≤ cs.length → cs.take xs.length = xs → K (.ptr id j)) : iaddrK U y (.v (.int x (j : Nat))) K (.slice tb) := by
  obtain ⟨hs, ⟨rfl, rfl⟩ | ⟨id, cs, h1, rfl, h2, h3, h4⟩⟩ := hw
  · cases hj
  · refine (iaddrK_oa ..).mpr ⟨by rw [hz]; decide, by omega, by omega, ?_⟩
    rw [hz, Nat.zero_add, Nat.mul_one]
    exact hk id cs rfl h1 h2 h3 h4
end
end Go.Ab

set_option linter.unusedVariables false
namespace Go.Bf
open Go Go.Ab
abbrev Txt := List UInt8
structure AttrD where
  cat : Int
  name : Txt
  must : Bool
structure ValD where
  kind : Int
  n : Int
  s : Txt
structure MatchD where
  attr : AttrD
  op : Int
  val : ValD
structure NodeD where
  op : Int
  val : ValD
  attr : AttrD
structure OblD where
  on : Int
  kind : Int
  arg : Txt
abbrev TgtD := List (List (List MatchD))
structure RuleD where
  id : Txt
  deny : Bool
  tgt : TgtD
  cond : List NodeD
  obls : List OblD
inductive PolD where
  | mk (id : Txt) (set : Bool) (alg : Int) (tgt : TgtD) (rules : List RuleD) (kids : List PolD) (obls : List OblD)
def attrA (a : AttrD) : AV := .agg [.v (.int .i64 a.cat), .s a.name, .v (.bool a.must)]
def valA (v : ValD) : AV := .agg [.v (.int .i64 v.kind), .v (.int .i64 v.n), .s v.s]
def matchA (m : MatchD) : AV := .agg [.v (.int .i64 m.attr.cat), .s m.attr.name, .v (.bool m.attr.must), .v (.int .i64 m.op), .v (.int .i64 m.val.kind), .v (.int .i64 m.val.n), .s m.val.s]
def nodeA (m : NodeD) : AV := .agg [.v (.int .i64 m.op), .v (.int .i64 m.val.kind), .v (.int .i64 m.val.n), .s m.val.s, .v (.int .i64 m.attr.cat), .s m.attr.name, .v (.bool m.attr.must)]
def boolA (b : Bool) : AV := .v (.bool b)
def oblA (o : OblD) : AV := .agg [.v (.int .i64 o.on), .v (.int .i64 o.kind), .s o.arg]
def allA (l : List MatchD) : AV := .sl (l.map matchA) .no
def anyA (l : List (List MatchD)) : AV := .sl (l.map allA) .no
def tgtA (t : TgtD) : AV := .sl (t.map anyA) .no
def condA (l : List NodeD) : AV := .sl (l.map nodeA) .no
def oblsA (l : List OblD) : AV := .sl (l.map oblA) .no
def ruleA (r : RuleD) : AV := .agg [.s r.id, .v (.bool r.deny), tgtA r.tgt, condA r.cond, oblsA r.obls]
mutual
def polA : PolD → AV
  | .mk id set alg tgt rules kids obls => .agg [.s id, .v (.bool set), .v (.int .i64 alg), tgtA tgt, .sl (rules.map ruleA) .no, .sl (kidsA kids) .no, oblsA obls]
def kidsA : List PolD → List AV
  | [] => []
  | k :: r => polA k :: kidsA r
end
theorem kidsA_eq : ∀ l : List PolD, kidsA l = l.map polA
  | [] => rfl
  | k :: r => by simp [kidsA, kidsA_eq r]
def ltr (c : UInt8) : Bool := decide (97 ≤ (c.toNat : Int)) && decide ((c.toNat : Int) ≤ 122)
def dgt (c : UInt8) : Bool := decide (48 ≤ (c.toNat : Int)) && decide ((c.toNat : Int) ≤ 57)
def chOK (c : UInt8) (i : Nat) : Bool := ltr c || (decide (i ≠ 0) && (dgt c || (c.toNat : Int) == 95))
def chsOK (l : Txt) : Bool := l.zipIdx.all fun p => chOK p.1 p.2
def nameOK (l : Txt) : Bool := chsOK l && decide (1 ≤ l.length) && decide (l.length ≤ 16)
def attrOK (a : AttrD) : Bool := decide (1 ≤ a.cat) && decide (a.cat ≤ 4) && nameOK a.name
def valOK (v : ValD) : Bool :=
  if v.kind = 1 then (v.n == 0 || v.n == 1) && v.s == []
  else if v.kind = 2 then v.s == []
  else if v.kind = 3 then v.n == 0 && decide (v.s.length ≤ 64)
  else if v.kind = 4 then decide (0 ≤ v.n) && decide (v.n ≤ 1099511627776) && v.s == []
  else if v.kind = 5 then v.n == 0 && nameOK v.s
  else false
def matchOK (m : MatchD) : Bool := attrOK m.attr && decide (1 ≤ m.op) && decide (m.op ≤ 3) && valOK m.val
def manyE (n : Nat) : Int := if n = 0 then 1 else if n > 8 then 6 else 0
def firstE {α : Type} (f : α → Int) : List α → Int
  | [] => 0
  | x :: r => if f x = 0 then firstE f r else f x
def allE (l : List MatchD) : Int := if manyE l.length = 0 then (if l.all matchOK then 0 else 1) else manyE l.length
def anyE (l : List (List MatchD)) : Int := if manyE l.length = 0 then firstE allE l else manyE l.length
def tgtE (t : TgtD) : Int := if t.length > 8 then 6 else firstE anyE t
def wantsD (op : Int) : Option (List Bool) :=
  if op = 1 ∨ op = 2 then some []
  else if op = 3 ∨ op = 4 then some [true]
  else if op = 5 then some [true, false]
  else if op = 11 then some [false]
  else if 6 ≤ op ∧ op ≤ 13 then some [false, false]
  else none
def zeroV (v : ValD) : Bool := v.kind == 0 && (v.n == 0 && v.s == [])
def zeroAt (a : AttrD) : Bool := a.cat == 0 && (a.name == [] && a.must == false)
def fieldsOK (n : NodeD) : Bool :=
  if n.op = 1 then valOK n.val && zeroAt n.attr
  else if n.op = 2 then attrOK n.attr && zeroV n.val
  else zeroV n.val && zeroAt n.attr
def stepD (st : List Bool) (n : NodeD) : Option (List Bool) := match wantsD n.op with
  | none => none
  | some w => if fieldsOK n = true ∧ w.length ≤ st.length ∧ st.drop (st.length - w.length) = w then some (st.take (st.length - w.length) ++ [n.op == 2]) else none
def stepsD (st : List Bool) : List NodeD → Option (List Bool)
  | [] => some st
  | n :: r => match stepD st n with
    | none => none
    | some st' => stepsD st' r
def exprE (l : List NodeD) : Int := if l.length > 32 then 6 else match stepsD [] l with
  | none => 1
  | some st => if l = [] ∨ st = [false] then 0 else 1
def oblOK (o : OblD) : Bool := decide (1 ≤ o.on) && decide (o.on ≤ 2) && decide (1 ≤ o.kind) && decide (o.kind ≤ 4) && nameOK o.arg
def oblsE (l : List OblD) : Int := if l.length > 8 then 6 else if l.all oblOK then 0 else 1
structure MetD where
  met : List Txt
  rules : Nat
inductive Went where
  | bad (e : Int)
  | ok (m : MetD)
def meetD (m : MetD) (s : Txt) : Option MetD := if s ∉ m.met ∧ nameOK s = true then some ⟨m.met ++ [s], m.rules⟩ else none
def Went.err : Went → Int
  | .bad e => e
  | .ok _ => 0
def need (e : Int) (w : Went) : Went := if e = 0 then w else .bad e
def ruleW (m : MetD) (r : RuleD) : Went := match meetD m r.id with
  | none => .bad 1
  | some m => if m.rules + 1 > 64 then .bad 6 else need (tgtE r.tgt) (need (exprE r.cond) (need (oblsE r.obls) (.ok ⟨m.met, m.rules + 1⟩)))
def rulesW (m : MetD) : List RuleD → Went
  | [] => .ok m
  | r :: l => match ruleW m r with
    | .bad e => .bad e
    | .ok m => rulesW m l
def headW (m : MetD) (id : Txt) (set : Bool) (alg : Int) (tgt : TgtD) (nr nk : Nat) (obls : List OblD) : Went := match meetD m id with
  | none => .bad 1
  | some m => if alg < 1 ∨ alg > 6 then .bad 1
    else if set = true ∧ nr > 0 ∨ set = false ∧ (nk > 0 ∨ alg = 4) then .bad 1
    else need (tgtE tgt) (need (oblsE obls) (if nr > 16 ∨ nk > 16 then .bad 6 else .ok m))
mutual
def polW (m : MetD) (d : Nat) : PolD → Went
  | .mk id set alg tgt rules kids obls =>
    if d > 4 then .bad 6 else match headW m id set alg tgt rules.length kids.length obls with
    | .bad e => .bad e
    | .ok m => match rulesW m rules with
      | .bad e => .bad e
      | .ok m => kidsW m (d + 1) kids
def kidsW (m : MetD) (d : Nat) : List PolD → Went
  | [] => .ok m
  | k :: r => match polW m d k with
    | .bad e => .bad e
    | .ok m => kidsW m d r
end
def rightE (p : PolD) : Int := (polW ⟨[], 0⟩ 1 p).err
def catW (n : Int) : Txt := if n = 1 then [115, 117, 98, 106, 101, 99, 116] else if n = 2 then [97, 99, 116, 105, 111, 110] else if n = 3 then [99, 97, 115, 101] else [101, 110, 118]
def attrT (a : AttrD) : Txt := catW a.cat ++ [46] ++ a.name ++ (if a.must then [33] else [])
def hexD (n : Nat) : UInt8 := if n < 10 then UInt8.ofNat (48 + n) else UInt8.ofNat (87 + n)
def oddB (c : UInt8) : Bool := decide ((c.toNat : Int) < 32) || decide (126 < (c.toNat : Int)) || (c.toNat : Int) == 34 || (c.toNat : Int) == 92
def quoteB (c : UInt8) : Txt := if oddB c then [92, hexD (c.toNat / 16), hexD (c.toNat % 16)] else [c]
def quoteT (l : Txt) : Txt := [34] ++ (l.map quoteB).flatten ++ [34]
def valT (v : ValD) : Txt :=
  if v.kind = 1 then Lib.formatBool (v.n == 1) else if v.kind = 4 then [64] ++ Lib.itoa v.n else if v.kind = 5 then [35] ++ v.s else if v.kind = 3 then quoteT v.s else Lib.itoa v.n
def fnW (n : Int) : Txt :=
  if n = 3 then [111, 110, 101] else if n = 4 then [115, 105, 122, 101] else if n = 5 then [104, 97, 115] else if n = 6 then [101, 113] else if n = 7 then [108, 101, 115, 115]
  else if n = 8 then [97, 100, 100] else if n = 9 then [115, 117, 98] else if n = 10 then [109, 117, 108] else if n = 11 then [110, 111, 116] else if n = 12 then [97, 110, 100] else [111, 114]
end Go.Bf

set_option linter.unusedSimpArgs false
set_option linter.unusedVariables false
namespace Go.Bf
open Go Go.Ab
theorem zipIdx_take_succ {α : Type} (l : List α) (i : Nat) (h : i < l.length) : (l.take (i + 1)).zipIdx = (l.take i).zipIdx ++ [(l[i], i)] := by
  rw [List.take_succ_eq_append_getElem h, List.zipIdx_append]
  simp [Nat.min_eq_left (Nat.le_of_lt h)]
theorem chsOK_succ (l : Txt) (i : Nat) (h : i < l.length) : chsOK (l.take (i + 1)) = (chsOK (l.take i) && chOK l[i] i) := by
  simp [chsOK, zipIdx_take_succ l i h]
theorem chsOK_bad (l : Txt) (i : Nat) (h : i < l.length) (hb : chOK l[i] i = false) : chsOK l = false := by
  rw [chsOK, List.all_eq_false]
  exact ⟨(l[i], i), by rw [List.mk_mem_zipIdx_iff_getElem?]; exact List.getElem?_eq_getElem h, by simp [hb]⟩
theorem chCases (c : UInt8) :
    (decide (97 ≤ (c.toNat : Int)) = true ∧ decide ((c.toNat : Int) ≤ 122) = true ∧ decide (48 ≤ (c.toNat : Int)) = true ∧ decide ((c.toNat : Int) ≤ 57) = false ∧ ((c.toNat : Int) == 95) = false) ∨
    (decide (97 ≤ (c.toNat : Int)) = false ∧ decide ((c.toNat : Int) ≤ 122) = true ∧ decide (48 ≤ (c.toNat : Int)) = true ∧ decide ((c.toNat : Int) ≤ 57) = true ∧ ((c.toNat : Int) == 95) = false) ∨
    (decide (97 ≤ (c.toNat : Int)) = false ∧ decide ((c.toNat : Int) ≤ 122) = true ∧ decide (48 ≤ (c.toNat : Int)) = true ∧ decide ((c.toNat : Int) ≤ 57) = false ∧ ((c.toNat : Int) == 95) = true) ∨
    (decide (97 ≤ (c.toNat : Int)) = false ∧ decide ((c.toNat : Int) ≤ 122) = true ∧ decide (48 ≤ (c.toNat : Int)) = false ∧ decide ((c.toNat : Int) ≤ 57) = true ∧ ((c.toNat : Int) == 95) = false) ∨
    (decide (97 ≤ (c.toNat : Int)) = false ∧ decide ((c.toNat : Int) ≤ 122) = true ∧ decide (48 ≤ (c.toNat : Int)) = true ∧ decide ((c.toNat : Int) ≤ 57) = false ∧ ((c.toNat : Int) == 95) = false) ∨
    (decide (97 ≤ (c.toNat : Int)) = true ∧ decide ((c.toNat : Int) ≤ 122) = false ∧ decide (48 ≤ (c.toNat : Int)) = true ∧ decide ((c.toNat : Int) ≤ 57) = false ∧ ((c.toNat : Int) == 95) = false) := by
  simp only [decide_eq_true_eq, decide_eq_false_iff_not, beq_iff_eq, beq_eq_false_iff_ne, ne_eq]
  omega
theorem firstE_take {α : Type} {f : α → Int} {l : List α} {i : Nat} (h : i < l.length) (h0 : firstE f (l.take i) = 0) (h1 : f l[i] = 0) : firstE f (l.take (i + 1)) = 0 := by
  rw [List.take_succ_eq_append_getElem h]
  generalize l.take i = a at h0
  induction a with
  | nil => simp [firstE, h1]
  | cons x r ih =>
    simp only [firstE] at h0
    split at h0
    · rename_i hx
      simp only [List.cons_append, firstE, hx, if_true]
      exact ih h0
    · rename_i hx; exact (hx h0).elim
theorem firstE_at {α : Type} {f : α → Int} {l : List α} {i : Nat} (h : i < l.length) (h0 : firstE f (l.take i) = 0) (h1 : f l[i] ≠ 0) : firstE f l = f l[i] := by
  induction l generalizing i with
  | nil => cases h
  | cons x r ih =>
    cases i with
    | zero => simp only [List.getElem_cons_zero] at h1 ⊢; simp [firstE, h1]
    | succ i =>
      simp only [List.take_succ_cons, firstE] at h0
      split at h0
      · rename_i hx
        simp only [firstE, hx, if_true, List.getElem_cons_succ]
        exact ih (by simpa using h) h0 (by simpa using h1)
      · rename_i hx; exact (hx h0).elim
theorem need_bad {e x : Int} {w : Went} (h : need e w = .bad x) (hw : w = .bad x → x ≠ 0) : x ≠ 0 := by
  unfold need at h
  split at h
  · exact hw h
  · cases h; assumption
theorem ruleW_bad {m : MetD} {r : RuleD} {e : Int} (h : ruleW m r = .bad e) : e ≠ 0 := by
  unfold ruleW at h
  split at h
  · cases h; decide
  · split at h
    · cases h; decide
    · exact need_bad h fun h => need_bad h fun h => need_bad h fun h => by cases h
theorem headW_bad {m : MetD} {id : Txt} {set : Bool} {alg : Int} {tgt : TgtD} {nr nk : Nat} {obls : List OblD} {e : Int} (h : headW m id set alg tgt nr nk obls = .bad e) : e ≠ 0 := by
  unfold headW at h
  split at h
  · cases h; decide
  · split at h
    · cases h; decide
    · split at h
      · cases h; decide
      · exact need_bad h fun h => need_bad h fun h => by
          split at h
          · cases h; decide
          · cases h
theorem rulesW_split (m : MetD) : ∀ (l : List RuleD) (i : Nat), rulesW m l = (match rulesW m (l.take i) with
    | .bad e => .bad e
    | .ok m1 => rulesW m1 (l.drop i))
  | [], i => by simp [rulesW]
  | r :: l, 0 => by simp [rulesW]
  | r :: l, i + 1 => by
    simp only [List.take_succ_cons, List.drop_succ_cons, rulesW]
    cases ruleW m r with
    | bad e => rfl
    | ok m1 => simp only; exact rulesW_split m1 l i
theorem rulesW_next {m m1 : MetD} {l : List RuleD} {i : Nat} (hi : i < l.length) (h : rulesW m (l.take i) = .ok m1) : rulesW m (l.take (i + 1)) = ruleW m1 l[i] := by
  rw [rulesW_split m _ i, List.take_take, Nat.min_eq_left (by omega), h, List.take_succ_eq_append_getElem hi, List.drop_append_of_le_length (by simp; omega), List.drop_of_length_le (by simp; omega)]
  simp only [List.nil_append, rulesW]
  cases ruleW m1 l[i] <;> rfl
theorem rulesW_stop {m m1 : MetD} {l : List RuleD} {i : Nat} {e : Int} (hi : i < l.length) (h : rulesW m (l.take i) = .ok m1) (hr : ruleW m1 l[i] = .bad e) : rulesW m l = .bad e := by
  rw [rulesW_split m l (i + 1), rulesW_next hi h, hr]
theorem kidsW_split (m : MetD) (d : Nat) : ∀ (l : List PolD) (i : Nat), kidsW m d l = (match kidsW m d (l.take i) with
    | .bad e => .bad e
    | .ok m1 => kidsW m1 d (l.drop i))
  | [], i => by simp [kidsW]
  | r :: l, 0 => by simp [kidsW]
  | r :: l, i + 1 => by
    simp only [List.take_succ_cons, List.drop_succ_cons, kidsW]
    cases polW m d r with
    | bad e => rfl
    | ok m1 => simp only; exact kidsW_split m1 d l i
theorem kidsW_next {m m1 : MetD} {d : Nat} {l : List PolD} {i : Nat} (hi : i < l.length) (h : kidsW m d (l.take i) = .ok m1) : kidsW m d (l.take (i + 1)) = polW m1 d l[i] := by
  rw [kidsW_split m d _ i, List.take_take, Nat.min_eq_left (by omega), h, List.take_succ_eq_append_getElem hi, List.drop_append_of_le_length (by simp; omega), List.drop_of_length_le (by simp; omega)]
  simp only [List.nil_append, kidsW]
  cases polW m1 d l[i] <;> rfl
theorem kidsW_stop {m m1 : MetD} {d : Nat} {l : List PolD} {i : Nat} {e : Int} (hi : i < l.length) (h : kidsW m d (l.take i) = .ok m1) (hr : polW m1 d l[i] = .bad e) : kidsW m d l = .bad e := by
  rw [kidsW_split m d l (i + 1), kidsW_next hi h, hr]
end Go.Bf

set_option linter.unusedVariables false
namespace Go.Bf
open Go Go.Ab
structure TokD where
  kind : Int
  pos : Int
  n : Int
  s : Txt
def tokA (t : TokD) : AV := .agg [.v (.int .i64 t.kind), .v (.int .i64 t.pos), .v (.int .i64 t.n), .s t.s]
def wrd (c : UInt8) : Bool := ltr c || dgt c || (c.toNat : Int) == 95
def decV (l : Txt) : Nat := l.foldl (fun n c => n * 10 + (c.toNat - 48)) 0
def numD (neg : Bool) (s : Txt) : Int × Nat :=
  let d := s.takeWhile dgt
  if d = [] ∨ (1 < d.length ∧ s.head? = some 48) then (0, 0) else
  let v : Int := if neg then -(decV d : Int) else (decV d : Int)
  if -9223372036854775808 ≤ v ∧ v ≤ 9223372036854775807 then (v, d.length) else (0, 0)
def wordD (s : Txt) : Txt := if nameOK (s.takeWhile wrd) then s.takeWhile wrd else []
def hexI (c : UInt8) : Int := if dgt c then (c.toNat : Int) - 48 else if 97 ≤ (c.toNat : Int) ∧ (c.toNat : Int) ≤ 102 then (c.toNat : Int) - 87 else -1
def oddD : Txt → Option UInt8
  | b :: x :: y :: _ => if b = 92 ∧ 0 ≤ hexI x ∧ 0 ≤ hexI y ∧ oddB (UInt8.ofNat (16 * hexI x + hexI y).toNat) = true then some (UInt8.ofNat (16 * hexI x + hexI y).toNat) else none
  | _ => none
def textF : Nat → Txt → Nat → Txt → Txt × Nat
  | 0, _, _, _ => ([], 0)
  | _ + 1, [], _, _ => ([], 0)
  | f + 1, c :: r, at_, out =>
    if c = 34 then (if 64 < out.length then ([], 0) else (out, at_ + 1))
    else if oddB c = false then textF f r (at_ + 1) (out ++ [c])
    else match oddD (c :: r) with
      | some b => textF f (r.drop 2) (at_ + 3) (out ++ [b])
      | none => ([], 0)
def textD (s : Txt) : Txt × Nat := textF s.length (s.drop 1) 1 []
def markB (c : UInt8) : Bool := c ∈ ([123, 125, 40, 41, 46, 44, 59, 61, 60, 62, 33] : Txt)
def beginsD (s : Txt) : TokD × Nat :=
  let c := s.headD 0
  if ltr c then (⟨1, 0, 0, wordD s⟩, (wordD s).length)
  else if dgt c then (⟨2, 0, (numD false s).1, []⟩, (numD false s).2)
  else if c = 45 then (⟨2, 0, (numD true (s.drop 1)).1, []⟩, if (numD true (s.drop 1)).1 = 0 then 0 else (numD true (s.drop 1)).2 + 1)
  else if c = 64 then (⟨3, 0, (numD false (s.drop 1)).1, []⟩, if (numD false (s.drop 1)).2 = 0 ∨ (numD false (s.drop 1)).1 > 1099511627776 then 0 else (numD false (s.drop 1)).2 + 1)
  else if c = 35 then (⟨4, 0, 0, wordD (s.drop 1)⟩, if wordD (s.drop 1) = [] then 0 else (wordD (s.drop 1)).length + 1)
  else if c = 34 then (⟨5, 0, 0, (textD s).1⟩, (textD s).2)
  else if markB c then (⟨6, 0, 0, [c]⟩, 1)
  else (⟨0, 0, 0, []⟩, 0)
inductive Lexed where
  | bad (e : Int) (at_ : Int)
  | ok (l : List TokD)
def blankB (c : UInt8) : Bool := (c.toNat : Int) == 32 || (c.toNat : Int) == 10
def lexF : Nat → Txt → Nat → List TokD → Lexed
  | 0, _, at_, _ => .bad 5 at_
  | _ + 1, [], at_, out => .ok (out ++ [⟨7, at_, 0, []⟩])
  | f + 1, c :: r, at_, out =>
    if blankB c then lexF f r (at_ + 1) out
    else if (beginsD (c :: r)).2 = 0 then .bad 5 at_
    else lexF f ((c :: r).drop (beginsD (c :: r)).2) (at_ + (beginsD (c :: r)).2) (out ++ [{ (beginsD (c :: r)).1 with pos := at_ }])
def lexD (s : Txt) : Lexed := if s.length > 4096 then .bad 6 4096 else lexF (s.length + 1) s 0 []
theorem takeWhile_le (p : UInt8 → Bool) (s : Txt) : (s.takeWhile p).length ≤ s.length := (List.takeWhile_prefix p).length_le
theorem takeWhile_take (p : UInt8 → Bool) (s : Txt) : s.take (s.takeWhile p).length = s.takeWhile p := by
  obtain ⟨t, ht⟩ := List.takeWhile_prefix (l := s) p
  have : s.take (s.takeWhile p).length = (s.takeWhile p ++ t).take (s.takeWhile p).length := by rw [ht]
  rw [this, List.take_left]
theorem numD_le (neg : Bool) (s : Txt) : (numD neg s).2 ≤ s.length := by
  have := takeWhile_le dgt s
  unfold numD
  simp only
  split
  · exact Nat.zero_le _
  · generalize (if neg = true then -(decV (s.takeWhile dgt) : Int) else (decV (s.takeWhile dgt) : Int)) = v
    split
    · exact this
    · exact Nat.zero_le _
theorem wordD_le (s : Txt) : (wordD s).length ≤ s.length := by
  have := takeWhile_le wrd s
  unfold wordD
  split
  · exact this
  · simp
theorem oddD_len {s : Txt} {b : UInt8} (h : oddD s = some b) : 3 ≤ s.length := by
  match s, h with
  | _ :: _ :: _ :: _, _ => simp
theorem textF_le : ∀ (f : Nat) (r : Txt) (at_ : Nat) (out : Txt), (textF f r at_ out).2 ≤ at_ + r.length
  | 0, _, _, _ => by simp [textF]
  | _ + 1, [], _, _ => by simp [textF]
  | f + 1, c :: r, at_, out => by
    simp only [textF]
    split
    · split <;> simp
    · split
      · have := textF_le f r (at_ + 1) (out ++ [c]); simp only [List.length_cons]; omega
      · split
        · rename_i b hb
          have h3 := oddD_len hb
          have := textF_le f (r.drop 2) (at_ + 3) (out ++ [b])
          simp only [List.length_cons, List.length_drop] at this h3 ⊢
          omega
        · simp
theorem beginsD_le (s : Txt) (hs : s ≠ []) : (beginsD s).2 ≤ s.length := by
  have h1 : 1 ≤ s.length := List.length_pos_iff.2 hs
  have hd : (s.drop 1).length = s.length - 1 := by simp
  have k1 := wordD_le s
  have k2 := wordD_le (s.drop 1)
  have k3 := numD_le false s
  have k4 := numD_le false (s.drop 1)
  have k5 := numD_le true (s.drop 1)
  have k6 := textF_le s.length (s.drop 1) 1 []
  unfold beginsD
  simp only
  split
  · exact k1
  split
  · exact k3
  split
  · simp only; split <;> omega
  split
  · simp only; split <;> omega
  split
  · simp only; split <;> omega
  split
  · simp only [textD]; omega
  split
  · simp only; omega
  · simp
end Go.Bf

set_option linter.unusedVariables false
namespace Go.Bf
open Go Go.Ab
structure PS where
  ts : List TokD
  pos : Nat
  rules : Nat
  bad : Int
  place : Int
def hereD (st : PS) : TokD := st.ts.getD st.pos ⟨7, 0, 0, []⟩
def wrongD (st : PS) (e p : Int) : PS := if st.bad = 0 then { st with bad := e, place := p } else st
def stuckD (st : PS) : PS := wrongD st 5 (hereD st).pos
def limitD (st : PS) (more : Bool) : PS := if more then wrongD st 6 (hereD st).pos else st
def isD (st : PS) (s : Txt) : Bool := st.bad == 0 && ((hereD st).s == s && ((hereD st).kind == 1 || (hereD st).kind == 6))
def nextD (st : PS) : PS := { st with pos := st.pos + 1 }
def takeD (st : PS) (s : Txt) : Bool × PS := if isD st s = true then (true, nextD st) else (false, st)
def mustD (st : PS) (s : Txt) : PS := if isD st s = true then nextD st else stuckD st
def nameP (st : PS) : Txt × PS :=
  if (hereD st).kind = 1 ∧ st.bad = 0 then ((hereD st).s, nextD st) else ([], if (hereD st).kind = 1 then st else stuckD st)
def idxT (s : Txt) : List Txt → Option Nat
  | [] => none
  | w :: r => if w = s then some 0 else (idxT s r).map (· + 1)
def amongD (st : PS) (ws : List Txt) : Int × PS := match idxT (hereD st).s ws with
  | some i => if (hereD st).kind = 1 ∧ st.bad = 0 then ((i : Int) + 1, nextD st) else (0, stuckD st)
  | none => (0, stuckD st)
def WfP (st : PS) : Prop := st.pos < st.ts.length ∧ (∀ i (h : i < st.ts.length), st.ts[i].kind ≠ 7 → i + 1 < st.ts.length) ∧ st.ts.length ≤ 5000
theorem hereD_eq {st : PS} (h : st.pos < st.ts.length) : hereD st = st.ts[st.pos] := by
  unfold hereD; rw [List.getD_eq_getElem?_getD, List.getElem?_eq_getElem h]; rfl
theorem wfP_wrong {st : PS} (e p : Int) (h : WfP st) : WfP (wrongD st e p) := by
  unfold wrongD; split <;> exact h
theorem wfP_next {st : PS} (h : WfP st) (hk : (hereD st).kind ≠ 7) : WfP (nextD st) := by
  rw [hereD_eq h.1] at hk
  exact ⟨h.2.1 _ h.1 hk, h.2⟩
theorem isD_kind {st : PS} {s : Txt} (h : isD st s = true) : (hereD st).kind ≠ 7 := by
  simp only [isD, Bool.and_eq_true, Bool.or_eq_true, beq_iff_eq] at h
  obtain ⟨_, _, h | h⟩ := h <;> rw [h] <;> decide
end Go.Bf

set_option linter.unusedVariables false
namespace Go.Bf
open Go Go.Ab
def Ah (st st' : PS) : Prop := WfP st' ∧ st'.ts = st.ts ∧ st.pos ≤ st'.pos
theorem Ah.refl {st : PS} (h : WfP st) : Ah st st := ⟨h, rfl, Nat.le_refl _⟩
theorem Ah.trans {a b c : PS} (x : Ah a b) (y : Ah b c) : Ah a c := ⟨y.1, y.2.1.trans x.2.1, Nat.le_trans x.2.2 y.2.2⟩
theorem ah_wrong {st : PS} (e p : Int) (h : WfP st) : Ah st (wrongD st e p) := ⟨wfP_wrong e p h, by unfold wrongD; split <;> rfl, by unfold wrongD; split <;> exact Nat.le_refl _⟩
theorem ah_next {st : PS} (h : WfP st) (hk : (hereD st).kind ≠ 7) : Ah st (nextD st) := ⟨wfP_next h hk, rfl, Nat.le_succ _⟩
theorem ah_stuck {st : PS} (h : WfP st) : Ah st (stuckD st) := ah_wrong _ _ h
theorem ah_limit {st : PS} (b : Bool) (h : WfP st) : Ah st (limitD st b) := by
  unfold limitD; split
  · exact ah_wrong _ _ h
  · exact .refl h
theorem ah_take {st : PS} (s : Txt) (h : WfP st) : Ah st (takeD st s).2 := by
  unfold takeD; split
  · rename_i hi; exact ah_next h (isD_kind hi)
  · exact .refl h
theorem ah_must {st : PS} (s : Txt) (h : WfP st) : Ah st (mustD st s) := by
  unfold mustD; split
  · rename_i hi; exact ah_next h (isD_kind hi)
  · exact ah_stuck h
theorem ah_name {st : PS} (h : WfP st) : Ah st (nameP st).2 := by
  unfold nameP; split
  · rename_i hi; exact ah_next h (by rw [hi.1]; decide)
  · simp only; split
    · exact .refl h
    · exact ah_stuck h
theorem ah_among {st : PS} (ws : List Txt) (h : WfP st) : Ah st (amongD st ws).2 := by
  unfold amongD; split
  · split
    · rename_i hi; exact ah_next h (by rw [hi.1]; decide)
    · exact ah_stuck h
  · exact ah_stuck h
def catWs : List Txt := [[115, 117, 98, 106, 101, 99, 116], [97, 99, 116, 105, 111, 110], [99, 97, 115, 101], [101, 110, 118]]
def attrP (st : PS) : AttrD × PS :=
  (⟨(amongD st catWs).1, (nameP (mustD (amongD st catWs).2 [46])).1, (takeD (nameP (mustD (amongD st catWs).2 [46])).2 [33]).1⟩, (takeD (nameP (mustD (amongD st catWs).2 [46])).2 [33]).2)
theorem ah_attr {st : PS} (h : WfP st) : Ah st (attrP st).2 := by
  have h1 := ah_among catWs h
  have h2 := ah_must [46] h1.1
  have h3 := ah_name h2.1
  exact ((h1.trans h2).trans h3).trans (ah_take [33] h3.1)
def trueT : Txt := [116, 114, 117, 101]
def falseT : Txt := [102, 97, 108, 115, 101]
def valueV (st : PS) : ValD × PS :=
  if (hereD st).kind = 2 then (⟨2, (hereD st).n, (hereD st).s⟩, st)
  else if (hereD st).kind = 3 then (⟨4, (hereD st).n, (hereD st).s⟩, st)
  else if (hereD st).kind = 4 then (⟨5, (hereD st).n, (hereD st).s⟩, st)
  else if (hereD st).kind = 5 then (⟨3, (hereD st).n, (hereD st).s⟩, st)
  else if isD st trueT then (⟨1, 1, []⟩, st)
  else if isD st falseT then (⟨1, 0, []⟩, st)
  else (⟨0, (hereD st).n, (hereD st).s⟩, stuckD st)
def valueP (st : PS) : ValD × PS := if (valueV st).2.bad = 0 then ((valueV st).1, nextD (valueV st).2) else (⟨0, 0, []⟩, (valueV st).2)
theorem stuck_bad (st : PS) : (stuckD st).bad ≠ 0 := by
  unfold stuckD wrongD; split
  · show (5 : Int) ≠ 0; decide
  · assumption
theorem valueV_cases (st : PS) : (valueV st).2 = st ∧ (hereD st).kind ≠ 7 ∨ (valueV st).2 = stuckD st := by
  unfold valueV
  split
  · rename_i h; exact .inl ⟨rfl, by rw [h]; decide⟩
  split
  · rename_i h; exact .inl ⟨rfl, by rw [h]; decide⟩
  split
  · rename_i h; exact .inl ⟨rfl, by rw [h]; decide⟩
  split
  · rename_i h; exact .inl ⟨rfl, by rw [h]; decide⟩
  split
  · rename_i h; exact .inl ⟨rfl, isD_kind h⟩
  split
  · rename_i h; exact .inl ⟨rfl, isD_kind h⟩
  · exact .inr rfl
theorem ah_value {st : PS} (h : WfP st) : Ah st (valueP st).2 := by
  unfold valueP
  rcases valueV_cases st with ⟨e, hk⟩ | e
  · rw [e]; split
    · exact ah_next h hk
    · exact .refl h
  · rw [e, if_neg (stuck_bad st)]; exact ah_stuck h
def opP (st : PS) : Int × PS :=
  if isD st [61] then (1, nextD st) else if isD st [60] then (2, nextD st) else if isD st [62] then (3, nextD st) else (0, stuckD st)
theorem ah_op {st : PS} (h : WfP st) : Ah st (opP st).2 := by
  unfold opP
  split
  · rename_i hi; exact ah_next h (isD_kind hi)
  split
  · rename_i hi; exact ah_next h (isD_kind hi)
  split
  · rename_i hi; exact ah_next h (isD_kind hi)
  · exact ah_stuck h
def matchP (st : PS) : MatchD × PS := (⟨(attrP st).1, (opP (attrP st).2).1, (valueP (opP (attrP st).2).2).1⟩, (valueP (opP (attrP st).2).2).2)
theorem ah_match {st : PS} (h : WfP st) : Ah st (matchP st).2 := by
  have h1 := ah_attr h
  have h2 := ah_op h1.1
  exact (h1.trans h2).trans (ah_value h2.1)
def manyF {α : Type} (one : PS → α × PS) (w : Txt) (most : Nat) : Nat → PS → List α → List α × PS
  | 0, st, l => (l, st)
  | f + 1, st, l => if isD st w = true then manyF one w most f (limitD (one (nextD st)).2 (decide (most < l.length + 1))) (l ++ [(one (nextD st)).1]) else (l, st)
theorem ah_many {α : Type} {one : PS → α × PS} (ho : ∀ st, WfP st → Ah st (one st).2) (w : Txt) (most : Nat) : ∀ (f : Nat) (st : PS) (l : List α), WfP st → Ah st (manyF one w most f st l).2
  | 0, st, l, h => .refl h
  | f + 1, st, l, h => by
    unfold manyF; split
    · rename_i hi
      have h1 := ah_next h (isD_kind hi)
      have h2 := ho _ h1.1
      have h3 := ah_limit (decide (most < l.length + 1)) h2.1
      exact ((h1.trans h2).trans h3).trans (ah_many ho w most f _ _ h3.1)
    · exact .refl h
def orT : Txt := [111, 114]
def andT : Txt := [97, 110, 100]
def whenT : Txt := [119, 104, 101, 110]
def allP (st : PS) : List MatchD × PS := manyF matchP [44] 8 st.ts.length (matchP st).2 [(matchP st).1]
theorem ah_all {st : PS} (h : WfP st) : Ah st (allP st).2 := (ah_match h).trans (ah_many (fun _ h => ah_match h) _ _ _ _ _ (ah_match h).1)
def anyP (st : PS) : List (List MatchD) × PS :=
  let a := allP (mustD st [40])
  let m := manyF allP orT 8 st.ts.length a.2 [a.1]
  (m.1, mustD m.2 [41])
theorem ah_any {st : PS} (h : WfP st) : Ah st (anyP st).2 := by
  have h0 := ah_must [40] h
  have h1 := ah_all h0.1
  have h2 := ah_many (fun _ h => ah_all h) orT 8 st.ts.length _ [(allP (mustD st [40])).1] h1.1
  exact ((h0.trans h1).trans h2).trans (ah_must [41] h2.1)
def tgtP (st : PS) : TgtD × PS := if isD st whenT = true then manyF anyP andT 8 st.ts.length (anyP (nextD st)).2 [(anyP (nextD st)).1] else ([], st)
theorem ah_tgt {st : PS} (h : WfP st) : Ah st (tgtP st).2 := by
  unfold tgtP; split
  · rename_i hi
    have h0 := ah_next h (isD_kind hi)
    have h1 := ah_any h0.1
    exact (h0.trans h1).trans (ah_many (fun _ h => ah_any h) _ _ _ _ _ h1.1)
  · exact .refl h
end Go.Bf

set_option linter.unusedVariables false
namespace Go.Bf
open Go Go.Ab
def fnWs : List Txt := [[111, 110, 101], [115, 105, 122, 101], [104, 97, 115], [101, 113], [108, 101, 115, 115], [97, 100, 100], [115, 117, 98], [109, 117, 108], [110, 111, 116], [97, 110, 100], [111, 114]]
def opers (op : Int) : List Bool := if op = 3 ∨ op = 4 then [true] else if op = 5 then [true, false] else if op = 11 then [false] else [false, false]
abbrev ExF := PS → List NodeD → (List NodeD × Bool) × PS
def operG (ex : ExF) (st : PS) (l : List NodeD) (must : Bool) : List NodeD × PS :=
  ((ex st l).1.1, if (ex st l).1.2 = must then (ex st l).2 else wrongD (ex st l).2 5 (hereD st).pos)
def opersG (ex : ExF) : List Bool → PS → List NodeD → List NodeD × PS
  | [], st, l => (l, st)
  | b :: bs, st, l => if st.bad = 0 then opersG ex bs (operG ex st l b).2 (operG ex st l b).1 else (l, st)
def funcG (ex : ExF) (st : PS) (l : List NodeD) : (List NodeD × NodeD) × PS :=
  (((opersG ex (opers (2 + (amongD st fnWs).1)) (amongD st fnWs).2 l).1, ⟨2 + (amongD st fnWs).1, ⟨0, 0, []⟩, ⟨0, [], false⟩⟩), mustD (opersG ex (opers (2 + (amongD st fnWs).1)) (amongD st fnWs).2 l).2 [41])
def headG (ex : ExF) (st : PS) (l : List NodeD) : (List NodeD × NodeD) × PS :=
  if isD st [40] = true then funcG ex (nextD st) l
  else if (hereD st).kind = 1 ∧ (hereD st).s ≠ trueT ∧ (hereD st).s ≠ falseT then ((l, ⟨2, ⟨0, 0, []⟩, (attrP st).1⟩), (attrP st).2)
  else ((l, ⟨1, (valueP st).1, ⟨0, [], false⟩⟩), (valueP st).2)
def exprF : Nat → ExF
  | 0, st, l => ((l, false), st)
  | f + 1, st, l => (((headG (exprF f) st l).1.1 ++ [(headG (exprF f) st l).1.2], (headG (exprF f) st l).1.2.op == 2), limitD (headG (exprF f) st l).2 (decide (32 < (headG (exprF f) st l).1.1.length + 1)))
def ExOK (ex : ExF) : Prop := ∀ st l, WfP st → Ah st (ex st l).2 ∧ (ex st l).1.1.length + 2 * st.pos ≤ l.length + 2 * (ex st l).2.pos + 1
theorem operG_ok {ex : ExF} (he : ExOK ex) (st : PS) (l : List NodeD) (b : Bool) (h : WfP st) : Ah st (operG ex st l b).2 ∧ (operG ex st l b).1.length + 2 * st.pos ≤ l.length + 2 * (operG ex st l b).2.pos + 1 := by
  obtain ⟨h1, h2⟩ := he st l h
  unfold operG
  simp only
  split
  · exact ⟨h1, h2⟩
  · refine ⟨h1.trans (ah_wrong _ _ h1.1), ?_⟩
    have : (wrongD (ex st l).2 5 (hereD st).pos).pos = (ex st l).2.pos := by unfold wrongD; split <;> rfl
    rw [this]; exact h2
theorem opersG_ok {ex : ExF} (he : ExOK ex) : ∀ (bs : List Bool) (st : PS) (l : List NodeD), WfP st → Ah st (opersG ex bs st l).2 ∧ (opersG ex bs st l).1.length + 2 * st.pos ≤ l.length + 2 * (opersG ex bs st l).2.pos + bs.length
  | [], st, l, h => ⟨.refl h, by simp [opersG]⟩
  | b :: bs, st, l, h => by
    unfold opersG; split
    · obtain ⟨h1, h2⟩ := operG_ok he st l b h
      obtain ⟨h3, h4⟩ := opersG_ok he bs (operG ex st l b).2 (operG ex st l b).1 h1.1
      exact ⟨h1.trans h3, by simp only [List.length_cons]; omega⟩
    · exact ⟨.refl h, by simp only [List.length_cons]; omega⟩
theorem opers_le (op : Int) : (opers op).length ≤ 2 := by
  unfold opers; repeat' split
  all_goals simp
theorem funcG_ok {ex : ExF} (he : ExOK ex) (st : PS) (l : List NodeD) (h : WfP st) : Ah st (funcG ex st l).2 ∧ (funcG ex st l).1.1.length + 2 * st.pos ≤ l.length + 2 * (funcG ex st l).2.pos + 2 := by
  have h1 := ah_among fnWs h
  obtain ⟨h2, h3⟩ := opersG_ok he (opers (2 + (amongD st fnWs).1)) _ l h1.1
  have h4 := ah_must [41] h2.1
  have := opers_le (2 + (amongD st fnWs).1)
  have p1 := h1.2.2
  have p4 := h4.2.2
  unfold funcG
  exact ⟨(h1.trans h2).trans h4, by simp only; omega⟩
theorem headG_ok {ex : ExF} (he : ExOK ex) (st : PS) (l : List NodeD) (h : WfP st) : Ah st (headG ex st l).2 ∧ (headG ex st l).1.1.length + 2 * st.pos ≤ l.length + 2 * (headG ex st l).2.pos := by
  unfold headG; split
  · rename_i hi
    have h1 := ah_next h (isD_kind hi)
    obtain ⟨h2, h3⟩ := funcG_ok he _ l h1.1
    have : (nextD st).pos = st.pos + 1 := rfl
    exact ⟨h1.trans h2, by omega⟩
  · split
    · have h1 := ah_attr h
      have := h1.2.2
      exact ⟨h1, by simp only; omega⟩
    · have h1 := ah_value h
      have := h1.2.2
      exact ⟨h1, by simp only; omega⟩
theorem exprF_ok : ∀ f, ExOK (exprF f)
  | 0 => fun st l h => ⟨.refl h, by simp [exprF]⟩
  | f + 1 => fun st l h => by
    obtain ⟨h1, h2⟩ := headG_ok (exprF_ok f) st l h
    have h3 := ah_limit (decide (32 < (headG (exprF f) st l).1.1.length + 1)) h1.1
    have := h3.2.2
    refine ⟨h1.trans h3, ?_⟩
    simp only [exprF, List.length_append, List.length_singleton]
    omega
def onWs : List Txt := [[112, 101, 114, 109, 105, 116], [100, 101, 110, 121]]
def dutyWs : List Txt := [[108, 111, 103], [114, 101, 100, 97, 99, 116], [114, 101, 118, 105, 101, 119], [110, 111, 116, 105, 102, 121]]
def onceT : Txt := [111, 110]
def oblP (st : PS) : OblD × PS :=
  (⟨(amongD st onWs).1, (amongD (amongD st onWs).2 dutyWs).1, (nameP (amongD (amongD st onWs).2 dutyWs).2).1⟩, (nameP (amongD (amongD st onWs).2 dutyWs).2).2)
theorem ah_obl {st : PS} (h : WfP st) : Ah st (oblP st).2 := by
  have h1 := ah_among onWs h
  have h2 := ah_among dutyWs h1.1
  exact (h1.trans h2).trans (ah_name h2.1)
def oblsP (st : PS) : List OblD × PS := manyF oblP onceT 8 st.ts.length st []
theorem ah_obls {st : PS} (h : WfP st) : Ah st (oblsP st).2 := ah_many (fun _ h => ah_obl h) _ _ _ _ _ h
end Go.Bf

set_option linter.unusedVariables false
namespace Go.Bf
open Go Go.Ab
inductive Rch (a : PS) : PS → Prop where
  | refl : Rch a a
  | wrong {b : PS} (e p : Int) : Rch a b → (e = 5 ∨ e = 6) → (∃ i, i ≤ b.pos ∧ p = (b.ts.getD i ⟨7, 0, 0, []⟩).pos) → Rch a (wrongD b e p)
  | next {b : PS} : Rch a b → b.bad = 0 → (hereD b).kind ≠ 7 → Rch a (nextD b)
theorem Rch.trans {a b c : PS} (x : Rch a b) (y : Rch b c) : Rch a c := by
  induction y with
  | refl => exact x
  | wrong e p _ h1 h2 ih => exact .wrong e p ih h1 h2
  | next _ h1 h2 ih => exact .next ih h1 h2
theorem rch_stuck (st : PS) : Rch st (stuckD st) := .wrong _ _ .refl (.inl rfl) ⟨st.pos, Nat.le_refl _, rfl⟩
theorem rch_limit (st : PS) (b : Bool) : Rch st (limitD st b) := by
  unfold limitD; split
  · exact .wrong _ _ .refl (.inr rfl) ⟨st.pos, Nat.le_refl _, rfl⟩
  · exact .refl
theorem isD_bad {st : PS} {s : Txt} (h : isD st s = true) : st.bad = 0 := by
  simp only [isD, Bool.and_eq_true, beq_iff_eq] at h; exact h.1
theorem rch_is {st : PS} {s : Txt} (h : isD st s = true) : Rch st (nextD st) := .next .refl (isD_bad h) (isD_kind h)
theorem rch_take (st : PS) (s : Txt) : Rch st (takeD st s).2 := by
  unfold takeD; split
  · rename_i h; exact rch_is h
  · exact .refl
theorem rch_must (st : PS) (s : Txt) : Rch st (mustD st s) := by
  unfold mustD; split
  · rename_i h; exact rch_is h
  · exact rch_stuck _
theorem rch_name (st : PS) : Rch st (nameP st).2 := by
  unfold nameP; split
  · rename_i h; exact .next .refl h.2 (by rw [h.1]; decide)
  · simp only; split
    · exact .refl
    · exact rch_stuck _
theorem rch_among (st : PS) (ws : List Txt) : Rch st (amongD st ws).2 := by
  unfold amongD; split
  · split
    · rename_i h; exact .next .refl h.2 (by rw [h.1]; decide)
    · exact rch_stuck _
  · exact rch_stuck _
theorem rch_attr (st : PS) : Rch st (attrP st).2 := (((rch_among st catWs).trans (rch_must _ [46])).trans (rch_name _)).trans (rch_take _ [33])
theorem rch_value (st : PS) : Rch st (valueP st).2 := by
  unfold valueP
  rcases valueV_cases st with ⟨e, hk⟩ | e
  · rw [e]; split
    · rename_i h; exact .next .refl h hk
    · exact .refl
  · rw [e, if_neg (stuck_bad st)]; exact rch_stuck st
theorem rch_op (st : PS) : Rch st (opP st).2 := by
  unfold opP
  split
  · rename_i h; exact rch_is h
  split
  · rename_i h; exact rch_is h
  split
  · rename_i h; exact rch_is h
  · exact rch_stuck _
theorem rch_match (st : PS) : Rch st (matchP st).2 := ((rch_attr st).trans (rch_op _)).trans (rch_value _)
theorem rch_many {α : Type} {one : PS → α × PS} (ho : ∀ st, Rch st (one st).2) (w : Txt) (most : Nat) : ∀ (f : Nat) (st : PS) (l : List α), Rch st (manyF one w most f st l).2
  | 0, st, l => .refl
  | f + 1, st, l => by
    unfold manyF; split
    · rename_i h
      exact (((rch_is h).trans (ho _)).trans (rch_limit _ _)).trans (rch_many ho w most f _ _)
    · exact .refl
theorem rch_all (st : PS) : Rch st (allP st).2 := (rch_match st).trans (rch_many rch_match _ _ _ _ _)
theorem rch_any (st : PS) : Rch st (anyP st).2 := (((rch_must st [40]).trans (rch_all _)).trans (rch_many rch_all orT 8 st.ts.length _ [(allP (mustD st [40])).1])).trans (rch_must _ [41])
theorem rch_tgt (st : PS) : Rch st (tgtP st).2 := by
  unfold tgtP; split
  · rename_i h; exact ((rch_is h).trans (rch_any _)).trans (rch_many rch_any _ _ _ _ _)
  · exact .refl
theorem rch_obl (st : PS) : Rch st (oblP st).2 := ((rch_among st onWs).trans (rch_among _ dutyWs)).trans (rch_name _)
theorem rch_obls (st : PS) : Rch st (oblsP st).2 := rch_many rch_obl _ _ _ _ _
theorem rch_pos {a b : PS} (h : Rch a b) : b.ts = a.ts ∧ a.pos ≤ b.pos ∧ b.rules = a.rules := by
  induction h with
  | refl => exact ⟨rfl, Nat.le_refl _, rfl⟩
  | wrong e p _ _ _ ih =>
    unfold wrongD; split
    · exact ih
    · exact ih
  | next _ _ _ ih => exact ⟨ih.1, Nat.le_succ_of_le ih.2.1, ih.2.2⟩
theorem rch_oper {ex : ExF} (he : ∀ st l, Rch st (ex st l).2) (st : PS) (l : List NodeD) (b : Bool) : Rch st (operG ex st l b).2 := by
  unfold operG; simp only; split
  · exact he st l
  · have := rch_pos (he st l)
    exact .wrong _ _ (he st l) (.inl rfl) ⟨st.pos, this.2.1, by rw [this.1]; rfl⟩
theorem rch_opers {ex : ExF} (he : ∀ st l, Rch st (ex st l).2) : ∀ (bs : List Bool) (st : PS) (l : List NodeD), Rch st (opersG ex bs st l).2
  | [], st, l => .refl
  | b :: bs, st, l => by
    unfold opersG; split
    · exact (rch_oper he st l b).trans (rch_opers he bs _ _)
    · exact .refl
theorem rch_expr : ∀ (f : Nat) (st : PS) (l : List NodeD), Rch st (exprF f st l).2
  | 0, st, l => .refl
  | f + 1, st, l => by
    refine Rch.trans ?_ (rch_limit _ _)
    unfold headG; split
    · rename_i h
      exact (rch_is h).trans (((rch_among _ fnWs).trans (rch_opers (rch_expr f) _ _ _)).trans (rch_must _ [41]))
    · split
      · exact rch_attr st
      · exact rch_value st
def ifT : Txt := [105, 102]
def permitT : Txt := [112, 101, 114, 109, 105, 116]
def denyT : Txt := [100, 101, 110, 121]
def policyT : Txt := [112, 111, 108, 105, 99, 121]
def setT : Txt := [115, 101, 116]
def kindWs : List Txt := [policyT, setT]
def algWs : List Txt := [[100, 101, 110, 121, 111, 118, 101, 114], [112, 101, 114, 109, 105, 116, 111, 118, 101, 114], [102, 105, 114, 115, 116], [111, 110, 108, 121], [100, 101, 110, 121, 117, 110, 108, 101, 115, 115], [112, 101, 114, 109, 105, 116, 117, 110, 108, 101, 115, 115]]
def condP (st : PS) : List NodeD × PS := if isD st ifT = true then operG (exprF st.ts.length) (nextD st) [] false else ([], st)
theorem rch_cond (st : PS) : Rch st (condP st).2 := by
  unfold condP; split
  · rename_i h; exact (rch_is h).trans (rch_oper (rch_expr _) _ _ _)
  · exact .refl
theorem ah_cond {st : PS} (h : WfP st) : Ah st (condP st).2 := by
  unfold condP; split
  · rename_i hi
    have h1 := ah_next h (isD_kind hi)
    exact h1.trans (operG_ok (exprF_ok _) _ _ _ h1.1).1
  · exact .refl h
def ruleP (deny : Bool) (st : PS) : RuleD × PS :=
  (⟨(nameP st).1, deny, (tgtP (nameP st).2).1, (condP (tgtP (nameP st).2).2).1, (oblsP (condP (tgtP (nameP st).2).2).2).1⟩, mustD (oblsP (condP (tgtP (nameP st).2).2).2).2 [59])
theorem rch_rule (deny : Bool) (st : PS) : Rch st (ruleP deny st).2 := ((((rch_name st).trans (rch_tgt _)).trans (rch_cond _)).trans (rch_obls _)).trans (rch_must _ [59])
theorem ah_rule (deny : Bool) {st : PS} (h : WfP st) : Ah st (ruleP deny st).2 := by
  have h1 := ah_name h
  have h2 := ah_tgt h1.1
  have h3 := ah_cond h2.1
  have h4 := ah_obls h3.1
  exact (((h1.trans h2).trans h3).trans h4).trans (ah_must [59] h4.1)
inductive RchR (a : PS) : PS → Prop where
  | refl : RchR a a
  | small {b c : PS} : RchR a b → Rch b c → RchR a c
  | rule {b : PS} : RchR a b → b.bad = 0 → b.rules ≠ 64 → (hereD b).kind ≠ 7 → RchR a { nextD b with rules := b.rules + 1 }
theorem RchR.trans {a b c : PS} (x : RchR a b) (y : RchR b c) : RchR a c := by
  induction y with
  | refl => exact x
  | small _ h1 ih => exact .small ih h1
  | rule _ h1 h2 h3 ih => exact .rule ih h1 h2 h3
theorem Rch.big {a b : PS} (h : Rch a b) : RchR a b := .small .refl h
def someF : Nat → PS → List RuleD → List RuleD × PS
  | 0, st, l => (l, st)
  | f + 1, st, l => if isD st permitT = true ∨ isD st denyT = true then
      if l.length = 16 ∨ st.rules = 64 then (l, limitD st true)
      else someF f (ruleP (isD st denyT) { nextD st with rules := st.rules + 1 }).2 (l ++ [(ruleP (isD st denyT) { nextD st with rules := st.rules + 1 }).1])
    else (l, st)
abbrev PoF := PS → PolD × PS
def kidsF (pol : PoF) (deep : Bool) : Nat → PS → List PolD → List PolD × PS
  | 0, st, l => (l, st)
  | f + 1, st, l => if isD st policyT = true ∨ isD st setT = true then
      if l.length = 16 ∨ deep = true then (l, limitD st true)
      else kidsF pol deep f (pol st).2 (l ++ [(pol st).1])
    else (l, st)
def headP (st : PS) : (Bool × Txt × Int × TgtD) × PS :=
  (((amongD st kindWs).1 == 2, (nameP (amongD st kindWs).2).1, (amongD (nameP (amongD st kindWs).2).2 algWs).1, (tgtP (amongD (nameP (amongD st kindWs).2).2 algWs).2).1), mustD (tgtP (amongD (nameP (amongD st kindWs).2).2 algWs).2).2 [123])
theorem rch_head (st : PS) : Rch st (headP st).2 := ((((rch_among st kindWs).trans (rch_name _)).trans (rch_among _ algWs)).trans (rch_tgt _)).trans (rch_must _ [123])
theorem ah_head {st : PS} (h : WfP st) : Ah st (headP st).2 := by
  have h1 := ah_among kindWs h
  have h2 := ah_name h1.1
  have h3 := ah_among algWs h2.1
  have h4 := ah_tgt h3.1
  exact (((h1.trans h2).trans h3).trans h4).trans (ah_must [123] h4.1)
def bodyP (pol : PoF) (deep : Bool) (set : Bool) (st : PS) : (List RuleD × List PolD) × PS :=
  if set = true then (([], (kidsF pol deep 17 st []).1), (kidsF pol deep 17 st []).2) else (((someF 17 st []).1, []), (someF 17 st []).2)
def polF : Nat → PoF
  | 0, st => (.mk [] false 0 [] [] [] [], st)
  | r + 1, st => (.mk (headP st).1.2.1 (headP st).1.1 (headP st).1.2.2.1 (headP st).1.2.2.2 (bodyP (polF r) (r == 0) (headP st).1.1 (headP st).2).1.1 (bodyP (polF r) (r == 0) (headP st).1.1 (headP st).2).1.2
      (oblsP (mustD (bodyP (polF r) (r == 0) (headP st).1.1 (headP st).2).2 [125])).1, (oblsP (mustD (bodyP (polF r) (r == 0) (headP st).1.1 (headP st).2).2 [125])).2)
theorem isD_or {st : PS} {a b : Txt} (h : isD st a = true ∨ isD st b = true) : st.bad = 0 ∧ (hereD st).kind ≠ 7 := by
  rcases h with h | h
  · exact ⟨isD_bad h, isD_kind h⟩
  · exact ⟨isD_bad h, isD_kind h⟩
theorem ah_rules {st : PS} (h : WfP st) (hk : (hereD st).kind ≠ 7) : Ah st { nextD st with rules := st.rules + 1 } := ah_next h hk
theorem ah_some : ∀ (f : Nat) (st : PS) (l : List RuleD), WfP st → Ah st (someF f st l).2
  | 0, st, l, h => .refl h
  | f + 1, st, l, h => by
    unfold someF; split
    · rename_i hi
      split
      · exact ah_limit true h
      · have h1 := ah_rules h (isD_or hi).2
        have h2 := ah_rule (isD st denyT) h1.1
        exact (h1.trans h2).trans (ah_some f _ _ h2.1)
    · exact .refl h
theorem rch_some : ∀ (f : Nat) (st : PS) (l : List RuleD), RchR st (someF f st l).2
  | 0, st, l => .refl
  | f + 1, st, l => by
    unfold someF; split
    · rename_i hi
      split
      · exact (rch_limit st true).big
      · rename_i hn
        have h1 : RchR st { nextD st with rules := st.rules + 1 } := .rule .refl (isD_or hi).1 (fun e => hn (.inr e)) (isD_or hi).2
        exact (h1.trans (rch_rule (isD st denyT) _).big).trans (rch_some f _ _)
    · exact .refl
theorem ah_kids {pol : PoF} (hp : ∀ st, WfP st → Ah st (pol st).2) (deep : Bool) : ∀ (f : Nat) (st : PS) (l : List PolD), WfP st → Ah st (kidsF pol deep f st l).2
  | 0, st, l, h => .refl h
  | f + 1, st, l, h => by
    unfold kidsF; split
    · split
      · exact ah_limit true h
      · have h1 := hp st h
        exact h1.trans (ah_kids hp deep f _ _ h1.1)
    · exact .refl h
theorem rch_kids {pol : PoF} (hp : ∀ st, RchR st (pol st).2) (deep : Bool) : ∀ (f : Nat) (st : PS) (l : List PolD), RchR st (kidsF pol deep f st l).2
  | 0, st, l => .refl
  | f + 1, st, l => by
    unfold kidsF; split
    · split
      · exact (rch_limit st true).big
      · exact (hp st).trans (rch_kids hp deep f _ _)
    · exact .refl
theorem ah_body {pol : PoF} (hp : ∀ st, WfP st → Ah st (pol st).2) (deep set : Bool) {st : PS} (h : WfP st) : Ah st (bodyP pol deep set st).2 := by
  unfold bodyP; split
  · exact ah_kids hp deep _ _ _ h
  · exact ah_some _ _ _ h
theorem rch_body {pol : PoF} (hp : ∀ st, RchR st (pol st).2) (deep set : Bool) (st : PS) : RchR st (bodyP pol deep set st).2 := by
  unfold bodyP; split
  · exact rch_kids hp deep _ _ _
  · exact rch_some _ _ _
theorem ah_pol : ∀ (r : Nat) (st : PS), WfP st → Ah st (polF r st).2
  | 0, st, h => .refl h
  | r + 1, st, h => by
    have h1 := ah_head h
    have h2 := ah_body (ah_pol r) (r == 0) (headP st).1.1 h1.1
    have h3 := ah_must [125] h2.1
    exact ((h1.trans h2).trans h3).trans (ah_obls h3.1)
theorem rch_pol : ∀ (r : Nat) (st : PS), RchR st (polF r st).2
  | 0, st => .refl
  | r + 1, st => (((rch_head st).big.trans (rch_body (rch_pol r) _ _ _)).trans (rch_must _ [125]).big).trans (rch_obls _).big
theorem rules_pol {a b : PS} (h : RchR a b) (h0 : a.rules ≤ 64) : b.rules ≤ 64 := by
  induction h with
  | refl => exact h0
  | small _ h1 ih => rw [(rch_pos h1).2.2]; exact ih
  | rule _ _ h2 _ ih => show _ + 1 ≤ 64; omega
end Go.Bf

set_option linter.unusedVariables false
namespace Go.Bf
open Go Go.Ab
theorem lexF_form : ∀ (f : Nat) (s : Txt) (a : Nat) (out l : List TokD), lexF f s a out = .ok l → ∃ pre, l = out ++ pre ++ [⟨7, (a + s.length : Nat), 0, []⟩] ∧ pre.length ≤ s.length ∧ ∀ t ∈ pre, (a : Int) ≤ t.pos ∧ t.pos < ((a + s.length : Nat) : Int)
  | 0, _, _, _, _, h => by simp [lexF] at h
  | f + 1, [], a, out, l, h => by
    simp only [lexF, Lexed.ok.injEq] at h
    exact ⟨[], by simp [← h], by simp, by simp⟩
  | f + 1, c :: r, a, out, l, h => by
    simp only [lexF] at h
    split at h
    · obtain ⟨pre, e1, e2, e3⟩ := lexF_form f r (a + 1) out l h
      have ee : ((a + 1 + r.length : Nat) : Int) = ((a + (c :: r).length : Nat) : Int) := by simp only [List.length_cons]; omega
      refine ⟨pre, by rw [e1, ee], by simp only [List.length_cons]; omega, fun t ht => ?_⟩
      have := e3 t ht
      rw [ee] at this
      exact ⟨by omega, this.2⟩
    · split at h
      · cases h
      · rename_i hn
        have hle := beginsD_le (c :: r) (by simp)
        obtain ⟨pre, e1, e2, e3⟩ := lexF_form f _ _ _ l h
        have ee : ((a + (beginsD (c :: r)).2 + ((c :: r).drop (beginsD (c :: r)).2).length : Nat) : Int) = ((a + (c :: r).length : Nat) : Int) := by rw [List.length_drop]; omega
        refine ⟨{ (beginsD (c :: r)).1 with pos := a } :: pre, by rw [e1, ee]; simp, by rw [List.length_drop] at e2; simp only [List.length_cons] at e2 hle ⊢; omega, fun t ht => ?_⟩
        rcases List.mem_cons.1 ht with rfl | ht
        · refine ⟨Int.le_refl _, ?_⟩
          show (a : Int) < _
          simp only [List.length_cons]; omega
        · have := e3 t ht
          rw [ee] at this
          exact ⟨by omega, this.2⟩
theorem lexD_form {s : Txt} {ts : List TokD} (h : lexD s = .ok ts) : ∃ pre, ts = pre ++ [⟨7, s.length, 0, []⟩] ∧ pre.length ≤ s.length ∧ (∀ t ∈ pre, 0 ≤ t.pos ∧ t.pos < (s.length : Int)) ∧ s.length ≤ 4096 := by
  unfold lexD at h
  split at h
  · cases h
  · rename_i hl
    obtain ⟨pre, e1, e2, e3⟩ := lexF_form _ _ _ _ _ h
    exact ⟨pre, by simpa using e1, e2, by simpa using e3, by omega⟩
theorem wfP_start {s : Txt} {ts : List TokD} (h : lexD s = .ok ts) (x : Nat) (e p : Int) : WfP ⟨ts, 0, x, e, p⟩ := by
  obtain ⟨pre, rfl, h2, _, h3⟩ := lexD_form h
  refine ⟨by simp, fun i hi hk => ?_, by simp; omega⟩
  by_cases hl : i < pre.length
  · simp; omega
  · exfalso
    simp only [List.length_append, List.length_singleton] at hi
    have : i = pre.length := by omega
    subst this
    apply hk
    simp
theorem lexF_bad : ∀ (f : Nat) (s : Txt) (a : Nat) (out : List TokD) (e p : Int), lexF f s a out = .bad e p → e = 5 ∧ 0 ≤ p ∧ (s.length < f → p ≤ ((a + s.length : Nat) : Int))
  | 0, s, a, out, e, p, h => by
    simp only [lexF, Lexed.bad.injEq] at h
    obtain ⟨rfl, rfl⟩ := h
    exact ⟨rfl, by omega, by omega⟩
  | f + 1, [], a, out, e, p, h => by simp [lexF] at h
  | f + 1, c :: r, a, out, e, p, h => by
    simp only [lexF] at h
    split at h
    · obtain ⟨h1, h2, h3⟩ := lexF_bad f r (a + 1) out e p h
      refine ⟨h1, h2, fun hl => ?_⟩
      simp only [List.length_cons] at hl ⊢
      have := h3 (by omega)
      omega
    · split at h
      · simp only [Lexed.bad.injEq] at h
        obtain ⟨rfl, rfl⟩ := h
        exact ⟨rfl, by omega, fun _ => by omega⟩
      · obtain ⟨h1, h2, h3⟩ := lexF_bad f _ _ _ e p h
        refine ⟨h1, h2, fun hl => ?_⟩
        have hle := beginsD_le (c :: r) (by simp)
        rw [List.length_drop] at h3
        have := h3 (by omega)
        omega
theorem lexD_bad {s : Txt} {e a : Int} (h : lexD s = .bad e a) : (e = 5 ∨ e = 6) ∧ 0 ≤ a ∧ a ≤ s.length := by
  unfold lexD at h
  split at h
  · simp only [Lexed.bad.injEq] at h
    obtain ⟨rfl, rfl⟩ := h
    exact ⟨.inr rfl, by omega, by omega⟩
  · obtain ⟨h1, h2, h3⟩ := lexF_bad _ _ _ _ _ _ h
    have := h3 (by omega)
    exact ⟨.inl h1, h2, by omega⟩
def zeroP : PolD := .mk [] false 0 [] [] [] []
def endP (s : Txt) (x : PolD × PS) : PS :=
  if (if (hereD x.2).kind = 7 then x.2 else stuckD x.2).bad = 0 ∧ rightE x.1 ≠ 0 then wrongD (if (hereD x.2).kind = 7 then x.2 else stuckD x.2) 5 s.length else (if (hereD x.2).kind = 7 then x.2 else stuckD x.2)
def parseT (s : Txt) (ts : List TokD) : PolD × Int × Int :=
  if (endP s (polF 4 ⟨ts, 0, 0, 0, 0⟩)).bad = 0 then ((polF 4 ⟨ts, 0, 0, 0, 0⟩).1, 0, 0) else (zeroP, (endP s (polF 4 ⟨ts, 0, 0, 0, 0⟩)).bad, (endP s (polF 4 ⟨ts, 0, 0, 0, 0⟩)).place)
def parseD (s : Txt) : PolD × Int × Int := match lexD s with
  | .bad e a => (zeroP, e, a)
  | .ok ts => parseT s ts
end Go.Bf

set_option linter.unusedSimpArgs false
set_option linter.unusedVariables false
namespace Go.Bf
open Go Go.Ab
end Go.Bf

set_option linter.unusedSimpArgs false
set_option linter.unusedVariables false
namespace Go.Bf
open Go Go.Ab
def inV (v : ValD) : Prop := -9223372036854775808 ≤ v.n ∧ v.n ≤ 9223372036854775807
end Go.Bf

set_option linter.unusedSimpArgs false
set_option linter.unusedVariables false
namespace Go.Bf
open Go Go.Ab
def er (t : TokD) : TokD := ⟨t.kind, 0, t.n, t.s⟩
def wdK (s : Txt) : TokD := ⟨1, 0, 0, s⟩
def mkK (c : UInt8) : TokD := ⟨6, 0, 0, [c]⟩
def Sep (r : Txt) : Prop := ∀ c l, r = c :: l → wrd c = false
theorem Sep.nil : Sep [] := fun _ _ h => by cases h
def Lx (b : Bool) (s : Txt) (ks : List TokD) : Prop := ∀ (rest : Txt) (f a : Nat) (out : List TokD), (b = true → Sep rest) → (s ++ rest).length < f →
  ∃ f' new, rest.length < f' ∧ new.map er = ks ∧ lexF f (s ++ rest) a out = lexF f' rest (a + s.length) (out ++ new)
theorem Lx.weaken {b : Bool} {s : Txt} {ks : List TokD} (h : Lx b s ks) : Lx true s ks := fun rest f a out hr hf => h rest f a out (fun _ => hr rfl) hf
theorem Lx.nil (b : Bool) : Lx b [] [] := fun rest f a out _ hf => ⟨f, [], by simpa using hf, rfl, by simp⟩
theorem Lx.app {b1 b2 : Bool} {s1 s2 : Txt} {k1 k2 : List TokD} (h1 : Lx b1 s1 k1) (h2 : Lx b2 s2 k2) (hs : b1 = true → ∀ rest, (b2 = true → Sep rest) → Sep (s2 ++ rest)) : Lx b2 (s1 ++ s2) (k1 ++ k2) := fun rest f a out hr hf => by
  rw [List.append_assoc] at hf ⊢
  obtain ⟨f1, n1, g1, g2, g3⟩ := h1 (s2 ++ rest) f a out (fun hb => hs hb rest hr) hf
  obtain ⟨f2, n2, g4, g5, g6⟩ := h2 rest f1 (a + s1.length) (out ++ n1) hr g1
  refine ⟨f2, n1 ++ n2, g4, by rw [List.map_append, g2, g5], ?_⟩
  rw [g3, g6, List.append_assoc, List.length_append, Nat.add_assoc]
end Go.Bf

set_option linter.unusedSimpArgs false
set_option linter.unusedVariables false
namespace Go.Bf
open Go Go.Ab
def valK (v : ValD) : TokD :=
  if v.kind = 1 then wdK (Lib.formatBool (v.n == 1)) else if v.kind = 4 then ⟨3, 0, v.n, []⟩ else if v.kind = 5 then ⟨4, 0, 0, v.s⟩ else if v.kind = 3 then ⟨5, 0, 0, v.s⟩ else ⟨2, 0, v.n, []⟩
end Go.Bf

set_option linter.unusedSimpArgs false
set_option linter.unusedVariables false
namespace Go.Bf
open Go Go.Ab
def attrK (a : AttrD) : List TokD := [wdK (catW a.cat), mkK 46, wdK a.name] ++ (if a.must then [mkK 33] else [])
end Go.Bf

set_option linter.unusedSimpArgs false
set_option linter.unusedVariables false
namespace Go.Bf
open Go Go.Ab
def zV : ValD := ⟨0, 0, []⟩
def zA : AttrD := ⟨0, [], false⟩
inductive Tree : List NodeD → Bool → Txt → List TokD → Prop
  | lit (v : ValD) (h : valOK v = true) (hi : inV v) : Tree [⟨1, v, zA⟩] false (valT v) [valK v]
  | attr (a : AttrD) (h : attrOK a = true) : Tree [⟨2, zV, a⟩] true (attrT a) (attrK a)
  | one {op : Int} {w : Bool} {l : List NodeD} {t : Txt} {k : List TokD} (ho : op = 3 ∧ w = true ∨ op = 4 ∧ w = true ∨ op = 11 ∧ w = false) (h : Tree l w t k) :
      Tree (l ++ [⟨op, zV, zA⟩]) false ([40] ++ fnW op ++ [32] ++ t ++ [41]) ([mkK 40, wdK (fnW op)] ++ k ++ [mkK 41])
  | two {op : Int} {w1 w2 : Bool} {l1 l2 : List NodeD} {t1 t2 : Txt} {k1 k2 : List TokD} (ho : op = 5 ∧ w1 = true ∧ w2 = false ∨ 6 ≤ op ∧ op ≤ 13 ∧ op ≠ 11 ∧ w1 = false ∧ w2 = false) (h1 : Tree l1 w1 t1 k1) (h2 : Tree l2 w2 t2 k2) :
      Tree (l1 ++ l2 ++ [⟨op, zV, zA⟩]) false ([40] ++ fnW op ++ [32] ++ (t1 ++ [32] ++ t2) ++ [41]) ([mkK 40, wdK (fnW op)] ++ (k1 ++ k2) ++ [mkK 41])
end Go.Bf

set_option linter.unusedSimpArgs false
set_option linter.unusedVariables false
namespace Go.Bf
open Go Go.Ab
end Go.Bf

set_option linter.unusedSimpArgs false
set_option linter.unusedVariables false
namespace Go.Bf
open Go Go.Ab
def St (a b : PS) : Prop := b.rules = a.rules ∧ b.ts = a.ts
theorem St.refl (a : PS) : St a a := ⟨rfl, rfl⟩
theorem St.trans {a b c : PS} (x : St a b) (y : St b c) : St a c := ⟨y.1.trans x.1, y.2.trans x.2⟩
end Go.Bf

set_option linter.unusedSimpArgs false
set_option linter.unusedVariables false
namespace Go.Bf
open Go Go.Ab
end Go.Bf

set_option linter.unusedSimpArgs false
set_option linter.unusedVariables false
namespace Go.Bf
open Go Go.Ab
end Go.Bf

set_option linter.unusedVariables false
namespace Go.Bf
open Go Go.Ab
end Go.Bf

set_option linter.unusedSimpArgs false
set_option linter.unusedVariables false
namespace Go.Bf
open Go Go.Ab
end Go.Bf

set_option linter.unusedSimpArgs false
set_option linter.unusedVariables false
namespace Go.Bf
open Go Go.Ab
def withinD (m : Int) (b : Nat) : Nat := (if m.tmod (b + 1) < 0 then m.tmod (b + 1) + (b + 1) else m.tmod (b + 1)).toNat
theorem withinD_le (m : Int) (b : Nat) : withinD m b ≤ b := by
  have t1 := Int.tmod_lt_of_pos m (show (0 : Int) < b + 1 by omega)
  have t2 := Int.lt_tmod_of_pos m (show (0 : Int) < b + 1 by omega)
  unfold withinD
  split <;> omega
end Go.Bf

set_option linter.unusedSimpArgs false
set_option linter.unusedVariables false
namespace Go.Bf
open Go Go.Ab
theorem wrong_frozen {st : PS} (h : st.bad ≠ 0) (e p : Int) : wrongD st e p = st := by unfold wrongD; rw [if_neg h]
theorem rch_frozen {a b : PS} (h : Rch a b) (hb : a.bad ≠ 0) : b = a := by
  induction h with
  | refl => rfl
  | wrong e p _ _ _ ih => subst ih; exact wrong_frozen hb e p
  | next _ h0 _ ih => subst ih; exact absurd h0 hb
theorem rchR_frozen {a b : PS} (h : RchR a b) (hb : a.bad ≠ 0) : b = a := by
  induction h with
  | refl => rfl
  | small _ h1 ih => subst ih; exact rch_frozen h1 hb
  | rule _ h0 _ _ ih => subst ih; exact absurd h0 hb
theorem end_bad {s : Txt} {x : PolD × PS} (hb : x.2.bad ≠ 0) : endP s x = x.2 := by
  have h1 : stuckD x.2 = x.2 := wrong_frozen hb _ _
  unfold endP
  rw [h1, ite_self, if_neg (fun h => hb h.1)]
theorem parse_bad {s : Txt} {ts : List TokD} {st : PS} (h : (polF 4 ⟨ts, 0, 0, 0, 0⟩).2 = st) (hb : st.bad ≠ 0) : parseT s ts = (zeroP, st.bad, st.place) := by
  have e : endP s (polF 4 ⟨ts, 0, 0, 0, 0⟩) = st := by rw [end_bad (by rw [h]; exact hb), h]
  unfold parseT
  rw [e, if_neg hb]
end Go.Bf

set_option linter.unusedSimpArgs false
set_option linter.unusedVariables false
namespace Go.Bf
open Go Go.Ab
structure Sm (n : Nat) (a b : PS) : Prop where
  tok : ∀ i, i < n → er (a.ts.getD i ⟨7, 0, 0, []⟩) = er (b.ts.getD i ⟨7, 0, 0, []⟩)
  pos : a.pos = b.pos
  rules : a.rules = b.rules
  bad : a.bad = b.bad
  fa : n ≤ a.ts.length
  fb : n ≤ b.ts.length
def SV {α : Type} (n : Nat) (x y : α × PS) : Prop := n ≤ x.2.pos ∨ (x.1 = y.1 ∧ Sm n x.2 y.2)
def SP (n : Nat) (a b : PS) : Prop := n ≤ a.pos ∨ Sm n a b
theorem Sm.dead {n : Nat} {a c : PS} (h : n ≤ a.pos) (r : Rch a c) : n ≤ c.pos := Nat.le_trans h (rch_pos r).2.1
theorem rchR_pos {a b : PS} (h : RchR a b) : b.ts = a.ts ∧ a.pos ≤ b.pos := by
  induction h with
  | refl => exact ⟨rfl, Nat.le_refl _⟩
  | small _ h1 ih => exact ⟨(rch_pos h1).1.trans ih.1, Nat.le_trans ih.2 (rch_pos h1).2.1⟩
  | rule _ _ _ _ ih => exact ⟨ih.1, Nat.le_succ_of_le ih.2⟩
theorem Sm.here {n : Nat} {a b : PS} (h : Sm n a b) (hp : a.pos < n) : (hereD a).kind = (hereD b).kind ∧ (hereD a).n = (hereD b).n ∧ (hereD a).s = (hereD b).s := by
  have := h.tok a.pos hp
  unfold hereD
  rw [← h.pos]
  simp only [er, TokD.mk.injEq] at this
  exact ⟨this.1, this.2.2.1, this.2.2.2⟩
theorem Sm.is {n : Nat} {a b : PS} (h : Sm n a b) (hp : a.pos < n) (w : Txt) : isD a w = isD b w := by
  obtain ⟨h1, h2, h3⟩ := h.here hp
  unfold isD
  rw [h.bad, h1, h3]
theorem Sm.next {n : Nat} {a b : PS} (h : Sm n a b) : Sm n (nextD a) (nextD b) := ⟨h.tok, by show a.pos + 1 = b.pos + 1; rw [h.pos], h.rules, h.bad, h.fa, h.fb⟩
theorem Sm.wrong {n : Nat} {a b : PS} (h : Sm n a b) (e p q : Int) : Sm n (wrongD a e p) (wrongD b e q) := by
  unfold wrongD
  rw [h.bad]
  split
  · exact ⟨h.tok, h.pos, h.rules, rfl, h.fa, h.fb⟩
  · exact h
theorem Sm.stuck {n : Nat} {a b : PS} (h : Sm n a b) : Sm n (stuckD a) (stuckD b) := h.wrong _ _ _
theorem Sm.limit {n : Nat} {a b : PS} (h : Sm n a b) (x : Bool) : Sm n (limitD a x) (limitD b x) := by
  unfold limitD; split
  · exact h.wrong _ _ _
  · exact h
theorem SP.of {n : Nat} {a b : PS} {f : PS → PS} (h : SP n a b) (r : ∀ a, Rch a (f a)) (k : ∀ a b, Sm n a b → a.pos < n → SP n (f a) (f b)) : SP n (f a) (f b) := by
  rcases h with h | h
  · exact .inl (Sm.dead h (r a))
  · by_cases hp : a.pos < n
    · exact k a b h hp
    · exact .inl (Sm.dead (Nat.not_lt.1 hp) (r a))
theorem SV.of {α : Type} {n : Nat} {a b : PS} {f : PS → α × PS} (h : SP n a b) (r : ∀ a, Rch a (f a).2) (k : ∀ a b, Sm n a b → a.pos < n → SV n (f a) (f b)) : SV n (f a) (f b) := by
  rcases h with h | h
  · exact .inl (Sm.dead h (r a))
  · by_cases hp : a.pos < n
    · exact k a b h hp
    · exact .inl (Sm.dead (Nat.not_lt.1 hp) (r a))
theorem SV.bind {α β : Type} {n : Nat} {x y : α × PS} {F : α → PS → β × PS} (h : SV n x y) (r : ∀ v s, Rch s (F v s).2) (k : ∀ v a b, Sm n a b → SV n (F v a) (F v b)) : SV n (F x.1 x.2) (F y.1 y.2) := by
  rcases h with h | ⟨e, h⟩
  · exact .inl (Sm.dead h (r _ _))
  · rw [e]; exact k _ _ _ h
theorem SV.st {α : Type} {n : Nat} {x y : α × PS} (h : SV n x y) : SP n x.2 y.2 := h.imp id (·.2)
theorem sp_must {n : Nat} {a b : PS} (h : SP n a b) (w : Txt) : SP n (mustD a w) (mustD b w) := h.of (f := fun a => mustD a w) (fun a => rch_must a w) fun a b h hp => by
  unfold mustD
  rw [h.is hp]
  split
  · exact .inr h.next
  · exact .inr h.stuck
theorem sv_must {α : Type} {n : Nat} {a b : PS} (v : α) (h : SP n a b) (w : Txt) : SV n (v, mustD a w) (v, mustD b w) := (sp_must h w).imp id fun h => ⟨rfl, h⟩
theorem sv_take {n : Nat} {a b : PS} (h : SP n a b) (w : Txt) : SV n (takeD a w) (takeD b w) := SV.of (f := fun a => takeD a w) h (fun a => rch_take a w) fun a b h hp => by
  unfold takeD
  rw [h.is hp]
  split
  · exact .inr ⟨rfl, h.next⟩
  · exact .inr ⟨rfl, h⟩
theorem sm_name {n : Nat} {a b : PS} (h : Sm n a b) (hp : a.pos < n) : (nameP a).1 = (nameP b).1 ∧ Sm n (nameP a).2 (nameP b).2 := by
  obtain ⟨h1, _, h3⟩ := h.here hp
  unfold nameP
  rw [h1, h.bad, h3]
  split
  · exact ⟨rfl, h.next⟩
  · refine ⟨rfl, ?_⟩
    simp only
    split
    · exact h
    · exact h.stuck
theorem sv_name {n : Nat} {a b : PS} (h : SP n a b) : SV n (nameP a) (nameP b) := SV.of (f := nameP) h rch_name fun a b h hp => .inr (sm_name h hp)
theorem sm_among {n : Nat} {a b : PS} (h : Sm n a b) (hp : a.pos < n) (ws : List Txt) : (amongD a ws).1 = (amongD b ws).1 ∧ Sm n (amongD a ws).2 (amongD b ws).2 := by
  obtain ⟨h1, _, h3⟩ := h.here hp
  unfold amongD
  rw [h1, h.bad, h3]
  split
  · split
    · exact ⟨rfl, h.next⟩
    · exact ⟨rfl, h.stuck⟩
  · exact ⟨rfl, h.stuck⟩
theorem sv_among {n : Nat} {a b : PS} (h : SP n a b) (ws : List Txt) : SV n (amongD a ws) (amongD b ws) := SV.of (f := fun a => amongD a ws) h (fun a => rch_among a ws) fun a b h hp => .inr (sm_among h hp ws)
theorem SV.seq {α β γ : Type} {n : Nat} {f : PS → α × PS} {g : PS → β × PS} (c : α → β → γ) (rf : ∀ a, Rch a (f a).2) (rg : ∀ a, Rch a (g a).2) (hf : ∀ a b, SP n a b → SV n (f a) (f b)) (hg : ∀ a b, SP n a b → SV n (g a) (g b)) {a b : PS} (h : SP n a b) :
    SV n (c (f a).1 (g (f a).2).1, (g (f a).2).2) (c (f b).1 (g (f b).2).1, (g (f b).2).2) := by
  rcases hf a b h with h1 | ⟨e1, h1⟩
  · exact .inl (Sm.dead h1 (rg _))
  · rcases hg _ _ (.inr h1) with h2 | ⟨e2, h2⟩
    · exact .inl h2
    · exact .inr ⟨by rw [e1, e2], h2⟩
theorem sv_attr {n : Nat} {a b : PS} (h : SP n a b) : SV n (attrP a) (attrP b) :=
  SV.seq (f := fun s => amongD s catWs) (g := fun s => (((nameP (mustD s [46])).1, (takeD (nameP (mustD s [46])).2 [33]).1), (takeD (nameP (mustD s [46])).2 [33]).2)) (fun x y => (⟨x, y.1, y.2⟩ : AttrD))
    (fun s => rch_among s _) (fun s => ((rch_must s _).trans (rch_name _)).trans (rch_take _ _)) (fun a b h => sv_among h _)
    (fun a b h => SV.seq (f := nameP) (g := fun s => takeD s [33]) (fun x y => (x, y)) rch_name (fun s => rch_take s _) (fun a b h => sv_name h) (fun a b h => sv_take h _) (sp_must h _)) h
theorem sv_value {n : Nat} {a b : PS} (h : SP n a b) : SV n (valueP a) (valueP b) := SV.of (f := valueP) h rch_value fun a b h hp => by
  obtain ⟨h1, h2, h3⟩ := h.here hp
  have hv : (valueV a).1 = (valueV b).1 ∧ Sm n (valueV a).2 (valueV b).2 := by
    unfold valueV
    rw [h1, h2, h3, h.is hp, h.is hp]
    (repeat' split) <;> first | exact ⟨rfl, h⟩ | exact ⟨rfl, h.stuck⟩
  unfold valueP
  rw [hv.1, hv.2.bad]
  split
  · exact .inr ⟨rfl, hv.2.next⟩
  · exact .inr ⟨rfl, hv.2⟩
theorem sv_op {n : Nat} {a b : PS} (h : SP n a b) : SV n (opP a) (opP b) := SV.of (f := opP) h rch_op fun a b h hp => by
  unfold opP
  rw [h.is hp, h.is hp, h.is hp]
  (repeat' split) <;> first | exact .inr ⟨rfl, h.next⟩ | exact .inr ⟨rfl, h.stuck⟩
theorem sv_match {n : Nat} {a b : PS} (h : SP n a b) : SV n (matchP a) (matchP b) :=
  SV.seq (f := attrP) (g := fun s => (((opP s).1, (valueP (opP s).2).1), (valueP (opP s).2).2)) (fun x y => (⟨x, y.1, y.2⟩ : MatchD)) rch_attr (fun s => (rch_op s).trans (rch_value _)) (fun a b h => sv_attr h)
    (fun a b h => SV.seq (f := opP) (g := valueP) (fun x y => (x, y)) rch_op rch_value (fun a b h => sv_op h) (fun a b h => sv_value h) h) h
theorem sv_many {α : Type} {n : Nat} {one : PS → α × PS} (ro : ∀ s, Rch s (one s).2) (ho : ∀ a b, SP n a b → SV n (one a) (one b)) (w : Txt) (most : Nat) : ∀ (f g : Nat) (a b : PS) (l : List α), n ≤ f + a.pos → n ≤ g + a.pos → SP n a b → SV n (manyF one w most f a l) (manyF one w most g b l) := by
  intro f
  induction f with
  | zero => intro g a b l hf hg h; exact .inl (by simpa [manyF] using hf)
  | succ f ih =>
    intro g a b l hf hg h
    by_cases hp : n ≤ a.pos
    · exact .inl (Sm.dead hp (rch_many ro w most _ _ _))
    have hp := Nat.not_le.1 hp
    obtain ⟨g, rfl⟩ : ∃ g', g = g' + 1 := ⟨g - 1, by omega⟩
    have h := h.resolve_left (by omega)
    unfold manyF
    rw [h.is hp]
    split
    · have h1 := ho _ _ (.inr h.next)
      have hpos := (rch_pos ((ro (nextD a)).trans (rch_limit _ (decide (most < l.length + 1))))).2.1
      have : (nextD a).pos = a.pos + 1 := rfl
      rcases h1 with h1 | ⟨e1, h1⟩
      · exact .inl (Sm.dead h1 ((rch_limit _ _).trans (rch_many ro w most _ _ _)))
      · rw [e1]
        exact ih g _ _ _ (by omega) (by omega) (.inr (h1.limit _))
    · exact .inr ⟨rfl, h⟩
theorem SP.fuel {n : Nat} {a b : PS} (h : SP n a b) : n ≤ a.ts.length + a.pos ∧ (n ≤ a.pos ∨ n ≤ b.ts.length + a.pos) := by
  rcases h with h | h
  · exact ⟨by omega, .inl h⟩
  · have := h.fa
    have := h.fb
    exact ⟨by omega, .inr (by omega)⟩
theorem sv_manyT {α : Type} {n : Nat} {one : PS → α × PS} (ro : ∀ s, Rch s (one s).2) (ho : ∀ a b, SP n a b → SV n (one a) (one b)) (w : Txt) (most : Nat) {a b : PS} (l : List α) {f g : Nat} (hf : a.ts.length = f) (hg : b.ts.length = g) (h : SP n a b) : SV n (manyF one w most f a l) (manyF one w most g b l) := by
  obtain ⟨h1, h2⟩ := h.fuel
  rcases h2 with h2 | h2
  · exact .inl (Sm.dead h2 (rch_many ro w most _ _ _))
  · exact sv_many ro ho w most _ _ _ _ l (by omega) (by omega) h
theorem sv_all {n : Nat} {a b : PS} (h : SP n a b) : SV n (allP a) (allP b) := by
  unfold allP
  rcases sv_match h with h1 | ⟨e1, h1⟩
  · exact .inl (Sm.dead h1 (rch_many rch_match _ _ _ _ _))
  · rw [e1]
    exact sv_manyT rch_match (fun a b h => sv_match h) _ _ _ (congrArg List.length (rch_pos (rch_match a)).1) (congrArg List.length (rch_pos (rch_match b)).1) (.inr h1)
theorem sv_any {n : Nat} {a b : PS} (h : SP n a b) : SV n (anyP a) (anyP b) := by
  unfold anyP
  simp only
  rcases sv_all (sp_must h [40]) with h1 | ⟨e1, h1⟩
  · exact .inl (Sm.dead h1 ((rch_many rch_all _ _ _ _ _).trans (rch_must _ _)))
  · rw [e1]
    have ta : (allP (mustD a [40])).2.ts.length = a.ts.length := by rw [(rch_pos ((rch_must a [40]).trans (rch_all _))).1]
    have tb : (allP (mustD b [40])).2.ts.length = b.ts.length := by rw [(rch_pos ((rch_must b [40]).trans (rch_all _))).1]
    rcases sv_manyT rch_all (fun a b h => sv_all h) orT 8 [(allP (mustD b [40])).1] ta tb (.inr h1) with h2 | ⟨e2, h2⟩
    · exact .inl (Sm.dead h2 (rch_must _ _))
    · rw [e2]; exact sv_must _ (.inr h2) _
theorem sv_tgt {n : Nat} {a b : PS} (h : SP n a b) : SV n (tgtP a) (tgtP b) := SV.of (f := tgtP) h rch_tgt fun a b h hp => by
  unfold tgtP
  rw [h.is hp]
  split
  · rcases sv_any (.inr h.next) with h1 | ⟨e1, h1⟩
    · exact .inl (Sm.dead h1 (rch_many rch_any _ _ _ _ _))
    · rw [e1]
      exact sv_manyT rch_any (fun a b h => sv_any h) _ _ _ (by rw [(rch_pos (rch_any (nextD a))).1]; rfl) (by rw [(rch_pos (rch_any (nextD b))).1]; rfl) (.inr h1)
  · exact .inr ⟨rfl, h⟩
def SX (n p : Nat) (ea eb : ExF) : Prop := ∀ a b l, p ≤ a.pos → SP n a b → SV n (ea a l) (eb b l)
theorem sv_oper {n p : Nat} {ea eb : ExF} (ra : ∀ s l, Rch s (ea s l).2) (he : SX n p ea eb) {a b : PS} (hp : p ≤ a.pos) (h : SP n a b) (l : List NodeD) (must : Bool) : SV n (operG ea a l must) (operG eb b l must) := by
  unfold operG
  rcases he a b l hp h with h1 | ⟨e1, h1⟩
  · refine .inl ?_
    simp only
    split
    · exact h1
    · have : (wrongD (ea a l).2 5 (hereD a).pos).pos = (ea a l).2.pos := by unfold wrongD; split <;> rfl
      rw [this]; exact h1
  · rw [e1]
    refine .inr ⟨rfl, ?_⟩
    simp only
    split
    · exact h1
    · exact h1.wrong _ _ _
theorem sv_opers {n p : Nat} {ea eb : ExF} (ra : ∀ s l, Rch s (ea s l).2) (he : SX n p ea eb) : ∀ (bs : List Bool) {a b : PS} (l : List NodeD), p ≤ a.pos → SP n a b → SV n (opersG ea bs a l) (opersG eb bs b l)
  | [], a, b, l, hp, h => h.imp id fun h => ⟨rfl, h⟩
  | x :: bs, a, b, l, hp, h => by
    rcases h with h | h
    · exact .inl (Sm.dead h (rch_opers ra _ _ _))
    unfold opersG
    rw [h.bad]
    split
    · rcases sv_oper ra he hp (.inr h) l x with h1 | ⟨e1, h1⟩
      · exact .inl (Sm.dead h1 (rch_opers ra _ _ _))
      · rw [e1]; exact sv_opers ra he bs _ (Nat.le_trans hp (rch_pos (rch_oper ra a l x)).2.1) (.inr h1)
    · exact .inr ⟨rfl, h⟩
theorem sv_func {n p : Nat} {ea eb : ExF} (ra : ∀ s l, Rch s (ea s l).2) (he : SX n p ea eb) {a b : PS} (hp : p ≤ a.pos) (h : SP n a b) (l : List NodeD) : SV n (funcG ea a l) (funcG eb b l) := by
  unfold funcG
  rcases sv_among h fnWs with h1 | ⟨e1, h1⟩
  · exact .inl (Sm.dead h1 ((rch_opers ra _ _ _).trans (rch_must _ _)))
  · rw [e1]
    rcases sv_opers ra he (opers (2 + (amongD b fnWs).1)) l (Nat.le_trans hp (rch_pos (rch_among a fnWs)).2.1) (.inr h1) with h2 | ⟨e2, h2⟩
    · exact .inl (Sm.dead h2 (rch_must _ _))
    · rw [e2]; exact sv_must _ (.inr h2) _
theorem sv_expr {n : Nat} : ∀ (f g : Nat) (a b : PS) (l : List NodeD), n ≤ f + a.pos → n ≤ g + a.pos → SP n a b → SV n (exprF f a l) (exprF g b l)
  | 0, g, a, b, l, hf, hg, h => .inl (by simpa [exprF] using hf)
  | f + 1, g, a, b, l, hf, hg, h => by
    by_cases hp : n ≤ a.pos
    · exact .inl (Sm.dead hp (rch_expr _ _ _))
    have hp := Nat.not_le.1 hp
    obtain ⟨g, rfl⟩ : ∃ g', g = g' + 1 := ⟨g - 1, by omega⟩
    have h := h.resolve_left (by omega)
    obtain ⟨k1, k2, k3⟩ := h.here hp
    have hh : SV n (headG (exprF f) a l) (headG (exprF g) b l) := by
      unfold headG
      rw [h.is hp, k1, k3]
      split
      · exact sv_func (p := a.pos + 1) (rch_expr f) (fun x y m hx hxy => sv_expr f g x y m (by omega) (by omega) hxy) (Nat.le_refl _) (.inr h.next) l
      · split
        · rcases sv_attr (.inr h) with h1 | ⟨e1, h1⟩
          · exact .inl h1
          · rw [e1]; exact .inr ⟨rfl, h1⟩
        · rcases sv_value (.inr h) with h1 | ⟨e1, h1⟩
          · exact .inl h1
          · rw [e1]; exact .inr ⟨rfl, h1⟩
    unfold exprF
    rcases hh with h1 | ⟨e1, h1⟩
    · exact .inl (Sm.dead h1 (rch_limit _ _))
    · rw [e1]; exact .inr ⟨rfl, h1.limit _⟩
theorem sv_obl {n : Nat} {a b : PS} (h : SP n a b) : SV n (oblP a) (oblP b) :=
  SV.seq (f := fun s => amongD s onWs) (g := fun s => (((amongD s dutyWs).1, (nameP (amongD s dutyWs).2).1), (nameP (amongD s dutyWs).2).2)) (fun x y => (⟨x, y.1, y.2⟩ : OblD)) (fun s => rch_among s _) (fun s => (rch_among s _).trans (rch_name _)) (fun a b h => sv_among h _)
    (fun a b h => SV.seq (f := fun s => amongD s dutyWs) (g := nameP) (fun x y => (x, y)) (fun s => rch_among s _) rch_name (fun a b h => sv_among h _) (fun a b h => sv_name h) h) h
theorem sv_obls {n : Nat} {a b : PS} (h : SP n a b) : SV n (oblsP a) (oblsP b) := sv_manyT rch_obl (fun a b h => sv_obl h) _ _ _ rfl rfl h
theorem sv_cond {n : Nat} {a b : PS} (h : SP n a b) : SV n (condP a) (condP b) := by
  have r : ∀ s, Rch s (condP s).2 := fun s => by
    unfold condP; split
    · rename_i h; exact (rch_is h).trans (rch_oper (rch_expr _) _ _ _)
    · exact .refl
  refine SV.of (f := condP) h r fun a b h hp => ?_
  have f1 := h.fa
  have f2 := h.fb
  unfold condP
  rw [h.is hp]
  split
  · refine sv_oper (p := 0) (rch_expr _) (fun x y m hx hxy => ?_) (Nat.zero_le _) (.inr h.next) [] false
    exact sv_expr _ _ x y m (by omega) (by omega) hxy
  · exact .inr ⟨rfl, h⟩
theorem rch_cond' (s : PS) : Rch s (condP s).2 := by
  unfold condP; split
  · rename_i h; exact (rch_is h).trans (rch_oper (rch_expr _) _ _ _)
  · exact .refl
theorem sv_rule {n : Nat} (deny : Bool) {a b : PS} (h : SP n a b) : SV n (ruleP deny a) (ruleP deny b) := by
  unfold ruleP
  rcases sv_name h with h1 | ⟨e1, h1⟩
  · exact .inl (Sm.dead h1 ((((rch_tgt _).trans (rch_cond' _)).trans (rch_obls _)).trans (rch_must _ [59])))
  rcases sv_tgt (.inr h1) with h2 | ⟨e2, h2⟩
  · exact .inl (Sm.dead h2 (((rch_cond' _).trans (rch_obls _)).trans (rch_must _ [59])))
  rcases sv_cond (.inr h2) with h3 | ⟨e3, h3⟩
  · exact .inl (Sm.dead h3 ((rch_obls _).trans (rch_must _ [59])))
  rcases sv_obls (.inr h3) with h4 | ⟨e4, h4⟩
  · exact .inl (Sm.dead h4 (rch_must _ [59]))
  rw [e1, e2, e3, e4]
  exact sv_must _ (.inr h4) _
theorem SmR {n : Nat} {a b : PS} (h : Sm n a b) : Sm n { nextD a with rules := a.rules + 1 } { nextD b with rules := b.rules + 1 } := ⟨h.tok, by show a.pos + 1 = b.pos + 1; rw [h.pos], by show a.rules + 1 = b.rules + 1; rw [h.rules], h.bad, h.fa, h.fb⟩
theorem Sm.deadR {n : Nat} {a c : PS} (h : n ≤ a.pos) (r : RchR a c) : n ≤ c.pos := Nat.le_trans h (rchR_pos r).2
theorem sv_some {n : Nat} : ∀ (f : Nat) {a b : PS} (l : List RuleD), SP n a b → SV n (someF f a l) (someF f b l)
  | 0, a, b, l, h => h.imp id fun h => ⟨rfl, h⟩
  | f + 1, a, b, l, h => by
    by_cases hp : n ≤ a.pos
    · exact .inl (Sm.deadR hp (rch_some _ _ _))
    have hp := Nat.not_le.1 hp
    have h := h.resolve_left (by omega)
    unfold someF
    rw [h.is hp, h.is hp, h.rules]
    split
    · split
      · exact .inr ⟨rfl, h.limit true⟩
      · have hR := SmR h
        rw [h.rules] at hR
        rcases sv_rule (isD b denyT) (.inr hR) with h1 | ⟨e1, h1⟩
        · exact .inl (Sm.deadR h1 (rch_some _ _ _))
        · rw [e1]; exact sv_some f _ (.inr h1)
    · exact .inr ⟨rfl, h⟩
theorem sv_kids {n : Nat} {pol : PoF} (rp : ∀ s, RchR s (pol s).2) (hpol : ∀ a b, SP n a b → SV n (pol a) (pol b)) (deep : Bool) : ∀ (f : Nat) {a b : PS} (l : List PolD), SP n a b → SV n (kidsF pol deep f a l) (kidsF pol deep f b l)
  | 0, a, b, l, h => h.imp id fun h => ⟨rfl, h⟩
  | f + 1, a, b, l, h => by
    by_cases hp : n ≤ a.pos
    · exact .inl (Sm.deadR hp (rch_kids rp _ _ _ _))
    have hp := Nat.not_le.1 hp
    have h := h.resolve_left (by omega)
    unfold kidsF
    rw [h.is hp, h.is hp]
    split
    · split
      · exact .inr ⟨rfl, h.limit true⟩
      · rcases hpol _ _ (.inr h) with h1 | ⟨e1, h1⟩
        · exact .inl (Sm.deadR h1 (rch_kids rp _ _ _ _))
        · rw [e1]; exact sv_kids rp hpol deep f _ (.inr h1)
    · exact .inr ⟨rfl, h⟩
theorem sv_head {n : Nat} {a b : PS} (h : SP n a b) : SV n (headP a) (headP b) := by
  unfold headP
  rcases sv_among h kindWs with h1 | ⟨e1, h1⟩
  · exact .inl (Sm.dead h1 ((((rch_name _).trans (rch_among _ algWs)).trans (rch_tgt _)).trans (rch_must _ [123])))
  rcases sv_name (.inr h1) with h2 | ⟨e2, h2⟩
  · exact .inl (Sm.dead h2 (((rch_among _ algWs).trans (rch_tgt _)).trans (rch_must _ [123])))
  rcases sv_among (.inr h2) algWs with h3 | ⟨e3, h3⟩
  · exact .inl (Sm.dead h3 ((rch_tgt _).trans (rch_must _ [123])))
  rcases sv_tgt (.inr h3) with h4 | ⟨e4, h4⟩
  · exact .inl (Sm.dead h4 (rch_must _ [123]))
  rw [e1, e2, e3, e4]
  exact sv_must _ (.inr h4) _
theorem sv_body {n : Nat} {pol : PoF} (rp : ∀ s, RchR s (pol s).2) (hpol : ∀ a b, SP n a b → SV n (pol a) (pol b)) (deep set : Bool) {a b : PS} (h : SP n a b) : SV n (bodyP pol deep set a) (bodyP pol deep set b) := by
  unfold bodyP
  split
  · rcases sv_kids rp hpol deep 17 [] h with h1 | ⟨e1, h1⟩
    · exact .inl h1
    · rw [e1]; exact .inr ⟨rfl, h1⟩
  · rcases sv_some 17 [] h with h1 | ⟨e1, h1⟩
    · exact .inl h1
    · rw [e1]; exact .inr ⟨rfl, h1⟩
theorem sv_pol {n : Nat} : ∀ (r : Nat) {a b : PS}, SP n a b → SV n (polF r a) (polF r b)
  | 0, a, b, h => h.imp id fun h => ⟨rfl, h⟩
  | r + 1, a, b, h => by
    unfold polF
    rcases sv_head h with h1 | ⟨e1, h1⟩
    · exact .inl (Sm.deadR h1 (((rch_body (rch_pol r) _ _ _).trans (rch_must _ [125]).big).trans (rch_obls _).big))
    rw [e1]
    rcases sv_body (rch_pol r) (fun a b h => sv_pol r h) (r == 0) (headP b).1.1 (.inr h1) with h2 | ⟨e2, h2⟩
    · exact .inl (Sm.dead h2 ((rch_must _ [125]).trans (rch_obls _)))
    rw [e2]
    rcases sv_obls (sp_must (.inr h2) [125]) with h3 | ⟨e3, h3⟩
    · exact .inl h3
    · rw [e3]; exact .inr ⟨rfl, h3⟩
end Go.Bf

set_option linter.unusedSimpArgs false
set_option linter.unusedVariables false
namespace Go.Bf
open Go Go.Ab
def Bt (t : Txt) : Prop := ∀ c l, t = c :: l → blankB c = true
theorem blank_wrd {c : UInt8} (h : blankB c = true) : wrd c = false ∧ dgt c = false ∧ ltr c = false := by
  simp only [blankB, Bool.or_eq_true, beq_iff_eq] at h
  rcases h with h | h
  · have : c = 32 := UInt8.toNat_inj.1 (by simp; omega)
    subst this; decide
  · have : c = 10 := UInt8.toNat_inj.1 (by simp; omega)
    subst this; decide
theorem takeWhile_app (p : UInt8 → Bool) : ∀ (s t : Txt), (∀ c l, t = c :: l → p c = false) → (s ++ t).takeWhile p = s.takeWhile p
  | [], t, h => by
    cases t with
    | nil => rfl
    | cons c l => simp [List.takeWhile_cons, h c l rfl]
  | c :: r, t, h => by
    simp only [List.cons_append, List.takeWhile_cons]
    rw [takeWhile_app p r t h]
theorem takeWhile_cut (p : UInt8 → Bool) : ∀ (s : Txt) (k : Nat), (s.take k).takeWhile p = (s.takeWhile p).take k
  | [], k => by simp
  | c :: r, 0 => by simp
  | c :: r, k + 1 => by
    simp only [List.take_succ_cons, List.takeWhile_cons]
    split
    · rw [takeWhile_cut p r k, List.take_succ_cons]
    · simp
theorem wordD_app (s t : Txt) (h : Bt t) : wordD (s ++ t) = wordD s := by
  unfold wordD; rw [takeWhile_app _ _ _ fun c l e => (blank_wrd (h c l e)).1]
theorem numD_app (neg : Bool) (s t : Txt) (h : Bt t) : numD neg (s ++ t) = numD neg s := by
  unfold numD
  rw [takeWhile_app _ _ _ fun c l e => (blank_wrd (h c l e)).2.1]
  cases s with
  | nil => simp
  | cons c r => simp
theorem oddD_app {s : Txt} {b : UInt8} (t : Txt) (h : oddD s = some b) : oddD (s ++ t) = some b := by
  match s, h with
  | _ :: _ :: _ :: _, h => simpa [oddD] using h
theorem textF_app : ∀ (f : Nat) (r : Txt) (a : Nat) (out : Txt), (textF f r a out).2 ≠ 0 → ∀ (f' : Nat) (t : Txt), f ≤ f' → textF f' (r ++ t) a out = textF f r a out
  | 0, _, _, _, h => absurd rfl h
  | f + 1, [], a, out, h => absurd rfl h
  | f + 1, c :: r, a, out, h => fun f' t hf => by
    obtain ⟨g, rfl⟩ : ∃ g, f' = g + 1 := ⟨f' - 1, by omega⟩
    simp only [textF, List.cons_append] at h ⊢
    by_cases h34 : c = 34
    · simp only [h34, if_true]
    · simp only [h34, if_false] at h ⊢
      by_cases ho : oddB c = false
      · simp only [ho, if_true] at h ⊢
        exact textF_app f r _ _ h g t (by omega)
      · simp only [ho, if_false] at h ⊢
        cases hd : oddD (c :: r) with
        | none => rw [hd] at h; exact absurd rfl h
        | some b =>
          have h3 := oddD_len hd
          have hd' := oddD_app t hd
          rw [List.cons_append] at hd'
          rw [hd] at h
          simp only at h
          rw [hd']
          simp only
          have : (r ++ t).drop 2 = r.drop 2 ++ t := List.drop_append_of_le_length (by simp at h3; omega)
          rw [this]
          exact textF_app f (r.drop 2) _ _ h g t (by omega)
theorem begins_app (c : UInt8) (r t : Txt) (hb : Bt t) (h : (beginsD (c :: r)).2 ≠ 0) : beginsD (c :: r ++ t) = beginsD (c :: r) := by
  unfold beginsD at h ⊢
  simp only [List.cons_append, List.headD_cons, List.drop_succ_cons, List.drop_zero] at h ⊢
  have w0 := wordD_app (c :: r) t hb
  have w1 := wordD_app r t hb
  have n0 := numD_app false (c :: r) t hb
  have n1 := numD_app false r t hb
  have n2 := numD_app true r t hb
  rw [List.cons_append] at w0 n0
  rw [w0, w1, n0, n1, n2]
  by_cases e1 : ltr c = true
  · simp only [e1, if_true]
  simp only [e1, if_false, Bool.false_eq_true] at h ⊢
  by_cases e2 : dgt c = true
  · simp only [e2, if_true]
  simp only [e2, if_false, Bool.false_eq_true] at h ⊢
  by_cases e3 : c = 45
  · simp only [e3, if_true]
  simp only [e3, if_false] at h ⊢
  by_cases e4 : c = 64
  · simp only [e4, if_true]
  simp only [e4, if_false] at h ⊢
  by_cases e5 : c = 35
  · simp only [e5, if_true]
  simp only [e5, if_false] at h ⊢
  by_cases e6 : c = 34
  · simp only [e6, if_true] at h ⊢
    have : textD (34 :: (r ++ t)) = textD (34 :: r) := by
      unfold textD at h ⊢
      simp only [List.drop_succ_cons, List.drop_zero] at h ⊢
      exact textF_app _ r 1 [] h _ t (by simp)
    rw [this]
  · simp only [e6, if_false]
    rfl
theorem begins_kind (s : Txt) : (beginsD s).1.kind ≠ 7 := by
  unfold beginsD
  simp only
  repeat' split
  all_goals simp
theorem lexF_app : ∀ (f : Nat) (s : Txt) (a : Nat) (out l : List TokD), lexF f s a out = .ok l → ∃ pre, l = out ++ pre ++ [⟨7, (a + s.length : Nat), 0, []⟩] ∧ (∀ t ∈ pre, t.kind ≠ 7) ∧ ∀ (f' a' : Nat) (out' : List TokD) (t : Txt), Bt t → (s ++ t).length < f' →
    ∃ f'' pre', lexF f' (s ++ t) a' out' = lexF f'' t (a' + s.length) (out' ++ pre') ∧ t.length < f'' ∧ pre'.map er = pre.map er
  | 0, _, _, _, _, h => by simp [lexF] at h
  | f + 1, [], a, out, l, h => by
    simp only [lexF, Lexed.ok.injEq] at h
    exact ⟨[], by simp [← h], by simp, fun f' a' out' t _ hf => ⟨f', [], by simp, by simpa using hf, rfl⟩⟩
  | f + 1, c :: r, a, out, l, h => by
    simp only [lexF] at h
    split at h
    · rename_i hc
      obtain ⟨pre, e1, e2, e3⟩ := lexF_app f r (a + 1) out l h
      have ee : ((a + 1 + r.length : Nat) : Int) = ((a + (c :: r).length : Nat) : Int) := by simp only [List.length_cons]; omega
      refine ⟨pre, by rw [e1, ee], e2, fun f' a' out' t hb hf => ?_⟩
      obtain ⟨g, rfl⟩ : ∃ g, f' = g + 1 := ⟨f' - 1, by omega⟩
      obtain ⟨f'', pre', g1, g2, g3⟩ := e3 g (a' + 1) out' t hb (by simp at hf ⊢; omega)
      refine ⟨f'', pre', ?_, g2, g3⟩
      rw [List.cons_append]
      simp only [lexF, hc, if_true]
      rw [g1, List.length_cons, show a' + 1 + r.length = a' + (r.length + 1) by omega]
    · rename_i hc
      split at h
      · cases h
      · rename_i hn
        have hle := beginsD_le (c :: r) (by simp)
        obtain ⟨pre, e1, e2, e3⟩ := lexF_app f _ _ _ l h
        have ee : ((a + (beginsD (c :: r)).2 + ((c :: r).drop (beginsD (c :: r)).2).length : Nat) : Int) = ((a + (c :: r).length : Nat) : Int) := by rw [List.length_drop]; omega
        refine ⟨{ (beginsD (c :: r)).1 with pos := a } :: pre, by rw [e1, ee]; simp, fun t ht => ?_, fun f' a' out' t hb hf => ?_⟩
        · rcases List.mem_cons.1 ht with rfl | ht
          · exact begins_kind _
          · exact e2 t ht
        · obtain ⟨g, rfl⟩ : ∃ g, f' = g + 1 := ⟨f' - 1, by omega⟩
          have hba := begins_app c r t hb hn
          have hdr : (c :: r ++ t).drop (beginsD (c :: r)).2 = (c :: r).drop (beginsD (c :: r)).2 ++ t := List.drop_append_of_le_length hle
          obtain ⟨f'', pre', g1, g2, g3⟩ := e3 g (a' + (beginsD (c :: r)).2) (out' ++ [{ (beginsD (c :: r)).1 with pos := a' }]) t hb (by rw [List.length_append, List.length_drop]; simp only [List.length_append, List.length_cons] at hf hle ⊢; omega)
          refine ⟨f'', { (beginsD (c :: r)).1 with pos := a' } :: pre', ?_, g2, by simp only [List.map_cons, g3]; rfl⟩
          rw [List.cons_append] at hba hdr ⊢
          simp only [lexF, hc, if_false]
          have e5 : a' + (beginsD (c :: r)).2 + ((c :: r).drop (beginsD (c :: r)).2).length = a' + (c :: r).length := by rw [List.length_drop]; omega
          rw [hba, if_neg hn, hdr, g1, e5, List.append_assoc]
          rfl
theorem er_getD {l m : List TokD} (h : l.map er = m.map er) (i : Nat) : er (l.getD i ⟨7, 0, 0, []⟩) = er (m.getD i ⟨7, 0, 0, []⟩) := by
  have hl : l.length = m.length := by have := congrArg List.length h; simpa using this
  have : (l.map er)[i]? = (m.map er)[i]? := by rw [h]
  rw [List.getElem?_map, List.getElem?_map] at this
  rw [List.getD_eq_getElem?_getD, List.getD_eq_getElem?_getD]
  by_cases hi : i < l.length
  · rw [List.getElem?_eq_getElem hi, List.getElem?_eq_getElem (hl ▸ hi)] at this ⊢
    simpa using this
  · rw [List.getElem?_eq_none (by omega), List.getElem?_eq_none (by omega)]
end Go.Bf

set_option linter.unusedSimpArgs false
set_option linter.unusedVariables false
namespace Go.Bf
open Go Go.Ab
structure En (n : Nat) (a : PS) : Prop where
  wf : WfP a
  len : a.ts.length = n + 1
  last : (a.ts.getD n ⟨7, 0, 0, []⟩).kind = 7
theorem En.ah {n : Nat} {a b : PS} (h : En n a) (x : Ah a b) : En n b := ⟨x.1, by rw [x.2.1]; exact h.len, by rw [x.2.1]; exact h.last⟩
theorem En.lt {n : Nat} {a : PS} (h : En n a) (hk : (hereD a).kind ≠ 7) : a.pos < n := by
  have h1 := h.wf.1
  rw [h.len] at h1
  rcases Nat.lt_or_ge a.pos n with h2 | h2
  · exact h2
  · exact absurd (by unfold hereD; rw [show a.pos = n by omega]; exact h.last) hk
theorem bad_back {a b : PS} (r : Rch a b) (h : b.bad = 0) : a.bad = 0 := by
  by_cases hb : a.bad = 0
  · exact hb
  · rw [rch_frozen r hb] at h; exact h
theorem badR_back {a b : PS} (r : RchR a b) (h : b.bad = 0) : a.bad = 0 := by
  by_cases hb : a.bad = 0
  · exact hb
  · rw [rchR_frozen r hb] at h; exact h
theorem name_took {a : PS} (h : (nameP a).2.bad = 0) : (hereD a).kind ≠ 7 := by
  intro hk
  have h0 := bad_back (rch_name a) h
  unfold nameP at h
  rw [if_neg (by rw [hk]; rintro ⟨h1, _⟩; exact absurd h1 (by decide))] at h
  simp only at h
  rw [if_neg (by rw [hk]; decide)] at h
  exact stuck_bad a h
theorem among_took {a : PS} {ws : List Txt} (h : (amongD a ws).2.bad = 0) : (hereD a).kind ≠ 7 := by
  intro hk
  unfold amongD at h
  split at h
  · rw [if_neg (by rw [hk]; rintro ⟨h1, _⟩; exact absurd h1 (by decide))] at h
    exact stuck_bad a h
  · exact stuck_bad a h
theorem must_took {a : PS} {w : Txt} (h : (mustD a w).bad = 0) : isD a w = true := by
  unfold mustD at h
  split at h
  · assumption
  · exact absurd h (stuck_bad a)
theorem obl_strong {n : Nat} {a b : PS} (h : Sm n a b) (e : En n a) (hb : (oblP a).2.bad = 0) : (oblP a).1 = (oblP b).1 ∧ Sm n (oblP a).2 (oblP b).2 := by
  have b2 : (amongD (amongD a onWs).2 dutyWs).2.bad = 0 := bad_back (rch_name _) hb
  have b1 : (amongD a onWs).2.bad = 0 := bad_back (rch_among _ _) b2
  have e1 := e.ah (ah_among onWs e.wf)
  have e2 := e1.ah (ah_among dutyWs e1.wf)
  obtain ⟨v1, h1⟩ := sm_among h (e.lt (among_took b1)) onWs
  obtain ⟨v2, h2⟩ := sm_among h1 (e1.lt (among_took b2)) dutyWs
  obtain ⟨v3, h3⟩ := sm_name h2 (e2.lt (name_took hb))
  unfold oblP
  rw [v1, v2, v3]
  exact ⟨rfl, h3⟩
theorem is_once {n : Nat} {a b : PS} (h : Sm n a b) (e : En n a) (hb : (b.ts.getD n ⟨7, 0, 0, []⟩).s ≠ onceT) : isD a onceT = isD b onceT := by
  by_cases hp : a.pos < n
  · exact h.is hp _
  · have h1 := e.wf.1
    rw [e.len] at h1
    have ha : isD a onceT = false := by
      cases hi : isD a onceT
      · rfl
      · exact absurd (e.lt (isD_kind hi)) hp
    have hbb : isD b onceT = false := by
      cases hi : isD b onceT
      · rfl
      · simp only [isD, Bool.and_eq_true, beq_iff_eq] at hi
        refine absurd hi.2.1 ?_
        unfold hereD
        rw [← h.pos, show a.pos = n by omega]
        exact hb
    rw [ha, hbb]
theorem obls_strong {n : Nat} : ∀ (f g : Nat) (a b : PS) (l : List OblD), n < f + a.pos → n < g + a.pos → Sm n a b → En n a → (b.ts.getD n ⟨7, 0, 0, []⟩).s ≠ onceT → (manyF oblP onceT 8 f a l).2.bad = 0 → Sm n (manyF oblP onceT 8 f a l).2 (manyF oblP onceT 8 g b l).2
  | 0, g, a, b, l, hf, hg, h, e, hb, h0 => by have := e.wf.1; rw [e.len] at this; omega
  | f + 1, g, a, b, l, hf, hg, h, e, hb, h0 => by
    have hlt := e.wf.1
    rw [e.len] at hlt
    obtain ⟨g, rfl⟩ : ∃ g', g = g' + 1 := ⟨g - 1, by omega⟩
    unfold manyF at h0 ⊢
    rw [← is_once h e hb]
    split
    · rename_i hi
      rw [if_pos hi] at h0
      have a1 := ah_next e.wf (isD_kind hi)
      have e1 := e.ah a1
      have hl : (limitD (oblP (nextD a)).2 (decide (8 < l.length + 1))).bad = 0 := bad_back (rch_many rch_obl _ _ _ _ _) h0
      have h1 : (oblP (nextD a)).2.bad = 0 := bad_back (rch_limit _ _) hl
      obtain ⟨v1, h2⟩ := obl_strong h.next e1 h1
      have a2 := ah_obl e1.wf
      have e2 := e1.ah a2
      have a3 := ah_limit (decide (8 < l.length + 1)) e2.wf
      have e3 := e2.ah a3
      have p1 : (nextD a).pos = a.pos + 1 := rfl
      have p2 := a2.2.2
      have p3 := a3.2.2
      have hts : (limitD (oblP (nextD b)).2 (decide (8 < l.length + 1))).ts = b.ts := by rw [(rch_pos ((rch_obl (nextD b)).trans (rch_limit _ _))).1]; rfl
      rw [← v1]
      exact obls_strong f g _ _ _ (by omega) (by omega) (h2.limit _) e3 (by rw [hts]; exact hb) h0
    · exact h
theorem pol_strong {n r : Nat} {a b : PS} (h : Sm n a b) (e : En n a) (hb : (b.ts.getD n ⟨7, 0, 0, []⟩).s ≠ onceT) (h0 : (polF (r + 1) a).2.bad = 0) (hfb : n < b.ts.length) : Sm n (polF (r + 1) a).2 (polF (r + 1) b).2 := by
  have b3 : (mustD (bodyP (polF r) (r == 0) (headP a).1.1 (headP a).2).2 [125]).bad = 0 := bad_back (rch_obls _) h0
  have hi := must_took b3
  have e1 := e.ah (ah_head e.wf)
  have a2 := ah_body (ah_pol r) (r == 0) (headP a).1.1 e1.wf
  have e2 := e1.ah a2
  have hlt := e2.lt (isD_kind hi)
  have e3 := e2.ah (ah_must [125] e2.wf)
  obtain ⟨v1, h1⟩ := (sv_head (.inr h)).resolve_left (by have := a2.2.2; omega)
  obtain ⟨v2, h2⟩ := (sv_body (rch_pol r) (fun a b h => sv_pol r h) (r == 0) (headP a).1.1 (.inr h1)).resolve_left (by omega)
  have h3 : Sm n (mustD (bodyP (polF r) (r == 0) (headP a).1.1 (headP a).2).2 [125]) (mustD (bodyP (polF r) (r == 0) (headP a).1.1 (headP b).2).2 [125]) := by
    unfold mustD
    rw [h2.is hlt]
    split
    · exact h2.next
    · exact h2.stuck
  have tb : (mustD (bodyP (polF r) (r == 0) (headP a).1.1 (headP b).2).2 [125]).ts = b.ts := by
    rw [(rch_pos (rch_must _ _)).1, (rchR_pos (rch_body (rch_pol r) _ _ _)).1, (rch_pos (rch_head b)).1]
  show Sm n (oblsP _).2 (oblsP _).2
  unfold oblsP
  have := obls_strong (mustD (bodyP (polF r) (r == 0) (headP a).1.1 (headP a).2).2 [125]).ts.length (mustD (bodyP (polF r) (r == 0) (headP a).1.1 (headP b).2).2 [125]).ts.length _ _ [] (by rw [e3.len]; omega) (by rw [tb]; omega) h3 e3 (by rw [tb]; exact hb) h0
  rw [← v1]
  exact this
theorem end_kind {s : Txt} {x : PolD × PS} (h : (endP s x).bad = 0) : x.2.bad = 0 ∧ (hereD x.2).kind = 7 := by
  by_cases hk : (hereD x.2).kind = 7
  · refine ⟨?_, hk⟩
    by_cases hb : x.2.bad = 0
    · exact hb
    · rw [end_bad hb] at h; exact h
  · exfalso
    unfold endP at h
    rw [if_neg hk, if_neg (fun h => stuck_bad _ h.1)] at h
    exact stuck_bad _ h
theorem parse_end {s : Txt} {ts : List TokD} (hs : lexD s = .ok ts) (h : (parseD s).2.1 = 0) : (endP s (polF 4 ⟨ts, 0, 0, 0, 0⟩)).bad = 0 := by
  unfold parseD at h
  rw [hs] at h
  simp only [parseT] at h
  split at h
  · assumption
  · exact h
theorem getD_mid {A B : List TokD} {x : TokD} {n : Nat} (h : A.length = n) : (A ++ x :: B).getD n ⟨7, 0, 0, []⟩ = x := by
  subst h
  rw [List.getD_eq_getElem?_getD, List.getElem?_append_right (Nat.le_refl _)]; simp
theorem parse_more {s s' : Txt} {pre pre' B : List TokD} {z x : TokD} (hs : lexD s = .ok (pre ++ [z])) (hz : z.kind = 7) (hk : ∀ t ∈ pre, t.kind ≠ 7) (hs' : lexD s' = .ok (pre' ++ x :: B)) (he : pre'.map er = pre.map er) (hx7 : x.kind ≠ 7) (hx : x.s ≠ onceT) (hok : (parseD s).2.1 = 0) : parseD s' = (zeroP, 5, x.pos) := by
  have hl : pre'.length = pre.length := by have := congrArg List.length he; simpa using this
  have h0 := end_kind (parse_end hs hok)
  have w := wfP_start hs 0 0 0
  have e : En pre.length ⟨pre ++ [z], 0, 0, 0, 0⟩ := ⟨w, by simp, by show ((pre ++ [z]).getD _ _).kind = 7; rw [getD_mid rfl]; exact hz⟩
  have sm : Sm pre.length ⟨pre ++ [z], 0, 0, 0, 0⟩ ⟨pre' ++ x :: B, 0, 0, 0, 0⟩ := by
    refine ⟨fun i hi => ?_, rfl, rfl, rfl, by simp, by simp [hl]⟩
    have := er_getD he.symm i
    simp only
    rw [List.getD_eq_getElem?_getD, List.getD_eq_getElem?_getD] at this ⊢
    rw [List.getElem?_append_left hi, List.getElem?_append_left (by omega)]
    exact this
  have hm := pol_strong (r := 3) sm e (by show ((pre' ++ x :: B).getD _ _).s ≠ _; rw [getD_mid hl]; exact hx) h0.1 (by simp; omega)
  have eE := e.ah (ah_pol 4 _ w)
  have hpos : (polF 4 ⟨pre ++ [z], 0, 0, 0, 0⟩).2.pos = pre.length := by
    have h1 := eE.wf.1
    rw [eE.len] at h1
    rcases Nat.lt_or_ge (polF 4 ⟨pre ++ [z], 0, 0, 0, 0⟩).2.pos pre.length with h2 | h2
    · exfalso
      have h3 := h0.2
      unfold hereD at h3
      rw [(ah_pol 4 _ w).2.1] at h3
      rw [List.getD_eq_getElem?_getD, List.getElem?_append_left h2, List.getElem?_eq_getElem h2] at h3
      exact hk _ (List.getElem_mem h2) h3
    · omega
  have hposb := hm.pos
  rw [hpos] at hposb
  have hbb : (polF 4 ⟨pre' ++ x :: B, 0, 0, 0, 0⟩).2.bad = 0 := by rw [← hm.bad]; exact h0.1
  have hh : hereD (polF 4 ⟨pre' ++ x :: B, 0, 0, 0, 0⟩).2 = x := by
    unfold hereD
    rw [← hposb, (rchR_pos (rch_pol 4 _)).1]
    exact getD_mid hl
  have hst : stuckD (polF 4 ⟨pre' ++ x :: B, 0, 0, 0, 0⟩).2 = { (polF 4 ⟨pre' ++ x :: B, 0, 0, 0, 0⟩).2 with bad := 5, place := x.pos } := by
    unfold stuckD wrongD
    rw [if_pos hbb, hh]
  have hend : endP s' (polF 4 ⟨pre' ++ x :: B, 0, 0, 0, 0⟩) = { (polF 4 ⟨pre' ++ x :: B, 0, 0, 0, 0⟩).2 with bad := 5, place := x.pos } := by
    unfold endP
    rw [hh, if_neg hx7, if_neg (fun h => stuck_bad _ h.1), hst]
  unfold parseD
  rw [hs']
  simp only [parseT]
  rw [hend]
  simp only
  rw [if_neg (by decide)]
theorem lex_more {s w : Txt} {ts : List TokD} {x : TokD} (hs : lexD s = .ok ts) (hlen : (s ++ 32 :: w).length ≤ 4096) (hw : ∀ (f a : Nat) (out : List TokD), (32 :: w).length < f → ∃ z, lexF f (32 :: w) a out = .ok (out ++ [{ x with pos := (a : Int) + 1 }, z])) :
    ∃ pre pre' z z', ts = pre ++ [z] ∧ z.kind = 7 ∧ (∀ t ∈ pre, t.kind ≠ 7) ∧ lexD (s ++ 32 :: w) = .ok (pre' ++ { x with pos := (s.length : Int) + 1 } :: [z']) ∧ pre'.map er = pre.map er := by
  unfold lexD at hs
  split at hs
  · cases hs
  obtain ⟨pre, e1, e2, e3⟩ := lexF_app _ _ _ _ _ hs
  obtain ⟨f2, pre', k1, k2, k3⟩ := e3 ((s ++ 32 :: w).length + 1) 0 [] (32 :: w) (fun c l e => by cases e; decide) (Nat.lt_succ_self _)
  obtain ⟨z, hz⟩ := hw f2 (0 + s.length) ([] ++ pre') k2
  refine ⟨pre, pre', _, z, by simpa using e1, rfl, e2, ?_, k3⟩
  unfold lexD
  rw [if_neg (by omega), k1, hz]
  simp
theorem parse_brace (s : Txt) (hl : s.length ≤ 4000) (hok : (parseD s).2.1 = 0) : (parseD (s ++ [32, 125])).2.1 = 5 := by
  cases hs : lexD s with
  | bad e p =>
    have := (lexD_bad hs).1
    unfold parseD at hok
    rw [hs] at hok
    simp only at hok
    omega
  | ok ts =>
    obtain ⟨pre, pre', z, z', e1, e2, e3, e4, e5⟩ := lex_more (w := [125]) (x := ⟨6, 0, 0, [125]⟩) hs (by simp; omega) fun f a out hf => by
      obtain ⟨g, rfl⟩ : ∃ g, f = g + 1 + 1 + 1 := ⟨f - 3, by simp at hf; omega⟩
      exact ⟨_, by simp [lexF, blankB, beginsD, markB, ltr, dgt]; rfl⟩
    rw [e1] at hs
    rw [parse_more hs e2 e3 e4 e5 (show (6 : Int) ≠ 7 by decide) (show ([125] : Txt) ≠ onceT by decide) hok]
theorem parse_word (s : Txt) (hl : s.length ≤ 4000) (hok : (parseD s).2.1 = 0) : parseD (s ++ 32 :: policyT) = (zeroP, 5, (s.length : Int) + 1) := by
  cases hs : lexD s with
  | bad e p =>
    have := (lexD_bad hs).1
    unfold parseD at hok
    rw [hs] at hok
    simp only at hok
    omega
  | ok ts =>
    obtain ⟨pre, pre', z, z', e1, e2, e3, e4, e5⟩ := lex_more (w := policyT) (x := ⟨1, 0, 0, policyT⟩) hs (by simp [policyT]; omega) fun f a out hf => by
      obtain ⟨g, rfl⟩ : ∃ g, f = g + 1 + 1 + 1 := ⟨f - 3, by simp [policyT] at hf; omega⟩
      have hb : beginsD policyT = (⟨1, 0, 0, policyT⟩, 6) := by kernel_rfl
      have h1 : blankB 32 = true := by decide
      have h2 : blankB 112 = false := by decide
      refine ⟨⟨7, ((a + 1 + 6 : Nat) : Int), 0, []⟩, ?_⟩
      unfold policyT at hb ⊢
      simp only [lexF, h1, h2, if_true, Bool.false_eq_true, if_false, hb]
      simp [lexF]
    rw [e1] at hs
    rw [parse_more hs e2 e3 e4 e5 (show (1 : Int) ≠ 7 by decide) (show policyT ≠ onceT by decide) hok]
end Go.Bf

set_option linter.unusedSimpArgs false
set_option linter.unusedVariables false
namespace Go.Bf
open Go Go.Ab
theorem wordD_cut (s : Txt) (k : Nat) : ((wordD s).length ≤ k → wordD s ≠ [] → wordD (s.take k) = wordD s) ∧ (k < (wordD s).length → (wordD (s.take k)).length = 0 ∨ (wordD (s.take k)).length = k) := by
  unfold wordD
  rw [takeWhile_cut]
  by_cases h : nameOK (s.takeWhile wrd) = true
  · rw [if_pos h]
    refine ⟨fun h1 _ => ?_, fun h1 => ?_⟩
    · rw [List.take_of_length_le h1, if_pos h]
    · split
      · exact .inr (by rw [List.length_take]; omega)
      · exact .inl rfl
  · rw [if_neg h]
    exact ⟨fun _ h2 => absurd rfl h2, fun h1 => by simp at h1⟩
theorem numD_cut (neg : Bool) (s : Txt) (k : Nat) (h : (numD neg s).2 ≠ 0) : ((numD neg s).2 ≤ k → numD neg (s.take k) = numD neg s) ∧ (k < (numD neg s).2 → (numD neg (s.take k)).2 = 0 ∨ (numD neg (s.take k)).2 = k) := by
  have hk : ∀ t : Txt, (numD neg t).2 = 0 ∨ (numD neg t).2 = (t.takeWhile dgt).length := fun t => by
    unfold numD
    simp only
    split
    · exact .inl rfl
    · generalize (if neg = true then -(decV (t.takeWhile dgt) : Int) else (decV (t.takeWhile dgt) : Int)) = v
      split
      · exact .inr rfl
      · exact .inl rfl
  have h1 := (hk s).resolve_left h
  refine ⟨fun h2 => ?_, fun h2 => ?_⟩
  · have e : (s.take k).takeWhile dgt = s.takeWhile dgt := by rw [takeWhile_cut, List.take_of_length_le (by omega)]
    have e2 : (s.take k).head? = s.head? := by
      cases s with
      | nil => simp
      | cons c r =>
        obtain ⟨j, rfl⟩ : ∃ j, k = j + 1 := ⟨k - 1, by omega⟩
        rfl
    unfold numD
    rw [e, e2]
  · rcases hk (s.take k) with h3 | h3
    · exact .inl h3
    · refine .inr ?_
      rw [h3, takeWhile_cut, List.length_take]; omega
theorem oddD_cut {s : Txt} {b : UInt8} (k : Nat) (h : oddD s = some b) (hk : 3 ≤ k) : oddD (s.take k) = some b := by
  obtain ⟨j, rfl⟩ : ∃ j, k = j + 3 := ⟨k - 3, by omega⟩
  match s, h with
  | _ :: _ :: _ :: _, h => simpa [oddD] using h
theorem textF_cut : ∀ (f : Nat) (r : Txt) (a : Nat) (out : Txt), (textF f r a out).2 ≠ 0 → a < (textF f r a out).2 ∧ ∀ (f' m : Nat), (r.take m).length < f' →
    ((textF f r a out).2 ≤ a + m → textF f' (r.take m) a out = textF f r a out) ∧ (a + m < (textF f r a out).2 → (textF f' (r.take m) a out).2 = 0)
  | 0, _, _, _, h => absurd rfl h
  | f + 1, [], a, out, h => absurd rfl h
  | f + 1, c :: r, a, out, h => by
    have hnil : ∀ f' a out, (textF f' [] a out).2 = 0 := fun f' a out => by cases f' <;> rfl
    simp only [textF] at h ⊢
    by_cases h34 : c = 34
    · simp only [h34, if_true] at h ⊢
      split at h
      · exact absurd rfl h
      · rename_i h64
        rw [if_neg h64]
        refine ⟨Nat.lt_succ_self _, fun f' m hf => ⟨fun h1 => ?_, fun h1 => ?_⟩⟩
        · obtain ⟨m, rfl⟩ : ∃ j, m = j + 1 := ⟨m - 1, by simp only at h1; omega⟩
          obtain ⟨g, rfl⟩ : ∃ j, f' = j + 1 := ⟨f' - 1, by omega⟩
          simp only [List.take_succ_cons, textF, if_true]
          rw [if_neg h64]
        · have : m = 0 := by simp only at h1; omega
          subst this
          rw [List.take_zero]; exact hnil _ _ _
    · simp only [h34, if_false] at h ⊢
      by_cases ho : oddB c = false
      · simp only [ho, if_true] at h ⊢
        obtain ⟨i1, i2⟩ := textF_cut f r _ _ h
        refine ⟨by omega, fun f' m hf => ?_⟩
        cases m with
        | zero => exact ⟨fun h1 => by omega, fun _ => by rw [List.take_zero]; exact hnil _ _ _⟩
        | succ m =>
          obtain ⟨g, rfl⟩ : ∃ j, f' = j + 1 := ⟨f' - 1, by omega⟩
          simp only [List.take_succ_cons, textF, h34, if_false, ho, if_true]
          obtain ⟨j1, j2⟩ := i2 g m (by simp at hf ⊢; omega)
          exact ⟨fun h1 => j1 (by omega), fun h1 => j2 (by omega)⟩
      · simp only [ho, if_false, reduceCtorEq] at h ⊢
        cases hd : oddD (c :: r) with
        | none => rw [hd] at h; exact absurd rfl h
        | some b =>
          rw [hd] at h
          simp only at h ⊢
          have h3 := oddD_len hd
          obtain ⟨i1, i2⟩ := textF_cut f (r.drop 2) _ _ h
          refine ⟨by omega, fun f' m hf => ?_⟩
          cases m with
          | zero => exact ⟨fun h1 => by omega, fun _ => by rw [List.take_zero]; exact hnil _ _ _⟩
          | succ m =>
            obtain ⟨g, rfl⟩ : ∃ j, f' = j + 1 := ⟨f' - 1, by omega⟩
            simp only [List.take_succ_cons, textF, h34, if_false, ho]
            by_cases hm : 2 ≤ m
            · have hc := oddD_cut (m + 1) hd (by omega)
              rw [List.take_succ_cons] at hc
              rw [hc]
              simp only
              have : (r.take m).drop 2 = (r.drop 2).take (m - 2) := by rw [List.drop_take]
              rw [this]
              obtain ⟨j1, j2⟩ := i2 g (m - 2) (by rw [← this, List.length_drop]; simp at hf ⊢; omega)
              exact ⟨fun h1 => j1 (by omega), fun h1 => j2 (by omega)⟩
            · have hc : oddD (c :: r.take m) = none := by
                cases hx : oddD (c :: r.take m) with
                | none => rfl
                | some b' => have := oddD_len hx; simp at this; omega
              rw [hc]
              exact ⟨fun h1 => by omega, fun _ => rfl⟩
theorem begins_cut (c : UInt8) (r : Txt) (k : Nat) (h : (beginsD (c :: r)).2 ≠ 0) : ((beginsD (c :: r)).2 ≤ k + 1 → beginsD (c :: r.take k) = beginsD (c :: r)) ∧ (k + 1 < (beginsD (c :: r)).2 → (beginsD (c :: r.take k)).2 = 0 ∨ (beginsD (c :: r.take k)).2 = k + 1) := by
  have w0 := wordD_cut (c :: r) (k + 1)
  have w1 := wordD_cut r k
  have n0 := numD_cut false (c :: r) (k + 1)
  have n1 := numD_cut false r k
  have n2 := numD_cut true r k
  rw [List.take_succ_cons] at w0 n0
  have hz : ∀ neg t, (numD neg t).2 = 0 → (numD neg t).1 = 0 := fun neg t => by
    unfold numD
    simp only
    split
    · exact fun _ => rfl
    · generalize (if neg = true then -(decV (t.takeWhile dgt) : Int) else (decV (t.takeWhile dgt) : Int)) = v
      split
      · rename_i h1 _; intro h2; exact absurd (List.length_eq_zero_iff.1 h2) (fun h => h1 (.inl h))
      · exact fun _ => rfl
  unfold beginsD at h ⊢
  simp only [List.headD_cons, List.drop_succ_cons, List.drop_zero] at h ⊢
  by_cases e1 : ltr c = true
  · simp only [e1, if_true] at h ⊢
    exact ⟨fun h1 => by rw [w0.1 h1 (fun e => h (by rw [e]; rfl))], w0.2⟩
  simp only [e1, if_false, Bool.false_eq_true] at h ⊢
  by_cases e2 : dgt c = true
  · simp only [e2, if_true] at h ⊢
    obtain ⟨a1, a2⟩ := n0 h
    exact ⟨fun h1 => by rw [a1 h1], a2⟩
  simp only [e2, if_false, Bool.false_eq_true] at h ⊢
  by_cases e3 : c = 45
  · simp only [e3, if_true] at h ⊢
    by_cases hn : (numD true r).1 = 0
    · rw [if_pos hn] at h; exact absurd rfl h
    rw [if_neg hn] at h ⊢
    obtain ⟨a1, a2⟩ := n2 (fun e => hn (hz _ _ e))
    refine ⟨fun h1 => by rw [a1 (by omega), if_neg hn], fun h1 => ?_⟩
    split
    · exact .inl rfl
    · rename_i h5
      rcases a2 (by omega) with h6 | h6
      · exact absurd (hz _ _ h6) h5
      · exact .inr (by rw [h6])
  simp only [e3, if_false] at h ⊢
  by_cases e4 : c = 64
  · simp only [e4, if_true] at h ⊢
    by_cases hn : (numD false r).2 = 0 ∨ (numD false r).1 > 1099511627776
    · rw [if_pos hn] at h; exact absurd rfl h
    rw [if_neg hn] at h ⊢
    obtain ⟨a1, a2⟩ := n1 (fun e => hn (.inl e))
    refine ⟨fun h1 => by rw [a1 (by omega), if_neg hn], fun h1 => ?_⟩
    split
    · exact .inl rfl
    · rename_i h5
      rcases a2 (by omega) with h6 | h6
      · exact absurd (.inl h6) h5
      · exact .inr (by rw [h6])
  simp only [e4, if_false] at h ⊢
  by_cases e5 : c = 35
  · simp only [e5, if_true] at h ⊢
    by_cases hn : wordD r = []
    · rw [if_pos hn] at h; exact absurd rfl h
    rw [if_neg hn] at h ⊢
    refine ⟨fun h1 => by rw [w1.1 (by omega) hn, if_neg hn], fun h1 => ?_⟩
    split
    · exact .inl rfl
    · rename_i h5
      rcases w1.2 (by omega) with h6 | h6
      · exact absurd (List.length_eq_zero_iff.1 h6) h5
      · exact .inr (by rw [h6])
  simp only [e5, if_false] at h ⊢
  by_cases e6 : c = 34
  · simp only [e6, if_true] at h ⊢
    unfold textD at h ⊢
    simp only [List.drop_succ_cons, List.drop_zero] at h ⊢
    obtain ⟨a1, a2⟩ := textF_cut _ r 1 [] h
    obtain ⟨a3, a4⟩ := a2 ((34 :: r.take k).length) k (by simp)
    exact ⟨fun h1 => by rw [a3 (by omega)], fun h1 => .inl (a4 (by omega))⟩
  · simp only [e6, if_false] at h ⊢
    by_cases hm : markB c = true
    · simp only [hm, if_true]
      exact ⟨fun _ => trivial, fun h1 => by omega⟩
    · simp only [hm, if_false, Bool.false_eq_true] at h
      exact absurd rfl h
theorem lexF_cut : ∀ (f : Nat) (s : Txt) (a : Nat) (out l : List TokD), lexF f s a out = .ok l → ∃ pre e, l = out ++ pre ++ [e] ∧ ∀ (k f' a' : Nat) (out' : List TokD), (s.take k).length < f' →
    (∃ p, lexF f' (s.take k) a' out' = .bad 5 p) ∨ ∃ pre' m z, lexF f' (s.take k) a' out' = .ok (out' ++ pre' ++ [z]) ∧ z.kind = 7 ∧ m ≤ pre.length ∧ m ≤ pre'.length ∧ pre'.length ≤ m + 1 ∧ (pre'.take m).map er = (pre.take m).map er
  | 0, _, _, _, _, h => by simp [lexF] at h
  | f + 1, [], a, out, l, h => by
    simp only [lexF, Lexed.ok.injEq] at h
    refine ⟨[], _, by simp [← h]; rfl, fun k f' a' out' hf => .inr ⟨[], 0, ⟨7, a', 0, []⟩, ?_, rfl, by simp, by simp, by simp, rfl⟩⟩
    obtain ⟨g, rfl⟩ : ∃ j, f' = j + 1 := ⟨f' - 1, by omega⟩
    simp [lexF]
  | f + 1, c :: r, a, out, l, h => by
    simp only [lexF] at h
    have hnil : ∀ (pre : List TokD) (f' a' : Nat) (out' : List TokD), 0 < f' → ∃ pre' m z, lexF f' [] a' out' = .ok (out' ++ pre' ++ [z]) ∧ z.kind = 7 ∧ m ≤ pre.length ∧ m ≤ pre'.length ∧ pre'.length ≤ m + 1 ∧ (pre'.take m).map er = (pre.take m).map er := fun pre f' a' out' hf => by
      obtain ⟨g, rfl⟩ : ∃ j, f' = j + 1 := ⟨f' - 1, by omega⟩
      exact ⟨[], 0, ⟨7, a', 0, []⟩, by simp [lexF], rfl, by simp, by simp, by simp, rfl⟩
    split at h
    · rename_i hc
      obtain ⟨pre, e, e1, e2⟩ := lexF_cut f r (a + 1) out l h
      refine ⟨pre, e, e1, fun k f' a' out' hf => ?_⟩
      cases k with
      | zero => rw [List.take_zero]; exact .inr (hnil pre f' a' out' (by omega))
      | succ k =>
        obtain ⟨g, rfl⟩ : ∃ j, f' = j + 1 := ⟨f' - 1, by omega⟩
        simp only [List.take_succ_cons, lexF, hc, if_true]
        exact e2 k g (a' + 1) out' (by simp at hf ⊢; omega)
    · rename_i hc
      split at h
      · cases h
      · rename_i hn
        have hle := beginsD_le (c :: r) (by simp)
        obtain ⟨pre, e, e1, e2⟩ := lexF_cut f _ _ _ l h
        refine ⟨{ (beginsD (c :: r)).1 with pos := a } :: pre, e, by rw [e1]; simp, fun k f' a' out' hf => ?_⟩
        cases k with
        | zero => rw [List.take_zero]; exact .inr (hnil _ f' a' out' (by omega))
        | succ k =>
          obtain ⟨g, rfl⟩ : ∃ j, f' = j + 1 := ⟨f' - 1, by omega⟩
          obtain ⟨c1, c2⟩ := begins_cut c r k hn
          simp only [List.take_succ_cons, lexF, hc, if_false]
          by_cases hj : (beginsD (c :: r)).2 ≤ k + 1
          · rw [c1 hj, if_neg hn]
            have hdr : (c :: r.take k).drop (beginsD (c :: r)).2 = ((c :: r).drop (beginsD (c :: r)).2).take (k + 1 - (beginsD (c :: r)).2) := by
              rw [← List.take_succ_cons, List.drop_take]
            rw [hdr]
            rcases e2 (k + 1 - (beginsD (c :: r)).2) g (a' + (beginsD (c :: r)).2) (out' ++ [{ (beginsD (c :: r)).1 with pos := a' }]) (by rw [← hdr, List.length_drop]; simp at hf ⊢; omega) with h5 | ⟨pre', m, z, h5, h6, h7, h8, h9, h10⟩
            · exact .inl h5
            · refine .inr ⟨{ (beginsD (c :: r)).1 with pos := a' } :: pre', m + 1, z, by rw [h5]; simp, h6, by simp; omega, by simp; omega, by simp; omega, ?_⟩
              simp only [List.take_succ_cons, List.map_cons, h10]
              rfl
          · rcases c2 (by omega) with h5 | h5
            · rw [if_pos h5]; exact .inl ⟨_, rfl⟩
            · by_cases h0 : (beginsD (c :: r.take k)).2 = 0
              · rw [if_pos h0]; exact .inl ⟨_, rfl⟩
              · rw [if_neg h0, h5]
                have : (c :: r.take k).drop (k + 1) = [] := List.drop_of_length_le (by simp; omega)
                rw [this]
                have hg : 0 < g := by simp at hf; omega
                obtain ⟨g', rfl⟩ : ∃ j, g = j + 1 := ⟨g - 1, by omega⟩
                exact .inr ⟨[{ (beginsD (c :: r.take k)).1 with pos := a' }], 0, ⟨7, ((a' + (k + 1) : Nat) : Int), 0, []⟩, by simp [lexF], rfl, by simp, by simp, by simp, rfl⟩
def NoBr (t : TokD) : Prop := ¬ (t.s = [123] ∧ (t.kind = 1 ∨ t.kind = 6))
theorem wordD_sub (s : Txt) : ∀ c ∈ wordD s, c ∈ s := fun c hc => by
  unfold wordD at hc
  split at hc
  · exact (List.takeWhile_prefix (l := s) wrd).subset hc
  · cases hc
theorem begins_nobr (c : UInt8) (r : Txt) (h : ∀ x ∈ c :: r, x ≠ 123) : NoBr (beginsD (c :: r)).1 := by
  rintro ⟨h1, h2⟩
  unfold beginsD at h1 h2
  simp only [List.headD_cons] at h1 h2
  by_cases e1 : ltr c = true
  · simp only [e1, if_true] at h1
    exact h 123 (wordD_sub _ 123 (by rw [h1]; simp)) rfl
  simp only [e1, if_false, Bool.false_eq_true] at h1 h2
  by_cases e2 : dgt c = true
  · simp only [e2, if_true] at h1; cases h1
  simp only [e2, if_false, Bool.false_eq_true] at h1 h2
  by_cases e3 : c = 45
  · simp only [e3, if_true] at h1; cases h1
  simp only [e3, if_false] at h1 h2
  by_cases e4 : c = 64
  · simp only [e4, if_true] at h1; cases h1
  simp only [e4, if_false] at h1 h2
  by_cases e5 : c = 35
  · simp only [e5, if_true] at h2
    rcases h2 with h2 | h2 <;> exact absurd h2 (by decide)
  simp only [e5, if_false] at h1 h2
  by_cases e6 : c = 34
  · simp only [e6, if_true] at h2
    rcases h2 with h2 | h2 <;> exact absurd h2 (by decide)
  simp only [e6, if_false] at h1 h2
  by_cases hm : markB c = true
  · simp only [hm, if_true, List.cons.injEq, and_true] at h1
    exact h c (by simp) h1
  · simp only [hm, if_false, Bool.false_eq_true] at h1
    cases h1
theorem lexF_nobr : ∀ (f : Nat) (s : Txt) (a : Nat) (out l : List TokD), lexF f s a out = .ok l → (∀ c ∈ s, c ≠ 123) → (∀ t ∈ out, NoBr t) → ∀ t ∈ l, NoBr t
  | 0, _, _, _, _, h, _, _ => by simp [lexF] at h
  | f + 1, [], a, out, l, h, hs, ho => fun t ht => by
    simp only [lexF, Lexed.ok.injEq] at h
    rw [← h] at ht
    rcases List.mem_append.1 ht with ht | ht
    · exact ho t ht
    · rw [List.mem_singleton.1 ht]; rintro ⟨h1, _⟩; cases h1
  | f + 1, c :: r, a, out, l, h, hs, ho => by
    simp only [lexF] at h
    split at h
    · exact lexF_nobr f r _ _ l h (fun x hx => hs x (by simp [hx])) ho
    · split at h
      · cases h
      · refine lexF_nobr f _ _ _ l h (fun x hx => hs x (List.mem_of_mem_drop hx)) fun t ht => ?_
        rcases List.mem_append.1 ht with ht | ht
        · exact ho t ht
        · rw [List.mem_singleton.1 ht]; exact begins_nobr c r hs
end Go.Bf

set_option linter.unusedSimpArgs false
set_option linter.unusedVariables false
namespace Go.Bf
open Go Go.Ab
theorem bads {a b : PS} (h : Rch a b) (ha : a.bad = 0) : b.bad = 0 ∨ b.bad = 5 ∨ b.bad = 6 := by
  induction h with
  | refl => exact .inl ha
  | wrong e p _ h1 _ ih =>
    unfold wrongD
    split
    · exact .inr h1
    · exact ih
  | next _ _ _ ih => exact ih
def N6 {α : Type} (f : PS → α × PS) : Prop := ∀ a, a.bad ≠ 6 → (f a).2.bad ≠ 6
theorem stuck6 {a : PS} (h : a.bad ≠ 6) : (stuckD a).bad ≠ 6 := by
  unfold stuckD wrongD
  split
  · show (5 : Int) ≠ 6; decide
  · exact h
theorem must6 {a : PS} (w : Txt) (h : a.bad ≠ 6) : (mustD a w).bad ≠ 6 := by
  unfold mustD; split
  · exact h
  · exact stuck6 h
theorem name6 : N6 nameP := fun a h => by
  unfold nameP; split
  · exact h
  · simp only; split
    · exact h
    · exact stuck6 h
theorem among6 (ws : List Txt) : N6 (fun a => amongD a ws) := fun a h => by
  simp only
  unfold amongD; split
  · split
    · exact h
    · exact stuck6 h
  · exact stuck6 h
theorem take6 (w : Txt) : N6 (fun a => takeD a w) := fun a h => by
  simp only
  unfold takeD; split
  · exact h
  · exact h
theorem attr6 : N6 attrP := fun a h => take6 [33] _ (name6 _ (must6 [46] (among6 catWs _ h)))
theorem op6 : N6 opP := fun a h => by
  unfold opP
  (repeat' split) <;> first | exact h | exact stuck6 h
theorem value6 : N6 valueP := fun a h => by
  unfold valueP
  rcases valueV_cases a with ⟨e, hk⟩ | e
  · rw [e]; split
    · exact h
    · exact h
  · rw [e, if_neg (stuck_bad a)]; exact stuck6 h
theorem match6 : N6 matchP := fun a h => value6 _ (op6 _ (attr6 _ h))
def E5 {α : Type} (f : PS → α × PS) : Prop := ∀ a, a.bad = 0 → (hereD a).kind = 7 → (f a).2.bad = 5
theorem stuck5 {a : PS} (h : a.bad = 0) : (stuckD a).bad = 5 := by unfold stuckD wrongD; rw [if_pos h]
theorem must5 {a : PS} (w : Txt) (h : a.bad = 0) (hk : (hereD a).kind = 7) : (mustD a w).bad = 5 := by
  unfold mustD
  rw [if_neg (fun hi => isD_kind hi hk)]
  exact stuck5 h
theorem among5 {a : PS} (ws : List Txt) (h : a.bad = 0) (hk : (hereD a).kind = 7) : (amongD a ws).2.bad = 5 := by
  unfold amongD
  split
  · rw [if_neg (by rw [hk]; rintro ⟨h1, _⟩; exact absurd h1 (by decide))]; exact stuck5 h
  · exact stuck5 h
theorem fr5 {a b : PS} (r : Rch a b) (h : a.bad = 5) : b.bad = 5 := by rw [rch_frozen r (by rw [h]; decide)]; exact h
theorem match5 : E5 matchP := fun a h hk => fr5 ((((rch_must _ [46]).trans (rch_name _)).trans (rch_take _ [33])).trans ((rch_op _).trans (rch_value _))) (among5 catWs h hk)
theorem all5 : E5 allP := fun a h hk => fr5 (rch_many rch_match _ _ _ _ _) (match5 a h hk)
theorem any5 : E5 anyP := fun a h hk => fr5 (((rch_all _).trans (rch_many rch_all _ _ _ _ _)).trans (rch_must _ _)) (must5 [40] h hk)
def Ed (m : Nat) (a : PS) : Prop := ∀ i, m < i → (a.ts.getD i ⟨7, 0, 0, []⟩).kind = 7
theorem Ed.to {m : Nat} {a b : PS} (h : Ed m a) (e : b.ts = a.ts) : Ed m b := by unfold Ed; rw [e]; exact h
theorem many_late {α : Type} {one : PS → α × PS} (ro : ∀ s, Rch s (one s).2) (e5 : E5 one) (w : Txt) (most : Nat) {m : Nat} : ∀ (f : Nat) (a : PS) (l : List α), m ≤ a.pos → Ed m a → a.bad ≠ 6 → (manyF one w most f a l).2.bad ≠ 6
  | 0, a, l, hp, he, h6 => h6
  | f + 1, a, l, hp, he, h6 => by
    unfold manyF
    split
    · rename_i hi
      have h0 := isD_bad hi
      have hk : (hereD (nextD a)).kind = 7 := he (a.pos + 1) (by omega)
      have h5 := e5 (nextD a) h0 hk
      have := fr5 ((rch_limit _ (decide (most < l.length + 1))).trans (rch_many ro w most f _ (l ++ [(one (nextD a)).1]))) h5
      rw [this]; decide
    · exact h6
def L6 {α : Type} (m : Nat) (f : PS → α × PS) : Prop := ∀ a b, Sm m a b → Ed m a → a.bad ≠ 6 → (f a).2.bad = 6 → (f b).2.bad ≠ 0
def D6 {α : Type} (m : Nat) (f : PS → α × PS) : Prop := ∀ a, m ≤ a.pos → Ed m a → a.bad ≠ 6 → (f a).2.bad ≠ 6
theorem fr0 {a b : PS} (r : Rch a b) (h : a.bad ≠ 0) : b.bad ≠ 0 := by rw [rch_frozen r h]; exact h
theorem many_l6 {α : Type} {one : PS → α × PS} (ro : ∀ s, Rch s (one s).2) (e5 : E5 one) {m : Nat} (l6 : L6 m one) (sv : ∀ a b, SP m a b → SV m (one a) (one b)) (w : Txt) (most : Nat) :
    ∀ (f g : Nat) (a b : PS) (l : List α), m ≤ g + a.pos → Sm m a b → Ed m a → a.bad ≠ 6 → (manyF one w most f a l).2.bad = 6 → (manyF one w most g b l).2.bad ≠ 0
  | 0, g, a, b, l, hg, h, he, h6, hb => absurd hb h6
  | f + 1, g, a, b, l, hg, h, he, h6, hb => by
    by_cases hp : m ≤ a.pos
    · exact absurd hb (many_late ro e5 w most _ _ _ hp he h6)
    have hp := Nat.not_le.1 hp
    obtain ⟨g, rfl⟩ : ∃ g', g = g' + 1 := ⟨g - 1, by omega⟩
    unfold manyF at hb ⊢
    rw [h.is hp] at hb
    split
    · rename_i hi
      rw [if_pos hi] at hb
      have he1 : Ed m (nextD a) := he
      by_cases k6 : (one (nextD a)).2.bad = 6
      · exact fr0 ((rch_limit _ _).trans (rch_many ro w most _ _ _)) (l6 _ _ h.next he1 h6 k6)
      · by_cases hm : most < l.length + 1
        · refine fr0 (rch_many ro w most _ _ _) ?_
          rw [decide_eq_true hm]
          unfold limitD
          rw [if_pos rfl]
          unfold wrongD
          split
          · show (6 : Int) ≠ 0; decide
          · assumption
        · have hd : decide (most < l.length + 1) = false := decide_eq_false hm
          rw [hd] at hb ⊢
          have hpos := (rch_pos (ro (nextD a))).2.1
          have hts := (rch_pos (ro (nextD a))).1
          have hn : (nextD a).pos = a.pos + 1 := rfl
          have he2 : Ed m (one (nextD a)).2 := he1.to hts
          have hll : ∀ s, limitD s false = s := fun s => rfl
          rw [hll] at hb ⊢
          rcases sv _ _ (.inr h.next) with h1 | ⟨e1, h1⟩
          · exact absurd hb (many_late ro e5 w most _ _ _ h1 he2 k6)
          · rw [e1] at hb
            exact many_l6 ro e5 l6 sv w most f g _ _ _ (by omega) h1 he2 k6 hb
    · rename_i hi
      rw [if_neg hi] at hb
      exact absurd hb h6
theorem match_l6 (m : Nat) : L6 m matchP := fun a b _ _ h6 hb => absurd hb (match6 a h6)
theorem all_d6 (m : Nat) : D6 m allP := fun a hp he h6 => many_late rch_match match5 _ _ _ _ _ (Sm.dead hp (rch_match a)) (he.to (rch_pos (rch_match a)).1) (match6 a h6)
theorem all_l6 (m : Nat) : L6 m allP := fun a b h he h6 hb => by
  unfold allP at hb ⊢
  have he1 : Ed m (matchP a).2 := he.to (rch_pos (rch_match a)).1
  rcases sv_match (.inr h) with h1 | ⟨e1, h1⟩
  · exact absurd hb (many_late rch_match match5 _ _ _ _ _ h1 he1 (match6 a h6))
  · rw [e1] at hb
    exact many_l6 rch_match match5 (match_l6 m) (fun a b h => sv_match h) _ _ _ _ _ _ _ (by have := h.fb; omega) h1 he1 (match6 a h6) hb
theorem any_l6 (m : Nat) : L6 m anyP := fun a b h he h6 hb => by
  unfold anyP at hb ⊢
  simp only at hb ⊢
  have r1 := rch_must a [40]
  have e1 := he.to (rch_pos r1).1
  have k1 := must6 [40] h6
  have r2 := rch_all (mustD a [40])
  have e2 := e1.to (rch_pos r2).1
  rcases sp_must (.inr h) [40] with h1 | h1
  · exact absurd hb (must6 _ (many_late rch_all all5 _ _ _ _ _ (Sm.dead h1 r2) e2 (all_d6 m _ h1 e1 k1)))
  by_cases k2 : (allP (mustD a [40])).2.bad = 6
  · exact fr0 ((rch_many rch_all _ _ _ _ _).trans (rch_must _ _)) (all_l6 m _ _ h1 e1 k1 k2)
  rcases sv_all (.inr h1) with h2 | ⟨v2, h2⟩
  · exact absurd hb (must6 _ (many_late rch_all all5 _ _ _ _ _ h2 e2 k2))
  rw [v2] at hb
  by_cases k3 : (manyF allP orT 8 a.ts.length (allP (mustD a [40])).2 [(allP (mustD b [40])).1]).2.bad = 6
  · exact fr0 (rch_must _ _) (many_l6 rch_all all5 (all_l6 m) (fun a b h => sv_all h) _ _ _ _ _ _ _ (by have := h.fb; omega) h2 e2 k2 k3)
  · exact absurd hb (must6 _ k3)
theorem tgt_d6 (m : Nat) : D6 m tgtP := fun a hp he h6 => by
  unfold tgtP
  split
  · rename_i hi
    have h5 := any5 (nextD a) (show a.bad = 0 from isD_bad hi) (he (a.pos + 1) (by omega))
    rw [fr5 (rch_many rch_any _ _ _ _ _) h5]; decide
  · exact h6
theorem tgt_l6 (m : Nat) : L6 m tgtP := fun a b h he h6 hb => by
  by_cases hp : m ≤ a.pos
  · exact absurd hb (tgt_d6 m a hp he h6)
  have hp := Nat.not_le.1 hp
  unfold tgtP at hb ⊢
  rw [h.is hp] at hb
  split
  · rename_i hi
    rw [if_pos hi] at hb
    have he1 : Ed m (nextD a) := he
    have e2 := he1.to (rch_pos (rch_any (nextD a))).1
    by_cases k2 : (anyP (nextD a)).2.bad = 6
    · exact fr0 (rch_many rch_any _ _ _ _ _) (any_l6 m _ _ h.next he1 h6 k2)
    rcases sv_any (.inr h.next) with h2 | ⟨v2, h2⟩
    · exact absurd hb (many_late rch_any any5 _ _ _ _ _ h2 e2 k2)
    · rw [v2] at hb
      exact many_l6 rch_any any5 (any_l6 m) (fun a b h => sv_any h) _ _ _ _ _ _ _ (by have := h.fb; omega) h2 e2 k2 hb
  · rename_i hi
    rw [if_neg hi] at hb
    exact absurd hb h6
theorem head_l6 (m : Nat) : L6 m headP := fun a b h he h6 hb => by
  unfold headP at hb ⊢
  simp only at hb ⊢
  have q1 := among6 kindWs a h6
  have q2 := name6 _ q1
  have q3 := among6 algWs _ q2
  have r1 := rch_among a kindWs
  have r2 := rch_name (amongD a kindWs).2
  have r3 := rch_among (nameP (amongD a kindWs).2).2 algWs
  have e3 := he.to (rch_pos ((r1.trans r2).trans r3)).1
  have hd : m ≤ (amongD (nameP (amongD a kindWs).2).2 algWs).2.pos → False := fun hp => absurd hb (must6 _ (tgt_d6 m _ hp e3 q3))
  rcases sv_among (.inr h) kindWs with h1 | ⟨v1, h1⟩
  · exact (hd (Sm.dead h1 (r2.trans r3))).elim
  rcases sv_name (.inr h1) with h2 | ⟨v2, h2⟩
  · exact (hd (Sm.dead h2 r3)).elim
  rcases sv_among (.inr h2) algWs with h3 | ⟨v3, h3⟩
  · exact (hd h3).elim
  by_cases k : (tgtP (amongD (nameP (amongD a kindWs).2).2 algWs).2).2.bad = 6
  · exact fr0 (rch_must _ _) (tgt_l6 m _ _ h3 e3 q3 k)
  · exact absurd hb (must6 _ k)
theorem parse_cut (s : Txt) (k : Nat) (hk : ∀ c ∈ s.take k, c ≠ 123) (hok : (parseD s).2.1 = 0) : (parseD (s.take k)).2.1 = 5 := by
  cases hs : lexD s with
  | bad e p =>
    have := (lexD_bad hs).1
    unfold parseD at hok
    rw [hs] at hok
    simp only at hok
    omega
  | ok ts =>
    have h0 := end_kind (parse_end hs hok)
    have hb0 : (headP ⟨ts, 0, 0, 0, 0⟩).2.bad = 0 := badR_back (((rch_body (rch_pol 3) _ _ _).trans (rch_must _ [125]).big).trans (rch_obls _).big) h0.1
    have hs' := hs
    unfold lexD at hs'
    split at hs'
    · cases hs'
    rename_i hlen
    obtain ⟨pre, e, e1, e2⟩ := lexF_cut _ _ _ _ _ hs'
    have hlk : (s.take k).length ≤ 4096 := by rw [List.length_take]; omega
    have hlx : lexD (s.take k) = lexF ((s.take k).length + 1) (s.take k) 0 [] := by unfold lexD; rw [if_neg (by omega)]
    rcases e2 k ((s.take k).length + 1) 0 [] (Nat.lt_succ_self _) with ⟨p, h5⟩ | ⟨pre', m, z, h5, h6, h7, h8, h9, h10⟩
    · unfold parseD
      rw [hlx, h5]
    · rw [← hlx] at h5
      have hts : ([] : List TokD) ++ pre' ++ [z] = pre' ++ [z] := by simp
      rw [hts] at h5
      rw [show ts = pre ++ [e] by simpa using e1] at hb0 h0
      have hnb := lexF_nobr _ _ _ _ _ (hlx ▸ h5) hk (fun t ht => by cases ht)
      have ed : Ed m ⟨pre' ++ [z], 0, 0, 0, 0⟩ := fun i hi => by
        show ((pre' ++ [z]).getD i _).kind = 7
        rw [List.getD_eq_getElem?_getD, List.getElem?_append_right (by omega)]
        rcases Nat.lt_or_ge (i - pre'.length) 1 with h11 | h11
        · rw [show i - pre'.length = 0 by omega]; exact h6
        · rw [List.getElem?_eq_none (by simpa using h11)]; rfl
      have sm : Sm m ⟨pre' ++ [z], 0, 0, 0, 0⟩ ⟨pre ++ [e], 0, 0, 0, 0⟩ := by
        refine ⟨fun i hi => ?_, rfl, rfl, rfl, by simp; omega, by simp; omega⟩
        have := er_getD h10 i
        simp only
        rw [List.getD_eq_getElem?_getD, List.getD_eq_getElem?_getD] at this ⊢
        rw [List.getElem?_take_of_lt hi, List.getElem?_take_of_lt hi] at this
        rw [List.getElem?_append_left (by omega), List.getElem?_append_left (by omega)]
        exact this
      have n6 : (headP ⟨pre' ++ [z], 0, 0, 0, 0⟩).2.bad ≠ 6 := fun hb => head_l6 m _ _ sm ed (show (0 : Int) ≠ 6 by decide) hb hb0
      have n0 : (headP ⟨pre' ++ [z], 0, 0, 0, 0⟩).2.bad ≠ 0 := fun hb => by
        have hi := must_took hb
        have ht := (rch_pos ((((rch_among ⟨pre' ++ [z], 0, 0, 0, 0⟩ kindWs).trans (rch_name _)).trans (rch_among _ algWs)).trans (rch_tgt _))).1
        generalize (tgtP (amongD (nameP (amongD ⟨pre' ++ [z], 0, 0, 0, 0⟩ kindWs).2).2 algWs).2).2 = st at hi ht
        simp only [isD, Bool.and_eq_true, Bool.or_eq_true, beq_iff_eq] at hi
        unfold hereD at hi
        rw [ht] at hi
        simp only at hi
        rw [List.getD_eq_getElem?_getD] at hi
        cases hg : (pre' ++ [z])[st.pos]? with
        | none => rw [hg] at hi; exact absurd hi.2.1 (by simp)
        | some t =>
          rw [hg] at hi
          exact hnb t (List.mem_of_getElem? hg) ⟨hi.2.1, hi.2.2⟩
      have h55 : (headP ⟨pre' ++ [z], 0, 0, 0, 0⟩).2.bad = 5 := by
        rcases bads (rch_head ⟨pre' ++ [z], 0, 0, 0, 0⟩) rfl with h | h | h
        · exact absurd h n0
        · exact h
        · exact absurd h n6
      have hp : (polF 4 ⟨pre' ++ [z], 0, 0, 0, 0⟩).2 = (headP ⟨pre' ++ [z], 0, 0, 0, 0⟩).2 :=
        rchR_frozen (((rch_body (rch_pol 3) _ _ _).trans (rch_must _ [125]).big).trans (rch_obls _).big) (by rw [h55]; decide)
      unfold parseD
      rw [h5]
      simp only
      rw [parse_bad hp (by rw [h55]; decide), h55]
end Go.Bf
