/- Append. -/
import Derived.Test.YtidpcjblciompaaAb8
set_option linter.unusedSimpArgs false
set_option linter.unusedVariables false
namespace Go.Ab
open Go

section
variable {P : Program} {U : TypeId → TI}

/-- Elements of so many cells each. -/
def Sized (n : Nat) (xs : List AV) : Prop := ∀ z ∈ xs, z.cells.length = n

/-- The cells of elements, as values, one behind the other. -/
structure Row (c : Cx) (ys : List AV) (sz : Nat) (val : Nat → Nat → Value) : Prop where
  hz : ∀ i (h : i < ys.length), ys[i].cells.length = sz
  hr : ∀ i (h : i < ys.length) j (h' : j < ys[i].cells.length), Rep c ys[i].cells[j] (val i j)
  ho : ∀ i j, i < ys.length → j < sz → (val i j).oneCell' = true

def flatV (sz n : Nat) (val : Nat → Nat → Value) : List Value := (List.range (n * sz)).map fun q => val (q / sz) (q % sz)

theorem flatV_length (sz n : Nat) (val : Nat → Nat → Value) : (flatV sz n val).length = n * sz := by simp [flatV]

theorem flatV_get {sz n : Nat} {val : Nat → Nat → Value} {i j : Nat} (hi : i < n) (hj : j < sz) : (flatV sz n val)[i * sz + j]? = some (val i j) := by
  have hlt : i * sz + j < n * sz := by
    have : (i + 1) * sz ≤ n * sz := Nat.mul_le_mul_right _ (by omega)
    rw [Nat.add_mul, Nat.one_mul] at this
    omega
  have h1 : (i * sz + j) / sz = i := by
    rw [Nat.mul_comm, Nat.mul_add_div (by omega), Nat.div_eq_of_lt hj, Nat.add_zero]
  have h2 : (i * sz + j) % sz = j := by
    rw [Nat.mul_comm, Nat.mul_add_mod, Nat.mod_eq_of_lt hj]
  simp [flatV, hlt, h1, h2]

theorem flatV_one {c : Cx} {ys : List AV} {sz : Nat} {val : Nat → Nat → Value} (h : Row c ys sz val) (hs : 0 < sz) : ∀ v ∈ flatV sz ys.length val, v.oneCell' = true := by
  intro v hv
  simp only [flatV, List.mem_map, List.mem_range] at hv
  obtain ⟨q, hq, rfl⟩ := hv
  exact h.ho _ _ ((Nat.div_lt_iff_lt_mul hs).2 hq) (Nat.mod_lt _ hs)

/-- What an append takes its elements from. -/
def srcA (U : TypeId → TI) (e : TypeId) (h : Heap) (y : AV) (k : List AV → Prop) : Prop :=
  match y with
  | .sl ys _ => k ys
  | .s l => (U e).k = .int .u8 ∧ (U e).sz = 1 ∧ k (l.map byteA)
  | .oa id off len => (U e).sz = 1 ∧ match h id with
    | some (.obj cs _) => off + len ≤ cs.length ∧ (∀ x ∈ (cs.drop off).take len, x.cells.length = 1) ∧ (∀ x ∈ (cs.drop off).take len, isAggA x = false) ∧ k ((cs.drop off).take len)
    | _ => False
  | _ => False

theorem srcA_run {e : TypeId} {h : Heap} {y : AV} {k : List AV → Prop} (hz : (U e).sz ≠ 0) (hk : srcA U e h y k) :
    ∃ ys, k ys ∧ ∀ c u, Sub h c.h → Good c → Rep c y u → Sized (U e).sz ys → ys.length < lim ∧ ∃ val, Row c ys (U e).sz val ∧ (∀ w, (Builtin.lenOf u).run P w = .ok ys.length w) ∧
      (Builtin.firstCells (U e).sz ys.length u).run P c.w = .ok (flatV (U e).sz ys.length val).toArray c.w := by
  unfold srcA at hk
  split at hk
  · rename_i ys p
    refine ⟨ys, hk, fun c u hs g hr hsz => ?_⟩
    obtain ⟨a, cap, sz, val, hu, hsl⟩ := hr.sl_inv
    have hcm := hsl.hc
    have hmm := hsl.hm
    refine ⟨by omega, ?_⟩
    rw [hu]
    by_cases hy : ys = []
    · subst hy
      refine ⟨val, ⟨fun i hi => (by cases hi), fun i hi => (by cases hi), fun i j hi => (by cases hi)⟩, fun w => by simp [Builtin.lenOf], ?_⟩
      cases a with
      | none => simp [Builtin.firstCells, flatV]
      | some q => simp [Builtin.firstCells, flatV, loadCells, loadCellsFrom]
    · have hne : 0 < ys.length := List.length_pos_iff.2 hy
      have hsz' : sz = (U e).sz := by
        rw [← hsl.hz 0 hne]
        exact hsz _ (List.getElem_mem hne)
      subst hsz'
      obtain ⟨q, rfl⟩ : ∃ q, a = some q := by
        cases a with
        | none => have := hsl.h0 rfl; omega
        | some q => exact ⟨q, rfl⟩
      obtain ⟨hq1, hq2⟩ := hsl.hs q rfl (by have := hsl.hc; omega)
      obtain ⟨bq, oq, sq⟩ := q
      simp only at hq1 hq2; subst hq1
      refine ⟨val, ⟨hsl.hz, hsl.hr, hsl.ho⟩, fun w => by simp [Builtin.lenOf], ?_⟩
      have := run_loadCells (P := P) c.w ⟨bq, oq, none⟩ (ys.length * (U e).sz) (fun q => val (q / (U e).sz) (q % (U e).sz)) (fun j hj => by
        have h1 : j / (U e).sz < ys.length := (Nat.div_lt_iff_lt_mul (by omega)).2 hj
        have h2 : j % (U e).sz < (U e).sz := Nat.mod_lt _ (by omega)
        have := (hsl.hf _ rfl _ _ h1 h2).1
        rw [add_addr]
        rwa [show j / (U e).sz * (U e).sz + j % (U e).sz = j from by rw [Nat.mul_comm]; exact Nat.div_add_mod j _] at this)
      simpa [Builtin.firstCells, flatV] using this
  · rename_i l
    obtain ⟨hty, h1, hk⟩ := hk
    refine ⟨_, hk, fun c u hs g hr hsz => ?_⟩
    obtain ⟨rfl, hl⟩ := hr.s_inv
    refine ⟨by simpa using hl, fun i _ => .int .u8 ((l.getD i 0).toNat : Int), ⟨fun i hi => ?_, fun i hi j hj => ?_, fun _ _ _ _ => rfl⟩, fun w => by simp [Builtin.lenOf]; rfl, ?_⟩
    · exact hsz _ (List.getElem_mem hi)
    · have hi' : i < l.length := by simpa using hi
      simp only [List.getElem_map, byteA, AV.cells, List.length_singleton] at hj
      have ej : j = 0 := by omega
      subst ej
      simp only [List.getElem_map, byteA, AV.cells, List.getElem_singleton]
      rw [show l.getD i 0 = l[i] by simp [hi']]
      exact .v _
    · rw [h1]
      simp only [Builtin.firstCells, List.length_map, Sem.run_pure]
      congr 1
      apply Array.ext
      · simp [flatV, ByteArray.extract_mk]
      · intro i h2 h3
        have hi' : i < l.length := by simpa [flatV] using h3
        simp [flatV, ByteArray.extract_mk, hi']
  · rename_i id off len
    obtain ⟨h1, hk⟩ := hk
    split at hk
    · rename_i cs t hid
      obtain ⟨hle, hone, hna, hk⟩ := hk
      refine ⟨_, hk, fun c u hs g hr hsz => ?_⟩
      obtain ⟨cap, o', rfl, hc1, hc2, hoff, _⟩ := hr.oa_inv
      obtain ⟨vs, v1, v2, v3⟩ := g.obj id cs t (hs _ _ hid)
      have hlen : ((cs.drop off).take len).length = len := by simp; omega
      refine ⟨by omega, fun i _ => vs.getD (off + i) undef, ⟨fun i hi => hsz _ (List.getElem_mem hi), fun i hi j hj => ?_, fun i j hi hj => (v3 (off + i) (by omega)).2⟩, fun w => by simp [Builtin.lenOf]; omega, ?_⟩
      · have hcell : ((cs.drop off).take len)[i].cells = [((cs.drop off).take len)[i]] := by
          have hx := hna _ (List.getElem_mem hi)
          generalize ((cs.drop off).take len)[i] = x at hx
          cases x <;> simp [isAggA] at hx <;> rfl
        have hj' := hj
        rw [hcell] at hj'
        have ej : j = 0 := by simp only [List.length_singleton] at hj'; omega
        subst ej
        have e1 : ((cs.drop off).take len)[i].cells[0] = cs[off + i]'(by omega) := by
          simp only [hcell, List.getElem_singleton]
          simp
        rw [e1]
        exact (v3 (off + i) (by omega)).1
      · rw [h1, hlen]
        by_cases h0 : len = 0
        · subst h0
          simp [Builtin.firstCells, flatV, loadCells, loadCellsFrom]
        · obtain rfl := hoff h0
          have := run_loadCells (P := P) c.w ⟨(c.φ id).block, o', none⟩ (len * 1) (fun q => vs.getD (o' + q / 1) undef) (fun j hj => by
            rw [add_addr]
            have : o' + j < vs.size := by omega
            simp [World.cell?, v1, this])
          simpa [Builtin.firstCells, flatV] using this
    · exact hk.elim
  · exact hk.elim

/-- What an append comes to. -/
def vcAppend (U : TypeId → TI) (h : Heap) (ts : TypeId) (x y : AV) (Q : AV → Heap → Prop) : Prop :=
  match (U ts).k with
  | .slice e => (U e).sz ≠ 0 ∧ (U e).bytes ≠ 0 ∧ match x with
    | .sl xs p => srcA U e h y fun ys => Sized (U e).sz xs ∧ Sized (U e).sz ys ∧ (xs.length + ys.length) * (U e).bytes ≤ 140737488355328 ∧ match p with
      | .no => False
      | .full => (ys = [] → Q (.sl xs .full) h) ∧ (ys ≠ [] → (∀ id, h id = none → Q (.sl (xs ++ ys) (.own id)) (upd h id (some (.spare (xs.length + ys.length) (U e).sz)))) ∨
          ((U e).sz = 1 ∧ fit (U e).zero 1 ∧ isAggA (U e).zero = false ∧ (∀ z ∈ xs ++ ys, isAggA z = false) ∧ ∀ id m, h id = none → Q (.oa id 0 (xs.length + ys.length)) (upd h id (some (.obj (xs ++ ys ++ List.replicate m (U e).zero) e)))))
      | .own id => h id = some (.spare xs.length (U e).sz) ∧ Q (.sl (xs ++ ys) (.own id)) (upd h id (some (.spare (xs.length + ys.length) (U e).sz)))
    | .oa id off len => (U e).sz = 1 ∧ srcA U e h y fun ys => Sized 1 ys ∧ (∀ z ∈ ys, isAggA z = false) ∧ (len + ys.length) * (U e).bytes ≤ 140737488355328 ∧ match h id with
      | some (.obj cs t) => off + len ≤ cs.length ∧ (∀ z ∈ (cs.drop off).take len, isAggA z = false) ∧ fit (U e).zero 1 ∧ isAggA (U e).zero = false ∧
          (off + (len + ys.length) ≤ cs.length → Q (.oa id off (len + ys.length)) (upd h id (some (.obj (over cs (off + len) ys) t)))) ∧
          (∀ id' m, h id' = none → Q (.oa id' 0 (len + ys.length)) (upd h id' (some (.obj ((cs.drop off).take len ++ ys ++ List.replicate m (U e).zero) e))))
      | _ => False
    | _ => False
  | _ => False

theorem Sub.upd {h h' : Heap} (hs : Sub h h') (id : Nat) (k : Option Blk) : Sub (upd h id k) (upd h' id k) := by
  intro j l hj
  by_cases e : j = id
  · subst e; rw [upd_same] at hj ⊢; exact hj
  · rw [upd_other _ _ e] at hj ⊢; exact hs _ _ hj

def notInt : TK → Bool
  | .slice _ | .str => true
  | _ => false

theorem append_room {ts tx ty e : TypeId} {i : TypeInfo} {w : World} {base : Option Addr} {n cap m : Nat} {v : Value} {news : List Value}
    (ht : P.underlying ts = some (.slice e)) (hx : (∃ d, P.underlying tx = some (.slice d)) ∨ P.underlying tx = some .string) (hi : P.info? e = some i)
    (hlen : (Builtin.lenOf v).run P w = .ok m w) (hf : (Builtin.firstCells i.size m v).run P w = .ok news.toArray w) (hroom : n + m ≤ cap) :
    (Builtin.append_ #[ts, tx] ty #[.slice base n cap, v]).run P w = ((match base with | some a => storeCells (a.add (n * i.size)) news | none => pure ()).run P w).andThen fun _ w' => .ok (.slice base (n + m) cap) w' := by
  rcases hx with ⟨d, hx⟩ | hx <;> cases base <;> simp [Builtin.append_, run_underlying ht, run_underlying hx, sizeOf, typeInfo, hi, hlen, hroom, hf]

theorem append_grow {ts tx ty e : TypeId} {i : TypeInfo} {z : Value} {w : World} {base : Option Addr} {n cap m : Nat} {v : Value} {olds news : List Value}
    (ht : P.underlying ts = some (.slice e)) (hx : (∃ d, P.underlying tx = some (.slice d)) ∨ P.underlying tx = some .string) (hi : P.info? e = some i) (hz : i.zero = some z)
    (hlen : (Builtin.lenOf v).run P w = .ok m w) (h3 : (Builtin.firstCells i.size m v).run P w.drew = .ok news.toArray w.drew)
    (h4 : (Builtin.firstCells i.size n (.slice base n cap)).run P w.drew = .ok olds.toArray w.drew)
    (hgrow : cap < n + m) (hb : (n + m) * i.bytes ≤ 140737488355328) (hb0 : i.bytes ≠ 0) :
    (Builtin.append_ #[ts, tx] ty #[.slice base n cap, v]).run P w =
      .ok (.slice (some ⟨w.heap.size, 0, none⟩) (n + m) (grownCap w (n + m) cap e)) (w.drew.alloc (.cells (olds.toArray ++ news.toArray ++ Builtin.zeroCells z.cells (grownCap w (n + m) cap e - (n + m))) e)) := by
  have h1 : ¬ (n + m ≤ cap) := by omega
  have h2 : ¬ (Builtin.nextslicecap (n + m) cap * i.bytes > 2 ^ 48) := by
    have := growslice_fits hgrow hb
    omega
  have hz0 : (zeroValue e).run P w.drew = .ok z w.drew := by simp [zeroValue, typeInfo, hi, hz]
  have hfo : (Question.appendCap (n + m) cap e).forced = false := rfl
  rcases hx with ⟨d, hx⟩ | hx <;>
  · simp [Builtin.append_, run_underlying ht, run_underlying hx, sizeOf, typeInfo, hi, hlen, h1, h2, hb0, h3, h4, hz0, newRow, hfo, grownCap, -Array.append_assoc]
    try rfl

end
end Go.Ab
