/- One operation: what it is enough to show of it. -/
import Derived.Test.YtidpcjblciompaaAb10
set_option linter.unusedSimpArgs false
set_option linter.unusedVariables false
namespace Go.Ab
open Go

section
variable {P : Program} {U : TypeId → TI}

/-- May a function be called at all? -/
def callable (P : Program) (f : FuncId) : Prop := ∃ fn, P.funcs[f]? = some fn ∧ (fn.name == "runtime.NumGoroutine") = false ∧ fn.body.isNone = false

/-- THE CONTRACT of a function: called with values of these in a memory that has this owned, it returns something of which Q holds. -/
def FnOK (P : Program) (f : FuncId) (args : List AV) (h : Heap) (Q : AV → Heap → Prop) : Prop :=
  callable P f ∧ ∀ c (vs : Array Value), Sub h c.h → Good c → vs.size = args.length → (∀ i (hi : i < args.length), Rep c args[i] (vs.getD i undef)) →
    Calls P f vs c.w fun e w' => ∃ u, e = .returned u ∧ Comes1 c Q u w'

theorem Comes1.mono {c : Cx} {Q Q' : AV → Heap → Prop} {u : Value} {w' : World} (h : Comes1 c Q u w') (hq : ∀ x h, Q x h → Q' x h) : Comes1 c Q' u w' := by
  obtain ⟨c', x, h', h1, h2, h3, h4, h5, h6⟩ := h
  exact ⟨c', x, h', h1, h2, h3, h4, h5, hq _ _ h6⟩

theorem FnOK.mono {f : FuncId} {args : List AV} {h : Heap} {Q Q' : AV → Heap → Prop} (hf : FnOK P f args h Q) (hq : ∀ x h, Q x h → Q' x h) : FnOK P f args h Q' :=
  ⟨hf.1, fun c vs h1 h2 h3 h4 => (hf.2 c vs h1 h2 h3 h4).mono fun e w' ⟨u, h5, h6⟩ => ⟨u, h5, h6.mono hq⟩⟩

/-- What copy comes to, elements of one cell. -/
def vcCopy (U : TypeId → TI) (h : Heap) (ts : TypeId) (x y : AV) (Q : AV → Heap → Prop) : Prop :=
  match (U ts).k with
  | .slice e => (U e).sz = 1 ∧ match x with
    | .oa id off len => srcA U e h y fun ys => Sized 1 ys ∧ (∀ z ∈ ys, isAggA z = false) ∧ match h id with
      | some (.obj cs t) => ys.length ≤ len ∧ off + len ≤ cs.length ∧ Q (.v (.int .i64 ys.length)) (upd h id (some (.obj (over cs off ys) t)))
      | _ => False
    | _ => False
  | _ => False

/-- The zero cells of so many elements. -/
def zerosA (z : AV) (n sz : Nat) : List AV := (List.range (n * sz)).map fun q => z.cells.getD (q % sz) default

/-- Is it the nil slice? -/
def nilS : Operand → Bool
  | .const (.slice none _ _) => true
  | _ => false

/-- A slice against nil: of one that holds something it is known. -/
def vcNil (U : TypeId → TI) (h : Heap) (op : BinOp) (ty : TypeId) (x : AV) (Q : AV → Heap → Prop) : Prop :=
  match (U ty).k, op, x with
  | .slice _, .eql, .sl xs _ => ∀ b : Bool, (xs ≠ [] → b = false) → Q (.v (.bool b)) h
  | .slice _, .neq, .sl xs _ => ∀ b : Bool, (xs ≠ [] → b = true) → Q (.v (.bool b)) h
  | .slice _, .eql, .oa .. => Q (.v (.bool false)) h
  | .slice _, .neq, .oa .. => Q (.v (.bool true)) h
  | _, _, _ => False

/-- Anything but what has a rule of its own here changes nothing owned. -/
def vcOp (P : Program) (U : TypeId → TI) (ρ : Env) (h : Heap) (o : Oper) (Q : AV → Heap → Prop) : Prop :=
  match o.op with
  | .alloc t => (U t).sz ≠ 0 ∧ fit (U t).zero (U t).sz ∧ ∀ id, h id = none → Q (.ptr id 0) (upd h id (some (.obj (U t).zero.cells t)))
  | .box t x => (U t).sz ≠ 0 ∧ withv ρ x fun y => fit y (U t).sz ∧ ∀ id, h id = none → Q (.ptr id 0) (upd h id (some (.obj y.cells t)))
  | .store t a x => (U t).sz ≠ 0 ∧ withv ρ a fun p => withv ρ x fun y => match p with
    | .ptr id off => match h id with
      | some (.obj cs t') => fit y (U t).sz ∧ off + (U t).sz ≤ cs.length ∧ Q (.v undef) (upd h id (some (.obj (over cs off y.cells) t')))
      | _ => False
    | _ => False
  | .makeSlice t l m => withv ρ l fun a => withv ρ m fun b => match (U t).k, a, b with
    | .slice e, .v (.int _ n), .v (.int _ n') => n = n' ∧ 0 ≤ n ∧ n < lim ∧ n * (U e).bytes ≤ 281474976710656 ∧ (U e).sz ≠ 0 ∧ fit (U e).zero (U e).sz ∧
      ∀ id, h id = none → Q (.oa id 0 n.toNat) (upd h id (some (.obj (zerosA (U e).zero n.toNat (U e).sz) e)))
    | _, _, _ => False
  | .call c => match c.callee with
    | .value q => withv ρ q fun y => match y with
      | .fn f cap => withvs ρ c.args.toList fun ys => FnOK P f (ys ++ cap) h Q
      | _ => False
    | .builtin .append => match c.args.toList, c.argTypes.toList with
      | [x, y], [ts, tx] => withv ρ x fun a => withv ρ y fun b => notInt (U tx).k = true ∧ vcAppend U h ts a b Q
      | _, _ => False
    | .builtin .copy => match c.args.toList, c.argTypes.toList with
      | [x, y], [ts, _] => withv ρ x fun a => withv ρ y fun b => vcCopy U h ts a b Q
      | _, _ => False
    | _ => pv U ρ h o.op fun x => Q x h
  | .binOp op ty x y _ => if nilS y then withv ρ x fun a => vcNil U h op ty a Q else pv U ρ h o.op fun x => Q x h
  | _ => pv U ρ h o.op fun x => Q x h

def Upon1 (P : Program) (c : Cx) (Q : AV → Heap → Prop) : Result Next → Prop
  | .ok (.value u) w' => Comes1 c Q u w'
  | .ok .skip w' => Comes1 c Q undef w'
  | .ok (.enter f args) w' => w' = c.w ∧ Calls P f args w' fun e w'' => ∃ u, e = .returned u ∧ Comes1 c Q u w''
  | _ => False

theorem upon_pure {ρ : Env} {h : Heap} {o : Oper} {Q : AV → Heap → Prop} (hU : ∀ t, AgreeT P U t) (hp : pv U ρ h o.op fun x => Q x h) {c : Cx} {a : Act} {n : Nat} (hs : Sub h c.h) (g : Good c) (he : EnvSat c n ρ a) :
    Upon1 P c Q ((execOp a.eval o).run P c.w) := by
  obtain ⟨X, hQ, hX⟩ := pv_sound hU hp
  obtain ⟨u, c', h1, h2, h3, h4, h5⟩ := hX c a n hs g he
  rw [h1]
  exact ⟨c', X, h, rfl, h2, h3, h5, by rw [h4]; exact hs, hQ⟩

theorem fresh_in {h : Heap} {c : Cx} (hs : Sub h c.h) {id : Nat} (hid : c.h id = none) : h id = none := by
  cases hh : h id with
  | none => rfl
  | some k => rw [hs _ _ hh] at hid; cases hid

theorem newVar_sound {c : Cx} {h : Heap} {t : TypeId} {y : AV} {u : Value} {n : Nat} {Q : AV → Heap → Prop} (hs : Sub h c.h) (g : Good c) (hr : Rep c y u) (hf : fit y n)
    (hQ : ∀ id, h id = none → Q (.ptr id 0) (upd h id (some (.obj y.cells t)))) : Comes1 c Q (.pointer (some ⟨c.w.heap.size, 0, none⟩)) (c.w.alloc (.cells u.cells t)) := by
  obtain ⟨id, hid⟩ := g.fresh
  obtain ⟨f1, f2, f3, f4⟩ := hr.fits hf
  refine ⟨c.allocAt (.cells u.cells t) id ⟨c.w.heap.size, 0, none⟩ (.obj y.cells t), _, _, rfl, ?_, Ext.allocAt c _ id _ _ rfl (.inl hid), ?_, hs.upd id _, hQ id (fresh_in hs hid)⟩
  · refine g.allocAt _ _ (0, 0) id _ _ rfl (.inl hid) (fun cs t' hh => ?_) (fun n sz hh => by cases hh)
    cases hh
    exact ⟨rfl, rfl, by omega, fun j hj => ⟨f3 j hj, f4 j (by omega)⟩⟩
  · have := Rep.ptr (c := c.allocAt (.cells u.cells t) id ⟨c.w.heap.size, 0, none⟩ (.obj y.cells t)) id 0 y.cells t (by simp [Cx.allocAt, upd_same])
    simpa [Cx.allocAt, upd_same] using this

theorem sound_alloc {ρ : Env} {h : Heap} {o : Oper} {Q : AV → Heap → Prop} {t : TypeId} (hU : ∀ t, AgreeT P U t) (ho : o.op = .alloc t) (hz : (U t).sz ≠ 0) (hf : fit (U t).zero (U t).sz)
    (hQ : ∀ id, h id = none → Q (.ptr id 0) (upd h id (some (.obj (U t).zero.cells t)))) {c : Cx} {a : Act} (hs : Sub h c.h) (g : Good c) : Upon1 P c Q ((execOp a.eval o).run P c.w) := by
  obtain ⟨i, i1, i2, i3, z, z1, z2, z3⟩ := (hU t).info hz
  have hz0 : (zeroValue t).run P c.w = .ok z c.w := by simp [zeroValue, typeInfo, i1, z1]
  have := newVar_sound (t := t) hs g (z3 c) hf hQ
  have hr : (execOp a.eval o).run P c.w = .ok (.value (.pointer (some ⟨c.w.heap.size, 0, none⟩))) (c.w.alloc (.cells z.cells t)) := by
    simp [execOp, ho, Instr.alloc, hz0, newVar, newRow]
  rw [hr]
  exact this

theorem sound_box {ρ : Env} {h : Heap} {o : Oper} {Q : AV → Heap → Prop} {t : TypeId} {x : Operand} (ho : o.op = .box t x)
    (hk : withv ρ x fun y => fit y (U t).sz ∧ ∀ id, h id = none → Q (.ptr id 0) (upd h id (some (.obj y.cells t)))) {c : Cx} {a : Act} {n : Nat} (hs : Sub h c.h) (g : Good c) (he : EnvSat c n ρ a) :
    Upon1 P c Q ((execOp a.eval o).run P c.w) := by
  obtain ⟨y, hy, hf, hQ⟩ := withv_elim hk
  have := newVar_sound (t := t) hs g (ev_rep he hy) hf hQ
  have hr : (execOp a.eval o).run P c.w = .ok (.value (.pointer (some ⟨c.w.heap.size, 0, none⟩))) (c.w.alloc (.cells (a.eval x).cells t)) := by
    simp [execOp, ho, Instr.box, newVar, newRow]
  rw [hr]
  exact this

theorem sound_store {ρ : Env} {h : Heap} {o : Oper} {Q : AV → Heap → Prop} {t : TypeId} {p x : Operand} (hU : ∀ t, AgreeT P U t) (ho : o.op = .store t p x) (hk : vcOp P U ρ h o Q) {c : Cx} {a : Act} {n : Nat} (hs : Sub h c.h) (g : Good c) (he : EnvSat c n ρ a) :
    Upon1 P c Q ((execOp a.eval o).run P c.w) := by
  simp only [vcOp, ho] at hk
  obtain ⟨hz, hk⟩ := hk
  obtain ⟨A, hA, hk⟩ := withv_elim hk
  obtain ⟨y, hy, hk2⟩ := withv_elim hk
  clear hk
  split at hk2
  · rename_i id off
    split at hk2
    · rename_i cs t' hid
      obtain ⟨hf, hb, hQ⟩ := hk2
      obtain ⟨f1, f2, f3, f4⟩ := (ev_rep he hy).fits hf
      obtain ⟨hu, _⟩ := (ev_rep he hA).ptr_inv
      obtain ⟨h1, h2⟩ := fillObj_sound (P := P) (off := off) (xs := y.cells) (vs := (a.eval x).cells.toList) (u := undef) (X := .v undef) hs g hid (by simp; omega) (by omega)
        (fun j hj => by
          have e : (a.eval x).cells.toList.getD j undef = (a.eval x).cells.getD j undef := by simp [List.getD]
          rw [e]
          exact ⟨f3 j hj, f4 j (by omega)⟩) (fun _ _ => .v _) hQ
      have hr : (execOp a.eval o).run P c.w = .ok .skip (c.w.setCells (c.φ id).block off (a.eval x).cells.toList) := by
        simp [execOp, ho, Instr.storeAt, hu, Instr.sureAddr, storeVar, sizeOf_run hU hz, f1, h1]
      rw [hr]
      exact h2
    · exact hk2.elim
  · exact hk2.elim

theorem sound_makeSlice {ρ : Env} {h : Heap} {o : Oper} {Q : AV → Heap → Prop} {t : TypeId} {l m : Operand} (hU : ∀ t, AgreeT P U t) (ho : o.op = .makeSlice t l m) (hk : vcOp P U ρ h o Q) {c : Cx} {a : Act} {n : Nat} (hs : Sub h c.h) (g : Good c) (he : EnvSat c n ρ a) :
    Upon1 P c Q ((execOp a.eval o).run P c.w) := by
  simp only [vcOp, ho] at hk
  obtain ⟨A, hA, hk⟩ := withv_elim hk
  obtain ⟨B, hB, hk2⟩ := withv_elim hk
  clear hk
  have hd := (hU t).desc
  split at hk2
  · rename_i e k1 n1 k2 n2 hty
    rw [hty] at hd
    obtain ⟨rfl, h0, hlim, hbytes, hz, hf, hQ⟩ := hk2
    obtain ⟨i, i1, i2, i3, z, z1, z2, z3⟩ := (hU e).info hz
    have hz0 : (zeroValue e).run P c.w = .ok z c.w := by simp [zeroValue, typeInfo, i1, z1]
    obtain ⟨f1, f2, f3, f4⟩ := (z3 c).fits hf
    have hw : IntKind.i64.wrap n1 = n1 := by
      simp only [lim] at hlim
      exact IntWalk.i64_in _ (by omega)
    generalize hcells : (Array.range (n1.toNat * (U e).sz)).map (fun j => (if n1.toNat * (U e).sz = 0 then #[] else z.cells)[j % (if n1.toNat * (U e).sz = 0 then #[] else z.cells).size]!) = cells
    have hr : (execOp a.eval o).run P c.w = .ok (.value (.slice (some ⟨c.w.heap.size, 0, none⟩) n1.toNat n1.toNat)) (c.w.alloc (.cells cells e)) := by
      have hcap : ¬ (n1 < 0 ∨ 281474976710656 < (U e).bytes * n1) := by
        rw [Int.mul_comm]; omega
      have h00 : ¬ (n1 < 0) := by omega
      have hcap' : ¬ (281474976710656 < (U e).bytes * n1) := fun hh => hcap (.inr hh)
      by_cases hn : n1.toNat * (U e).sz = 0
      · simp only [hn, if_true] at hcells
        simp [execOp, ho, (ev_rep he hA).v_inv, (ev_rep he hB).v_inv, Instr.makeSlice, run_underlying hd, asInt, asIntOf, typeInfo, i1, i3, hw, sizeOf_run hU hz, newRow, hcap', h00, hn]
        simp at hcells
        rw [← hcells]
      · simp only [hn, if_false] at hcells
        simp [execOp, ho, (ev_rep he hA).v_inv, (ev_rep he hB).v_inv, Instr.makeSlice, run_underlying hd, asInt, asIntOf, typeInfo, i1, i3, hw, sizeOf_run hU hz, newRow, hcap', h00, hn, hz0, hcells]
    rw [hr]
    obtain ⟨id, hid⟩ := g.fresh
    refine ⟨c.allocAt (.cells cells e) id ⟨c.w.heap.size, 0, none⟩ (.obj (zerosA (U e).zero n1.toNat (U e).sz) e), _, _, rfl, ?_, Ext.allocAt c _ id _ _ rfl (.inl hid), ?_, hs.upd id _, hQ id (fresh_in hs hid)⟩
    · refine g.allocAt _ _ (0, 0) id _ _ rfl (.inl hid) (fun cs t' hh => ?_) (fun n sz hh => by cases hh)
      cases hh
      have hsz : cells.size = n1.toNat * (U e).sz := by rw [← hcells]; simp
      refine ⟨rfl, rfl, by simp [zerosA, hsz], fun j hj => ?_⟩
      have hj' : j < n1.toNat * (U e).sz := by simpa [zerosA] using hj
      have hmod : j % (U e).sz < (U e).sz := Nat.mod_lt _ (by omega)
      have e1 : (zerosA (U e).zero n1.toNat (U e).sz)[j] = (U e).zero.cells[j % (U e).sz]'(by omega) := by
        simp [zerosA, show j % (U e).sz < (U e).zero.cells.length by omega]
      have e2 : cells.getD j undef = z.cells.getD (j % (U e).sz) undef := by
        rw [← hcells]
        have hne : ¬ (n1.toNat * (U e).sz = 0) := by omega
        simp only [hne, if_false]
        have h9 : j % (U e).sz < z.cells.size := by omega
        simp [hj', z2]
        rw [getElem!_pos z.cells (j % (U e).sz) h9, Array.getElem?_eq_getElem h9]
        rfl
      rw [e1, e2]
      exact ⟨f3 _ (by omega), f4 _ hmod⟩
    · have := Rep.oa (c := c.allocAt (.cells cells e) id ⟨c.w.heap.size, 0, none⟩ (.obj (zerosA (U e).zero n1.toNat (U e).sz) e)) id 0 n1.toNat n1.toNat 0 (zerosA (U e).zero n1.toNat (U e).sz) e
        (by simp [Cx.allocAt, upd_same]) (Nat.le_refl _) (by omega) (fun _ => ⟨rfl, by simp only [zerosA, List.length_map, List.length_range]; have := Nat.le_mul_of_pos_right n1.toNat (show 0 < (U e).sz by omega); omega⟩)
      simpa [Cx.allocAt, upd_same] using this
  · exact hk2.elim

theorem sound_copy {h : Heap} {ts tx ty : TypeId} {x y : AV} {Q : AV → Heap → Prop} (hU : ∀ t, AgreeT P U t) (hk : vcCopy U h ts x y Q) (c : Cx) (u v : Value)
    (hs : Sub h c.h) (g : Good c) (hx : Rep c x u) (hy : Rep c y v) :
    ∃ r w', (Builtin.copy_ #[ts, tx] ty #[u, v]).run P c.w = .ok r w' ∧ Comes1 c Q r w' := by
  unfold vcCopy at hk
  have hd := (hU ts).desc
  split at hk
  · rename_i e hty
    rw [hty] at hd
    obtain ⟨hz, hk⟩ := hk
    split at hk
    · rename_i id off len
      obtain ⟨ys, hk', hsrc⟩ := srcA_run (P := P) (by omega) hk
      clear hk
      obtain ⟨hsy, hna, hk⟩ := hk'
      split at hk
      · rename_i cs t hid
        obtain ⟨hle, hb, hQ⟩ := hk
        rw [hz] at hsrc
        obtain ⟨hl, val, row, hlen, hfirst⟩ := hsrc c v hs g hy hsy
        obtain ⟨cap, o', rfl, h1, h2, h3, _⟩ := hx.oa_inv
        have hcells : ∀ i (hi : i < ys.length), ys[i].cells = [ys[i]] := fun i hi => by
          have hh := hna _ (List.getElem_mem hi)
          generalize ys[i] = q at hh
          cases q <;> simp [isAggA] at hh <;> rfl
        have hrow : ∀ i (hi : i < ys.length), Rep c ys[i] (val i 0) := fun i hi => by
          have := row.hr i hi 0 (by rw [hcells i hi]; simp)
          simpa only [hcells i hi, List.getElem_singleton] using this
        have hget : ∀ j, j < ys.length → (flatV 1 ys.length val).getD j undef = val j 0 := fun j hj => by
          have := flatV_get (sz := 1) (n := ys.length) (val := val) hj (show 0 < 1 by omega)
          rw [Nat.mul_one, Nat.add_zero] at this
          simp [List.getD, this]
        obtain ⟨s1, s2⟩ := fillObj_sound (P := P) (off := off) (xs := ys) (vs := flatV 1 ys.length val) (u := .int .i64 ys.length) (X := .v (.int .i64 ys.length)) hs g hid (by simp [flatV_length]) (by omega)
          (fun j hj => by rw [hget j hj]; exact ⟨hrow j hj, row.ho j 0 hj (by omega)⟩) (fun _ _ => .v _) hQ
        refine ⟨_, _, ?_, s2⟩
        have hmin : Nat.min ys.length len = ys.length := Nat.min_eq_left hle
        by_cases h0 : ys.length = 0
        · have e0 : flatV 1 ys.length val = [] := by simp [flatV, h0]
          rw [e0] at hfirst s1 ⊢
          simp [Builtin.copy_, run_underlying hd, hlen, hmin, sizeOf_run hU (show (U e).sz ≠ 0 by omega), hz, hfirst, goInt, storeCells, World.setCells]
        · obtain rfl := h3 (by omega)
          simp [Builtin.copy_, run_underlying hd, hlen, hmin, sizeOf_run hU (show (U e).sz ≠ 0 by omega), hz, hfirst, goInt, s1]
      · exact hk.elim
    · exact hk.elim
  · exact hk.elim

theorem sound_call {f : FuncId} {h : Heap} {Q : AV → Heap → Prop} {ys : List AV} (hf : FnOK P f ys h Q) {c : Cx} (hs : Sub h c.h) (g : Good c) {vs : Array Value} (h1 : vs.size = ys.length) (h2 : ∀ i (hi : i < ys.length), Rep c ys[i] (vs.getD i undef)) :
    Upon1 P c Q ((callFunc f vs).run P c.w) := by
  obtain ⟨⟨fn, hfn, hname, hbody⟩, hcall⟩ := hf
  have : (callFunc f vs).run P c.w = .ok (.enter f vs) c.w := by
    have h3 : fn.name ≠ "runtime.NumGoroutine" := by simpa using hname
    have h4 : fn.body ≠ none := fun hh => by rw [hh] at hbody; cases hbody
    simp [callFunc, hfn, h3, h4]
  rw [this]
  exact ⟨rfl, hcall c vs hs g h1 h2⟩

theorem Upon1_value {c : Cx} {Q : AV → Heap → Prop} {s : Sem Value} {r : Value} {w' : World} (hr : s.run P c.w = .ok r w') (hc : Comes1 c Q r w') : Upon1 P c Q ((do pure (.value (← s)) : Sem Next).run P c.w) := by
  simp only [Sem.run_bind, hr, Result.andThen_ok, Sem.run_pure]
  exact hc

theorem equalIn_slice_nil {ty e : TypeId} (h : P.underlying ty = some (.slice e)) (d : Nat) (a : Option Addr) (l k l' k' : Nat) (w : World) : (Op.equalIn (d + 1) ty (.slice a l k) (.slice none l' k')).run P w = .ok a.isNone w := by
  cases a <;> simp [Op.equalIn, run_underlying h]

theorem sound_nil {ρ : Env} {h : Heap} {o : Oper} {Q : AV → Heap → Prop} {op : BinOp} {t t' : TypeId} {x y : Operand} (hU : ∀ t, AgreeT P U t) (ho : o.op = .binOp op t x y t') (hy : nilS y = true) (hk : withv ρ x fun a => vcNil U h op t a Q)
    {c : Cx} {a : Act} {n : Nat} (hs : Sub h c.h) (g : Good c) (he : EnvSat c n ρ a) : Upon1 P c Q ((execOp a.eval o).run P c.w) := by
  obtain ⟨A, hA, hk2⟩ := withv_elim hk
  clear hk
  obtain ⟨l', k', rfl⟩ : ∃ l' k', y = .const (.slice none l' k') := by
    unfold nilS at hy
    split at hy
    · exact ⟨_, _, rfl⟩
    · cases hy
  have hev : a.eval (.const (.slice none l' k')) = .slice none l' k' := rfl
  have hd := (hU t).desc
  have hgu : ∀ ad l k, (eqGuard op t x (.const (.slice none l' k')) (.slice ad l k) (.slice none l' k')).run P c.w = .ok () c.w := fun ad l k => eqGuard_other _ _ _ _ _ _ _ rfl
  unfold vcNil at hk2
  split at hk2
  · rename_i e xs p hty
    rw [hty] at hd
    obtain ⟨ad, cap, sz, val, hu, sl⟩ := (ev_rep he hA).sl_inv
    have h1 : (execOp a.eval o).run P c.w = .ok (.value (.bool ad.isNone)) c.w := by
      simp [execOp, ho, hu, hev, hgu, binOp, run_eql _ _ _ _ _ (equalIn_slice_nil hd 9999 ad _ _ l' k' c.w)]
    rw [h1]
    refine ⟨c, _, h, rfl, g, .refl c, .v _, hs, hk2 _ fun hne => ?_⟩
    cases ad with
    | some q => rfl
    | none => have := sl.h0 rfl; have := sl.hc; have := List.length_pos_iff.2 hne; omega
  · rename_i e xs p hty
    rw [hty] at hd
    obtain ⟨ad, cap, sz, val, hu, sl⟩ := (ev_rep he hA).sl_inv
    have h1 : (execOp a.eval o).run P c.w = .ok (.value (.bool (!ad.isNone))) c.w := by
      simp [execOp, ho, hu, hev, hgu, binOp, run_eql _ _ _ _ _ (equalIn_slice_nil hd 9999 ad _ _ l' k' c.w)]
    rw [h1]
    refine ⟨c, _, h, rfl, g, .refl c, .v _, hs, hk2 _ fun hne => ?_⟩
    cases ad with
    | some q => rfl
    | none => have := sl.h0 rfl; have := sl.hc; have := List.length_pos_iff.2 hne; omega
  · rename_i e id off len hty
    rw [hty] at hd
    obtain ⟨cap, o', hu, _⟩ := (ev_rep he hA).oa_inv
    have h1 : (execOp a.eval o).run P c.w = .ok (.value (.bool false)) c.w := by
      simp [execOp, ho, hu, hev, hgu, binOp, run_eql _ _ _ _ _ (equalIn_slice_nil hd 9999 _ _ _ l' k' c.w)]
    rw [h1]
    exact ⟨c, _, h, rfl, g, .refl c, .v _, hs, hk2⟩
  · rename_i e id off len hty
    rw [hty] at hd
    obtain ⟨cap, o', hu, _⟩ := (ev_rep he hA).oa_inv
    have h1 : (execOp a.eval o).run P c.w = .ok (.value (.bool true)) c.w := by
      simp [execOp, ho, hu, hev, hgu, binOp, run_eql _ _ _ _ _ (equalIn_slice_nil hd 9999 _ _ _ l' k' c.w)]
    rw [h1]
    exact ⟨c, _, h, rfl, g, .refl c, .v _, hs, hk2⟩
  · exact hk2.elim

/-- ONE OPERATION. -/
theorem vcOp_sound {ρ : Env} {h : Heap} {o : Oper} {Q : AV → Heap → Prop} (hU : ∀ t, AgreeT P U t) (hk : vcOp P U ρ h o Q) {c : Cx} {a : Act} {n : Nat} (hs : Sub h c.h) (g : Good c) (he : EnvSat c n ρ a) :
    Upon1 P c Q ((execOp a.eval o).run P c.w) := by
  have hk0 := hk
  unfold vcOp at hk
  split at hk
  · rename_i t ho
    exact sound_alloc (ρ := ρ) hU ho hk.1 hk.2.1 hk.2.2 hs g
  · rename_i t x ho
    exact sound_box ho hk.2 hs g he
  · rename_i t p x ho
    exact sound_store hU ho hk0 hs g he
  · rename_i t l m ho
    exact sound_makeSlice hU ho hk0 hs g he
  · rename_i cl ho
    obtain ⟨callee, args, ts⟩ := cl
    simp only at hk
    split at hk
    · rename_i q
      obtain ⟨y, hy, hk⟩ := withv_elim hk
      split at hk
      · rename_i f cap
        obtain ⟨ys, hys, hk⟩ := withvs_elim hk
        obtain ⟨vs, hu, hn, hr⟩ := (ev_rep he hy).fn_inv
        obtain ⟨h1, h2⟩ := evs_rep he _ _ hys
        have : (execOp a.eval o).run P c.w = (callFunc f (args.map a.eval ++ vs)).run P c.w := by
          simp [execOp, ho, resolve, hu, Deferred.ofValue, invoke]
        rw [this]
        refine sound_call hk hs g (by simp; simp at h1; omega) fun i hi => ?_
        have hsz : (args.map a.eval).size = ys.length := by simpa using h1
        by_cases hlt : i < ys.length
        · have e1 : (ys ++ cap)[i] = ys[i] := List.getElem_append_left hlt
          have hlt' : i < args.size := by simpa using (show i < (args.map a.eval).size by omega)
          have := h2 i (by simpa using hlt') hlt
          rw [e1]
          have e2 : (args.map a.eval ++ vs).getD i undef = a.eval args.toList[i] := by
            have h9 : i < (args.map a.eval ++ vs).size := by simp; omega
            rw [Array.getD, dif_pos h9]
            show (args.map a.eval ++ vs)[i] = _
            rw [Array.getElem_append_left (by simpa using hlt')]
            simp
          rw [e2]
          exact this
        · have hi' : i < ys.length + cap.length := by simpa using hi
          have e1 : (ys ++ cap)[i] = cap[i - ys.length] := List.getElem_append_right (by omega)
          rw [e1]
          have e2 : (args.map a.eval ++ vs).getD i undef = vs.getD (i - ys.length) undef := by
            have h9 : i < (args.map a.eval ++ vs).size := by simp; simp at hsz; omega
            have h8 : i - ys.length < vs.size := by omega
            rw [Array.getD, dif_pos h9, Array.getD, dif_pos h8]
            show (args.map a.eval ++ vs)[i] = _
            rw [Array.getElem_append_right (by omega)]
            simp only [hsz]
            rfl
          rw [e2]
          exact hr _ (by omega)
      · exact hk.elim
    · split at hk
      · rename_i x y t1 t2 hA hB
        obtain ⟨A, hA', hk⟩ := withv_elim hk
        obtain ⟨B, hB', hk2⟩ := withv_elim hk
        obtain ⟨htx, hk3⟩ := hk2
        obtain ⟨r, w', hr, hc⟩ := append_sound (P := P) (ty := o.type) hU htx hk3 c _ _ hs g (ev_rep he hA') (ev_rep he hB')
        rw [exec_builtin ho]
        have e1 : args = #[x, y] := by rw [← Array.toList_inj]; exact hA
        have e2 : ts = #[t1, t2] := by rw [← Array.toList_inj]; exact hB
        subst e1; subst e2
        exact Upon1_value (by simpa using hr) hc
      · exact hk.elim
    · split at hk
      · rename_i x y t1 t2 hA hB
        obtain ⟨A, hA', hk⟩ := withv_elim hk
        obtain ⟨B, hB', hk2⟩ := withv_elim hk
        obtain ⟨r, w', hr, hc⟩ := sound_copy (P := P) (tx := t2) (ty := o.type) hU hk2 c _ _ hs g (ev_rep he hA') (ev_rep he hB')
        rw [exec_builtin ho]
        have e1 : args = #[x, y] := by rw [← Array.toList_inj]; exact hA
        have e2 : ts = #[t1, t2] := by rw [← Array.toList_inj]; exact hB
        subst e1; subst e2
        exact Upon1_value (by simpa using hr) hc
      · exact hk.elim
    · exact upon_pure hU hk hs g he
  · rename_i op ty x y t' ho
    split at hk
    · rename_i hy
      exact sound_nil hU ho hy hk hs g he
    · exact upon_pure hU (by rw [ho] at hk ⊢; exact hk) hs g he
  · exact upon_pure hU hk hs g he

end
end Go.Ab
