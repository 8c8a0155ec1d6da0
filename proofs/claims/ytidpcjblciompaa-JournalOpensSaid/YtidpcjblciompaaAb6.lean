/- Addresses, loads, cuts, conversions. -/
import Derived.Test.YtidpcjblciompaaAb5
import Derived.WalkKit
set_option linter.unusedSimpArgs false
set_option linter.unusedVariables false
namespace Go.Ab
open Go

section
variable {P : Program} {U : TypeId → TI} {ρ : Env} {h : Heap} {k : AV → Prop} {o : Oper}

theorem add_addr (b o n : Nat) : (⟨b, o, none⟩ : Addr).add n = ⟨b, o + n, none⟩ := by
  unfold Addr.add
  split <;> simp_all

theorem sound_index {ty : TypeId} {x i : Operand} (hU : ∀ t, AgreeT P U t) (ho : o.op = .index ty x i) (hp : pv U ρ h (.index ty x i) k) : ∃ X, k X ∧ PureOK P o ρ h X := by
  obtain ⟨A, hA, hk⟩ := withv_elim hp
  obtain ⟨B, hB, hk2⟩ := withv_elim hk
  clear hk
  have hk := hk2
  clear hk2
  split at hk
  · rename_i l kk n hty
    obtain ⟨h0, b, hb, hk⟩ := hk
    refine ⟨_, hk, .stay fun c a m hc g he => ⟨_, ?_, .v _⟩⟩
    have hd := (hU ty).desc
    rw [hty] at hd
    obtain ⟨hi, hb'⟩ := List.getElem?_eq_some_iff.1 hb
    have e : (⟨l.toArray⟩ : ByteArray)[n.toNat]? = some b := by
      rw [getElem?_pos (⟨l.toArray⟩ : ByteArray) n.toNat hi, ← hb']
      rfl
    simp [execOp, ho, (ev_rep he hA).s_inv.1, (ev_rep he hB).v_inv, Instr.index, asIntOf, run_underlying hd, h0, e]
  · exact hk.elim

theorem fieldPlace_run {a : Addr} {f : Field} (hU : ∀ t, AgreeT P U t) (hz : (U f.type).sz ≠ 0) (w : World) : (fieldPlace a f).run P w = .ok (a.add f.offset) w := by
  simp [fieldPlace, sizeOf_run hU hz, hz]

theorem fields_get {ty : TypeId} {fs : List (Nat × TypeId)} {f off : Nat} {t : TypeId} (hU : ∀ t, AgreeT P U t) (hty : (U ty).k = .strct fs) (hf : fs[f]? = some (off, t)) :
    ∃ (fields : Array Field) (fd : Field), P.underlying ty = some (.struct fields) ∧ fields[f]? = some fd ∧ fd.offset = off ∧ fd.type = t := by
  have hd := (hU ty).desc
  rw [hty] at hd
  obtain ⟨fields, hd, hfs, _⟩ := hd
  rw [← hfs] at hf
  obtain ⟨fd, hf1, hf2⟩ := List.getElem?_map .. ▸ hf |> Option.map_eq_some_iff.1
  simp only [Prod.mk.injEq] at hf2
  exact ⟨fields, fd, hd, by simpa using hf1, hf2.1, hf2.2⟩

theorem sound_fieldAddr {ty : TypeId} {x : Operand} {f : Nat} (hU : ∀ t, AgreeT P U t) (ho : o.op = .fieldAddr ty x f) (hp : pv U ρ h (.fieldAddr ty x f) k) : ∃ X, k X ∧ PureOK P o ρ h X := by
  obtain ⟨A, hA, hk⟩ := withv_elim hp
  split at hk
  · rename_i fs hty
    split at hk
    · rename_i off t hf
      obtain ⟨hz, hk⟩ := hk
      obtain ⟨fields, fd, hd, hf3, rfl, rfl⟩ := fields_get hU hty hf
      have hrun : ∀ (b q : Nat) (w : World), (Instr.fieldAt ty (.pointer (some ⟨b, q, none⟩)) f).run P w = .ok (.pointer (some ⟨b, q + fd.offset, none⟩)) w := fun b q w => by
        simp [Instr.fieldAt, run_underlying hd, hf3, Instr.sureAddr, fieldPlace_run hU hz, add_addr]
      split at hk
      · rename_i id q
        refine ⟨_, hk, .stay fun c a m hc g he => ?_⟩
        obtain ⟨hu, cs, t, hcs⟩ := (ev_rep he hA).ptr_inv
        exact ⟨_, by simp [execOp, ho, hu, hrun], .ptr _ _ cs t hcs⟩
      · rename_i z q
        refine ⟨_, hk, .stay fun c a m hc g he => ?_⟩
        obtain ⟨b, p, val, hu, h1, h2, h3, h4⟩ := (ev_rep he hA).pe_inv
        refine ⟨_, by simp [execOp, ho, hu, hrun]; rfl, ?_⟩
        rw [Nat.add_assoc]
        exact .pe z _ b p val h1 h2 h3 h4
      · exact hk.elim
    · exact hk.elim
  · exact hk.elim

theorem sound_indexAddr {ty : TypeId} {x i : Operand} (hU : ∀ t, AgreeT P U t) (ho : o.op = .indexAddr ty x i) (hp : pv U ρ h (.indexAddr ty x i) k) : ∃ X, k X ∧ PureOK P o ρ h X := by
  obtain ⟨A, hA, hk⟩ := withv_elim hp
  obtain ⟨B, hB, hk2⟩ := withv_elim hk
  clear hk
  have hk := hk2
  clear hk2
  have hd := (hU ty).desc
  split at hk
  · rename_i e xs p kk n hty
    rw [hty] at hd
    obtain ⟨hz, h0, b, hb, hsz, hk⟩ := hk
    refine ⟨_, hk, .stay fun c a m hc g he => ?_⟩
    obtain ⟨q, cap, sz, val, hu, hs⟩ := (ev_rep he hA).sl_inv
    obtain ⟨hi, hb'⟩ := List.getElem?_eq_some_iff.1 hb
    have hcap := hs.hc
    obtain ⟨q, rfl⟩ : ∃ q', q = some q' := by
      cases q with
      | none => have := hs.h0 rfl; omega
      | some q' => exact ⟨q', rfl⟩
    obtain ⟨hspot, hblk⟩ := hs.hs q rfl (by omega)
    have hz' := hs.hz n.toNat hi
    rw [hb', hsz] at hz'
    have hlt : n < xs.length := by omega
    obtain ⟨bq, oq, sq⟩ := q
    simp only at hspot hblk; subst hspot
    refine ⟨.pointer (some ⟨bq, oq + n.toNat * sz + 0, none⟩), by simp [execOp, ho, hu, (ev_rep he hB).v_inv, Instr.indexAt, asIntOf, run_underlying hd, h0, hlt, sizeOf_run hU hz, add_addr, hz'], ?_⟩
    refine .pe b 0 bq (oq + n.toNat * sz) (fun j => val n.toNat j) hblk (fun j hj => ?_) (fun j hj => ?_) (fun j hj => ?_)
    · have := hs.hf _ rfl n.toNat j hi (by omega)
      rwa [← Nat.add_assoc] at this
    · have := hs.hr n.toNat hi j (by rw [hb']; exact hj)
      simpa only [hb'] using this
    · exact hs.ho n.toNat j hi (by omega)
  · rename_i e id off len kk n hty
    rw [hty] at hd
    obtain ⟨hz, h0, h1, hk⟩ := hk
    refine ⟨_, hk, .stay fun c a m hc g he => ?_⟩
    obtain ⟨cap, o', hu, h2, h3, ho', cs, t, h4, h5⟩ := (ev_rep he hA).oa_inv
    obtain rfl := ho' (by omega)
    exact ⟨_, by simp [execOp, ho, hu, (ev_rep he hB).v_inv, Instr.indexAt, asIntOf, run_underlying hd, h0, h1, sizeOf_run hU hz, add_addr], .ptr _ _ cs t h4⟩
  · rename_i len e id off kk n hty
    rw [hty] at hd
    obtain ⟨hz, h0, h1, hk⟩ := hk
    refine ⟨_, hk, .stay fun c a m hc g he => ?_⟩
    obtain ⟨hu, cs, t, h4⟩ := (ev_rep he hA).ptr_inv
    exact ⟨_, by simp [execOp, ho, hu, (ev_rep he hB).v_inv, Instr.indexAt, asIntOf, run_underlying hd, h0, h1, sizeOf_run hU hz, add_addr, Instr.sureAddr], .ptr _ _ cs t h4⟩
  · exact hk.elim

/-- A variable read whose cells are known. -/
theorem loadVar_run {ty : TypeId} (hU : ∀ t, AgreeT P U t) (hz : (U ty).sz ≠ 0) (ht : (U ty).k ≠ .other) (w : World) (b q : Nat) (f : Nat → Value)
    (hf : ∀ j, j < (if (U ty).k.agg then (U ty).sz else 1) → w.cell? ⟨b, q + j, none⟩ = some (f j)) :
    (loadVar ty ⟨b, q, none⟩).run P w = .ok (if (U ty).k.agg then .agg ((List.range (U ty).sz).map f).toArray else f 0) w := by
  by_cases hag : (U ty).k.agg = true
  · simp only [hag, if_true] at hf ⊢
    simp [loadVar, isAgg_run hU ht, hag, sizeOf_run hU hz, run_loadCells w ⟨b, q, none⟩ _ f (fun j hj => by rw [add_addr]; exact hf j hj)]
  · simp only [hag] at hf ⊢
    have := hf 0 (by simp)
    simp at this
    simp [loadVar, isAgg_run hU ht, hag, this]

theorem agg_of {c : Cx} {cs : List AV} {f : Nat → Value} {n : Nat} (hn : n = cs.length) (hr : ∀ j (h : j < cs.length), Rep c cs[j] (f j)) (ho : ∀ j, j < cs.length → (f j).oneCell' = true) :
    Rep c (.agg cs) (.agg ((List.range n).map f).toArray) := by
  subst hn
  refine .agg _ _ (by simp) (fun i hi => ?_) (fun i hi => ?_)
  · simpa [hi] using hr i hi
  · simpa [hi] using ho i hi

theorem partA_load {ty : TypeId} (hU : ∀ t, AgreeT P U t) (hz : (U ty).sz ≠ 0) (ht : (U ty).k ≠ .other) {cs : List AV} {off : Nat} (hk : partA cs off (U ty) k) :
    ∃ X, k X ∧ ∀ c b q (val : Nat → Value), (∀ j, j < cs.length → c.w.cell? ⟨b, q + j, none⟩ = some (val j)) → (∀ j (h : j < cs.length), Rep c cs[j] (val j)) →
      (∀ j, j < cs.length → (val j).oneCell' = true) → ∃ r, (loadVar ty ⟨b, q + off, none⟩).run P c.w = .ok r c.w ∧ Rep c X r := by
  unfold partA at hk
  split at hk
  · rename_i hag
    obtain ⟨hle, hk⟩ := hk
    refine ⟨_, hk, fun c b q val h1 h2 h3 => ⟨_, loadVar_run hU hz ht c.w b (q + off) (fun j => val (off + j)) (fun j hj => ?_), ?_⟩⟩
    · simp only [hag, if_true] at hj
      rw [Nat.add_assoc]
      exact h1 _ (by omega)
    · simp only [hag, if_true]
      refine agg_of (by simp; omega) (fun j hj => ?_) (fun j hj => ?_)
      · simp at hj
        simpa using h2 (off + j) (by omega)
      · simp at hj
        exact h3 _ (by omega)
  · rename_i hag
    obtain ⟨x, hx, hk⟩ := hk
    obtain ⟨hi, hx'⟩ := List.getElem?_eq_some_iff.1 hx
    refine ⟨x, hk, fun c b q val h1 h2 h3 => ⟨_, loadVar_run hU hz ht c.w b (q + off) (fun j => val (off + j)) (fun j hj => ?_), ?_⟩⟩
    · simp [hag] at hj
      subst hj
      simpa using h1 off hi
    · have := h2 off hi
      rw [hx'] at this
      simpa [hag] using this

theorem atA_run {ty : TypeId} (hU : ∀ t, AgreeT P U t) (hz : (U ty).sz ≠ 0) (ht : (U ty).k ≠ .other) {y : AV} {off : Nat} (hk : atA y off (U ty) k) :
    ∃ X, k X ∧ ∀ c b q (val : Nat → Value), (∀ j, j < y.cells.length → c.w.cell? ⟨b, q + j, none⟩ = some (val j)) → (∀ j (h : j < y.cells.length), Rep c y.cells[j] (val j)) →
      (∀ j, j < y.cells.length → (val j).oneCell' = true) → ∃ r, (loadVar ty ⟨b, q + off, none⟩).run P c.w = .ok r c.w ∧ Rep c X r := by
  unfold atA at hk
  split at hk
  · rename_i hc
    obtain ⟨rfl, hlen, hag⟩ := hc
    refine ⟨y, hk, fun c b q val h1 h2 h3 => ⟨_, loadVar_run hU hz ht c.w b (q + 0) val (fun j hj => ?_), ?_⟩⟩
    · rw [Nat.add_zero]
      exact h1 j (by split at hj <;> omega)
    · by_cases hagg : (U ty).k.agg = true
      · rw [hagg] at hag
        simp only [hagg, if_true]
        cases y <;> simp [isAggA] at hag
        exact agg_of hlen.symm h2 h3
      · simp only [hagg]
        have hn : isAggA y = false := by rw [hag]; simpa using hagg
        have : y.cells = [y] := by cases y <;> simp [isAggA] at hn <;> rfl
        have h4 := h2 0 (by rw [this]; simp)
        simpa [this] using h4
  · exact partA_load hU hz ht hk

theorem sound_load {ty : TypeId} {x : Operand} (hU : ∀ t, AgreeT P U t) (ho : o.op = .load ty x) (hp : pv U ρ h (.load ty x) k) : ∃ X, k X ∧ PureOK P o ρ h X := by
  obtain ⟨hz, ht, hp⟩ := hp
  obtain ⟨A, hA, hk⟩ := withv_elim hp
  split at hk
  · rename_i id off
    split at hk
    · rename_i cs t hid
      obtain ⟨X, hk, hX⟩ := partA_load (P := P) hU hz ht hk
      refine ⟨X, hk, .stay fun c a m hc g he => ?_⟩
      obtain ⟨hu, _⟩ := (ev_rep he hA).ptr_inv
      obtain ⟨vs, h1, h2, h3⟩ := g.obj id cs t (hc _ _ hid)
      obtain ⟨r, h5, h6⟩ := hX c (c.φ id).block 0 (fun j => vs.getD j undef) (fun j hj => by
        have : j < vs.size := by omega
        simp [World.cell?, h1, this]) (fun j hj => (h3 j hj).1) (fun j hj => (h3 j hj).2)
      rw [Nat.zero_add] at h5
      exact ⟨r, by simp [execOp, ho, hu, Instr.loadAt, Instr.sureAddr, h5], h6⟩
    · exact hk.elim
  · obtain ⟨X, hk, hX⟩ := atA_run (P := P) hU hz ht hk
    refine ⟨X, hk, .stay fun c a m hc g he => ?_⟩
    obtain ⟨b, p, val, hu, h1, h2, h3, h4⟩ := (ev_rep he hA).pe_inv
    obtain ⟨r, h5, h6⟩ := hX c b p val (fun j hj => (h2 j hj).1) h3 h4
    exact ⟨r, by simp [execOp, ho, hu, Instr.loadAt, Instr.sureAddr, h5], h6⟩
  · exact hk.elim

end
end Go.Ab
