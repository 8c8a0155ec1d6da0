/- Cuts of strings and slices, conversions, literals of slices and structs. -/
import Derived.Test.YtidpcjblciompaaAb6
set_option linter.unusedSimpArgs false
set_option linter.unusedVariables false
namespace Go.Ab
open Go

section
variable {P : Program} {U : TypeId → TI} {ρ : Env} {h : Heap} {k : AV → Prop} {o : Oper}

theorem optA_elim {x : Option Operand} {d : Nat} {k : Int → Prop} (hp : optA ρ x d k) : ∃ n, k n ∧ (x = none ∧ n = d ∨ ∃ q kk, x = some q ∧ ev ρ q = some (.v (.int kk n))) := by
  unfold optA at hp
  split at hp
  · exact ⟨_, hp, .inl ⟨rfl, rfl⟩⟩
  · obtain ⟨A, hA, hk⟩ := withv_elim hp
    split at hk
    · exact ⟨_, hk, .inr ⟨_, _, rfl, hA⟩⟩
    · exact hk.elim

/-- What an optional bound is in the model. -/
def OptV (x : Option Value) (d : Nat) (n : Int) : Prop := x = none ∧ n = d ∨ ∃ kk, x = some (.int kk n)

theorem optV_of {c : Cx} {m : Nat} {a : Act} (he : EnvSat c m ρ a) {x : Option Operand} {d : Nat} {n : Int} (hx : x = none ∧ n = d ∨ ∃ q kk, x = some q ∧ ev ρ q = some (.v (.int kk n))) : OptV (x.map a.eval) d n := by
  rcases hx with ⟨rfl, rfl⟩ | ⟨q, kk, rfl, hq⟩
  · exact .inl ⟨rfl, rfl⟩
  · exact .inr ⟨kk, by simp [(ev_rep he hq).v_inv]⟩

theorem run_bounds {s : Bool} {len cap : Nat} {lo hi : Option Value} {a b : Int} (hl : OptV lo 0 a) (hh : OptV hi len b) (h0 : 0 ≤ a) (h1 : a ≤ b) (h2 : b ≤ cap) (w : World) :
    (Instr.sliceBounds s len cap lo hi none).run P w = .ok (a.toNat, b.toNat, cap) w := by
  have hb : 0 ≤ b ∧ b ≤ (cap : Int) := ⟨by omega, h2⟩
  have ha : 0 ≤ a ∧ a ≤ ((b.toNat : Nat) : Int) := ⟨h0, by omega⟩
  rcases hh with ⟨rfl, rfl⟩ | ⟨kh, rfl⟩ <;> rcases hl with ⟨rfl, rfl⟩ | ⟨kl, rfl⟩ <;> simp [Instr.sliceBounds, Instr.sliceBound, asIntOf, ha, hb] <;> (try (intro hh; exfalso; omega))

theorem run_bounds3 {s : Bool} {len cap : Nat} {lo : Option Value} {a b m : Int} {kh km : IntKind} (hl : OptV lo 0 a) (h0 : 0 ≤ a) (h1 : a ≤ b) (h2 : b ≤ m) (h3 : m ≤ cap) (w : World) :
    (Instr.sliceBounds s len cap lo (some (.int kh b)) (some (.int km m))).run P w = .ok (a.toNat, b.toNat, m.toNat) w := by
  have hm : 0 ≤ m ∧ m ≤ (cap : Int) := ⟨by omega, h3⟩
  have hb : 0 ≤ b ∧ b ≤ ((m.toNat : Nat) : Int) := ⟨by omega, by omega⟩
  have ha : 0 ≤ a ∧ a ≤ ((b.toNat : Nat) : Int) := ⟨h0, by omega⟩
  rcases hl with ⟨rfl, rfl⟩ | ⟨kl, rfl⟩ <;> simp [Instr.sliceBounds, Instr.sliceBound, asIntOf, ha, hb, hm] 
  · intro hh; exfalso; omega
  · rw [if_pos (by omega), if_pos (by omega)]

theorem cutL_eq {α : Type} (xs : List α) (a b : Int) (lo hi : Bool) (h1 : lo = false → a = 0) (h2 : hi = false → b = xs.length) (_h0 : 0 ≤ a) :
    cutL xs a b lo hi = (xs.drop a.toNat).take (b.toNat - a.toNat) := by
  cases lo <;> cases hi <;> simp only [cutL]
  · rw [h1 rfl, h2 rfl]; simp
  · rw [h1 rfl]; simp
  · rw [h2 rfl, List.take_of_length_le (by simp)]

/-- A slice cut. -/
theorem SlRep.cut {c : Cx} {xs : List AV} {p : Perm} {a : Option Addr} {cap sz : Nat} {val : Nat → Nat → Value} (hs : SlRep c xs p a cap sz val) (i j m : Nat) (h1 : i ≤ j) (h2 : j ≤ xs.length)
    (h3 : j ≤ m) (h4 : m ≤ cap) (p' : Perm) (hp : p' = .no ∨ p' = .full ∧ m = j) (s : Nat) (hsz : i * s = i * sz) :
    Rep c (.sl ((xs.drop i).take (j - i)) p') (.slice (if m = i then a else a.map (·.add (i * s))) (j - i) (m - i)) := by
  have hlen : ((xs.drop i).take (j - i)).length = j - i := by simp; omega
  have hperm : ∀ q, PermOK c q ((xs.drop i).take (j - i)).length (m - i) sz p' := fun q => by
    rcases hp with rfl | ⟨rfl, rfl⟩
    · trivial
    · show m - i = _; rw [hlen]
  have hcap := hs.hm
  rw [hsz]
  by_cases hmi : m = i
  · subst hmi
    have e : j = m := by omega
    subst e
    simp only [if_true]
    have := Rep.sl (c := c) ((xs.drop j).take (j - j)) p' a 0 sz val (by simp) (by simp [lim]) (fun _ => rfl) (fun q hq hp => absurd hp (by simp)) (fun i hi => by simp at hi) (fun q hq i j hi => by simp at hi)
      (fun i hi => by simp at hi) (fun i j hi => by simp at hi) (by simpa using hperm a)
    simpa using this
  · rw [if_neg hmi]
    obtain ⟨q, rfl⟩ : ∃ q, a = some q := by
      cases a with
      | none => have := hs.h0 rfl; omega
      | some q => exact ⟨q, rfl⟩
    obtain ⟨hq1, hq2⟩ := hs.hs q rfl (by omega)
    obtain ⟨bq, oq, sq⟩ := q
    simp only at hq1 hq2; subst hq1
    simp only [Option.map_some, add_addr]
    have := Rep.sl (c := c) ((xs.drop i).take (j - i)) p' (some ⟨bq, oq + i * sz, none⟩) (m - i) sz (fun x y => val (i + x) y) (by omega) (by omega) (fun e => by cases e)
      (fun q hq _ => by cases hq; exact ⟨rfl, hq2⟩)
      (fun x hx => by
        have hx' : i + x < xs.length := by omega
        simpa using hs.hz (i + x) hx')
      (fun q hq x y hx hy => by
        cases hq
        have hx' : i + x < xs.length := by omega
        have := hs.hf _ rfl (i + x) y hx' hy
        rw [Nat.add_mul] at this
        have e : oq + i * sz + (x * sz + y) = oq + (i * sz + x * sz + y) := by omega
        simp only [e]
        exact this)
      (fun x hx y hy => by
        have hx' : i + x < xs.length := by omega
        have hg : ((xs.drop i).take (j - i))[x] = xs[i + x] := by simp
        rw [hg] at hy
        have := hs.hr (i + x) hx' y hy
        simpa only [hg] using this)
      (fun x y hx hy => hs.ho (i + x) y (by omega) hy)
      (hperm _)
    rwa [hlen] at this

theorem sound_slice {ty : TypeId} {x : Operand} {lo hi mx : Option Operand} (hU : ∀ t, AgreeT P U t) (ho : o.op = .slice ty x lo hi mx) (hp : pv U ρ h (.slice ty x lo hi mx) k) : ∃ X, k X ∧ PureOK P o ρ h X := by
  obtain ⟨A, hA, hk⟩ := withv_elim hp
  have hd := (hU ty).desc
  unfold pvSlice at hk
  split at hk
  · rename_i l
    obtain ⟨hty, rfl, hk⟩ := hk
    rw [hty] at hd
    obtain ⟨i, hk1, hlo⟩ := optA_elim hk
    obtain ⟨j, hk2, hhi⟩ := optA_elim hk1
    obtain ⟨h0, h1, h2, hk3⟩ := hk2
    refine ⟨_, hk3, .stay fun c a m hc g he => ?_⟩
    obtain ⟨hu, hl⟩ := (ev_rep he hA).s_inv
    have hb := run_bounds (P := P) (s := false) (cap := l.length) (optV_of he hlo) (optV_of he hhi) h0 h1 h2 c.w
    have e : cutL l i j lo.isSome hi.isSome = (l.drop i.toNat).take (j.toNat - i.toNat) := cutL_eq l i j _ _
      (fun e => by rcases hlo with ⟨rfl, h⟩ | ⟨q, kk, rfl, _⟩; exact h; cases e) (fun e => by rcases hhi with ⟨rfl, h⟩ | ⟨q, kk, rfl, _⟩; exact h; cases e) h0
    rw [e]
    refine ⟨_, ?_, .s _ (by simp; omega)⟩
    have hsz : (⟨l.toArray⟩ : ByteArray).size = l.length := rfl
    simp [execOp, ho, hu, Instr.sliceAt, Instr.slice, run_underlying hd, hsz, hb, ByteArray.extract_mk]
  · rename_i xs p
    split at hk
    · rename_i e hty
      rw [hty] at hd
      obtain ⟨hz, hcond, hk⟩ := hk
      split at hk
      · obtain ⟨i, hk1, hlo⟩ := optA_elim hk
        obtain ⟨j, hk2, hhi⟩ := optA_elim hk1
        obtain ⟨h0, h1, h2, hk3⟩ := hk2
        refine ⟨_, hk3, .stay fun c a m hc g he => ?_⟩
        obtain ⟨q, cap, sz, val, hu, hs⟩ := (ev_rep he hA).sl_inv
        have hcap := hs.hc
        have hb := run_bounds (P := P) (s := true) (cap := cap) (optV_of he hlo) (optV_of he hhi) h0 h1 (by omega) c.w
        have e1 : cutL xs i j lo.isSome hi.isSome = (xs.drop i.toNat).take (j.toNat - i.toNat) := cutL_eq xs i j _ _
          (fun e => by rcases hlo with ⟨rfl, h⟩ | ⟨q, kk, rfl, _⟩; exact h; cases e) (fun e => by rcases hhi with ⟨rfl, h⟩ | ⟨q, kk, rfl, _⟩; exact h; cases e) h0
        have hss : i.toNat * (U e).sz = i.toNat * sz := by
          rcases hlo with ⟨rfl, h⟩ | ⟨q', kk, rfl, _⟩
          · subst h; simp
          · by_cases hx : xs = []
            · subst hx
              have : i.toNat = 0 := by simp at h2; omega
              simp [this]
            · have hne : 0 < xs.length := List.length_pos_iff.2 hx
              have a1 := hs.hz 0 hne
              have a2 := hcond rfl _ (List.getElem_mem hne)
              rw [a2] at a1
              rw [a1]
        have hrun : (execOp a.eval o).run P c.w = .ok (.value (.slice (if cap = i.toNat then q else q.map (·.add (i.toNat * (U e).sz))) (j.toNat - i.toNat) (cap - i.toNat))) c.w := by
          simp [execOp, ho, hu, Instr.sliceAt, Instr.slice, run_underlying hd, hb, sizeOf_run hU hz]
        by_cases hnn : lo.isSome = false ∧ hi.isSome = false
        · obtain ⟨hn1, hn2⟩ := hnn
          have hi0 : i = 0 := by rcases hlo with ⟨rfl, h⟩ | ⟨q, kk, rfl, _⟩; exact h; cases hn1
          have hj0 : j = xs.length := by rcases hhi with ⟨rfl, h⟩ | ⟨q, kk, rfl, _⟩; exact h; cases hn2
          subst hi0; subst hj0
          refine ⟨_, hrun, ?_⟩
          simp only [hn1, hn2, cutL, cutP]
          have e2 : (if cap = (0 : Int).toNat then q else q.map (·.add ((0 : Int).toNat * (U e).sz))) = q := by
            split
            · rfl
            · cases q <;> simp [Addr.add]
          rw [e2]
          simpa using hs.rep
        · refine ⟨_, hrun, ?_⟩
          rw [e1]
          refine hs.cut i.toNat j.toNat cap (by omega) (by omega) (by omega) (Nat.le_refl _) _ ?_ _ hss
          cases h5 : lo.isSome <;> cases h6 : hi.isSome <;> simp only [cutP]
          · exact (hnn ⟨h5, h6⟩).elim
          · exact .inl trivial
          · have hj0 : j = xs.length := by rcases hhi with ⟨rfl, h⟩ | ⟨q, kk, rfl, _⟩; exact h; cases h6
            cases p with
            | full =>
              have : cap = xs.length := hs.hp
              exact .inr ⟨rfl, by omega⟩
            | no => exact .inl rfl
            | own id => exact .inl rfl
          · exact .inl trivial
      · rename_i mm
        obtain ⟨hhs, hk⟩ := hk
        obtain ⟨i, hk1, hlo⟩ := optA_elim hk
        obtain ⟨j, hk2, hhi⟩ := optA_elim hk1
        obtain ⟨m3, hk3, hmx⟩ := optA_elim hk2
        obtain ⟨h0, h1, rfl, h3, hk4⟩ := hk3
        refine ⟨_, hk4, .stay fun c a m hc g he => ?_⟩
        obtain ⟨q, cap, sz, val, hu, hs⟩ := (ev_rep he hA).sl_inv
        have hcap := hs.hc
        obtain ⟨qh, kh, rfl, hqh⟩ : ∃ q kk, hi = some q ∧ ev ρ q = some (.v (.int kk j)) := by
          rcases hhi with ⟨rfl, _⟩ | h
          · cases hhs
          · exact h
        obtain ⟨qm, km, hqm', hqm⟩ : ∃ q kk, some mm = some q ∧ ev ρ q = some (.v (.int kk j)) := by
          rcases hmx with ⟨e, _⟩ | h
          · cases e
          · exact h
        cases hqm'
        have hb := run_bounds3 (P := P) (s := true) (len := xs.length) (cap := cap) (kh := kh) (km := km) (optV_of he hlo) h0 h1 (Int.le_refl j) (by omega) c.w
        have e1 : cutL xs i j lo.isSome true = (xs.drop i.toNat).take (j.toNat - i.toNat) := cutL_eq xs i j _ _
          (fun e => by rcases hlo with ⟨rfl, h⟩ | ⟨q, kk, rfl, _⟩; exact h; cases e) (fun e => by cases e) h0
        have hss : i.toNat * (U e).sz = i.toNat * sz := by
          rcases hlo with ⟨rfl, h⟩ | ⟨q', kk, rfl, _⟩
          · subst h; simp
          · by_cases hx : xs = []
            · subst hx
              have : i.toNat = 0 := by simp at h3; omega
              simp [this]
            · have hne : 0 < xs.length := List.length_pos_iff.2 hx
              have a1 := hs.hz 0 hne
              have a2 := hcond rfl _ (List.getElem_mem hne)
              rw [a2] at a1
              rw [a1]
        rw [e1]
        refine ⟨_, ?_, hs.cut i.toNat j.toNat j.toNat (by omega) (by omega) (Nat.le_refl _) (by omega) .full (.inr ⟨rfl, rfl⟩) _ hss⟩
        simp [execOp, ho, hu, Instr.sliceAt, Instr.slice, run_underlying hd, (ev_rep he hqh).v_inv, (ev_rep he hqm).v_inv, hb, sizeOf_run hU hz]
    · exact hk.elim
  · rename_i id off len
    split at hk
    · rename_i e hty
      rw [hty] at hd
      obtain ⟨hz, h1z, rfl, hk⟩ := hk
      obtain ⟨i, hk1, hlo⟩ := optA_elim hk
      obtain ⟨j, hk2, hhi⟩ := optA_elim hk1
      obtain ⟨h0, h1, h2, hk3⟩ := hk2
      refine ⟨_, hk3, .stay fun c a m hc g he => ?_⟩
      obtain ⟨cap, o', hu, hc1, hc2, ho', cs, t, hcs, hcp⟩ := (ev_rep he hA).oa_inv
      have hb := run_bounds (P := P) (s := true) (cap := cap) (optV_of he hlo) (optV_of he hhi) h0 h1 (by omega) c.w
      refine ⟨.slice (some ⟨(c.φ id).block, if cap = i.toNat then o' else o' + i.toNat * (U e).sz, none⟩) (j.toNat - i.toNat) (cap - i.toNat), ?_, .oa _ _ _ _ _ cs t hcs (by omega) (by omega) (fun hne => ?_)⟩
      · simp [execOp, ho, hu, Instr.sliceAt, Instr.slice, run_underlying hd, hb, sizeOf_run hU hz, add_addr]
        split <;> rfl
      · obtain ⟨e1, e2⟩ := hcp (by omega)
        rw [if_neg (by omega), e1]
        refine ⟨rfl, ?_⟩
        rcases hlo with ⟨_, rfl⟩ | ⟨q, kk, rfl, _⟩
        · simpa using e2
        · rw [h1z rfl]; omega
    · exact hk.elim
  · exact hk.elim

end
end Go.Ab
