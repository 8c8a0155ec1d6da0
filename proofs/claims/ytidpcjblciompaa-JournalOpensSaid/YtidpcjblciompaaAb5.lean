/- The other operations that change nothing owned come to what is said of them. -/
import Derived.Test.YtidpcjblciompaaAb4
set_option linter.unusedSimpArgs false
set_option linter.unusedVariables false
namespace Go.Ab
open Go

section
variable {P : Program} {U : TypeId → TI} {ρ : Env} {h : Heap} {k : AV → Prop} {o : Oper}

theorem sound_unOp {op : UnOp} {ty : TypeId} {x : Operand} (ho : o.op = .unOp op ty x) (hp : pv U ρ h (.unOp op ty x) k) : ∃ X, k X ∧ PureOK P o ρ h X := by
  obtain ⟨A, hA, hk⟩ := withv_elim hp
  split at hk
  · refine ⟨_, hk, .stay fun c a n hc g he => ⟨_, ?_, .v _⟩⟩
    simp [execOp, ho, (ev_rep he hA).v_inv, Op.unary]
  · refine ⟨_, hk, .stay fun c a n hc g he => ⟨_, ?_, .v _⟩⟩
    simp [execOp, ho, (ev_rep he hA).v_inv, Op.unary, Op.intArith]
  · refine ⟨_, hk, .stay fun c a n hc g he => ⟨_, ?_, .v _⟩⟩
    simp [execOp, ho, (ev_rep he hA).v_inv, Op.unary, Op.intBits]
  · exact hk.elim

theorem sound_extract {x : Operand} {i : Nat} (ho : o.op = .extract x i) (hp : pv U ρ h (.extract x i) k) : ∃ X, k X ∧ PureOK P o ρ h X := by
  obtain ⟨A, hA, hk⟩ := withv_elim hp
  split at hk
  · obtain ⟨z, hz, hk⟩ := hk
    refine ⟨z, hk, .stay fun c a n hc g he => ?_⟩
    obtain ⟨us, hu, hn, hr⟩ := (ev_rep he hA).tup_inv
    obtain ⟨hi, hz'⟩ := List.getElem?_eq_some_iff.1 hz
    have hi' : i < us.size := by omega
    have := hr i hi
    rw [hz'] at this
    refine ⟨us[i], ?_, by simpa [hi'] using this⟩
    simp [execOp, ho, hu, Instr.extract, hi']
  · exact hk.elim

theorem sound_makeInterface {ty : TypeId} {x : Operand} (hU : ∀ t, AgreeT P U t) (ho : o.op = .makeInterface ty x) (hp : pv U ρ h (.makeInterface ty x) k) : ∃ X, k X ∧ PureOK P o ρ h X := by
  obtain ⟨ht, hp⟩ := hp
  obtain ⟨A, hA, hk⟩ := withv_elim hp
  refine ⟨_, hk, .stay fun c a n hc g he => ⟨_, ?_, .ifc _ _ _ (ev_rep he hA)⟩⟩
  have hd := (hU ty).desc
  cases hty : (U ty).k <;> rw [hty] at ht hd <;> simp only at ht hd <;>
    first
      | (exact ht.elim)
      | (simp [execOp, ho, Instr.makeInterface, run_underlying hd]; done)
      | (obtain ⟨fs, hd, _⟩ := hd; simp [execOp, ho, Instr.makeInterface, run_underlying hd]; done)

theorem sound_makeFunc {fn : Fn} {first cap : Array Operand} (ho : o.op = .makeFunc fn first cap) (hp : pv U ρ h (.makeFunc fn first cap) k) : ∃ X, k X ∧ PureOK P o ρ h X := by
  simp only [pv] at hp
  split at hp
  · rename_i f hf
    have hf' : first = #[] := by rw [← Array.toList_inj]; exact hf
    subst hf'
    obtain ⟨ys, hy, hk⟩ := withvs_elim hp
    refine ⟨_, hk, .stay fun c a n hc g he => ?_⟩
    obtain ⟨h1, h2⟩ := evs_rep he _ _ hy
    refine ⟨.func (.func f) #[] (cap.map a.eval), by simp [execOp, ho, Instr.makeFunc], .fn f ys _ (by simpa using h1) fun i hi => ?_⟩
    have hi' : i < cap.size := by simpa [← h1] using hi
    have := h2 i (by simpa using hi') hi
    simpa [hi'] using this
  · exact hp.elim

theorem isAgg_run {t : TypeId} (hU : ∀ t, AgreeT P U t) (ht : (U t).k ≠ .other) (w : World) : (isAgg t).run P w = .ok (U t).k.agg w := by
  have hd := (hU t).desc
  cases hty : (U t).k <;> rw [hty] at ht hd <;> simp only at hd <;>
    first
      | (exact (ht rfl).elim)
      | (simp [isAgg, run_underlying hd, TK.agg]; done)
      | (obtain ⟨fs, hd, _⟩ := hd; simp [isAgg, run_underlying hd, TK.agg]; done)
      | (obtain ⟨fs, hd⟩ := hd; simp [isAgg, run_underlying hd, TK.agg]; done)

theorem sizeOf_run {t : TypeId} (hU : ∀ t, AgreeT P U t) (hz : (U t).sz ≠ 0) (w : World) : (sizeOf t).run P w = .ok (U t).sz w := by
  obtain ⟨i, h1, h2, _⟩ := (hU t).info hz
  simp [sizeOf, typeInfo, h1, h2]

theorem getD_extract (vs : Array Value) (off n i : Nat) (h1 : i < n) (h2 : off + n ≤ vs.size) : (vs.extract off (off + n)).getD i undef = vs.getD (off + i) undef := by
  have h3 : i < (vs.extract off (off + n)).size := by simp; omega
  have h4 : off + i < vs.size := by omega
  rw [Array.getD, dif_pos h3, Array.getD, dif_pos h4]
  exact Array.getElem_extract h3

theorem partA_run {t : TypeId} (hU : ∀ t, AgreeT P U t) (hz : (U t).sz ≠ 0) (ht : (U t).k ≠ .other) {cs : List AV} {off : Nat} (hk : partA cs off (U t) k) :
    ∃ X, k X ∧ ∀ c (vs : Array Value), vs.size = cs.length → (∀ i (h : i < cs.length), Rep c cs[i] (vs.getD i undef)) → (∀ i, i < cs.length → (vs.getD i undef).oneCell' = true) →
      ∃ r, (part t vs off).run P c.w = .ok r c.w ∧ Rep c X r := by
  unfold partA at hk
  split at hk
  · rename_i hag
    obtain ⟨hle, hk⟩ := hk
    refine ⟨_, hk, fun c vs hn hr ho => ⟨.agg (vs.extract off (off + (U t).sz)), by simp [part, isAgg_run hU ht, hag, sizeOf_run hU hz], ?_⟩⟩
    refine .agg _ _ (by simp; omega) (fun i hi => ?_) (fun i hi => ?_)
    · simp at hi
      have h1 : off + i < cs.length := by omega
      have := hr (off + i) h1
      rw [getD_extract _ _ _ _ (by omega) (by omega)]
      simpa using this
    · simp at hi
      have h1 : off + i < cs.length := by omega
      have := ho (off + i) h1
      rw [getD_extract _ _ _ _ (by omega) (by omega)]
      simpa using this
  · rename_i hag
    obtain ⟨x, hx, hk⟩ := hk
    obtain ⟨hi, hx'⟩ := List.getElem?_eq_some_iff.1 hx
    refine ⟨x, hk, fun c vs hn hr ho => ?_⟩
    have h1 : off < vs.size := by omega
    have := hr off hi
    rw [hx'] at this
    exact ⟨vs[off], by simp [part, isAgg_run hU ht, hag, h1], by simpa [h1] using this⟩

theorem sound_field {ty : TypeId} {x : Operand} {f : Nat} (hU : ∀ t, AgreeT P U t) (ho : o.op = .field ty x f) (hp : pv U ρ h (.field ty x f) k) : ∃ X, k X ∧ PureOK P o ρ h X := by
  obtain ⟨A, hA, hk⟩ := withv_elim hp
  split at hk
  · rename_i fs cs hty
    split at hk
    · rename_i off t hf
      obtain ⟨hz, ht, hk⟩ := hk
      obtain ⟨X, hk, hX⟩ := partA_run hU hz ht hk
      refine ⟨X, hk, .stay fun c a n hc g he => ?_⟩
      obtain ⟨us, hu, hn, hr, h1⟩ := (ev_rep he hA).agg_inv
      obtain ⟨r, h2, h3⟩ := hX c us hn hr h1
      have hd := (hU ty).desc
      rw [hty] at hd
      obtain ⟨fields, hd, hfs, _⟩ := hd
      rw [← hfs] at hf
      obtain ⟨fd, hf1, hf2⟩ := List.getElem?_map .. ▸ hf |> Option.map_eq_some_iff.1
      simp only [Prod.mk.injEq] at hf2
      obtain ⟨rfl, rfl⟩ := hf2
      have hf3 : fields[f]? = some fd := by simpa using hf1
      exact ⟨r, by simp [execOp, ho, Instr.field, run_underlying hd, hf3, hu, asAgg, h2], h3⟩
    · exact hk.elim
  · exact hk.elim

theorem exec_builtin {b : Builtin} {args : Array Operand} {ts : Array TypeId} (ho : o.op = .call { callee := .builtin b, args := args, argTypes := ts }) (ev : Operand → Value) :
    execOp ev o = builtin b ts o.type (args.map fun | .const _ => true | _ => false) (args.map ev) := by
  simp only [execOp, ho, resolve]
  rfl

theorem sound_len {args : Array Operand} {ts : Array TypeId} (hU : ∀ t, AgreeT P U t) (ho : o.op = .call { callee := .builtin .len, args := args, argTypes := ts })
    (hp : pvB U ρ .len args.toList ts.toList k) : ∃ X, k X ∧ PureOK P o ρ h X := by
  obtain ⟨args⟩ := args
  obtain ⟨ts⟩ := ts
  simp only [pvB] at hp
  split at hp
  · rename_i x t
    obtain ⟨A, hA, hk⟩ := withv_elim hp
    have hd := (hU t).desc
    split at hk
    · rename_i hty
      rw [hty] at hd
      refine ⟨_, hk, .stay fun c a n hc g he => ⟨_, ?_, .v _⟩⟩
      rw [exec_builtin ho]
      simp [builtin, Builtin.len_, run_underlying hd, (ev_rep he hA).s_inv.1, goInt]
      rfl
    · rename_i hty
      rw [hty] at hd
      refine ⟨_, hk, .stay fun c a n hc g he => ⟨_, ?_, .v _⟩⟩
      obtain ⟨q, cap, sz, val, hu, _⟩ := (ev_rep he hA).sl_inv
      rw [exec_builtin ho]
      simp [builtin, Builtin.len_, run_underlying hd, hu, goInt]
    · rename_i hty
      rw [hty] at hd
      refine ⟨_, hk, .stay fun c a n hc g he => ⟨_, ?_, .v _⟩⟩
      obtain ⟨cap, o', hu, _⟩ := (ev_rep he hA).oa_inv
      rw [exec_builtin ho]
      simp [builtin, Builtin.len_, run_underlying hd, hu, goInt]
    · exact hk.elim
  · exact hp.elim

theorem sound_cap {args : Array Operand} {ts : Array TypeId} (hU : ∀ t, AgreeT P U t) (ho : o.op = .call { callee := .builtin .cap, args := args, argTypes := ts })
    (hp : pvB U ρ .cap args.toList ts.toList k) : ∃ X, k X ∧ PureOK P o ρ h X := by
  obtain ⟨args⟩ := args
  obtain ⟨ts⟩ := ts
  simp only [pvB] at hp
  split at hp
  · rename_i x t
    obtain ⟨A, hA, hk⟩ := withv_elim hp
    have hd := (hU t).desc
    split at hk
    · rename_i hty
      rw [hty] at hd
      refine ⟨_, hk, .stay fun c a n hc g he => ⟨_, ?_, .v _⟩⟩
      obtain ⟨q, cap, sz, val, hu, hs⟩ := (ev_rep he hA).sl_inv
      have hp : cap = _ := hs.hp
      rw [exec_builtin ho]
      simp [builtin, Builtin.cap_, run_underlying hd, hu, goInt, hp]
    · exact hk.elim
  · exact hp.elim

theorem evs_two {xs : List Operand} {A B : AV} (h : evs ρ xs = some [A, B]) : ∃ x y, xs = [x, y] ∧ ev ρ x = some A ∧ ev ρ y = some B := by
  match xs, h with
  | [x, y], h =>
    simp only [evs] at h
    split at h
    · rename_i h1 h2
      split at h2
      · rename_i h3 h4
        simp only [Option.some.injEq] at h4 h2 h
        subst h4; subst h2
        simp only [List.cons.injEq, and_true] at h
        obtain ⟨rfl, rfl⟩ := h
        exact ⟨x, y, rfl, h1, h3⟩
      · cases h2
    · cases h
  | [x], h => simp only [evs] at h; split at h <;> simp_all
  | [], h => simp [evs] at h
  | x :: y :: z :: r, h =>
    simp only [evs] at h
    split at h
    · rename_i h1 h2
      split at h2
      · rename_i h3 h4
        split at h4 <;> simp_all
      · cases h2
    · cases h

theorem sound_min {args : Array Operand} {ts : Array TypeId} (ho : o.op = .call { callee := .builtin .min, args, argTypes := ts })
    (hp : withvs ρ args.toList fun ys => minA ys k) : ∃ X, k X ∧ PureOK P o ρ h X := by
  obtain ⟨ys, hy, hk⟩ := withvs_elim hp
  unfold minA at hk
  split at hk
  · obtain ⟨rfl, hk⟩ := hk
    obtain ⟨x, y, e, hx, hy2⟩ := evs_two hy
    have e' : args = #[x, y] := by rw [← Array.toList_inj]; exact e
    subst e'
    refine ⟨_, hk, .stay fun c a n hc g he => ⟨_, ?_, .v _⟩⟩
    rw [exec_builtin ho]
    simp [builtin, Builtin.min_, Builtin.min2, (ev_rep he hx).v_inv, (ev_rep he hy2).v_inv]
  · exact hk.elim

theorem sound_max {args : Array Operand} {ts : Array TypeId} (ho : o.op = .call { callee := .builtin .max, args, argTypes := ts })
    (hp : withvs ρ args.toList fun ys => maxA ys k) : ∃ X, k X ∧ PureOK P o ρ h X := by
  obtain ⟨ys, hy, hk⟩ := withvs_elim hp
  unfold maxA at hk
  split at hk
  · obtain ⟨rfl, hk⟩ := hk
    obtain ⟨x, y, e, hx, hy2⟩ := evs_two hy
    have e' : args = #[x, y] := by rw [← Array.toList_inj]; exact e
    subst e'
    refine ⟨_, hk, .stay fun c a n hc g he => ⟨_, ?_, .v _⟩⟩
    rw [exec_builtin ho]
    simp [builtin, Builtin.max_, Builtin.max2, (ev_rep he hx).v_inv, (ev_rep he hy2).v_inv]
  · exact hk.elim

end
end Go.Ab
