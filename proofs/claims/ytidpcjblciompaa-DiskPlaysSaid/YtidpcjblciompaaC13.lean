/- The document's disk. -/
import Derived.Test.YtidpcjblciompaaCB
set_option linter.unusedSimpArgs false
set_option linter.unusedVariables false
namespace Go.Proofs.Ytidpcjblciompaa
open Go Go.Ab

def RefAt (h : Heap) (id : Nat) (d : D) : Prop := ∃ y, h id = some (.obj (d.cells y) 56) ∧ By h y d.b

theorem RefAt.keepObj {h h' : Heap} {id : Nat} {d : D} (hd : RefAt h id d) (hs : KeepObj h h') : RefAt h' id d := by
  obtain ⟨y, h1, h2⟩ := hd
  exact ⟨y, hs _ _ _ h1, h2.keepObj hs⟩
theorem By.set2 {h : Heap} {id : Nat} {x : AV} {l : List UInt8} {cs cs' : List AV} (hb : By h x l) (hid : h id = some (.obj cs 56)) : By (upd h id (some (.obj cs' 56))) x l := hb.keep (Keep.upd id _) hid (by decide)
theorem DiskAt.keepRef {h h' : Heap} {i j : Nat} {d e : D} (hd : DiskAt h i d) (he : RefAt h j e) (hs : Keep j h h') : DiskAt h' i d := by
  obtain ⟨y, h1, h2⟩ := hd
  obtain ⟨z, h3, h4⟩ := he
  have : i ≠ j := fun hh => by subst hh; rw [h1] at h3; simp only [Option.some.injEq, Blk.obj.injEq] at h3; exact absurd h3.2 (by decide)
  exact ⟨y, hs _ _ this h1, h2.keep hs h3 (by decide)⟩
theorem RefAt.keepDisk {h h' : Heap} {i j : Nat} {d e : D} (hd : RefAt h i d) (he : DiskAt h j e) (hs : Keep j h h') : RefAt h' i d := by
  obtain ⟨y, h1, h2⟩ := hd
  obtain ⟨z, h3, h4⟩ := he
  have : i ≠ j := fun hh => by subst hh; rw [h1] at h3; simp only [Option.some.injEq, Blk.obj.injEq] at h3; exact absurd h3.2 (by decide)
  exact ⟨y, hs _ _ this h1, h2.keep hs h3 (by decide)⟩

/-- Behind a call that changes the document's disk. -/
theorem ethen {f : FuncId} {args : List AV} {h : Heap} {Q : AV → Heap → Prop} {X : AV} {id : Nat} {d : D} (hf : FnOK Try.prog f args h fun r h' => r = X ∧ RefAt h' id d ∧ Keep id h h') (k : ∀ h', RefAt h' id d → Keep id h h' → Q X h') : FnOK Try.prog f args h Q :=
  hf.mono fun r h' ⟨e1, e2, e3⟩ => by subst e1; exact k h' e2 e3

theorem rnew_ok (q : Nat) (hq : q ≤ 1048576) (h : Heap) :
    FnOK Try.prog 34 [.v (.int .i64 q)] h fun r h' => ∃ id, h id = none ∧ r = .tup [.ptr id 0, .v (.int .i64 0)] ∧ RefAt h' id ⟨q, [], 0, 0, false⟩ ∧ Sub h h' := by
  refine FnOK.body hU hm Try.func34 rfl (by kernel_rfl) 13 rfl [.tmp 2, .tmp 3] rfl (Nat.le_of_ble_eq_true rfl) (fun hwf => ?_)
  have d1 : decide ((q : Int) < 0) = false := decide_eq_false (by omega)
  have d2 : decide ((1048576 : Int) < (q : Int)) = false := decide_eq_false (by omega)
  simp only [go_sem, ↓reduceIte, Nat.reduceLT, Nat.reduceEqDiff, Nat.reduceAdd, Nat.reduceLeDiff, Nat.reduceMul, Nat.reduceSub, Int.natCast_zero, Int.ofNat_zero, Int.natCast_one, Int.cast_ofNat_Int, bne_self_eq_false, beq_self_eq_true, Int.reduceBEq, Int.reduceBNe, Bool.not_true, Bool.not_false, d1, d2]
  intro id hid
  simp only [go_sem, ↓reduceIte, Nat.reduceLT, Nat.reduceEqDiff, Nat.reduceAdd, Nat.reduceLeDiff, Nat.reduceMul, Nat.reduceSub]
  exact .same (.refl _) ⟨id, hid, rfl, ⟨_, upd_same .., .inl ⟨.full, rfl⟩⟩, (Sub.refl h).new hid _⟩

theorem rnew_bad (q : Int) (hq : q < 0 ∨ 1048576 < q) (h : Heap) :
    FnOK Try.prog 34 [.v (.int .i64 q)] h fun r h' => r = .tup [.v (.pointer none), .v (.int .i64 1)] ∧ h' = h := by
  refine FnOK.body hU hm Try.func34 rfl (by kernel_rfl) 13 rfl [.tmp 2, .tmp 3] rfl (Nat.le_of_ble_eq_true rfl) (fun hwf => ?_)
  simp only [go_sem, ↓reduceIte, Nat.reduceLT, Nat.reduceEqDiff, Nat.reduceAdd, Nat.reduceLeDiff, Nat.reduceMul, Nat.reduceSub]
  refine .intro (fun e => ?_) (fun e => ?_)
  · simp only [go_sem, ↓reduceIte, Nat.reduceLT, Nat.reduceEqDiff, Nat.reduceAdd, Nat.reduceLeDiff, Nat.reduceMul, Nat.reduceSub, e]
    exact .same (.refl _) ⟨rfl, rfl⟩
  · have := of_decide_eq_false e
    simp only [go_sem, ↓reduceIte, Nat.reduceLT, Nat.reduceEqDiff, Nat.reduceAdd, Nat.reduceLeDiff, Nat.reduceMul, Nat.reduceSub, e]
    refine .yes (decide_eq_true (by omega)) ?_
    simp only [go_sem, ↓reduceIte, Nat.reduceLT, Nat.reduceEqDiff, Nat.reduceAdd, Nat.reduceLeDiff, Nat.reduceMul, Nat.reduceSub]
    exact .same (.refl _) ⟨rfl, rfl⟩

theorem rburn_ok (d : D) (hd : d.f < 9223372036854775808) (ho : d.off = false) (id : Nat) (h : Heap) (y : AV) (hid : h id = some (.obj (d.cells y) 56)) :
    FnOK Try.prog 52 [.ptr id 0] h fun r h' => r = .v (.bool false) ∧ h' = upd h id (some (.obj (d.burn.cells y) 56)) := by
  obtain ⟨q, b, sy, f, off⟩ := d
  simp only at hd ho
  subst ho
  simp only [D.cells] at hid
  refine FnOK.body hU hm Try.func52 rfl (by kernel_rfl) 27 rfl [.tmp 2] rfl (Nat.le_of_ble_eq_true rfl) (fun hwf => ?_)
  simp only [go_sem, ↓reduceIte, Nat.reduceLT, Nat.reduceEqDiff, Nat.reduceAdd, Nat.reduceLeDiff, Nat.reduceMul, Nat.reduceSub, Int.natCast_zero, Int.ofNat_zero, Int.natCast_one, Int.cast_ofNat_Int, bne_self_eq_false, beq_self_eq_true, Int.reduceBEq, Int.reduceBNe, Bool.not_true, Bool.not_false, hid]
  refine .intro (fun e => ?_) (fun e => ?_)
  · have e := of_decide_eq_true e
    have w1 : IntKind.i64.wrap ((f : Int) - 1) = ((f - 1 : Nat) : Int) := by rw [IntWalk.i64_in _ (by omega)]; omega
    simp only [go_sem, ↓reduceIte, Nat.reduceLT, Nat.reduceEqDiff, Nat.reduceAdd, Nat.reduceLeDiff, Nat.reduceMul, Nat.reduceSub, hid, w1]
    have hb : (((f - 1 : Nat) : Int) == 0) = decide (f = 1) := by
      by_cases h1 : f = 1
      · simp [h1]
      · have : f - 1 ≠ 0 := by omega
        simp [h1, Int.natCast_eq_zero, this]
    refine .same (.refl _) ⟨rfl, ?_⟩
    simp only [D.burn, D.cells, if_pos (show 0 < f by omega), hb]
  · have e := of_decide_eq_false e
    have hf : ¬ 0 < f := by omega
    simp only [go_sem, ↓reduceIte, Nat.reduceLT, Nat.reduceEqDiff, Nat.reduceAdd, Nat.reduceLeDiff, Nat.reduceMul, Nat.reduceSub, hid]
    refine .same (.refl _) ⟨rfl, ?_⟩
    simp only [D.burn, D.cells, if_neg hf]
    funext j
    simp only [upd]
    split
    · rename_i e; subst e; exact hid
    · rfl

/-- A slice behind the empty one: new memory, known for good. -/
theorem apNil {h : Heap} {Q : AV → Heap → Prop} {y : AV} {l : List UInt8} {q : Perm} (hb : By h y l) (hl : l.length ≤ 140737488355328) (hk : ∀ z h', By h' z l → Sub h h' → (∃ p, z = .sl (l.map byteA) p) → Q z h') : apK U h (.sl [] .full) y Q (.slice 5) := by
  refine (apK_full ..).mpr ⟨by rw [u5]; decide, by rw [u5b]; decide, ?_⟩
  rw [hb.src u5]
  refine ⟨by simp [Sized], by rw [u5, Sized_bytes]; trivial, by rw [u5b]; simp; omega, fun hn => ?_, fun hn => ?_⟩
  · have hl0 : l = [] := by simpa using hn
    subst hl0
    exact hk _ _ (.nil _) (.refl _) ⟨_, rfl⟩
  · refine .own fun id hid => ?_
    exact hk _ _ (.sl _ _) ((Sub.refl h).new hid _) ⟨_, rfl⟩

theorem D.burn_with (d : D) (x : List UInt8) : D.burn { d with b := x } = { d.burn with b := x } := by
  unfold D.burn
  by_cases h : 0 < d.f <;> simp [h]
theorem D.burn_with2 (d : D) (x : List UInt8) (s : Nat) : D.burn { d with b := x, sy := s } = { d.burn with b := x, sy := s } := by
  unfold D.burn
  by_cases h : 0 < d.f <;> simp [h]

theorem rappend_ok (d : D) (hd : d.ok) (id : Nat) (h : Heap) (x : AV) (b : List UInt8) (hdk : RefAt h id d) (hx : By h x b) (hl : b.length ≤ 1000000000) :
    FnOK Try.prog 35 [.ptr id 0, x] h fun r h' => r = .v (.int .i64 (d.append b).2) ∧ RefAt h' id (d.append b).1 ∧ Keep id h h' := by
  obtain ⟨y, hid0, hb⟩ := hdk
  have hid := hid0
  simp only [D.cells] at hid
  obtain ⟨d1, d2, d3, d4⟩ := hd
  refine FnOK.body hU hm Try.func35 rfl (by kernel_rfl) 39 rfl [.tmp 4] rfl (Nat.le_of_ble_eq_true rfl) (fun hwf => ?_)
  simp only [go_sem, ↓reduceIte, Nat.reduceLT, Nat.reduceEqDiff, Nat.reduceAdd, Nat.reduceLeDiff, Nat.reduceMul, Nat.reduceSub, Int.natCast_zero, Int.ofNat_zero, Int.natCast_one, Int.cast_ofNat_Int, bne_self_eq_false, beq_self_eq_true, Int.reduceBEq, Int.reduceBNe, Bool.not_true, Bool.not_false, hid]
  cases ho : d.off with
  | true =>
    simp only [go_sem, ↓reduceIte, Nat.reduceLT, Nat.reduceEqDiff, Nat.reduceAdd, Nat.reduceLeDiff, Nat.reduceMul, Nat.reduceSub, Int.natCast_zero, Int.ofNat_zero, Int.natCast_one, Int.cast_ofNat_Int, bne_self_eq_false, beq_self_eq_true, Int.reduceBEq, Int.reduceBNe, Bool.not_true, Bool.not_false, hid]
    refine .same (.refl _) ?_
    simp only [D.append, ho, if_true, oneOr]
    exact ⟨rfl, ⟨y, hid0, hb⟩, .refl _ _⟩
  | false =>
    have w1 : IntKind.i64.wrap ((d.q : Int) - (d.b.length : Int)) = ((d.q - d.b.length : Nat) : Int) := by rw [wrap64 _ (by omega)]; omega
    rw [ho] at hid
    simp only [go_sem, ↓reduceIte, Nat.reduceLT, Nat.reduceEqDiff, Nat.reduceAdd, Nat.reduceLeDiff, Nat.reduceMul, Nat.reduceSub, Int.natCast_zero, Int.ofNat_zero, Int.natCast_one, Int.cast_ofNat_Int, bne_self_eq_false, beq_self_eq_true, Int.reduceBEq, Int.reduceBNe, Bool.not_true, Bool.not_false, hid, hx.len, hb.len, w1]
    refine ⟨.of (by kernel_rfl), ?_⟩
    by_cases hf : d.q < d.b.length + b.length
    · have t1 : decide (((d.q - d.b.length : Nat) : Int) < (b.length : Int)) = true := decide_eq_true (by omega)
      simp only [go_sem, ↓reduceIte, Nat.reduceLT, Nat.reduceEqDiff, Nat.reduceAdd, Nat.reduceLeDiff, Nat.reduceMul, Nat.reduceSub, Int.natCast_zero, Int.ofNat_zero, Int.natCast_one, Int.cast_ofNat_Int, bne_self_eq_false, beq_self_eq_true, Int.reduceBEq, Int.reduceBNe, Bool.not_true, Bool.not_false, t1]
      refine .same (.refl _) ?_
      simp only [D.append, ho, if_pos hf, oneOr]
      exact ⟨rfl, ⟨y, hid0, hb⟩, .refl _ _⟩
    · have t1 : decide (((d.q - d.b.length : Nat) : Int) < (b.length : Int)) = false := decide_eq_false (by omega)
      simp only [go_sem, ↓reduceIte, Nat.reduceLT, Nat.reduceEqDiff, Nat.reduceAdd, Nat.reduceLeDiff, Nat.reduceMul, Nat.reduceSub, Int.natCast_zero, Int.ofNat_zero, Int.natCast_one, Int.cast_ofNat_Int, bne_self_eq_false, beq_self_eq_true, Int.reduceBEq, Int.reduceBNe, Bool.not_true, Bool.not_false, t1]
      have hA : d.append b = ({ d.burn with b := d.b ++ b }, if d.burn.off then 9 else 0) := by
        unfold D.append
        rw [if_neg (by simp [ho]), if_neg hf]
        simp only [D.burn_with]
      rw [hA]
      refine (rburn_ok d d4 ho id h y hid0).mono fun r h1 ⟨e1, e2⟩ => ?_
      subst e1
      have hid1 : h1 id = some (.obj (d.burn.cells y) 56) := by rw [e2, upd_same]
      have hb1 : By h1 y d.b := by rw [e2]; exact hb.set2 hid0
      have hx1 : By h1 x b := by rw [e2]; exact hx.set2 hid0
      have hk1 : Keep id h h1 := by rw [e2]; exact Keep.upd _ _
      clear e2
      simp only [D.cells, D.burn_q, D.burn_sy] at hid1
      simp only [go_sem, ↓reduceIte, Nat.reduceLT, Nat.reduceEqDiff, Nat.reduceAdd, Nat.reduceLeDiff, Nat.reduceMul, Nat.reduceSub, Int.natCast_zero, Int.ofNat_zero, Int.natCast_one, Int.cast_ofNat_Int, bne_self_eq_false, beq_self_eq_true, Int.reduceBEq, Int.reduceBNe, Bool.not_true, Bool.not_false, hid1]
      rw [hb1.src u5]
      simp only [go_sem, ↓reduceIte, Nat.reduceLT, Nat.reduceEqDiff, Nat.reduceAdd, Nat.reduceLeDiff, Nat.reduceMul, Nat.reduceSub, Int.natCast_zero, Int.ofNat_zero, Int.natCast_one, Int.cast_ofNat_Int, bne_self_eq_false, beq_self_eq_true, Int.reduceBEq, Int.reduceBNe, Bool.not_true, Bool.not_false]
      refine ⟨by omega, .acc fun z h2 ha2 hk2 => ?_⟩
      have hid2 := hk2 _ _ _ hid1
      simp only [go_sem, ↓reduceIte, Nat.reduceLT, Nat.reduceEqDiff, Nat.reduceAdd, Nat.reduceLeDiff, Nat.reduceMul, Nat.reduceSub, Int.natCast_zero, Int.ofNat_zero, Int.natCast_one, Int.cast_ofNat_Int, bne_self_eq_false, beq_self_eq_true, Int.reduceBEq, Int.reduceBNe, Bool.not_true, Bool.not_false, hid2]
      refine ha2.app (zs := b.map byteA) (by rw [u5]; decide) (by rw [u5b]; decide) (fun k hk => by rw [(hx1.keepObj hk2).src u5]; exact hk) (by rw [u5, List.nil_append, Sized_bytes]; trivial) (by rw [u5, Sized_bytes]; trivial) (by rw [u5b]; simp; omega) fun z3 h3 ha3 hk3 => ?_
      have hid3 := hk3 _ _ _ hid2
      have hs3 := ha3.1
      obtain ⟨p3, rfl⟩ := ha3.row
      rw [List.nil_append, ← List.map_append] at *
      simp only [go_sem, ↓reduceIte, Nat.reduceLT, Nat.reduceEqDiff, Nat.reduceAdd, Nat.reduceLeDiff, Nat.reduceMul, Nat.reduceSub, Int.natCast_zero, Int.ofNat_zero, Int.natCast_one, Int.cast_ofNat_Int, bne_self_eq_false, beq_self_eq_true, Int.reduceBEq, Int.reduceBNe, Bool.not_true, Bool.not_false, hid3]
      have fin : ∀ c : Nat, c = (if d.burn.off = true then 9 else 0) → RetOK [.v (.int .i64 c)] (upd h3 id (some (.obj [.v (.int .i64 d.q), .sl ((d.b ++ b).map byteA) p3, .v (.int .i64 d.sy), .v (.int .i64 d.burn.f), .v (.bool d.burn.off)] 56)))
          fun r h' => r = .v (.int .i64 (if d.burn.off = true then 9 else 0 : Nat)) ∧ RefAt h' id { d.burn with b := d.b ++ b } ∧ Keep id h h' := fun c hc => by
        subst hc
        refine .same (.refl _) ⟨rfl, ⟨_, ?_, .sl _ p3⟩, ?_⟩
        · rw [upd_same]; simp only [D.cells, D.burn_q, D.burn_sy]
        · exact (hk1.trans (hs3.keep id)).trans (Keep.upd _ _)
      refine .intro (fun e => ?_) (fun e => ?_)
      · simp only [go_sem, ↓reduceIte, Nat.reduceLT, Nat.reduceEqDiff, Nat.reduceAdd, Nat.reduceLeDiff, Nat.reduceMul, Nat.reduceSub, Int.natCast_zero, Int.ofNat_zero, Int.natCast_one, Int.cast_ofNat_Int, bne_self_eq_false, beq_self_eq_true, Int.reduceBEq, Int.reduceBNe, Bool.not_true, Bool.not_false, e]
        simpa [e] using fin 9 (by rw [if_pos e])
      · simp only [go_sem, ↓reduceIte, Nat.reduceLT, Nat.reduceEqDiff, Nat.reduceAdd, Nat.reduceLeDiff, Nat.reduceMul, Nat.reduceSub, Int.natCast_zero, Int.ofNat_zero, Int.natCast_one, Int.cast_ofNat_Int, bne_self_eq_false, beq_self_eq_true, Int.reduceBEq, Int.reduceBNe, Bool.not_true, Bool.not_false, e]
        simpa [e] using fin 0 (by rw [if_neg (by simp [e])])

theorem rsync_ok (d : D) (hd : d.ok) (id : Nat) (h : Heap) (hdk : RefAt h id d) :
    FnOK Try.prog 36 [.ptr id 0] h fun r h' => r = .v (.int .i64 d.sync.2) ∧ RefAt h' id d.sync.1 ∧ Keep id h h' := by
  obtain ⟨y, hid0, hb⟩ := hdk
  have hid := hid0
  simp only [D.cells] at hid
  refine FnOK.body hU hm Try.func36 rfl (by kernel_rfl) 21 rfl [.tmp 2] rfl (Nat.le_of_ble_eq_true rfl) (fun hwf => ?_)
  simp only [go_sem, ↓reduceIte, Nat.reduceLT, Nat.reduceEqDiff, Nat.reduceAdd, Nat.reduceLeDiff, Nat.reduceMul, Nat.reduceSub, Int.natCast_zero, Int.ofNat_zero, Int.natCast_one, Int.cast_ofNat_Int, bne_self_eq_false, beq_self_eq_true, Int.reduceBEq, Int.reduceBNe, Bool.not_true, Bool.not_false, hid]
  cases ho : d.off with
  | true =>
    simp only [go_sem, ↓reduceIte, Nat.reduceLT, Nat.reduceEqDiff, Nat.reduceAdd, Nat.reduceLeDiff, Nat.reduceMul, Nat.reduceSub, Int.natCast_zero, Int.ofNat_zero, Int.natCast_one, Int.cast_ofNat_Int, bne_self_eq_false, beq_self_eq_true, Int.reduceBEq, Int.reduceBNe, Bool.not_true, Bool.not_false]
    refine .same (.refl _) ?_
    simp only [D.sync, ho, if_true, oneOr]
    exact ⟨rfl, ⟨y, hid0, hb⟩, .refl _ _⟩
  | false =>
    simp only [go_sem, ↓reduceIte, Nat.reduceLT, Nat.reduceEqDiff, Nat.reduceAdd, Nat.reduceLeDiff, Nat.reduceMul, Nat.reduceSub, Int.natCast_zero, Int.ofNat_zero, Int.natCast_one, Int.cast_ofNat_Int, bne_self_eq_false, beq_self_eq_true, Int.reduceBEq, Int.reduceBNe, Bool.not_true, Bool.not_false]
    refine (rburn_ok d hd.2.2.2 ho id h y hid0).mono fun r h1 ⟨e1, e2⟩ => ?_
    subst e1; subst e2
    cases hc : d.burn.off with
    | true =>
      simp only [D.cells, hc]
      simp only [go_sem, ↓reduceIte, Nat.reduceLT, Nat.reduceEqDiff, Nat.reduceAdd, Nat.reduceLeDiff, Nat.reduceMul, Nat.reduceSub, Int.natCast_zero, Int.ofNat_zero, Int.natCast_one, Int.cast_ofNat_Int, bne_self_eq_false, beq_self_eq_true, Int.reduceBEq, Int.reduceBNe, Bool.not_true, Bool.not_false]
      refine .same (.refl _) ?_
      rw [show d.sync = (d.burn, 9) by unfold D.sync; rw [if_neg (by simp [ho]), if_pos hc]]
      exact ⟨rfl, ⟨y, by rw [upd_same]; simp only [D.cells, hc], by rw [D.burn_b]; exact hb.set2 hid⟩, Keep.upd id _⟩
    | false =>
      simp only [D.cells, hc]
      simp only [go_sem, ↓reduceIte, Nat.reduceLT, Nat.reduceEqDiff, Nat.reduceAdd, Nat.reduceLeDiff, Nat.reduceMul, Nat.reduceSub, Int.natCast_zero, Int.ofNat_zero, Int.natCast_one, Int.cast_ofNat_Int, bne_self_eq_false, beq_self_eq_true, Int.reduceBEq, Int.reduceBNe, Bool.not_true, Bool.not_false, hb.len]
      refine .same (.refl _) ?_
      rw [show d.sync = ({ d.burn with sy := d.b.length }, 0) by unfold D.sync; rw [if_neg (by simp [ho]), if_neg (by simp [hc])]]
      exact ⟨rfl, ⟨y, by rw [upd_same]; simp only [D.cells, hc], by show By _ _ d.burn.b; rw [D.burn_b]; exact hb.set2 hid⟩, Keep.upd id _⟩

theorem rcut_ok (d : D) (hd : d.ok) (id : Nat) (h : Heap) (n : Int) (hdk : RefAt h id d) :
    FnOK Try.prog 37 [.ptr id 0, .v (.int .i64 n)] h fun r h' => r = .v (.int .i64 (d.cut n).2) ∧ RefAt h' id (d.cut n).1 ∧ Keep id h h' := by
  obtain ⟨y, hid0, hb⟩ := hdk
  have hid := hid0
  simp only [D.cells] at hid
  have hok := hd
  obtain ⟨d1, d2, d3, d4⟩ := hd
  refine FnOK.body hU hm Try.func37 rfl (by kernel_rfl) 46 rfl [.tmp 4] rfl (Nat.le_of_ble_eq_true rfl) (fun hwf => ?_)
  simp only [go_sem, ↓reduceIte, Nat.reduceLT, Nat.reduceEqDiff, Nat.reduceAdd, Nat.reduceLeDiff, Nat.reduceMul, Nat.reduceSub, Int.natCast_zero, Int.ofNat_zero, Int.natCast_one, Int.cast_ofNat_Int, bne_self_eq_false, beq_self_eq_true, Int.reduceBEq, Int.reduceBNe, Bool.not_true, Bool.not_false, hid]
  cases ho : d.off with
  | true =>
    simp only [go_sem, ↓reduceIte, Nat.reduceLT, Nat.reduceEqDiff, Nat.reduceAdd, Nat.reduceLeDiff, Nat.reduceMul, Nat.reduceSub, Int.natCast_zero, Int.ofNat_zero, Int.natCast_one, Int.cast_ofNat_Int, bne_self_eq_false, beq_self_eq_true, Int.reduceBEq, Int.reduceBNe, Bool.not_true, Bool.not_false]
    refine .same (.refl _) ?_
    simp only [D.cut, ho, if_true, oneOr]
    exact ⟨rfl, ⟨y, hid0, hb⟩, .refl _ _⟩
  | false =>
    have bad : (n < 0 ∨ (d.b.length : Int) < n) → RetOK [.v (.int .i64 1)] h fun r h' => r = .v (.int .i64 (d.cut n).2) ∧ RefAt h' id (d.cut n).1 ∧ Keep id h h' := fun hbad => by
      refine .same (.refl _) ?_
      rw [D.cutBad ho hbad]
      exact ⟨rfl, ⟨y, hid0, hb⟩, .refl _ _⟩
    by_cases h1 : n < 0
    · have t1 : decide (n < 0) = true := decide_eq_true h1
      simp only [go_sem, ↓reduceIte, Nat.reduceLT, Nat.reduceEqDiff, Nat.reduceAdd, Nat.reduceLeDiff, Nat.reduceMul, Nat.reduceSub, Int.natCast_zero, Int.ofNat_zero, Int.natCast_one, Int.cast_ofNat_Int, bne_self_eq_false, beq_self_eq_true, Int.reduceBEq, Int.reduceBNe, Bool.not_true, Bool.not_false, t1]
      exact bad (.inl h1)
    · have t1 : decide (n < 0) = false := decide_eq_false h1
      by_cases h2 : (d.b.length : Int) < n
      · have t2 : decide ((d.b.length : Int) < n) = true := decide_eq_true h2
        simp only [go_sem, ↓reduceIte, Nat.reduceLT, Nat.reduceEqDiff, Nat.reduceAdd, Nat.reduceLeDiff, Nat.reduceMul, Nat.reduceSub, Int.natCast_zero, Int.ofNat_zero, Int.natCast_one, Int.cast_ofNat_Int, bne_self_eq_false, beq_self_eq_true, Int.reduceBEq, Int.reduceBNe, Bool.not_true, Bool.not_false, t1, hid, hb.len, t2]
        exact bad (.inr h2)
      · have t2 : decide ((d.b.length : Int) < n) = false := decide_eq_false h2
        simp only [go_sem, ↓reduceIte, Nat.reduceLT, Nat.reduceEqDiff, Nat.reduceAdd, Nat.reduceLeDiff, Nat.reduceMul, Nat.reduceSub, Int.natCast_zero, Int.ofNat_zero, Int.natCast_one, Int.cast_ofNat_Int, bne_self_eq_false, beq_self_eq_true, Int.reduceBEq, Int.reduceBNe, Bool.not_true, Bool.not_false, t1, hid, hb.len, t2]
        refine (rburn_ok d d4 ho id h y hid0).mono fun r h1 ⟨e1, e2⟩ => ?_
        subst e1; subst e2
        cases hc : d.burn.off with
        | true =>
          simp only [D.cells, hc]
          simp only [go_sem, ↓reduceIte, Nat.reduceLT, Nat.reduceEqDiff, Nat.reduceAdd, Nat.reduceLeDiff, Nat.reduceMul, Nat.reduceSub, Int.natCast_zero, Int.ofNat_zero, Int.natCast_one, Int.cast_ofNat_Int, bne_self_eq_false, beq_self_eq_true, Int.reduceBEq, Int.reduceBNe, Bool.not_true, Bool.not_false]
          refine .same (.refl _) ?_
          rw [show d.cut n = (d.burn, 9) by unfold D.cut; rw [if_neg (by simp [ho]), if_neg (by omega), if_pos hc]]
          exact ⟨rfl, ⟨y, by rw [upd_same]; simp only [D.cells, hc], by rw [D.burn_b]; exact hb.set2 hid⟩, Keep.upd id _⟩
        | false =>
          have hid1 : upd h id (some (.obj (d.burn.cells y) 56)) id = some (.obj (d.burn.cells y) 56) := upd_same ..
          have hb1 : By (upd h id (some (.obj (d.burn.cells y) 56))) y d.b := hb.set2 hid
          have hk1 : Keep id h (upd h id (some (.obj (d.burn.cells y) 56))) := Keep.upd _ _
          generalize upd h id (some (.obj (d.burn.cells y) 56)) = g1 at hid1 hb1 hk1 ⊢
          simp only [D.cells, D.burn_q, D.burn_sy, hc] at hid1
          simp only [go_sem, ↓reduceIte, Nat.reduceLT, Nat.reduceEqDiff, Nat.reduceAdd, Nat.reduceLeDiff, Nat.reduceMul, Nat.reduceSub, Int.natCast_zero, Int.ofNat_zero, Int.natCast_one, Int.cast_ofNat_Int, bne_self_eq_false, beq_self_eq_true, Int.reduceBEq, Int.reduceBNe, Bool.not_true, Bool.not_false, hid1]
          refine hb1.take (m := n) (x := .i64) n.toNat ?_ (by omega) (by omega) u5 fun z hz => ?_
          · simp only [go_sem, ↓reduceIte, Nat.reduceLT, Nat.reduceEqDiff, Nat.reduceAdd, Nat.reduceLeDiff, Nat.reduceMul, Nat.reduceSub]
          simp only [go_sem, ↓reduceIte, Nat.reduceLT, Nat.reduceEqDiff, Nat.reduceAdd, Nat.reduceLeDiff, Nat.reduceMul, Nat.reduceSub, Int.natCast_zero, Int.ofNat_zero, Int.natCast_one, Int.cast_ofNat_Int, bne_self_eq_false, beq_self_eq_true, Int.reduceBEq, Int.reduceBNe, Bool.not_true, Bool.not_false]
          rw [hz.src u5]
          simp only [go_sem, ↓reduceIte, Nat.reduceLT, Nat.reduceEqDiff, Nat.reduceAdd, Nat.reduceLeDiff, Nat.reduceMul, Nat.reduceSub, Int.natCast_zero, Int.ofNat_zero, Int.natCast_one, Int.cast_ofNat_Int, bne_self_eq_false, beq_self_eq_true, Int.reduceBEq, Int.reduceBNe, Bool.not_true, Bool.not_false]
          refine ⟨by rw [List.length_take]; omega, .acc fun z2 g2 ha2 hk2 => ?_⟩
          have hid2 := hk2 _ _ _ hid1
          have hs2 := ha2.1
          obtain ⟨p2, rfl⟩ := ha2.row
          simp only [go_sem, ↓reduceIte, Nat.reduceLT, Nat.reduceEqDiff, Nat.reduceAdd, Nat.reduceLeDiff, Nat.reduceMul, Nat.reduceSub, Int.natCast_zero, Int.ofNat_zero, Int.natCast_one, Int.cast_ofNat_Int, bne_self_eq_false, beq_self_eq_true, Int.reduceBEq, Int.reduceBNe, Bool.not_true, Bool.not_false, hid2]
          refine .same (.refl _) ?_
          rw [show d.cut n = ({ d.burn with b := d.b.take n.toNat, sy := min d.sy n.toNat }, 0) by unfold D.cut; rw [if_neg (by simp [ho]), if_neg (by omega), if_neg (by simp [hc])]]
          refine ⟨rfl, ⟨_, ?_, .sl _ p2⟩, (hk1.trans (hs2.keep id)).trans (Keep.upd id _)⟩
          have : (if n < (d.sy : Int) then n else (d.sy : Int)) = ((min d.sy n.toNat : Nat) : Int) := by split <;> omega
          rw [upd_same, this]
          simp only [D.cells, D.burn_q, hc]

set_option maxHeartbeats 1000000 in
theorem rboot_ok (d : D) (hd : d.ok) (id : Nat) (h : Heap) (keep torn : Int) (hdk : RefAt h id d) :
    FnOK Try.prog 38 [.ptr id 0, .v (.int .i64 keep), .v (.int .i64 torn)] h fun _ h' => RefAt h' id (d.boot keep torn) ∧ Keep id h h' := by
  obtain ⟨y, hid0, hb⟩ := hdk
  have hid := hid0
  simp only [D.cells] at hid
  obtain ⟨d1, d2, d3, d4⟩ := hd
  obtain ⟨l1, l2⟩ := D.left_le ⟨d1, d2, d3, d4⟩ keep
  have w1 : IntKind.i64.wrap ((d.b.length : Int) - d.sy) = ((d.b.length - d.sy : Nat) : Int) := by rw [IntWalk.i64_in _ (by omega)]; omega
  have m1 : (if keep < 0 then (0 : Int) else keep) = (keep.toNat : Int) := by split <;> omega
  have m2 : (if (((d.b.length - d.sy : Nat) : Int)) < (keep.toNat : Int) then (((d.b.length - d.sy : Nat) : Int)) else (keep.toNat : Int)) = ((min keep.toNat (d.b.length - d.sy) : Nat) : Int) := by split <;> omega
  have w2 : IntKind.i64.wrap ((d.sy : Int) + ((min keep.toNat (d.b.length - d.sy) : Nat) : Int)) = (d.left keep : Int) := by unfold D.left at *; rw [IntWalk.i64_in _ (by omega)]; omega
  have hbad : d.bad keep torn ≤ d.left keep := by unfold D.bad; omega
  have m3 : (if torn < 0 then (0 : Int) else torn) = (torn.toNat : Int) := by split <;> omega
  have m4 : (if (d.left keep : Int) < (torn.toNat : Int) then (d.left keep : Int) else (torn.toNat : Int)) = ((min torn.toNat (d.left keep) : Nat) : Int) := by split <;> omega
  have w3 : IntKind.i64.wrap ((d.left keep : Int) - ((min torn.toNat (d.left keep) : Nat) : Int)) = ((d.left keep - min torn.toNat (d.left keep) : Nat) : Int) := by rw [IntWalk.i64_in _ (by omega)]; omega
  have m5 : (if (d.sy : Int) < ((d.left keep - min torn.toNat (d.left keep) : Nat) : Int) then ((d.left keep - min torn.toNat (d.left keep) : Nat) : Int) else (d.sy : Int)) = ((d.left keep - d.bad keep torn : Nat) : Int) := by unfold D.bad; split <;> omega
  refine FnOK.body hU hm Try.func38 rfl (by kernel_rfl) 77 rfl [] rfl (Nat.le_of_ble_eq_true rfl) (fun hwf => ?_)
  simp only [go_sem, ↓reduceIte, Nat.reduceLT, Nat.reduceEqDiff, Nat.reduceAdd, Nat.reduceLeDiff, Nat.reduceMul, Nat.reduceSub, Int.natCast_zero, Int.ofNat_zero, Int.natCast_one, Int.cast_ofNat_Int, bne_self_eq_false, beq_self_eq_true, Int.reduceBEq, Int.reduceBNe, Bool.not_true, Bool.not_false, hid, hb.len, w1, m1, m2, w2]
  refine ⟨.of (by kernel_rfl), ?_⟩
  refine hb.take (m := d.left keep) (x := .i64) (d.left keep) ?_ rfl l2 u5 fun z hz => ?_
  · simp only [go_sem, ↓reduceIte, Nat.reduceLT, Nat.reduceEqDiff, Nat.reduceAdd, Nat.reduceLeDiff, Nat.reduceMul, Nat.reduceSub]
  simp only [go_sem, ↓reduceIte, Nat.reduceLT, Nat.reduceEqDiff, Nat.reduceAdd, Nat.reduceLeDiff, Nat.reduceMul, Nat.reduceSub, Int.natCast_zero, Int.ofNat_zero, Int.natCast_one, Int.cast_ofNat_Int, bne_self_eq_false, beq_self_eq_true, Int.reduceBEq, Int.reduceBNe, Bool.not_true, Bool.not_false]
  rw [hz.src u5]
  simp only [go_sem, ↓reduceIte, Nat.reduceLT, Nat.reduceEqDiff, Nat.reduceAdd, Nat.reduceLeDiff, Nat.reduceMul, Nat.reduceSub, Int.natCast_zero, Int.ofNat_zero, Int.natCast_one, Int.cast_ofNat_Int, bne_self_eq_false, beq_self_eq_true, Int.reduceBEq, Int.reduceBNe, Bool.not_true, Bool.not_false]
  have hlen : (d.b.take (d.left keep)).length = d.left keep := by rw [List.length_take]; omega
  refine ⟨by omega, fun hn => ?_, fun hn => ?_⟩
  · have hl0 : d.b.take (d.left keep) = [] := by simpa using hn
    have hl00 : d.left keep = 0 := by rw [hl0] at hlen; simpa using hlen.symm
    have hb0 : d.bad keep torn = 0 := by omega
    have hf : d.boot keep torn = ⟨d.q, [], 0, 0, false⟩ := by
      unfold D.boot
      rw [hl0, hl00]
      simp [flipTail]
    simp only [go_sem, ↓reduceIte, Nat.reduceLT, Nat.reduceEqDiff, Nat.reduceAdd, Nat.reduceLeDiff, Nat.reduceMul, Nat.reduceSub, Int.natCast_zero, Int.ofNat_zero, Int.natCast_one, Int.cast_ofNat_Int, bne_self_eq_false, beq_self_eq_true, Int.reduceBEq, Int.reduceBNe, Bool.not_true, Bool.not_false, hid, m3, m4, w3, m5]
    refine .intro (fun m ρ h' => h' = upd h id (some (.obj [.v (.int .i64 d.q), .sl [] .full, .v (.int .i64 d.sy), .v (.int .i64 d.f), .v (.bool d.off)] 56)) ∧ lk ρ 0 = some (.ptr id 0) ∧ lk ρ 6 = some (.v (.int .i64 0)) ∧ lk ρ 7 = some (.v (.int .i64 0))) 0 ?_ ?_
    · refine ⟨rfl, ?_, ?_, ?_⟩ <;> simp only [go_sem, ↓reduceIte, Nat.reduceLT, Nat.reduceEqDiff, Nat.reduceAdd, Nat.reduceLeDiff, Nat.reduceMul, Nat.reduceSub]
      · rw [hl00]; rfl
      · rw [hl00, hb0]; rfl
    · rintro m ρ h' ⟨rfl, r0, r6, r7⟩
      simp only [go_sem, ↓reduceIte, Nat.reduceLT, Nat.reduceEqDiff, Nat.reduceAdd, Nat.reduceLeDiff, Nat.reduceMul, Nat.reduceSub, Int.natCast_zero, Int.ofNat_zero, Int.natCast_one, Int.cast_ofNat_Int, bne_self_eq_false, beq_self_eq_true, Int.reduceBEq, Int.reduceBNe, Bool.not_true, Bool.not_false, r0, r6, r7]
      refine .no (by decide) ?_
      simp only [go_sem, ↓reduceIte, Nat.reduceLT, Nat.reduceEqDiff, Nat.reduceAdd, Nat.reduceLeDiff, Nat.reduceMul, Nat.reduceSub, Int.natCast_zero, Int.ofNat_zero, Int.natCast_one, Int.cast_ofNat_Int, bne_self_eq_false, beq_self_eq_true, Int.reduceBEq, Int.reduceBNe, Bool.not_true, Bool.not_false, r0, r6, r7]
      refine .same (.refl _) ⟨⟨.sl [] .full, ?_, ?_⟩, Keep.upd id _⟩
      · rw [upd_same, hf]; rfl
      · rw [hf]; exact .nil _
  · refine .oa u5 ?_ ?_ (by rw [List.nil_append]; exact noAgg_bytes _) fun id2 m hid2 => ?_
    · simp only [go_sem, ↓reduceIte, Nat.reduceLT, Nat.reduceEqDiff, Nat.reduceAdd, Nat.reduceLeDiff, Nat.reduceMul, Nat.reduceSub]
    · simp only [go_sem, ↓reduceIte, Nat.reduceLT, Nat.reduceEqDiff, Nat.reduceAdd, Nat.reduceLeDiff, Nat.reduceMul, Nat.reduceSub]
    have hne : ¬ id = id2 := fun e => by subst e; rw [hid] at hid2; cases hid2
    have hne' : ¬ id2 = id := fun e => hne e.symm
    simp only [go_sem, ↓reduceIte, Nat.reduceLT, Nat.reduceEqDiff, Nat.reduceAdd, Nat.reduceLeDiff, Nat.reduceMul, Nat.reduceSub, Int.natCast_zero, Int.ofNat_zero, Int.natCast_one, Int.cast_ofNat_Int, bne_self_eq_false, beq_self_eq_true, Int.reduceBEq, Int.reduceBNe, Bool.not_true, Bool.not_false, hid, hne, m3, m4, w3, m5, hlen]
    generalize hL : d.b.take (d.left keep) = L at *
    generalize hs : d.left keep - d.bad keep torn = s at *
    refine .intro (fun k ρ h' => ∃ (i : Nat) (cs : List AV), k = d.left keep - i ∧ s ≤ i ∧ i ≤ d.left keep ∧ cs.length = d.left keep + m ∧ (∀ j (hj : j < L.length), cs[j]? = some (byteA (if s ≤ j ∧ j < i then ~~~ L[j] else L[j]))) ∧
      h' = upd (upd h id2 (some (.obj cs 5))) id (some (.obj [.v (.int .i64 d.q), .oa id2 0 (d.left keep), .v (.int .i64 d.sy), .v (.int .i64 d.f), .v (.bool d.off)] 56)) ∧ lk ρ 0 = some (.ptr id 0) ∧ lk ρ 6 = some (.v (.int .i64 (d.left keep : Nat))) ∧ lk ρ 7 = some (.v (.int .i64 (i : Nat)))) (d.left keep - s) ?_ ?_
    · refine ⟨s, _, rfl, Nat.le_refl _, by omega, ?_, fun j hj => ?_, rfl, ?_, ?_, ?_⟩
      · simp [hlen]
      · rw [List.getElem?_append_left (by simpa using hj), List.getElem?_map, List.getElem?_eq_getElem hj, if_neg (by omega)]; rfl
      all_goals simp only [go_sem, ↓reduceIte, Nat.reduceLT, Nat.reduceEqDiff, Nat.reduceAdd, Nat.reduceLeDiff, Nat.reduceMul, Nat.reduceSub]
    · rintro k ρ h' ⟨i, cs, rfl, hi1, hi2, hcl, hcs, rfl, r0, r6, r7⟩
      simp only [go_sem, ↓reduceIte, Nat.reduceLT, Nat.reduceEqDiff, Nat.reduceAdd, Nat.reduceLeDiff, Nat.reduceMul, Nat.reduceSub, r0, r6, r7]
      refine .intro (fun e => ?_) (fun e => ?_)
      · have hlt : i < d.left keep := by simpa using e
        have c1 : ((0 : Int) ≤ (i : Int)) = True := eq_true (by omega)
        have c2 : ((i : Int) < ((d.left keep : Nat) : Int)) = True := eq_true (by omega)
        have c3 := hcs i (by omega)
        rw [if_neg (by omega)] at c3
        have c4 : (i + 1 ≤ cs.length) = True := eq_true (by omega)
        have w5 : IntKind.i64.wrap ((i : Int) + 1) = ((i + 1 : Nat) : Int) := by rw [IntWalk.i64_in _ (by omega)]; omega
        simp only [go_sem, ↓reduceIte, Nat.reduceLT, Nat.reduceEqDiff, Nat.reduceAdd, Nat.reduceLeDiff, Nat.reduceMul, Nat.reduceSub, r0, r6, r7, hne, hne', c1, c2, c3, c4, Nat.mul_one, Int.toNat_natCast, ↓unA_xor8]
        refine ⟨.of (by kernel_rfl), ?_⟩
        simp only [go_sem, ↓reduceIte, Nat.reduceLT, Nat.reduceEqDiff, Nat.reduceAdd, Nat.reduceLeDiff, Nat.reduceMul, Nat.reduceSub, r0, r6, r7, w5]
        refine ⟨d.left keep - (i + 1), by omega, i + 1, _, rfl, by omega, hlt, ?_, ?_, upd_swap hne' .., ?_, ?_, ?_⟩
        · simp; omega
        · intro j hj
          show _ = some (byteA (if s ≤ j ∧ j < i + 1 then ~~~ L[j] else L[j]))
          have hjc : j < cs.length := by omega
          have hold := hcs j hj
          by_cases hji : j = i
          · subst hji
            rw [if_pos ⟨hi1, by omega⟩]
            rw [List.append_assoc, List.getElem?_append_right (by simp; omega)]
            simp [show j ≤ cs.length by omega, byteA]
          · have hcond : (s ≤ j ∧ j < i + 1) ↔ (s ≤ j ∧ j < i) := by omega
            simp only [hcond]
            rw [← show cs[j]? = some (byteA (if s ≤ j ∧ j < i then ~~~ L[j] else L[j])) from hold]
            rcases Nat.lt_or_ge j i with hlt2 | hge2
            · rw [List.append_assoc, List.getElem?_append_left (by simp; omega), List.getElem?_take, if_pos (by omega)]
            · rw [List.getElem?_append_right (by simp; omega), List.getElem?_drop]
              congr 1
              simp; omega
        all_goals simp only [go_sem, ↓reduceIte, Nat.reduceLT, Nat.reduceEqDiff, Nat.reduceAdd, Nat.reduceLeDiff, Nat.reduceMul, Nat.reduceSub, r0, r6, r7, w5]
      · have hge : i = d.left keep := by
          have : ¬ (i < d.left keep) := by simpa using e
          omega
        subst hge
        simp only [go_sem, ↓reduceIte, Nat.reduceLT, Nat.reduceEqDiff, Nat.reduceAdd, Nat.reduceLeDiff, Nat.reduceMul, Nat.reduceSub, r0, r6, r7, hne, hne']
        refine .same (.refl _) ⟨⟨.oa id2 0 (d.left keep), ?_, ?_⟩, ?_⟩
        · rw [upd_same]
          rfl
        · have hbl : (d.boot keep torn).b = flipTail L s := by
            unfold D.boot
            rw [hL, hs]
          have hll : (flipTail L s).length = d.left keep := by rw [flipTail_length, hlen]
          rw [hbl, ← hll]
          refine .oa (cs := cs) ?_ (by omega) ?_
          · rw [upd_other _ _ hne', upd_same]
          · apply List.ext_getElem?
            intro j
            rw [List.drop_zero, List.getElem?_take, List.getElem?_map]
            by_cases hj : j < d.left keep
            · have hj2 : j < L.length := by omega
              have := hcs j hj2
              rw [if_pos (by omega), show cs[j]? = _ from this]
              unfold flipTail
              by_cases hsj : s ≤ j
              · rw [if_pos ⟨hsj, hj⟩, List.getElem?_append_right (by simp; omega)]
                have : min s L.length = s := by omega
                simp [this, hj2, show s + (j - s) = j by omega, byteA]
              · rw [if_neg (by omega), List.getElem?_append_left (by simp; omega), List.getElem?_take, if_pos (by omega), List.getElem?_eq_getElem hj2]; rfl
            · rw [if_neg (by omega), List.getElem?_eq_none (by omega)]; rfl
        · intro j k hj hk
          have h3 : ¬ j = id2 := fun e => by subst e; rw [hid2] at hk; cases hk
          rw [upd_other _ _ hj, upd_other _ _ h3]; exact hk
end Go.Proofs.Ytidpcjblciompaa
